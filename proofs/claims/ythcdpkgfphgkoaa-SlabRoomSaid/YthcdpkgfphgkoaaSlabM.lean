import Derived.Test.YthcdpkgfphgkoaaSlabL
import Derived.Test.YthcdpkgfphgkoaaSlabQ
import Derived.Test.YthcdpkgfphgkoaaSlabAP
import Derived.Test.YthcdpkgfphgkoaaRow
namespace Go.Proofs.Ythcdpkgfphgkoaa
set_option linter.unusedVariables false
set_option linter.unusedSimpArgs false
open Go.RowKit

theorem freeS_ok {s : SlabS} (hs : SlabOk s) (k : Int) : SlabOk (freeS s k).1 ∧ (freeS s k).1.recs.length = s.recs.length := by
  unfold freeS
  have ht := try_ok hs k (s.word k) 9
  split
  · exact ⟨hs, rfl⟩
  split
  · exact ⟨(drop_ok ht.1).1, (drop_ok ht.1).2.trans ht.2⟩
  · exact ht
theorem try_word {s : SlabS} (hs : SlabOk s) (k old ev : Int) (h0 : 0 ≤ old) (h1 : old < 18446744073709551616) (hk : okW old = true) : 0 ≤ (s.try k old ev).2.1 ∧ (s.try k old ev).2.1 < 18446744073709551616 := by
  unfold SlabS.try
  have hr := hs.getD k.toNat
  split
  · simp only []
    split
    · exact ⟨hr.w0, hr.w1⟩
    · next h =>
      split
      · have := nextW_ok h0 h1 hk (Decidable.not_not.1 h); exact ⟨this.2.2.2.2.2.2.2.1, this.2.2.2.2.2.2.2.2.1⟩
      · exact ⟨hr.w0, hr.w1⟩
  · exact ⟨Int.le_refl _, by show (0 : Int) < _; decide⟩
set_option maxHeartbeats 1000000 in
theorem free_g {sb : Nat} {s : SlabS} {g : List Blk} (hg : isSlab sb s g) (hs : SlabOk s) (k : Int) :
    DoesG Try.prog 11 #[ptr sb, .int .i64 k] [g] fun e gs => e = .returned (.bool (freeS s k).2) ∧ ∃ g', isSlab sb (freeS s k).1 g' ∧ gs = [g'] := by
  have hw := word_ok hs k
  have hx := try_word hs k (s.word k) 9 hw.1 hw.2.1 hw.2.2
  have hto := try_ok hs k (s.word k) 9
  have hd0 := hto.1.c0
  have hd1 : (s.try k (s.word k) 9).1.count ≤ 64 := by have := hto.1.c1; have := hto.1.n1; omega
  by_cases h1 : s.werr k ≠ 0 ∨ stW (s.word k) = 0
  · have HF := Lib.hid (show freeS s k = (s, false) from if_pos h1)
    by_cases h2 : s.werr k = 0
    all_goals
      intro w hw
      have T0 := TG.refl hw
      have HT := Lib.hid T0
      clear hw T0
      go_enter Try.func11, Try.ntmps11
      go_wp2_with fail
      refine (DoesG.use (slabWord_g hg hs.n1 k) (HT.out) [0] rfl rfl).mono ?_
      rintro e w1 ⟨gs, ⟨rfl, g1, hg1, rfl⟩, Ta⟩
      simp only [putG, List.set_cons_zero, List.set_cons_succ, List.cons_append, List.nil_append, List.append_nil] at Ta
      have HT := Lib.hid Ta
      clear Ta
      go_wp2_with (go_at_call 18; refine (state_calls _ _ hw.1 hw.2.1).mono ?_; rintro e w' ⟨rfl, rfl⟩)
      all_goals first | (exfalso; simp_all; done) | go_ret
      all_goals exact ⟨_, ⟨by rw [HF.out]; rfl, g1, by rw [HF.out]; exact hg1, rfl⟩, HT.out⟩
  · obtain ⟨h2, h3⟩ : s.werr k = 0 ∧ stW (s.word k) ≠ 0 := by omega
    by_cases h4 : (s.try k (s.word k) 9).2.2 = 0 ∧ stW (s.try k (s.word k) 9).2.1 = 0
    · have HF := Lib.hid (show freeS s k = ((s.try k (s.word k) 9).1.drop.1, decide ((s.try k (s.word k) 9).1.drop.2 = 0)) from (if_neg h1).trans (if_pos h4))
      obtain ⟨h5, h6⟩ := h4
      obtain ⟨st, hst⟩ : ∃ st, stW (s.word k) = st := ⟨_, rfl⟩
      obtain ⟨dx, hdx⟩ : ∃ dx, (s.try k (s.word k) 9).1.drop.2 = dx := ⟨_, rfl⟩
      have HD := Lib.hid (show decide ((s.try k (s.word k) 9).1.drop.2 = 0) = (dx == 0) from by rw [hdx]; rfl)
      have HA := Lib.hid (And.intro h2 (And.intro hst (And.intro h5 (And.intro h6 hdx))))
      have b3 : (st == 0) = false := by rw [hst] at h3; simpa using h3
      clear h1 h2 h3 h5 h6 hst hdx
      intro w hw
      have T0 := TG.refl hw
      have HT := Lib.hid T0
      clear hw T0
      go_enter Try.func11, Try.ntmps11
      go_wp2_with fail
      refine (DoesG.use (slabWord_g hg hs.n1 k) (HT.out) [0] rfl rfl).mono ?_
      rintro e w1 ⟨gs, ⟨he, g1, hg1, rfl⟩, Ta⟩
      simp only [putG, List.set_cons_zero, List.set_cons_succ, List.cons_append, List.nil_append, List.append_nil] at Ta
      have HT := Lib.hid Ta
      clear Ta
      rw [HA.out.1] at he; subst he
      go_wp2_with (go_at_call 18; refine (state_calls _ _ hw.1 hw.2.1).mono ?_; rw [HA.out.2.1]; rintro e w' ⟨rfl, rfl⟩)
      go_wp2_with fail
      refine (DoesG.use (slabTry_g hg1 hs.n1 k (s.word k) 9 hw.1 hw.2.1) (HT.out) [0] rfl rfl).mono ?_
      rintro e w1 ⟨gs, ⟨he, g2, hg2, rfl⟩, Ta⟩
      simp only [putG, List.set_cons_zero, List.set_cons_succ, List.cons_append, List.nil_append, List.append_nil] at Ta
      have HT := Lib.hid Ta
      clear Ta
      rw [HA.out.2.2.1] at he; subst he
      go_wp2_with (go_at_call 18; refine (state_calls _ _ hx.1 hx.2).mono ?_; rw [HA.out.2.2.2.1]; rintro e w' ⟨rfl, rfl⟩)
      go_wp2_with fail
      refine (DoesG.use (slabDrop_g hg2 hd0 hd1) (HT.out) [0] rfl rfl).mono ?_
      rintro e w1 ⟨gs, ⟨he, g3, hg3, rfl⟩, Ta⟩
      simp only [putG, List.set_cons_zero, List.set_cons_succ, List.cons_append, List.nil_append, List.append_nil] at Ta
      have HT := Lib.hid Ta
      clear Ta
      rw [HA.out.2.2.2.2] at he; subst he
      go_wp2
      go_ret
      exact ⟨_, ⟨by rw [HF.out, HD.out]; rfl, g3, by rw [HF.out]; exact hg3, rfl⟩, HT.out⟩
    · have HF := Lib.hid (show freeS s k = ((s.try k (s.word k) 9).1, false) from (if_neg h1).trans (if_neg h4))
      obtain ⟨st, hst⟩ : ∃ st, stW (s.word k) = st := ⟨_, rfl⟩
      obtain ⟨tx, htx⟩ : ∃ tx, (s.try k (s.word k) 9).2.2 = tx := ⟨_, rfl⟩
      obtain ⟨sx, hsx⟩ : ∃ sx, stW (s.try k (s.word k) 9).2.1 = sx := ⟨_, rfl⟩
      rw [htx, hsx] at h4
      have HA := Lib.hid (And.intro h2 (And.intro hst (And.intro htx hsx)))
      have b3 : (st == 0) = false := by rw [hst] at h3; simpa using h3
      clear h1 h2 h3 hst htx hsx
      by_cases h5 : tx = 0
      · have b6 : (sx == 0) = false := by have : sx ≠ 0 := fun e => h4 ⟨h5, e⟩; simpa using this
        subst h5
        clear h4
        intro w hw
        have T0 := TG.refl hw
        have HT := Lib.hid T0
        clear hw T0
        go_enter Try.func11, Try.ntmps11
        go_wp2_with fail
        refine (DoesG.use (slabWord_g hg hs.n1 k) (HT.out) [0] rfl rfl).mono ?_
        rintro e w1 ⟨gs, ⟨he, g1, hg1, rfl⟩, Ta⟩
        simp only [putG, List.set_cons_zero, List.set_cons_succ, List.cons_append, List.nil_append, List.append_nil] at Ta
        have HT := Lib.hid Ta
        clear Ta
        rw [HA.out.1] at he; subst he
        go_wp2_with (go_at_call 18; refine (state_calls _ _ hw.1 hw.2.1).mono ?_; rw [HA.out.2.1]; rintro e w' ⟨rfl, rfl⟩)
        go_wp2_with fail
        refine (DoesG.use (slabTry_g hg1 hs.n1 k (s.word k) 9 hw.1 hw.2.1) (HT.out) [0] rfl rfl).mono ?_
        rintro e w1 ⟨gs, ⟨he, g2, hg2, rfl⟩, Ta⟩
        simp only [putG, List.set_cons_zero, List.set_cons_succ, List.cons_append, List.nil_append, List.append_nil] at Ta
        have HT := Lib.hid Ta
        clear Ta
        rw [HA.out.2.2.1] at he; subst he
        go_wp2_with (go_at_call 18; refine (state_calls _ _ hx.1 hx.2).mono ?_; rw [HA.out.2.2.2]; rintro e w' ⟨rfl, rfl⟩)
        go_ret
        exact ⟨_, ⟨by rw [HF.out]; rfl, g2, by rw [HF.out]; exact hg2, rfl⟩, HT.out⟩
      · have b5 : (tx == 0) = false := by simpa using h5
        clear h4 h5
        intro w hw
        have T0 := TG.refl hw
        have HT := Lib.hid T0
        clear hw T0
        go_enter Try.func11, Try.ntmps11
        go_wp2_with fail
        refine (DoesG.use (slabWord_g hg hs.n1 k) (HT.out) [0] rfl rfl).mono ?_
        rintro e w1 ⟨gs, ⟨he, g1, hg1, rfl⟩, Ta⟩
        simp only [putG, List.set_cons_zero, List.set_cons_succ, List.cons_append, List.nil_append, List.append_nil] at Ta
        have HT := Lib.hid Ta
        clear Ta
        rw [HA.out.1] at he; subst he
        go_wp2_with (go_at_call 18; refine (state_calls _ _ hw.1 hw.2.1).mono ?_; rw [HA.out.2.1]; rintro e w' ⟨rfl, rfl⟩)
        go_wp2_with fail
        refine (DoesG.use (slabTry_g hg1 hs.n1 k (s.word k) 9 hw.1 hw.2.1) (HT.out) [0] rfl rfl).mono ?_
        rintro e w1 ⟨gs, ⟨he, g2, hg2, rfl⟩, Ta⟩
        simp only [putG, List.set_cons_zero, List.set_cons_succ, List.cons_append, List.nil_append, List.append_nil] at Ta
        have HT := Lib.hid Ta
        clear Ta
        rw [HA.out.2.2.1] at he; subst he
        go_wp2
        go_ret
        exact ⟨_, ⟨by rw [HF.out]; rfl, g2, by rw [HF.out]; exact hg2, rfl⟩, HT.out⟩
end Go.Proofs.Ythcdpkgfphgkoaa
