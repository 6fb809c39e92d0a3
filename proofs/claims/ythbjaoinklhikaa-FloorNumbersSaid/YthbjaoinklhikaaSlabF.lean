import Derived.Test.YthbjaoinklhikaaSlabE
namespace Go.Proofs.Ythbjaoinklhikaa
set_option linter.unusedVariables false
set_option linter.unusedSimpArgs false
open Go.RowKit

theorem SlabS.known_at {s : SlabS} {id : Int} (h0 : 0 ≤ id) (h : s.known id) : ∃ (j : Nat) (r : Rec), id % 64 = j ∧ s.recs[j]? = some r ∧ 1 ≤ id / 64 ∧ id / 64 ≤ r.g ∧ s.has j ∧ s.recs.getD (id % 64).toNat Rec.zero = r := by
  have h1 : 0 ≤ id % 64 := by omega
  have hh : s.has (id % 64) := ⟨h1, h.1⟩
  obtain ⟨j, hj⟩ := SlabS.has_nat hh
  rw [hj] at hh
  obtain ⟨r, hr, hg⟩ := SlabS.has_at hh
  rw [← hj] at hg
  have h3 := h.2.2
  rw [hg] at h3
  exact ⟨j, r, hj, hr, h.2.1, h3, hh, hg⟩

theorem slabSlot_does (sb rb : Nat) (s : SlabS) (id : Int) (hn : s.recs.length ≤ 64) (h0 : 0 ≤ id) (h1 : id < 18446744073709551616) :
    Does Try.prog 66 #[.pointer (some ⟨sb, 0, none⟩), .int .u64 id] (slabH sb rb s) fun e h' =>
      e = .returned (.tuple #[.int .i64 (s.slot id), .int .i64 (s.serr id)]) ∧ h' = slabH sb rb s := by
  intro w hw
  have HT := Lib.hid (Turned.refl hw)
  clear hw
  have hm0 : 0 ≤ id % 64 := by omega
  obtain ⟨j, hj⟩ := Int.eq_ofNat_of_zero_le hm0
  by_cases hh : s.has (j : Int)
  · obtain ⟨r, hr, hg⟩ := SlabS.has_at hh
    have HV := Lib.hid (atV_has rb hh)
    have HR := Lib.hid hr
    have hkn : s.known id ↔ 1 ≤ id / 64 ∧ id / 64 ≤ r.g := by
      unfold SlabS.known; rw [hj, hg]; exact ⟨fun x => x.2, fun x => ⟨hh.2, x⟩⟩
    by_cases hk : 1 ≤ id / 64 ∧ id / 64 ≤ r.g
    · have HP := Lib.hid (show s.slot id = j ∧ s.serr id = 0 from ⟨(if_pos (hkn.2 hk)).trans hj, if_pos (hkn.2 hk)⟩)
      obtain ⟨k1, k2⟩ := hk
      clear hh hr hg hkn
      go_enter Try.func66, Try.ntmps66
      go_wp2_with (
        go_at_call 59
        refine ((slabAt_does sb rb s.recs.length s.count _ hn).at HT.out 0 rfl).mono ?_
        rintro e w1 ⟨h', ⟨he, rfl⟩, Ta⟩
        rw [HV.out] at he
        subst he
        obtain ⟨o, ⟨D, rfl, hd, hD⟩, T1⟩ := (Ta _ rfl).openAt 1 rfl
        have d1 : w1.cell? ⟨rb, j * 6 + 4, none⟩ = _ := (T1.cell 1 (show _ = some (pt rb _ _) from rfl) _).trans (hD j r HR.out).2.1
        have HT1 := Lib.hid (T1.sayAt 1 rfl (recsP s.recs) (fun o ho => by cases ho; exact ⟨D, rfl, hd, hD⟩))
        clear T1 hd hD Ta)
      all_goals go_ret2
      all_goals exact ⟨_, ⟨by rw [HP.out.1, HP.out.2, ← hj]; rfl, rfl⟩, HT1.out⟩
    · have HP := Lib.hid (show s.slot id = 0 ∧ s.serr id = 1 from ⟨if_neg (fun x => hk (hkn.1 x)), if_neg (fun x => hk (hkn.1 x))⟩)
      clear hh hr hg hkn
      by_cases k1 : 1 ≤ id / 64
      · have k2 : ¬ id / 64 ≤ r.g := fun x => hk ⟨k1, x⟩
        clear hk
        go_enter Try.func66, Try.ntmps66
        go_wp2_with (
          go_at_call 59
          refine ((slabAt_does sb rb s.recs.length s.count _ hn).at HT.out 0 rfl).mono ?_
          rintro e w1 ⟨h', ⟨he, rfl⟩, Ta⟩
          rw [HV.out] at he
          subst he
          obtain ⟨o, ⟨D, rfl, hd, hD⟩, T1⟩ := (Ta _ rfl).openAt 1 rfl
          have d1 : w1.cell? ⟨rb, j * 6 + 4, none⟩ = _ := (T1.cell 1 (show _ = some (pt rb _ _) from rfl) _).trans (hD j r HR.out).2.1
          have HT1 := Lib.hid (T1.sayAt 1 rfl (recsP s.recs) (fun o ho => by cases ho; exact ⟨D, rfl, hd, hD⟩))
          clear T1 hd hD Ta)
        all_goals go_ret2
        all_goals exact ⟨_, ⟨by rw [HP.out.1, HP.out.2]; rfl, rfl⟩, HT1.out⟩
      · clear hk
        go_enter Try.func66, Try.ntmps66
        go_wp2_with (
          go_at_call 59
          refine ((slabAt_does sb rb s.recs.length s.count _ hn).at HT.out 0 rfl).mono ?_
          rintro e w1 ⟨h', ⟨he, rfl⟩, Ta⟩
          rw [HV.out] at he
          subst he
          obtain ⟨o, ⟨D, rfl, hd, hD⟩, T1⟩ := (Ta _ rfl).openAt 1 rfl
          have d1 : w1.cell? ⟨rb, j * 6 + 4, none⟩ = _ := (T1.cell 1 (show _ = some (pt rb _ _) from rfl) _).trans (hD j r HR.out).2.1
          have HT1 := Lib.hid (T1.sayAt 1 rfl (recsP s.recs) (fun o ho => by cases ho; exact ⟨D, rfl, hd, hD⟩))
          clear T1 hd hD Ta)
        all_goals go_ret2
        all_goals exact ⟨_, ⟨by rw [HP.out.1, HP.out.2]; rfl, rfl⟩, HT1.out⟩
  · have HV := Lib.hid (atV_not rb hh)
    have HP := Lib.hid (show s.slot id = 0 ∧ s.serr id = 1 from ⟨if_neg (fun x => hh (by rw [← hj]; exact ⟨hm0, x.1⟩)), if_neg (fun x => hh (by rw [← hj]; exact ⟨hm0, x.1⟩))⟩)
    clear hh
    go_enter Try.func66, Try.ntmps66
    go_wp2_with (
      go_at_call 59
      refine ((slabAt_does sb rb s.recs.length s.count _ hn).at HT.out 0 rfl).mono ?_
      rintro e w1 ⟨h', ⟨he, rfl⟩, Ta⟩
      rw [HV.out] at he
      subst he
      have HT1 := Lib.hid (Ta _ rfl)
      clear Ta)
    all_goals go_ret2
    all_goals exact ⟨_, ⟨by rw [HP.out.1, HP.out.2]; rfl, rfl⟩, HT1.out⟩


theorem slabDrop1_does (n : Int) (h0 : 0 ≤ n) (h1 : n ≤ 64) :
    Does Try.prog 65 #[.int .i64 n] [] fun e h' => e = .returned (.tuple #[.int .i64 (n - 1), .bool (decide (0 < n))]) ∧ h' = [] := by
  intro w hw
  have HT := Lib.hid (Turned.refl hw)
  clear hw
  go_enter Try.func65, Try.ntmps65
  go_wp2
  all_goals go_ret2
  all_goals exact ⟨_, ⟨rfl, rfl⟩, HT.out⟩

theorem slabDrop_does (sb rb : Nat) (s : SlabS) (h0 : 0 ≤ s.count) (h1 : s.count ≤ 64) :
    Does Try.prog 22 #[.pointer (some ⟨sb, 0, none⟩)] (slabH sb rb s) fun e h' => e = .returned (.int .i64 s.drop.2) ∧ h' = slabH sb rb s.drop.1 := by
  intro w hw
  obtain ⟨o, ⟨C, rfl, hs, hc0, hc⟩, T0⟩ := (Turned.refl hw).openAt 0 rfl
  have HT := Lib.hid T0
  have HC := Lib.hid (And.intro hs (And.intro hc0 hc))
  have HD := Lib.hid (slabDrop1_does s.count h0 h1)
  clear hw hs hc0 hc T0
  by_cases hk : 0 < s.count
  all_goals
    go_enter Try.func22, Try.ntmps22
    go_wp2_with (
      go_at_call 64
      refine ((turnI_does sb 1 130 C s.count (s.count - 1) (decide (0 < s.count)) 65 #[] [] HC.out.2.2 (enters_of Try.func65 (by kernel_rfl) rfl) HD.out).at HT.out 0 rfl).mono ?_
      rintro e w1 ⟨h', ⟨rfl, C1, rfl, hr1⟩, Ta⟩
      simp only [hk] at hr1 ⊢
      have HR1 := Lib.hid hr1
      have HT1 := Lib.hid (Ta _ rfl)
      clear Ta hr1)
    all_goals go_ret
  · have HP := show s.drop = _ from if_pos hk
    exact ⟨_, ⟨by rw [HP]; rfl, by rw [HP]; rfl⟩, HT1.out.sayAt 0 rfl (slabP rb s.recs.length (s.count - 1)) (fun o ho => by cases ho; exact slabP_recell HC.out.1 HC.out.2.1 (by simpa using HR1.out))⟩
  · have HP := show s.drop = _ from if_neg (by omega)
    exact ⟨_, ⟨by rw [HP]; rfl, by rw [HP]; rfl⟩, HT1.out.sayAt 0 rfl (slabP rb s.recs.length s.count) (fun o ho => by cases ho; exact slabP_recell HC.out.1 HC.out.2.1 (by simpa using HR1.out))⟩

theorem swapW_at {s : SlabS} {C C' : Array Value} {j : Nat} {r : Rec} {old n : Int} (hs : C.size = s.recs.length * 6) (h : ∀ i r, s.recs[i]? = some r → recAt C i r) (hr : s.recs[j]? = some r)
    (hc : Recell C (j * 6) (.int .u64 (if r.w = old then n else r.w)) C') : recsP (if r.w = old then s.recs.set j { r with w := n } else s.recs) (.cells C' 123 (0, 0)) := by
  by_cases e : r.w = old
  · rw [if_pos e] at hc ⊢; exact ⟨C', rfl, recs_recell hs h hr hc⟩
  · rw [if_neg e] at hc ⊢; exact ⟨C', rfl, recs_same hs h hr hc⟩

theorem slabTry_does (sb rb : Nat) (s : SlabS) (k old ev : Int) (hn : s.recs.length ≤ 64) (h0 : 0 ≤ old) (h1 : old < 18446744073709551616) :
    Does Try.prog 20 #[.pointer (some ⟨sb, 0, none⟩), .int .i64 k, .int .u64 old, .int .i64 ev] (slabH sb rb s) fun e h' =>
      e = .returned (.tuple #[.int .u64 (s.try k old ev).2.1, .int .i64 (s.try k old ev).2.2]) ∧ h' = slabH sb rb (s.try k old ev).1 := by
  intro w hw
  have HT := Lib.hid (Turned.refl hw)
  clear hw
  by_cases hh : s.has k
  · obtain ⟨j, rfl⟩ := SlabS.has_nat hh
    obtain ⟨r, hr, hg⟩ := SlabS.has_at hh
    have HV := Lib.hid (atV_has rb hh)
    have HR := Lib.hid hr
    have HW := Lib.hid (show s.word j = r.w ∧ s.werr j = 0 from ⟨by unfold SlabS.word; rw [if_pos hh, hg], if_pos hh⟩)
    obtain ⟨t, ht⟩ : ∃ t, nextW old ev (decide (0 < r.p)) = t := ⟨_, rfl⟩
    obtain ⟨n1, e1⟩ := t
    have HN := Lib.hid ht
    have HP := Lib.hid (show s.try j old ev = if e1 ≠ 0 then (s, r.w, e1) else if r.w = old then ({ s with recs := s.recs.set j { r with w := n1 } }, n1, 0) else (s, r.w, 10) from by
      unfold SlabS.try; rw [if_pos hh]; dsimp only; rw [hg, ht]; rfl)
    clear hh hr hg ht
    by_cases he : e1 = 0
    · subst he
      by_cases ho : r.w = old
      all_goals
        go_enter Try.func20, Try.ntmps20
        go_wp2_with (first
          | (go_at_call 19
             refine ((slabWord_does sb rb s j hn).use HT.out (List.Perm.refl _)).mono ?_
             rw [HW.out.1, HW.out.2]
             rintro e w1 ⟨h', ⟨rfl, rfl⟩, Ta⟩
             have HT1 := Lib.hid Ta
             clear Ta)
          | (go_at_call 59
             refine ((slabAt_does sb rb s.recs.length s.count j hn).at HT1.out 0 rfl).mono ?_
             rintro e w2 ⟨h', ⟨he, rfl⟩, Ta⟩
             rw [HV.out] at he
             subst he
             obtain ⟨o, ⟨D, rfl, hd, hD⟩, T1⟩ := (Ta _ rfl).openAt 1 rfl
             have d1 : w2.cell? ⟨rb, j * 6 + 5, none⟩ = _ := (T1.cell 1 (show _ = some (pt rb _ _) from rfl) _).trans (hD j r HR.out).2.2
             have HD := Lib.hid (And.intro hd hD)
             have HT2 := Lib.hid T1
             clear T1 hd hD Ta)
          | (go_at_call 61; refine (next_calls _ _ _ _ h0 h1).mono ?_; rw [HN.out]; rintro e w3 ⟨rfl, rfl⟩)
          | (go_at_call 62
             refine ((swapW_does rb (j * 6) _ D r.w old n1 (HD.out.2 j r HR.out).1).at HT2.out 1 rfl).mono ?_
             rintro e w4 ⟨h', ⟨rfl, C1, rfl, hr1⟩, Ta⟩
             have HR1 := Lib.hid (swapW_at HD.out.1 HD.out.2 HR.out hr1)
             have HT3 := Lib.hid (Ta _ rfl)
             clear Ta hr1))
        go_ret2
      · rw [if_pos ho] at HR1
        exact ⟨_, ⟨by rw [HP.out, if_neg (by simp), if_pos ho]; rfl, by rw [HP.out, if_neg (by simp), if_pos ho]; rfl⟩, (HT3.out.sayAt 1 rfl (recsP (s.recs.set j { r with w := n1 })) (fun o hx => by cases hx; exact HR1.out)).sayAt 0 rfl
          (slabP rb (s.recs.set j { r with w := n1 }).length s.count) (fun o hx => by rw [List.length_set]; exact hx)⟩
      · rw [if_neg ho] at HR1
        exact ⟨_, ⟨by rw [HP.out, if_neg (by simp), if_neg ho]; rfl, by rw [HP.out, if_neg (by simp), if_neg ho]; rfl⟩, HT3.out.sayAt 1 rfl (recsP s.recs) (fun o hx => by cases hx; exact HR1.out)⟩
    · skip
      go_enter Try.func20, Try.ntmps20
      go_wp2_with (first
        | (go_at_call 19
           refine ((slabWord_does sb rb s j hn).use HT.out (List.Perm.refl _)).mono ?_
           rw [HW.out.1, HW.out.2]
           rintro e w1 ⟨h', ⟨rfl, rfl⟩, Ta⟩
           have HT1 := Lib.hid Ta
           clear Ta)
        | (go_at_call 59
           refine ((slabAt_does sb rb s.recs.length s.count j hn).at HT1.out 0 rfl).mono ?_
           rintro e w2 ⟨h', ⟨he, rfl⟩, Ta⟩
           rw [HV.out] at he
           subst he
           obtain ⟨o, ⟨D, rfl, hd, hD⟩, T1⟩ := (Ta _ rfl).openAt 1 rfl
           have d1 : w2.cell? ⟨rb, j * 6 + 5, none⟩ = _ := (T1.cell 1 (show _ = some (pt rb _ _) from rfl) _).trans (hD j r HR.out).2.2
           have HD := Lib.hid (And.intro hd hD)
           have HT2 := Lib.hid T1
           clear T1 hd hD Ta)
        | (go_at_call 61; refine (next_calls _ _ _ _ h0 h1).mono ?_; rw [HN.out]; rintro e w3 ⟨rfl, rfl⟩)
        | (go_at_call 62
           refine ((swapW_does rb (j * 6) _ D r.w old n1 (HD.out.2 j r HR.out).1).at HT2.out 1 rfl).mono ?_
           rintro e w4 ⟨h', ⟨rfl, C1, rfl, hr1⟩, Ta⟩
           have HR1 := Lib.hid (swapW_at HD.out.1 HD.out.2 HR.out hr1)
           have HT3 := Lib.hid (Ta _ rfl)
           clear Ta hr1))
      go_ret2
      exact ⟨_, ⟨by rw [HP.out, if_pos he]; rfl, by rw [HP.out, if_pos he]; rfl⟩, HT2.out.sayAt 1 rfl (recsP s.recs) (fun o hx => by cases hx; exact ⟨D, rfl, HD.out⟩)⟩
  · have HW := Lib.hid (show s.word k = 0 ∧ s.werr k = 4 from ⟨if_neg hh, if_neg hh⟩)
    have HP := Lib.hid (show s.try k old ev = (s, 0, 4) from if_neg hh)
    clear hh
    go_enter Try.func20, Try.ntmps20
    go_wp2_with (
      go_at_call 19
      refine ((slabWord_does sb rb s k hn).use HT.out (List.Perm.refl _)).mono ?_
      rw [HW.out.1, HW.out.2]
      rintro e w1 ⟨h', ⟨rfl, rfl⟩, Ta⟩
      have HT1 := Lib.hid Ta
      clear Ta)
    go_ret2
    exact ⟨_, ⟨by rw [HP.out]; rfl, by rw [HP.out]; rfl⟩, HT1.out⟩
end Go.Proofs.Ythbjaoinklhikaa
