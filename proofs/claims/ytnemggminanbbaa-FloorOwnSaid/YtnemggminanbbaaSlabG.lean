import Derived.Test.YtnemggminanbbaaSlabF
namespace Go.Proofs.Ytnemggminanbbaa
set_option linter.unusedVariables false
set_option linter.unusedSimpArgs false
open Go.RowKit

theorem reqStep_does (qb sb rb : Nat) (s : SlabS) (q : Req) (hs : SlabOk s) (hq : ReqOk s.recs.length q) :
    Does Try.prog 22 #[.pointer (some ⟨qb, 0, none⟩)] (reqH qb sb q :: slabH sb rb s) fun e h' => e = .returned (.int .i64 (stepR s q).2.st) ∧ h' = reqH qb sb (stepR s q).2 :: slabH sb rb (stepR s q).1 := by
  intro w hw
  have T0 := Turned.refl hw
  have q0 := T0.cell 0 (show _ = some (pt qb _ _) from rfl)
  simp only [reqC] at q0
  have hlq := T0.lt 0 (show _ = some (pt qb _ _) from rfl)
  simp only [] at hlq
  have HT := Lib.hid T0
  clear hw T0
  have hn1 := hs.n1
  by_cases hst : q.st = 0
  · rcases hq.next with hn | ⟨hn, b0, b1⟩ | hn
    · have HK := Lib.hid (show stepR s q = (s, lookR s q) from by unfold stepR; rw [if_neg (by simp [hst]), if_pos hn])
      rw [hn, hst] at q0
      go_enter Try.func22, Try.ntmps22
      go_wp2_with (
        go_at_call 54
        refine ((look_does qb sb rb s q).use (HT.out.alloc0 _) (List.Perm.refl _)).mono ?_
        rintro e w1 ⟨h', ⟨rfl, rfl⟩, Ta⟩
        have q1 := Ta.cell 0 (show _ = some (pt qb _ _) from rfl) 6
        simp [reqC] at q1
        have HT1 := Lib.hid Ta
        clear Ta)
      go_ret
      exact ⟨_, ⟨by rw [HK.out]; rfl, by rw [HK.out]; rfl⟩, HT1.out⟩
    · have b2 : q.saw < 64 := by omega
      have HK := Lib.hid (show stepR s q = moreR s q from by unfold stepR; rw [if_neg (by simp [hst]), if_neg (by omega), if_pos hn])
      rw [hn, hst] at q0
      go_enter Try.func22, Try.ntmps22
      go_wp2_with (
        go_at_call 55
        refine ((more_does qb sb rb s q b0 b2).use (HT.out.alloc0 _) (List.Perm.refl _)).mono ?_
        rintro e w1 ⟨h', ⟨rfl, rfl⟩, Ta⟩
        have q1 := Ta.cell 0 (show _ = some (pt qb _ _) from rfl) 6
        simp [reqC] at q1
        have HT1 := Lib.hid Ta
        clear Ta)
      go_ret
      exact ⟨_, ⟨by rw [HK.out]; rfl, by rw [HK.out]; rfl⟩, HT1.out⟩
    · obtain ⟨k, hk⟩ := Int.eq_ofNat_of_zero_le hq.slot0
      have hkl : k < s.recs.length := by have := hq.slot1; omega
      have hr : s.recs[k]? = some (s.recs[k]) := List.getElem?_eq_getElem hkl
      have HX := Lib.hid (seek_does qb sb rb s q k _ hk hr (hs.recs _ (List.getElem_mem _)) hn1)
      have HK := Lib.hid (show stepR s q = seekR s q from by unfold stepR; rw [if_neg (by simp [hst]), if_neg (by omega), if_neg (by omega)])
      rw [hn, hst] at q0
      clear hr
      go_enter Try.func22, Try.ntmps22
      go_wp2_with (
        go_at_call 56
        refine (HX.out.use (HT.out.alloc0 _) (List.Perm.refl _)).mono ?_
        rintro e w1 ⟨h', ⟨rfl, rfl⟩, Ta⟩
        have q1 := Ta.cell 0 (show _ = some (pt qb _ _) from rfl) 6
        simp [reqC] at q1
        have HT1 := Lib.hid Ta
        clear Ta)
      go_ret
      exact ⟨_, ⟨by rw [HK.out]; rfl, by rw [HK.out]; rfl⟩, HT1.out⟩
  · have HK := Lib.hid (show stepR s q = (s, q) from if_pos hst)
    go_enter Try.func22, Try.ntmps22
    go_wp2
    go_ret
    exact ⟨_, ⟨by rw [HK.out]; rfl, by rw [HK.out]⟩, HT.out.alloc0 _⟩



def recC : Array Value := #[.int .u64 0, .int .i64 0, .int .i64 0, .int .i64 0, .int .u64 0, .int .u64 0]
theorem rec_info : (Try.prog.info? 165).map (fun i => (i.zero, i.size, i.bytes)) = some (some (.agg recC), 6, 48) := by kernel_rfl
theorem new_recs (k : Nat) : (madeCells recC (k * 6)).size = (newSlab k).recs.length * 6 ∧ ∀ i r, (newSlab k).recs[i]? = some r → recAt (madeCells recC (k * 6)) i r := by
  refine ⟨by simp [size_madeCells, newSlab], fun i r hr => ?_⟩
  have hi : i < k := by have := (List.getElem?_eq_some_iff.1 hr).1; simpa [newSlab] using this
  have hz : recC.size = 6 := rfl
  have hr' : r = Rec.zero := by simp [newSlab, hi] at hr; exact hr.symm
  subst hr'
  exact ⟨⟨made_get _ k 6 i 0 hz hi (by omega), 0, 0, 0, made_get _ k 6 i 1 hz hi (by omega), made_get _ k 6 i 2 hz hi (by omega), made_get _ k 6 i 3 hz hi (by omega)⟩, made_get _ k 6 i 4 hz hi (by omega), made_get _ k 6 i 5 hz hi (by omega)⟩
set_option maxRecDepth 100000 in
theorem slabNew_does (n : Int) :
    Does Try.prog 46 #[.int .i64 n] [] fun e h' =>
      if 1 ≤ n ∧ n ≤ 64 then ∃ sb rb, e = .returned (.tuple #[.pointer (some ⟨sb, 0, none⟩), .int .i64 0]) ∧ h' = slabH sb rb (newSlab n.toNat) else e = .returned (.tuple #[.pointer none, .int .i64 4]) ∧ h' = [] := by
  intro w hw
  have HT := Lib.hid (Turned.refl hw)
  clear hw
  by_cases h : 1 ≤ n ∧ n ≤ 64
  · simp only [if_pos h]
    obtain ⟨h1, h2⟩ := h
    obtain ⟨k, rfl⟩ := Int.eq_ofNat_of_zero_le (show 0 ≤ n by omega)
    have hk1 : k ≤ 64 := by omega
    have hmk : ∀ w, (Instr.makeSlice 137 (.int .i64 (k : Int)) (.int .i64 (k : Int))).run Try.prog w = .ok (.slice (some ⟨w.heap.size, 0, none⟩) k k) (w.alloc (.cells (madeCells recC (k * 6)) 165)) := run_make_n (P := Try.prog) 137 165 (.agg recC) 6 48 Try.underlying137 rec_info k (by omega) (by omega)
    have hd1 : decide ((k : Int) < 1) = false := by simp; omega
    have hd2 : decide (64 < (k : Int)) = false := by simp; omega
    go_enter Try.func46, Try.ntmps46
    go_wp2
    go_ret2
    exact ⟨_, ⟨w.heap.size + 1, w.heap.size, rfl, by simp [newSlab, slabH]⟩, (((HT.out.alloc rfl _ _).sayAt 0 rfl (recsP (newSlab k).recs) (fun o ho => by cases ho; exact ⟨_, rfl, new_recs k⟩)).alloc rfl _ _).sayAt 0 rfl (slabP w.heap.size (newSlab k).recs.length 0) (fun o ho => by
      cases ho; exact ⟨_, rfl, rfl, by simp [newSlab], rfl, 0, 0, 0, rfl, rfl, rfl⟩)⟩
  · simp only [if_neg h]
    by_cases h1 : n < 1
    · clear h
      go_enter Try.func46, Try.ntmps46
      go_wp2
      go_ret2
      exact ⟨_, ⟨rfl, rfl⟩, HT.out⟩
    · have h2 : 64 < n := by omega
      clear h
      go_enter Try.func46, Try.ntmps46
      go_wp2
      go_ret2
      exact ⟨_, ⟨rfl, rfl⟩, HT.out⟩
end Go.Proofs.Ytnemggminanbbaa
