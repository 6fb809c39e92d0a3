import Derived.Test.YthbjaoinklhikaaFloorU
import Derived.Test.YthbjaoinklhikaaSlabQ
namespace Go.Proofs.Ythbjaoinklhikaa
set_option linter.unusedVariables false
set_option linter.unusedSimpArgs false
open Go.RowKit Go.Shelf

/-! ## How often the slots were given, along a request -/
def gAt (s : SlabS) (i : Nat) : Int := (s.recs.getD i Rec.zero).g
def GsAre (s0 s : SlabS) (q : Req) : Prop :=
  (q.st ≠ 2 ∧ ∀ i, gAt s i = gAt s0 i) ∨ (q.st = 2 ∧ ∃ j : Nat, j < s0.recs.length ∧ q.id = (gAt s0 j + 1) * 64 + j ∧ ∀ i, gAt s i = if i = j then gAt s0 j + 1 else gAt s0 i)
theorem gAt_set {s : SlabS} {j : Nat} (hj : j < s.recs.length) (r : Rec) (c : Int) (i : Nat) : gAt { recs := s.recs.set j r, count := c } i = if i = j then r.g else gAt s i := by
  unfold gAt
  simp only [List.getD_eq_getElem?_getD, List.getElem?_set]
  by_cases e : j = i
  · subst e; simp [hj]
  · rw [if_neg e, if_neg (fun x => e x.symm)]
theorem gs_step {s0 s : SlabS} {q : Req} (h : GsAre s0 s q) (hl : s.recs.length = s0.recs.length) (hq : ReqOk s.recs.length q) (hst : q.st = 0 ∨ q.st = 1 ∨ q.st = 2) : GsAre s0 (stepR s q).1 (stepR s q).2 := by
  unfold stepR
  by_cases h0 : q.st = 0
  · rw [if_neg (by omega)]
    have hg : ∀ i, gAt s i = gAt s0 i := by
      rcases h with h | h
      · exact h.2
      · omega
    split
    · unfold lookR
      split
      · exact .inl ⟨by simp, hg⟩
      · exact .inl ⟨by simp [h0], hg⟩
    · split
      · unfold moreR
        split
        · exact .inl ⟨by simp [h0], hg⟩
        · exact .inl ⟨by simp [h0], hg⟩
      · unfold seekR
        simp only []
        split
        · obtain ⟨j, hj⟩ := Int.eq_ofNat_of_zero_le hq.slot0
          have hjl : j < s.recs.length := by have := hq.slot1; omega
          refine .inr ⟨rfl, j, by omega, ?_, fun i => ?_⟩
          · show (_ + 1) * 64 + q.slot = _
            rw [hj, ← hg j]; rfl
          · rw [hj]
            have := gAt_set hjl ⟨(nextW (s.recs.getD (j : Int).toNat Rec.zero).w 1 (decide (0 < q.p))).1, (s.recs.getD (j : Int).toNat Rec.zero).g + 1, q.p⟩ s.count i
            rw [Int.toNat_natCast] at this ⊢
            rw [this, ← hg j, ← hg i]
            rfl
        · exact .inl ⟨by simp [h0], hg⟩
  · rw [if_pos h0]; exact h
theorem try_gs (s : SlabS) (k old ev : Int) (i : Nat) : gAt (s.try k old ev).1 i = gAt s i := by
  unfold SlabS.try
  split
  · next hk =>
    simp only []
    split
    · rfl
    · split
      · have hj : k.toNat < s.recs.length := by unfold SlabS.has at hk; omega
        rw [gAt_set hj]
        split
        · next e => subst e; rfl
        · rfl
      · rfl
  · rfl
theorem drop_gs (s : SlabS) (i : Nat) : gAt s.drop.1 i = gAt s i := by
  unfold SlabS.drop; split <;> rfl
end Go.Proofs.Ythbjaoinklhikaa
