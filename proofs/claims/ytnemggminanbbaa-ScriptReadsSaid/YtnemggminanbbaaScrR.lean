import Derived.Test.YtnemggminanbbaaScrQ
namespace Go.Proofs.Ytnemggminanbbaa
set_option linter.unusedVariables false
set_option linter.unusedSimpArgs false
open Go.RowKit

/-- the program's entry of six bytes is the document's -/
theorem readE_one (z0 z1 z2 z3 z4 z5 : Int) (h0 : 0 ≤ z0 ∧ z0 ≤ 255) (h1 : 0 ≤ z1 ∧ z1 ≤ 255) (h2 : 0 ≤ z2 ∧ z2 ≤ 255) (h3 : 0 ≤ z3 ∧ z3 ≤ 255) (h4 : 0 ≤ z4 ∧ z4 ≤ 255) (h5 : 0 ≤ z5 ∧ z5 ≤ 255) :
    readE [z0, z1, z2, z3, z4, z5] = oneE z0 z1 z2 z3 z4 z5 := by
  have hr : readE [z0, z1, z2, z3, z4, z5] = if (tryE [z0, z1, z2, z3, z4, z5]).ok = true ∧ (tryE [z0, z1, z2, z3, z4, z5]).bytes = [z0, z1, z2, z3, z4, z5] then tryE [z0, z1, z2, z3, z4, z5] else Ent.zero := if_neg (by simp)
  rw [hr]
  by_cases k1 : z0 = 1
  · subst k1
    have ht : tryE [1, z1, z2, z3, z4, z5] = ⟨1, z1, z2, z3, z4, z5⟩ := rfl
    rw [ht]
    by_cases hc : z1 ≤ 8 ∧ 1 ≤ z2 ∧ z2 ≤ 7
    · have ho : oneE 1 z1 z2 z3 z4 z5 = ⟨1, z1, z2, z3, z4, z5⟩ := if_pos ⟨rfl, hc⟩
      rw [ho, if_pos ⟨by simp [Ent.ok]; omega, by simp [Ent.bytes]; omega⟩]
    · have ho : oneE 1 z1 z2 z3 z4 z5 = Ent.zero := by unfold oneE; rw [if_neg (by omega), if_neg (by omega)]
      rw [ho]
      exact if_neg (fun h => hc (by have := h.1; simp [Ent.ok] at this; omega))
  · have ht : tryE [z0, z1, z2, z3, z4, z5] = ⟨z0, z1, 0, 0, 0, 0⟩ := by unfold tryE; rw [if_neg (by simpa using k1)]; rfl
    have hb : Ent.bytes ⟨z0, z1, 0, 0, 0, 0⟩ = [z0, z1, 0, 0, 0, 0] := by unfold Ent.bytes; rw [if_neg k1]; simp; omega
    rw [ht, hb]
    by_cases hc : 2 ≤ z0 ∧ z0 ≤ 4 ∧ z2 = 0 ∧ z3 = 0 ∧ z4 = 0 ∧ z5 = 0
    · have ho : oneE z0 z1 z2 z3 z4 z5 = ⟨z0, z1, 0, 0, 0, 0⟩ := by unfold oneE; rw [if_neg (by omega), if_pos hc]
      have hk : z0 ≠ 0 := by omega
      rw [ho, if_pos ⟨by simp [Ent.ok, hk, k1]; omega, by simp; omega⟩]
    · have ho : oneE z0 z1 z2 z3 z4 z5 = Ent.zero := by unfold oneE; rw [if_neg (by omega), if_neg hc]
      rw [ho]
      by_cases k0 : z0 = 0
      · subst k0
        by_cases hn : z1 = 0
        · subst hn; split <;> rfl
        · exact if_neg (fun h => hn (by have := h.1; simp [Ent.ok] at this; omega))
      · exact if_neg (fun h => hc (by have h1 := h.1; have h2 := h.2; simp [Ent.ok, k0, k1] at h1; simp at h2; omega))

set_option maxRecDepth 100000 in
set_option maxHeartbeats 2000000 in
/-- 'One' of at most six bytes -/
theorem one_calls (a : Option Addr) (cap : Nat) (zs : List Int) (w : World) (hl : zs.length ≤ 6) (hb : Bytes w a zs) :
    Calls Try.prog 39 #[.slice a zs.length cap] w (RetEnt (readE zs) w) := by
  by_cases h6 : zs.length = 6
  · have h := one_six a cap zs w h6 hb
    have hr := readE_one _ _ _ _ _ _ (hb.byte 0) (hb.byte 1) (hb.byte 2) (hb.byte 3) (hb.byte 4) (hb.byte 5)
    have hz : [zs.getD 0 0, zs.getD 1 0, zs.getD 2 0, zs.getD 3 0, zs.getD 4 0, zs.getD 5 0] = zs := by
      match zs, h6 with
      | [a, b, c, d, e, f], _ => rfl
    rw [hz] at hr
    rw [hr, h6]
    exact h
  · have hr : readE zs = Ent.zero := if_pos (by omega)
    have HR := Lib.hid hr; clear hr hb
    have h6' : ¬ ((zs.length : Int) = 6) := by omega
    go_enter Try.func39, Try.ntmps39
    go_wp2
    refine bodyPost_ret (v := Ent.val ⟨_, _, _, _, _, _⟩) (ret32 rfl rfl (six_new (show (w.alloc _).heap[w.heap.size]? = _ from alloc_new _ rfl))) rfl ⟨by rw [HR.out]; rfl, (Only.refl _ w).alloc _⟩
end Go.Proofs.Ytnemggminanbbaa
