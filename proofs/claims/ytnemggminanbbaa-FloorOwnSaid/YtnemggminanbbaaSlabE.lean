import Derived.Test.YtnemggminanbbaaSlabD
namespace Go.Proofs.Ytnemggminanbbaa
set_option linter.unusedVariables false
set_option linter.unusedSimpArgs false
open Go.RowKit

def atV (rb n : Nat) (k : Int) : Value := if 0 ≤ k ∧ k < n then .pointer (some ⟨rb, k.toNat * 6, none⟩) else .pointer none
theorem atV_has (rb : Nat) {s : SlabS} {j : Nat} (h : s.has j) : atV rb s.recs.length j = .pointer (some ⟨rb, j * 6, none⟩) := (if_pos h).trans (by simp)
theorem atV_not (rb : Nat) {s : SlabS} {k : Int} (h : ¬ s.has k) : atV rb s.recs.length k = .pointer none := if_neg h
theorem slabBegin_does (sb : Nat) (p : Int) :
    Does Try.prog 21 #[.pointer (some ⟨sb, 0, none⟩), .int .u64 p] [] fun e h' =>
      ∃ qb, e = .returned (.pointer (some ⟨qb, 0, none⟩)) ∧ h' = [reqH qb sb ⟨p, 0, 0, 0, 0, 0⟩] := by
  intro w hw
  have HT := Lib.hid (Turned.refl hw)
  clear hw
  go_enter Try.func21, Try.ntmps21
  go_wp2
  go_ret
  exact ⟨_, ⟨_, rfl, rfl⟩, HT.out.alloc rfl _ _⟩


end Go.Proofs.Ytnemggminanbbaa
