import Derived.Test.YtnemggminanbbaaFloorM
import Derived.Test.YtnemggminanbbaaSlabL
namespace Go.Proofs.Ytnemggminanbbaa
set_option linter.unusedVariables false
set_option linter.unusedSimpArgs false
open Go.RowKit Go.Shelf

/-! ## The greatest number that was given of a slot -/
theorem known_next {s : SlabS} {j k : Nat} {r : Rec} (hj : j < s.recs.length) (hn : s.recs.length ≤ 64) (hr : s.recs.getD j Rec.zero = r) : s.known ((k : Int) * 64 + j + 64) ↔ (k : Int) + 1 ≤ r.g := by
  have e1 : ((k : Int) * 64 + j + 64) % 64 = j := by omega
  have e2 : ((k : Int) * 64 + j + 64) / 64 = k + 1 := by omega
  unfold SlabS.known
  rw [e1, e2, Int.toNat_natCast, hr]
  constructor
  · exact fun h => h.2.2
  · exact fun h => ⟨by omega, by omega, h⟩
def numV (s : SlabS) (i : Int) : Int × Int :=
  if 0 ≤ i ∧ i < s.recs.length then let g := (s.recs.getD i.toNat Rec.zero).g; if g < 1 then (0, 6) else (g * 64 + i, 0) else (0, 4)
end Go.Proofs.Ytnemggminanbbaa
