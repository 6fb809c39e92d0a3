import Derived.Test.YtnemggminanbbaaReads
import Derived.BigQuiet
namespace Go.Proofs.Ytnemggminanbbaa
set_option linter.unusedVariables false
open Go.RowKit Go.Shelf

/-! ## A region that draws its order, in a class of worlds: each operation is met once -/
theorem wp_region_cls {ι : Type} {P : Program} (W : ι → World) {id : Nat} {Q : Exit → Act → World → Prop} {a : Act} {w : World} {l : List Oper} (hm : P.follows .mixedOrders = true) (hB : Region.lexB .any l.toArray = true)
    (h0 : ∃ i, w.drew = W i) (h : wpQuiet P l.toArray (fun w' => ∃ i, w' = W i) (fun a' => ∀ w', (∃ i, w' = W i) → Q .normal a' w') l a) : (Code.region id l.toArray true).wp P Q a w :=
  wp_region_quiet (C := fun w' => ∃ i, w' = W i) hm hB h0 (by simpa using h)
end Go.Proofs.Ytnemggminanbbaa
