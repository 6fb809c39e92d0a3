import Derived.Test.YtahpggnkifkkpaaHeap
import Derived.Deep.CutBlock
namespace Go.Proofs.Ytahpggnkifkkpaa
set_option linter.unusedVariables false
open Go.RowKit Go.Shelf

/-! ## A block of a function's text, told by its number: so that a walk can be parted into declarations -/
def atBlock (n : Nat) : Code → Option Code
  | .block m c => if m = n then some (.block m c) else atBlock n c
  | .seq a b => match atBlock n a with
    | some x => some x
    | none => atBlock n b
  | .cond _ a b => match atBlock n a with
    | some x => some x
    | none => atBlock n b
  | .loop c => atBlock n c
  | .scope c => atBlock n c
  | .rangeFunc _ _ a b => match atBlock n a with
    | some x => some x
    | none => atBlock n b
  | _ => none
/-- block n of a function -/
def blockOf (n : Nat) (f : Func) : Code := (atBlock n (f.body.getD .skip)).getD .skip
theorem wp_blockOf {P : Program} {n : Nat} {f : Func} {c : Code} {Q : Exit → Act → World → Prop} {a : Act} {w : World} (h : atBlock n (f.body.getD .skip) = some c) (h2 : c.wp P Q a w) : (blockOf n f).wp P Q a w := by
  unfold blockOf; rw [h]; exact h2
end Go.Proofs.Ytahpggnkifkkpaa
