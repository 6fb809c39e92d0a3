import Derived.Test.YtikpbibeagbccaaGreatGV4
import Derived.Deep.CutBlock
set_option maxRecDepth 100000
set_option maxHeartbeats 4000000
namespace Go.Proofs.YtikpbibeagbccaaGreat
set_option linter.unusedVariables false
set_option linter.unusedSimpArgs false
section
open Go.RowKit Go.Shelf
def qd9 (n:Nat):Code→Option Code
 | .region m ops d=>if m=n then some (.region m ops d) else none
 | .block _ c=>qd9 n c
 | .seq a b=>match qd9 n a with
   | some x=>some x
   | none=>qd9 n b
 | .cond _ a b=>match qd9 n a with
   | some x=>some x
   | none=>qd9 n b
 | .loop c=>qd9 n c
 | .scope c=>qd9 n c
 | .rangeFunc _ _ a b=>match qd9 n a with
   | some x=>some x
   | none=>qd9 n b
 | _=>none
def qyk (n:Nat) (f:Func):Code:=(qd9 n (f.body.getD .skip)).getD .skip
theorem qt8 {P:Program} {n:Nat} {f:Func} {c:Code} {Q:Exit→Act→World→Prop} {a:Act} {w:World} (h:qd9 n (f.body.getD .skip)=some c) (h2:c.wp P Q a w):(qyk n f).wp P Q a w:=by
 unfold qyk;rw [h];exact h2
end
end Go.Proofs.YtikpbibeagbccaaGreat
