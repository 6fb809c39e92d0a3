import Derived.Test.YtikpbibeagbccaaGreatSV4
import Derived.Deep.CutBlock
set_option maxRecDepth 100000
set_option maxHeartbeats 4000000
namespace Go.Proofs.YtikpbibeagbccaaGreat
set_option linter.unusedVariables false
set_option linter.unusedSimpArgs false
section
open Go.RowKit Go.Shelf
def qey (n:Nat):Code→Option Code
 | .region m ops d=>if m=n then some (.region m ops d) else none
 | .block _ c=>qey n c
 | .seq a b=>match qey n a with
   | some x=>some x
   | none=>qey n b
 | .cond _ a b=>match qey n a with
   | some x=>some x
   | none=>qey n b
 | .loop c=>qey n c
 | .scope c=>qey n c
 | .rangeFunc _ _ a b=>match qey n a with
   | some x=>some x
   | none=>qey n b
 | _=>none
def qz3 (n:Nat) (f:Func):Code:=(qey n (f.body.getD .skip)).getD .skip
theorem qvr {P:Program} {n:Nat} {f:Func} {c:Code} {Q:Exit→Act→World→Prop} {a:Act} {w:World} (h:qey n (f.body.getD .skip)=some c) (h2:c.wp P Q a w):(qz3 n f).wp P Q a w:=by
 unfold qz3;rw [h];exact h2
end
end Go.Proofs.YtikpbibeagbccaaGreat
