import Derived.Test.YtcneeepdclgdcaaGreatCO4
import Derived.Deep.CutBlock
set_option maxRecDepth 100000
set_option maxHeartbeats 4000000
namespace Go.Proofs.YtcneeepdclgdcaaGreat
set_option linter.unusedVariables false
set_option linter.unusedSimpArgs false
section
open Go.RowKit Go.Shelf
def zl (n:Nat):Code→Option Code
 | .region m ops d=>if m=n then some (.region m ops d) else none
 | .block _ c=>zl n c
 | .seq a b=>match zl n a with
   | some x=>some x
   | none=>zl n b
 | .cond _ a b=>match zl n a with
   | some x=>some x
   | none=>zl n b
 | .loop c=>zl n c
 | .scope c=>zl n c
 | .rangeFunc _ _ a b=>match zl n a with
   | some x=>some x
   | none=>zl n b
 | _=>none
def qkw (n:Nat) (f:Func):Code:=(zl n (f.body.getD .skip)).getD .skip
theorem qi0 {P:Program} {n:Nat} {f:Func} {c:Code} {Q:Exit→Act→World→Prop} {a:Act} {w:World} (h:zl n (f.body.getD .skip)=some c) (h2:c.wp P Q a w):(qkw n f).wp P Q a w:=by
 unfold qkw;rw [h];exact h2
end
end Go.Proofs.YtcneeepdclgdcaaGreat
