import Derived.Test.YtcneeepdclgdcaaGreatSE4
import Derived.Deep.CutBlock
set_option maxRecDepth 100000
set_option maxHeartbeats 4000000
namespace Go.Proofs.YtcneeepdclgdcaaGreat
set_option linter.all false
section
open Go.RowKit Go.Shelf
def tu (n:Nat):Code->Option Code
 | .region m ops d=>if m=n then some (.region m ops d) else none
 | .block _ c=>tu n c
 | .seq a b=>match tu n a with
   | some x=>some x
   | none=>tu n b
 | .cond _ a b=>match tu n a with
   | some x=>some x
   | none=>tu n b
 | .loop c=>tu n c
 | .scope c=>tu n c
 | .rangeFunc _ _ a b=>match tu n a with
   | some x=>some x
   | none=>tu n b
 | _=>none
def IJ (n:Nat) (f:Func):Code:=(tu n (f.body.getD .skip)).getD .skip
theorem q16 {P:Program} {n:Nat} {f:Func} {c:Code} {Q:Exit->Act->World->Prop} {a:Act} {w:World} (h:tu n (f.body.getD .skip)=some c) (h2:c.wp P Q a w):(IJ n f).wp P Q a w:=by
 unfold IJ;rw [h];exact h2
end
end Go.Proofs.YtcneeepdclgdcaaGreat
