import Derived.Test.YtcneeepdclgdcaaGreatPF4
import Derived.Deep.CutBlock
set_option maxRecDepth 100000
set_option maxHeartbeats 4000000
namespace Go.Proofs.YtcneeepdclgdcaaGreat
set_option linter.all false
section
open Go.RowKit Go.Shelf
def uo (n:Nat):Code->Option Code
 | .region m ops d=>if m=n then some (.region m ops d) else none
 | .block _ c=>uo n c
 | .seq a b=>match uo n a with
   | some x=>some x
   | none=>uo n b
 | .cond _ a b=>match uo n a with
   | some x=>some x
   | none=>uo n b
 | .loop c=>uo n c
 | .scope c=>uo n c
 | .rangeFunc _ _ a b=>match uo n a with
   | some x=>some x
   | none=>uo n b
 | _=>none
def KP (n:Nat) (f:Func):Code:=(uo n (f.body.getD .skip)).getD .skip
theorem q3s {P:Program} {n:Nat} {f:Func} {c:Code} {Q:Exit->Act->World->Prop} {a:Act} {w:World} (h:uo n (f.body.getD .skip)=some c) (h2:c.wp P Q a w):(KP n f).wp P Q a w:=by
 unfold KP;rw [h];exact h2
end
end Go.Proofs.YtcneeepdclgdcaaGreat
