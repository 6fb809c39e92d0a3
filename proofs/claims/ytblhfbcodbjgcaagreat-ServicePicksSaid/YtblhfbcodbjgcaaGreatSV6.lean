import Derived.Test.YtblhfbcodbjgcaaGreatSV4
import Derived.Deep.CutBlock
namespace Go.Proofs.YtblhfbcodbjgcaaGreat
set_option linter.unusedVariables false
set_option linter.unusedSimpArgs false
section
open Go.RowKit Go.Shelf
def atReg (n:Nat):Code→Option Code
 | .region m ops d=>if m=n then some (.region m ops d) else none
 | .block _ c=>atReg n c
 | .seq a b=>match atReg n a with
   | some x=>some x
   | none=>atReg n b
 | .cond _ a b=>match atReg n a with
   | some x=>some x
   | none=>atReg n b
 | .loop c=>atReg n c
 | .scope c=>atReg n c
 | .rangeFunc _ _ a b=>match atReg n a with
   | some x=>some x
   | none=>atReg n b
 | _=>none
def regOf (n:Nat) (f:Func):Code:=(atReg n (f.body.getD .skip)).getD .skip
theorem wp_regOf {P:Program} {n:Nat} {f:Func} {c:Code} {Q:Exit→Act→World→Prop} {a:Act} {w:World} (h:atReg n (f.body.getD .skip)=some c) (h2:c.wp P Q a w):(regOf n f).wp P Q a w:=by
 unfold regOf;rw [h];exact h2
end
end Go.Proofs.YtblhfbcodbjgcaaGreat
