import Derived.Test.YtblhfbcodbjgcaaGreatSV8
import Derived.Test.YtblhfbcodbjgcaaGreatSV14
import Derived.TacticsIn
import Derived.OrdersIn
namespace Go.Proofs.YtblhfbcodbjgcaaGreat
set_option linter.unusedVariables false
set_option linter.unusedSimpArgs false
section
open Go Go.RowKit Go.Conc
section
variable {P:Program} {ops:Array Oper} {Q:Exit→Act→World→Prop} {a:Act} {w w' w1:World} {o:Oper} {i:Nat} {rest:List Nat} {v:Value}
theorem TG.frameL {H H' K:GH} {w w':World} (T:TG H w H' w') (hK:HasG (K++H) w):TG (K++H) w (K++H') w':=by
 have fc:∀ A B:GH,(A++B).flatten.Perm (B++A).flatten:=fun A B=>by
  rw [List.flatten_append,List.flatten_append];exact List.perm_append_comm
 have h1:HasG (H++K) w:=hK.re (fc _ _)
 exact ((T.frame h1).basePerm (fc _ _)).re (fc _ _)
end
end
section
open Go Go.RowKit Go.Conc
section
variable {P:Program} {ops:Array Oper} {Q:Exit→Act→World→Prop} {a:Act} {w:World} {F:Fence} {n:Nat}
end
end
end Go.Proofs.YtblhfbcodbjgcaaGreat
