import Derived.Test.YtikpbibeagbccaaGreatGV9
import Derived.Test.YtikpbibeagbccaaGreatGV15
import Derived.TacticsIn
import Derived.OrdersIn
set_option maxRecDepth 100000
set_option maxHeartbeats 4000000
namespace Go.Proofs.YtikpbibeagbccaaGreat
set_option linter.unusedVariables false
set_option linter.unusedSimpArgs false
section
open Go Go.RowKit Go.Conc
section
variable {P:Program} {ops:Array Oper} {Q:Exit→Act→World→Prop} {a:Act} {w w' w1:World} {o:Oper} {i:Nat} {rest:List Nat} {v:Value}
theorem TG.frameL {H H' K:GH} {w w':World} (T:TG H w H' w') (hK:J3 (K++H) w):TG (K++H) w (K++H') w':=by
 have fc:∀ A B:GH,(A++B).flatten.Perm (B++A).flatten:=fun A B=>by
  rw [List.flatten_append,List.flatten_append];exact List.perm_append_comm
 have h1:J3 (H++K) w:=hK.re (fc _ _);exact ((T.frame h1).basePerm (fc _ _)).re (fc _ _)
end
end
end Go.Proofs.YtikpbibeagbccaaGreat
