import Derived.Test.YtcneeepdclgdcaaGreatPF8
import Derived.Test.YtcneeepdclgdcaaGreatPF16
import Derived.TacticsIn
import Derived.OrdersIn
set_option maxRecDepth 100000
set_option maxHeartbeats 4000000
namespace Go.Proofs.YtcneeepdclgdcaaGreat
set_option linter.all false
section
open Go Go.RowKit Go.Conc
section
variable {P:Program} {ops:Array Oper} {Q:Exit->Act->World->Prop} {a:Act} {w w' w1:World} {o:Oper} {i:Nat} {rest:List Nat} {v:Value}
theorem TG.sO {H H' K:GH} {w w':World} (T:TG H w H' w') (hK:Yc (K++H) w):TG (K++H) w (K++H') w':=by
 have fc:∀ A B:GH,(A++B).flatten.Perm (B++A).flatten:=fun A B=>by
  rw [List.flatten_append,List.flatten_append];exact List.perm_append_comm
 have h1:Yc (H++K) w:=hK.re (fc _ _);exact ((T.frame h1).dG (fc _ _)).re (fc _ _)
end
end
end Go.Proofs.YtcneeepdclgdcaaGreat
