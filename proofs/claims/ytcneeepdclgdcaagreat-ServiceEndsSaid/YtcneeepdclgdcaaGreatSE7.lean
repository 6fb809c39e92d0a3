import Derived.Test.YtcneeepdclgdcaaGreatSE4
import Derived.ProofKit
import Derived.OpenShut
set_option maxRecDepth 100000
set_option maxHeartbeats 4000000
namespace Go.Proofs.YtcneeepdclgdcaaGreat
set_option linter.all false
section
open Go.RowKit Go.ChangeShapes
theorem TG.old {H:GH} {w w':World} (T:TG [] w H w') {p:Addr} (hp:p.block<w.heap.size):w'.cell? p=w.cell? p :=
 (Qh.below T).cell hp
theorem TG.N8 {w:World}:TG [] w [] w:=TG.refl (Yz.nil w)
theorem TG.bel {H:GH} {w w':World} (T:TG [] w H w'):Below w.heap.size w w':=Qh.below T
end
end Go.Proofs.YtcneeepdclgdcaaGreat
