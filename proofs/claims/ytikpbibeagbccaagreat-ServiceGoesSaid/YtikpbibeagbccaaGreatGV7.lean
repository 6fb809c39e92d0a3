import Derived.Test.YtikpbibeagbccaaGreatGV4
import Derived.ProofKit
import Derived.OpenShut
set_option maxRecDepth 100000
set_option maxHeartbeats 4000000
namespace Go.Proofs.YtikpbibeagbccaaGreat
set_option linter.unusedVariables false
set_option linter.unusedSimpArgs false
section
open Go.RowKit Go.ChangeShapes
theorem TG.old {H:GH} {w w':World} (T:TG [] w H w') {p:Addr} (hp:p.block<w.heap.size):w'.cell? p=w.cell? p :=
 (Qh.below T).cell hp
theorem TG.ofW {w:World}:TG [] w [] w:=TG.refl (J3.nil w)
theorem TG.bel {H:GH} {w w':World} (T:TG [] w H w'):Below w.heap.size w w':=Qh.below T
end
end Go.Proofs.YtikpbibeagbccaaGreat
