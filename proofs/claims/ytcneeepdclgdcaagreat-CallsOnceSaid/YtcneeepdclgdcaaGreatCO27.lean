import Derived.Test.YtcneeepdclgdcaaGreatCO25
import Derived.Test.YtcneeepdclgdcaaGreatCO21
import Derived.Test.YtcneeepdclgdcaaGreatCO5
import Derived.Test.YtcneeepdclgdcaaGreatCO23
import Derived.Test.YtcneeepdclgdcaaGreatCO15
set_option maxRecDepth 100000
set_option maxHeartbeats 4000000
namespace Go.Proofs.YtcneeepdclgdcaaGreat
set_option linter.unusedVariables false
set_option linter.unusedSimpArgs false
section
open Go.RowKit Go.Shelf
def lv0:LvA:=List.replicate 64 []
def ql7:qhk:=⟨0,List.replicate 4 lv0,[]⟩
end
section
open Go.RowKit Go.Shelf
attribute [local go_sem] Oper.semAt_some
end
section
open Go.RowKit Go.Shelf
end
end Go.Proofs.YtcneeepdclgdcaaGreat
