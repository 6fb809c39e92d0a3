import Derived.Test.YtcneeepdclgdcaaGreatCO23
import Derived.Test.YtcneeepdclgdcaaGreatCO9
import Derived.Test.YtcneeepdclgdcaaGreatCO14
set_option maxRecDepth 100000
set_option maxHeartbeats 4000000
namespace Go.Proofs.YtcneeepdclgdcaaGreat
set_option linter.unusedVariables false
set_option linter.unusedSimpArgs false
section
open Go.RowKit Go.Shelf Go.Conc
end
section
open Go.RowKit Go.Shelf
end
section
open Go.RowKit Go.Shelf Go.Conc
end
end Go.Proofs.YtcneeepdclgdcaaGreat
