import Derived.Test.YtcneeepdclgdcaaGreatChecked
import Derived.Lib.Strings
import Derived.Lib.Slices
import Derived.Lib.Small
import Derived.Lib.Walk
import Derived.Lib.BitFns
set_option maxRecDepth 100000
set_option maxHeartbeats 4000000
namespace Go.Proofs.YtcneeepdclgdcaaGreat
set_option linter.unusedVariables false
set_option linter.unusedSimpArgs false
section
end
end Go.Proofs.YtcneeepdclgdcaaGreat
