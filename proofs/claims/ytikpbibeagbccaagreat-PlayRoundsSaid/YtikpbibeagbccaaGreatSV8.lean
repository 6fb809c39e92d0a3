import Derived.Test.YtikpbibeagbccaaGreatSV4
import Derived.Test.YtikpbibeagbccaaGreatChecked
import Derived.Deep.Slices
import Derived.ChangeSame
import Derived.ProofKit
import Derived.OpenShut
set_option maxRecDepth 100000
set_option maxHeartbeats 4000000
namespace Go.Proofs.YtikpbibeagbccaaGreat
set_option linter.unusedVariables false
set_option linter.unusedSimpArgs false
section
open Go.RowKit Go.Shelf Go.ChangeShapes Go.WideShapes Go.Deep
end
end Go.Proofs.YtikpbibeagbccaaGreat
