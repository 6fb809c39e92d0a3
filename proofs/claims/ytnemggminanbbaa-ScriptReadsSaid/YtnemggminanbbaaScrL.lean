import Derived.Test.YtnemggminanbbaaScrK
import Derived.BigQuiet
import Derived.Deep.RegionWith
namespace Go.Proofs.Ytnemggminanbbaa
set_option linter.unusedVariables false
set_option linter.unusedSimpArgs false
open Go.RowKit Go.Shelf

end Go.Proofs.Ytnemggminanbbaa
