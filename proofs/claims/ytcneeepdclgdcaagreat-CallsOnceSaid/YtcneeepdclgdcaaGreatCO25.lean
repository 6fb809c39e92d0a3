import Derived.Test.YtcneeepdclgdcaaGreatCO15
import Derived.Test.YtcneeepdclgdcaaGreatCO2
import Derived.Test.YtcneeepdclgdcaaGreatCO16
import Derived.Laws.Bits64
import Derived.Lib.Strings
import Derived.Lib.Slices
import Derived.Lib.Small
import Derived.Lib.Walk
import Derived.Lib.BitFns
import Derived.Test.YtcneeepdclgdcaaGreatCO14
set_option maxRecDepth 100000
set_option maxHeartbeats 4000000
namespace Go.Proofs.YtcneeepdclgdcaaGreat
set_option linter.unusedVariables false
set_option linter.unusedSimpArgs false
section
open Go.RowKit Go.Shelf
structure qmg where
 dl:Int
 v:Qn
 due:Nat
structure qmc where
 eb:Nat
 nb:Nat
 e:qmg
abbrev LvA:=List (List qmc)
structure qhk where
 now:Nat
 lv:List LvA
 by_:List qmc
structure qg8 where
 now:Nat
 lv:List (List (List qmg))
 by_:List qmg
def qhk.s (w:qhk):qg8:=⟨w.now,w.lv.map fun l=>l.map fun s=>s.map qmc.e,w.by_.map qmc.e⟩
end
end Go.Proofs.YtcneeepdclgdcaaGreat
