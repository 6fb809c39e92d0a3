import Derived.Test.YtikpbibeagbccaaGreatSV39
import Derived.Test.YtikpbibeagbccaaGreatSV29
set_option maxRecDepth 100000
set_option maxHeartbeats 4000000
namespace Go.Proofs.YtikpbibeagbccaaGreat
set_option linter.unusedVariables false
set_option linter.unusedSimpArgs false
section
open Go.RowKit Go.Shelf
theorem tr_le {N:Nat} {L:Lay} {sb:Nat} {B:SvS} {g:List Blk} (h:isB N L sb B g) (hN:N≤1000000000):B.z.x.tr.length≤1000000000:=by
 obtain ⟨S,rfl,hn,_⟩:=h;exact Nat.le_trans hn.glo.zn.core.tr hN
end
end Go.Proofs.YtikpbibeagbccaaGreat
