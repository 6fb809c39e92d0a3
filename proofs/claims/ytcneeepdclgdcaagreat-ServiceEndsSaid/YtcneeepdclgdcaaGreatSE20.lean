import Derived.Test.YtcneeepdclgdcaaGreatSE17
import Derived.Deep.Slices
import Derived.ChangeSame
import Derived.ProofKit
import Derived.OpenShut
set_option maxRecDepth 100000
set_option maxHeartbeats 4000000
namespace Go.Proofs.YtcneeepdclgdcaaGreat
set_option linter.all false
open Go.Proofs.Tryz
section
open Go.RowKit Go.Shelf Go.ChangeShapes Go.WideShapes Go.Deep
section
variable {H:Type} {enc:TypeId × Value->H} {w:World} {base:Nat} {spare:Nat->Bool} {held:Bool}
theorem AY {t:TypeId} {k:IntKind} {n:Nat} {c:Value} {x:Option (DataW H × List MemPlace)} (ht:prog.underlying t=some (.int k)) (h:DataW.trod enc prog w base spare held n t [c]=x) (hx:x.isSome=true) :
 ∃ z,c=.int k z/\(Lit.int k z).wf=true:=by
 obtain ⟨y,hy⟩:=Option.isSome_iff_exists.1 hx;obtain ⟨z,hz,_,hw⟩:=DataW.trod_int ht (h.trans hy);exact ⟨z,by simpa using hz,hw⟩
end
end
end Go.Proofs.YtcneeepdclgdcaaGreat
