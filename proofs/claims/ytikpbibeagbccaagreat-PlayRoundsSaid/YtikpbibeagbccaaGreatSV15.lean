import Derived.Test.YtikpbibeagbccaaGreatSV14
import Derived.Laws.AppendOwnNone
import Derived.BigQuiet
set_option maxRecDepth 100000
set_option maxHeartbeats 4000000
namespace Go.Proofs.YtikpbibeagbccaaGreat
set_option linter.unusedVariables false
set_option linter.unusedSimpArgs false
open Go.Proofs.Tryz
section
open Go.RowKit Go.Shelf
theorem Tryz.infoU8:(prog.info? 5).map (fun i=>(i.zero,i.size,i.bytes))=some (some (.int .u8 0),1,1):=by kernel_rfl
theorem qe4 {A B:List Int} {m k:Nat} (hA:A.length=6*m) (hk:k<m):six (A++B) k=six A k:=by
 unfold six;rw [List.drop_append_of_le_length (by omega),List.take_append_of_le_length (by rw [List.length_drop];omega)]
theorem qd1 {A B:List Int} {m k:Nat} (hA:A.length=6*m):six (A++B) (m+k)=six B k:=by
 unfold six;rw [show 6*(m+k)=A.length+6*k by omega,List.drop_append,List.drop_eq_nil_of_le (by omega)];simp
theorem qgw (m:Nat):Xq (6*m)=m:=by unfold Xq;omega
theorem qpw (m n:Nat):Xq (6*m+n)=m+Xq n:=by unfold Xq;omega
end
end Go.Proofs.YtikpbibeagbccaaGreat
