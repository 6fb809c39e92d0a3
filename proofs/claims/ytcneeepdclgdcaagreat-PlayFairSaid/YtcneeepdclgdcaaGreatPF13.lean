import Derived.Test.YtcneeepdclgdcaaGreatPF11
import Derived.RangeFuncNested
import Derived.RangeFuncBound
import Derived.RangeFuncCalls
import Derived.RangeFuncLeaves
import Derived.Shelf.Abstract
import Derived.Shelf.RegionOpen
import Derived.OwnWalkIn
import Derived.TacticsInMore
import Derived.LoopNIn
import Derived.LoopIn
import Derived.Deep.DeepMust
set_option maxRecDepth 100000
set_option maxHeartbeats 4000000
namespace Go.Proofs.YtcneeepdclgdcaaGreat
set_option linter.all false
section
open Go.RowKit Go.Shelf
attribute [local go_sem] Oper.semAt_some
def rz (len:Nat):Nat:=(len+5) / 6
end
section
open Go.RowKit Go.Shelf
attribute [local go_sem] Oper.semAt_some
def six (zs:List Int) (k:Nat):List Int:=(zs.drop (6*k)).take 6
theorem Gt (zs:List Int) (k:Nat):(six zs k).length=min 6 (zs.length - 6*k):=by simp [six]
theorem q21 (zs:List Int) (k i:Nat) (hi:i<(six zs k).length):(six zs k).getD i 0=zs.getD (6*k+i) 0:=by
 rw [Gt] at hi;simp only [six,List.getD_eq_getElem?_getD,List.getElem?_take,List.getElem?_drop];rw [if_pos (by omega)]
theorem Bytes.six {W:World} {b off:Nat} {zs:List Int} (h:Bytes W (some ⟨b,off,none⟩) zs) (k:Nat) (hk:6*k<zs.length):Bytes W (some ⟨b,off+6*k,none⟩) (six zs k):=by
 refine ⟨fun x hx=>h.1 x (List.mem_of_mem_drop (List.mem_of_mem_take hx)),.inr ?_⟩
 rcases h.2 with rfl | ⟨b',off',he,hb,hc⟩
 ·simp at hk
 ·cases he
  refine ⟨b,off+6*k,rfl,hb,fun i hi=>?_⟩
  rw [q21 zs k i hi];have:=Gt zs k;rw [Nat.add_assoc];exact hc _ (by omega)
end
end Go.Proofs.YtcneeepdclgdcaaGreat
