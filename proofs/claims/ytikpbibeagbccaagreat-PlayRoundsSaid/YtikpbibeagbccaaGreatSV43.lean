import Derived.Test.YtikpbibeagbccaaGreatSV41
import Derived.Test.YtikpbibeagbccaaGreatSV29
import Derived.SizedLaws
set_option maxRecDepth 100000
set_option maxHeartbeats 4000000
namespace Go.Proofs.YtikpbibeagbccaaGreat
set_option linter.unusedVariables false
set_option linter.unusedSimpArgs false
open Go.Proofs.Tryz
section
open Go.RowKit Go.Shelf Go.ChangeShapes Go.WideShapes Go.Deep
def EntV.wf (e:EntV):Prop:=e.c.wf
section
variable {H:Type} {enc:TypeId × Value→H} {w:World} {base:Nat} {spare:Nat→Bool} {held:Bool}
theorem entv_of_trod {n:Nat} {cs:List Value} {x:DataW H × List MemPlace} (h:DataW.trod enc prog w base spare held n 53 cs=some x):∃ e:EntV,cs=e.cells.toList∧e.wf:=by
 obtain ⟨xs,n1,_,_,hl,hlen,hf⟩:=DataW.trod_struct underlying53 h;rw [show prog.cellsOf 53=6 from by kernel_rfl] at hl;obtain ⟨c0,c1,c2,c3,c4,c5,rfl⟩:=q1g hl;have hs:∀ i,i<3→(xs[i]?).isSome=true:=fun i hi=>by rw [List.getElem?_eq_getElem (by rw [hlen];exact hi)];rfl
 have f0:DataW.trod enc prog w base spare held n1 3 (List.take (prog.cellsOf 3) (List.drop 0 [c0,c1,c2,c3,c4,c5]))=xs[0]?:=hf 0 _ rfl;have f1:DataW.trod enc prog w base spare held n1 3 (List.take (prog.cellsOf 3) (List.drop 1 [c0,c1,c2,c3,c4,c5]))=xs[1]?:=hf 1 _ rfl;have f2:DataW.trod enc prog w base spare held n1 32 (List.take (prog.cellsOf 32) (List.drop 2 [c0,c1,c2,c3,c4,c5]))=xs[2]?:=hf 2 _ rfl;simp only [show prog.cellsOf 3=1 from by kernel_rfl,List.drop_zero,List.drop_succ_cons,List.take_succ_cons,List.take_zero] at f0 f1;simp only [show prog.cellsOf 32=4 from by kernel_rfl,List.drop_zero,List.drop_succ_cons,List.take_succ_cons,List.take_zero] at f2;obtain ⟨z0,rfl,w0⟩:=qc2 underlying3 f0 (hs 0 (by omega));obtain ⟨z1,rfl,w1⟩:=qc2 underlying3 f1 (hs 1 (by omega));obtain ⟨y,hy⟩:=Option.isSome_iff_exists.1 (hs 2 (by omega));obtain ⟨e,he,hw⟩:=qky (f2.trans hy);simp only [Qs.cells,List.cons.injEq,and_true] at he;obtain ⟨rfl,rfl,rfl,rfl⟩:=he;exact ⟨⟨z0,z1,e⟩,rfl,hw.toWf⟩
end
theorem sized_bytes {H:Type} {ts:List TypeId} {ds:List (DataW H)} (hz:(DataW.weightsEach prog ts ds).all (·≤reachBytes)=true) {w:World} {enc:TypeId × Value→H} {base:Nat} {spare:Nat→Bool} {held:Bool} {a:Option Addr} {len cap:Nat} {d:DataW H} {p:List MemPlace} {j:Nat}
 (h:DataW.Trod enc prog w base spare held 54 (.slice a len cap) d p) (ht:ts[j]?=some 54) (hd:ds[j]?=some d):len≤reachBytes:=by
 obtain ⟨fuel,hf⟩:=h;rcases open_ints underlying54 underlying5 (by kernel_rfl) hf with ⟨hcs,_⟩ | ⟨x,l,c,zs,hcs,_,hl,hm,hzs,hx,hcell,hwz⟩
 ·simp [Value.cells] at hcs
  obtain ⟨rfl,rfl,rfl⟩:=hcs;exact Nat.zero_le _
 ·simp [Value.cells] at hcs
  obtain ⟨rfl,rfl,rfl⟩:=hcs;have hd2:=congrArg Prod.fst hx;simp only at hd2;subst hd2;have hb:=sized_slice hz ht hd underlying54;rw [show prog.bytesOf 5=1 from by kernel_rfl,Nat.mul_one] at hb;have h1:∀ l:List Int,(lits (H:=H) .u8 l).length=l.length:=fun l=>by simp [lits]
  have h2:zs.length ≥ len:=by rw [hzs];split <;> omega
  rw [h1,h1,List.length_take] at hb;omega
end
end Go.Proofs.YtikpbibeagbccaaGreat
