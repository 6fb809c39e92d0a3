import Derived.Test.YtikpbibeagbccaaGreatSV23
import Derived.Test.YtikpbibeagbccaaGreatSV26
import Derived.Test.YtikpbibeagbccaaGreatSV28
import Derived.Test.YtikpbibeagbccaaGreatSV8
set_option maxRecDepth 100000
set_option maxHeartbeats 4000000
namespace Go.Proofs.YtikpbibeagbccaaGreat
set_option linter.unusedVariables false
set_option linter.unusedSimpArgs false
open Go.Proofs.Tryz
section
open Go.RowKit Go.Shelf Go.ChangeShapes Go.WideShapes Go.Deep
def Qs.fits (e:Qs):Prop:=(Lit.int .i64 e.kind).wf=true∧(Lit.int .u64 e.id).wf=true∧(Lit.int .u64 e.dl).wf=true∧(Lit.int .u64 e.per).wf=true
section
variable {H:Type} {enc:TypeId × Value→H} {w:World} {base:Nat} {spare:Nat→Bool} {held:Bool}
theorem qxf {l:List Value} (h:l.length=4):∃ c0 c1 c2 c3,l=[c0,c1,c2,c3]:=by
 match l,h with
 | [c0,c1,c2,c3],_=>exact ⟨c0,c1,c2,c3,rfl⟩
theorem qky {n:Nat} {cs:List Value} {x:DataW H × List MemPlace} (h:DataW.trod enc prog w base spare held n 32 cs=some x):∃ e:Qs,cs=e.cells.toList∧e.fits:=by
 obtain ⟨xs,n1,_,_,hl,hlen,hf⟩:=DataW.trod_struct underlying32 h;rw [show prog.cellsOf 32=4 from by kernel_rfl] at hl;obtain ⟨c0,c1,c2,c3,rfl⟩:=qxf hl;have hs:∀ i,i<4→(xs[i]?).isSome=true:=fun i hi=>by rw [List.getElem?_eq_getElem (by rw [hlen];exact hi)];rfl
 have f0:DataW.trod enc prog w base spare held n1 3 (List.take (prog.cellsOf 3) (List.drop 0 [c0,c1,c2,c3]))=xs[0]?:=hf 0 _ rfl;simp only [show prog.cellsOf 3=1 from by kernel_rfl,List.drop_zero,List.drop_succ_cons,List.take_succ_cons,List.take_zero] at f0;have f1:DataW.trod enc prog w base spare held n1 30 (List.take (prog.cellsOf 30) (List.drop 1 [c0,c1,c2,c3]))=xs[1]?:=hf 1 _ rfl;simp only [show prog.cellsOf 30=1 from by kernel_rfl,List.drop_zero,List.drop_succ_cons,List.take_succ_cons,List.take_zero] at f1;have f2:DataW.trod enc prog w base spare held n1 30 (List.take (prog.cellsOf 30) (List.drop 2 [c0,c1,c2,c3]))=xs[2]?:=hf 2 _ rfl;simp only [show prog.cellsOf 30=1 from by kernel_rfl,List.drop_zero,List.drop_succ_cons,List.take_succ_cons,List.take_zero] at f2;have f3:DataW.trod enc prog w base spare held n1 30 (List.take (prog.cellsOf 30) (List.drop 3 [c0,c1,c2,c3]))=xs[3]?:=hf 3 _ rfl;simp only [show prog.cellsOf 30=1 from by kernel_rfl,List.drop_zero,List.drop_succ_cons,List.take_succ_cons,List.take_zero] at f3;obtain ⟨z0,rfl,w0⟩:=qc2 underlying3 f0 (hs 0 (by omega));obtain ⟨z1,rfl,w1⟩:=qc2 underlying30 f1 (hs 1 (by omega));obtain ⟨z2,rfl,w2⟩:=qc2 underlying30 f2 (hs 2 (by omega));obtain ⟨z3,rfl,w3⟩:=qc2 underlying30 f3 (hs 3 (by omega));exact ⟨⟨z0,z1,z2,z3⟩,rfl,w0,w1,w2,w3⟩
end
theorem Qs.fits.toWf {e:Qs} (h:e.fits):e.wf:=by
 obtain ⟨_,h1,h2,h3⟩:=h;have b1:=bounds_u64 h1;have b2:=bounds_u64 h2;have b3:=bounds_u64 h3;exact ⟨⟨b1.1,by omega⟩,⟨b2.1,by omega⟩,⟨b3.1,by omega⟩⟩
section
variable {H:Type} {enc:TypeId × Value→H} {w:World} {base:Nat} {spare:Nat→Bool} {held:Bool}
theorem q1g {l:List Value} (h:l.length=6):∃ c0 c1 c2 c3 c4 c5,l=[c0,c1,c2,c3,c4,c5]:=by
 match l,h with
 | [c0,c1,c2,c3,c4,c5],_=>exact ⟨c0,c1,c2,c3,c4,c5,rfl⟩
end
end
end Go.Proofs.YtikpbibeagbccaaGreat
