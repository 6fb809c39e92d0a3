import Derived.Test.YtblhfbcodbjgcaaGreatSV19
import Derived.Test.YtblhfbcodbjgcaaGreatSV22
namespace Go.Proofs.YtblhfbcodbjgcaaGreat
set_option linter.unusedVariables false
set_option linter.unusedSimpArgs false
section
open Go.RowKit Go.Shelf Go.ChangeShapes Go.WideShapes Go.Deep
def CallC.fits (e:CallC):Prop:=(Lit.int .i64 e.kind).wf=true∧(Lit.int .u64 e.id).wf=true∧(Lit.int .u64 e.dl).wf=true∧(Lit.int .u64 e.per).wf=true
section
variable {H:Type} {enc:TypeId × Value→H} {w:World} {base:Nat} {spare:Nat→Bool} {held:Bool}
theorem call_len {l:List Value} (h:l.length=4):∃ c0 c1 c2 c3,l=[c0,c1,c2,c3]:=by
 match l,h with
 | [c0,c1,c2,c3],_=>exact ⟨c0,c1,c2,c3,rfl⟩
theorem call_of_trod {n:Nat} {cs:List Value} {x:DataW H × List MemPlace} (h:DataW.trod enc Tryz.prog w base spare held n 38 cs=some x):∃ e:CallC,cs=e.cells.toList∧e.fits:=by
 obtain ⟨xs,n1,_,_,hl,hlen,hf⟩:=DataW.trod_struct Tryz.underlying38 h
 rw [show Tryz.prog.cellsOf 38=4 from by kernel_rfl] at hl
 obtain ⟨c0,c1,c2,c3,rfl⟩:=call_len hl
 have hs:∀ i,i<4→(xs[i]?).isSome=true:=fun i hi=>by rw [List.getElem?_eq_getElem (by rw [hlen];exact hi)];rfl
 have f0:DataW.trod enc Tryz.prog w base spare held n1 3 (List.take (Tryz.prog.cellsOf 3) (List.drop 0 [c0,c1,c2,c3]))=xs[0]?:=hf 0 _ rfl
 simp only [show Tryz.prog.cellsOf 3=1 from by kernel_rfl,List.drop_zero,List.drop_succ_cons,List.take_succ_cons,List.take_zero] at f0
 have f1:DataW.trod enc Tryz.prog w base spare held n1 36 (List.take (Tryz.prog.cellsOf 36) (List.drop 1 [c0,c1,c2,c3]))=xs[1]?:=hf 1 _ rfl
 simp only [show Tryz.prog.cellsOf 36=1 from by kernel_rfl,List.drop_zero,List.drop_succ_cons,List.take_succ_cons,List.take_zero] at f1
 have f2:DataW.trod enc Tryz.prog w base spare held n1 36 (List.take (Tryz.prog.cellsOf 36) (List.drop 2 [c0,c1,c2,c3]))=xs[2]?:=hf 2 _ rfl
 simp only [show Tryz.prog.cellsOf 36=1 from by kernel_rfl,List.drop_zero,List.drop_succ_cons,List.take_succ_cons,List.take_zero] at f2
 have f3:DataW.trod enc Tryz.prog w base spare held n1 36 (List.take (Tryz.prog.cellsOf 36) (List.drop 3 [c0,c1,c2,c3]))=xs[3]?:=hf 3 _ rfl
 simp only [show Tryz.prog.cellsOf 36=1 from by kernel_rfl,List.drop_zero,List.drop_succ_cons,List.take_succ_cons,List.take_zero] at f3
 obtain ⟨z0,rfl,w0⟩:=one_int Tryz.underlying3 f0 (hs 0 (by omega))
 obtain ⟨z1,rfl,w1⟩:=one_int Tryz.underlying36 f1 (hs 1 (by omega))
 obtain ⟨z2,rfl,w2⟩:=one_int Tryz.underlying36 f2 (hs 2 (by omega))
 obtain ⟨z3,rfl,w3⟩:=one_int Tryz.underlying36 f3 (hs 3 (by omega))
 exact ⟨⟨z0,z1,z2,z3⟩,rfl,w0,w1,w2,w3⟩
end
end
end Go.Proofs.YtblhfbcodbjgcaaGreat
