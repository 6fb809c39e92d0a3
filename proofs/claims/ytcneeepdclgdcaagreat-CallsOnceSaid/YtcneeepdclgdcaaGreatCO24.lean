import Derived.Test.YtcneeepdclgdcaaGreatCO19
import Derived.Test.YtcneeepdclgdcaaGreatCO22
import Derived.Test.YtcneeepdclgdcaaGreatCO23
import Derived.Test.YtcneeepdclgdcaaGreatCO8
set_option maxRecDepth 100000
set_option maxHeartbeats 4000000
namespace Go.Proofs.YtcneeepdclgdcaaGreat
set_option linter.unusedVariables false
set_option linter.unusedSimpArgs false
open Go.Proofs.Tryz
section
open Go.RowKit Go.Shelf Go.ChangeShapes Go.WideShapes Go.Deep
def Q9.fits (e:Q9):Prop:=(Lit.int .i64 e.kind).wf=true∧(Lit.int .u64 e.id).wf=true∧(Lit.int .u64 e.dl).wf=true∧(Lit.int .u64 e.per).wf=true
section
variable {H:Type} {enc:TypeId × Value→H} {w:World} {base:Nat} {spare:Nat→Bool} {held:Bool}
theorem qi7 {l:List Value} (h:l.length=4):∃ c0 c1 c2 c3,l=[c0,c1,c2,c3]:=by
 match l,h with
 | [c0,c1,c2,c3],_=>exact ⟨c0,c1,c2,c3,rfl⟩
theorem qci {n:Nat} {cs:List Value} {x:DataW H × List MemPlace} (h:DataW.trod enc prog w base spare held n 38 cs=some x):∃ e:Q9,cs=e.cells.toList∧e.fits:=by
 obtain ⟨xs,n1,_,_,hl,hlen,hf⟩:=DataW.trod_struct underlying38 h;rw [show prog.cellsOf 38=4 from by kernel_rfl] at hl;obtain ⟨c0,c1,c2,c3,rfl⟩:=qi7 hl;have hs:∀ i,i<4→(xs[i]?).isSome=true:=fun i hi=>by rw [List.getElem?_eq_getElem (by rw [hlen];exact hi)];rfl
 have f0:DataW.trod enc prog w base spare held n1 3 (List.take (prog.cellsOf 3) (List.drop 0 [c0,c1,c2,c3]))=xs[0]?:=hf 0 _ rfl;simp only [show prog.cellsOf 3=1 from by kernel_rfl,List.drop_zero,List.drop_succ_cons,List.take_succ_cons,List.take_zero] at f0;have f1:DataW.trod enc prog w base spare held n1 36 (List.take (prog.cellsOf 36) (List.drop 1 [c0,c1,c2,c3]))=xs[1]?:=hf 1 _ rfl;simp only [show prog.cellsOf 36=1 from by kernel_rfl,List.drop_zero,List.drop_succ_cons,List.take_succ_cons,List.take_zero] at f1;have f2:DataW.trod enc prog w base spare held n1 36 (List.take (prog.cellsOf 36) (List.drop 2 [c0,c1,c2,c3]))=xs[2]?:=hf 2 _ rfl;simp only [show prog.cellsOf 36=1 from by kernel_rfl,List.drop_zero,List.drop_succ_cons,List.take_succ_cons,List.take_zero] at f2;have f3:DataW.trod enc prog w base spare held n1 36 (List.take (prog.cellsOf 36) (List.drop 3 [c0,c1,c2,c3]))=xs[3]?:=hf 3 _ rfl;simp only [show prog.cellsOf 36=1 from by kernel_rfl,List.drop_zero,List.drop_succ_cons,List.take_succ_cons,List.take_zero] at f3;obtain ⟨z0,rfl,w0⟩:=qa8 underlying3 f0 (hs 0 (by omega));obtain ⟨z1,rfl,w1⟩:=qa8 underlying36 f1 (hs 1 (by omega));obtain ⟨z2,rfl,w2⟩:=qa8 underlying36 f2 (hs 2 (by omega));obtain ⟨z3,rfl,w3⟩:=qa8 underlying36 f3 (hs 3 (by omega));exact ⟨⟨z0,z1,z2,z3⟩,rfl,w0,w1,w2,w3⟩
end
theorem Q9.fits.to_wf {e:Q9} (h:e.fits):e.wf:=by
 obtain ⟨_,h1,h2,h3⟩:=h;have b1:=bounds_u64 h1;have b2:=bounds_u64 h2;have b3:=bounds_u64 h3;exact ⟨⟨b1.1,by omega⟩,⟨b2.1,by omega⟩,⟨b3.1,by omega⟩⟩
section
variable {H:Type} {enc:TypeId × Value→H} {w:World} {base:Nat} {spare:Nat→Bool} {held:Bool}
abbrev CallL:=List Q9
def IsCalls (w:World) (a:Option Addr) (len cap:Nat) (es:CallL):Prop:=es.length=len∧len≤9223372036854775807∧(∀ z∈es,z.wf)∧qbq w a es
theorem open_calls {fuel:Nat} {a:Option Addr} {len cap:Nat} {x:DataW H × List MemPlace} (h:DataW.trod enc prog w base spare held fuel 22 (Value.cells (.slice a len cap)).toList=some x):∃ es,IsCalls w a len cap es:=by
 obtain ⟨es,h1,h2,hw,h3⟩:=qb3 Q9.zero Q9.fits (fun e:Q9=>e.cells.toList) 4 underlying22 (by kernel_rfl) (by decide) qci (fun _=>rfl) h;refine ⟨es,h1,h2,fun z hz=>(hw z hz).to_wf,h3.imp id ?_⟩
 rintro ⟨b,off,e1,e2,e3⟩;exact ⟨b,off,e1,e2,fun i j hi hj=>(e3 i j hi hj).trans (by rw [Array.getElem?_toList])⟩
end
end
end Go.Proofs.YtcneeepdclgdcaaGreat
