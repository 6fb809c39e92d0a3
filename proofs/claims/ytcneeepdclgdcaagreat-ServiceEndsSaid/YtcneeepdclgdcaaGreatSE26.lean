import Derived.Test.YtcneeepdclgdcaaGreatSE20
import Derived.Test.YtcneeepdclgdcaaGreatSE23
import Derived.Test.YtcneeepdclgdcaaGreatSE25
import Derived.Test.YtcneeepdclgdcaaGreatSE8
set_option maxRecDepth 100000
set_option maxHeartbeats 4000000
namespace Go.Proofs.YtcneeepdclgdcaaGreat
open _root_.List renaming drop_succ_cons->U1,take_succ_cons->U2,drop_zero->U4,take_zero->U5,getElem?_eq_getElem->U6
open Go.DataW renaming trod->U3
set_option linter.all false
open Go.Proofs.Tryz
section
open Go.RowKit Go.Shelf Go.ChangeShapes Go.WideShapes Go.Deep
def Q0.fits (e:Q0):Prop:=(Lit.int .i64 e.kind).wf=true/\(Lit.int .u64 e.id).wf=true/\(Lit.int .u64 e.dl).wf=true/\(Lit.int .u64 e.per).wf=true
section
variable {H:Type} {enc:TypeId × Value->H} {w:World} {base:Nat} {spare:Nat->Bool} {held:Bool}
theorem qzl {l:List Value} (h:l.length=4):∃ c0 c1 c2 c3,l=[c0,c1,c2,c3]:=by
 match l,h with
 | [c0,c1,c2,c3],_=>exact ⟨c0,c1,c2,c3,rfl⟩
theorem qln {n:Nat} {cs:List Value} {x:DataW H × List MemPlace} (h:U3 enc prog w base spare held n 38 cs=some x):∃ e:Q0,cs=e.cells.toList/\e.fits:=by
 obtain ⟨xs,n1,_,_,hl,hlen,hf⟩:=DataW.trod_struct underlying38 h;rw [show prog.cellsOf 38=4 from by kernel_rfl] at hl;obtain ⟨c0,c1,c2,c3,rfl⟩:=qzl hl;have hs:∀ i,i<4->(xs[i]?).isSome=true:=fun i hi=>by rw [U6 (by rw [hlen];exact hi)];rfl
 have f0:U3 enc prog w base spare held n1 3 (List.take (prog.cellsOf 3) (List.drop 0 [c0,c1,c2,c3]))=xs[0]?:=hf 0 _ rfl;simp only [show prog.cellsOf 3=1 from by kernel_rfl,U4,U1,U2,U5] at f0;have f1:U3 enc prog w base spare held n1 36 (List.take (prog.cellsOf 36) (List.drop 1 [c0,c1,c2,c3]))=xs[1]?:=hf 1 _ rfl;simp only [show prog.cellsOf 36=1 from by kernel_rfl,U4,U1,U2,U5] at f1;have f2:U3 enc prog w base spare held n1 36 (List.take (prog.cellsOf 36) (List.drop 2 [c0,c1,c2,c3]))=xs[2]?:=hf 2 _ rfl;simp only [show prog.cellsOf 36=1 from by kernel_rfl,U4,U1,U2,U5] at f2;have f3:U3 enc prog w base spare held n1 36 (List.take (prog.cellsOf 36) (List.drop 3 [c0,c1,c2,c3]))=xs[3]?:=hf 3 _ rfl;simp only [show prog.cellsOf 36=1 from by kernel_rfl,U4,U1,U2,U5] at f3;obtain ⟨z0,rfl,w0⟩:=AY underlying3 f0 (hs 0 (by omega));obtain ⟨z1,rfl,w1⟩:=AY underlying36 f1 (hs 1 (by omega));obtain ⟨z2,rfl,w2⟩:=AY underlying36 f2 (hs 2 (by omega));obtain ⟨z3,rfl,w3⟩:=AY underlying36 f3 (hs 3 (by omega));exact ⟨⟨z0,z1,z2,z3⟩,rfl,w0,w1,w2,w3⟩
end
structure nW where
 kind:Int
 n:Int
 c:Q0
def nW.cells (e:nW):List Value:=[.int .i64 e.kind,.int .i64 e.n,.int .i64 e.c.kind,.int .u64 e.c.id,.int .u64 e.c.dl,.int .u64 e.c.per]
def nW.zero:nW:=⟨0,0,⟨0,0,0,0⟩⟩
theorem Q0.fits.Mi {e:Q0} (h:e.fits):e.wf:=by
 obtain ⟨_,h1,h2,h3⟩:=h;have b1:=bounds_u64 h1;have b2:=bounds_u64 h2;have b3:=bounds_u64 h3;exact ⟨⟨b1.1,by omega⟩,⟨b2.1,by omega⟩,⟨b3.1,by omega⟩⟩
section
variable {H:Type} {enc:TypeId × Value->H} {w:World} {base:Nat} {spare:Nat->Bool} {held:Bool}
theorem q3e {l:List Value} (h:l.length=6):∃ c0 c1 c2 c3 c4 c5,l=[c0,c1,c2,c3,c4,c5]:=by
 match l,h with
 | [c0,c1,c2,c3,c4,c5],_=>exact ⟨c0,c1,c2,c3,c4,c5,rfl⟩
theorem qn1 {n:Nat} {cs:List Value} {x:DataW H × List MemPlace} (h:U3 enc prog w base spare held n 200 cs=some x):∃ e:nW,cs=e.cells/\e.c.wf:=by
 obtain ⟨xs,n1,_,_,hl,hlen,hf⟩:=DataW.trod_struct underlying200 h;rw [show prog.cellsOf 200=6 from by kernel_rfl] at hl;obtain ⟨c0,c1,c2,c3,c4,c5,rfl⟩:=q3e hl;have hs:∀ i,i<3->(xs[i]?).isSome=true:=fun i hi=>by rw [U6 (by rw [hlen];exact hi)];rfl
 have f0:U3 enc prog w base spare held n1 3 (List.take (prog.cellsOf 3) (List.drop 0 [c0,c1,c2,c3,c4,c5]))=xs[0]?:=hf 0 _ rfl;have f1:U3 enc prog w base spare held n1 3 (List.take (prog.cellsOf 3) (List.drop 1 [c0,c1,c2,c3,c4,c5]))=xs[1]?:=hf 1 _ rfl;have f2:U3 enc prog w base spare held n1 38 (List.take (prog.cellsOf 38) (List.drop 2 [c0,c1,c2,c3,c4,c5]))=xs[2]?:=hf 2 _ rfl;simp only [show prog.cellsOf 3=1 from by kernel_rfl,U4,U1,U2,U5] at f0 f1;simp only [show prog.cellsOf 38=4 from by kernel_rfl,U4,U1,U2,U5] at f2;obtain ⟨z0,rfl,w0⟩:=AY underlying3 f0 (hs 0 (by omega));obtain ⟨z1,rfl,w1⟩:=AY underlying3 f1 (hs 1 (by omega));obtain ⟨y,hy⟩:=Option.isSome_iff_exists.1 (hs 2 (by omega));obtain ⟨e,he,hw⟩:=qln (f2.trans hy);simp only [Q0.cells,List.cons.injEq,and_true] at he;obtain ⟨rfl,rfl,rfl,rfl⟩:=he;exact ⟨⟨z0,z1,e⟩,rfl,hw.Mi⟩
def DL (w:World) (a:Option Addr) (es:List nW):Prop:=es=[]\/∃ b off,a=some ⟨b,off,none⟩/\b<w.heap.size/\∀ i j,i<es.length->j<6->w.cell? ⟨b,off+(i*6+j),none⟩=(nW.cells (es.getD i nW.zero))[j]?
abbrev ActVs:=List nW
def IsActs20 (w:World) (a:Option Addr) (len cap:Nat) (es:ActVs):Prop:=es.length=len/\len<=9223372036854775807/\(∀ z∈es,z.c.wf)/\DL w a es
theorem open_acts20 {fuel:Nat} {a:Option Addr} {len cap:Nat} {x:DataW H × List MemPlace} (h:U3 enc prog w base spare held fuel 100 (Value.cells (.slice a len cap)).toList=some x):∃ es,IsActs20 w a len cap es:=by
 obtain ⟨es,h1,h2,hw,h3⟩:=qkr nW.zero (fun e=>e.c.wf) nW.cells 6 underlying100 (by kernel_rfl) (by decide) qn1 (fun _=>rfl) h;exact ⟨es,h1,h2,hw,h3⟩
end
end
end Go.Proofs.YtcneeepdclgdcaaGreat
