import Derived.Test.YtikpbibeagbccaaGreatGV20
import Derived.Test.YtikpbibeagbccaaGreatGV23
import Derived.Test.YtikpbibeagbccaaGreatGV25
import Derived.Test.YtikpbibeagbccaaGreatGV8
set_option maxRecDepth 100000
set_option maxHeartbeats 4000000
namespace Go.Proofs.YtikpbibeagbccaaGreat
set_option linter.unusedVariables false
set_option linter.unusedSimpArgs false
open Go.Proofs.Tryz
section
open Go.RowKit Go.Shelf Go.ChangeShapes Go.WideShapes Go.Deep
def Qr.fits (e:Qr):Prop:=(Lit.int .i64 e.kind).wf=true∧(Lit.int .u64 e.id).wf=true∧(Lit.int .u64 e.dl).wf=true∧(Lit.int .u64 e.per).wf=true
section
variable {H:Type} {enc:TypeId × Value→H} {w:World} {base:Nat} {spare:Nat→Bool} {held:Bool}
theorem quj {l:List Value} (h:l.length=4):∃ c0 c1 c2 c3,l=[c0,c1,c2,c3]:=by
 match l,h with
 | [c0,c1,c2,c3],_=>exact ⟨c0,c1,c2,c3,rfl⟩
theorem qiq {n:Nat} {cs:List Value} {x:DataW H × List MemPlace} (h:DataW.trod enc prog w base spare held n 32 cs=some x):∃ e:Qr,cs=e.cells.toList∧e.fits:=by
 obtain ⟨xs,n1,_,_,hl,hlen,hf⟩:=DataW.trod_struct underlying32 h;rw [show prog.cellsOf 32=4 from by kernel_rfl] at hl;obtain ⟨c0,c1,c2,c3,rfl⟩:=quj hl;have hs:∀ i,i<4→(xs[i]?).isSome=true:=fun i hi=>by rw [List.getElem?_eq_getElem (by rw [hlen];exact hi)];rfl
 have f0:DataW.trod enc prog w base spare held n1 3 (List.take (prog.cellsOf 3) (List.drop 0 [c0,c1,c2,c3]))=xs[0]?:=hf 0 _ rfl;simp only [show prog.cellsOf 3=1 from by kernel_rfl,List.drop_zero,List.drop_succ_cons,List.take_succ_cons,List.take_zero] at f0;have f1:DataW.trod enc prog w base spare held n1 30 (List.take (prog.cellsOf 30) (List.drop 1 [c0,c1,c2,c3]))=xs[1]?:=hf 1 _ rfl;simp only [show prog.cellsOf 30=1 from by kernel_rfl,List.drop_zero,List.drop_succ_cons,List.take_succ_cons,List.take_zero] at f1;have f2:DataW.trod enc prog w base spare held n1 30 (List.take (prog.cellsOf 30) (List.drop 2 [c0,c1,c2,c3]))=xs[2]?:=hf 2 _ rfl;simp only [show prog.cellsOf 30=1 from by kernel_rfl,List.drop_zero,List.drop_succ_cons,List.take_succ_cons,List.take_zero] at f2;have f3:DataW.trod enc prog w base spare held n1 30 (List.take (prog.cellsOf 30) (List.drop 3 [c0,c1,c2,c3]))=xs[3]?:=hf 3 _ rfl;simp only [show prog.cellsOf 30=1 from by kernel_rfl,List.drop_zero,List.drop_succ_cons,List.take_succ_cons,List.take_zero] at f3;obtain ⟨z0,rfl,w0⟩:=qcq underlying3 f0 (hs 0 (by omega));obtain ⟨z1,rfl,w1⟩:=qcq underlying30 f1 (hs 1 (by omega));obtain ⟨z2,rfl,w2⟩:=qcq underlying30 f2 (hs 2 (by omega));obtain ⟨z3,rfl,w3⟩:=qcq underlying30 f3 (hs 3 (by omega));exact ⟨⟨z0,z1,z2,z3⟩,rfl,w0,w1,w2,w3⟩
end
structure qm7 where
 kind:Int
 n:Int
 c:Qr
def qm7.cells (e:qm7):List Value:=[.int .i64 e.kind,.int .i64 e.n,.int .i64 e.c.kind,.int .u64 e.c.id,.int .u64 e.c.dl,.int .u64 e.c.per]
def qm7.zero:qm7:=⟨0,0,⟨0,0,0,0⟩⟩
theorem Qr.fits.toWf {e:Qr} (h:e.fits):e.wf:=by
 obtain ⟨_,h1,h2,h3⟩:=h;have b1:=bounds_u64 h1;have b2:=bounds_u64 h2;have b3:=bounds_u64 h3;exact ⟨⟨b1.1,by omega⟩,⟨b2.1,by omega⟩,⟨b3.1,by omega⟩⟩
section
variable {H:Type} {enc:TypeId × Value→H} {w:World} {base:Nat} {spare:Nat→Bool} {held:Bool}
theorem qyc {l:List Value} (h:l.length=6):∃ c0 c1 c2 c3 c4 c5,l=[c0,c1,c2,c3,c4,c5]:=by
 match l,h with
 | [c0,c1,c2,c3,c4,c5],_=>exact ⟨c0,c1,c2,c3,c4,c5,rfl⟩
theorem qmg {n:Nat} {cs:List Value} {x:DataW H × List MemPlace} (h:DataW.trod enc prog w base spare held n 34 cs=some x):∃ e:qm7,cs=e.cells∧e.c.wf:=by
 obtain ⟨xs,n1,_,_,hl,hlen,hf⟩:=DataW.trod_struct underlying34 h;rw [show prog.cellsOf 34=6 from by kernel_rfl] at hl;obtain ⟨c0,c1,c2,c3,c4,c5,rfl⟩:=qyc hl;have hs:∀ i,i<3→(xs[i]?).isSome=true:=fun i hi=>by rw [List.getElem?_eq_getElem (by rw [hlen];exact hi)];rfl
 have f0:DataW.trod enc prog w base spare held n1 3 (List.take (prog.cellsOf 3) (List.drop 0 [c0,c1,c2,c3,c4,c5]))=xs[0]?:=hf 0 _ rfl;have f1:DataW.trod enc prog w base spare held n1 3 (List.take (prog.cellsOf 3) (List.drop 1 [c0,c1,c2,c3,c4,c5]))=xs[1]?:=hf 1 _ rfl;have f2:DataW.trod enc prog w base spare held n1 32 (List.take (prog.cellsOf 32) (List.drop 2 [c0,c1,c2,c3,c4,c5]))=xs[2]?:=hf 2 _ rfl;simp only [show prog.cellsOf 3=1 from by kernel_rfl,List.drop_zero,List.drop_succ_cons,List.take_succ_cons,List.take_zero] at f0 f1;simp only [show prog.cellsOf 32=4 from by kernel_rfl,List.drop_zero,List.drop_succ_cons,List.take_succ_cons,List.take_zero] at f2;obtain ⟨z0,rfl,w0⟩:=qcq underlying3 f0 (hs 0 (by omega));obtain ⟨z1,rfl,w1⟩:=qcq underlying3 f1 (hs 1 (by omega));obtain ⟨y,hy⟩:=Option.isSome_iff_exists.1 (hs 2 (by omega));obtain ⟨e,he,hw⟩:=qiq (f2.trans hy);simp only [Qr.cells,List.cons.injEq,and_true] at he;obtain ⟨rfl,rfl,rfl,rfl⟩:=he;exact ⟨⟨z0,z1,e⟩,rfl,hw.toWf⟩
def qnb (w:World) (a:Option Addr) (es:List qm7):Prop:=es=[]∨∃ b off,a=some ⟨b,off,none⟩∧b<w.heap.size∧∀ i j,i<es.length→j<6→w.cell? ⟨b,off+(i*6+j),none⟩=(qm7.cells (es.getD i qm7.zero))[j]?
abbrev ActVs:=List qm7
def IsActs20 (w:World) (a:Option Addr) (len cap:Nat) (es:ActVs):Prop:=es.length=len∧len≤9223372036854775807∧(∀ z∈es,z.c.wf)∧qnb w a es
theorem open_acts20 {fuel:Nat} {a:Option Addr} {len cap:Nat} {x:DataW H × List MemPlace} (h:DataW.trod enc prog w base spare held fuel 22 (Value.cells (.slice a len cap)).toList=some x):∃ es,IsActs20 w a len cap es:=by
 obtain ⟨es,h1,h2,hw,h3⟩:=qg4 qm7.zero (fun e=>e.c.wf) qm7.cells 6 underlying22 (by kernel_rfl) (by decide) qmg (fun _=>rfl) h;exact ⟨es,h1,h2,hw,h3⟩
end
end
end Go.Proofs.YtikpbibeagbccaaGreat
