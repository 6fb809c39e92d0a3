import Derived.Test.YtblhfbcodbjgcaaGreatSV25
import Derived.Test.YtblhfbcodbjgcaaGreatSV24
import Derived.Test.YtblhfbcodbjgcaaGreatServicePicksM1
namespace Go.Proofs.YtblhfbcodbjgcaaGreat
set_option linter.unusedVariables false
set_option linter.unusedSimpArgs false
section
open Go.RowKit Go.Shelf Go.ChangeShapes Go.WideShapes Go.Deep
structure ActV where
 kind:Int
 n:Int
 c:CallC
def ActV.cells (e:ActV):List Value:=[.int .i64 e.kind,.int .i64 e.n,.int .i64 e.c.kind,.int .u64 e.c.id,.int .u64 e.c.dl,.int .u64 e.c.per]
def ActV.zero:ActV:=⟨0,0,⟨0,0,0,0⟩⟩
theorem CallC.fits.toWf {e:CallC} (h:e.fits):e.wf:=by
 obtain ⟨_,h1,h2,h3⟩:=h
 have b1:=bounds_u64 h1
 have b2:=bounds_u64 h2
 have b3:=bounds_u64 h3
 exact ⟨⟨b1.1,by omega⟩,⟨b2.1,by omega⟩,⟨b3.1,by omega⟩⟩
section
variable {H:Type} {enc:TypeId × Value→H} {w:World} {base:Nat} {spare:Nat→Bool} {held:Bool}
theorem act_len {l:List Value} (h:l.length=6):∃ c0 c1 c2 c3 c4 c5,l=[c0,c1,c2,c3,c4,c5]:=by
 match l,h with
 | [c0,c1,c2,c3,c4,c5],_=>exact ⟨c0,c1,c2,c3,c4,c5,rfl⟩
theorem act_of_trod {n:Nat} {cs:List Value} {x:DataW H × List MemPlace} (h:DataW.trod enc Tryz.prog w base spare held n 97 cs=some x):∃ e:ActV,cs=e.cells∧e.c.wf:=by
 obtain ⟨xs,n1,_,_,hl,hlen,hf⟩:=DataW.trod_struct Tryz.underlying97 h
 rw [show Tryz.prog.cellsOf 97=6 from by kernel_rfl] at hl
 obtain ⟨c0,c1,c2,c3,c4,c5,rfl⟩:=act_len hl
 have hs:∀ i,i<3→(xs[i]?).isSome=true:=fun i hi=>by rw [List.getElem?_eq_getElem (by rw [hlen];exact hi)];rfl
 have f0:DataW.trod enc Tryz.prog w base spare held n1 3 (List.take (Tryz.prog.cellsOf 3) (List.drop 0 [c0,c1,c2,c3,c4,c5]))=xs[0]?:=hf 0 _ rfl
 have f1:DataW.trod enc Tryz.prog w base spare held n1 3 (List.take (Tryz.prog.cellsOf 3) (List.drop 1 [c0,c1,c2,c3,c4,c5]))=xs[1]?:=hf 1 _ rfl
 have f2:DataW.trod enc Tryz.prog w base spare held n1 38 (List.take (Tryz.prog.cellsOf 38) (List.drop 2 [c0,c1,c2,c3,c4,c5]))=xs[2]?:=hf 2 _ rfl
 simp only [show Tryz.prog.cellsOf 3=1 from by kernel_rfl,List.drop_zero,List.drop_succ_cons,List.take_succ_cons,List.take_zero] at f0 f1
 simp only [show Tryz.prog.cellsOf 38=4 from by kernel_rfl,List.drop_zero,List.drop_succ_cons,List.take_succ_cons,List.take_zero] at f2
 obtain ⟨z0,rfl,w0⟩:=one_int Tryz.underlying3 f0 (hs 0 (by omega))
 obtain ⟨z1,rfl,w1⟩:=one_int Tryz.underlying3 f1 (hs 1 (by omega))
 obtain ⟨y,hy⟩:=Option.isSome_iff_exists.1 (hs 2 (by omega))
 obtain ⟨e,he,hw⟩:=call_of_trod (f2.trans hy)
 simp only [CallC.cells,List.cons.injEq,and_true] at he
 obtain ⟨rfl,rfl,rfl,rfl⟩:=he
 exact ⟨⟨z0,z1,e⟩,rfl,hw.toWf⟩
def ActsAt (w:World) (a:Option Addr) (es:List ActV):Prop:=es=[]∨∃ b off,a=some ⟨b,off,none⟩∧b<w.heap.size∧∀ i j,i<es.length→j<6→w.cell? ⟨b,off+(i*6+j),none⟩=(ActV.cells (es.getD i ActV.zero))[j]?
abbrev ActVs:=List ActV
def IsActs20 (w:World) (a:Option Addr) (len cap:Nat) (es:ActVs):Prop:=es.length=len∧len≤9223372036854775807∧(∀ z∈es,z.c.wf)∧ActsAt w a es
theorem open_acts20 {fuel:Nat} {a:Option Addr} {len cap:Nat} {x:DataW H × List MemPlace} (h:DataW.trod enc Tryz.prog w base spare held fuel 93 (Value.cells (.slice a len cap)).toList=some x):∃ es,IsActs20 w a len cap es:=by
 obtain ⟨es,h1,h2,hw,h3⟩:=open_structs' ActV.zero (fun e=>e.c.wf) ActV.cells 6 Tryz.underlying93 (by kernel_rfl) (by decide) act_of_trod (fun _=>rfl) h
 exact ⟨es,h1,h2,hw,h3⟩
end
end
end Go.Proofs.YtblhfbcodbjgcaaGreat
