import Derived.Test.YtblhfbcodbjgcaaGreatSV16
import Derived.Deep.Slices
import Derived.ChangeSame
import Derived.ProofKit
import Derived.OpenShut
namespace Go.Proofs.YtblhfbcodbjgcaaGreat
set_option linter.unusedVariables false
set_option linter.unusedSimpArgs false
section
open Go.RowKit Go.Shelf Go.ChangeShapes Go.WideShapes Go.Deep
def Cfg.wf (e:Cfg):Prop:=(Lit.int .i64 e.sh).wf=true∧(Lit.int .i64 e.cap).wf=true∧(Lit.int .i64 e.ring).wf=true∧(Lit.int .i64 e.room).wf=true∧(Lit.int .i64 e.wk).wf=true∧(Lit.int .i64 e.cli).wf=true
def EvS.wf (e:EvS):Prop:=(Lit.int .i64 e.kind).wf=true∧(Lit.int .i64 e.thread).wf=true∧(Lit.int .i64 e.call).wf=true∧(Lit.int .i64 e.what).wf=true∧(Lit.int .u64 e.id).wf=true∧(Lit.int .u64 e.gen).wf=true∧(Lit.int .u64 e.dl).wf=true∧(Lit.int .u64 e.per).wf=true∧(Lit.int .u64 e.tick).wf=true∧(Lit.int .i64 e.err).wf=true
section
variable {H:Type} {enc:TypeId × Value→H} {w:World} {base:Nat} {spare:Nat→Bool} {held:Bool}
theorem one_int {t:TypeId} {k:IntKind} {n:Nat} {c:Value} {x:Option (DataW H × List MemPlace)} (ht:Tryz.prog.underlying t=some (.int k)) (h:DataW.trod enc Tryz.prog w base spare held n t [c]=x) (hx:x.isSome=true) :
 ∃ z,c=.int k z∧(Lit.int k z).wf=true:=by
 obtain ⟨y,hy⟩:=Option.isSome_iff_exists.1 hx
 obtain ⟨z,hz,_,hw⟩:=DataW.trod_int ht (h.trans hy)
 exact ⟨z,by simpa using hz,hw⟩
theorem agg_open {S:Type} {cells:S→Array Value} {wf:S→Prop} {t:TypeId} {cs:Array Value} {x:DataW H × List MemPlace}
 (hl:∀ {n:Nat} {l:List Value} {x:DataW H × List MemPlace},DataW.trod enc Tryz.prog w base spare held n t l=some x→∃ e:S,l=(cells e).toList∧wf e)
 (h:∃ fuel,DataW.trod enc Tryz.prog w base spare held fuel t (Value.cells (.agg cs)).toList=some x):∃ e:S,cs=cells e∧wf e:=by
 obtain ⟨fuel,hf⟩:=h
 obtain ⟨e,he,hw⟩:=hl hf
 exact ⟨e,by simpa [Value.cells] using he,hw⟩
end
end
end Go.Proofs.YtblhfbcodbjgcaaGreat
