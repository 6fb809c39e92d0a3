import Derived.Test.YtcneeepdclgdcaaGreatSE4
import Derived.Test.YtcneeepdclgdcaaGreatChecked
import Derived.Deep.Slices
import Derived.ChangeSame
import Derived.ProofKit
import Derived.OpenShut
set_option maxRecDepth 100000
set_option maxHeartbeats 4000000
namespace Go.Proofs.YtcneeepdclgdcaaGreat
open _root_.List renaming getD_eq_getElem?_getD->U1,getElem?_eq_getElem->U2
open Go.DataW renaming trod->U3
set_option linter.all false
open Go.Proofs.Tryz
section
open Go.RowKit Go.Shelf Go.ChangeShapes Go.WideShapes Go.Deep
section
variable {H:Type} {enc:TypeId × Value->H} {w:World} {base:Nat} {spare:Nat->Bool} {held:Bool}
theorem qof {α:Type} (z:α) {q:Nat->α->Prop} (n:Nat) (h:∀ i,i<n->∃ e,q i e):∃ es:List α,es.length=n/\∀ i,i<n->q i (es.getD i z):=by
 induction n with
 | zero=>exact ⟨[],rfl,fun i hi=>by omega⟩
 | succ n ih =>
   obtain ⟨es,hl,hq⟩:=ih (fun i hi=>h i (by omega));obtain ⟨e,he⟩:=h n (by omega);refine ⟨es++[e],by simp [hl],fun i hi=>?_⟩
   by_cases hin:i<n
   ·rw [U1,List.getElem?_append_left (by omega),<- U1];exact hq i hin
   ·obtain rfl:i=n:=by omega
    rw [U1,List.getElem?_append_right (by omega),hl];simpa using he
theorem qkr {α:Type} (z:α) (wf:α->Prop) (cells:α->List Value) (sz:Nat) {T E:TypeId} (hT:prog.underlying T=some (.slice E)) (hsz:prog.cellsOf E=sz) (hpos:0<sz)
 (hl:∀ {n:Nat} {cs:List Value} {x:DataW H × List MemPlace},U3 enc prog w base spare held n E cs=some x->∃ e:α,cs=cells e/\wf e) (hc:∀ e,(cells e).length=sz)
 {fuel:Nat} {a:Option Addr} {len cap:Nat} {x:DataW H × List MemPlace} (h:U3 enc prog w base spare held fuel T (Value.cells (.slice a len cap)).toList=some x) :
 ∃ es:List α,es.length=len/\len<=9223372036854775807/\(∀ e∈es,wf e)/\(es=[]\/∃ b off,a=some ⟨b,off,none⟩/\b<w.heap.size/\∀ i j,i<es.length->j<sz->w.cell? ⟨b,off+(i*sz+j),none⟩=(cells (es.getD i z))[j]?):=by
 rcases open_slice hT h with ⟨hcs,_⟩ | ⟨x,l,c,m,n,D,Pl,hcs,hb,hl',hm,hmm,_,hx⟩
 ·simp [Value.cells] at hcs
  obtain ⟨rfl,rfl,rfl⟩:=hcs;exact ⟨[],rfl,by omega,fun e he=>(by cases he),.inl rfl⟩
 ·simp [Value.cells] at hcs
  obtain ⟨rfl,rfl,rfl⟩:=hcs;have hlm:len<=m:=by rw [hmm];split <;> omega
  obtain ⟨es,hel,hq⟩:=qof z (q:=fun i e=>(∀ j,j<sz->w.cell? (x.add (i*sz+j))=(cells e)[j]?)/\wf e) len (fun i hi=>by
   obtain ⟨cs',h1,h2⟩:=hx i (by omega);rw [hsz] at h1;obtain ⟨e,rfl,Iu⟩:=hl h2;obtain ⟨_,_,hc'⟩:=World.cells?_some h1
   exact ⟨e,fun j hj=>by rw [<- Go.Deep.add_add];exact hc' j hj,Iu⟩)
  refine ⟨es,hel,by unfold maxLen at hm;omega,fun e he=>(by
   obtain ⟨i,hi,rfl⟩:=List.getElem_of_mem he;have:=(hq i (by omega)).2
   rwa [U1,U2 hi] at this),?_⟩
  by_cases h0:len=0
  ·exact .inl (List.eq_nil_of_length_eq_zero (by omega))
  ·obtain ⟨b,off,spot⟩:=x
   obtain ⟨v0,hv0⟩:∃ v,(cells (es.getD 0 z))[0]?=some v:=⟨_,U2 (by rw [hc];exact hpos)⟩;have hc0:=((hq 0 (by omega)).1 0 hpos).trans hv0
   have hspot:spot=none:=by
    have:=World.cell?_spot hc0;simpa [Addr.add] using this
   subst hspot;refine .inr ⟨b,off,rfl,?_,fun i j hi hj=>?_⟩
   ·obtain ⟨o,ho,_⟩:=cells_of_cell hc0
    rw [show ((⟨b,off,none⟩:Addr).add (0*sz+0))=⟨b,off+(0*sz+0),none⟩ from add_plain _ _ _] at ho;exact (Array.getElem?_eq_some_iff.1 ho).1
   ·have h1:=(hq i (by omega)).1 j hj
    rwa [show ((⟨b,off,none⟩:Addr).add (i*sz+j))=⟨b,off+(i*sz+j),none⟩ from add_plain _ _ _] at h1
end
end
end Go.Proofs.YtcneeepdclgdcaaGreat
