import Derived.RangeFuncIn
import Derived.RangeFuncOwn
import Derived.RangeFuncLeaves
import Derived.RangeFuncCalls
import Derived.RangeFuncBound
import Derived.Shelf.Abstract
import Derived.Deep.QuietTactic
import Derived.RangeFuncBox
set_option maxRecDepth 100000
set_option maxHeartbeats 4000000
namespace Go.Proofs.YtcneeepdclgdcaaGreat
open Go.World renaming putObj_heap_other->WK,putObj_size->WM
open _root_.Array renaming getElem?_eq_some_iff->WL
open Go.Ending renaming returned->WN
open _root_.Nat renaming lt_of_lt_of_le->WO,le_trans->WS,le_refl->WU
open Go.Fence renaming wide->WQ
open Go renaming Program->WR,callsIn_wide->WT
set_option linter.all false
section
open Go.RowKit Go.Shelf
structure qj (S:Nat->Prop) (w w':World):Prop where
 os:w'.os=w.os
 tape:w'.tape=w.tape
 output:w'.output=w.output
 size:w.heap.size<=w'.heap.size
 block:∀ k,k<w.heap.size->¬ S k->w'.heap[k]?=w.heap[k]?
section
variable {S S':Nat->Prop} {a b c w w':World}
theorem qj.refl (S:Nat->Prop) (w:World):qj S w w:=⟨rfl,rfl,rfl,WU _,fun _ _ _=>rfl⟩
theorem qj.mono (h:qj S a b) (hs:∀ k,k<a.heap.size->S k->S' k):qj S' a b :=
 ⟨h.os,h.tape,h.output,h.size,fun k hk hn=>h.block k hk (fun x=>hn (hs k hk x))⟩
theorem qj.trans' (h:qj S a b) (k:qj S' b c) (hs:∀ k,k<a.heap.size->S' k->S k):qj S a c :=
 ⟨k.os.trans h.os,k.tape.trans h.tape,k.output.trans h.output,WS h.size k.size,fun i hi hn=>(k.block i (WO hi h.size) (fun x=>hn (hs i hi x))).trans (h.block i hi hn)⟩
theorem qj.drew (h:qj S a w):qj S a w.drew:=⟨h.os,h.tape,h.output,h.size,h.block⟩
theorem qj.drewN (h:qj S a w) (n:Nat):qj S a (w.drewN n):=⟨h.os,h.tape,h.output,h.size,h.block⟩
theorem qj.alloc (h:qj S a w) (o:Obj):qj S a (w.alloc o) :=
 ⟨h.os,h.tape,h.output,by rw [World.size_alloc];exact Nat.le_succ_of_le h.size,fun k hk hn=>(Below.heap_alloc w o k (WO hk h.size)).trans (h.block k hk hn)⟩
theorem Zs (w:World) (p:Addr) (v:Value):(w.setCell p v).heap.size=w.heap.size:=by
 show (w.heap.modify _ _).size=_;rw [Array.size_modify]
theorem qj.setCell (h:qj S a w) (p:Addr) (hp:S p.block\/a.heap.size<=p.block) (v:Value):qj S a (w.setCell p v) :=
 ⟨h.os,h.tape,h.output,by rw [Zs];exact h.size,fun k hk hn=>(Below.heap_setCell w p v k (fun e=>by
   rcases hp with hp | hp
   ·exact hn (e ▸ hp)
   ·omega)).trans (h.block k hk hn)⟩
theorem qj.putObj (h:qj S a w) (r:Nat) (hp:S r\/a.heap.size<=r) (o:Obj):qj S a (w.putObj r o) :=
 ⟨h.os,h.tape,h.output,by rw [WM];exact h.size,fun k hk hn=>(WK (fun e=>by
   rcases hp with hp | hp
   ·exact hn (e ▸ hp)
   ·omega)).trans (h.block k hk hn)⟩
theorem qj.below {B:Nat} (h:qj S a b) (hs:∀ k,k<a.heap.size->S k->B<=k) (hB:B<=a.heap.size):Below B a b :=
 ⟨h.os,h.tape,h.output,h.size,fun k hk=>h.block k (WO hk hB) (fun x=>by have:=hs k (WO hk hB) x;omega)⟩
end
theorem Q5 {w:World} {B:Nat} {C:Array Value} {T:TypeId} {fr:Nat × Nat} (h:w.heap[B]?=some (.cells C T fr)) (o:Nat):w.cell? ⟨B,o,none⟩=C[o]?:=by
 simp [World.cell?,h]
theorem Xw {w:World} {B:Nat} {C:Array Value} {T:TypeId} (h:w.heap[B]?=some (.cells C T (0,0))) (o:Nat):w.frozen? ⟨B,o,none⟩=false:=by
 simp [World.frozen?,h]
theorem qj.blk {S:Nat->Prop} {a b:World} (h:qj S a b) {B:Nat} {o:Obj} (hB:a.heap[B]?=some o) (hn:¬ S B):b.heap[B]?=some o :=
 (h.block B (WL.1 hB).1 hn).trans hB
theorem alloc_old {w:World} {B:Nat} {o:Obj} (hB:w.heap[B]?=some o) (o':Obj):(w.alloc o').heap[B]?=some o :=
 (Below.heap_alloc w o' B (WL.1 hB).1).trans hB
theorem Bl {w:World} {B:Nat} (o:Obj) (hB:B=w.heap.size):(w.alloc o).heap[B]?=some o:=by subst hB;exact World.alloc_heap_new w o
def CU (lo c k:Nat):Prop:=lo<=k/\k<lo+c
def BR (lo c:Nat) (J:Nat->World->Prop):Prop:=∀ k W W',J k W->lo<=W.heap.size->qj (CU lo c) W W'->J k W'
structure Yj (lo c:Nat) (W W':World):Prop where
 size:W.heap.size<=W'.heap.size
 block:∀ k,lo<=k->k<lo+c->W'.heap[k]?=W.heap[k]?
theorem Yj.wW {lo c:Nat} {S:Nat->Prop} {A B:World} (h:qj S A B) (hl:lo+c<=A.heap.size) (hs:∀ k,lo<=k->k<lo+c->¬ S k):Yj lo c A B :=
 ⟨h.size,fun i a b=>h.block i (by omega) (hs i a b)⟩
def NZ (P:WR) (g:Nat) (lb:Array Value) (c:Nat) (N:Nat) (xs:Nat->Array Value) (T:Nat->World->Prop) (W:World):Prop :=
 ∀ (l:Nat) (J Jx:Nat->World->Prop),BR W.heap.size c J->BR W.heap.size c Jx->(∀ k W',k<=N->J k W'->T k W') ->
   (∀ (k:Nat) (hk:k<N) (W1:World),J k W1->W.heap.size+c<=W1.heap.size->YieldAt WQ 0 P l (xs k) W1 fun e W' =>
     Yj W.heap.size c W1 W'/\((e=WN (.bool true)/\J (k+1) W')\/(e=WN (.bool false)/\Jx (k+1) W'))) ->
   J 0 W ->
   Calls P g (#[.func (.yield l) #[] #[]]++lb) W fun e W'=>(∃ v,e=WN v)/\(J N W'\/∃ k,k<N/\Jx (k+1) W')
def TN (lo c:Nat) (I:Nat->World->Prop) (Ix:Nat->Code->World->Prop) (k:Nat) (W:World):Exit->Act->World->Prop
 | .normal,_,W'=>Yj lo c W W'/\I k W'
 | .ret,_,W'=>Yj lo c W W'/\Ix k .ret W'
 | .exit id,_,W'=>Yj lo c W W'/\Ix k (.exit id) W'
 | .goto t,_,W'=>Yj lo c W W'/\Ix k (.goto t) W'
 | .panic _,_,_=>False
 | .outgrown,_,_=>False
theorem qum {F:Fence} {P:WR} {gf:Nat} {lb:Array Value} {c:Nat} {N:Nat} {xs:Nat->Array Value} {T:Nat->World->Prop} {ps:Array Tmp} {assign body:Code}
 {Q:Exit->Act->World->Prop} {a':Act} {W1:World} {lo m L fn dd:Nat} {tmps:Array Value} (rec:LoopState->Option Code->Loop)
 (hrec:rec=fun st pe=>{ state:=st,pending:=pe,fn,tmps,params:=ps,assign,body,defers:=dd })
 (hlo:lo<=L) (hL:L<lo+m) (hsz:W1.heap.size=lo+m) (hl1:W1.heap[L]?=some (.loop (rec .ready none)))
 (hit:NZ P gf lb c N xs T W1) (hps:∀ (k:Nat) (hk:k<N),(xs k).size=ps.size)
 (I:Nat->World->Prop) (Ix:Nat->Code->World->Prop) (hI:BR lo (m+c) I) (hIx:∀ cd,BR lo (m+c) (fun k=>Ix k cd))
 (hT:∀ k W,k<=N->I k W->T k W) (h0:I 0 W1)
 (hbody:∀ (k:Nat) (hk:k<N) (W:World),I k W->lo+m+c<=W.heap.size->(∃ r,W.heap[L]?=some (.loop r)/\r.defers=dd) ->
   assign.wpIn (Fence.wide.inRound L) 0 P (Exit.then (fun a₁ Wa=>Yj lo (m+c) W Wa /\
    ∀ Wb,qj (fun j=>j=L) Wa Wb->Wb.heap.size=Wa.heap.size->(∃ r,Wb.heap[L]?=some (.loop r)/\r.defers=dd)->body.wpIn (Fence.wide.inRound L) 0 P (TN lo (m+c) I Ix (k+1) Wb) a₁ Wb) (fun _ _ _=>False))
    { tmps:=(ps.zip (xs k)).foldl (fun t (p,v)=>t.setIfInBounds p v) tmps,defers:=[] } W)
 (hdone:∀ W,I N W->(∀ j,lo<=j->j<lo+m->j≠L->W.heap[j]?=W1.heap[j]?)->Q .normal a' W)
 (hstop:∀ k cd W,k<N->Ix (k+1) cd W->(∀ j,lo<=j->j<lo+m->j≠L->W.heap[j]?=W1.heap[j]?)->cd.wpIn F 0 P Q a' W) :
 Calls P gf (#[.func (.yield L) #[] #[]]++lb) W1 (rangePost F 0 P L Q a'):=by
 have hwin:∀ k,CU (lo+m) c k->CU lo (m+c) k:=fun k h=>⟨by have:=h.1;omega,by have:=h.2;omega⟩
 -- the turn of the record
 have hput:∀ (W:World) (o:Obj),qj (CU lo (m+c)) W (W.putObj L o):=fun W o=>(qj.refl _ W).putObj L (.inl ⟨hlo,by omega⟩) o
 have DD:∀ (W:World) (o:Obj),qj (fun j=>j=L) W (W.putObj L o):=fun W o=>qj.putObj (S:=fun j=>j=L) (qj.refl _ W) L (.inl rfl) o
 refine (hit L (fun k W=>I k W/\W.heap[L]?=some (.loop (rec .ready none))/\(∀ j,lo<=j->j<lo+m->j≠L->W.heap[j]?=W1.heap[j]?)/\lo+m<=W.heap.size)
  (fun k W=>∃ cd,Ix k cd W/\W.heap[L]?=some (.loop (rec .done (some cd)))/\(∀ j,lo<=j->j<lo+m->j≠L->W.heap[j]?=W1.heap[j]?)/\lo+m<=W.heap.size) ?_ ?_ ?_ ?_ ?_).mono ?_
 ·rintro k W W' ⟨hi,hr,hs,hz⟩ hle ho
  rw [hsz] at ho;refine ⟨hI k W W' hi (by omega) (ho.mono fun k _ h=>hwin k h),(ho.block L (by omega) (fun x=>by have:=x.1;omega)).trans hr,fun j h1 h2 h3=>(ho.block j (by omega) (fun x=>by have:=x.1;omega)).trans (hs j h1 h2 h3),WS hz ho.size⟩
 ·rintro k W W' ⟨cd,hi,hr,hs,hz⟩ hle ho
  rw [hsz] at ho;refine ⟨cd,hIx cd k W W' hi (by omega) (ho.mono fun k _ h=>hwin k h),(ho.block L (by omega) (fun x=>by have:=x.1;omega)).trans hr,fun j h1 h2 h3=>(ho.block j (by omega) (fun x=>by have:=x.1;omega)).trans (hs j h1 h2 h3),WS hz ho.size⟩
 ·rintro k W hk ⟨hi,_⟩;exact hT k W hk hi
 ·rintro k hk W ⟨hi,hr,hs,hz⟩ hle
  rw [hsz] at hle |-;have hy:=run_yield (P:=P) (args:=(xs k)) hr (by rw [hrec];exact hps k hk);rw [hrec] at hy;refine ⟨fn,_,assign,body,hy,roundIn_of_wpIn trivial ?_⟩
  clear hy;refine wpIn_mono (hbody k hk W hi hle ⟨_,hr,by rw [hrec]⟩) ?_
  intro e a₁ Wa hex;cases e with
  | normal =>
    obtain ⟨hka,hb⟩:=hex;have hra:Wa.heap[L]?=some (.loop (rec .ready none)):=(hka.block L hlo (by omega)).trans hr;have hLa:L<Wa.heap.size:=(WL.1 hra).1;refine ⟨_,run_beginRound hra (by rw [hrec]),?_⟩
    have hr2:(Wa.putObj L (.loop { rec .ready none with state:=.busy })).heap[L]?=some (.loop { rec .ready none with state:=.busy }):=World.putObj_heap_same hLa;refine wpIn_mono (hb _ (DD _ _) WM ⟨_,hr2,by rw [hrec]⟩) ?_
    have fin:∀ (jump:Option Code) (W3:World),Yj lo (m+c) (Wa.putObj L (.loop { rec .ready none with state:=.busy })) W3 ->
     (Instr.endRound L jump).run P W3=.ok (.bool jump.isNone) (W3.putObj L (.loop (rec (if jump.isNone then .ready else .done) jump))) /\
     (W3.putObj L (.loop (rec (if jump.isNone then .ready else .done) jump))).heap[L]?=some (.loop (rec (if jump.isNone then .ready else .done) jump)) /\
     Yj (lo+m) c W (W3.putObj L (.loop (rec (if jump.isNone then .ready else .done) jump))) /\
     (∀ j,lo<=j->j<lo+m->j≠L->(W3.putObj L (.loop (rec (if jump.isNone then .ready else .done) jump))).heap[j]?=W1.heap[j]?) /\
     lo+m<=(W3.putObj L (.loop (rec (if jump.isNone then .ready else .done) jump))).heap.size/\lo<=W3.heap.size:=by
     intro jump W3 hk3;have hr3:W3.heap[L]?=some (.loop { rec .ready none with state:=.busy }):=(hk3.block L hlo (by omega)).trans hr2;have hz3:=hk3.size;rw [WM] at hz3;have hza:=hka.size;have he:=run_endRound (P:=P) jump hr3;refine ⟨?_,World.putObj_heap_same (WL.1 hr3).1,⟨by rw [WM];omega,fun j h1 h2=>?_⟩,fun j h1 h2 h3=>?_,by rw [WM];omega,by omega⟩
     ·rw [hrec] at he |-;exact he
     ·exact (WK (by omega)).trans (((hk3.block j (by omega) (by omega)).trans (WK (by omega))).trans (hka.block j (by omega) (by omega)))
     ·exact (WK h3).trans (((hk3.block j h1 (by omega)).trans (WK h3)).trans ((hka.block j h1 (by omega)).trans (hs j h1 h2 h3)))
    intro ex a₂ W3 hp;cases ex with
    | normal =>
      obtain ⟨hk3,hi3⟩:=hp;obtain ⟨h1,h2,h3,h4,h5,h6⟩:=fin none W3 hk3;exact ⟨_,_,h1,h3,.inl ⟨rfl,hI _ _ _ hi3 h6 (hput _ _),h2,h4,h5⟩⟩
    | ret =>
      obtain ⟨hk3,hi3⟩:=hp;obtain ⟨h1,h2,h3,h4,h5,h6⟩:=fin (some .ret) W3 hk3;exact ⟨_,_,h1,h3,.inr ⟨rfl,.ret,hIx _ _ _ _ hi3 h6 (hput _ _),h2,h4,h5⟩⟩
    | exit id =>
      obtain ⟨hk3,hi3⟩:=hp;obtain ⟨h1,h2,h3,h4,h5,h6⟩:=fin (some (.exit id)) W3 hk3;exact ⟨_,_,h1,h3,.inr ⟨rfl,.exit id,hIx _ _ _ _ hi3 h6 (hput _ _),h2,h4,h5⟩⟩
    | goto t =>
      obtain ⟨hk3,hi3⟩:=hp;obtain ⟨h1,h2,h3,h4,h5,h6⟩:=fin (some (.goto t)) W3 hk3;exact ⟨_,_,h1,h3,.inr ⟨rfl,.goto t,hIx _ _ _ _ hi3 h6 (hput _ _),h2,h4,h5⟩⟩
    | panic ch=>exact hp.elim
    | outgrown=>exact hp.elim
  | ret=>exact hex.elim
  | exit id=>exact hex.elim
  | goto t=>exact hex.elim
  | panic ch=>exact hex.elim
  | outgrown=>exact hex.elim
 ·exact ⟨h0,hl1,fun _ _ _ _=>rfl,by omega⟩
 ·rintro e W2 ⟨⟨v,rfl⟩,(⟨hi,hr,hs,hz⟩ | ⟨k,hk,cd,hi,hr,hs,hz⟩)⟩
  ·have he:=run_endLoop (P:=P) hr (by rw [hrec];simp)
   have hp:(rec .ready none).pending=none:=by rw [hrec]
   refine ⟨none,_,by rw [he,hp],?_⟩
   exact hdone _ (hI _ _ _ hi (by omega) (hput _ _)) (fun j h1 h2 h3=>(WK h3).trans (hs j h1 h2 h3))
  ·have he:=run_endLoop (P:=P) hr (by rw [hrec];simp)
   have hp:(rec .done (some cd)).pending=some cd:=by rw [hrec]
   refine ⟨some cd,_,by rw [he,hp],?_⟩
   exact hstop k cd _ hk (hIx cd _ _ _ hi (by omega) (hput _ _)) (fun j h1 h2 h3=>(WK h3).trans (hs j h1 h2 h3))
abbrev rC (B:Nat):Deferred:={ target:=.collected B,args:=#[] }
theorem q3r {P:WR} {g:Operand} {ps:Array Tmp} {assign body:Code} {Q:Exit->Act->World->Prop} {a:Act} {w:World} {gf:Nat} {lb:Array Value}
 (hg:a.eval g=.func (.func gf) #[] lb) (eg:∀ args w,(callFunc gf args).run P w=.ok (.enter gf args) w)
 (c:Nat) (N:Nat) (xs:Nat->Array Value) (T:Nat->World->Prop)
 (hit:∀ W1,qj (fun _=>False) w W1->W1.heap.size=w.heap.size+2->NZ P gf lb c N xs T W1)
 (hps:∀ (k:Nat) (hk:k<N),(xs k).size=ps.size)
 (I:Nat->World->Prop) (Ix:Nat->Code->World->Prop) (hI:BR w.heap.size (2+c) I) (hIx:∀ cd,BR w.heap.size (2+c) (fun k=>Ix k cd))
 (hT:∀ k W,k<=N->I k W->T k W) (h0:I 0 w)
 (hbody:∀ (k:Nat) (hk:k<N) (W:World),I k W->w.heap.size+2+c<=W.heap.size->(∃ r,W.heap[w.heap.size+1]?=some (.loop r)/\r.defers=w.heap.size) ->
   assign.wpIn (Fence.wide.inRound (w.heap.size+1)) 0 P (Exit.then (fun a₁ Wa=>Yj w.heap.size (2+c) W Wa /\
    ∀ Wb,qj (fun j=>j=w.heap.size+1) Wa Wb->Wb.heap.size=Wa.heap.size->(∃ r,Wb.heap[w.heap.size+1]?=some (.loop r)/\r.defers=w.heap.size) ->
      body.wpIn (Fence.wide.inRound (w.heap.size+1)) 0 P (TN w.heap.size (2+c) I Ix (k+1) Wb) a₁ Wb) (fun _ _ _=>False))
    { tmps:=(ps.zip (xs k)).foldl (fun t (p,v)=>t.setIfInBounds p v) a.tmps,defers:=[] } W)
 (hdone:∀ W,I N W->W.heap[w.heap.size]?=some (.deferred (some []))->Q .normal { a with defers:=rC w.heap.size::a.defers } W)
 (hstop:∀ k cd W,k<N->Ix (k+1) cd W->W.heap[w.heap.size]?=some (.deferred (some []))->cd.wp P Q { a with defers:=rC w.heap.size::a.defers } W) :
 (Code.rangeFunc g ps assign body).wp P Q a w:=by
 refine (wpIn_wide (n:=0)).1 (wpIn_rangeFunc ?_)
 intro fn hfn;obtain ⟨rec,hrec⟩:∃ rec:LoopState->Option Code->Loop,rec=fun st pe=>{ state:=st,pending:=pe,fn,tmps:=a.tmps,params:=ps,assign,body,defers:=w.heap.size }:=⟨_,rfl⟩
 obtain ⟨W1,hW1⟩:∃ W1,(w.alloc (.deferred (some []))).alloc (.loop (rec .ready none))=W1:=⟨_,rfl⟩;have hsz:W1.heap.size=w.heap.size+2:=by rw [<- hW1];simp
 have hL1:W1.heap[w.heap.size+1]?=some (.loop (rec .ready none)):=by
  rw [<- hW1];have:=World.alloc_heap_new (w.alloc (.deferred (some []))) (.loop (rec .ready none));rwa [World.size_alloc] at this
 have hK1:W1.heap[w.heap.size]?=some (.deferred (some [])):=by
  rw [<- hW1];exact (Below.heap_alloc _ _ _ (by simp)).trans (World.alloc_heap_new w _)
 have ho:∀ S,qj S w W1:=fun S=>by rw [<- hW1];exact ((qj.refl S w).alloc _).alloc _
 refine ⟨w.heap.size+1,[rC w.heap.size],W1,{ target:=.fn (.func gf) lb,args:=#[.func (.yield (w.heap.size+1)) #[] #[]] },W1,gf,
  #[.func (.yield (w.heap.size+1)) #[] #[]]++lb,W1,?_,?_,?_,?_,?_,?_⟩
 ·rw [<- hW1,hrec];exact run_enterLoop_outer _ _ _ _ _
 ·simp only [resolve,hg]
  simp [go_sem]
 ·intro f' hf';trivial
 ·simp [invoke,go_sem,eg]
 ·intro h;simp [WQ] at h
 ·refine WT.2 (qum rec hrec (lo:=w.heap.size) (m:=2) (by omega) (by omega) hsz hL1 (hit W1 (ho _) hsz) hps I Ix hI hIx hT (hI 0 w W1 h0 (WU _) (ho _)) hbody ?_ ?_)
  ·intro W hi hs
   exact hdone W hi ((hs _ (by omega) (by omega) (by omega)).trans hK1)
  ·intro k cd W hk hi hs
   exact (wpIn_wide (n:=0)).2 (hstop k cd W hk hi ((hs _ (by omega) (by omega) (by omega)).trans hK1))
theorem Xf {P:WR} {f:FuncId} {fn:Func} {c:Code} {args:Array Value} {w:World} {R:Ending->World->Prop}
 (hf:P.funcs[f]?=some fn) (hb:fn.body=some c)
 (h:c.wp P (bodyPostM WQ 0 P fn R) { tmps:=args++Array.replicate (fn.ntmps - args.size) undef,defers:=[] } w):Calls P f args w R :=
 (WT (n:=0)).1 (callsIn_of_wp_marks hf hb trivial (wpIn_wide.2 h))
theorem Z5 {P:WR} {fn:Func} {R:Ending->World->Prop} {tmps:Array Value} {W:World} {D:Nat} {v:Value} (hK:W.heap[D]?=some (.deferred (some [])))
 (hres:(results fn tmps).run P (W.putObj D (.deferred none))=.ok v (W.putObj D (.deferred none))) (hR:R (WN v) (W.putObj D (.deferred none))) :
 bodyPostM WQ 0 P fn R .ret { tmps,defers:=[rC D] } W :=
 ⟨by simp,.inl ⟨_,_,rfl,run_takeDeferred hK,⟨_,hres,hR⟩⟩⟩
theorem qut (l n:Nat):(Fence.wide.inRound l).room n:=fun _ h=>by simp [WQ,Fence.inRound] at h
theorem Xq {l n:Nat} {P:WR} {c:Code} {Q:Exit->Act->World->Prop} {a:Act} {w:World} (h:c.wpIn (Fence.wide.inRound l) n P Q a w):c.wpIn (Fence.wide.inRound l) 0 P Q a w :=
 fun b k cs hro hb _=>h b k cs hro hb (qut l _)
theorem Zw {m n:Nat} {P:WR} {l:Nat} {args:Array Value} {W:World} {R:Ending->World->Prop} (h:YieldAt WQ m P l args W R):YieldAt WQ n P l args W R:=by
 obtain ⟨fn,tmps,assign,body,hy,hF,hR⟩:=h;exact ⟨fn,tmps,assign,body,hy,hF,fun c cs _=>hR c cs (room_wide _)⟩
theorem Yl {l n:Nat} {P:WR} {f:FuncId} {args:Array Value} {w:World} {R:Ending->World->Prop} (h:Calls P f args w R):CallsIn (Fence.wide.inRound l) n P f args w R :=
 CallsIn.inRound l (WT.2 h)
end
end Go.Proofs.YtcneeepdclgdcaaGreat
