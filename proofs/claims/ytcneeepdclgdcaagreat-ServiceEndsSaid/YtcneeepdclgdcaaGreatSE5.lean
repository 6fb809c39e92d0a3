import Derived.Test.YtcneeepdclgdcaaGreatSE4
import Derived.StillTail
set_option maxRecDepth 100000
set_option maxHeartbeats 4000000
namespace Go.Proofs.YtcneeepdclgdcaaGreat
open Go.Region renaming ready->U1,noSelect_spec->U4,Mode->U6,binds->U8,free_spec->U9,noSelect->UA,waitsFor_spec->UC,wanted->UH
open _root_.Bool renaming and_eq_true->U2
open _root_.List renaming length_cons->U3,getElem?_take->UG,range->UK,length_nil->UM
open _root_.Array renaming replicate->U5,getElem?_eq_some_iff->UI
open Go renaming wpList->U7,execOp->UB,Program->UJ
open _root_.Nat renaming add_assoc->UD,add_comm->UE,lt_or_ge->UL,zero_add->UN,le_refl->UO
open Go.Code renaming region->UF
set_option linter.all false
section
open Go.RowKit Go.Shelf
section
variable {P:UJ} {ops:Array Oper} {md:U6}
def Zu (o:Oper):Bool:=match o.op with | .move _=>true | .assign _=>true | .extract _ _=>true | .pick _ _ _=>true | _=>false
def quo:Option Deferred->Act->Act
 | none,a=>a
 | some d,a=>{ a with defers:=d::a.defers }
theorem KI (d:Option Deferred) (a:Act) (x:Option Tmp) (v:Value):quo d (a.put x v)=(quo d a).put x v:=by
 cases d <;> cases x <;> rfl
theorem qu3 (d:Option Deferred) (a:Act):(quo d a).eval=a.eval:=by cases d <;> rfl
theorem qu4 (d:Option Deferred) (a:Act):(quo d a).tmps=a.tmps:=by cases d <;> rfl
def ng (P:UJ) (N:Option Deferred->Value->World->Prop):Result Next->Prop
 | .ok (.value v) w'=>N none v w'
 | .ok .skip w'=>N none undef w'
 | .ok (.defer d) w'=>N (some d) undef w'
 | .ok (.enter f args) w'=>Calls P f args w' fun e w''=>∃ v,e=.returned v/\N none v w''
 | .ok (.row row args) w'=>Rows P row args w' fun v w''=>N none v w''
 | _=>False
theorem Dj {N N':Option Deferred->Value->World->Prop} (h:∀ d v w,N d v w->N' d v w):∀ {r:Result Next},ng P N r->ng P N' r
 | .ok (.value _) _,hh=>h _ _ _ hh
 | .ok .skip _,hh=>h _ _ _ hh
 | .ok (.defer _) _,hh=>h _ _ _ hh
 | .ok (.enter _ _) _,hh=>Calls.mono hh fun e w'' ⟨v,he,hn⟩=>⟨v,he,h _ _ _ hn⟩
 | .ok (.row _ _) _,hh=>Rows.mono hh fun v w'' hn=>h _ _ _ hn
 | .ok (.comm ..) _,hh=>by simp [ng] at hh
 | .ok (.spawn ..) _,hh=>by simp [ng] at hh
 | .halt _ _,hh=>by simp [ng] at hh
theorem K3 {o:Oper} (hf:Zu o=true) (a:Act):(∃ v,∀ w,(UB a.eval o).run P w=.ok (.value v) w)\/∀ w,∃ h w',(UB a.eval o).run P w=.halt h w':=by
 unfold Zu at hf;split at hf
 ·rename_i x hx
  refine .inl ⟨a.eval x,fun w=>?_⟩
  unfold UB;rw [hx];rfl
 ·rename_i x hx
  refine .inl ⟨a.eval x,fun w=>?_⟩
  unfold UB;rw [hx];rfl
 ·rename_i x i hx
  unfold UB;rw [hx];simp only [Instr.extract];cases a.eval x
  case tuple vs =>
   simp only [];cases hv:vs[i]? with
   | some v=>exact .inl ⟨v,fun w=>rfl⟩
   | none=>exact .inr fun w=>⟨_,_,rfl⟩
  all_goals exact .inr fun w=>⟨_,_,rfl⟩
 ·rename_i c x y hx
  unfold UB;rw [hx];simp only [];cases a.eval c
  case bool b=>exact .inl ⟨_,fun w=>rfl⟩
  all_goals exact .inr fun w=>⟨_,_,rfl⟩
 ·cases hf
theorem ql6 {o:Oper} (hf:Zu o=true) (a:Act) {C:World->Prop} (hne:∃ w,C w) {v:Value} (hy:YieldsIn P ops C o v a) (C':World->Prop):YieldsIn P ops C' o v a:=by
 rcases hy with ⟨hw,hv⟩ | hy
 ·refine .inl ⟨hw,fun w hw'=>?_⟩
  obtain ⟨w0,h0⟩:=hne;have h1:=hv w0 h0;unfold Oper.quietAt at h1 |-;rcases K3 (P:=P) hf a with ⟨u,hu⟩ | hu
  ·rw [hu] at h1 |-
   simp only [Oper.quietUpon] at h1 |-;exact ⟨trivial,h1.2⟩
  ·obtain ⟨h,w',e⟩:=hu w0
   rw [e] at h1;simp only [Oper.quietUpon] at h1
 ·exact .inr hy
def mStep (P:UJ) (ops:Array Oper) (n i:Nat) (K:Act->(World->Prop)->Prop) (a:Act) (C:World->Prop):Prop :=
 match ops[i]? with
 | none=>K a C
 | some o=>if UH o (yielded ops a.tmps) then
    (if (decide (i<n) || Zu o)=true then ∃ v,(∀ w,C w->o.quietAt P a C w v)/\K (a.put o.dst v) C
     else ∀ w,C w->ng P (fun d v w'=>K ((quo d a).put o.dst v) (fun x=>x=w')) ((UB a.eval o).run P w))
   else K (a.put o.dst undef) C
theorem P5 {n i:Nat} {K K':Act->(World->Prop)->Prop} {a:Act} {C:World->Prop} (h:∀ a C,(∃ w,C w)->K a C->K' a C) (hne:∃ w,C w) (hh:mStep P ops n i K a C):mStep P ops n i K' a C:=by
 unfold mStep at *;split
 ·rename_i ho;simp only [ho] at hh;exact h _ _ hne hh
 ·rename_i o ho
  simp only [ho] at hh;split
  ·rename_i hw
   simp only [hw,if_true] at hh;split
   ·rename_i hi
    rw [if_pos hi] at hh;obtain ⟨v,h1,h2⟩:=hh;exact ⟨v,h1,h _ _ hne h2⟩
   ·rename_i hi
    rw [if_neg hi] at hh;exact fun w hw'=>Dj (fun d v w' hn=>h _ (fun x=>x=w') ⟨w',rfl⟩ hn) (hh w hw')
  ·rename_i hw
   simp only [hw] at hh;exact h _ _ hne hh
def sM (P:UJ) (md:U6) (ops:Array Oper) (n:Nat) (Q:Act->World->Prop):Nat->Array Bool->Act->(World->Prop)->Prop
 | 0,listed,a,C=>U1 md ops listed=[]/\∀ w,C w->Q a w
 | f+1,listed,a,C=>(U1 md ops listed=[]->∀ w,C w->Q a w)/\∀ i∈U1 md ops listed,mStep P ops n i (fun a' C'=>sM P md ops n Q f (listed.setIfInBounds i true) a' C') a C
theorem qp0 {o:Oper} {a:Act} {w:World} {K:Act->World->Prop} {Q':Exit->Act->World->Prop} (h:ng P (fun d v w'=>K ((quo d a).put o.dst v) w') ((UB a.eval o).run P w)):o.wp P a w K Q':=by
 unfold Oper.wp;generalize (UB a.eval o).run P w=r at *;cases r with
 | ok x w' =>
   cases x <;> simp only [ng] at h <;> simp only [Oper.upon]
   case value u=>exact h
   case skip=>exact h
   case defer d=>exact h
   case enter f args=>exact h.mono fun e w'' ⟨v,he,hn⟩=>by subst he;exact hn
   case row r args=>exact h
 | halt x w'=>simp only [ng] at h
theorem qy {n:Nat} {Q:Act->World->Prop} {Q':Exit->Act->World->Prop} (hQ:∀ a w,Q a w->Q' .normal a w):∀ (f:Nat) (listed:Array Bool) (a:Act) (C:World->Prop) (w:World),C w ->
 sM P md ops n Q f listed a C->wpAny P md ops Q' f listed a w
 | 0,_,_,_,_,hw,h=>⟨h.1,hQ _ _ (h.2 _ hw)⟩
 | f+1,listed,a,C,w,hw,h=>by
   refine ⟨fun h0=>hQ _ _ (h.1 h0 _ hw),fun i hi=>?_⟩
   have hh:=h.2 i hi;unfold mStep at hh;unfold wpOp;split
   ·rename_i ho;simp only [ho] at hh;exact qy hQ f _ _ _ _ hw hh
   ·rename_i o ho
    simp only [ho] at hh;split
    ·rename_i hwt
     simp only [hwt,if_true] at hh;by_cases hin:(decide (i<n) || Zu o)=true
     ·rw [if_pos hin] at hh
      obtain ⟨v,h1,h2⟩:=hh;refine .inl (Oper.wp_of_quiet (C:=C) (K:=fun a'=>sM P md ops n Q f (listed.setIfInBounds i true) a' C) hw (fun a' w' hw' hk=>qy hQ f _ a' C w' hw' hk) ⟨v,h1,h2⟩)
     ·rw [if_neg hin] at hh
      exact .inl (qp0 (Dj (fun d v w' hn=>qy hQ f _ _ (fun x=>x=w') _ rfl hn) (hh w hw)))
    ·rename_i hwt
     simp only [hwt] at hh;exact qy hQ f _ _ _ _ hw hh
structure Closed (md:U6) (ops:Array Oper) (listed:Array Bool):Prop where
 size:listed.size=ops.size
 closed:∀ j oj,ops[j]?=some oj->listed.getD j false=true->∀ e∈oj.after,U8 md e=true->listed.getD e.on false=true
theorem Closed.set {i:Nat} {listed:Array Bool} (inv:Closed md ops listed) (hi:i∈U1 md ops listed):Closed md ops (listed.setIfInBounds i true):=by
 obtain ⟨_,oi,hoi,hall⟩:=mem_ready.1 hi;refine ⟨by simp [inv.size],fun j oj hj hl e he hb=>?_⟩
 by_cases hij:i=j
 ·subst hij
  have:oj=oi:=Option.some.inj (hj.symm.trans hoi);subst this;exact getD_set_true (hall e he hb)
 ·rw [getD_set_ne false hij] at hl
  exact getD_set_true (inv.closed j oj hj hl e he hb)
def tF (md:U6) (ops:Array Oper) (n:Nat):Nat->List Nat
 | 0=>[]
 | d+1=>if Region.waitsFor md ops n (n - (d+1)) || (tF md ops n d).any (fun j=>Region.waitsFor md ops j (n - (d+1))) then (n - (d+1))::tF md ops n d else tF md ops n d
theorem O8 {n:Nat} {listed:Array Bool} (inv:Closed md ops listed) (hn:∀ on,ops[n]?=some on->∀ e∈on.after,U8 md e=true->listed.getD e.on false=true) :
 ∀ d,∀ k∈tF md ops n d,listed.getD k false=true:=by
 intro d;induction d with
 | zero=>intro k hk;cases hk
 | succ d ih =>
   intro k hk;unfold tF at hk;split at hk
   ·rename_i hc
    rcases List.mem_cons.1 hk with rfl | hk
    ·simp only [Bool.or_eq_true] at hc
     rcases hc with hc | hc
     ·obtain ⟨on,ho,e,he,hb,hon⟩:=UC hc
      exact hon ▸ hn on ho e he hb
     ·obtain ⟨j,hj,hc⟩:=List.any_eq_true.1 hc
      obtain ⟨oj,ho,e,he,hb,hon⟩:=UC hc;exact hon ▸ inv.closed j oj ho (ih j hj) e he hb
    ·exact ih k hk
   ·exact ih k hk
def DN (md:U6) (ops:Array Oper) (n:Nat):Bool :=
 (UK ops.size).all fun t=>decide (t<=n) || (UK t).any fun j=>decide (n<=j) && Region.waitsFor md ops t j
theorem qoe {n i:Nat} {listed:Array Bool} (hc:DN md ops n=true) (inv:Closed md ops listed) (hg:i∈tF md ops n n) (hun:listed.getD i false=false):∀ t,n<=t->t ∉ U1 md ops listed:=by
 have key:∀ t,n<=t->(∀ ot,ops[t]?=some ot->∀ e∈ot.after,U8 md e=true->listed.getD e.on false=true)->t<ops.size->False:=by
  intro t;induction t using Nat.strongRecOn with
  | _ t ih =>
    intro hnt h hlt;have h1:=List.all_eq_true.1 hc t (List.mem_range.2 hlt);simp only [Bool.or_eq_true,decide_eq_true_eq] at h1;rcases h1 with h1 | h1
    ·have:t=n:=by omega
     subst this;rw [O8 inv h t i hg] at hun;cases hun
    ·obtain ⟨j,hj,hj2⟩:=List.any_eq_true.1 h1
     simp only [U2,decide_eq_true_eq] at hj2;have hjt:=List.mem_range.1 hj;obtain ⟨ot,ho,e,he,hb,hon⟩:=UC hj2.2;have h2:=h ot ho e he hb;rw [hon] at h2;exact ih j hjt hj2.1 (fun oj hoj e' he' hb'=>inv.closed j oj hoj h2 e' he' hb') (by omega)
 intro t ht hr;obtain ⟨_,ot,ho,hall⟩:=mem_ready.1 hr;exact key t ht (fun ot' ho'=>by rw [ho] at ho';cases ho';exact hall) (UI.1 ho).1
theorem QP {n j:Nat} {oi oj:Oper} {v:Value} (hj:ops[j]?=some oj) (hap:oi.apart ops oj=true)
 (hsi:∀ cs b,oi.op≠.select cs b) (hsj:∀ cs b,oj.op≠.select cs b) {K:Act->(World->Prop)->Prop} {a:Act} {C:World->Prop} (hne:∃ w,C w)
 (hy:YieldsIn P ops C oi v a) (hfl:Zu oi=true\/(decide (j<n) || Zu oj)=true) (h:mStep P ops n j K (a.put oi.dst v) C) :
 mStep P ops n j (fun a' C'=>YieldsIn P ops C' oi v a'/\(Zu oi=true\/C'=C)/\(∃ w,C' w)/\K (a'.put oi.dst v) C') a C:=by
 obtain ⟨h1,h2,h3⟩:=Oper.apart_spec hap
 have keep:∀ (a:Act),YieldsIn P ops C oi v a->∀ u,YieldsIn P ops C oi v (a.put oj.dst u):=fun a hy u =>
  hy.of_same (execOp_put oi hsi a oj.dst u h3) (wanted_put oi a oj.dst u h3)
 unfold mStep at *;simp only [hj] at *;rw [wanted_put oj a oi.dst v h1] at h;split
 ·rename_i hw
  simp only [hw,if_true] at h;split
  ·rename_i hjn
   rw [if_pos hjn] at h;obtain ⟨u,hu,hn⟩:=h;refine ⟨u,fun w hw'=>?_,keep a hy u,by simp,hne,by rw [<- Act.put_comm a v u h2];exact hn⟩
   have:=hu w hw';unfold Oper.quietAt at *;rwa [execOp_put oj hsj a oi.dst v h1] at this
  ·rename_i hjn
   rw [if_neg hjn] at h;have hf:=hfl.resolve_right hjn;intro w hw';have:=h w hw';rw [execOp_put oj hsj a oi.dst v h1] at this;refine Dj (fun d u w' hn=>⟨?_,.inl hf,⟨w',rfl⟩,?_⟩) this
   ·have y1:=ql6 hf _ hne (keep a hy u) (fun x=>x=w')
    refine y1.of_same ?_ ?_
    ·rw [<- KI,qu3]
    ·rw [<- KI,qu4]
   ·have e1:((quo d a).put oj.dst u).put oi.dst v=(quo d (a.put oi.dst v)).put oj.dst u:=by
     rw [KI,Act.put_comm (quo d a) v u h2]
    rw [e1];exact hn
 ·rename_i hw
  simp only [hw] at h;exact ⟨keep a hy _,by simp,hne,by rw [<- Act.put_comm a v undef h2];exact h⟩
theorem Y5 {n i:Nat} {o:Oper} {v:Value} {a:Act} {C:World->Prop} (hi:ops[i]?=some o) (hin:(decide (i<n) || Zu o)=true) (hy:YieldsIn P ops C o v a) {K:Act->(World->Prop)->Prop} (h:K (a.put o.dst v) C):mStep P ops n i K a C:=by
 unfold Go.Proofs.YtcneeepdclgdcaaGreat.mStep;simp only [hi];rcases hy with ⟨hw,hv⟩ | ⟨hw,rfl⟩
 ·simp only [hw,hin,if_true];exact ⟨v,hv,h⟩
 ·simp only [hw,Bool.false_eq_true,if_false];exact h
theorem JK {n:Nat} {Q:Act->World->Prop} {i:Nat} {oi:Oper} {v:Value} (hi:ops[i]?=some oi) (hin:(decide (i<n) || Zu oi)=true) (hsel:∀ (j:Nat) (o:Oper) cs b,ops[j]?=some o->o.op≠.select cs b)
 (hc:DN md ops n=true) (hk:Zu oi=true\/i∈tF md ops n n) :
 ∀ (f:Nat) (listed:Array Bool) (a:Act) (C:World->Prop),(∃ w,C w)->Closed md ops listed ->
   (∀ j oj,ops[j]?=some oj->j≠i->listed.getD j true=false->(∀ e∈oj.after,U8 md e=true->e.on≠i)->oi.apart ops oj=true) ->
   i∈U1 md ops listed->YieldsIn P ops C oi v a ->
   sM P md ops n Q f (listed.setIfInBounds i true) (a.put oi.dst v) C->sM P md ops n Q (f+1) listed a C:=by
 intro f;induction f with
 | zero =>
   intro listed a C hne inv _ hr hy H;refine ⟨fun h=>(by rw [h] at hr;cases hr),fun j hj=>?_⟩
   by_cases hji:j=i
   ·subst hji;exact Y5 hi hin hy H
   ·have:=ready_mono hj hji
    rw [H.1] at this;cases this
 | succ f ih =>
   intro listed a C hne inv hfree hr hy H;refine ⟨fun h=>(by rw [h] at hr;cases hr),fun j hj=>?_⟩
   by_cases hji:j=i
   ·subst hji;exact Y5 hi hin hy H
   ·have h1:=H.2 j (ready_mono hj hji)
    obtain ⟨hjun,oj,hoj,hall⟩:=mem_ready.1 hj;have hun:=(mem_ready.1 hr).1
    have hnot:∀ e∈oj.after,U8 md e=true->e.on≠i:=fun e he hb heq=>by
     have h1:=hall e he hb;rw [heq,getD_both hun] at h1;cases h1
    have hfl:Zu oi=true\/(decide (j<n) || Zu oj)=true:=by
     rcases hk with hk | hk
     ·exact .inl hk
     ·rcases UL j n with h | h
      ·exact .inr (by simp [h])
      ·exact absurd hj (qoe hc inv hk (getD_both hun) j h)
    have h2:=QP hoj (hfree j oj hoj hji hjun hnot) (fun cs b=>hsel i oi cs b hi) (fun cs b=>hsel j oj cs b hoj) hne hy hfl h1
    have hfree':∀ k ok,ops[k]?=some ok->k≠i->(listed.setIfInBounds j true).getD k true=false ->
     (∀ e∈ok.after,U8 md e=true->e.on≠i)->oi.apart ops ok=true:=fun k ok hk hki hun hno=>by
     refine hfree k ok hk hki ?_ hno
     by_cases hjk:j=k
     ·subst hjk;exact hjun
     ·rw [getD_set_ne true hjk] at hun;exact hun
    refine P5 (fun a' C' hne' h3=>ih (listed.setIfInBounds j true) a' C' h3.2.2.1 (inv.set hj) hfree' (ready_mono hr (Ne.symm hji)) h3.1 ?_) hne h2
    rw [Array.setIfInBounds_comm _ _ hji];exact h3.2.2.2
structure pW (Q:Exit->Act->World->Prop) (e:Exit) (a:Act) (w:World):Prop where
 is:e=.normal
 q:Q .normal a w
theorem Ya {Q:Exit->Act->World->Prop} (h:LetsOut (pW Q)):False:=by
 obtain ⟨a,w,h⟩:=h;cases h.is
theorem Y0 {o:Oper} {a:Act} {w:World} {K:Act->World->Prop} {Q:Exit->Act->World->Prop} (h:o.wp P a w K (pW Q)):ng P (fun d v w'=>K ((quo d a).put o.dst v) w') ((UB a.eval o).run P w):=by
 unfold Oper.wp at h;generalize (UB a.eval o).run P w=r at *;cases r with
 | ok x w' =>
   cases x <;> simp only [Oper.upon] at h <;> simp only [ng]
   case value u=>exact h
   case skip=>exact h
   case defer d=>exact h
   case enter f args =>
    refine h.mono fun e w'' he=>?_
    cases e with
    | returned v=>exact ⟨v,rfl,he⟩
    | panicked c=>cases he.is
    | outgrown=>exact (Ya he).elim
   case row r args=>exact h
 | halt x w'=>cases x <;> simp only [Oper.upon] at h <;> simp only [ng];cases h.is
def xI (md:U6) (ops:Array Oper):Nat->Nat->Array Bool->Bool
 | 0,_,listed=>(U1 md ops listed).isEmpty
 | g+1,k,listed=>(if (ops[k]?).any Zu=true then (U1 md ops listed).contains k && Region.free md ops listed k else decide (U1 md ops listed=[k])) && xI md ops g (k+1) (listed.setIfInBounds k true)
theorem JY {n:Nat} {Q:Exit->Act->World->Prop} (hsel:UA ops=true) (hc:DN md ops n=true):∀ (l:List Oper) (k:Nat) (listed:Array Bool) (a:Act) (C:World->Prop),(∃ w,C w)->Closed md ops listed->n<=k->(∀ j,l[j]?=ops[k+j]?) ->
 xI md ops l.length k listed=true->(∀ w,C w->U7 P ops (pW Q) l a w)->sM P md ops n (Q .normal) l.length listed a C
 | [],_,_,_,_,_,_,_,_,hB,h=>⟨by simpa [xI] using hB,fun w hw=>(h w hw).q⟩
 | o::l,k,listed,a,C,hne,inv,hk,hl,hB,h=>by
   have h0:ops[k]?=some o:=by simpa using (hl 0).symm
   simp only [U3,xI,U2] at hB;obtain ⟨hB1,hB2⟩:=hB;rw [h0] at hB1;simp only [Option.any_some] at hB1;by_cases hfl:Zu o=true
   ·rw [if_pos hfl] at hB1
    simp only [U2] at hB1;have hr':k∈U1 md ops listed:=by simpa using hB1.1
    have ih:=fun a'=>JY (n:=n) (Q:=Q) hsel hc l (k+1) (listed.setIfInBounds k true) a' C hne (inv.set hr') (by omega) (fun j=>by have:=hl (j+1);simpa [UD,UE 1 j] using this) hB2
    by_cases hw:UH o (yielded ops a.tmps)=true
    ·obtain ⟨w0,hw0⟩:=hne
     have e0:∃ v,∀ w,(UB a.eval o).run P w=.ok (.value v) w:=by
      rcases K3 (P:=P) hfl a with hu | hu
      ·exact hu
      ·obtain ⟨x,w',e⟩:=hu w0
       have h1:=h w0 hw0;unfold U7 at h1;simp only [hw,if_true] at h1;rcases h1 with h1 | h1
       ·have h2:=Y0 h1
        rw [e] at h2;simp only [ng] at h2
       ·exact (Ya h1.2).elim
     obtain ⟨v,hv⟩:=e0;refine JK (v:=v) h0 (by simp [hfl]) (U4 hsel) hc (.inl hfl) l.length listed a C ⟨w0,hw0⟩ inv (U9 h0 hB1.2) hr' (.inl ⟨hw,fun w hw'=>?_⟩) (ih _ (fun w hw'=>?_))
     ·unfold Oper.quietAt
      rw [hv];exact ⟨rfl,rfl⟩
     ·have h1:=h w hw'
      unfold U7 at h1;simp only [hw,if_true] at h1;rcases h1 with h1 | h1
      ·have h2:=Y0 h1
       rw [hv] at h2;simpa only [ng,quo] using h2
      ·exact (Ya h1.2).elim
    ·refine JK (v:=undef) h0 (by simp [hfl]) (U4 hsel) hc (.inl hfl) l.length listed a C hne inv (U9 h0 hB1.2) hr' (.inr ⟨by simpa using hw,rfl⟩) (ih _ (fun w hw'=>?_))
     have h1:=h w hw';unfold U7 at h1;simpa [hw] using h1
   ·rw [if_neg hfl] at hB1
    simp only [decide_eq_true_eq] at hB1;have hr':k∈U1 md ops listed:=by rw [hB1];simp
    refine ⟨fun h1=>(by rw [hB1] at h1;cases h1),fun i hi=>?_⟩
    rw [hB1] at hi;have hik:i=k:=by simpa using hi
    subst hik;have ih:=fun a' C' hne'=>JY (n:=n) (Q:=Q) hsel hc l (i+1) (listed.setIfInBounds i true) a' C' hne' (inv.set hr') (by omega) (fun j=>by have:=hl (j+1);simpa [UD,UE 1 j] using this) hB2
    unfold mStep;simp only [h0];split
    ·rename_i hw
     have hni:¬ (decide (i<n) || Zu o)=true:=by simp [hfl];omega
     rw [if_neg hni];intro w hw';have h1:=h w hw';unfold U7 at h1;simp only [hw,if_true] at h1;rcases h1 with h1 | h1
     ·exact Dj (fun d v w' hn=>ih _ (fun x=>x=w') ⟨w',rfl⟩ (fun x hx=>by subst hx;exact hn)) (Y0 h1)
     ·exact (Ya h1.2).elim
    ·rename_i hw
     refine ih _ _ hne (fun w hw'=>?_)
     have h1:=h w hw';unfold U7 at h1;simpa [hw] using h1
def vY (md:U6) (ops:Array Oper) (n g:Nat):Nat->Nat->Array Bool->Bool
 | 0,k,listed=>xI md ops g k listed
 | f+1,k,listed=>(U1 md ops listed).contains k && Region.free md ops listed k && ((ops[k]?).any Zu || (tF md ops n n).contains k) && vY md ops n g f (k+1) (listed.setIfInBounds k true)
def Fu (md:U6) (ops:Array Oper) (n:Nat):Bool :=
 UA ops && decide (n<ops.size) && DN md ops n && vY md ops n (ops.size - n) n 0 (U5 ops.size false)
theorem PG {n:Nat} {Q:Exit->Act->World->Prop} {tail:List Oper} (hsel:UA ops=true) (hc:DN md ops n=true) (htl:∀ j,tail[j]?=ops[n+j]?) :
 ∀ (l:List Oper) (k:Nat) (listed:Array Bool) (a:Act) (C:World->Prop),(∃ w,C w)->(∀ j,j<l.length->l[j]?=ops[k+j]?)->k+l.length=n->Closed md ops listed ->
 vY md ops n tail.length l.length k listed=true->wpQuiet P ops C (fun a'=>∀ w,C w->U7 P ops (pW Q) tail a' w) l a ->
 sM P md ops n (Q .normal) (l.length+tail.length) listed a C
 | [],k,listed,a,C,hne,_,hk,inv,hB,h=>by
   have:k=n:=by simpa using hk
   subst this;rw [UM,UN];exact JY hsel hc tail k listed a C hne inv (UO _) htl (by simpa [vY] using hB) h
 | o::l,k,listed,a,C,hne,hl,hk,inv,hB,h=>by
   have h0:ops[k]?=some o:=by simpa using (hl 0 (by simp)).symm
   simp only [U3,vY,U2] at hB;obtain ⟨⟨⟨hr,hf⟩,hkd⟩,hB'⟩:=hB;have hkn:k<n:=by simp only [U3] at hk;omega
   have hr':k∈U1 md ops listed:=by simpa using hr
   have hst:qOp P ops C k (wpQuiet P ops C (fun a'=>∀ w,C w->U7 P ops (pW Q) tail a' w) l) a:=by unfold qOp;simp only [h0];exact h
   obtain ⟨v,hy,hK⟩:=yieldsIn_of_qOp h0 hst;have y7:Zu o=true\/k∈tF md ops n n:=by simpa [h0] using hkd
   rw [show (o::l).length+tail.length=(l.length+tail.length)+1 by simp only [U3];omega]
   exact JK h0 (by simp [hkn]) (U4 hsel) hc y7 (l.length+tail.length) listed a C hne inv (U9 h0 hf) hr' hy
    (PG hsel hc htl l (k+1) _ _ C hne (fun j hj=>by have:=hl (j+1) (by simp;omega);simpa [UD,UE 1 j] using this) (by simp only [U3] at hk;omega) (inv.set hr') hB' hK)
theorem Z6 {id:Nat} {Q:Exit->Act->World->Prop} {a:Act} {w:World} {l:List Oper} (C:World->Prop) (n:Nat) (hm:P.follows .mixedOrders=true) (hB:Fu .any l.toArray n=true) (hC:C w.drew)
 (h:wpQuiet P l.toArray C (fun a'=>∀ w',C w'->U7 P l.toArray (pW Q) (l.drop n) a' w') (l.take n) a):(UF id l.toArray true).wp P Q a w:=by
 simp only [Fu,U2,decide_eq_true_eq] at hB;obtain ⟨⟨⟨hsel,hn⟩,hc⟩,hB'⟩:=hB;have hn':n<l.length:=by simpa using hn
 have htl:(l.take n).length=n:=by simp;omega
 have hdl:(l.drop n).length=l.toArray.size - n:=by simp
 refine wp_region_any hm (qy (n:=n) (Q:=Q .normal) (fun _ _ h=>h) _ _ _ C _ hC ?_)
 have:=PG (P:=P) (md:=.any) (ops:=l.toArray) (Q:=Q) (tail:=l.drop n) hsel hc (fun j=>by simp) (l.take n) 0 (U5 l.toArray.size false) a C ⟨_,hC⟩
  (fun j hj=>by rw [htl] at hj;simp [UG,hj]) (by rw [htl];omega) ⟨by simp,fun j oj _ hl=>by rw [getD_replicate_false] at hl;cases hl⟩ (by rw [htl,hdl];exact hB') h
 rw [htl,hdl] at this;rw [show n+(l.toArray.size - n)=l.toArray.size by simp;omega] at this;exact this
theorem qik {id:Nat} {Q:Exit->Act->World->Prop} {a:Act} {w:World} {l:List Oper} (n:Nat) (hm:P.follows .mixedOrders=true) (hB:Fu .any l.toArray n=true)
 (h:wpQuiet P l.toArray (fun w'=>∃ m,w'=w.drewN m) (fun a'=>∀ w',(∃ m,w'=w.drewN m)->U7 P l.toArray (pW Q) (l.drop n) a' w') (l.take n) a):(UF id l.toArray true).wp P Q a w :=
 Z6 _ n hm hB ⟨1,rfl⟩ h
end
theorem Mx {P:UJ} {id:Nat} {Q:Exit->Act->World->Prop} {a:Act} {w:World} {l:List Oper} (n:Nat)
 (h:wpQuiet P l.toArray (fun w'=>∃ m,w'=w.drewN m) (fun a'=>∀ w',(∃ m,w'=w.drewN m)->U7 P l.toArray (pW Q) (l.drop n) a' w') (l.take n) a) (hm:P.follows .mixedOrders=true:=by kernel_rfl) (hB:Fu .any l.toArray n=true:=by kernel_rfl):(UF id l.toArray true).wp P Q a w:=qik n hm hB h
section
variable {P:UJ} {ops:Array Oper} {md:U6}
def LU (md:U6) (ops:Array Oper) (n:Nat):Bool :=
 (UK (ops.size - 1)).all fun t=>decide (t<=n) || (UK t).any fun j=>decide (n<=j) && Region.waitsFor md ops t j
structure AJ (md:U6) (ops:Array Oper) (listed:Array Bool):Prop where
 c:Closed md ops listed
 l:listed.getD (ops.size - 1) true=true
theorem AJ.set {i:Nat} {listed:Array Bool} (inv:AJ md ops listed) (hi:i∈U1 md ops listed):AJ md ops (listed.setIfInBounds i true):=by
 refine ⟨inv.c.set hi,?_⟩
 by_cases h:i=ops.size - 1
 ·have:=(mem_ready.1 hi).1
  rw [h,inv.l] at this;cases this
 ·rw [getD_set_ne true h];exact inv.l
theorem qlr {n i:Nat} {listed:Array Bool} (hc:LU md ops n=true) (inv:AJ md ops listed) (hg:i∈tF md ops n n) (hun:listed.getD i false=false):∀ t,n<=t->t ∉ U1 md ops listed:=by
 have key:∀ t,n<=t->(∀ ot,ops[t]?=some ot->∀ e∈ot.after,U8 md e=true->listed.getD e.on false=true)->t<ops.size - 1->False:=by
  intro t;induction t using Nat.strongRecOn with
  | _ t ih =>
    intro hnt h hlt;have h1:=List.all_eq_true.1 hc t (List.mem_range.2 hlt);simp only [Bool.or_eq_true,decide_eq_true_eq] at h1;rcases h1 with h1 | h1
    ·have:t=n:=by omega
     subst this;rw [O8 inv.c h t i hg] at hun;cases hun
    ·obtain ⟨j,hj,hj2⟩:=List.any_eq_true.1 h1
     simp only [U2,decide_eq_true_eq] at hj2;have hjt:=List.mem_range.1 hj;obtain ⟨ot,ho,e,he,hb,hon⟩:=UC hj2.2;have h2:=h ot ho e he hb;rw [hon] at h2;exact ih j hjt hj2.1 (fun oj hoj e' he' hb'=>inv.c.closed j oj hoj h2 e' he' hb') (by omega)
 intro t ht hr;obtain ⟨CL,ot,ho,hall⟩:=mem_ready.1 hr;refine key t ht (fun ot' ho'=>by rw [ho] at ho';cases ho';exact hall) ?_
 have hts:=(UI.1 ho).1;rcases UL t (ops.size - 1) with h2 | h2
 ·exact h2
 ·have:t=ops.size - 1:=by omega
  subst this;rw [inv.l] at CL;cases CL
theorem qt (V:Array Bool->Prop) (hVs:∀ (listed:Array Bool) (j:Nat),V listed->j∈U1 md ops listed->V (listed.setIfInBounds j true)) {n:Nat} {Q:Act->World->Prop} {i:Nat} {oi:Oper} {v:Value} (hi:ops[i]?=some oi) (hin:(decide (i<n) || Zu oi)=true) (hsel:∀ (j:Nat) (o:Oper) cs b,ops[j]?=some o->o.op≠.select cs b)
 (hk:Zu oi=true\/∀ listed:Array Bool,V listed->listed.getD i false=false->∀ t,n<=t->t ∉ U1 md ops listed) :
 ∀ (f:Nat) (listed:Array Bool) (a:Act) (C:World->Prop),(∃ w,C w)->V listed ->
   (∀ j oj,ops[j]?=some oj->j≠i->listed.getD j true=false->(∀ e∈oj.after,U8 md e=true->e.on≠i)->oi.apart ops oj=true) ->
   i∈U1 md ops listed->YieldsIn P ops C oi v a ->
   sM P md ops n Q f (listed.setIfInBounds i true) (a.put oi.dst v) C->sM P md ops n Q (f+1) listed a C:=by
 intro f;induction f with
 | zero =>
   intro listed a C hne inv _ hr hy H;refine ⟨fun h=>(by rw [h] at hr;cases hr),fun j hj=>?_⟩
   by_cases hji:j=i
   ·subst hji;exact Y5 hi hin hy H
   ·have:=ready_mono hj hji
    rw [H.1] at this;cases this
 | succ f ih =>
   intro listed a C hne inv hfree hr hy H;refine ⟨fun h=>(by rw [h] at hr;cases hr),fun j hj=>?_⟩
   by_cases hji:j=i
   ·subst hji;exact Y5 hi hin hy H
   ·have h1:=H.2 j (ready_mono hj hji)
    obtain ⟨hjun,oj,hoj,hall⟩:=mem_ready.1 hj;have hun:=(mem_ready.1 hr).1
    have hnot:∀ e∈oj.after,U8 md e=true->e.on≠i:=fun e he hb heq=>by
     have h1:=hall e he hb;rw [heq,getD_both hun] at h1;cases h1
    have hfl:Zu oi=true\/(decide (j<n) || Zu oj)=true:=by
     rcases hk with hk | hk
     ·exact .inl hk
     ·rcases UL j n with h | h
      ·exact .inr (by simp [h])
      ·exact absurd hj (hk _ inv (getD_both hun) j h)
    have h2:=QP hoj (hfree j oj hoj hji hjun hnot) (fun cs b=>hsel i oi cs b hi) (fun cs b=>hsel j oj cs b hoj) hne hy hfl h1
    have hfree':∀ k ok,ops[k]?=some ok->k≠i->(listed.setIfInBounds j true).getD k true=false ->
     (∀ e∈ok.after,U8 md e=true->e.on≠i)->oi.apart ops ok=true:=fun k ok hk hki hun hno=>by
     refine hfree k ok hk hki ?_ hno
     by_cases hjk:j=k
     ·subst hjk;exact hjun
     ·rw [getD_set_ne true hjk] at hun;exact hun
    refine P5 (fun a' C' hne' h3=>ih (listed.setIfInBounds j true) a' C' h3.2.2.1 (hVs _ _ inv hj) hfree' (ready_mono hr (Ne.symm hji)) h3.1 ?_) hne h2
    rw [Array.setIfInBounds_comm _ _ hji];exact h3.2.2.2
theorem JP {n:Nat} {Q:Exit->Act->World->Prop} (hsel:UA ops=true):∀ (l:List Oper) (k:Nat) (listed:Array Bool) (a:Act) (C:World->Prop),(∃ w,C w)->n<=k->(∀ j,j<l.length->l[j]?=ops[k+j]?) ->
 xI md ops l.length k listed=true->(∀ w,C w->U7 P ops (pW Q) l a w)->sM P md ops n (Q .normal) l.length listed a C
 | [],_,_,_,_,_,_,_,hB,h=>⟨by simpa [xI] using hB,fun w hw=>(h w hw).q⟩
 | o::l,k,listed,a,C,hne,hk,hl,hB,h=>by
   have h0:ops[k]?=some o:=by simpa using (hl 0 (by simp)).symm
   simp only [U3,xI,U2] at hB;obtain ⟨hB1,hB2⟩:=hB;rw [h0] at hB1;simp only [Option.any_some] at hB1;by_cases hfl:Zu o=true
   ·rw [if_pos hfl] at hB1
    simp only [U2] at hB1;have hr':k∈U1 md ops listed:=by simpa using hB1.1
    have ih:=fun a'=>JP (n:=n) (Q:=Q) hsel l (k+1) (listed.setIfInBounds k true) a' C hne (by omega) (fun j hj=>by have:=hl (j+1) (by simp;omega);simpa [UD,UE 1 j] using this) hB2
    by_cases hw:UH o (yielded ops a.tmps)=true
    ·obtain ⟨w0,hw0⟩:=hne
     have e0:∃ v,∀ w,(UB a.eval o).run P w=.ok (.value v) w:=by
      rcases K3 (P:=P) hfl a with hu | hu
      ·exact hu
      ·obtain ⟨x,w',e⟩:=hu w0
       have h1:=h w0 hw0;unfold U7 at h1;simp only [hw,if_true] at h1;rcases h1 with h1 | h1
       ·have h2:=Y0 h1
        rw [e] at h2;simp only [ng] at h2
       ·exact (Ya h1.2).elim
     obtain ⟨v,hv⟩:=e0;refine qt (fun _=>True) (fun _ _ _ _=>trivial) (v:=v) h0 (by simp [hfl]) (U4 hsel) (.inl hfl) l.length listed a C ⟨w0,hw0⟩ trivial (U9 h0 hB1.2) hr' (.inl ⟨hw,fun w hw'=>?_⟩) (ih _ (fun w hw'=>?_))
     ·unfold Oper.quietAt
      rw [hv];exact ⟨rfl,rfl⟩
     ·have h1:=h w hw'
      unfold U7 at h1;simp only [hw,if_true] at h1;rcases h1 with h1 | h1
      ·have h2:=Y0 h1
       rw [hv] at h2;simpa only [ng,quo] using h2
      ·exact (Ya h1.2).elim
    ·refine qt (fun _=>True) (fun _ _ _ _=>trivial) (v:=undef) h0 (by simp [hfl]) (U4 hsel) (.inl hfl) l.length listed a C hne trivial (U9 h0 hB1.2) hr' (.inr ⟨by simpa using hw,rfl⟩) (ih _ (fun w hw'=>?_))
     have h1:=h w hw';unfold U7 at h1;simpa [hw] using h1
   ·rw [if_neg hfl] at hB1
    simp only [decide_eq_true_eq] at hB1;have hr':k∈U1 md ops listed:=by rw [hB1];simp
    refine ⟨fun h1=>(by rw [hB1] at h1;cases h1),fun i hi=>?_⟩
    rw [hB1] at hi;have hik:i=k:=by simpa using hi
    subst hik;have ih:=fun a' C' hne'=>JP (n:=n) (Q:=Q) hsel l (i+1) (listed.setIfInBounds i true) a' C' hne' (by omega) (fun j hj=>by have:=hl (j+1) (by simp;omega);simpa [UD,UE 1 j] using this) hB2
    unfold mStep;simp only [h0];split
    ·rename_i hw
     have hni:¬ (decide (i<n) || Zu o)=true:=by simp [hfl];omega
     rw [if_neg hni];intro w hw';have h1:=h w hw';unfold U7 at h1;simp only [hw,if_true] at h1;rcases h1 with h1 | h1
     ·exact Dj (fun d v w' hn=>ih _ (fun x=>x=w') ⟨w',rfl⟩ (fun x hx=>by subst hx;exact hn)) (Y0 h1)
     ·exact (Ya h1.2).elim
    ·rename_i hw
     refine ih _ _ hne (fun w hw'=>?_)
     have h1:=h w hw';unfold U7 at h1;simpa [hw] using h1
theorem OM {n:Nat} {Q:Exit->Act->World->Prop} {tail:List Oper} (hsel:UA ops=true) (hc:LU md ops n=true) (htl:∀ j,j<tail.length->tail[j]?=ops[n+j]?) :
 ∀ (l:List Oper) (k:Nat) (listed:Array Bool) (a:Act) (C:World->Prop),(∃ w,C w)->(∀ j,j<l.length->l[j]?=ops[k+j]?)->k+l.length=n->AJ md ops listed ->
 vY md ops n tail.length l.length k listed=true->wpQuiet P ops C (fun a'=>∀ w,C w->U7 P ops (pW Q) tail a' w) l a ->
 sM P md ops n (Q .normal) (l.length+tail.length) listed a C
 | [],k,listed,a,C,hne,_,hk,inv,hB,h=>by
   have:k=n:=by simpa using hk
   subst this;rw [UM,UN];exact JP hsel tail k listed a C hne (UO _) htl (by simpa [vY] using hB) h
 | o::l,k,listed,a,C,hne,hl,hk,inv,hB,h=>by
   have h0:ops[k]?=some o:=by simpa using (hl 0 (by simp)).symm
   simp only [U3,vY,U2] at hB;obtain ⟨⟨⟨hr,hf⟩,hkd⟩,hB'⟩:=hB;have hkn:k<n:=by simp only [U3] at hk;omega
   have hr':k∈U1 md ops listed:=by simpa using hr
   have hst:qOp P ops C k (wpQuiet P ops C (fun a'=>∀ w,C w->U7 P ops (pW Q) tail a' w) l) a:=by unfold qOp;simp only [h0];exact h
   obtain ⟨v,hy,hK⟩:=yieldsIn_of_qOp h0 hst;have y7:Zu o=true\/k∈tF md ops n n:=by simpa [h0] using hkd
   rw [show (o::l).length+tail.length=(l.length+tail.length)+1 by simp only [U3];omega]
   exact qt (AJ md ops) (fun _ _ h hj=>h.set hj) h0 (by simp [hkn]) (U4 hsel) (y7.imp id fun hg listed hv hun=>qlr hc hv hg hun) (l.length+tail.length) listed a C hne inv (U9 h0 hf) hr' hy
    (OM hsel hc htl l (k+1) _ _ C hne (fun j hj=>by have:=hl (j+1) (by simp;omega);simpa [UD,UE 1 j] using this) (by simp only [U3] at hk;omega) (inv.set hr') hB' hK)
def IP (md:U6) (ops:Array Oper) (n:Nat):Bool :=
 UA ops && decide (n+1<ops.size) && LU md ops n && (U1 md ops (U5 ops.size false)).contains (ops.size - 1) && Region.free md ops (U5 ops.size false) (ops.size - 1) &&
  vY md ops n (ops.size - n - 1) n 0 ((U5 ops.size false).setIfInBounds (ops.size - 1) true)
theorem qil {id:Nat} {Q:Exit->Act->World->Prop} {a:Act} {w:World} {l:List Oper} (C:World->Prop) (n:Nat) (hm:P.follows .mixedOrders=true) (hB:IP .any l.toArray n=true) (hC:C w.drew)
 {o:Oper} {x:Operand} {d:Tmp} (ho:l.toArray[l.length - 1]?=some o) (hx:o.op=.move x) (hw:o.guard=none) (hd:o.dst=some d)
 (h:wpQuiet P l.toArray C (fun a'=>∀ w',C w'->U7 P l.toArray (pW Q) ((l.drop n).take (l.length - n - 1)) a' w') (l.take n) (a.put (some d) (a.eval x))):(UF id l.toArray true).wp P Q a w:=by
 rw [<- hd] at h;simp only [IP,U2,decide_eq_true_eq] at hB;obtain ⟨⟨⟨⟨⟨hsel,hn⟩,hc⟩,hr⟩,hf⟩,hB'⟩:=hB;have hsz:l.toArray.size=l.length:=by simp
 rw [hsz] at hn hr hf hB';have hn':n+1<l.length:=hn;have htl:(l.take n).length=n:=by simp;omega
 have hdl:((l.drop n).take (l.length - n - 1)).length=l.length - n - 1:=by simp
 have hfl:Zu o=true:=by unfold Zu;rw [hx]
 have hr':l.length - 1∈U1 .any l.toArray (U5 l.toArray.size false):=by rw [hsz];simpa using hr
 have inv0:Closed .any l.toArray (U5 l.toArray.size false):=⟨by simp,fun j oj _ hl=>by rw [getD_replicate_false] at hl;cases hl⟩;refine wp_region_any hm (qy (n:=n) (Q:=Q .normal) (fun _ _ h=>h) _ _ _ C _ hC ?_)
 have key:=OM (P:=P) (md:=.any) (ops:=l.toArray) (Q:=Q) (tail:=(l.drop n).take (l.length - n - 1)) hsel hc (fun j hj=>by rw [hdl] at hj;simp [UG,hj]) (l.take n) 0 ((U5 l.toArray.size false).setIfInBounds (l.length - 1) true) (a.put o.dst (a.eval x)) C ⟨_,hC⟩
  (fun j hj=>by rw [htl] at hj;simp [UG,hj]) (by rw [htl];omega) ⟨inv0.set hr',by rw [hsz];simp [Array.getD]⟩ (by rw [htl,hdl,hsz];exact hB') h
 rw [htl,hdl] at key
 have:=qt (P:=P) (md:=.any) (ops:=l.toArray) (fun _=>True) (fun _ _ _ _=>trivial) (n:=n) (Q:=Q .normal) (v:=a.eval x) ho (by simp [hfl]) (U4 hsel) (.inl hfl) (n+(l.length - n - 1)) (U5 l.toArray.size false) a C ⟨_,hC⟩ trivial (U9 ho (by rw [hsz];exact hf)) hr'
  (.inl ⟨by unfold UH;rw [hw],fun w' _=>by
    unfold Oper.quietAt UB;rw [hx]
    exact ⟨rfl,rfl⟩⟩) key
 rw [show n+(l.length - n - 1)+1=l.toArray.size by simp;omega] at this;exact this
theorem O1 {id:Nat} {Q:Exit->Act->World->Prop} {a:Act} {w:World} {l:List Oper} (n:Nat) (hm:P.follows .mixedOrders=true) (hB:IP .any l.toArray n=true)
 {o:Oper} {x:Operand} {d:Tmp} (ho:l.toArray[l.length - 1]?=some o) (hx:o.op=.move x) (hw:o.guard=none) (hd:o.dst=some d)
 (h:wpQuiet P l.toArray (fun w'=>∃ m,w'=w.drewN m) (fun a'=>∀ w',(∃ m,w'=w.drewN m)->U7 P l.toArray (pW Q) ((l.drop n).take (l.length - n - 1)) a' w') (l.take n) (a.put (some d) (a.eval x))):(UF id l.toArray true).wp P Q a w :=
 qil _ n hm hB ⟨1,rfl⟩ ho hx hw hd h
end
end
end Go.Proofs.YtcneeepdclgdcaaGreat
