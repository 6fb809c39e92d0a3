import Derived.Test.YtcneeepdclgdcaaGreatPF4
import Derived.StillTail
set_option maxRecDepth 100000
set_option maxHeartbeats 4000000
namespace Go.Proofs.YtcneeepdclgdcaaGreat
open Go.Region renaming ready->WK,noSelect_spec->WN,Mode->WQ,binds->WS,free_spec->WT,noSelect->WU,waitsFor_spec->WW,wanted->XB
open _root_.Bool renaming and_eq_true->WL
open _root_.List renaming length_cons->WM,getElem?_take->XA,range->XE,length_nil->XG
open _root_.Array renaming replicate->WO,getElem?_eq_some_iff->XC
open Go renaming wpList->WR,execOp->WV,Program->XD
open _root_.Nat renaming add_assoc->WX,add_comm->WY,lt_or_ge->XF,zero_add->XH,le_refl->XI
open Go.Code renaming region->WZ
set_option linter.all false
section
open Go.RowKit Go.Shelf
section
variable {P:XD} {ops:Array Oper} {md:WQ}
def Zr (o:Oper):Bool:=match o.op with | .move _=>true | .assign _=>true | .extract _ _=>true | .pick _ _ _=>true | _=>false
def rP:Option Deferred->Act->Act
 | none,a=>a
 | some d,a=>{ a with defers:=d::a.defers }
theorem Mm (d:Option Deferred) (a:Act) (x:Option Tmp) (v:Value):rP d (a.put x v)=(rP d a).put x v:=by
 cases d <;> cases x <;> rfl
theorem qv4 (d:Option Deferred) (a:Act):(rP d a).eval=a.eval:=by cases d <;> rfl
theorem qv5 (d:Option Deferred) (a:Act):(rP d a).tmps=a.tmps:=by cases d <;> rfl
def qc5 (P:XD) (N:Option Deferred->Value->World->Prop):Result Next->Prop
 | .ok (.value v) w'=>N none v w'
 | .ok .skip w'=>N none undef w'
 | .ok (.defer d) w'=>N (some d) undef w'
 | .ok (.enter f args) w'=>Calls P f args w' fun e w''=>∃ v,e=.returned v/\N none v w''
 | .ok (.row row args) w'=>Rows P row args w' fun v w''=>N none v w''
 | _=>False
theorem Er {N N':Option Deferred->Value->World->Prop} (h:∀ d v w,N d v w->N' d v w):∀ {r:Result Next},qc5 P N r->qc5 P N' r
 | .ok (.value _) _,hh=>h _ _ _ hh
 | .ok .skip _,hh=>h _ _ _ hh
 | .ok (.defer _) _,hh=>h _ _ _ hh
 | .ok (.enter _ _) _,hh=>Calls.mono hh fun e w'' ⟨v,he,hn⟩=>⟨v,he,h _ _ _ hn⟩
 | .ok (.row _ _) _,hh=>Rows.mono hh fun v w'' hn=>h _ _ _ hn
 | .ok (.comm ..) _,hh=>by simp [qc5] at hh
 | .ok (.spawn ..) _,hh=>by simp [qc5] at hh
 | .halt _ _,hh=>by simp [qc5] at hh
theorem LW {o:Oper} (hf:Zr o=true) (a:Act):(∃ v,∀ w,(WV a.eval o).run P w=.ok (.value v) w)\/∀ w,∃ h w',(WV a.eval o).run P w=.halt h w':=by
 unfold Zr at hf;split at hf
 ·rename_i x hx
  refine .inl ⟨a.eval x,fun w=>?_⟩
  unfold WV;rw [hx];rfl
 ·rename_i x hx
  refine .inl ⟨a.eval x,fun w=>?_⟩
  unfold WV;rw [hx];rfl
 ·rename_i x i hx
  unfold WV;rw [hx];simp only [Instr.extract];cases a.eval x
  case tuple vs =>
   simp only [];cases hv:vs[i]? with
   | some v=>exact .inl ⟨v,fun w=>rfl⟩
   | none=>exact .inr fun w=>⟨_,_,rfl⟩
  all_goals exact .inr fun w=>⟨_,_,rfl⟩
 ·rename_i c x y hx
  unfold WV;rw [hx];simp only [];cases a.eval c
  case bool b=>exact .inl ⟨_,fun w=>rfl⟩
  all_goals exact .inr fun w=>⟨_,_,rfl⟩
 ·cases hf
theorem qm0 {o:Oper} (hf:Zr o=true) (a:Act) {C:World->Prop} (hne:∃ w,C w) {v:Value} (hy:YieldsIn P ops C o v a) (C':World->Prop):YieldsIn P ops C' o v a:=by
 rcases hy with ⟨hw,hv⟩ | hy
 ·refine .inl ⟨hw,fun w hw'=>?_⟩
  obtain ⟨w0,h0⟩:=hne;have h1:=hv w0 h0;unfold Oper.quietAt at h1 |-;rcases LW (P:=P) hf a with ⟨u,hu⟩ | hu
  ·rw [hu] at h1 |-
   simp only [Oper.quietUpon] at h1 |-;exact ⟨trivial,h1.2⟩
  ·obtain ⟨h,w',e⟩:=hu w0
   rw [e] at h1;simp only [Oper.quietUpon] at h1
 ·exact .inr hy
def mStep (P:XD) (ops:Array Oper) (n i:Nat) (K:Act->(World->Prop)->Prop) (a:Act) (C:World->Prop):Prop :=
 match ops[i]? with
 | none=>K a C
 | some o=>if XB o (yielded ops a.tmps) then
    (if (decide (i<n) || Zr o)=true then ∃ v,(∀ w,C w->o.quietAt P a C w v)/\K (a.put o.dst v) C
     else ∀ w,C w->qc5 P (fun d v w'=>K ((rP d a).put o.dst v) (fun x=>x=w')) ((WV a.eval o).run P w))
   else K (a.put o.dst undef) C
theorem R5 {n i:Nat} {K K':Act->(World->Prop)->Prop} {a:Act} {C:World->Prop} (h:∀ a C,(∃ w,C w)->K a C->K' a C) (hne:∃ w,C w) (hh:mStep P ops n i K a C):mStep P ops n i K' a C:=by
 unfold mStep at *;split
 ·rename_i ho;simp only [ho] at hh;exact h _ _ hne hh
 ·rename_i o ho
  simp only [ho] at hh;split
  ·rename_i hw
   simp only [hw,if_true] at hh;split
   ·rename_i hi
    rw [if_pos hi] at hh;obtain ⟨v,h1,h2⟩:=hh;exact ⟨v,h1,h _ _ hne h2⟩
   ·rename_i hi
    rw [if_neg hi] at hh;exact fun w hw'=>Er (fun d v w' hn=>h _ (fun x=>x=w') ⟨w',rfl⟩ hn) (hh w hw')
  ·rename_i hw
   simp only [hw] at hh;exact h _ _ hne hh
def uj (P:XD) (md:WQ) (ops:Array Oper) (n:Nat) (Q:Act->World->Prop):Nat->Array Bool->Act->(World->Prop)->Prop
 | 0,listed,a,C=>WK md ops listed=[]/\∀ w,C w->Q a w
 | f+1,listed,a,C=>(WK md ops listed=[]->∀ w,C w->Q a w)/\∀ i∈WK md ops listed,mStep P ops n i (fun a' C'=>uj P md ops n Q f (listed.setIfInBounds i true) a' C') a C
theorem qqs {o:Oper} {a:Act} {w:World} {K:Act->World->Prop} {Q':Exit->Act->World->Prop} (h:qc5 P (fun d v w'=>K ((rP d a).put o.dst v) w') ((WV a.eval o).run P w)):o.wp P a w K Q':=by
 unfold Oper.wp;generalize (WV a.eval o).run P w=r at *;cases r with
 | ok x w' =>
   cases x <;> simp only [qc5] at h <;> simp only [Oper.upon]
   case value u=>exact h
   case skip=>exact h
   case defer d=>exact h
   case enter f args=>exact h.mono fun e w'' ⟨v,he,hn⟩=>by subst he;exact hn
   case row r args=>exact h
 | halt x w'=>simp only [qc5] at h
theorem qy {n:Nat} {Q:Act->World->Prop} {Q':Exit->Act->World->Prop} (hQ:∀ a w,Q a w->Q' .normal a w):∀ (f:Nat) (listed:Array Bool) (a:Act) (C:World->Prop) (w:World),C w ->
 uj P md ops n Q f listed a C->wpAny P md ops Q' f listed a w
 | 0,_,_,_,_,hw,h=>⟨h.1,hQ _ _ (h.2 _ hw)⟩
 | f+1,listed,a,C,w,hw,h=>by
   refine ⟨fun h0=>hQ _ _ (h.1 h0 _ hw),fun i hi=>?_⟩
   have hh:=h.2 i hi;unfold mStep at hh;unfold wpOp;split
   ·rename_i ho;simp only [ho] at hh;exact qy hQ f _ _ _ _ hw hh
   ·rename_i o ho
    simp only [ho] at hh;split
    ·rename_i hwt
     simp only [hwt,if_true] at hh;by_cases hin:(decide (i<n) || Zr o)=true
     ·rw [if_pos hin] at hh
      obtain ⟨v,h1,h2⟩:=hh;refine .inl (Oper.wp_of_quiet (C:=C) (K:=fun a'=>uj P md ops n Q f (listed.setIfInBounds i true) a' C) hw (fun a' w' hw' hk=>qy hQ f _ a' C w' hw' hk) ⟨v,h1,h2⟩)
     ·rw [if_neg hin] at hh
      exact .inl (qqs (Er (fun d v w' hn=>qy hQ f _ _ (fun x=>x=w') _ rfl hn) (hh w hw)))
    ·rename_i hwt
     simp only [hwt] at hh;exact qy hQ f _ _ _ _ hw hh
structure Closed (md:WQ) (ops:Array Oper) (listed:Array Bool):Prop where
 size:listed.size=ops.size
 closed:∀ j oj,ops[j]?=some oj->listed.getD j false=true->∀ e∈oj.after,WS md e=true->listed.getD e.on false=true
theorem Closed.set {i:Nat} {listed:Array Bool} (inv:Closed md ops listed) (hi:i∈WK md ops listed):Closed md ops (listed.setIfInBounds i true):=by
 obtain ⟨_,oi,hoi,hall⟩:=mem_ready.1 hi;refine ⟨by simp [inv.size],fun j oj hj hl e he hb=>?_⟩
 by_cases hij:i=j
 ·subst hij
  have:oj=oi:=Option.some.inj (hj.symm.trans hoi);subst this;exact getD_set_true (hall e he hb)
 ·rw [getD_set_ne false hij] at hl
  exact getD_set_true (inv.closed j oj hj hl e he hb)
def uE (md:WQ) (ops:Array Oper) (n:Nat):Nat->List Nat
 | 0=>[]
 | d+1=>if Region.waitsFor md ops n (n - (d+1)) || (uE md ops n d).any (fun j=>Region.waitsFor md ops j (n - (d+1))) then (n - (d+1))::uE md ops n d else uE md ops n d
theorem Re {n:Nat} {listed:Array Bool} (inv:Closed md ops listed) (hn:∀ on,ops[n]?=some on->∀ e∈on.after,WS md e=true->listed.getD e.on false=true) :
 ∀ d,∀ k∈uE md ops n d,listed.getD k false=true:=by
 intro d;induction d with
 | zero=>intro k hk;cases hk
 | succ d ih =>
   intro k hk;unfold uE at hk;split at hk
   ·rename_i hc
    rcases List.mem_cons.1 hk with rfl | hk
    ·simp only [Bool.or_eq_true] at hc
     rcases hc with hc | hc
     ·obtain ⟨on,ho,e,he,hb,hon⟩:=WW hc
      exact hon ▸ hn on ho e he hb
     ·obtain ⟨j,hj,hc⟩:=List.any_eq_true.1 hc
      obtain ⟨oj,ho,e,he,hb,hon⟩:=WW hc;exact hon ▸ inv.closed j oj ho (ih j hj) e he hb
    ·exact ih k hk
   ·exact ih k hk
def EM (md:WQ) (ops:Array Oper) (n:Nat):Bool :=
 (XE ops.size).all fun t=>decide (t<=n) || (XE t).any fun j=>decide (n<=j) && Region.waitsFor md ops t j
theorem qo2 {n i:Nat} {listed:Array Bool} (hc:EM md ops n=true) (inv:Closed md ops listed) (hg:i∈uE md ops n n) (hun:listed.getD i false=false):∀ t,n<=t->t ∉ WK md ops listed:=by
 have key:∀ t,n<=t->(∀ ot,ops[t]?=some ot->∀ e∈ot.after,WS md e=true->listed.getD e.on false=true)->t<ops.size->False:=by
  intro t;induction t using Nat.strongRecOn with
  | _ t ih =>
    intro hnt h hlt;have h1:=List.all_eq_true.1 hc t (List.mem_range.2 hlt);simp only [Bool.or_eq_true,decide_eq_true_eq] at h1;rcases h1 with h1 | h1
    ·have:t=n:=by omega
     subst this;rw [Re inv h t i hg] at hun;cases hun
    ·obtain ⟨j,hj,hj2⟩:=List.any_eq_true.1 h1
     simp only [WL,decide_eq_true_eq] at hj2;have hjt:=List.mem_range.1 hj;obtain ⟨ot,ho,e,he,hb,hon⟩:=WW hj2.2;have h2:=h ot ho e he hb;rw [hon] at h2;exact ih j hjt hj2.1 (fun oj hoj e' he' hb'=>inv.closed j oj hoj h2 e' he' hb') (by omega)
 intro t ht hr;obtain ⟨_,ot,ho,hall⟩:=mem_ready.1 hr;exact key t ht (fun ot' ho'=>by rw [ho] at ho';cases ho';exact hall) (XC.1 ho).1
theorem SX {n j:Nat} {oi oj:Oper} {v:Value} (hj:ops[j]?=some oj) (hap:oi.apart ops oj=true)
 (hsi:∀ cs b,oi.op≠.select cs b) (hsj:∀ cs b,oj.op≠.select cs b) {K:Act->(World->Prop)->Prop} {a:Act} {C:World->Prop} (hne:∃ w,C w)
 (hy:YieldsIn P ops C oi v a) (hfl:Zr oi=true\/(decide (j<n) || Zr oj)=true) (h:mStep P ops n j K (a.put oi.dst v) C) :
 mStep P ops n j (fun a' C'=>YieldsIn P ops C' oi v a'/\(Zr oi=true\/C'=C)/\(∃ w,C' w)/\K (a'.put oi.dst v) C') a C:=by
 obtain ⟨h1,h2,h3⟩:=Oper.apart_spec hap
 have keep:∀ (a:Act),YieldsIn P ops C oi v a->∀ u,YieldsIn P ops C oi v (a.put oj.dst u):=fun a hy u =>
  hy.of_same (execOp_put oi hsi a oj.dst u h3) (wanted_put oi a oj.dst u h3)
 unfold mStep at *;simp only [hj] at *;rw [wanted_put oj a oi.dst v h1] at h;split
 ·rename_i hw
  simp only [hw,if_true] at h;split
  ·rename_i hjn
   rw [if_pos hjn] at h;obtain ⟨u,hu,hn⟩:=h;refine ⟨u,fun w hw'=>?_,keep a hy u,by simp,hne,by rw [<- Act.put_comm a v u h2];exact hn⟩
   have:=hu w hw';unfold Oper.quietAt at *;rwa [execOp_put oj hsj a oi.dst v h1] at this
  ·rename_i hjn
   rw [if_neg hjn] at h;have hf:=hfl.resolve_right hjn;intro w hw';have:=h w hw';rw [execOp_put oj hsj a oi.dst v h1] at this;refine Er (fun d u w' hn=>⟨?_,.inl hf,⟨w',rfl⟩,?_⟩) this
   ·have y1:=qm0 hf _ hne (keep a hy u) (fun x=>x=w')
    refine y1.of_same ?_ ?_
    ·rw [<- Mm,qv4]
    ·rw [<- Mm,qv5]
   ·have e1:((rP d a).put oj.dst u).put oi.dst v=(rP d (a.put oi.dst v)).put oj.dst u:=by
     rw [Mm,Act.put_comm (rP d a) v u h2]
    rw [e1];exact hn
 ·rename_i hw
  simp only [hw] at h;exact ⟨keep a hy _,by simp,hne,by rw [<- Act.put_comm a v undef h2];exact h⟩
theorem Y5 {n i:Nat} {o:Oper} {v:Value} {a:Act} {C:World->Prop} (hi:ops[i]?=some o) (hin:(decide (i<n) || Zr o)=true) (hy:YieldsIn P ops C o v a) {K:Act->(World->Prop)->Prop} (h:K (a.put o.dst v) C):mStep P ops n i K a C:=by
 unfold Go.Proofs.YtcneeepdclgdcaaGreat.mStep;simp only [hi];rcases hy with ⟨hw,hv⟩ | ⟨hw,rfl⟩
 ·simp only [hw,hin,if_true];exact ⟨v,hv,h⟩
 ·simp only [hw,Bool.false_eq_true,if_false];exact h
theorem La {n:Nat} {Q:Act->World->Prop} {i:Nat} {oi:Oper} {v:Value} (hi:ops[i]?=some oi) (hin:(decide (i<n) || Zr oi)=true) (hsel:∀ (j:Nat) (o:Oper) cs b,ops[j]?=some o->o.op≠.select cs b)
 (hc:EM md ops n=true) (hk:Zr oi=true\/i∈uE md ops n n) :
 ∀ (f:Nat) (listed:Array Bool) (a:Act) (C:World->Prop),(∃ w,C w)->Closed md ops listed ->
   (∀ j oj,ops[j]?=some oj->j≠i->listed.getD j true=false->(∀ e∈oj.after,WS md e=true->e.on≠i)->oi.apart ops oj=true) ->
   i∈WK md ops listed->YieldsIn P ops C oi v a ->
   uj P md ops n Q f (listed.setIfInBounds i true) (a.put oi.dst v) C->uj P md ops n Q (f+1) listed a C:=by
 intro f;induction f with
 | zero =>
   intro listed a C hne inv _ hr hy H;refine ⟨fun h=>(by rw [h] at hr;cases hr),fun j hj=>?_⟩
   by_cases hji:j=i
   ·subst hji;exact Y5 hi hin hy H
   ·have:=ready_mono hj hji
    rw [H.1] at this;cases this
 | succ f ih =>
   intro listed a C hne inv hfree hr hy H;refine ⟨fun h=>(by rw [h] at hr;cases hr),fun j hj=>?_⟩
   by_cases hji:j=i
   ·subst hji;exact Y5 hi hin hy H
   ·have h1:=H.2 j (ready_mono hj hji)
    obtain ⟨hjun,oj,hoj,hall⟩:=mem_ready.1 hj;have hun:=(mem_ready.1 hr).1
    have hnot:∀ e∈oj.after,WS md e=true->e.on≠i:=fun e he hb heq=>by
     have h1:=hall e he hb;rw [heq,getD_both hun] at h1;cases h1
    have hfl:Zr oi=true\/(decide (j<n) || Zr oj)=true:=by
     rcases hk with hk | hk
     ·exact .inl hk
     ·rcases XF j n with h | h
      ·exact .inr (by simp [h])
      ·exact absurd hj (qo2 hc inv hk (getD_both hun) j h)
    have h2:=SX hoj (hfree j oj hoj hji hjun hnot) (fun cs b=>hsel i oi cs b hi) (fun cs b=>hsel j oj cs b hoj) hne hy hfl h1
    have hfree':∀ k ok,ops[k]?=some ok->k≠i->(listed.setIfInBounds j true).getD k true=false ->
     (∀ e∈ok.after,WS md e=true->e.on≠i)->oi.apart ops ok=true:=fun k ok hk hki hun hno=>by
     refine hfree k ok hk hki ?_ hno
     by_cases hjk:j=k
     ·subst hjk;exact hjun
     ·rw [getD_set_ne true hjk] at hun;exact hun
    refine R5 (fun a' C' hne' h3=>ih (listed.setIfInBounds j true) a' C' h3.2.2.1 (inv.set hj) hfree' (ready_mono hr (Ne.symm hji)) h3.1 ?_) hne h2
    rw [Array.setIfInBounds_comm _ _ hji];exact h3.2.2.2
structure qI (Q:Exit->Act->World->Prop) (e:Exit) (a:Act) (w:World):Prop where
 is:e=.normal
 q:Q .normal a w
theorem J9 {Q:Exit->Act->World->Prop} (h:LetsOut (qI Q)):False:=by
 obtain ⟨a,w,h⟩:=h;cases h.is
theorem Yy {o:Oper} {a:Act} {w:World} {K:Act->World->Prop} {Q:Exit->Act->World->Prop} (h:o.wp P a w K (qI Q)):qc5 P (fun d v w'=>K ((rP d a).put o.dst v) w') ((WV a.eval o).run P w):=by
 unfold Oper.wp at h;generalize (WV a.eval o).run P w=r at *;cases r with
 | ok x w' =>
   cases x <;> simp only [Oper.upon] at h <;> simp only [qc5]
   case value u=>exact h
   case skip=>exact h
   case defer d=>exact h
   case enter f args =>
    refine h.mono fun e w'' he=>?_
    cases e with
    | returned v=>exact ⟨v,rfl,he⟩
    | panicked c=>cases he.is
    | outgrown=>exact (J9 he).elim
   case row r args=>exact h
 | halt x w'=>cases x <;> simp only [Oper.upon] at h <;> simp only [qc5];cases h.is
def yu (md:WQ) (ops:Array Oper):Nat->Nat->Array Bool->Bool
 | 0,_,listed=>(WK md ops listed).isEmpty
 | g+1,k,listed=>(if (ops[k]?).any Zr=true then (WK md ops listed).contains k && Region.free md ops listed k else decide (WK md ops listed=[k])) && yu md ops g (k+1) (listed.setIfInBounds k true)
theorem LF {n:Nat} {Q:Exit->Act->World->Prop} (hsel:WU ops=true) (hc:EM md ops n=true):∀ (l:List Oper) (k:Nat) (listed:Array Bool) (a:Act) (C:World->Prop),(∃ w,C w)->Closed md ops listed->n<=k->(∀ j,l[j]?=ops[k+j]?) ->
 yu md ops l.length k listed=true->(∀ w,C w->WR P ops (qI Q) l a w)->uj P md ops n (Q .normal) l.length listed a C
 | [],_,_,_,_,_,_,_,_,hB,h=>⟨by simpa [yu] using hB,fun w hw=>(h w hw).q⟩
 | o::l,k,listed,a,C,hne,inv,hk,hl,hB,h=>by
   have h0:ops[k]?=some o:=by simpa using (hl 0).symm
   simp only [WM,yu,WL] at hB;obtain ⟨hB1,hB2⟩:=hB;rw [h0] at hB1;simp only [Option.any_some] at hB1;by_cases hfl:Zr o=true
   ·rw [if_pos hfl] at hB1
    simp only [WL] at hB1;have hr':k∈WK md ops listed:=by simpa using hB1.1
    have ih:=fun a'=>LF (n:=n) (Q:=Q) hsel hc l (k+1) (listed.setIfInBounds k true) a' C hne (inv.set hr') (by omega) (fun j=>by have:=hl (j+1);simpa [WX,WY 1 j] using this) hB2
    by_cases hw:XB o (yielded ops a.tmps)=true
    ·obtain ⟨w0,hw0⟩:=hne
     have e0:∃ v,∀ w,(WV a.eval o).run P w=.ok (.value v) w:=by
      rcases LW (P:=P) hfl a with hu | hu
      ·exact hu
      ·obtain ⟨x,w',e⟩:=hu w0
       have h1:=h w0 hw0;unfold WR at h1;simp only [hw,if_true] at h1;rcases h1 with h1 | h1
       ·have h2:=Yy h1
        rw [e] at h2;simp only [qc5] at h2
       ·exact (J9 h1.2).elim
     obtain ⟨v,hv⟩:=e0;refine La (v:=v) h0 (by simp [hfl]) (WN hsel) hc (.inl hfl) l.length listed a C ⟨w0,hw0⟩ inv (WT h0 hB1.2) hr' (.inl ⟨hw,fun w hw'=>?_⟩) (ih _ (fun w hw'=>?_))
     ·unfold Oper.quietAt
      rw [hv];exact ⟨rfl,rfl⟩
     ·have h1:=h w hw'
      unfold WR at h1;simp only [hw,if_true] at h1;rcases h1 with h1 | h1
      ·have h2:=Yy h1
       rw [hv] at h2;simpa only [qc5,rP] using h2
      ·exact (J9 h1.2).elim
    ·refine La (v:=undef) h0 (by simp [hfl]) (WN hsel) hc (.inl hfl) l.length listed a C hne inv (WT h0 hB1.2) hr' (.inr ⟨by simpa using hw,rfl⟩) (ih _ (fun w hw'=>?_))
     have h1:=h w hw';unfold WR at h1;simpa [hw] using h1
   ·rw [if_neg hfl] at hB1
    simp only [decide_eq_true_eq] at hB1;have hr':k∈WK md ops listed:=by rw [hB1];simp
    refine ⟨fun h1=>(by rw [hB1] at h1;cases h1),fun i hi=>?_⟩
    rw [hB1] at hi;have hik:i=k:=by simpa using hi
    subst hik;have ih:=fun a' C' hne'=>LF (n:=n) (Q:=Q) hsel hc l (i+1) (listed.setIfInBounds i true) a' C' hne' (inv.set hr') (by omega) (fun j=>by have:=hl (j+1);simpa [WX,WY 1 j] using this) hB2
    unfold mStep;simp only [h0];split
    ·rename_i hw
     have hni:¬ (decide (i<n) || Zr o)=true:=by simp [hfl];omega
     rw [if_neg hni];intro w hw';have h1:=h w hw';unfold WR at h1;simp only [hw,if_true] at h1;rcases h1 with h1 | h1
     ·exact Er (fun d v w' hn=>ih _ (fun x=>x=w') ⟨w',rfl⟩ (fun x hx=>by subst hx;exact hn)) (Yy h1)
     ·exact (J9 h1.2).elim
    ·rename_i hw
     refine ih _ _ hne (fun w hw'=>?_)
     have h1:=h w hw';unfold WR at h1;simpa [hw] using h1
def xq (md:WQ) (ops:Array Oper) (n g:Nat):Nat->Nat->Array Bool->Bool
 | 0,k,listed=>yu md ops g k listed
 | f+1,k,listed=>(WK md ops listed).contains k && Region.free md ops listed k && ((ops[k]?).any Zr || (uE md ops n n).contains k) && xq md ops n g f (k+1) (listed.setIfInBounds k true)
def Ic (md:WQ) (ops:Array Oper) (n:Nat):Bool :=
 WU ops && decide (n<ops.size) && EM md ops n && xq md ops n (ops.size - n) n 0 (WO ops.size false)
theorem Sc {n:Nat} {Q:Exit->Act->World->Prop} {tail:List Oper} (hsel:WU ops=true) (hc:EM md ops n=true) (htl:∀ j,tail[j]?=ops[n+j]?) :
 ∀ (l:List Oper) (k:Nat) (listed:Array Bool) (a:Act) (C:World->Prop),(∃ w,C w)->(∀ j,j<l.length->l[j]?=ops[k+j]?)->k+l.length=n->Closed md ops listed ->
 xq md ops n tail.length l.length k listed=true->wpQuiet P ops C (fun a'=>∀ w,C w->WR P ops (qI Q) tail a' w) l a ->
 uj P md ops n (Q .normal) (l.length+tail.length) listed a C
 | [],k,listed,a,C,hne,_,hk,inv,hB,h=>by
   have:k=n:=by simpa using hk
   subst this;rw [XG,XH];exact LF hsel hc tail k listed a C hne inv (XI _) htl (by simpa [xq] using hB) h
 | o::l,k,listed,a,C,hne,hl,hk,inv,hB,h=>by
   have h0:ops[k]?=some o:=by simpa using (hl 0 (by simp)).symm
   simp only [WM,xq,WL] at hB;obtain ⟨⟨⟨hr,hf⟩,hkd⟩,hB'⟩:=hB;have hkn:k<n:=by simp only [WM] at hk;omega
   have hr':k∈WK md ops listed:=by simpa using hr
   have hst:qOp P ops C k (wpQuiet P ops C (fun a'=>∀ w,C w->WR P ops (qI Q) tail a' w) l) a:=by unfold qOp;simp only [h0];exact h
   obtain ⟨v,hy,hK⟩:=yieldsIn_of_qOp h0 hst;have zD:Zr o=true\/k∈uE md ops n n:=by simpa [h0] using hkd
   rw [show (o::l).length+tail.length=(l.length+tail.length)+1 by simp only [WM];omega]
   exact La h0 (by simp [hkn]) (WN hsel) hc zD (l.length+tail.length) listed a C hne inv (WT h0 hf) hr' hy
    (Sc hsel hc htl l (k+1) _ _ C hne (fun j hj=>by have:=hl (j+1) (by simp;omega);simpa [WX,WY 1 j] using this) (by simp only [WM] at hk;omega) (inv.set hr') hB' hK)
theorem Yu {id:Nat} {Q:Exit->Act->World->Prop} {a:Act} {w:World} {l:List Oper} (C:World->Prop) (n:Nat) (hm:P.follows .mixedOrders=true) (hB:Ic .any l.toArray n=true) (hC:C w.drew)
 (h:wpQuiet P l.toArray C (fun a'=>∀ w',C w'->WR P l.toArray (qI Q) (l.drop n) a' w') (l.take n) a):(WZ id l.toArray true).wp P Q a w:=by
 simp only [Ic,WL,decide_eq_true_eq] at hB;obtain ⟨⟨⟨hsel,hn⟩,hc⟩,hB'⟩:=hB;have hn':n<l.length:=by simpa using hn
 have htl:(l.take n).length=n:=by simp;omega
 have hdl:(l.drop n).length=l.toArray.size - n:=by simp
 refine wp_region_any hm (qy (n:=n) (Q:=Q .normal) (fun _ _ h=>h) _ _ _ C _ hC ?_)
 have:=Sc (P:=P) (md:=.any) (ops:=l.toArray) (Q:=Q) (tail:=l.drop n) hsel hc (fun j=>by simp) (l.take n) 0 (WO l.toArray.size false) a C ⟨_,hC⟩
  (fun j hj=>by rw [htl] at hj;simp [XA,hj]) (by rw [htl];omega) ⟨by simp,fun j oj _ hl=>by rw [getD_replicate_false] at hl;cases hl⟩ (by rw [htl,hdl];exact hB') h
 rw [htl,hdl] at this;rw [show n+(l.toArray.size - n)=l.toArray.size by simp;omega] at this;exact this
theorem Z8 {id:Nat} {Q:Exit->Act->World->Prop} {a:Act} {w:World} {l:List Oper} (n:Nat) (hm:P.follows .mixedOrders=true) (hB:Ic .any l.toArray n=true)
 (h:wpQuiet P l.toArray (fun w'=>∃ m,w'=w.drewN m) (fun a'=>∀ w',(∃ m,w'=w.drewN m)->WR P l.toArray (qI Q) (l.drop n) a' w') (l.take n) a):(WZ id l.toArray true).wp P Q a w :=
 Yu _ n hm hB ⟨1,rfl⟩ h
end
theorem Mx {P:XD} {id:Nat} {Q:Exit->Act->World->Prop} {a:Act} {w:World} {l:List Oper} (n:Nat)
 (h:wpQuiet P l.toArray (fun w'=>∃ m,w'=w.drewN m) (fun a'=>∀ w',(∃ m,w'=w.drewN m)->WR P l.toArray (qI Q) (l.drop n) a' w') (l.take n) a) (hm:P.follows .mixedOrders=true:=by kernel_rfl) (hB:Ic .any l.toArray n=true:=by kernel_rfl):(WZ id l.toArray true).wp P Q a w:=Z8 n hm hB h
section
variable {P:XD} {ops:Array Oper} {md:WQ}
def Ny (md:WQ) (ops:Array Oper) (n:Nat):Bool :=
 (XE (ops.size - 1)).all fun t=>decide (t<=n) || (XE t).any fun j=>decide (n<=j) && Region.waitsFor md ops t j
structure BJ (md:WQ) (ops:Array Oper) (listed:Array Bool):Prop where
 c:Closed md ops listed
 l:listed.getD (ops.size - 1) true=true
theorem BJ.set {i:Nat} {listed:Array Bool} (inv:BJ md ops listed) (hi:i∈WK md ops listed):BJ md ops (listed.setIfInBounds i true):=by
 refine ⟨inv.c.set hi,?_⟩
 by_cases h:i=ops.size - 1
 ·have:=(mem_ready.1 hi).1
  rw [h,inv.l] at this;cases this
 ·rw [getD_set_ne true h];exact inv.l
theorem qml {n i:Nat} {listed:Array Bool} (hc:Ny md ops n=true) (inv:BJ md ops listed) (hg:i∈uE md ops n n) (hun:listed.getD i false=false):∀ t,n<=t->t ∉ WK md ops listed:=by
 have key:∀ t,n<=t->(∀ ot,ops[t]?=some ot->∀ e∈ot.after,WS md e=true->listed.getD e.on false=true)->t<ops.size - 1->False:=by
  intro t;induction t using Nat.strongRecOn with
  | _ t ih =>
    intro hnt h hlt;have h1:=List.all_eq_true.1 hc t (List.mem_range.2 hlt);simp only [Bool.or_eq_true,decide_eq_true_eq] at h1;rcases h1 with h1 | h1
    ·have:t=n:=by omega
     subst this;rw [Re inv.c h t i hg] at hun;cases hun
    ·obtain ⟨j,hj,hj2⟩:=List.any_eq_true.1 h1
     simp only [WL,decide_eq_true_eq] at hj2;have hjt:=List.mem_range.1 hj;obtain ⟨ot,ho,e,he,hb,hon⟩:=WW hj2.2;have h2:=h ot ho e he hb;rw [hon] at h2;exact ih j hjt hj2.1 (fun oj hoj e' he' hb'=>inv.c.closed j oj hoj h2 e' he' hb') (by omega)
 intro t ht hr;obtain ⟨DJ,ot,ho,hall⟩:=mem_ready.1 hr;refine key t ht (fun ot' ho'=>by rw [ho] at ho';cases ho';exact hall) ?_
 have hts:=(XC.1 ho).1;rcases XF t (ops.size - 1) with h2 | h2
 ·exact h2
 ·have:t=ops.size - 1:=by omega
  subst this;rw [inv.l] at DJ;cases DJ
theorem qu (V:Array Bool->Prop) (hVs:∀ (listed:Array Bool) (j:Nat),V listed->j∈WK md ops listed->V (listed.setIfInBounds j true)) {n:Nat} {Q:Act->World->Prop} {i:Nat} {oi:Oper} {v:Value} (hi:ops[i]?=some oi) (hin:(decide (i<n) || Zr oi)=true) (hsel:∀ (j:Nat) (o:Oper) cs b,ops[j]?=some o->o.op≠.select cs b)
 (hk:Zr oi=true\/∀ listed:Array Bool,V listed->listed.getD i false=false->∀ t,n<=t->t ∉ WK md ops listed) :
 ∀ (f:Nat) (listed:Array Bool) (a:Act) (C:World->Prop),(∃ w,C w)->V listed ->
   (∀ j oj,ops[j]?=some oj->j≠i->listed.getD j true=false->(∀ e∈oj.after,WS md e=true->e.on≠i)->oi.apart ops oj=true) ->
   i∈WK md ops listed->YieldsIn P ops C oi v a ->
   uj P md ops n Q f (listed.setIfInBounds i true) (a.put oi.dst v) C->uj P md ops n Q (f+1) listed a C:=by
 intro f;induction f with
 | zero =>
   intro listed a C hne inv _ hr hy H;refine ⟨fun h=>(by rw [h] at hr;cases hr),fun j hj=>?_⟩
   by_cases hji:j=i
   ·subst hji;exact Y5 hi hin hy H
   ·have:=ready_mono hj hji
    rw [H.1] at this;cases this
 | succ f ih =>
   intro listed a C hne inv hfree hr hy H;refine ⟨fun h=>(by rw [h] at hr;cases hr),fun j hj=>?_⟩
   by_cases hji:j=i
   ·subst hji;exact Y5 hi hin hy H
   ·have h1:=H.2 j (ready_mono hj hji)
    obtain ⟨hjun,oj,hoj,hall⟩:=mem_ready.1 hj;have hun:=(mem_ready.1 hr).1
    have hnot:∀ e∈oj.after,WS md e=true->e.on≠i:=fun e he hb heq=>by
     have h1:=hall e he hb;rw [heq,getD_both hun] at h1;cases h1
    have hfl:Zr oi=true\/(decide (j<n) || Zr oj)=true:=by
     rcases hk with hk | hk
     ·exact .inl hk
     ·rcases XF j n with h | h
      ·exact .inr (by simp [h])
      ·exact absurd hj (hk _ inv (getD_both hun) j h)
    have h2:=SX hoj (hfree j oj hoj hji hjun hnot) (fun cs b=>hsel i oi cs b hi) (fun cs b=>hsel j oj cs b hoj) hne hy hfl h1
    have hfree':∀ k ok,ops[k]?=some ok->k≠i->(listed.setIfInBounds j true).getD k true=false ->
     (∀ e∈ok.after,WS md e=true->e.on≠i)->oi.apart ops ok=true:=fun k ok hk hki hun hno=>by
     refine hfree k ok hk hki ?_ hno
     by_cases hjk:j=k
     ·subst hjk;exact hjun
     ·rw [getD_set_ne true hjk] at hun;exact hun
    refine R5 (fun a' C' hne' h3=>ih (listed.setIfInBounds j true) a' C' h3.2.2.1 (hVs _ _ inv hj) hfree' (ready_mono hr (Ne.symm hji)) h3.1 ?_) hne h2
    rw [Array.setIfInBounds_comm _ _ hji];exact h3.2.2.2
theorem Lf {n:Nat} {Q:Exit->Act->World->Prop} (hsel:WU ops=true):∀ (l:List Oper) (k:Nat) (listed:Array Bool) (a:Act) (C:World->Prop),(∃ w,C w)->n<=k->(∀ j,j<l.length->l[j]?=ops[k+j]?) ->
 yu md ops l.length k listed=true->(∀ w,C w->WR P ops (qI Q) l a w)->uj P md ops n (Q .normal) l.length listed a C
 | [],_,_,_,_,_,_,_,hB,h=>⟨by simpa [yu] using hB,fun w hw=>(h w hw).q⟩
 | o::l,k,listed,a,C,hne,hk,hl,hB,h=>by
   have h0:ops[k]?=some o:=by simpa using (hl 0 (by simp)).symm
   simp only [WM,yu,WL] at hB;obtain ⟨hB1,hB2⟩:=hB;rw [h0] at hB1;simp only [Option.any_some] at hB1;by_cases hfl:Zr o=true
   ·rw [if_pos hfl] at hB1
    simp only [WL] at hB1;have hr':k∈WK md ops listed:=by simpa using hB1.1
    have ih:=fun a'=>Lf (n:=n) (Q:=Q) hsel l (k+1) (listed.setIfInBounds k true) a' C hne (by omega) (fun j hj=>by have:=hl (j+1) (by simp;omega);simpa [WX,WY 1 j] using this) hB2
    by_cases hw:XB o (yielded ops a.tmps)=true
    ·obtain ⟨w0,hw0⟩:=hne
     have e0:∃ v,∀ w,(WV a.eval o).run P w=.ok (.value v) w:=by
      rcases LW (P:=P) hfl a with hu | hu
      ·exact hu
      ·obtain ⟨x,w',e⟩:=hu w0
       have h1:=h w0 hw0;unfold WR at h1;simp only [hw,if_true] at h1;rcases h1 with h1 | h1
       ·have h2:=Yy h1
        rw [e] at h2;simp only [qc5] at h2
       ·exact (J9 h1.2).elim
     obtain ⟨v,hv⟩:=e0;refine qu (fun _=>True) (fun _ _ _ _=>trivial) (v:=v) h0 (by simp [hfl]) (WN hsel) (.inl hfl) l.length listed a C ⟨w0,hw0⟩ trivial (WT h0 hB1.2) hr' (.inl ⟨hw,fun w hw'=>?_⟩) (ih _ (fun w hw'=>?_))
     ·unfold Oper.quietAt
      rw [hv];exact ⟨rfl,rfl⟩
     ·have h1:=h w hw'
      unfold WR at h1;simp only [hw,if_true] at h1;rcases h1 with h1 | h1
      ·have h2:=Yy h1
       rw [hv] at h2;simpa only [qc5,rP] using h2
      ·exact (J9 h1.2).elim
    ·refine qu (fun _=>True) (fun _ _ _ _=>trivial) (v:=undef) h0 (by simp [hfl]) (WN hsel) (.inl hfl) l.length listed a C hne trivial (WT h0 hB1.2) hr' (.inr ⟨by simpa using hw,rfl⟩) (ih _ (fun w hw'=>?_))
     have h1:=h w hw';unfold WR at h1;simpa [hw] using h1
   ·rw [if_neg hfl] at hB1
    simp only [decide_eq_true_eq] at hB1;have hr':k∈WK md ops listed:=by rw [hB1];simp
    refine ⟨fun h1=>(by rw [hB1] at h1;cases h1),fun i hi=>?_⟩
    rw [hB1] at hi;have hik:i=k:=by simpa using hi
    subst hik;have ih:=fun a' C' hne'=>Lf (n:=n) (Q:=Q) hsel l (i+1) (listed.setIfInBounds i true) a' C' hne' (by omega) (fun j hj=>by have:=hl (j+1) (by simp;omega);simpa [WX,WY 1 j] using this) hB2
    unfold mStep;simp only [h0];split
    ·rename_i hw
     have hni:¬ (decide (i<n) || Zr o)=true:=by simp [hfl];omega
     rw [if_neg hni];intro w hw';have h1:=h w hw';unfold WR at h1;simp only [hw,if_true] at h1;rcases h1 with h1 | h1
     ·exact Er (fun d v w' hn=>ih _ (fun x=>x=w') ⟨w',rfl⟩ (fun x hx=>by subst hx;exact hn)) (Yy h1)
     ·exact (J9 h1.2).elim
    ·rename_i hw
     refine ih _ _ hne (fun w hw'=>?_)
     have h1:=h w hw';unfold WR at h1;simpa [hw] using h1
theorem Rv {n:Nat} {Q:Exit->Act->World->Prop} {tail:List Oper} (hsel:WU ops=true) (hc:Ny md ops n=true) (htl:∀ j,j<tail.length->tail[j]?=ops[n+j]?) :
 ∀ (l:List Oper) (k:Nat) (listed:Array Bool) (a:Act) (C:World->Prop),(∃ w,C w)->(∀ j,j<l.length->l[j]?=ops[k+j]?)->k+l.length=n->BJ md ops listed ->
 xq md ops n tail.length l.length k listed=true->wpQuiet P ops C (fun a'=>∀ w,C w->WR P ops (qI Q) tail a' w) l a ->
 uj P md ops n (Q .normal) (l.length+tail.length) listed a C
 | [],k,listed,a,C,hne,_,hk,inv,hB,h=>by
   have:k=n:=by simpa using hk
   subst this;rw [XG,XH];exact Lf hsel tail k listed a C hne (XI _) htl (by simpa [xq] using hB) h
 | o::l,k,listed,a,C,hne,hl,hk,inv,hB,h=>by
   have h0:ops[k]?=some o:=by simpa using (hl 0 (by simp)).symm
   simp only [WM,xq,WL] at hB;obtain ⟨⟨⟨hr,hf⟩,hkd⟩,hB'⟩:=hB;have hkn:k<n:=by simp only [WM] at hk;omega
   have hr':k∈WK md ops listed:=by simpa using hr
   have hst:qOp P ops C k (wpQuiet P ops C (fun a'=>∀ w,C w->WR P ops (qI Q) tail a' w) l) a:=by unfold qOp;simp only [h0];exact h
   obtain ⟨v,hy,hK⟩:=yieldsIn_of_qOp h0 hst;have zD:Zr o=true\/k∈uE md ops n n:=by simpa [h0] using hkd
   rw [show (o::l).length+tail.length=(l.length+tail.length)+1 by simp only [WM];omega]
   exact qu (BJ md ops) (fun _ _ h hj=>h.set hj) h0 (by simp [hkn]) (WN hsel) (zD.imp id fun hg listed hv hun=>qml hc hv hg hun) (l.length+tail.length) listed a C hne inv (WT h0 hf) hr' hy
    (Rv hsel hc htl l (k+1) _ _ C hne (fun j hj=>by have:=hl (j+1) (by simp;omega);simpa [WX,WY 1 j] using this) (by simp only [WM] at hk;omega) (inv.set hr') hB' hK)
def KJ (md:WQ) (ops:Array Oper) (n:Nat):Bool :=
 WU ops && decide (n+1<ops.size) && Ny md ops n && (WK md ops (WO ops.size false)).contains (ops.size - 1) && Region.free md ops (WO ops.size false) (ops.size - 1) &&
  xq md ops n (ops.size - n - 1) n 0 ((WO ops.size false).setIfInBounds (ops.size - 1) true)
theorem qja {id:Nat} {Q:Exit->Act->World->Prop} {a:Act} {w:World} {l:List Oper} (C:World->Prop) (n:Nat) (hm:P.follows .mixedOrders=true) (hB:KJ .any l.toArray n=true) (hC:C w.drew)
 {o:Oper} {x:Operand} {d:Tmp} (ho:l.toArray[l.length - 1]?=some o) (hx:o.op=.move x) (hw:o.guard=none) (hd:o.dst=some d)
 (h:wpQuiet P l.toArray C (fun a'=>∀ w',C w'->WR P l.toArray (qI Q) ((l.drop n).take (l.length - n - 1)) a' w') (l.take n) (a.put (some d) (a.eval x))):(WZ id l.toArray true).wp P Q a w:=by
 rw [<- hd] at h;simp only [KJ,WL,decide_eq_true_eq] at hB;obtain ⟨⟨⟨⟨⟨hsel,hn⟩,hc⟩,hr⟩,hf⟩,hB'⟩:=hB;have hsz:l.toArray.size=l.length:=by simp
 rw [hsz] at hn hr hf hB';have hn':n+1<l.length:=hn;have htl:(l.take n).length=n:=by simp;omega
 have hdl:((l.drop n).take (l.length - n - 1)).length=l.length - n - 1:=by simp
 have hfl:Zr o=true:=by unfold Zr;rw [hx]
 have hr':l.length - 1∈WK .any l.toArray (WO l.toArray.size false):=by rw [hsz];simpa using hr
 have inv0:Closed .any l.toArray (WO l.toArray.size false):=⟨by simp,fun j oj _ hl=>by rw [getD_replicate_false] at hl;cases hl⟩;refine wp_region_any hm (qy (n:=n) (Q:=Q .normal) (fun _ _ h=>h) _ _ _ C _ hC ?_)
 have key:=Rv (P:=P) (md:=.any) (ops:=l.toArray) (Q:=Q) (tail:=(l.drop n).take (l.length - n - 1)) hsel hc (fun j hj=>by rw [hdl] at hj;simp [XA,hj]) (l.take n) 0 ((WO l.toArray.size false).setIfInBounds (l.length - 1) true) (a.put o.dst (a.eval x)) C ⟨_,hC⟩
  (fun j hj=>by rw [htl] at hj;simp [XA,hj]) (by rw [htl];omega) ⟨inv0.set hr',by rw [hsz];simp [Array.getD]⟩ (by rw [htl,hdl,hsz];exact hB') h
 rw [htl,hdl] at key
 have:=qu (P:=P) (md:=.any) (ops:=l.toArray) (fun _=>True) (fun _ _ _ _=>trivial) (n:=n) (Q:=Q .normal) (v:=a.eval x) ho (by simp [hfl]) (WN hsel) (.inl hfl) (n+(l.length - n - 1)) (WO l.toArray.size false) a C ⟨_,hC⟩ trivial (WT ho (by rw [hsz];exact hf)) hr'
  (.inl ⟨by unfold XB;rw [hw],fun w' _=>by
    unfold Oper.quietAt WV;rw [hx]
    exact ⟨rfl,rfl⟩⟩) key
 rw [show n+(l.length - n - 1)+1=l.toArray.size by simp;omega] at this;exact this
theorem QU {id:Nat} {Q:Exit->Act->World->Prop} {a:Act} {w:World} {l:List Oper} (n:Nat) (hm:P.follows .mixedOrders=true) (hB:KJ .any l.toArray n=true)
 {o:Oper} {x:Operand} {d:Tmp} (ho:l.toArray[l.length - 1]?=some o) (hx:o.op=.move x) (hw:o.guard=none) (hd:o.dst=some d)
 (h:wpQuiet P l.toArray (fun w'=>∃ m,w'=w.drewN m) (fun a'=>∀ w',(∃ m,w'=w.drewN m)->WR P l.toArray (qI Q) ((l.drop n).take (l.length - n - 1)) a' w') (l.take n) (a.put (some d) (a.eval x))):(WZ id l.toArray true).wp P Q a w :=
 qja _ n hm hB ⟨1,rfl⟩ ho hx hw hd h
end
end
end Go.Proofs.YtcneeepdclgdcaaGreat
