import Derived.Test.YtblhfbcodbjgcaaGreatSV22
import Derived.Test.YtblhfbcodbjgcaaGreatSV13
import Derived.Test.YtblhfbcodbjgcaaGreatSV21
import Derived.Test.YtblhfbcodbjgcaaGreatSV17
import Derived.Test.YtblhfbcodbjgcaaGreatSV12
namespace Go.Proofs.YtblhfbcodbjgcaaGreat
set_option linter.unusedVariables false
set_option linter.unusedSimpArgs false
section
open Go.RowKit Go.Shelf
structure RingN (N:Int) (r:RingS):Prop where
 n0:1≤r.slots.length
 n1:r.slots.length≤64
 t0:0≤r.tail
 t1:r.tail≤N
 h0:0≤r.head
 h1:r.head≤N
structure TickN (N:Int) (t:TickS):Prop where
 p0:0≤t.pos
 p1:t.pos≤N
 nx:t.next=0∨t.next=1∨t.next=2
 st:t.status=0∨t.status=1∨t.status=2
structure CoreN (N:Nat) (x:CoreS):Prop where
 slab:SlabOk x.slab
 i0:0≤x.f.inside
 i1:x.f.inside≤N
 tr:x.tr.length≤N
 sh:1≤x.shs.length
 ring:∀ s∈x.shs,RingN N s.ring
structure WorkN (N:Nat) (k:WorkS) (x:CoreS):Prop where
 c0:0≤k.cdl∧k.cdl<18446744073709551616
 c1:0≤k.cper∧k.cper<18446744073709551616
 id:0≤k.id∧k.id<18446744073709551616
 slot:0≤k.slot
 saw:0≤k.saw∧k.saw<18446744073709551616∧okW k.saw=true
 rq:∀ q,k.rq=some q→ReqOk x.slab.recs.length q
 tk:∀ i t,k.tk=some (i,t)→TickN N t∧i<x.shs.length
def FitC:SC→WorkS→Prop
 | .nil,_=>True
 | .at none .right,_=>True
 | .at none .enter,_=>True
 | .at none .gate,_=>True
 | .at none .looks,_=>True
 | .at none .asks,k=>k.rq.isSome=true∧∀ q,k.rq=some q→q.st=0
 | .at none .queues,k=>k.tk.isSome=true
 | .at none .submits,k=>k.tk.isSome=true
 | .at none .fills,k=>k.tk.isSome=true
 | .at none .again,k=>k.tk.isSome=true
 | .at none .tries,k=>k.kind=3→k.tk.isSome=true
 | .row1 .ends1,_=>True
 | .thn (.row1 .leaves1) .ends,_=>True
 | .thn (.row2 .undo .drop) .leaves,_=>True
 | .thn (.row1 .drop) .leaves,_=>True
 | .thn (.row1 .again1) .leaves,k=>k.tk.isSome=true
 | .thn (.row2 .tries1 .drop) .ends,_=>True
 | .thn (.row1 .drop) .ends,_=>True
 | _,_=>False
theorem RingN.mono {N M:Int} {r:RingS} (h:RingN N r) (hm:N≤M):RingN M r:=⟨h.n0,h.n1,h.t0,by have:=h.t1;omega,h.h0,by have:=h.h1;omega⟩
theorem RingN.b {N:Int} {r:RingS} (h:RingN N r) (hm:N≤1000000):RingB r:=⟨h.n0,h.n1,h.t0,by have:=h.t1;omega,h.h0,by have:=h.h1;omega⟩
theorem TickN.mono {N M:Int} {t:TickS} (h:TickN N t) (hm:N≤M):TickN M t:=⟨h.p0,by have:=h.p1;omega,h.nx,h.st⟩
theorem TickN.b {N:Int} {t:TickS} (h:TickN N t) (hm:N≤1000000):TickB t:=⟨h.p0,by have:=h.p1;omega,h.nx,h.st⟩
theorem CoreN.ok {N:Nat} {x:CoreS} (h:CoreN N x) (hN:N≤1000000):CoreOk x :=
 ⟨h.slab,h.i0,by have:=h.i1;omega,by have:=h.tr;omega,h.sh,fun s hs=>(h.ring s hs).b (by omega)⟩
theorem CoreN.mono {N M:Nat} {x:CoreS} (h:CoreN N x) (hm:N≤M):CoreN M x :=
 ⟨h.slab,h.i0,by have:=h.i1;omega,by have:=h.tr;omega,h.sh,fun s hs=>(h.ring s hs).mono (by omega)⟩
theorem CoreN.rings {N M:Nat} {x:CoreS} (h:CoreN N x) (hm:N≤M):∀ s∈x.shs,RingN M s.ring:=fun s hs=>(h.ring s hs).mono (by omega)
theorem WorkN.ok {N:Nat} {k:WorkS} {x:CoreS} (h:WorkN N k x) (hN:N≤1000000):WorkOk k x :=
 ⟨h.c0,h.c1,h.id,h.slot,h.saw,h.rq,fun i t ht=>⟨(h.tk i t ht).1.b (by omega),(h.tk i t ht).2⟩⟩
theorem WorkN.mono {N M:Nat} {k:WorkS} {x:CoreS} (h:WorkN N k x) (hm:N≤M):WorkN M k x :=
 ⟨h.c0,h.c1,h.id,h.slot,h.saw,h.rq,fun i t ht=>⟨(h.tk i t ht).1.mono (by omega),(h.tk i t ht).2⟩⟩
theorem WorkN.core {N:Nat} {k:WorkS} {x x':CoreS} (h:WorkN N k x) (h1:x'.slab.recs.length=x.slab.recs.length) (h2:x'.shs.length=x.shs.length):WorkN N k x' :=
 ⟨h.c0,h.c1,h.id,h.slot,h.saw,fun q hq=>by rw [h1];exact h.rq q hq,fun i t ht=>⟨(h.tk i t ht).1,by rw [h2];exact (h.tk i t ht).2⟩⟩
theorem stepT_n {N:Int} {r:RingS} {t:TickS} (hr:RingN N r) (ht:TickN N t):TickN N (stepT r t).2∧RingN (N+1) (stepT r t).1:=by
 have h1:=hr.t0;have h2:=hr.t1
 have ho:RingN (N+1) r:=hr.mono (by omega)
 unfold stepT lookT weighT takeT
 split
 ·exact ⟨ht,ho⟩
 ·split
  ·exact ⟨⟨h1,h2,.inr (.inl rfl),ht.st⟩,ho⟩
  ·split
   ·split
    ·exact ⟨⟨ht.p0,ht.p1,.inl rfl,ht.st⟩,ho⟩
    ·split
     ·exact ⟨⟨ht.p0,ht.p1,ht.nx,.inr (.inl rfl)⟩,ho⟩
     ·exact ⟨⟨ht.p0,ht.p1,.inr (.inr rfl),ht.st⟩,ho⟩
   ·split
    ·exact ⟨⟨ht.p0,ht.p1,.inl rfl,.inr (.inr rfl)⟩,⟨hr.n0,hr.n1,by have:=ht.p0;simp only;omega,by have:=ht.p1;simp only;omega,hr.h0,by have:=hr.h1;simp only;omega⟩⟩
    ·exact ⟨⟨ht.p0,ht.p1,.inl rfl,ht.st⟩,ho⟩
theorem fillT_n {N:Int} {r:RingS} {t:TickS} (v:TaskS) (hr:RingN N r) (ht:TickN N t):TickN N (fillT r t v).2.1∧RingN N (fillT r t v).1:=by
 unfold fillT
 split
 ·exact ⟨⟨ht.p0,ht.p1,ht.nx,ht.st⟩,⟨by simp only [List.length_set];exact hr.n0,by simp only [List.length_set];exact hr.n1,hr.t0,hr.t1,hr.h0,hr.h1⟩⟩
 ·exact ⟨ht,hr⟩
theorem ring_set {N:Int} {l:List ShardS} {i:Nat} {s:ShardS} (h:∀ s∈l,RingN N s.ring) (hs:RingN N s.ring):∀ a∈l.set i s,RingN N a.ring:=by
 intro a ha
 rcases List.mem_or_eq_of_mem_set ha with h1 | h1
 ·exact h a h1
 ·exact h1 ▸ hs
section
variable {N:Nat} {k:WorkS} {x:CoreS}
theorem core_note (h:CoreN N x) (E:EvS):CoreN (N+1) (noteC k E x) :=
 ⟨h.slab,h.i0,by have:=h.i1;show x.f.inside≤_;omega,by have:=h.tr;show (x.tr++[_]).length≤_;rw [List.length_append];simp;omega,h.sh,h.rings (by omega)⟩
theorem core_slab (h:CoreN N x) {s:SlabS} (hs:SlabOk s):CoreN N { x with slab:=s }:=⟨hs,h.i0,h.i1,h.tr,h.sh,h.ring⟩
theorem refuse_n (hc:CoreN N x) (hk:WorkN N k x) (e:Int):CoreN (N+1) (refuseC e (k,x)).2∧WorkN (N+1) (refuseC e (k,x)).1 (refuseC e (k,x)).2 :=
 ⟨core_note hc _,((⟨hk.c0,hk.c1,hk.id,hk.slot,hk.saw,hk.rq,hk.tk⟩:WorkN N (refuseW e k) x).mono (M:=N+1) (by omega)).core rfl rfl⟩
theorem event_n (hc:CoreN N x) (hk:WorkN N k x) (ev:Int):CoreN N (eventC ev (k,x)).2∧WorkN N (eventC ev (k,x)).1 (eventC ev (k,x)).2:=by
 obtain ⟨h1,h2⟩:=try_ok hc.slab k.slot (x.slab.word k.slot) ev
 exact ⟨core_slab hc h1,(⟨hk.c0,hk.c1,hk.id,hk.slot,hk.saw,hk.rq,hk.tk⟩:WorkN N (eventW ev k x.slab) x).core h2 rfl⟩
theorem fill_n (hc:CoreN N x) (hk:WorkN N k x) (v:TaskS):CoreN N (fillC v (k,x)).2∧WorkN N (fillC v (k,x)).1 (fillC v (k,x)).2:=by
 unfold fillC
 simp only
 split
 ·exact ⟨hc,hk⟩
 ·rename_i i t ht
  split
  ·exact ⟨hc,hk⟩
  ·rename_i s hs
   obtain ⟨htn,hi⟩:=hk.tk i t ht
   have hrn:=hc.ring s (List.mem_of_getElem? hs)
   obtain ⟨a,b⟩:=fillT_n v hrn htn
   refine ⟨⟨hc.slab,hc.i0,hc.i1,hc.tr,by simpa using hc.sh,ring_set hc.ring b⟩,⟨hk.c0,hk.c1,hk.id,hk.slot,hk.saw,hk.rq,fun i' t' h'=>?_⟩⟩
   cases h'
   exact ⟨a,by simpa using hi⟩
theorem act_n (hc:CoreN N x) (hk:WorkN N k x) (a:AC):CoreN (N+1) (runA a (k,x)).2∧WorkN (N+1) (runA a (k,x)).1 (runA a (k,x)).2:=by
 cases a with
 | ends1=>exact ⟨core_note hc _,(hk.mono (M:=N+1) (by omega)).core rfl rfl⟩
 | leaves1 =>
   have h1:0≤lessN x.f.inside∧lessN x.f.inside≤N:=by have:=hc.i0;have:=hc.i1;unfold lessN;split <;> omega
   exact ⟨⟨hc.slab,h1.1,by have:=h1.2;show lessN x.f.inside≤_;omega,by have:=hc.tr;show x.tr.length≤_;omega,hc.sh,hc.rings (by omega)⟩,(hk.mono (M:=N+1) (by omega)).core rfl rfl⟩
 | undo =>
   obtain ⟨h1,h2⟩:=event_n hc hk 9
   exact refuse_n h1 h2 2
 | drop =>
   obtain ⟨h1,h2⟩:=drop_ok hc.slab
   exact ⟨(core_slab hc h1).mono (M:=N+1) (by omega),(hk.mono (M:=N+1) (by omega)).core h2 rfl⟩
 | tries1 =>
   obtain ⟨h1,h2⟩:=event_n hc hk 10
   exact ⟨h1.mono (M:=N+1) (by omega),h2.mono (M:=N+1) (by omega)⟩
 | again1 =>
   obtain ⟨h1,h2⟩:=fill_n hc hk { TaskS.zero with slot:=-1 }
   exact ⟨h1.mono (M:=N+1) (by omega),h2.mono (M:=N+1) (by omega)⟩
structure JC (N:Nat) (s:SC) (z:ZC):Prop where
 core:CoreN N z.2
 work:WorkN N z.1 z.2
 fit:FitC s z.1
theorem JC.pre {s:SC} {z:ZC} (h:JC N s z) (hN:N<1000000):preC s z:=by
 obtain ⟨k,x⟩:=z
 obtain ⟨hc,hk,hf⟩:=h
 simp only at hc hk hf
 have ho:=hc.ok (by omega)
 have hw:=hk.ok (by omega)
 have hact:∀ a,CoreOk (runA a (k,x)).2∧WorkOk (runA a (k,x)).1 (runA a (k,x)).2:=fun a=>⟨(act_n hc hk a).1.ok (by omega),(act_n hc hk a).2.ok (by omega)⟩
 match s,hf with
 | .nil,_=>trivial
 | .at none .right,_=>exact ⟨ho,hw,trivial⟩
 | .at none .enter,_=>exact ⟨ho,hw,trivial⟩
 | .at none .gate,_=>exact ⟨ho,hw,trivial⟩
 | .at none .looks,_=>exact ⟨ho,hw,trivial⟩
 | .at none .asks,hf=>exact ⟨ho,hw,hf⟩
 | .at none .queues,hf=>exact ⟨ho,hw,hf⟩
 | .at none .submits,_=>exact ⟨ho,hw,trivial⟩
 | .at none .fills,hf=>exact ⟨ho,hw,hf⟩
 | .at none .again,_=>exact ⟨ho,hw,trivial⟩
 | .at none .tries,_=>exact ⟨ho,hw,trivial⟩
 | .row1 .ends1,_=>exact ⟨ho,hw,trivial⟩
 | .thn (.row1 .leaves1) .ends,_=>exact ⟨⟨ho,hw,trivial⟩,fun _=>⟨(hact .leaves1).1,(hact .leaves1).2,trivial⟩⟩
 | .thn (.row2 .undo .drop) .leaves,_=>exact ⟨⟨ho,hw,trivial⟩,fun h=>by cases h⟩
 | .thn (.row1 .drop) .leaves,_=>exact ⟨⟨ho,hw,trivial⟩,fun _=>⟨(hact .drop).1,(hact .drop).2,trivial⟩⟩
 | .thn (.row1 .again1) .leaves,hf=>exact ⟨⟨ho,hw,hf⟩,fun _=>⟨(hact .again1).1,(hact .again1).2,trivial⟩⟩
 | .thn (.row2 .tries1 .drop) .ends,_=>exact ⟨⟨ho,hw,trivial⟩,fun h=>by cases h⟩
 | .thn (.row1 .drop) .ends,_=>exact ⟨⟨ho,hw,trivial⟩,fun _=>⟨(hact .drop).1,(hact .drop).2,trivial⟩⟩
theorem overC_fit (k k2:WorkS):FitC (overC k) k2:=by
 unfold overC leavesC
 split <;> trivial
theorem stepR_st {s:SlabS} {q:Req} (h:q.st=0):(stepR s q).2.st=0∨(stepR s q).2.st=1∨(stepR s q).2.st=2:=by
 unfold stepR
 rw [if_neg (by omega)]
 split
 ·unfold lookR;split <;> simp [h]
 ·split
  ·unfold moreR;split <;> simp [h]
  ·unfold seekR;simp only;split <;> simp [h]
theorem look_n (hc:CoreN N x) (hk:WorkN N k x):WorkN N (lookW k x.slab).1 x:=by
 have hs:0≤x.slab.slot k.id:=by have:=hk.id.1;unfold SlabS.slot;split <;> omega
 have hw:=word_bd hc.slab (x.slab.slot k.id)
 unfold lookW
 split
 ·exact hk
 ·split
  ·exact ⟨hk.c0,hk.c1,hk.id,hs,hw,hk.rq,hk.tk⟩
  ·exact ⟨hk.c0,hk.c1,hk.id,hs,hw,hk.rq,hk.tk⟩
theorem home_n (hc:CoreN N x) {slot:Int} (h:0≤slot):homeC slot x<x.shs.length:=by
 have hn:=hc.sh
 have a:0≤slot % (x.shs.length:Int):=Int.emod_nonneg _ (by omega)
 have b:slot % (x.shs.length:Int)<x.shs.length:=Int.emod_lt_of_pos _ (by omega)
 unfold homeC;omega
theorem newTick_n:TickN N newTick:=⟨by decide,by show (0:Int)≤N;omega,.inl rfl,.inl rfl⟩
theorem meth_n (hc:CoreN N x) (hk:WorkN N k x) (m:MC) (hf:FitC (.at none m) k):JC (N+1) (runC m (k,x)).1 (runC m (k,x)).2:=by
 have hc':=hc.mono (M:=N+1) (by omega)
 have hk':=hk.mono (M:=N+1) (by omega)
 have hre:∀ e s,FitC s (refuseW e k)→JC (N+1) s (refuseC e (k,x)):=fun e s hs=>⟨(refuse_n hc hk e).1,(refuse_n hc hk e).2,hs⟩
 cases m with
 | ends=>exact hf.elim
 | leaves=>exact hf.elim
 | right =>
   show JC (N+1) (if badC k then _ else _:SC × ZC).1 (if badC k then _ else _:SC × ZC).2
   split
   ·exact hre 1 _ trivial
   ·exact ⟨hc',hk',trivial⟩
 | enter=>exact ⟨⟨hc.slab,by have:=hc.i0;show 0≤x.f.inside+1;omega,by have:=hc.i1;show x.f.inside+1≤_;omega,hc'.tr,hc.sh,hc'.ring⟩,hk'.core rfl rfl,trivial⟩
 | gate =>
   show JC (N+1) (if x.f.closed=true then _ else _:SC × ZC).1 (if x.f.closed=true then _ else _:SC × ZC).2
   split
   ·exact hre 3 _ (overC_fit _ _)
   ·split
    ·refine ⟨hc',⟨hk'.c0,hk'.c1,hk'.id,hk'.slot,hk'.saw,fun q hq=>?_,hk'.tk⟩,rfl,fun q hq=>?_⟩
     ·cases hq
      have h1:=hk.c1
      have h2:=hc.slab.n0
      refine ⟨?_,?_,by simp,by simp;omega,.inl rfl⟩
      ·show 0≤k.period;unfold WorkS.period;split <;> omega
      ·show k.period < _;unfold WorkS.period;split <;> omega
     ·cases hq;rfl
    ·exact ⟨hc',hk',trivial⟩
 | asks =>
   obtain ⟨hr,hq0⟩:=hf
   obtain ⟨q,hq⟩:=Option.isSome_iff_exists.1 hr
   have hE:runC .asks (k,x)=asksC (k,x) q:=by show (match k.rq with | none=>_ | some q=>_)=_;rw [hq]
   rw [hE]
   have hst:=hq0 q hq
   obtain ⟨h1,h2,h3⟩:=stepR_ok hc.slab (hk.rq q hq)
   have hid:=stepR_id hc.slab (hk.rq q hq) hst
   have h4:=stepR_st (s:=x.slab) hst
   unfold asksC
   simp only
   generalize stepR x.slab q=r at *
   have cx:CoreN N { x with slab:=r.1 }:=core_slab hc h1
   have wk:WorkN N { k with rq:=some r.2 } { x with slab:=r.1 }:=⟨hk.c0,hk.c1,hk.id,hk.slot,hk.saw,fun q' h'=>by cases h';show ReqOk r.1.recs.length r.2;rw [h3];exact h2,hk.tk⟩
   split
   ·exact ⟨(refuse_n cx wk 2).1,(refuse_n cx wk 2).2,trivial⟩
   ·split
    ·next h5 =>
     obtain ⟨i0,i1⟩:=hid h5
     refine ⟨cx.mono (M:=N+1) (by omega),⟨wk.c0,wk.c1,⟨i0,i1⟩,by show 0≤r.2.id % 64;omega,wk.saw,wk.rq,fun i t ht=>?_⟩,rfl⟩
     cases ht
     exact ⟨newTick_n,home_n hc (by omega)⟩
    ·next h6 h5 =>
     exact ⟨cx.mono (M:=N+1) (by omega),wk.mono (M:=N+1) (by omega),rfl,fun q' h'=>by cases h';omega⟩
 | queues =>
   obtain ⟨⟨i,t⟩,htk⟩:=Option.isSome_iff_exists.1 hf
   obtain ⟨htn,hi⟩:=hk.tk i t htk
   obtain ⟨s,hs⟩:∃ s,x.shs[i]?=some s:=⟨_,List.getElem?_eq_getElem hi⟩
   have hE:runC .queues (k,x)=queuesC (k,x) i t s:=by
    show (match k.tk with | none=>_ | some (i,t)=>_)=_
    rw [htk]
    show (match x.shs[i]? with | none=>_ | some s=>_)=_
    rw [hs]
   rw [hE]
   obtain ⟨a,b⟩:=stepT_n (hc.ring s (List.mem_of_getElem? hs)) htn
   unfold queuesC
   simp only
   generalize stepT s.ring t=r at *
   have cx:CoreN (N+1) { x with shs:=x.shs.set i { s with ring:=r.1 } }:=⟨hc.slab,hc'.i0,hc'.i1,hc'.tr,by simpa using hc.sh,ring_set hc'.ring (by simpa using b)⟩
   have wk:WorkN (N+1) { k with tk:=some (i,r.2) } { x with shs:=x.shs.set i { s with ring:=r.1 } }:=⟨hk.c0,hk.c1,hk.id,hk.slot,hk.saw,hk.rq,fun i' t' h'=>by cases h';exact ⟨a.mono (by omega),by simpa using hi⟩⟩
   split
   ·exact ⟨cx,wk,rfl⟩
   ·split
    ·refine ⟨⟨cx.slab,cx.i0,cx.i1,?_,cx.sh,cx.ring⟩,(⟨wk.c0,wk.c1,wk.id,wk.slot,wk.saw,wk.rq,wk.tk⟩:WorkN (N+1) (refuseW 2 { k with tk:=some (i,r.2) }) { x with shs:=x.shs.set i { s with ring:=r.1 } }).core rfl rfl,trivial⟩
     have:=hc.tr
     show (x.tr++[_]).length≤_
     rw [List.length_append];simp;omega
    ·split
     ·exact ⟨cx,wk,trivial⟩
     ·split
      ·exact ⟨cx,wk,rfl⟩
      ·exact ⟨cx,wk,rfl⟩
 | submits =>
   obtain ⟨h1,h2⟩:=event_n hc hk 2
   exact ⟨core_note h1 _,(h2.mono (M:=N+1) (by omega)).core rfl rfl,hf⟩
 | fills =>
   obtain ⟨h1,h2⟩:=fill_n hc hk (taskC (k,x))
   refine ⟨h1.mono (M:=N+1) (by omega),?_,trivial⟩
   have h3:=h2.mono (M:=N+1) (by omega)
   exact ⟨h3.c0,h3.c1,h3.id,h3.slot,h3.saw,h3.rq,h3.tk⟩
 | looks =>
   have wk:=look_n hc hk
   obtain ⟨e1,e2,e3,e4⟩:=look_keeps k x.slab hk.slot hk.id.1
   show JC (N+1) (if (lookW k x.slab).2=0 then _ else _:SC × ZC).1 (if (lookW k x.slab).2=0 then _ else _:SC × ZC).2
   split
   ·show JC (N+1) (if k.kind=3 then _ else _:SC × ZC).1 (if k.kind=3 then _ else _:SC × ZC).2
    split
    ·refine ⟨hc',⟨wk.c0,wk.c1,wk.id,wk.slot,wk.saw,wk.rq,fun i t ht=>?_⟩,rfl⟩
     cases ht
     exact ⟨newTick_n,home_n hc e4⟩
    ·next h3=>exact ⟨hc',wk.mono (M:=N+1) (by omega),fun h=>absurd (e1.symm.trans h) h3⟩
   ·show JC (N+1) (if (lookW k x.slab).2=1 then _ else _:SC × ZC).1 (if (lookW k x.slab).2=1 then _ else _:SC × ZC).2
    split
    ·exact ⟨(refuse_n hc wk 1).1,(refuse_n hc wk 1).2,overC_fit _ _⟩
    ·exact ⟨(refuse_n hc wk 0).1,(refuse_n hc wk 0).2,overC_fit _ _⟩
 | again =>
   have wk:=look_n hc hk
   obtain ⟨e1,e2,e3,e4⟩:=look_keeps k x.slab hk.slot hk.id.1
   have hf':(lookW k x.slab).1.tk.isSome=true:=by rw [e3];exact hf
   show JC (N+1) (if (lookW k x.slab).2=0 then _ else _:SC × ZC).1 (if (lookW k x.slab).2=0 then _ else _:SC × ZC).2
   split
   ·exact ⟨hc',wk.mono (M:=N+1) (by omega),fun _=>hf'⟩
   ·exact ⟨(refuse_n hc wk 0).1,(refuse_n hc wk 0).2,hf'⟩
 | tries =>
   obtain ⟨h1,h2⟩:=try_ok hc.slab k.slot k.saw k.event
   have cx:CoreN N (tryC (k,x)).1.2:=core_slab hc h1
   have wk:WorkN N (tryC (k,x)).1.1 (tryC (k,x)).1.2:=(⟨hk.c0,hk.c1,hk.id,hk.slot,hk.saw,hk.rq,hk.tk⟩:WorkN N (tryC (k,x)).1.1 x).core h2 rfl
   have wo:WorkN N (okC (tryC (k,x)).1.1) (tryC (k,x)).1.2:=⟨wk.c0,wk.c1,wk.id,wk.slot,wk.saw,wk.rq,wk.tk⟩
   show JC (N+1) (if (tryC (k,x)).2≠0 then _ else _:SC × ZC).1 (if (tryC (k,x)).2≠0 then _ else _:SC × ZC).2
   split
   ·show JC (N+1) (if k.kind=3 then _ else _:SC × ZC).1 (if k.kind=3 then _ else _:SC × ZC).2
    split
    ·next h3=>exact ⟨cx.mono (M:=N+1) (by omega),wk.mono (M:=N+1) (by omega),hf h3⟩
    ·exact ⟨cx.mono (M:=N+1) (by omega),wk.mono (M:=N+1) (by omega),trivial⟩
   ·show JC (N+1) (if k.kind=3 then _ else _:SC × ZC).1 (if k.kind=3 then _ else _:SC × ZC).2
    split
    ·next h3=>exact ⟨core_note cx _,(wo.mono (M:=N+1) (by omega)).core rfl rfl,hf h3⟩
    ·show JC (N+1) (if k.kind=5 then _ else _:SC × ZC).1 (if k.kind=5 then _ else _:SC × ZC).2
     split
     ·exact ⟨core_note cx _,(wo.mono (M:=N+1) (by omega)).core rfl rfl,trivial⟩
     ·exact ⟨core_note cx _,(wo.mono (M:=N+1) (by omega)).core rfl rfl,trivial⟩
theorem JC.step {s:SC} {z:ZC} (h:JC N s z):JC (N+1) (stepC s z).1 (stepC s z).2:=by
 obtain ⟨k,x⟩:=z
 obtain ⟨hc,hk,hf⟩:=h
 simp only at hc hk hf
 have ha:=fun a=>act_n hc hk a
 match s,hf with
 | .nil,_=>exact ⟨hc.mono (M:=N+1) (by omega),hk.mono (M:=N+1) (by omega),trivial⟩
 | .at none m,hf=>exact meth_n hc hk m hf
 | .row1 .ends1,_=>exact ⟨(ha .ends1).1,(ha .ends1).2,trivial⟩
 | .thn (.row1 .leaves1) .ends,_=>exact ⟨(ha .leaves1).1,(ha .leaves1).2,trivial⟩
 | .thn (.row2 .undo .drop) .leaves,_=>exact ⟨(ha .undo).1,(ha .undo).2,trivial⟩
 | .thn (.row1 .drop) .leaves,_=>exact ⟨(ha .drop).1,(ha .drop).2,trivial⟩
 | .thn (.row1 .again1) .leaves,_=>exact ⟨(ha .again1).1,(ha .again1).2,trivial⟩
 | .thn (.row2 .tries1 .drop) .ends,_=>exact ⟨(ha .tries1).1,(ha .tries1).2,trivial⟩
 | .thn (.row1 .drop) .ends,_=>exact ⟨(ha .drop).1,(ha .drop).2,trivial⟩
def itC:Nat→SC→ZC→SC × ZC
 | 0,s,z=>(s,z)
 | n+1,s,z=>itC n (stepC s z).1 (stepC s z).2
theorem JC.it {N:Nat}:∀ (n:Nat) {N:Nat} {s:SC} {z:ZC},JC N s z→JC (N+n) (itC n s z).1 (itC n s z).2
 | 0,_,_,_,h=>h
 | n+1,N,s,z,h=>by
   have:=JC.it (N:=N) n h.step
   rwa [show N+1+n=N+(n+1) by omega] at this
end
end
section
open Go.RowKit Go.Shelf
section
variable {L:Lay} {x:CoreS} {gF:List Blk}
def BeginR (L:Lay) (x:CoreS) (th no:Int) (c:CallC) (e:Ending) (gs:GH):Prop :=
 ∃ kb g gF',e=.returned (.tuple #[ptr' kb,.int .i64 0])∧isCall L kb (firstC c.kind) 0 (newW th no c) g∧isCore L (noteC (newW th no c) { ev0 with kind:=1,id:=c.id,dl:=c.dl,per:=c.per } x) gF'∧gs=[g,gF']
set_option maxRecDepth 100000 in
theorem callBegin_1 (hx:isCore L x gF) (hn:x.tr.length≤1000000) (th no:Int) (c:CallC):DoesG Tryz.prog 18 #[ptr' L.fb,.int .i64 th,.int .i64 no,.agg { c with kind:=1 }.cells] [gF] (BeginR L x th no { c with kind:=1 }):=by
 unfold BeginR
 have HS:=Lib.hid (show ∀ kb pv,(cliC L kb pv).SV (.at none .right) .nilFunc (.func (.func 86) #[ptr' kb] #[]) [] from fun kb pv=>⟨rfl,rfl,rfl⟩)
 have HNW:=Lib.hid (show ∀ kb,_ from fun kb=>Cli.prog_new (cliC_ok L kb (.pointer none)) (HS.out kb (.pointer none)))
 have HF1:=Lib.hid (show firstC 1=.at none .right from by simp [firstC])
 intro w hw
 have T0:=TG.refl hw
 have HT:=Lib.hid T0
 clear hw T0
 have HX:=Lib.hid hx
 have HLN:=Lib.hid hn
 clear hx hn
 simp only [CallC.cells]
 go_enter Tryz.func18,Tryz.ntmps18
 go_wp2_with fail
 have HT:=Lib.hid ((HT.out.alloc (k:=w.heap.size) rfl 38 #[.int .i64 1,.int .u64 c.id,.int .u64 c.dl,.int .u64 c.per]).alloc (k:=w.heap.size+1) (by simp) 144 (workC L.fb (.pointer none) (.pointer none) (.pointer none) (newW th no { c with kind:=1 })))
 simp only [List.cons_append,List.nil_append] at HT
 refine (DoesG.use callsAt HT.out [] rfl rfl).mono ?_
 rintro e w1 ⟨gs,⟨rfl,rfl⟩,Ta⟩
 simp only [PU] at Ta
 have HT:=Lib.hid (Ta.sum (H':=[gF,[cl w.heap.size 38 #[.int .i64 1,.int .u64 c.id,.int .u64 c.dl,.int .u64 c.per]],workB (w.heap.size+1) L.fb (.pointer none) (.pointer none) (.pointer none) (newW th no { c with kind:=1 }),[]]))
 clear Ta
 go_wp2_with fail
 refine (DoesG.use (HNW.out _) (HT.out) [3] rfl rfl).mono ?_
 rintro e w1 ⟨gs,⟨pb,rfl,rfl⟩,Ta⟩
 simp only [PU] at Ta
 have HT:=Lib.hid Ta
 clear Ta
 have k12:=HT.out.cell 2 0 rfl 12
 have fk12:=HT.out.free 2 0 rfl 12
 simp only [workC,GE3] at k12
 have b0:=HT.out.cell 1 0 rfl 0
 have b1:=HT.out.cell 1 0 rfl 1
 have b2:=HT.out.cell 1 0 rfl 2
 have b3:=HT.out.cell 1 0 rfl 3
 simp only [GE4] at b0 b1 b2 b3
 go_wp2_with fail
 have HT:=Lib.hid ((HT.out.set 2 0 rfl 12 (ptr' pb)).eq (H':=[gF,[cl w.heap.size 38 #[.int .i64 1,.int .u64 c.id,.int .u64 c.dl,.int .u64 c.per]],workB (w.heap.size+1) L.fb (ptr' pb) (.pointer none) (.pointer none) (newW th no { c with kind:=1 }),[],Cli.progB pb .nilFunc (.func (.func 86) #[ptr' (w.heap.size+1)] #[]) 0]) rfl)
 go_wp2_with fail
 refine (DoesG.use (workNote HX.out { ev0 with kind:=1,id:=c.id,dl:=c.dl,per:=c.per } HLN.out) (HT.out) [2,0] rfl rfl).mono ?_
 rintro e w1 ⟨gs,⟨rfl,g1,hx1,rfl⟩,Ta⟩
 simp only [PU] at Ta
 have HX:=Lib.hid hx1
 clear hx1 k12 fk12 b0 b1 b2 b3
 have HT:=Lib.hid Ta
 clear Ta
 go_wp2
 go_ret2
 exact ⟨_,⟨_,_,g1,rfl,by rw [HF1.out];exact ⟨pb,_,_,[],_,HS.out _ _,⟨_,_,[],[],⟨rfl,rfl⟩,⟨rfl,rfl⟩,rfl⟩,rfl⟩,HX.out,rfl⟩,((HT.out.pick [2,0,4] rfl).eq (H':=[[cl (w.heap.size+1) 144 (workC L.fb (ptr' pb) (.pointer none) (.pointer none) (newW th no { c with kind:=1 }))],g1,Cli.progB pb .nilFunc (.func (.func 86) #[ptr' (w.heap.size+1)] #[]) 0]) rfl).sum (H':=[Cli.progB pb .nilFunc (.func (.func 86) #[ptr' (w.heap.size+1)] #[]) 0++([]++([cl (w.heap.size+1) 144 (workC L.fb (ptr' pb) (.pointer none) (.pointer none) (newW th no { c with kind:=1 }))]++([]++[]))),g1])⟩
set_option maxRecDepth 100000 in
theorem callBegin_2 (hx:isCore L x gF) (hn:x.tr.length≤1000000) (th no:Int) (c:CallC):DoesG Tryz.prog 18 #[ptr' L.fb,.int .i64 th,.int .i64 no,.agg { c with kind:=2 }.cells] [gF] (BeginR L x th no { c with kind:=2 }):=by
 unfold BeginR
 have HS:=Lib.hid (show ∀ kb pv,(cliC L kb pv).SV (.at none .right) .nilFunc (.func (.func 86) #[ptr' kb] #[]) [] from fun kb pv=>⟨rfl,rfl,rfl⟩)
 have HNW:=Lib.hid (show ∀ kb,_ from fun kb=>Cli.prog_new (cliC_ok L kb (.pointer none)) (HS.out kb (.pointer none)))
 have HF1:=Lib.hid (show firstC 2=.at none .right from by simp [firstC])
 intro w hw
 have T0:=TG.refl hw
 have HT:=Lib.hid T0
 clear hw T0
 have HX:=Lib.hid hx
 have HLN:=Lib.hid hn
 clear hx hn
 simp only [CallC.cells]
 go_enter Tryz.func18,Tryz.ntmps18
 go_wp2_with fail
 have HT:=Lib.hid ((HT.out.alloc (k:=w.heap.size) rfl 38 #[.int .i64 2,.int .u64 c.id,.int .u64 c.dl,.int .u64 c.per]).alloc (k:=w.heap.size+1) (by simp) 144 (workC L.fb (.pointer none) (.pointer none) (.pointer none) (newW th no { c with kind:=2 })))
 simp only [List.cons_append,List.nil_append] at HT
 refine (DoesG.use callsAt HT.out [] rfl rfl).mono ?_
 rintro e w1 ⟨gs,⟨rfl,rfl⟩,Ta⟩
 simp only [PU] at Ta
 have HT:=Lib.hid (Ta.sum (H':=[gF,[cl w.heap.size 38 #[.int .i64 2,.int .u64 c.id,.int .u64 c.dl,.int .u64 c.per]],workB (w.heap.size+1) L.fb (.pointer none) (.pointer none) (.pointer none) (newW th no { c with kind:=2 }),[]]))
 clear Ta
 go_wp2_with fail
 refine (DoesG.use (HNW.out _) (HT.out) [3] rfl rfl).mono ?_
 rintro e w1 ⟨gs,⟨pb,rfl,rfl⟩,Ta⟩
 simp only [PU] at Ta
 have HT:=Lib.hid Ta
 clear Ta
 have k12:=HT.out.cell 2 0 rfl 12
 have fk12:=HT.out.free 2 0 rfl 12
 simp only [workC,GE3] at k12
 have b0:=HT.out.cell 1 0 rfl 0
 have b1:=HT.out.cell 1 0 rfl 1
 have b2:=HT.out.cell 1 0 rfl 2
 have b3:=HT.out.cell 1 0 rfl 3
 simp only [GE4] at b0 b1 b2 b3
 go_wp2_with fail
 have HT:=Lib.hid ((HT.out.set 2 0 rfl 12 (ptr' pb)).eq (H':=[gF,[cl w.heap.size 38 #[.int .i64 2,.int .u64 c.id,.int .u64 c.dl,.int .u64 c.per]],workB (w.heap.size+1) L.fb (ptr' pb) (.pointer none) (.pointer none) (newW th no { c with kind:=2 }),[],Cli.progB pb .nilFunc (.func (.func 86) #[ptr' (w.heap.size+1)] #[]) 0]) rfl)
 go_wp2_with fail
 refine (DoesG.use (workNote HX.out { ev0 with kind:=1,id:=c.id,dl:=c.dl,per:=c.per } HLN.out) (HT.out) [2,0] rfl rfl).mono ?_
 rintro e w1 ⟨gs,⟨rfl,g1,hx1,rfl⟩,Ta⟩
 simp only [PU] at Ta
 have HX:=Lib.hid hx1
 clear hx1 k12 fk12 b0 b1 b2 b3
 have HT:=Lib.hid Ta
 clear Ta
 go_wp2
 go_ret2
 exact ⟨_,⟨_,_,g1,rfl,by rw [HF1.out];exact ⟨pb,_,_,[],_,HS.out _ _,⟨_,_,[],[],⟨rfl,rfl⟩,⟨rfl,rfl⟩,rfl⟩,rfl⟩,HX.out,rfl⟩,((HT.out.pick [2,0,4] rfl).eq (H':=[[cl (w.heap.size+1) 144 (workC L.fb (ptr' pb) (.pointer none) (.pointer none) (newW th no { c with kind:=2 }))],g1,Cli.progB pb .nilFunc (.func (.func 86) #[ptr' (w.heap.size+1)] #[]) 0]) rfl).sum (H':=[Cli.progB pb .nilFunc (.func (.func 86) #[ptr' (w.heap.size+1)] #[]) 0++([]++([cl (w.heap.size+1) 144 (workC L.fb (ptr' pb) (.pointer none) (.pointer none) (newW th no { c with kind:=2 }))]++([]++[]))),g1])⟩
set_option maxRecDepth 100000 in
theorem callBegin_3 (hx:isCore L x gF) (hn:x.tr.length≤1000000) (th no:Int) (c:CallC):DoesG Tryz.prog 18 #[ptr' L.fb,.int .i64 th,.int .i64 no,.agg { c with kind:=3 }.cells] [gF] (BeginR L x th no { c with kind:=3 }):=by
 unfold BeginR
 have HS:=Lib.hid (show ∀ kb pv,(cliC L kb pv).SV (.at none .enter) .nilFunc (.func (.func 87) #[ptr' kb] #[]) [] from fun kb pv=>⟨rfl,rfl,rfl⟩)
 have HNW:=Lib.hid (show ∀ kb,_ from fun kb=>Cli.prog_new (cliC_ok L kb (.pointer none)) (HS.out kb (.pointer none)))
 have HF1:=Lib.hid (show firstC 3=.at none .enter from by simp [firstC])
 intro w hw
 have T0:=TG.refl hw
 have HT:=Lib.hid T0
 clear hw T0
 have HX:=Lib.hid hx
 have HLN:=Lib.hid hn
 clear hx hn
 simp only [CallC.cells]
 go_enter Tryz.func18,Tryz.ntmps18
 go_wp2_with fail
 have HT:=Lib.hid ((HT.out.alloc (k:=w.heap.size) rfl 38 #[.int .i64 3,.int .u64 c.id,.int .u64 c.dl,.int .u64 c.per]).alloc (k:=w.heap.size+1) (by simp) 144 (workC L.fb (.pointer none) (.pointer none) (.pointer none) (newW th no { c with kind:=3 })))
 simp only [List.cons_append,List.nil_append] at HT
 refine (DoesG.use callsAt HT.out [] rfl rfl).mono ?_
 rintro e w1 ⟨gs,⟨rfl,rfl⟩,Ta⟩
 simp only [PU] at Ta
 have HT:=Lib.hid (Ta.sum (H':=[gF,[cl w.heap.size 38 #[.int .i64 3,.int .u64 c.id,.int .u64 c.dl,.int .u64 c.per]],workB (w.heap.size+1) L.fb (.pointer none) (.pointer none) (.pointer none) (newW th no { c with kind:=3 }),[]]))
 clear Ta
 go_wp2_with fail
 refine (DoesG.use (HNW.out _) (HT.out) [3] rfl rfl).mono ?_
 rintro e w1 ⟨gs,⟨pb,rfl,rfl⟩,Ta⟩
 simp only [PU] at Ta
 have HT:=Lib.hid Ta
 clear Ta
 have k12:=HT.out.cell 2 0 rfl 12
 have fk12:=HT.out.free 2 0 rfl 12
 simp only [workC,GE3] at k12
 have b0:=HT.out.cell 1 0 rfl 0
 have b1:=HT.out.cell 1 0 rfl 1
 have b2:=HT.out.cell 1 0 rfl 2
 have b3:=HT.out.cell 1 0 rfl 3
 simp only [GE4] at b0 b1 b2 b3
 go_wp2_with fail
 have HT:=Lib.hid ((HT.out.set 2 0 rfl 12 (ptr' pb)).eq (H':=[gF,[cl w.heap.size 38 #[.int .i64 3,.int .u64 c.id,.int .u64 c.dl,.int .u64 c.per]],workB (w.heap.size+1) L.fb (ptr' pb) (.pointer none) (.pointer none) (newW th no { c with kind:=3 }),[],Cli.progB pb .nilFunc (.func (.func 87) #[ptr' (w.heap.size+1)] #[]) 0]) rfl)
 go_wp2_with fail
 refine (DoesG.use (workNote HX.out { ev0 with kind:=1,id:=c.id,dl:=c.dl,per:=c.per } HLN.out) (HT.out) [2,0] rfl rfl).mono ?_
 rintro e w1 ⟨gs,⟨rfl,g1,hx1,rfl⟩,Ta⟩
 simp only [PU] at Ta
 have HX:=Lib.hid hx1
 clear hx1 k12 fk12 b0 b1 b2 b3
 have HT:=Lib.hid Ta
 clear Ta
 go_wp2
 go_ret2
 exact ⟨_,⟨_,_,g1,rfl,by rw [HF1.out];exact ⟨pb,_,_,[],_,HS.out _ _,⟨_,_,[],[],⟨rfl,rfl⟩,⟨rfl,rfl⟩,rfl⟩,rfl⟩,HX.out,rfl⟩,((HT.out.pick [2,0,4] rfl).eq (H':=[[cl (w.heap.size+1) 144 (workC L.fb (ptr' pb) (.pointer none) (.pointer none) (newW th no { c with kind:=3 }))],g1,Cli.progB pb .nilFunc (.func (.func 87) #[ptr' (w.heap.size+1)] #[]) 0]) rfl).sum (H':=[Cli.progB pb .nilFunc (.func (.func 87) #[ptr' (w.heap.size+1)] #[]) 0++([]++([cl (w.heap.size+1) 144 (workC L.fb (ptr' pb) (.pointer none) (.pointer none) (newW th no { c with kind:=3 }))]++([]++[]))),g1])⟩
set_option maxRecDepth 100000 in
theorem callBegin_4 (hx:isCore L x gF) (hn:x.tr.length≤1000000) (th no:Int) (c:CallC):DoesG Tryz.prog 18 #[ptr' L.fb,.int .i64 th,.int .i64 no,.agg { c with kind:=4 }.cells] [gF] (BeginR L x th no { c with kind:=4 }):=by
 unfold BeginR
 have HS:=Lib.hid (show ∀ kb pv,(cliC L kb pv).SV (.at none .gate) .nilFunc (.func (.func 88) #[ptr' kb] #[]) [] from fun kb pv=>⟨rfl,rfl,rfl⟩)
 have HNW:=Lib.hid (show ∀ kb,_ from fun kb=>Cli.prog_new (cliC_ok L kb (.pointer none)) (HS.out kb (.pointer none)))
 have HF1:=Lib.hid (show firstC 4=.at none .gate from by simp [firstC])
 intro w hw
 have T0:=TG.refl hw
 have HT:=Lib.hid T0
 clear hw T0
 have HX:=Lib.hid hx
 have HLN:=Lib.hid hn
 clear hx hn
 simp only [CallC.cells]
 go_enter Tryz.func18,Tryz.ntmps18
 go_wp2_with fail
 have HT:=Lib.hid ((HT.out.alloc (k:=w.heap.size) rfl 38 #[.int .i64 4,.int .u64 c.id,.int .u64 c.dl,.int .u64 c.per]).alloc (k:=w.heap.size+1) (by simp) 144 (workC L.fb (.pointer none) (.pointer none) (.pointer none) (newW th no { c with kind:=4 })))
 simp only [List.cons_append,List.nil_append] at HT
 refine (DoesG.use callsAt HT.out [] rfl rfl).mono ?_
 rintro e w1 ⟨gs,⟨rfl,rfl⟩,Ta⟩
 simp only [PU] at Ta
 have HT:=Lib.hid (Ta.sum (H':=[gF,[cl w.heap.size 38 #[.int .i64 4,.int .u64 c.id,.int .u64 c.dl,.int .u64 c.per]],workB (w.heap.size+1) L.fb (.pointer none) (.pointer none) (.pointer none) (newW th no { c with kind:=4 }),[]]))
 clear Ta
 go_wp2_with fail
 refine (DoesG.use (HNW.out _) (HT.out) [3] rfl rfl).mono ?_
 rintro e w1 ⟨gs,⟨pb,rfl,rfl⟩,Ta⟩
 simp only [PU] at Ta
 have HT:=Lib.hid Ta
 clear Ta
 have k12:=HT.out.cell 2 0 rfl 12
 have fk12:=HT.out.free 2 0 rfl 12
 simp only [workC,GE3] at k12
 have b0:=HT.out.cell 1 0 rfl 0
 have b1:=HT.out.cell 1 0 rfl 1
 have b2:=HT.out.cell 1 0 rfl 2
 have b3:=HT.out.cell 1 0 rfl 3
 simp only [GE4] at b0 b1 b2 b3
 go_wp2_with fail
 have HT:=Lib.hid ((HT.out.set 2 0 rfl 12 (ptr' pb)).eq (H':=[gF,[cl w.heap.size 38 #[.int .i64 4,.int .u64 c.id,.int .u64 c.dl,.int .u64 c.per]],workB (w.heap.size+1) L.fb (ptr' pb) (.pointer none) (.pointer none) (newW th no { c with kind:=4 }),[],Cli.progB pb .nilFunc (.func (.func 88) #[ptr' (w.heap.size+1)] #[]) 0]) rfl)
 go_wp2_with fail
 refine (DoesG.use (workNote HX.out { ev0 with kind:=1,id:=c.id,dl:=c.dl,per:=c.per } HLN.out) (HT.out) [2,0] rfl rfl).mono ?_
 rintro e w1 ⟨gs,⟨rfl,g1,hx1,rfl⟩,Ta⟩
 simp only [PU] at Ta
 have HX:=Lib.hid hx1
 clear hx1 k12 fk12 b0 b1 b2 b3
 have HT:=Lib.hid Ta
 clear Ta
 go_wp2
 go_ret2
 exact ⟨_,⟨_,_,g1,rfl,by rw [HF1.out];exact ⟨pb,_,_,[],_,HS.out _ _,⟨_,_,[],[],⟨rfl,rfl⟩,⟨rfl,rfl⟩,rfl⟩,rfl⟩,HX.out,rfl⟩,((HT.out.pick [2,0,4] rfl).eq (H':=[[cl (w.heap.size+1) 144 (workC L.fb (ptr' pb) (.pointer none) (.pointer none) (newW th no { c with kind:=4 }))],g1,Cli.progB pb .nilFunc (.func (.func 88) #[ptr' (w.heap.size+1)] #[]) 0]) rfl).sum (H':=[Cli.progB pb .nilFunc (.func (.func 88) #[ptr' (w.heap.size+1)] #[]) 0++([]++([cl (w.heap.size+1) 144 (workC L.fb (ptr' pb) (.pointer none) (.pointer none) (newW th no { c with kind:=4 }))]++([]++[]))),g1])⟩
set_option maxRecDepth 100000 in
theorem callBegin_5 (hx:isCore L x gF) (hn:x.tr.length≤1000000) (th no:Int) (c:CallC):DoesG Tryz.prog 18 #[ptr' L.fb,.int .i64 th,.int .i64 no,.agg { c with kind:=5 }.cells] [gF] (BeginR L x th no { c with kind:=5 }):=by
 unfold BeginR
 have HS:=Lib.hid (show ∀ kb pv,(cliC L kb pv).SV (.at none .gate) .nilFunc (.func (.func 88) #[ptr' kb] #[]) [] from fun kb pv=>⟨rfl,rfl,rfl⟩)
 have HNW:=Lib.hid (show ∀ kb,_ from fun kb=>Cli.prog_new (cliC_ok L kb (.pointer none)) (HS.out kb (.pointer none)))
 have HF1:=Lib.hid (show firstC 5=.at none .gate from by simp [firstC])
 intro w hw
 have T0:=TG.refl hw
 have HT:=Lib.hid T0
 clear hw T0
 have HX:=Lib.hid hx
 have HLN:=Lib.hid hn
 clear hx hn
 simp only [CallC.cells]
 go_enter Tryz.func18,Tryz.ntmps18
 go_wp2_with fail
 have HT:=Lib.hid ((HT.out.alloc (k:=w.heap.size) rfl 38 #[.int .i64 5,.int .u64 c.id,.int .u64 c.dl,.int .u64 c.per]).alloc (k:=w.heap.size+1) (by simp) 144 (workC L.fb (.pointer none) (.pointer none) (.pointer none) (newW th no { c with kind:=5 })))
 simp only [List.cons_append,List.nil_append] at HT
 refine (DoesG.use callsAt HT.out [] rfl rfl).mono ?_
 rintro e w1 ⟨gs,⟨rfl,rfl⟩,Ta⟩
 simp only [PU] at Ta
 have HT:=Lib.hid (Ta.sum (H':=[gF,[cl w.heap.size 38 #[.int .i64 5,.int .u64 c.id,.int .u64 c.dl,.int .u64 c.per]],workB (w.heap.size+1) L.fb (.pointer none) (.pointer none) (.pointer none) (newW th no { c with kind:=5 }),[]]))
 clear Ta
 go_wp2_with fail
 refine (DoesG.use (HNW.out _) (HT.out) [3] rfl rfl).mono ?_
 rintro e w1 ⟨gs,⟨pb,rfl,rfl⟩,Ta⟩
 simp only [PU] at Ta
 have HT:=Lib.hid Ta
 clear Ta
 have k12:=HT.out.cell 2 0 rfl 12
 have fk12:=HT.out.free 2 0 rfl 12
 simp only [workC,GE3] at k12
 have b0:=HT.out.cell 1 0 rfl 0
 have b1:=HT.out.cell 1 0 rfl 1
 have b2:=HT.out.cell 1 0 rfl 2
 have b3:=HT.out.cell 1 0 rfl 3
 simp only [GE4] at b0 b1 b2 b3
 go_wp2_with fail
 have HT:=Lib.hid ((HT.out.set 2 0 rfl 12 (ptr' pb)).eq (H':=[gF,[cl w.heap.size 38 #[.int .i64 5,.int .u64 c.id,.int .u64 c.dl,.int .u64 c.per]],workB (w.heap.size+1) L.fb (ptr' pb) (.pointer none) (.pointer none) (newW th no { c with kind:=5 }),[],Cli.progB pb .nilFunc (.func (.func 88) #[ptr' (w.heap.size+1)] #[]) 0]) rfl)
 go_wp2_with fail
 refine (DoesG.use (workNote HX.out { ev0 with kind:=1,id:=c.id,dl:=c.dl,per:=c.per } HLN.out) (HT.out) [2,0] rfl rfl).mono ?_
 rintro e w1 ⟨gs,⟨rfl,g1,hx1,rfl⟩,Ta⟩
 simp only [PU] at Ta
 have HX:=Lib.hid hx1
 clear hx1 k12 fk12 b0 b1 b2 b3
 have HT:=Lib.hid Ta
 clear Ta
 go_wp2
 go_ret2
 exact ⟨_,⟨_,_,g1,rfl,by rw [HF1.out];exact ⟨pb,_,_,[],_,HS.out _ _,⟨_,_,[],[],⟨rfl,rfl⟩,⟨rfl,rfl⟩,rfl⟩,rfl⟩,HX.out,rfl⟩,((HT.out.pick [2,0,4] rfl).eq (H':=[[cl (w.heap.size+1) 144 (workC L.fb (ptr' pb) (.pointer none) (.pointer none) (newW th no { c with kind:=5 }))],g1,Cli.progB pb .nilFunc (.func (.func 88) #[ptr' (w.heap.size+1)] #[]) 0]) rfl).sum (H':=[Cli.progB pb .nilFunc (.func (.func 88) #[ptr' (w.heap.size+1)] #[]) 0++([]++([cl (w.heap.size+1) 144 (workC L.fb (ptr' pb) (.pointer none) (.pointer none) (newW th no { c with kind:=5 }))]++([]++[]))),g1])⟩
theorem callBegin (hx:isCore L x gF) (hn:x.tr.length≤1000000) (th no:Int) (c:CallC) (h1:1≤c.kind) (h5:c.kind≤5):DoesG Tryz.prog 18 #[ptr' L.fb,.int .i64 th,.int .i64 no,.agg c.cells] [gF] (BeginR L x th no c):=by
 obtain ⟨kd,id,dl,per⟩:=c
 simp only at h1 h5
 have h:kd=1∨kd=2∨kd=3∨kd=4∨kd=5:=by omega
 rcases h with rfl | rfl | rfl | rfl | rfl
 ·exact callBegin_1 hx hn th no ⟨1,id,dl,per⟩
 ·exact callBegin_2 hx hn th no ⟨2,id,dl,per⟩
 ·exact callBegin_3 hx hn th no ⟨3,id,dl,per⟩
 ·exact callBegin_4 hx hn th no ⟨4,id,dl,per⟩
 ·exact callBegin_5 hx hn th no ⟨5,id,dl,per⟩
set_option maxRecDepth 100000 in
theorem callBegin_bad (hx:isCore L x gF) (th no:Int) (c:CallC) (h:c.kind<1∨5<c.kind):DoesG Tryz.prog 18 #[ptr' L.fb,.int .i64 th,.int .i64 no,.agg c.cells] [gF] fun e gs=>e=.returned (.tuple #[.pointer none,.int .i64 1])∧gs=[gF]:=by
 intro w hw
 have T0:=TG.refl hw
 have HT:=Lib.hid T0
 clear hw T0
 have b1:(c.kind == 1)=false:=beq_eq_false_iff_ne.2 (by omega)
 have b2:(c.kind == 2)=false:=beq_eq_false_iff_ne.2 (by omega)
 have b3:(c.kind == 3)=false:=beq_eq_false_iff_ne.2 (by omega)
 have b4:(c.kind == 4)=false:=beq_eq_false_iff_ne.2 (by omega)
 have b5:(c.kind == 5)=false:=beq_eq_false_iff_ne.2 (by omega)
 clear h hx
 simp only [CallC.cells]
 go_enter Tryz.func18,Tryz.ntmps18
 go_wp2
 go_ret2
 exact ⟨_,⟨rfl,rfl⟩,(HT.out.alloc0 _).alloc0 _⟩
end
end
section
open Go.RowKit Go.Shelf
def core0 (c:Cfg):CoreS:=⟨⟨c,false,0,0,0⟩,newSlab c.cap.toNat,[],List.replicate c.sh.toNat (newShard c.ring.toNat)⟩
section
variable {L:Lay} {x:CoreS} {gF:List Blk}
end
end
section
open Go.RowKit Go.Shelf
structure FireS where
 id:Int
 gen:Int
 dl:Int
 tick:Int
def FireS.vals (f:FireS):List Value:=[.int .u64 f.id,.int .u64 f.gen,.int .u64 f.dl,.int .u64 f.tick]
structure PipeS where
 room:Nat
 ch:List FireS
 sp:List FireS
 most:Int
 shut:Bool
def newPipe (n:Nat):PipeS:=⟨n,[],[],0,false⟩
abbrev pipeB (pb cb lb:Nat) (p:PipeS):List Blk:=[cl pb 172 #[.chan (some cb),ptr' lb,.int .i64 p.most,.bool p.shut]]
def isPipe (pb:Nat) (p:PipeS) (g:List Blk):Prop:=∃ (cb lb hb a b:Nat) (l:List Nd) (gl:List Blk),isListF lb hb l gl∧l.map Nd.v=p.sp.map FireS.vals ∧
 g=pipeB pb cb lb p++([(cb,.chan p.room (p.ch.map fun f=>Value.agg f.vals.toArray).toArray false a b false)]++gl)
theorem len_chan (cb n:Nat) (buf:Array Value) (cz:Bool) (a b:Nat) (w:World) (h:w.heap[cb]?=some (.chan n buf cz a b false)) :
 (Builtin.len_ #[169] 3 #[.chan (some cb)]).run Tryz.prog w=.ok (.int .i64 buf.size) w:=by
 have hg:(getObj cb).run Tryz.prog w=.ok (.chan n buf cz a b false) w:=by simp [getObj,Sem.run,h]
 simp [Builtin.len_,run_underlying Tryz.underlying169,hg,goInt]
def PipeS.shutE (p:PipeS):Int:=if p.shut then 3 else 0
section
variable {pb:Nat} {p:PipeS} {g:List Blk}
set_option maxRecDepth 100000 in
theorem pipeShut_g (hg:isPipe pb p g):DoesG Tryz.prog 248 #[ptr' pb] [g] fun e gs=>e=.returned (.int .i64 p.shutE)∧∃ g',isPipe pb { p with shut:=true } g'∧gs=[g']:=by
 obtain ⟨cb,lb,hb,a,b,l,gl,h1,h2,rfl⟩:=hg
 cases hs:p.shut with
 | false =>
   have HE:=Lib.hid (show p.shutE=0 from by unfold PipeS.shutE;rw [hs];rfl)
   rw [HE.out]
   intro w hw
   have T0:=TG.refl hw
   have HT:=Lib.hid T0
   clear hw T0
   have HT:=Lib.hid (HT.out.sum (H':=[pipeB pb cb lb p,[(cb,.chan p.room (p.ch.map fun f=>Value.agg f.vals.toArray).toArray false a b false)]++gl]))
   have H1:=Lib.hid h1
   have H2:=Lib.hid h2
   have c3:=HT.out.cell 0 0 rfl 3
   have fc3:=HT.out.free 0 0 rfl 3
   simp only [hs,GE3] at c3
   clear h1 h2 hs
   go_enter Tryz.func248,Tryz.ntmps248
   go_wp2
   go_ret
   exact ⟨_,⟨rfl,_,⟨cb,lb,hb,a,b,l,gl,H1.out,H2.out,rfl⟩,rfl⟩,((HT.out.set 0 0 rfl 3 _).eq (H':=[pipeB pb cb lb { p with shut:=true },[(cb,.chan p.room (p.ch.map fun f=>Value.agg f.vals.toArray).toArray false a b false)]++gl]) rfl).sum⟩
 | true =>
   have hsame:({ p with shut:=true }:PipeS)=p:=by rw [← hs]
   rw [hsame]
   have HE:=Lib.hid (show p.shutE=3 from by unfold PipeS.shutE;rw [hs];rfl)
   rw [HE.out]
   intro w hw
   have T0:=TG.refl hw
   have HT:=Lib.hid T0
   clear hw T0
   have HT:=Lib.hid (HT.out.sum (H':=[pipeB pb cb lb p,[(cb,.chan p.room (p.ch.map fun f=>Value.agg f.vals.toArray).toArray false a b false)]++gl]))
   have H1:=Lib.hid h1
   have H2:=Lib.hid h2
   have c3:=HT.out.cell 0 0 rfl 3
   simp only [hs,GE3] at c3
   clear h1 h2 hs
   go_enter Tryz.func248,Tryz.ntmps248
   go_wp2
   go_ret
   exact ⟨_,⟨rfl,_,⟨cb,lb,hb,a,b,l,gl,H1.out,H2.out,rfl⟩,rfl⟩,HT.out.sum⟩
set_option maxRecDepth 100000 in
theorem pipeClosed_r (hg:isPipe pb p g):ReadsG Tryz.prog 274 #[ptr' pb] [g] (.bool (p.shut && decide (p.ch=[]))):=by
 obtain ⟨cb,lb,hb,a,b,l,gl,h1,h2,rfl⟩:=hg
 intro w hw
 have T0:=TG.refl hw
 have HT:=Lib.hid T0
 clear hw T0
 have HT:=Lib.hid (HT.out.sum (H':=[pipeB pb cb lb p,[(cb,.chan p.room (p.ch.map fun f=>Value.agg f.vals.toArray).toArray false a b false)]++gl]))
 have b1:=HT.out.obj 1 0 rfl
 simp only [] at b1
 have hlc:=len_chan cb p.room _ false a b w b1
 simp only [List.size_toArray,List.length_map] at hlc
 have hz:((p.ch.length:Int) == 0)=decide (p.ch=[]):=by cases p.ch <;> simp <;> omega
 clear h1 h2
 generalize p.ch.length=n at *
 generalize decide (p.ch=[])=e at *
 cases hs:p.shut with
 | false =>
   have c0:=HT.out.cell 0 0 rfl 0
   have c3:=HT.out.cell 0 0 rfl 3
   simp only [hs,pipeB,GE3] at c0 c3
   go_enter Tryz.func274,Tryz.ntmps274
   go_wp2
   go_ret
   exact ⟨rfl,0,rfl⟩
 | true =>
   have c0:=HT.out.cell 0 0 rfl 0
   have c3:=HT.out.cell 0 0 rfl 3
   simp only [hs,pipeB,GE3] at c0 c3
   go_enter Tryz.func274,Tryz.ntmps274
   go_wp2
   go_ret
   exact ⟨rfl,0,rfl⟩
end
end
section
open Go.RowKit Go.Shelf
section
variable {q:ShP} {s:ShardS} {g:List Blk}
set_option maxRecDepth 100000 in
theorem shardPop_g (hg:isSh q s g) (hr:RingB s.ring):DoesG Tryz.prog 21 #[ptr' q.b] [g] fun e gs =>
 e=.returned (.tuple #[.agg (popR s.ring).2.1.cells,.int .i64 (popR s.ring).2.2])∧∃ g',isSh q { s with ring:=(popR s.ring).1 } g'∧gs=[g']:=by
 obtain ⟨gr,gl,h1,h2,rfl⟩:=hg
 have hp:=ringPop_g h1 hr
 generalize popR s.ring=p at *
 intro w hw
 have T0:=TG.refl hw
 have HT:=Lib.hid T0
 clear hw T0
 have HT:=Lib.hid (HT.out.sum (H':=[shardB q.b q.rb q.lb q.wb,gr,gl]))
 have HP:=Lib.hid hp
 have HL:=Lib.hid h2
 clear h1 h2 hp hr
 go_enter Tryz.func21,Tryz.ntmps21
 go_wp2_with fail
 refine (DoesG.use (shardParts_g q.b q.rb q.lb q.wb) (HT.out.alloc (k:=w.heap.size) rfl 40 TaskS.zero.cells) [0] rfl rfl).mono ?_
 rintro e w1 ⟨gs,⟨rfl,rfl⟩,Ta⟩
 simp only [PU] at Ta
 have HT:=Lib.hid Ta
 clear Ta
 have hf:=fun w=>(inner_field (ptr' q.rb) (ptr' q.lb) (ptr' q.wb) w).1
 go_wp2_with fail
 refine (DoesG.use (HP.out) (HT.out) [1] rfl rfl).mono ?_
 rintro e w1 ⟨gs,⟨rfl,g1,hg1,rfl⟩,Ta⟩
 simp only [PU] at Ta
 have HG:=Lib.hid hg1
 clear hg1
 have HT:=Lib.hid Ta
 clear Ta
 have a0:=HT.out.cell 3 0 rfl 0
 have fa0:=HT.out.free 3 0 rfl 0
 have a1:=HT.out.cell 3 0 rfl 1
 have fa1:=HT.out.free 3 0 rfl 1
 have a2:=HT.out.cell 3 0 rfl 2
 have fa2:=HT.out.free 3 0 rfl 2
 have a3:=HT.out.cell 3 0 rfl 3
 have fa3:=HT.out.free 3 0 rfl 3
 have a4:=HT.out.cell 3 0 rfl 4
 have fa4:=HT.out.free 3 0 rfl 4
 simp only [TaskS.cells,TaskS.zero,GE3] at a0 a1 a2 a3 a4
 simp only [TaskS.cells]
 go_wp2
 exact bodyPost_ret (v:=.tuple #[.agg p.2.1.cells,.int .i64 p.2.2]) (by simp [results,Tryz.results21,go_sem,a0,a1,a2,a3,a4,TaskS.cells]) rfl ⟨_,⟨rfl,_,⟨g1,gl,HG.out,HL.out,rfl⟩,rfl⟩,((((((HT.out.set 3 0 rfl 0 _).set 3 0 rfl 1 _).set 3 0 rfl 2 _).set 3 0 rfl 3 _).set 3 0 rfl 4 _).pick [0,1,2] rfl).sum⟩
set_option maxRecDepth 100000 in
theorem shardWaiting_g (hg:isSh q s g) (hr:RingB s.ring):DoesG Tryz.prog 45 #[ptr' q.b] [g] fun e gs=>e=.returned (.int .i64 (s.ring.tail - s.ring.head))∧∃ g',isSh q s g'∧gs=[g']:=by
 obtain ⟨gr,gl,h1,h2,rfl⟩:=hg
 have hp:=ringLen_g h1 hr
 intro w hw
 have T0:=TG.refl hw
 have HT:=Lib.hid T0
 clear hw T0
 have HT:=Lib.hid (HT.out.sum (H':=[shardB q.b q.rb q.lb q.wb,gr,gl]))
 have HP:=Lib.hid hp
 have HL:=Lib.hid h2
 clear h1 h2 hp hr
 go_enter Tryz.func45,Tryz.ntmps45
 go_wp2_with fail
 refine (DoesG.use (shardParts_g q.b q.rb q.lb q.wb) (HT.out) [0] rfl rfl).mono ?_
 rintro e w1 ⟨gs,⟨rfl,rfl⟩,Ta⟩
 simp only [PU] at Ta
 have HT:=Lib.hid Ta
 clear Ta
 have hf:=fun w=>(inner_field (ptr' q.rb) (ptr' q.lb) (ptr' q.wb) w).1
 go_wp2_with fail
 refine (DoesG.use (HP.out) (HT.out) [1] rfl rfl).mono ?_
 rintro e w1 ⟨gs,⟨rfl,g1,hg1,rfl⟩,Ta⟩
 simp only [PU] at Ta
 have HG:=Lib.hid hg1
 clear hg1
 have HT:=Lib.hid Ta
 clear Ta
 go_wp2
 go_ret
 exact ⟨_,⟨rfl,_,⟨g1,gl,HG.out,HL.out,rfl⟩,rfl⟩,HT.out.sum⟩
set_option maxRecDepth 100000 in
theorem shardReady_g (hg:isSh q s g) (hr:RingB s.ring):DoesG Tryz.prog 280 #[ptr' q.b] [g] fun e gs=>e=.returned (.bool s.ring.ready)∧∃ g',isSh q s g'∧gs=[g']:=by
 obtain ⟨gr,gl,h1,h2,rfl⟩:=hg
 have hp:=ringReady_g h1 hr
 intro w hw
 have T0:=TG.refl hw
 have HT:=Lib.hid T0
 clear hw T0
 have HT:=Lib.hid (HT.out.sum (H':=[shardB q.b q.rb q.lb q.wb,gr,gl]))
 have HP:=Lib.hid hp
 have HL:=Lib.hid h2
 clear h1 h2 hp hr
 go_enter Tryz.func280,Tryz.ntmps280
 go_wp2_with fail
 refine (DoesG.use (shardParts_g q.b q.rb q.lb q.wb) (HT.out) [0] rfl rfl).mono ?_
 rintro e w1 ⟨gs,⟨rfl,rfl⟩,Ta⟩
 simp only [PU] at Ta
 have HT:=Lib.hid Ta
 clear Ta
 have hf:=fun w=>(inner_field (ptr' q.rb) (ptr' q.lb) (ptr' q.wb) w).1
 go_wp2_with fail
 refine (DoesG.use (HP.out) (HT.out) [1] rfl rfl).mono ?_
 rintro e w1 ⟨gs,⟨rfl,g1,hg1,rfl⟩,Ta⟩
 simp only [PU] at Ta
 have HG:=Lib.hid hg1
 clear hg1
 have HT:=Lib.hid Ta
 clear Ta
 go_wp2
 go_ret
 exact ⟨_,⟨rfl,_,⟨g1,gl,HG.out,HL.out,rfl⟩,rfl⟩,HT.out.sum⟩
end
section
variable {L:Lay} {x:CoreS} {g:List Blk}
theorem coreShard {F:Nat} {args:Array Value} {i:Nat} {q:ShP} {s s':ShardS} {v:Value} (hx:isCore L x g) (hq:L.qs[i]?=some q) (hs:x.shs[i]?=some s)
 (hd:∀ g,isSh q s g→DoesG Tryz.prog F args [g] fun e gs=>e=.returned v∧∃ g',isSh q s' g'∧gs=[g']) :
 DoesG Tryz.prog F args [g] fun e gs=>e=.returned v∧∃ g',isCore L { x with shs:=x.shs.set i s' } g'∧gs=[g']:=by
 obtain ⟨tr,gF,gS,gR,gH,gT,h1,h2,h3,h4,h5,h6,rfl⟩:=hx
 have hz:(L.qs.zip x.shs)[i]?=some (q,s):=zip_at hq hs
 obtain ⟨u,y,hu,hp,hback⟩:=h5.out hz
 intro w hw
 have T:=(((TG.refl hw).sum (H':=[gF++(gS++(gR++gT)),gH])).permAt 1 rfl hp).sum (H':=[gF++(gS++(gR++gT)),u,y])
 refine (DoesG.use (hd u hu) T [1] rfl rfl).mono ?_
 rintro e w' ⟨gs,⟨he,g1,hn1,rfl⟩,T'⟩
 obtain ⟨gH',hf,hp'⟩:=hback (q,s') g1 hn1
 rw [zip_set i hq] at hf
 refine ⟨_,⟨he,_,⟨tr,gF,gS,gR,gH',gT,h1,h2,h3,by simpa using h4,hf,h6,rfl⟩,rfl⟩,?_⟩
 exact ((TG.sum (H:=[gF++(gS++(gR++gT)),g1,y]) (H':=[gF++(gS++(gR++gT)),g1++y]) T').permAt 1 rfl hp').sum
theorem core_shs_same {x:CoreS} {i:Nat} {s:ShardS} (hs:x.shs[i]?=some s):({ x with shs:=x.shs.set i s }:CoreS)=x:=by
 have:x.shs.set i s=x.shs:=fam_set_same hs
 rw [this]
theorem corePop (hx:isCore L x g) {i:Nat} {q:ShP} {s:ShardS} (hq:L.qs[i]?=some q) (hs:x.shs[i]?=some s) (hr:RingB s.ring):DoesG Tryz.prog 21 #[ptr' q.b] [g] fun e gs =>
 e=.returned (.tuple #[.agg (popR s.ring).2.1.cells,.int .i64 (popR s.ring).2.2])∧∃ g',isCore L { x with shs:=x.shs.set i { s with ring:=(popR s.ring).1 } } g'∧gs=[g'] :=
 coreShard hx hq hs fun g hg=>shardPop_g hg hr
theorem coreWaiting (hx:isCore L x g) {i:Nat} {q:ShP} {s:ShardS} (hq:L.qs[i]?=some q) (hs:x.shs[i]?=some s) (hr:RingB s.ring):DoesG Tryz.prog 45 #[ptr' q.b] [g] fun e gs =>
 e=.returned (.int .i64 (s.ring.tail - s.ring.head))∧∃ g',isCore L x g'∧gs=[g']:=by
 have:=coreShard hx hq hs fun g hg=>shardWaiting_g hg hr
 rwa [core_shs_same hs] at this
theorem coreReady (hx:isCore L x g) {i:Nat} {q:ShP} {s:ShardS} (hq:L.qs[i]?=some q) (hs:x.shs[i]?=some s) (hr:RingB s.ring):DoesG Tryz.prog 280 #[ptr' q.b] [g] fun e gs =>
 e=.returned (.bool s.ring.ready)∧∃ g',isCore L x g'∧gs=[g']:=by
 have:=coreShard hx hq hs fun g hg=>shardReady_g hg hr
 rwa [core_shs_same hs] at this
theorem coreShardAt_r (hx:isCore L x g) (i:Int):ReadsG Tryz.prog 20 #[ptr' L.fb,.int .i64 i] [g] (shardV (L.qs.map ShP.b) i):=by
 obtain ⟨tr,gF,gS,gR,gH,gT,h1,h2,h3,h4,h5,h6,rfl⟩:=hx
 intro w hw
 have T:=(TG.refl hw).sum (H':=[gF,gS,gR,gH,gT])
 exact (floorShard_r h1 h3 i).use T [0,2] rfl rfl
end
theorem core_q {L:Lay} {x:CoreS} {g:List Blk} (hx:isCore L x g) {i:Nat} (hi:i<x.shs.length):∃ q,L.qs[i]?=some q∧shardV (L.qs.map ShP.b) i=ptr' q.b:=by
 obtain ⟨tr,gF,gS,gR,gH,gT,h1,h2,h3,h4,h5,h6,rfl⟩:=hx
 have hl:i<L.qs.length:=by omega
 refine ⟨L.qs[i],List.getElem?_eq_getElem hl,?_⟩
 unfold shardV
 rw [if_pos (by simp;omega)]
 simp [hl]
end
section
open Go.RowKit Go.Shelf
section
variable {L:Lay} {x:CoreS} {g:List Blk}
theorem coreBusy (hx:isCore L x g):DoesG Tryz.prog 64 #[ptr' L.fb] [g] fun e gs=>e=.returned (.int .i64 x.f.busy)∧∃ g',isCore L x g'∧gs=[g']:=by
 obtain ⟨tr,gF,gS,gR,gH,gT,h1,h2,h3,h4,h5,h6,rfl⟩:=hx
 intro w hw
 have T:=(TG.refl hw).sum (H':=[gF,gS,gR,gH,gT])
 refine (DoesG.use (floorBusy_g h1) T [0] rfl rfl).mono ?_
 rintro e w' ⟨gs,⟨he,g1,hn1,rfl⟩,T'⟩
 exact ⟨_,⟨he,_,⟨tr,g1,gS,gR,gH,gT,hn1,h2,h3,h4,h5,h6,rfl⟩,rfl⟩,TG.sum (H:=[g1,gS,gR,gH,gT]) T'⟩
theorem coreWork (hx:isCore L x g) (h:0≤x.f.busy∧x.f.busy≤1000000):DoesG Tryz.prog 271 #[ptr' L.fb,.bool true] [g] fun e gs=>e=.returned (.int .i64 0)∧∃ g',isCore L { x with f:={ x.f with busy:=x.f.busy+1 } } g'∧gs=[g']:=by
 obtain ⟨tr,gF,gS,gR,gH,gT,h1,h2,h3,h4,h5,h6,rfl⟩:=hx
 intro w hw
 have T:=(TG.refl hw).sum (H':=[gF,gS,gR,gH,gT])
 refine (DoesG.use (floorWork_g h1 h) T [0] rfl rfl).mono ?_
 rintro e w' ⟨gs,⟨he,g1,hn1,rfl⟩,T'⟩
 exact ⟨_,⟨he,_,⟨tr,g1,gS,gR,gH,gT,hn1,h2,h3,h4,h5,h6,rfl⟩,rfl⟩,TG.sum (H:=[g1,gS,gR,gH,gT]) T'⟩
theorem coreRest (hx:isCore L x g) (h:0≤x.f.busy∧x.f.busy≤1000000):DoesG Tryz.prog 271 #[ptr' L.fb,.bool false] [g] fun e gs=>e=.returned (.int .i64 (lessE x.f.busy))∧∃ g',isCore L { x with f:={ x.f with busy:=lessN x.f.busy } } g'∧gs=[g']:=by
 obtain ⟨tr,gF,gS,gR,gH,gT,h1,h2,h3,h4,h5,h6,rfl⟩:=hx
 intro w hw
 have T:=(TG.refl hw).sum (H':=[gF,gS,gR,gH,gT])
 refine (DoesG.use (floorRest_g h1 h) T [0] rfl rfl).mono ?_
 rintro e w' ⟨gs,⟨he,g1,hn1,rfl⟩,T'⟩
 exact ⟨_,⟨he,_,⟨tr,g1,gS,gR,gH,gT,hn1,h2,h3,h4,h5,h6,rfl⟩,rfl⟩,TG.sum (H:=[g1,gS,gR,gH,gT]) T'⟩
theorem coreTurn (hx:isCore L x g) (h:0≤x.f.now∧x.f.now<9223372036854775807):DoesG Tryz.prog 215 #[ptr' L.fb] [g] fun e gs=>e=.returned (.tuple #[.int .u64 (x.f.now+1),.int .i64 0])∧∃ g',isCore L { x with f:={ x.f with now:=x.f.now+1 } } g'∧gs=[g']:=by
 obtain ⟨tr,gF,gS,gR,gH,gT,h1,h2,h3,h4,h5,h6,rfl⟩:=hx
 intro w hw
 have T:=(TG.refl hw).sum (H':=[gF,gS,gR,gH,gT])
 refine (DoesG.use (floorTurn_g h1 h) T [0] rfl rfl).mono ?_
 rintro e w' ⟨gs,⟨he,g1,hn1,rfl⟩,T'⟩
 exact ⟨_,⟨he,_,⟨tr,g1,gS,gR,gH,gT,hn1,h2,h3,h4,h5,h6,rfl⟩,rfl⟩,TG.sum (H:=[g1,gS,gR,gH,gT]) T'⟩
theorem corePipe_r (hx:isCore L x g):ReadsG Tryz.prog 40 #[ptr' L.fb] [g] (ptr' L.p.pb):=by
 obtain ⟨tr,gF,gS,gR,gH,gT,⟨C,rfl,hc⟩,h2,h3,h4,h5,h6,rfl⟩:=hx
 intro w hw
 have T0:=TG.refl hw
 have HT:=Lib.hid T0
 clear hw T0
 have c0:=((HT.out.sum (H':=[[cl L.fb 133 C],gS,gR,gH,gT])).cell 0 0 rfl 8).trans hc.pipe
 clear hc h2 h3 h4 h5 h6
 go_enter Tryz.func40,Tryz.ntmps40
 go_wp2
 go_ret
 exact ⟨rfl,0,rfl⟩
theorem coreLog_r (hx:isCore L x g):ReadsG Tryz.prog 115 #[ptr' L.fb] [g] (ptr' L.p.lb):=by
 obtain ⟨tr,gF,gS,gR,gH,gT,⟨C,rfl,hc⟩,h2,h3,h4,h5,h6,rfl⟩:=hx
 intro w hw
 have T0:=TG.refl hw
 have HT:=Lib.hid T0
 clear hw T0
 have c0:=((HT.out.sum (H':=[[cl L.fb 133 C],gS,gR,gH,gT])).cell 0 0 rfl 9).trans hc.log
 clear hc h2 h3 h4 h5 h6
 go_enter Tryz.func115,Tryz.ntmps115
 go_wp2
 go_ret
 exact ⟨rfl,0,rfl⟩
theorem coreConfig (hx:isCore L x g):DoesG Tryz.prog 218 #[ptr' L.fb] [g] fun e gs=>e=.returned (.agg x.f.cfg.cells)∧gs=[g]:=by
 obtain ⟨tr,gF,gS,gR,gH,gT,⟨C,rfl,hc⟩,h2,h3,h4,h5,h6,rfl⟩:=hx
 have hcf:=hc.cfg
 intro w hw
 have T0:=TG.refl hw
 have HT:=Lib.hid T0
 clear hw T0
 have HT1:=Lib.hid (HT.out.sum (H':=[[cl L.fb 133 C],gS,gR,gH,gT]))
 have k0:=(HT1.out.cell 0 0 rfl 0).trans (hcf 0 (by decide))
 have k1:=(HT1.out.cell 0 0 rfl 1).trans (hcf 1 (by decide))
 have k2:=(HT1.out.cell 0 0 rfl 2).trans (hcf 2 (by decide))
 have k3:=(HT1.out.cell 0 0 rfl 3).trans (hcf 3 (by decide))
 have k4:=(HT1.out.cell 0 0 rfl 4).trans (hcf 4 (by decide))
 have k5:=(HT1.out.cell 0 0 rfl 5).trans (hcf 5 (by decide))
 simp only [Cfg.cells,GE3] at k0 k1 k2 k3 k4 k5
 have hlt:=HT1.out.lt 0 0 rfl
 simp only [] at hlt
 clear hcf hc h2 h3 h4 h5 h6 HT1
 go_enter Tryz.func218,Tryz.ntmps218
 go_wp2
 exact bodyPost_ret (v:=.agg x.f.cfg.cells) (by simp [results,Tryz.results218,go_sem,Cfg.cells]) rfl ⟨_,⟨rfl,rfl⟩,HT.out.alloc0 _⟩
theorem coreNumber (hx:isCore L x g) (hc:x.f.cfg.cap=x.slab.recs.length) (hs:SlabOk x.slab) (i:Int):DoesG Tryz.prog 294 #[ptr' L.fb,.int .i64 i] [g] fun e gs=>e=.returned (.tuple #[.int .u64 (numV x.slab i).1,.int .i64 (numV x.slab i).2])∧∃ g',isCore L x g'∧gs=[g']:=by
 obtain ⟨tr,gF,gS,gR,gH,gT,h1,h2,h3,h4,h5,h6,rfl⟩:=hx
 intro w hw
 have T:=(TG.refl hw).sum (H':=[gF,gS,gR,gH,gT])
 refine (DoesG.use (floorNumber_g h1 h2 hc hs.n1 (fun r hr=>⟨(hs.recs r hr).g0,by
  have h:=(hs.recs r hr).g1
  unfold genW at h
  split at h
  ·next ho =>
   unfold okW at ho
   simp only [Bool.and_eq_true,decide_eq_true_eq] at ho
   omega
  ·omega⟩) i) T [0,1] rfl rfl).mono ?_
 rintro e w' ⟨gs,⟨he,g1,hn1,rfl⟩,T'⟩
 exact ⟨_,⟨he,_,⟨tr,gF,g1,gR,gH,gT,h1,hn1,h3,h4,h5,h6,rfl⟩,rfl⟩,TG.sum (H:=[gF,g1,gR,gH,gT]) T'⟩
end
theorem TG.mem_at {h H:GH} {w w':World} (T:TG h w H w') (i:Nat) {p:Blk} (hm:p∈H.getD i []):w'.heap[p.1]?=some p.2:=by
 obtain ⟨j,hj⟩:=List.mem_iff_getElem?.1 hm
 exact T.obj i j hj
theorem TG.mem_cell {h H:GH} {w w':World} (T:TG h w H w') (i:Nat) {b:Nat} {t:TypeId} {C:Array Value} (hm:cl b t C∈H.getD i []) (o:Nat):w'.cell? ⟨b,o,none⟩=C[o]?:=blk_cell (T.mem_at i hm) o
theorem TG.mem_lt {h H:GH} {w w':World} (T:TG h w H w') (i:Nat) {p:Blk} (hm:p∈H.getD i []):p.1<w'.heap.size:=(Array.getElem?_eq_some_iff.1 (T.mem_at i hm)).1
end
section
open Go.RowKit Go.Shelf
structure ShutS where
 th:Int
 no:Int
 err:Int
 ok:Bool
 aset:Bool
 left:List Int
 saw:Int
inductive MS where
 | shuts | slots0 | slots2 (i:Int) | waits | looks1 (i:Int) | leaves0 (i:Int) | waits2
inductive AS where
 | ends1 | pshut | release (i:Int) | drop
inductive YS where
 | inside | idle
abbrev SS:Type:=St MS AS YS
structure ZS where
 k:ShutS
 x:CoreS
 p:PipeS
def evS (k:ShutS) (E:EvS):EvS:={ E with thread:=k.th,call:=k.no,what:=6 }
def ZS.note (E:EvS) (z:ZS):ZS:={ z with x:={ z.x with tr:=z.x.tr++[evS z.k E] } }
def looksS (i:Int):SS:=.at none (.looks1 i)
def slotsS (i:Int) (z:ZS):SS:=if z.x.f.cfg.cap≤i then .thn (.row1 .pshut) .waits else .thn (looksS i) (.slots2 i)
def wordZ (i:Int) (z:ZS):ZS:={ z with k:={ z.k with saw:=z.x.slab.word i } }
def runS:MS→ZS→SS × ZS
 | .shuts,z=>if z.x.f.closed=true then (.row1 .ends1,{ (z.note { ev0 with kind:=9,err:=3 }) with k:={ z.k with err:=3,ok:=false,aset:=false } })
    else (.at (some .inside) .slots0,({ z with x:={ z.x with f:={ z.x.f with closed:=true } } }:ZS).note { ev0 with kind:=10 })
 | .slots0,z=>(slotsS 0 z,z)
 | .slots2 i,z=>(slotsS (i+1) z,z)
 | .waits,z=>(.at (some .idle) .waits2,z)
 | .looks1 i,z=>if stW (z.x.slab.word i)=2∨stW (z.x.slab.word i)=3 then (.at none (.leaves0 i),wordZ i z) else (.nil,wordZ i z)
 | .leaves0 i,z =>
   let r:=z.x.slab.try i z.k.saw 6
   if r.2.2≠0 then (looksS i,{ z with x:={ z.x with slab:=r.1 } })
   else (.row2 (.release i) .drop,({ z with x:={ z.x with slab:=r.1 },k:={ z.k with left:=z.k.left++[(numV r.1 i).1] } }:ZS).note { ev0 with kind:=12,id:=(numV r.1 i).1,gen:=genW r.2.1 })
 | .waits2,z=>(.row1 .ends1,{ (z.note { ev0 with kind:=13 }) with k:={ z.k with err:=0,ok:=true,aset:=true } })
def runAS:AS→ZS→ZS
 | .ends1,z=>z.note { ev0 with kind:=2,err:=z.k.err }
 | .pshut,z=>{ z with p:={ z.p with shut:=true } }
 | .release i,z=>{ z with x:={ z.x with slab:=(z.x.slab.try i (z.x.slab.word i) 10).1 } }
 | .drop,z=>{ z with x:={ z.x with slab:=z.x.slab.drop.1 } }
def mayS:YS→ZS→Bool
 | .inside,z=>z.x.f.inside == 0
 | .idle,z=>z.p.shut && decide (z.p.ch=[]) && (z.x.f.busy == 0)
structure ShutOk (z:ZS):Prop where
 core:CoreOk z.x
 cap:z.x.f.cfg.cap=z.x.slab.recs.length
 busy:0≤z.x.f.busy∧z.x.f.busy≤1000000
 saw:0≤z.k.saw∧z.k.saw<18446744073709551616∧okW z.k.saw=true
 left:z.k.left.length≤1000000
def MS.fit:MS→ZS→Prop
 | .slots2 i,_=>0≤i∧i≤64
 | .looks1 i,_=>0≤i∧i≤64
 | .leaves0 i,z=>(0≤i∧i≤64)∧z.k.aset=false
 | _,_=>True
def preS (f:MS) (z:ZS):Prop:=ShutOk z∧f.fit z
def preAS (_:AS) (z:ZS):Prop:=ShutOk z
def shutC (fb:Nat) (pv vl al:Value) (k:ShutS):Array Value:=#[ptr' fb,.int .i64 k.th,.int .i64 k.no,.int .i64 k.err,.bool k.ok,.int .u64 0,.int .u64 0,al,pv,vl,.int .u64 k.saw]
abbrev shutB (kb fb:Nat) (pv vl al:Value) (k:ShutS):List Blk:=[cl kb 289 (shutC fb pv vl al k)]
def u64s (l:List Int):List Value:=l.map fun n=>.int .u64 n
def isLeft (k:ShutS) (vl al:Value) (g:List Blk):Prop:=rowG 36 1 vl k.left.length (u64s k.left) g∧(if k.aset then al=vl else al=.slice none 0 0)
def repS (L:Lay) (kb:Nat) (pv:Value) (e:List Blk) (z:ZS) (gK gF:List Blk):Prop :=
 ∃ vl al gl gC gP,isLeft z.k vl al gl∧isCore L z.x gC∧isPipe L.p.pb z.p gP∧gK=shutB kb L.fb pv vl al z.k++(gl++e)∧gF=gC++gP
def cloK (kb:Nat) (e:List Blk) (fn:FuncId) (v:Value):Prop:=∃ bk,v=.func (.func fn) #[] #[ptr' bk]∧cl bk 251 #[ptr' kb]∈e
def cloI (kb:Nat) (e:List Blk) (fn:FuncId) (i:Int) (v:Value):Prop:=∃ bk bi,v=.func (.func fn) #[] #[ptr' bk,ptr' bi]∧cl bk 251 #[ptr' kb]∈e∧cl bi 3 #[.int .i64 i]∈e
def VMS (kb:Nat) (e:List Blk) (f:MS) (v:Value) (g:List Blk):Prop:=g=[]∧match f with
 | .shuts=>v=.func (.func 181) #[ptr' kb] #[]
 | .slots0=>cloK kb e 223 v
 | .slots2 i=>cloI kb e 251 i v
 | .waits=>v=.func (.func 249) #[ptr' kb] #[]
 | .looks1 i=>cloI kb e 276 i v
 | .leaves0 i=>cloI kb e 277 i v
 | .waits2=>cloK kb e 275 v
def VAS (kb:Nat) (e:List Blk) (f:AS) (v:Value) (g:List Blk):Prop:=g=[]∧match f with
 | .ends1=>cloK kb e 246 v
 | .pshut=>cloK kb e 247 v
 | .release i=>cloI kb e 295 i v
 | .drop=>cloK kb e 296 v
def VYS (kb:Nat) (e:List Blk) (f:YS) (v:Value) (g:List Blk):Prop:=g=[]∧match f with
 | .inside=>cloK kb e 222 v
 | .idle=>cloK kb e 273 v
def leE (e e':List Blk):Prop:=∀ b∈e,b∈e'
def cliS (L:Lay) (kb:Nat) (pv:Value):CliE :=
 ⟨MS,AS,YS,ZS,List Blk,leE,repS L kb pv,VMS kb,VAS kb,VYS kb,runS,runAS,mayS,preS,preAS,fun _ z=>ShutOk z⟩
theorem cloK.le {kb:Nat} {e e':List Blk} {fn:FuncId} {v:Value} (h:cloK kb e fn v) (hl:leE e e'):cloK kb e' fn v:=by
 obtain ⟨bk,h1,h2⟩:=h;exact ⟨bk,h1,hl _ h2⟩
theorem cloI.le {kb:Nat} {e e':List Blk} {fn:FuncId} {i:Int} {v:Value} (h:cloI kb e fn i v) (hl:leE e e'):cloI kb e' fn i v:=by
 obtain ⟨bk,bi,h1,h2,h3⟩:=h;exact ⟨bk,bi,h1,hl _ h2,hl _ h3⟩
theorem cloK.is {kb:Nat} {e:List Blk} {fn:FuncId} {v:Value} (h:cloK kb e fn v):∃ fn first caps,v=.func (.func fn) first caps:=by
 obtain ⟨bk,h1,h2⟩:=h;exact ⟨_,_,_,h1⟩
theorem cloI.is {kb:Nat} {e:List Blk} {fn:FuncId} {i:Int} {v:Value} (h:cloI kb e fn i v):∃ fn first caps,v=.func (.func fn) first caps:=by
 obtain ⟨bk,bi,h1,h2,h3⟩:=h;exact ⟨_,_,_,h1⟩
theorem VMS.le {kb:Nat} {e e':List Blk} {f:MS} {v:Value} {g:List Blk} (hl:leE e e') (h:VMS kb e f v g):VMS kb e' f v g:=by
 refine ⟨h.1,?_⟩
 have:=h.2
 cases f <;> first | exact this | exact cloK.le this hl | exact cloI.le this hl
theorem VAS.le {kb:Nat} {e e':List Blk} {f:AS} {v:Value} {g:List Blk} (hl:leE e e') (h:VAS kb e f v g):VAS kb e' f v g:=by
 refine ⟨h.1,?_⟩
 have:=h.2
 cases f <;> first | exact cloK.le this hl | exact cloI.le this hl
theorem cliS_vals (L:Lay) (kb:Nat) (pv:Value) (e:List Blk):((cliS L kb pv).on e).Vals where
 vm {f v g} h:=by
  have:=h.2
  cases f <;> first | exact ⟨_,_,_,this⟩ | exact cloK.is this | exact cloI.is this
 va {f v g} h:=by
  have:=h.2
  cases f <;> first | exact cloK.is this | exact cloI.is this
 vy {f v g} h:=by
  have:=h.2
  cases f <;> exact cloK.is this
theorem leE.refl (e:List Blk):leE e e:=fun _ h=>h
theorem leE.app (e l:List Blk):leE e (e++l):=fun _ h=>List.mem_append_left _ h
def MRS (L:Lay) (kb:Nat) (pv:Value) (e:List Blk) (s:SS) (z:ZS) (en:Ending) (gs:GH):Prop :=
 ∃ e',leE e e'∧∃ m d g' gK' gF',en=.returned (.agg #[m,d])∧(cliS L kb pv).SV e' s m d g'∧repS L kb pv e' z gK' gF'∧gs=[g',gK',gF']
def ARS (L:Lay) (kb:Nat) (pv:Value) (e:List Blk) (z:ZS) (en:Ending) (gs:GH):Prop :=
 ∃ e',leE e e'∧∃ gK' gF',en=.returned (.tuple #[])∧repS L kb pv e' z gK' gF'∧gs=[[],gK',gF']
end
section
open Go.RowKit Go.Shelf
def SRS (L:Lay) (kb:Nat) (pv:Value) (s:SS) (en:Ending) (g' l:List Blk):Prop :=
 ∃ m d,en=.returned (.agg #[m,d])∧∀ e,leE l e→(cliS L kb pv).SV e s m d g'
set_option maxRecDepth 100000 in
theorem until_g (f1 f2:FuncId) (a1 a2 c1 c2:Array Value):DoesG Tryz.prog 221 #[.func (.func f1) a1 c1,.func (.func f2) a2 c2] [] fun en gs=>en=.returned (.agg #[.func (.func f1) a1 c1,.func (.func f2) a2 c2])∧gs=[]:=by
 intro w hw
 have T0:=TG.refl hw
 have HT:=Lib.hid T0
 clear hw T0
 go_enter Tryz.func221,Tryz.ntmps221
 go_wp2
 exact bodyPost_ret (v:=.agg #[_,_]) (by simp [results,Tryz.results221,go_sem]) rfl ⟨_,⟨rfl,rfl⟩,HT.out.alloc0 _⟩
section
variable {L:Lay} {x:CoreS} {g gK gF:List Blk} {kb:Nat} {pv vl al:Value} {k:ShutS}
set_option maxRecDepth 100000 in
theorem shutNote (hx:isCore L x g) (E:EvS) (hn:x.tr.length≤1000000):DoesG Tryz.prog 182 #[ptr' kb,.agg E.cells] [shutB kb L.fb pv vl al k,g] fun e gs =>
 e=.returned (.tuple #[])∧∃ g',isCore L { x with tr:=x.tr++[evS k E] } g'∧gs=[shutB kb L.fb pv vl al k,g']:=by
 intro w hw
 have T0:=TG.refl hw
 have HT:=Lib.hid T0
 clear hw T0
 have HN:=Lib.hid (coreNote hx (evS k E) hn)
 have lt:=HT.out.lt 0 0 rfl
 simp only [] at lt
 have k0:=HT.out.cell 0 0 rfl 0
 have k1:=HT.out.cell 0 0 rfl 1
 have k2:=HT.out.cell 0 0 rfl 2
 simp only [shutC,GE3] at k0 k1 k2
 clear hx hn
 simp only [EvS.cells]
 go_enter Tryz.func182,Tryz.ntmps182
 go_wp2
 go_region
 go_wp2
 have HT:=Lib.hid (HT.out.alloc (k:=w.heap.size) rfl 152 (evS k E).cells).drew
 simp only [List.cons_append,List.nil_append] at HT
 simp only [EvS.cells,evS] at HT
 clear lt k1 k2 k0
 generalize World.drew _=w1 at HT ⊢
 have k0:=HT.out.cell 0 0 rfl 0
 simp only [shutC,GE3] at k0
 have b0:=HT.out.cell 2 0 rfl 0
 have b1:=HT.out.cell 2 0 rfl 1
 have b2:=HT.out.cell 2 0 rfl 2
 have b3:=HT.out.cell 2 0 rfl 3
 have b4:=HT.out.cell 2 0 rfl 4
 have b5:=HT.out.cell 2 0 rfl 5
 have b6:=HT.out.cell 2 0 rfl 6
 have b7:=HT.out.cell 2 0 rfl 7
 have b8:=HT.out.cell 2 0 rfl 8
 have b9:=HT.out.cell 2 0 rfl 9
 simp only [GE4] at b0 b1 b2 b3 b4 b5 b6 b7 b8 b9
 refine wp_region_mix1 5 (by kernel_rfl) (by kernel_rfl) ?_
 simp only [TD4]
 repeat (go_big_quiet_step ((fail)))
 refine wpQuiet_nil ?_
 intro _ hw'
 obtain ⟨nq,hw''⟩:=hw'
 subst hw''
 have HT:=Lib.hid (HT.out.drewN nq)
 go_wp2_with fail
 refine (DoesG.use (HN.out) (HT.out) [1] rfl rfl).mono ?_
 rintro e w1 ⟨gs,⟨rfl,g',hx',rfl⟩,Ta⟩
 simp only [PU] at Ta
 have HX:=Lib.hid hx'
 clear hx'
 have HT:=Lib.hid Ta
 clear Ta
 go_wp2_with fail
 refine ⟨rfl,?_⟩
 go_wp2
 exact bodyPost_end (results_none rfl _ _ _) rfl ⟨_,⟨rfl,g',HX.out,rfl⟩,HT.out.pick [0,1] rfl⟩
set_option maxRecDepth 100000 in
theorem sEndsS (L:Lay) (kb:Nat) (pv:Value):DoesG Tryz.prog 220 #[ptr' kb] [] fun en gs=>∃ g' l,SRS L kb pv (.row1 .ends1) en g' l∧gs=[g',l]:=by
 intro w hw
 have T0:=TG.refl hw
 have HT:=Lib.hid T0
 clear hw T0
 go_enter Tryz.func220,Tryz.ntmps220
 go_wp2_with fail
 refine (DoesG.use (Cli.row_1 (b:=w.heap.size+1+1) (o:=0) (D:=#[.func (.func 246) #[] #[ptr' w.heap.size]]) rfl 1 (.inl rfl)) (((HT.out.alloc (k:=w.heap.size) rfl _ _).alloc (k:=w.heap.size+1) (by simp) _ _).alloc (k:=w.heap.size+1+1) (by simp) _ _) [2] rfl rfl).mono ?_
 rintro e w1 ⟨gs,⟨bf,bl,bi,rfl,rfl⟩,Ta⟩
 simp only [PU] at Ta
 have HT:=Lib.hid Ta
 clear Ta
 have e0:=HT.out.cell 1 0 rfl 0
 have fe0:=HT.out.free 1 0 rfl 0
 have e1:=HT.out.cell 1 0 rfl 1
 have fe1:=HT.out.free 1 0 rfl 1
 simp only [GE4] at e0 e1
 go_wp2
 exact bodyPost_ret (v:=.agg #[.nilFunc,_]) (by simp [results,Tryz.results220,go_sem,e0,e1]) rfl ⟨_,⟨_,[cl w.heap.size 251 #[ptr' kb]],⟨_,_,rfl,fun e he=>⟨rfl,bf,bl,bi,w.heap.size+1+1,0,#[.func (.func 246) #[] #[ptr' w.heap.size]],_,[],rfl,⟨rfl,w.heap.size,rfl,he _ (by simp)⟩,rfl,rfl⟩⟩,rfl⟩,(((HT.out.set 1 0 rfl 0 _).set 1 0 rfl 1 _).pick [2,3,4,5,0] rfl).sum⟩
set_option maxRecDepth 100000 in
theorem sLooksS (L:Lay) (kb:Nat) (pv:Value) (i:Int):DoesG Tryz.prog 250 #[ptr' kb,.int .i64 i] [] fun en gs=>∃ g' l,SRS L kb pv (looksS i) en g' l∧gs=[g',l]:=by
 intro w hw
 have T0:=TG.refl hw
 have HT:=Lib.hid T0
 clear hw T0
 go_enter Tryz.func250,Tryz.ntmps250
 go_wp2
 exact bodyPost_ret (v:=.agg #[.nilFunc,_]) (by simp [results,Tryz.results250,go_sem]) rfl ⟨_,⟨[],[cl w.heap.size 251 #[ptr' kb],cl (w.heap.size+1) 3 #[.int .i64 i]],⟨_,_,rfl,fun e he=>⟨rfl,rfl,w.heap.size,w.heap.size+1,rfl,he _ (by simp),he _ (by simp)⟩⟩,rfl⟩,(((HT.out.alloc (k:=w.heap.size) rfl _ _).alloc (k:=w.heap.size+1) (by simp) _ _).alloc0 _).sum⟩
end
end
section
open Go.RowKit Go.Shelf
section
variable {L:Lay} {x:CoreS} {p:PipeS} {e gK gF:List Blk} {kb:Nat} {pv:Value} {k:ShutS}
set_option maxRecDepth 100000 in
theorem mShuts (hz:repS L kb pv e ⟨k,x,p⟩ gK gF) (hp:preS .shuts ⟨k,x,p⟩):DoesG Tryz.prog 181 #[ptr' kb] [gK,gF] (MRS L kb pv e (runS .shuts ⟨k,x,p⟩).1 (runS .shuts ⟨k,x,p⟩).2):=by
 have HLN:=Lib.hid hp.1.core.tr
 simp only at HLN
 cases hc:x.f.closed with
 | true =>
   have he:runS .shuts ⟨k,x,p⟩=(.row1 .ends1,⟨{ k with err:=3,ok:=false,aset:=false },{ x with tr:=x.tr++[evS k { ev0 with kind:=9,err:=3 }] },p⟩):=by
    unfold runS ZS.note;simp only [hc,if_true]
   rw [he]
   clear he hp
   unfold MRS
   have hsame:({ x with f:={ x.f with closed:=true } }:CoreS)=x:=by rw [← hc]
   obtain ⟨vl,al,gl,gC,gP,hl,hx,hpp,rfl,rfl⟩:=hz
   intro w hw
   have T0:=TG.refl hw
   have HT:=Lib.hid T0
   clear hw T0
   have HT:=Lib.hid (HT.out.sum (H':=[shutB kb L.fb pv vl al k,gl,e,gC,gP]))
   have HX:=Lib.hid hx
   have HL:=Lib.hid hl
   have HPP:=Lib.hid hpp
   clear hx hl hpp
   have hsh:=coreShut HX.out
   rw [hsame,hc] at hsh
   have HSH:=Lib.hid hsh
   clear hsh hsame hc
   have k0:=HT.out.cell 0 0 rfl 0
   simp only [shutC,GE3] at k0
   have lt:=HT.out.lt 0 0 rfl
   simp only [] at lt
   go_enter Tryz.func181,Tryz.ntmps181
   go_wp2_with fail
   refine (DoesG.use (HSH.out) ((HT.out.alloc (k:=w.heap.size) rfl _ _).alloc (k:=w.heap.size+1) (by simp) _ _) [3] rfl rfl).mono ?_
   rintro e w1 ⟨gs,⟨rfl,g1,hx1,rfl⟩,Ta⟩
   simp only [PU] at Ta
   have HX:=Lib.hid hx1
   have b0:=Ta.cell 5 0 rfl 0
   clear hx1
   have HT:=Lib.hid Ta
   clear Ta
   simp only [GE2] at b0
   go_wp2_with fail
   refine (DoesG.use (shutNote HX.out { ev0 with kind:=9,err:=3 } HLN.out) (HT.out) [0,3] rfl rfl).mono ?_
   rintro e w1 ⟨gs,⟨rfl,g3,hx3,rfl⟩,Ta⟩
   simp only [PU] at Ta
   have HX:=Lib.hid hx3
   have b0:=Ta.cell 5 0 rfl 0
   clear hx3 k0
   have HT:=Lib.hid Ta
   clear Ta
   have k3:=HT.out.cell 0 0 rfl 3
   have fk3:=HT.out.free 0 0 rfl 3
   have k4:=HT.out.cell 0 0 rfl 4
   have fk4:=HT.out.free 0 0 rfl 4
   have k5:=HT.out.cell 0 0 rfl 5
   have fk5:=HT.out.free 0 0 rfl 5
   have k6:=HT.out.cell 0 0 rfl 6
   have fk6:=HT.out.free 0 0 rfl 6
   have k7:=HT.out.cell 0 0 rfl 7
   have fk7:=HT.out.free 0 0 rfl 7
   simp only [shutC,GE3] at k3 k4 k5 k6 k7
   simp only [GE2] at b0
   go_wp2_with fail
   refine (DoesG.use (sEndsS L kb pv) (((((((HT.out.set 0 0 rfl 3 _).set 0 0 rfl 4 _).set 0 0 rfl 5 _).set 0 0 rfl 6 _).set 0 0 rfl 7 _).eq (H':=[shutB kb L.fb pv vl (.slice none 0 0) { k with err:=3,ok:=false,aset:=false },gl,e,g3,gP,[cl w.heap.size 251 #[ptr' kb]],[cl (w.heap.size+1) 148 #[.nilFunc,.nilFunc]]]) rfl)) [] rfl rfl).mono ?_
   rintro e w1 ⟨gs,⟨g2,l2,⟨m2,d2,rfl,hs2⟩,rfl⟩,Ta⟩
   simp only [PU] at Ta
   have HT:=Lib.hid Ta
   clear Ta
   have r0:=HT.out.cell 6 0 rfl 0
   have fr0:=HT.out.free 6 0 rfl 0
   have r1:=HT.out.cell 6 0 rfl 1
   have fr1:=HT.out.free 6 0 rfl 1
   simp only [GE4] at r0 r1
   have hv2:=(cliS_vals L kb pv l2).vals (hs2 l2 (leE.refl _))
   obtain ⟨st1,st2⟩:=Cli.store_fv2 (P:=Tryz.prog) hv2.1 hv2.2 r0 fr0 r1 fr1
   have HS:=Lib.hid hs2
   clear hv2 hs2
   go_wp2
   exact bodyPost_ret (v:=.agg #[_,_]) (by simp [results,Tryz.results181,go_sem,r0,r1]) rfl ⟨_,⟨e++l2,leE.app _ _,m2,d2,g2,_,_,rfl,HS.out _ (fun b hb=>List.mem_append_right _ hb),⟨vl,(.slice none 0 0),gl,_,gP,⟨HL.out.1,rfl⟩,HX.out,HPP.out,rfl,rfl⟩,rfl⟩,(((HT.out.set 6 0 rfl 0 _).set 6 0 rfl 1 _).pick [7,0,1,2,8,3,4] rfl).sum⟩
 | false =>
   have he:runS .shuts ⟨k,x,p⟩=(.at (some .inside) .slots0,⟨k,{ x with f:={ x.f with closed:=true },tr:=x.tr++[evS k { ev0 with kind:=10 }] },p⟩):=by
    unfold runS ZS.note;simp [hc]
   rw [he]
   clear he hp
   unfold MRS
   obtain ⟨vl,al,gl,gC,gP,hl,hx,hpp,rfl,rfl⟩:=hz
   intro w hw
   have T0:=TG.refl hw
   have HT:=Lib.hid T0
   clear hw T0
   have HT:=Lib.hid (HT.out.sum (H':=[shutB kb L.fb pv vl al k,gl,e,gC,gP]))
   have HX:=Lib.hid hx
   have HL:=Lib.hid hl
   have HPP:=Lib.hid hpp
   clear hx hl hpp
   have hsh:=coreShut HX.out
   rw [hc] at hsh
   have HSH:=Lib.hid hsh
   clear hsh hc
   have k0:=HT.out.cell 0 0 rfl 0
   simp only [shutC,GE3] at k0
   have lt:=HT.out.lt 0 0 rfl
   simp only [] at lt
   go_enter Tryz.func181,Tryz.ntmps181
   go_wp2_with fail
   refine (DoesG.use (HSH.out) ((HT.out.alloc (k:=w.heap.size) rfl _ _).alloc (k:=w.heap.size+1) (by simp) _ _) [3] rfl rfl).mono ?_
   rintro e w1 ⟨gs,⟨rfl,g1,hx1,rfl⟩,Ta⟩
   simp only [PU] at Ta
   have HX:=Lib.hid hx1
   have b0:=Ta.cell 5 0 rfl 0
   clear hx1
   have HT:=Lib.hid Ta
   clear Ta
   simp only [GE2] at b0
   go_wp2_with fail
   refine (DoesG.use (shutNote HX.out { ev0 with kind:=10 } HLN.out) (HT.out) [0,3] rfl rfl).mono ?_
   rintro e w1 ⟨gs,⟨rfl,g3,hx3,rfl⟩,Ta⟩
   simp only [PU] at Ta
   have HX:=Lib.hid hx3
   have b0:=Ta.cell 5 0 rfl 0
   clear hx3 k0
   have HT:=Lib.hid Ta
   clear Ta
   simp only [GE2] at b0
   go_wp2_with fail
   refine (DoesG.use (until_g _ _ _ _ _ _) (HT.out) [] rfl rfl).mono ?_
   rintro e w1 ⟨gs,⟨rfl,rfl⟩,Ta⟩
   simp only [PU] at Ta
   have HT:=Lib.hid Ta
   clear Ta
   have r0:=HT.out.cell 6 0 rfl 0
   have fr0:=HT.out.free 6 0 rfl 0
   have r1:=HT.out.cell 6 0 rfl 1
   have fr1:=HT.out.free 6 0 rfl 1
   simp only [GE4] at r0 r1
   go_wp2
   exact bodyPost_ret (v:=.agg #[_,_]) (by simp [results,Tryz.results181,go_sem,r0,r1]) rfl ⟨_,⟨e++[cl w.heap.size 251 #[ptr' kb]],leE.app _ _,_,_,[],_,_,rfl,⟨[],[],⟨rfl,w.heap.size,rfl,by simp⟩,⟨rfl,w.heap.size,rfl,by simp⟩,rfl⟩,⟨vl,al,gl,_,gP,HL.out,HX.out,HPP.out,rfl,rfl⟩,rfl⟩,(((HT.out.set 6 0 rfl 0 _).set 6 0 rfl 1 _).pick [0,1,2,5,3,4] rfl).sum⟩
end
end
section
open Go.RowKit Go.Shelf
theorem cfg_field (a b c d e f:Value) (w:World):(Instr.field 30 (.agg #[a,b,c,d,e,f]) 1).run Tryz.prog w=.ok b w:=by kernel_rfl
section
variable {L:Lay} {x:CoreS} {p:PipeS} {e g gC gK gF:List Blk} {kb:Nat} {pv vl al:Value} {k:ShutS}
set_option maxRecDepth 100000 in
set_option maxHeartbeats 4000000 in
theorem sSlots (hx:isCore L x gC) (ix:Int) (h0:0≤ix∧ix≤65):DoesG Tryz.prog 224 #[ptr' kb,.int .i64 ix] [shutB kb L.fb pv vl al k,gC] fun en gs =>
 ∃ g' l,SRS L kb pv (slotsS ix ⟨k,x,p⟩) en g' l∧gs=[g',l,shutB kb L.fb pv vl al k,gC]:=by
 have hcf:=coreConfig hx
 simp only [Cfg.cells] at hcf
 by_cases hi:x.f.cfg.cap≤ix
 ·have he:slotsS ix ⟨k,x,p⟩=.thn (.row1 .pshut) .waits:=if_pos hi
  rw [he]
  have hrow:∀ (bk b bf bl bi:Nat),(cliS L kb pv).SV [cl bk 251 #[ptr' kb]] (.row1 .pshut) .nilFunc (.func (.func 188) #[] #[ptr' bf,ptr' bl,ptr' bi])
   ([cl bf 1 #[.func (.func 247) #[] #[ptr' bk]],cl bl 303 #[.slice (some ⟨b,0,none⟩) 1 1],cl bi 3 #[.int .i64 0],cl b 1 #[.func (.func 247) #[] #[ptr' bk]]]++[]) :=
   fun bk b bf bl bi=>⟨rfl,bf,bl,bi,b,0,_,_,_,rfl,⟨rfl,bk,rfl,by simp⟩,rfl,rfl⟩
  have hthen:∀ (bk b bf bl bi:Nat),_:=fun bk b bf bl bi=>Cli.prog_then_x (c:=(cliS L kb pv).on [cl bk 251 #[ptr' kb]]) (f:=MS.waits) (v:=.func (.func 249) #[ptr' kb] #[]) (gm:=[]) (cliS_vals L kb pv _) rfl (hrow bk b bf bl bi) ⟨rfl,rfl⟩
  have hfc:=fun w=>cfg_field (.int .i64 x.f.cfg.sh) (.int .i64 x.f.cfg.cap) (.int .i64 x.f.cfg.ring) (.int .i64 x.f.cfg.room) (.int .i64 x.f.cfg.wk) (.int .i64 x.f.cfg.cli) w
  intro w hw
  have T0:=TG.refl hw
  have HT:=Lib.hid T0
  clear hw T0
  have HTH:=Lib.hid hthen
  have HCF:=Lib.hid hcf
  have k0:=HT.out.cell 0 0 rfl 0
  simp only [shutC,GE3] at k0
  clear hrow hthen hcf hx he h0
  go_enter Tryz.func224,Tryz.ntmps224
  go_wp2
  have HT:=Lib.hid (((HT.out.alloc (k:=w.heap.size) rfl 251 #[ptr' kb]).alloc (k:=w.heap.size+1) (by simp) 3 #[.int .i64 ix]).alloc (k:=w.heap.size+1+1) (by simp) 148 #[.nilFunc,.nilFunc])
  clear k0
  generalize World.alloc (World.alloc (World.alloc w _) _) _=w1 at HT ⊢
  obtain ⟨ι,W,hW0,hend,hin⟩:∃ (ι:Type) (W:ι→World),(∃ i,World.drew w1=W i)∧(∀ i,∃ u:Unit,True∧TG [shutB kb L.fb pv vl al k,gC] w [shutB kb L.fb pv vl al k,gC,[cl w.heap.size 251 #[ptr' kb]],[cl (w.heap.size+1) 3 #[.int .i64 ix]],[cl (w.heap.size+1+1) 148 #[.nilFunc,.nilFunc]]] (W i))∧(∀ w',(∃ u:Unit,True∧TG [shutB kb L.fb pv vl al k,gC] w [shutB kb L.fb pv vl al k,gC,[cl w.heap.size 251 #[ptr' kb]],[cl (w.heap.size+1) 3 #[.int .i64 ix]],[cl (w.heap.size+1+1) 148 #[.nilFunc,.nilFunc]]] w')→∃ i,w'=W i):=⟨{w' // ∃ u:Unit,True∧TG [shutB kb L.fb pv vl al k,gC] w [shutB kb L.fb pv vl al k,gC,[cl w.heap.size 251 #[ptr' kb]],[cl (w.heap.size+1) 3 #[.int .i64 ix]],[cl (w.heap.size+1+1) 148 #[.nilFunc,.nilFunc]]] w'},Subtype.val,⟨⟨_,(),trivial,HT.out.drew⟩,rfl⟩,fun i=>i.2,fun w' h=>⟨⟨w',h⟩,rfl⟩⟩
  have hne:Nonempty ι:=hW0.elim fun i _=>⟨i⟩
  have k0:∀ i,(W i).cell? ⟨kb,0,none⟩=some (ptr' L.fb):=fun i=>by obtain ⟨_,_,T⟩:=hend i;exact T.cell 0 0 rfl 0
  have a0:∀ i,(W i).cell? ⟨w.heap.size,0,none⟩=some (ptr' kb):=fun i=>by obtain ⟨_,_,T⟩:=hend i;exact T.cell 2 0 rfl 0
  have b0:∀ i,(W i).cell? ⟨w.heap.size+1,0,none⟩=some (.int .i64 ix):=fun i=>by obtain ⟨_,_,T⟩:=hend i;exact T.cell 3 0 rfl 0
  have m1:∀ i,Calls Tryz.prog 218 #[ptr' L.fb] (W i) fun e w2=>e=.returned (.agg #[.int .i64 x.f.cfg.sh,.int .i64 x.f.cfg.cap,.int .i64 x.f.cfg.ring,.int .i64 x.f.cfg.room,.int .i64 x.f.cfg.wk,.int .i64 x.f.cfg.cli])∧∃ j,w2=W j:=fun i=>by
   obtain ⟨_,_,T⟩:=hend i
   refine (DoesG.use (HCF.out) T [1] rfl rfl).mono ?_
   rintro e w2 ⟨gs,⟨rfl,rfl⟩,T2⟩
   exact ⟨rfl,hin _ ⟨(),trivial,T2⟩⟩
  refine wp_region_cls W (by kernel_rfl) (by kernel_rfl) hW0 ?_
  repeat (go_big_quiet_step ((first | (go_at_call 218;with_reducible exact m1 _))))
  refine wpQuiet_nil ?_
  intro _ hw
  obtain ⟨iq,hw2⟩:=hw
  subst hw2
  obtain ⟨_,_,T⟩:=hend iq
  have HT:=Lib.hid T
  generalize W iq=w1 at HT ⊢
  clear T hend hin hW0 hne
  clear k0 a0 b0 m1
  go_wp2_with fail
  have lt1:=HT.out.lt 2 0 rfl
  have lt2:=HT.out.lt 4 0 rfl
  simp only [] at lt1 lt2
  have bb0:=HT.out.cell 2 0 rfl 0
  simp only [GE4] at bb0
  go_region_with (first
   | (go_at_call 164
      refine (DoesG.use (Cli.row_1 (b:=w1.heap.size) (o:=0) (D:=#[.func (.func 247) #[] #[ptr' w.heap.size]]) rfl 1 (.inl rfl)) (HT.out.drew.alloc (k:=w1.heap.size) (by simp) _ _) [5] rfl rfl).mono ?_
      rintro e w2 ⟨gs,⟨bf,bl,bi,rfl,rfl⟩,Ta⟩
      simp only [PU] at Ta
      have b0:=Ta.cell 2 0 rfl 0
      simp only [GE2] at b0
      have HT1:=Lib.hid (Ta.sum (H':=[[cl bf 1 #[.func (.func 247) #[] #[ptr' w.heap.size]],cl bl 303 #[.slice (some ⟨w1.heap.size,0,none⟩) 1 1],cl bi 3 #[.int .i64 0],cl w1.heap.size 1 #[.func (.func 247) #[] #[ptr' w.heap.size]]]++[],[],[cl w.heap.size 251 #[ptr' kb]],shutB kb L.fb pv vl al k,gC,[cl (w.heap.size+1+1) 148 #[.nilFunc,.nilFunc]],[cl (w.heap.size+1) 3 #[.int .i64 ix]]]))
      clear Ta)
   | (go_at_call 191
      refine (DoesG.use (HTH.out w.heap.size w1.heap.size bf bl bi) HT1.out [0,1] rfl rfl).mono ?_
      rintro e w3 ⟨gs,⟨bs,br,rfl,rfl⟩,Ta⟩
      simp only [PU] at Ta
      have e0:=Ta.cell 5 0 rfl 0
      have e1:=Ta.cell 5 0 rfl 1
      have f0:=Ta.free 5 0 rfl 0
      have f1:=Ta.free 5 0 rfl 1
      have HT2:=Lib.hid Ta
      clear Ta))
  all_goals
   go_wp2
   exact bodyPost_ret (v:=.agg #[_,_]) (by simp [results,Tryz.results224,go_sem,e0,e1]) rfl ⟨_,⟨_,[cl w.heap.size 251 #[ptr' kb]],⟨_,_,rfl,fun e he=>⟨bs,br,_,_,_,[],rfl,rfl,⟨rfl,bf,bl,bi,w1.heap.size,0,#[.func (.func 247) #[] #[ptr' w.heap.size]],_,[],rfl,⟨rfl,w.heap.size,rfl,he _ (by simp)⟩,rfl,rfl⟩,⟨rfl,rfl⟩,rfl⟩⟩,rfl⟩,(((HT2.out.set 5 0 rfl 0 _).set 5 0 rfl 1 _).pick [0,2,3,4] rfl).sum⟩
 ·have he:slotsS ix ⟨k,x,p⟩=.thn (looksS ix) (.slots2 ix):=if_neg hi
  rw [he]
  have hi2:ix<x.f.cfg.cap:=by omega
  have hfc:=fun w=>cfg_field (.int .i64 x.f.cfg.sh) (.int .i64 x.f.cfg.cap) (.int .i64 x.f.cfg.ring) (.int .i64 x.f.cfg.room) (.int .i64 x.f.cfg.wk) (.int .i64 x.f.cfg.cli) w
  intro w hw
  have T0:=TG.refl hw
  have HT:=Lib.hid T0
  clear hw T0
  have HCF:=Lib.hid hcf
  have k0:=HT.out.cell 0 0 rfl 0
  simp only [shutC,GE3] at k0
  clear hcf hx he h0
  go_enter Tryz.func224,Tryz.ntmps224
  go_wp2
  have HT:=Lib.hid (((HT.out.alloc (k:=w.heap.size) rfl 251 #[ptr' kb]).alloc (k:=w.heap.size+1) (by simp) 3 #[.int .i64 ix]).alloc (k:=w.heap.size+1+1) (by simp) 148 #[.nilFunc,.nilFunc])
  clear k0
  generalize World.alloc (World.alloc (World.alloc w _) _) _=w1 at HT ⊢
  obtain ⟨ι,W,hW0,hend,hin⟩:∃ (ι:Type) (W:ι→World),(∃ i,World.drew w1=W i)∧(∀ i,∃ u:Unit,True∧TG [shutB kb L.fb pv vl al k,gC] w [shutB kb L.fb pv vl al k,gC,[cl w.heap.size 251 #[ptr' kb]],[cl (w.heap.size+1) 3 #[.int .i64 ix]],[cl (w.heap.size+1+1) 148 #[.nilFunc,.nilFunc]]] (W i))∧(∀ w',(∃ u:Unit,True∧TG [shutB kb L.fb pv vl al k,gC] w [shutB kb L.fb pv vl al k,gC,[cl w.heap.size 251 #[ptr' kb]],[cl (w.heap.size+1) 3 #[.int .i64 ix]],[cl (w.heap.size+1+1) 148 #[.nilFunc,.nilFunc]]] w')→∃ i,w'=W i):=⟨{w' // ∃ u:Unit,True∧TG [shutB kb L.fb pv vl al k,gC] w [shutB kb L.fb pv vl al k,gC,[cl w.heap.size 251 #[ptr' kb]],[cl (w.heap.size+1) 3 #[.int .i64 ix]],[cl (w.heap.size+1+1) 148 #[.nilFunc,.nilFunc]]] w'},Subtype.val,⟨⟨_,(),trivial,HT.out.drew⟩,rfl⟩,fun i=>i.2,fun w' h=>⟨⟨w',h⟩,rfl⟩⟩
  have hne:Nonempty ι:=hW0.elim fun i _=>⟨i⟩
  have k0:∀ i,(W i).cell? ⟨kb,0,none⟩=some (ptr' L.fb):=fun i=>by obtain ⟨_,_,T⟩:=hend i;exact T.cell 0 0 rfl 0
  have a0:∀ i,(W i).cell? ⟨w.heap.size,0,none⟩=some (ptr' kb):=fun i=>by obtain ⟨_,_,T⟩:=hend i;exact T.cell 2 0 rfl 0
  have b0:∀ i,(W i).cell? ⟨w.heap.size+1,0,none⟩=some (.int .i64 ix):=fun i=>by obtain ⟨_,_,T⟩:=hend i;exact T.cell 3 0 rfl 0
  have m1:∀ i,Calls Tryz.prog 218 #[ptr' L.fb] (W i) fun e w2=>e=.returned (.agg #[.int .i64 x.f.cfg.sh,.int .i64 x.f.cfg.cap,.int .i64 x.f.cfg.ring,.int .i64 x.f.cfg.room,.int .i64 x.f.cfg.wk,.int .i64 x.f.cfg.cli])∧∃ j,w2=W j:=fun i=>by
   obtain ⟨_,_,T⟩:=hend i
   refine (DoesG.use (HCF.out) T [1] rfl rfl).mono ?_
   rintro e w2 ⟨gs,⟨rfl,rfl⟩,T2⟩
   exact ⟨rfl,hin _ ⟨(),trivial,T2⟩⟩
  refine wp_region_cls W (by kernel_rfl) (by kernel_rfl) hW0 ?_
  repeat (go_big_quiet_step ((first | (go_at_call 218;with_reducible exact m1 _))))
  refine wpQuiet_nil ?_
  intro _ hw
  obtain ⟨iq,hw2⟩:=hw
  subst hw2
  obtain ⟨_,_,T⟩:=hend iq
  have HT:=Lib.hid T
  generalize W iq=w1 at HT ⊢
  clear T hend hin hW0 hne
  clear k0 a0 b0 m1
  all_goals
   skip
   have a0:=HT.out.cell 2 0 rfl 0
   simp only [GE4] at a0
   have b0:=HT.out.cell 3 0 rfl 0
   simp only [GE4] at b0
   go_wp2_with fail
   refine (DoesG.use (sLooksS L kb pv ix) (HT.out) [] rfl rfl).mono ?_
   rintro e w1 ⟨gs,⟨g2,l2,⟨m2,d2,rfl,hs2⟩,rfl⟩,Ta⟩
   simp only [PU] at Ta
   have HS2:=Lib.hid hs2
   clear hs2 a0 b0
   have HT:=Lib.hid Ta
   clear Ta
   go_wp2_with fail
   refine (DoesG.use (Cli.prog_then_x (c:=(cliS L kb pv).on (l2++[cl w.heap.size 251 #[ptr' kb],cl (w.heap.size+1) 3 #[.int .i64 ix]])) (f:=MS.slots2 ix) (v:=.func (.func 251) #[] #[ptr' w.heap.size,ptr' (w.heap.size+1)]) (gm:=[]) (cliS_vals L kb pv _) rfl (HS2.out _ (fun b hb=>List.mem_append_left _ hb)) ⟨rfl,w.heap.size,w.heap.size+1,rfl,by simp,by simp⟩) (HT.out.sum (H':=[shutB kb L.fb pv vl al k,gC,[cl w.heap.size 251 #[ptr' kb]],[cl (w.heap.size+1) 3 #[.int .i64 ix]],[cl (w.heap.size+1+1) 148 #[.nilFunc,.nilFunc]],g2,l2,[]])) [5,7] rfl rfl).mono ?_
   rintro e w1 ⟨gs,⟨bs,br,rfl,rfl⟩,Ta⟩
   simp only [PU] at Ta
   have HT:=Lib.hid Ta
   clear Ta
   have r0:=HT.out.cell 4 0 rfl 0
   have fr0:=HT.out.free 4 0 rfl 0
   have r1:=HT.out.cell 4 0 rfl 1
   have fr1:=HT.out.free 4 0 rfl 1
   simp only [GE4] at r0 r1
   have hv2:=(cliS_vals L kb pv l2).vals (HS2.out l2 (leE.refl _))
   obtain ⟨st1,st2⟩:=Cli.store_fv2 (P:=Tryz.prog) hv2.1 (.inr ⟨_,_,_,rfl⟩:Cli.isFv (.func (.func 226) #[] #[ptr' bs,ptr' br])) r0 fr0 r1 fr1
   clear hv2
   go_wp2
   exact bodyPost_ret (v:=.agg #[_,_]) (by simp [results,Tryz.results224,go_sem,r0,r1]) rfl ⟨_,⟨_,l2++[cl w.heap.size 251 #[ptr' kb],cl (w.heap.size+1) 3 #[.int .i64 ix]],⟨_,_,rfl,fun e he=>⟨bs,br,d2,_,g2,[],rfl,rfl,HS2.out _ (fun b hb=>he _ (List.mem_append_left _ hb)),⟨rfl,w.heap.size,w.heap.size+1,rfl,he _ (by simp),he _ (by simp)⟩,rfl⟩⟩,rfl⟩,(((HT.out.set 4 0 rfl 0 _).set 4 0 rfl 1 _).pick [5,6,2,3,0,1] rfl).sum⟩
end
end
section
open Go.RowKit Go.Shelf
section
variable {L:Lay} {x:CoreS} {p:PipeS} {e gK gF:List Blk} {kb:Nat} {pv:Value} {k:ShutS}
set_option maxRecDepth 100000 in
theorem mSlots0 (hz:repS L kb pv e ⟨k,x,p⟩ gK gF) (hp:preS .slots0 ⟨k,x,p⟩) (bk:Nat) (hb:cl bk 251 #[ptr' kb]∈e):DoesG Tryz.prog 223 #[ptr' bk] [gK,gF] (MRS L kb pv e (runS .slots0 ⟨k,x,p⟩).1 (runS .slots0 ⟨k,x,p⟩).2):=by
 clear hp
 unfold MRS
 dsimp only [runS]
 obtain ⟨vl,al,gl,gC,gP,hl,hx,hpp,rfl,rfl⟩:=hz
 intro w hw
 have T0:=TG.refl hw
 have HT:=Lib.hid T0
 clear hw T0
 have HT:=Lib.hid (HT.out.sum (H':=[shutB kb L.fb pv vl al k,gl,e,gC,gP]))
 have HX:=Lib.hid hx
 have HL:=Lib.hid hl
 have HPP:=Lib.hid hpp
 clear hx hl hpp
 have ltb:=HT.out.mem_lt 2 hb
 simp only [] at ltb
 have b0:=HT.out.mem_cell 2 hb 0
 simp only [GE2] at b0
 have HSL:=Lib.hid (sSlots (p:=p) (kb:=kb) (pv:=pv) (vl:=vl) (al:=al) (k:=k) HX.out 0 (by decide))
 clear hb
 go_enter Tryz.func223,Tryz.ntmps223
 go_wp2_with fail
 refine (DoesG.use (HSL.out) (HT.out.alloc (k:=w.heap.size) rfl _ _) [0,3] rfl rfl).mono ?_
 rintro e w1 ⟨gs,⟨g2,l2,⟨m2,d2,rfl,hs2⟩,rfl⟩,Ta⟩
 simp only [PU] at Ta
 clear b0
 have HT:=Lib.hid Ta
 clear Ta
 have r0:=HT.out.cell 5 0 rfl 0
 have fr0:=HT.out.free 5 0 rfl 0
 have r1:=HT.out.cell 5 0 rfl 1
 have fr1:=HT.out.free 5 0 rfl 1
 simp only [GE4] at r0 r1
 have hv2:=(cliS_vals L kb pv l2).vals (hs2 l2 (leE.refl _))
 obtain ⟨st1,st2⟩:=Cli.store_fv2 (P:=Tryz.prog) hv2.1 hv2.2 r0 fr0 r1 fr1
 have HS:=Lib.hid hs2
 clear hv2 hs2
 go_wp2
 exact bodyPost_ret (v:=.agg #[_,_]) (by simp [results,Tryz.results223,go_sem,r0,r1]) rfl ⟨_,⟨e++l2,leE.app _ _,m2,d2,g2,_,_,rfl,HS.out _ (fun b hb=>List.mem_append_right _ hb),⟨vl,al,gl,gC,gP,HL.out,HX.out,HPP.out,rfl,rfl⟩,rfl⟩,(((HT.out.set 5 0 rfl 0 _).set 5 0 rfl 1 _).pick [0,6,1,2,7,3,4] rfl).sum⟩
set_option maxRecDepth 100000 in
theorem mSlots2 (i:Int) (hz:repS L kb pv e ⟨k,x,p⟩ gK gF) (hp:preS (.slots2 i) ⟨k,x,p⟩) (bk bi:Nat) (hb:cl bk 251 #[ptr' kb]∈e) (hbi:cl bi 3 #[.int .i64 i]∈e):DoesG Tryz.prog 251 #[ptr' bk,ptr' bi] [gK,gF] (MRS L kb pv e (runS (.slots2 i) ⟨k,x,p⟩).1 (runS (.slots2 i) ⟨k,x,p⟩).2):=by
 obtain ⟨_,hi0,hi1⟩:=hp
 unfold MRS
 dsimp only [runS]
 obtain ⟨vl,al,gl,gC,gP,hl,hx,hpp,rfl,rfl⟩:=hz
 intro w hw
 have T0:=TG.refl hw
 have HT:=Lib.hid T0
 clear hw T0
 have HT:=Lib.hid (HT.out.sum (H':=[shutB kb L.fb pv vl al k,gl,e,gC,gP]))
 have HX:=Lib.hid hx
 have HL:=Lib.hid hl
 have HPP:=Lib.hid hpp
 clear hx hl hpp
 have ltb:=HT.out.mem_lt 2 hb
 have lti:=HT.out.mem_lt 2 hbi
 simp only [] at ltb lti
 have b0:=HT.out.mem_cell 2 hb 0
 have i0:=HT.out.mem_cell 2 hbi 0
 simp only [GE2] at b0 i0
 have HSL:=Lib.hid (sSlots (p:=p) (kb:=kb) (pv:=pv) (vl:=vl) (al:=al) (k:=k) HX.out (i+1) (by omega))
 clear hb hbi
 go_enter Tryz.func251,Tryz.ntmps251
 go_wp2_with fail
 refine (DoesG.use (HSL.out) (HT.out.alloc (k:=w.heap.size) rfl _ _) [0,3] rfl rfl).mono ?_
 rintro e w1 ⟨gs,⟨g2,l2,⟨m2,d2,rfl,hs2⟩,rfl⟩,Ta⟩
 simp only [PU] at Ta
 clear b0 i0
 have HT:=Lib.hid Ta
 clear Ta
 have r0:=HT.out.cell 5 0 rfl 0
 have fr0:=HT.out.free 5 0 rfl 0
 have r1:=HT.out.cell 5 0 rfl 1
 have fr1:=HT.out.free 5 0 rfl 1
 simp only [GE4] at r0 r1
 have hv2:=(cliS_vals L kb pv l2).vals (hs2 l2 (leE.refl _))
 obtain ⟨st1,st2⟩:=Cli.store_fv2 (P:=Tryz.prog) hv2.1 hv2.2 r0 fr0 r1 fr1
 have HS:=Lib.hid hs2
 clear hv2 hs2
 go_wp2
 exact bodyPost_ret (v:=.agg #[_,_]) (by simp [results,Tryz.results251,go_sem,r0,r1]) rfl ⟨_,⟨e++l2,leE.app _ _,m2,d2,g2,_,_,rfl,HS.out _ (fun b hb=>List.mem_append_right _ hb),⟨vl,al,gl,gC,gP,HL.out,HX.out,HPP.out,rfl,rfl⟩,rfl⟩,(((HT.out.set 5 0 rfl 0 _).set 5 0 rfl 1 _).pick [0,6,1,2,7,3,4] rfl).sum⟩
set_option maxRecDepth 100000 in
theorem mWaits (hz:repS L kb pv e ⟨k,x,p⟩ gK gF):DoesG Tryz.prog 249 #[ptr' kb] [gK,gF] (MRS L kb pv e (runS .waits ⟨k,x,p⟩).1 (runS .waits ⟨k,x,p⟩).2):=by
 unfold MRS
 dsimp only [runS]
 obtain ⟨vl,al,gl,gC,gP,hl,hx,hpp,rfl,rfl⟩:=hz
 intro w hw
 have T0:=TG.refl hw
 have HT:=Lib.hid T0
 clear hw T0
 have HT:=Lib.hid (HT.out.sum (H':=[shutB kb L.fb pv vl al k,gl,e,gC,gP]))
 have HX:=Lib.hid hx
 have HL:=Lib.hid hl
 have HPP:=Lib.hid hpp
 clear hx hl hpp
 go_enter Tryz.func249,Tryz.ntmps249
 go_wp2_with fail
 refine (DoesG.use (until_g _ _ _ _ _ _) ((HT.out.alloc (k:=w.heap.size) rfl _ _).alloc (k:=w.heap.size+1) (by simp) _ _) [] rfl rfl).mono ?_
 rintro e w1 ⟨gs,⟨rfl,rfl⟩,Ta⟩
 simp only [PU] at Ta
 have HT:=Lib.hid Ta
 clear Ta
 have r0:=HT.out.cell 6 0 rfl 0
 have fr0:=HT.out.free 6 0 rfl 0
 have r1:=HT.out.cell 6 0 rfl 1
 have fr1:=HT.out.free 6 0 rfl 1
 simp only [GE4] at r0 r1
 go_wp2
 exact bodyPost_ret (v:=.agg #[_,_]) (by simp [results,Tryz.results249,go_sem,r0,r1]) rfl ⟨_,⟨e++[cl w.heap.size 251 #[ptr' kb]],leE.app _ _,_,_,[],_,_,rfl,⟨[],[],⟨rfl,w.heap.size,rfl,by simp⟩,⟨rfl,w.heap.size,rfl,by simp⟩,rfl⟩,⟨vl,al,gl,_,gP,HL.out,HX.out,HPP.out,rfl,rfl⟩,rfl⟩,(((HT.out.set 6 0 rfl 0 _).set 6 0 rfl 1 _).pick [0,1,2,5,3,4] rfl).sum⟩
set_option maxRecDepth 100000 in
theorem mWaits2 (hz:repS L kb pv e ⟨k,x,p⟩ gK gF) (hp:preS .waits2 ⟨k,x,p⟩) (bk:Nat) (hb:cl bk 251 #[ptr' kb]∈e):DoesG Tryz.prog 275 #[ptr' bk] [gK,gF] (MRS L kb pv e (runS .waits2 ⟨k,x,p⟩).1 (runS .waits2 ⟨k,x,p⟩).2):=by
 have HLN:=Lib.hid hp.1.core.tr
 simp only at HLN
 clear hp
 unfold MRS
 dsimp only [runS,ZS.note]
 obtain ⟨vl,al,gl,gC,gP,hl,hx,hpp,rfl,rfl⟩:=hz
 intro w hw
 have T0:=TG.refl hw
 have HT:=Lib.hid T0
 clear hw T0
 have HT:=Lib.hid (HT.out.sum (H':=[shutB kb L.fb pv vl al k,gl,e,gC,gP]))
 have HX:=Lib.hid hx
 have HL:=Lib.hid hl
 have HPP:=Lib.hid hpp
 clear hx hl hpp
 have ltb:=HT.out.mem_lt 2 hb
 simp only [] at ltb
 have b0:=HT.out.mem_cell 2 hb 0
 simp only [GE2] at b0
 have HB:=Lib.hid hb
 clear hb
 obtain ⟨av,cap,hvl⟩:=rowG.val HL.out.1
 subst hvl
 go_enter Tryz.func275,Tryz.ntmps275
 go_wp2_with fail
 refine (DoesG.use (shutNote HX.out { ev0 with kind:=13 } HLN.out) (HT.out.alloc (k:=w.heap.size) rfl _ _) [0,3] rfl rfl).mono ?_
 rintro e w1 ⟨gs,⟨rfl,g3,hx3,rfl⟩,Ta⟩
 simp only [PU] at Ta
 have HX:=Lib.hid hx3
 clear hx3 b0
 have HT:=Lib.hid Ta
 clear Ta
 have b0:=HT.out.mem_cell 2 HB.out 0
 simp only [GE2] at b0
 have k3:=HT.out.cell 0 0 rfl 3
 have fk3:=HT.out.free 0 0 rfl 3
 have k4:=HT.out.cell 0 0 rfl 4
 have fk4:=HT.out.free 0 0 rfl 4
 have k5:=HT.out.cell 0 0 rfl 5
 have fk5:=HT.out.free 0 0 rfl 5
 have k6:=HT.out.cell 0 0 rfl 6
 have fk6:=HT.out.free 0 0 rfl 6
 have k7:=HT.out.cell 0 0 rfl 7
 have fk7:=HT.out.free 0 0 rfl 7
 have k9:=HT.out.cell 0 0 rfl 9
 simp only [shutC,GE3] at k3 k4 k5 k6 k7 k9
 go_wp2
 go_region
 go_wp2_with fail
 refine (DoesG.use (sEndsS L kb pv) (((((((HT.out.set 0 0 rfl 3 (.int .i64 0)).set 0 0 rfl 4 (.bool true)).set 0 0 rfl 5 (.int .u64 0)).set 0 0 rfl 6 (.int .u64 0)).set 0 0 rfl 7 (.slice av k.left.length cap)).eq (H':=[shutB kb L.fb pv (.slice av k.left.length cap) (.slice av k.left.length cap) { k with err:=0,ok:=true,aset:=true },gl,e,g3,gP,[cl w.heap.size 148 #[.nilFunc,.nilFunc]]]) rfl).drew) [] rfl rfl).mono ?_
 rintro e w1 ⟨gs,⟨g2,l2,⟨m2,d2,rfl,hs2⟩,rfl⟩,Ta⟩
 simp only [PU] at Ta
 clear b0 k3 fk3 k4 fk4 k5 fk5 k6 fk6 k7 fk7 k9
 have HT:=Lib.hid Ta
 clear Ta
 have r0:=HT.out.cell 5 0 rfl 0
 have fr0:=HT.out.free 5 0 rfl 0
 have r1:=HT.out.cell 5 0 rfl 1
 have fr1:=HT.out.free 5 0 rfl 1
 simp only [GE4] at r0 r1
 have hv2:=(cliS_vals L kb pv l2).vals (hs2 l2 (leE.refl _))
 obtain ⟨st1,st2⟩:=Cli.store_fv2 (P:=Tryz.prog) hv2.1 hv2.2 r0 fr0 r1 fr1
 have HS:=Lib.hid hs2
 clear hv2 hs2
 go_wp2
 exact bodyPost_ret (v:=.agg #[_,_]) (by simp [results,Tryz.results275,go_sem,r0,r1]) rfl ⟨_,⟨e++l2,leE.app _ _,m2,d2,g2,_,_,rfl,HS.out _ (fun b hb=>List.mem_append_right _ hb),⟨.slice av k.left.length cap,.slice av k.left.length cap,gl,g3,gP,⟨HL.out.1,rfl⟩,HX.out,HPP.out,rfl,rfl⟩,rfl⟩,(((HT.out.set 5 0 rfl 0 _).set 5 0 rfl 1 _).pick [6,0,1,2,7,3,4] rfl).sum⟩
end
end
end Go.Proofs.YtblhfbcodbjgcaaGreat
