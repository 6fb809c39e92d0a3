import Derived.Test.YtcneeepdclgdcaaGreatSE33
import Derived.Test.YtcneeepdclgdcaaGreatSE25
set_option maxRecDepth 100000
set_option maxHeartbeats 4000000
namespace Go.Proofs.YtcneeepdclgdcaaGreat
open Go.Ending renaming returned->U1
open _root_.List renaming perm_iff_count->U2,getD_eq_getElem?_getD->U5,getElem?_eq_some_iff->U6,count_append->U7,getElem?_eq_getElem->U8,append_nil->U9,flatten_cons->UA,flatten_nil->UB,length_append->UC,mem_of_getElem?->UD,flatten_append->UE,getElem?_set->UF,append_assoc->UH,length_cons->UI,getElem?_append_right->UJ,getElem?_append_left->UK,take_succ_eq_append_getElem->UL,length_set->UM,mem_cons_of_mem->US,getElem?_map->UU,mem_cons->UY
open Go.IntKind renaming i64->U3
open Go.Value renaming int->U4,iface->UZ
open _root_.Int renaming le_refl->UG,emod_nonneg->UN
open Go renaming FuncId->UO
open _root_.Option.some renaming injEq->UQ
open _root_.List.Perm renaming refl->UR
open _root_.Nat renaming zero_add->UT,le_refl->UW
open Go.Oper renaming semAt_some->UX
set_option linter.all false
open Go.Proofs.Tryz
section
open Go.RowKit Go.Shelf
theorem St.keep {M A Y α:Type} {runM:M->α->St M A Y × α} {bN:A->α->α} {R:α->α->Prop} (hr:∀ z,R z z) (ht:∀ x y z,R x y->R y z->R x z) (hm:∀ m z,R z (runM m z).2) (ha:∀ a z,R z (bN a z)) :
 ∀ (s:St M A Y) (z:α),R z (St.run runM bN s z).2
 | .nil,z=>hr z
 | .at _ m,z=>hm m z
 | .aj a,z=>ha a z
 | .aO a _,z=>ha a z
 | .thn s m,z=>by
   have h1:=St.keep (Y:=Y) hr ht hm ha s z
   show R z (Qe runM (s.run runM bN z).1 m (s.run runM bN z).2).2
   unfold Qe;split
   ·exact ht _ _ _ h1 (hm m _)
   ·exact h1
structure kQ (z z':ZT):Prop where
 cfg:z'.x.f.cfg=z.x.f.cfg
 busy:z'.x.f.busy=z.x.f.busy
 closed:z'.x.f.closed=z.x.f.closed
 len:z'.x.au.length=z.x.au.length
 room:z'.p.room=z.p.room
 shut:z'.p.shut=z.p.shut
 th:z'.k.th=z.k.th
theorem kQ.refl (z:ZT):kQ z z:=⟨rfl,rfl,rfl,rfl,rfl,rfl,rfl⟩
theorem kQ.trans {x y z:ZT} (a:kQ x y) (b:kQ y z):kQ x z :=
 ⟨b.cfg.trans a.cfg,b.busy.trans a.busy,b.closed.trans a.closed,b.len.trans a.len,b.room.trans a.room,b.shut.trans a.shut,b.th.trans a.th⟩
theorem Rp (p:Q2) (f:Xj):(p.put f).1.room=p.room/\(p.put f).1.shut=p.shut:=by
 unfold Q2.put;split
 ·exact ⟨rfl,rfl⟩
 ·split <;> exact ⟨rfl,rfl⟩
theorem Fv (z:ZT) (s:Qu):kQ z (z.dh s):=⟨rfl,rfl,rfl,UM,rfl,rfl,rfl⟩
theorem O9 (i:Nat) (z:ZT):kQ z (Xa i z).2:=by
 unfold Xa;split <;> exact ⟨rfl,rfl,rfl,rfl,rfl,rfl,rfl⟩
theorem OL (d i:Nat) (z:ZT):kQ z (Qo d i z).2:=by
 unfold Qo;split <;> exact ⟨rfl,rfl,rfl,rfl,rfl,rfl,rfl⟩
theorem qu2 (a:AT) (z:ZT):kQ z (Q6 a z):=by
 cases a with
 | unlock=>exact Fv z _
 | put f=>exact ⟨rfl,rfl,rfl,rfl,(Rp z.p f).1,(Rp z.p f).2,rfl⟩
 | _=>exact ⟨rfl,rfl,rfl,rfl,rfl,rfl,rfl⟩
theorem qs6 (m:MT) (z:ZT):kQ z (runT m z).2:=by
 have hr:kQ z z:=kQ.refl z;cases m with
 | enter=>exact ⟨rfl,rfl,rfl,rfl,rfl,rfl,rfl⟩
 | gate =>
   show kQ z (if z.x.f.closed=true then Ys 3 z else (.at none .tick,z)).2
   split
   ·exact ⟨rfl,rfl,rfl,rfl,rfl,rfl,rfl⟩
   ·exact hr
 | tick=>exact kQ.trans (y:=({ z with x:={ z.x with f:={ z.x.f with now:=z.x.f.now+1 } },k:={ z.k with now:=z.x.f.now+1 } }:ZT).note { bL with kind:=11,tick:=z.x.f.now+1 }) ⟨rfl,rfl,rfl,rfl,rfl,rfl,rfl⟩ (O9 0 _)
 | ae i=>exact O9 _ z
 | dH d=>exact Fv z _
 | bX d =>
   dsimp only [runT]
   split
   ·exact hr
   ·exact hr
 | ai d=>exact hr
 | aL d =>
   dsimp only [runT]
   split
   ·exact hr
   ·exact OL d 0 z
 | ay=>exact hr
 | bI n =>
   dsimp only [runT]
   split
   ·exact kQ.trans (Fv z _) ⟨rfl,rfl,rfl,rfl,rfl,rfl,rfl⟩
   ·exact kQ.trans (Fv z _) ⟨rfl,rfl,rfl,rfl,rfl,rfl,rfl⟩
 | ax n=>exact hr
 | bA =>
   dsimp only [runT]
   split <;> exact ⟨rfl,rfl,rfl,rfl,rfl,rfl,rfl⟩
 | aI =>
   dsimp only [runT]
   split <;> exact ⟨rfl,rfl,rfl,rfl,rfl,rfl,rfl⟩
 | aF d i=>exact OL d _ z
 | looks =>
   dsimp only [runT]
   split <;> exact ⟨rfl,rfl,rfl,rfl,rfl,rfl,rfl⟩
 | bE =>
   dsimp only [runT]
   split <;> exact ⟨rfl,rfl,rfl,rfl,rfl,rfl,rfl⟩
 | bD=>exact hr
 | behind =>
   dsimp only [runT]
   split
   ·exact ⟨rfl,rfl,rfl,rfl,rfl,rfl,rfl⟩
   ·split <;> exact ⟨rfl,rfl,rfl,rfl,rfl,rfl,rfl⟩
 | aY next =>
   dsimp only [runT]
   split <;> exact ⟨rfl,rfl,rfl,rfl,rfl,rfl,rfl⟩
 | aQ =>
   dsimp only [runT]
   split
   ·split <;> exact ⟨rfl,rfl,rfl,rfl,rfl,rfl,rfl⟩
   ·exact ⟨rfl,rfl,rfl,rfl,rfl,rfl,rfl⟩
theorem Sf (s:ST) (z:ZT):kQ z (Qy s z).2:=St.keep kQ.refl (fun _ _ _=>kQ.trans) qs6 qu2 s z
structure yZ (z z':ZS):Prop where
 cfg:z'.x.f.cfg=z.x.f.cfg
 busy:z'.x.f.busy=z.x.f.busy
 now:z'.x.f.now=z.x.f.now
 au:z'.x.au=z.x.au
 p:{ z'.p with shut:=z.p.shut }=z.p
theorem yZ.trans {x y z:ZS} (a:yZ x y) (b:yZ y z):yZ x z :=
 ⟨b.cfg.trans a.cfg,b.busy.trans a.busy,b.now.trans a.now,b.au.trans a.au,by
   have h1:=a.p;have h2:=b.p
   rw [<- h1,<- h2]⟩
theorem FX (s:SS) (z:ZS):yZ z (stepS s z).2:=by
 refine St.keep (R:=yZ) (runM:=Xy) (bN:=Yc) (fun z=>⟨rfl,rfl,rfl,rfl,rfl⟩) (fun _ _ _=>yZ.trans) (fun m z=>?_) (fun a z=>?_) s z
 ·cases m with
  | shuts=>dsimp only [Xy];split <;> exact ⟨rfl,rfl,rfl,rfl,rfl⟩
  | bO=>exact ⟨rfl,rfl,rfl,rfl,rfl⟩
  | aA i=>exact ⟨rfl,rfl,rfl,rfl,rfl⟩
  | waits=>exact ⟨rfl,rfl,rfl,rfl,rfl⟩
  | bH i=>dsimp only [Xy];split <;> exact ⟨rfl,rfl,rfl,rfl,rfl⟩
  | aC i=>dsimp only [Xy];split <;> exact ⟨rfl,rfl,rfl,rfl,rfl⟩
  | cO=>exact ⟨rfl,rfl,rfl,rfl,rfl⟩
 ·cases a <;> exact ⟨rfl,rfl,rfl,rfl,rfl⟩
inductive Wk where
 | call (s:SC) (k:Qv)
 | turn (s:ST) (k:Xi)
 | dM (s:SS) (k:Yw)
def Wk.done:Wk->Bool
 | .call s _=>s.isNil
 | .turn s _=>s.isNil
 | .dM s _=>s.isNil
def Wk.may:Wk->ZF->Bool
 | .call s _,_=>!s.isNil
 | .turn s k,z=>mM s ⟨k,z.x,z.ws,z.p⟩
 | .dM s k,z=>sQ s ⟨k,z.x,z.p⟩
def Wk.step:Wk->ZF->Wk × ZF
 | .call s k,z=>(.call (J5 s (k,z.x)).1 (J5 s (k,z.x)).2.1,{ z with x:=(J5 s (k,z.x)).2.2 })
 | .turn s k,z=>(.turn (Qy s ⟨k,z.x,z.ws,z.p⟩).1 (Qy s ⟨k,z.x,z.ws,z.p⟩).2.k,{ z with x:=(Qy s ⟨k,z.x,z.ws,z.p⟩).2.x,ws:=(Qy s ⟨k,z.x,z.ws,z.p⟩).2.ws,p:=(Qy s ⟨k,z.x,z.ws,z.p⟩).2.p })
 | .dM s k,z=>(.dM (stepS s ⟨k,z.x,z.p⟩).1 (stepS s ⟨k,z.x,z.p⟩).2.k,{ z with x:=(stepS s ⟨k,z.x,z.p⟩).2.x,p:=(stepS s ⟨k,z.x,z.p⟩).2.p })
structure lY (N:Nat) (z:ZF):Prop where
 zn:ZN N z
 ws:I7 z.ws
 iT:z.x.au.length<=4
 room:z.p.room<=1000
theorem lY.mono {N M:Nat} {z:ZF} (h:lY N z) (hm:N<=M):lY M z:=⟨h.zn.mono hm,h.ws,h.iT,h.room⟩
structure Gp (N:Nat) (s:SS) (k:Yw):Prop where
 aB:0<=k.aB/\k.aB<18446744073709551616/\okW k.aB=true
 left:k.left.length<=N
 fit:xk s k
structure q8x (N:Nat) (s:SC) (k:Qv) (x:Qi):Prop where
 wk:Zn N k x
 fit:tN s k
 gen:jf k
structure Hd (N:Nat) (s:ST) (k:Xi) (x:Qi):Prop where
 wk:zB N k x
 fit:qT s k x
 th:k.th<=1000000
def oL (N:Nat):Wk->Qi->Prop
 | .call s k,x=>q8x N s k x
 | .turn s k,x=>Hd N s k x
 | .dM s k,_=>Gp N s k
theorem oL.mono {N M:Nat} {w:Wk} {x:Qi} (h:oL N w x) (hm:N<=M):oL M w x:=by
 cases w with
 | call s k=>exact ⟨Zn.mono h.wk hm,h.fit,h.gen⟩
 | turn s k=>exact ⟨zB.mono h.wk hm,h.fit,h.th⟩
 | dM s k=>exact ⟨h.aB,by have:=h.left;omega,h.fit⟩
structure Gi (x x':Qi):Prop where
 recs:x'.aa.recs.length=x.aa.recs.length
 len:x'.au.length=x.au.length
def vZ (x x':Qi):Prop:=∀ j,(x'.au.getD j (Qr 1)).who=(x.au.getD j (Qr 1)).who
theorem qsh {x x':Qi} (hw:vZ x x') (s:ST) (k:Xi) (i:Nat):kG s k x' i=kG s k x i:=by
 have ho:Own k x'=Own k x:=by unfold Own;rw [hw]
 unfold kG;rw [ho]
theorem qsg {x x':Qi} {s:ST} {k:Xi} (h:qT s k x) (hth:k.th<=1000000) (hl:x'.au.length=x.au.length) (hw:vZ x x'):qT s k x':=by
 match s,h with
 | .nil,_=>trivial
 | .at none .enter,h=>exact .inr hth
 | .at none .gate,h=>exact .inr hth
 | .at none .tick,h=>exact h
 | .aO .leave1 .answer,_=>trivial
 | .aj .answer,_=>trivial
 | .thn X (.ae i),h =>
   obtain ⟨a,b,c,d⟩:=h;exact ⟨a,by rw [hl];exact b,c,by rw [qsh hw];exact d⟩
def Wk.isTurn:Wk->Bool
 | .turn _ _=>true
 | _=>false
theorem oL.frame {N:Nat} {w:Wk} {x x':Qi} (h:oL N w x) (hk:Gi x x') (hw:w.isTurn=true->vZ x x'\/w.done=true):oL N w x':=by
 cases w with
 | call s k =>
   have hwk:=h.wk;exact ⟨⟨hwk.c0,hwk.c1,hwk.id,hwk.slot,hwk.aB,fun q hq=>by rw [hk.recs];exact hwk.rq q hq,fun i t ht=>by rw [hk.len];exact hwk.tk i t ht⟩,h.fit,h.gen⟩
 | turn s k =>
   have hwk:=h.wk;refine ⟨⟨hwk.th,hwk.aB,hwk.t,hwk.dl,hwk.due,fun i hi=>by rw [hk.len];exact hwk.sh i hi⟩,?_,h.th⟩
   rcases hw rfl with hw | hd
   ·exact qsg h.fit h.th hk.len hw
   ·have:s.isNil=true:=hd
    cases s with
    | nil=>trivial
    | _=>cases this
 | dM s k=>exact h
theorem K4 {N:Nat} {w:Wk} {z:ZF} (hg:lY N z) (hj:oL N w z.x) (hm:w.may z=true) (hN:N<999999) :
 lY (N+1) (w.step z).2/\oL (N+1) (w.step z).1 (w.step z).2.x/\Gi z.x (w.step z).2.x/\(w.isTurn=false->vZ z.x (w.step z).2.x)/\(w.step z).2.lg=z.lg:=by
 cases w with
 | call s k =>
   have hjc:JC N s (k,z.x):=⟨hg.zn.core,hj.wk,hj.fit⟩;obtain ⟨h1,h2,h3⟩:=hjc.step;obtain ⟨h4,h5⟩:=Rs hjc hj.gen;exact ⟨⟨⟨h1,h4.rest (hg.zn.rest.mono (by omega)),by have:=hg.zn.lg;show z.lg.length<=_;omega⟩,hg.ws,by show (J5 s (k,z.x)).2.2.au.length<=4;rw [h4.len];exact hg.iT,hg.room⟩,⟨h2,h3,h5⟩,⟨h4.recs,h4.len⟩,fun _=>h4.who,rfl⟩
 | turn s k =>
   have hjt:JT N s ⟨k,z.x,z.ws,z.p⟩:=⟨⟨hg.zn.core,hg.zn.rest,hj.wk,hg.ws,hg.iT⟩,hj.fit⟩;obtain ⟨h1,h2⟩:=hjt.step hN hm;have h4:=Sf s ⟨k,z.x,z.ws,z.p⟩;refine ⟨⟨⟨h1.core,h1.rest,by have:=hg.zn.lg;show z.lg.length<=_;omega⟩,h1.ws,h1.iT,by show (Qy s ⟨k,z.x,z.ws,z.p⟩).2.p.room<=1000;rw [h4.room];exact hg.room⟩,⟨h1.k,h2,by show (Qy s ⟨k,z.x,z.ws,z.p⟩).2.k.th<=_;rw [h4.th];exact hj.th⟩,⟨?_,h4.len⟩,(fun h=>by cases h),rfl⟩
   have a:=h1.rest.cap;have b:=hg.zn.rest.cap;rw [h4.cfg] at a
   show (Qy s ⟨k,z.x,z.ws,z.p⟩).2.x.aa.recs.length=_
   have:(z.x.f.cfg.cap:Int)=(Qy s ⟨k,z.x,z.ws,z.p⟩).2.x.aa.recs.length:=a;omega
 | dM s k =>
   have hjs:JS N s ⟨k,z.x,z.p⟩:=⟨⟨hg.zn.core,hg.zn.rest.cap,hg.zn.rest.busy,hj.aB,hj.left⟩,hj.fit⟩;obtain ⟨h1,h2⟩:=hjs.step;have h4:=FX s ⟨k,z.x,z.p⟩;have hr:=hg.zn.rest
   have hp:(stepS s ⟨k,z.x,z.p⟩).2.p.ch=z.p.ch/\(stepS s ⟨k,z.x,z.p⟩).2.p.sp=z.p.sp/\(stepS s ⟨k,z.x,z.p⟩).2.p.room=z.p.room:=by
    have e1:=congrArg Q2.ch h4.p;have e2:=congrArg Q2.sp h4.p;have e3:=congrArg Q2.room h4.p;exact ⟨e1,e2,e3⟩
   have hsh:(stepS s ⟨k,z.x,z.p⟩).2.x.au=z.x.au:=h4.au;have vJ:(stepS s ⟨k,z.x,z.p⟩).2.x.f.now=z.x.f.now:=h4.now;have hcap:(stepS s ⟨k,z.x,z.p⟩).2.x.f.cfg=z.x.f.cfg:=h4.cfg;refine ⟨⟨⟨h1.core,⟨?_,h1.busy,h1.cap,?_,fun w hw=>(hr.kK w hw).mono (by omega),?_,?_,?_,?_⟩,by have:=hg.zn.lg;show z.lg.length<=_;omega⟩,hg.ws,?_,?_⟩,⟨h1.aB,h1.left,h2⟩,⟨?_,?_⟩,fun _=>?_,rfl⟩
   ·show 0<=(stepS s ⟨k,z.x,z.p⟩).2.x.f.now/\(stepS s ⟨k,z.x,z.p⟩).2.x.f.now<=_
    have:=hr.now;rw [vJ];omega
   ·show z.ws.length=(stepS s ⟨k,z.x,z.p⟩).2.x.au.length
    rw [hsh];exact hr.wl
   ·show ∀ a∈(stepS s ⟨k,z.x,z.p⟩).2.x.au,_
    rw [hsh];exact hr.task
   ·show ∀ a∈(stepS s ⟨k,z.x,z.p⟩).2.x.au,_
    rw [hsh];intro a ha;have:=hr.turns a ha;omega
   ·show (stepS s ⟨k,z.x,z.p⟩).2.p.ch.length<=(stepS s ⟨k,z.x,z.p⟩).2.p.room
    rw [hp.1,hp.2.2];exact hr.ch
   ·show (stepS s ⟨k,z.x,z.p⟩).2.p.sp.length<=_
    have:=hr.sp;rw [hp.2.1];omega
   ·show (stepS s ⟨k,z.x,z.p⟩).2.x.au.length<=4
    rw [hsh];exact hg.iT
   ·show (stepS s ⟨k,z.x,z.p⟩).2.p.room<=1000
    rw [hp.2.2];exact hg.room
   ·have a:=h1.cap
    have b:=hr.cap
    show (stepS s ⟨k,z.x,z.p⟩).2.x.aa.recs.length=_
    have a':(stepS s ⟨k,z.x,z.p⟩).2.x.f.cfg.cap=(stepS s ⟨k,z.x,z.p⟩).2.x.aa.recs.length:=a;rw [hcap] at a';omega
   ·show (stepS s ⟨k,z.x,z.p⟩).2.x.au.length=_
    rw [hsh]
   ·intro j
    show ((stepS s ⟨k,z.x,z.p⟩).2.x.au.getD j _).who=_
    rw [hsh]
def uT:SC->Qv->Int
 | .nil,_=>0
 | .at none .right,_=>0
 | .at none .enter,_=>0
 | .aj .aS,_=>0
 | _,k=>if k.kind<=3 then 1 else 0
def vR:SC->Qv->Prop
 | .nil,k=>True
 | .at none .right,k=>k.kind=1\/k.kind=2
 | .at none .enter,k=>1<=k.kind/\k.kind<=3
 | .at none .gate,k=>1<=k.kind/\k.kind<=5
 | .at none .looks,k=>3<=k.kind/\k.kind<=5
 | .at none .asks,k=>k.kind=1\/k.kind=2
 | .at none .aX,k=>1<=k.kind/\k.kind<=3
 | .at none .bU,k=>k.kind=1\/k.kind=2
 | .at none .fills,k=>1<=k.kind/\k.kind<=3
 | .at none .again,k=>k.kind=3
 | .at none .tries,k=>3<=k.kind/\k.kind<=5
 | .aj .aS,k=>True
 | .thn (.aj .bJ) .ends,k=>1<=k.kind/\k.kind<=3
 | .thn (.aO .eB .drop) .leaves,k=>k.kind=1\/k.kind=2
 | .thn (.aj .drop) .leaves,k=>k.kind=1\/k.kind=2
 | .thn (.aj .bC) .leaves,k=>k.kind=3
 | .thn (.aO .bK .drop) .ends,k=>k.kind=4
 | .thn (.aj .drop) .ends,k=>k.kind=4
 | _,_=>False
def lX (k:Qv):Prop:=∀ i t,k.tk=some (i,t)->¬ (t.status=2/\t.filled=false)
def pX (k:Qv):Prop:=∃ i t,k.tk=some (i,t)/\t.status=2/\t.filled=false
def xC:SC->Qv->Prop
 | .at none .aX,k=>∃ i t,k.tk=some (i,t)/\t.status=0/\t.filled=false
 | .at none .bU,k=>pX k
 | .at none .fills,k=>pX k
 | .at none .again,k=>pX k
 | .at none .tries,k=>if k.kind=3 then pX k else lX k
 | .thn (.aj .bC) .leaves,k=>pX k
 | _,k=>lX k
inductive wI (f:Prop) (k k':Qv) (x x':Qi):Prop where
 | none (h1:x'.au=x.au) (h2:k'.tk=k.tk):wI f k k' x x'
 | new (h1:x'.au=x.au) (h0:lX k) (i:Nat) (hi:i<x.au.length) (h2:k'.tk=some (i,Xp)):wI f k k' x x'
 | step (i:Nat) (t:Xz) (s:Qu) (h0:k.tk=some (i,t)) (ht:t.status=0) (hf:t.filled=false) (hs:x.au[i]?=some s) (h1:x'.au=x.au.set i { s with ring:=(stepT s.ring t).1 }) (h2:k'.tk=some (i,(stepT s.ring t).2)):wI f k k' x x'
 | fill (i:Nat) (t:Xz) (s:Qu) (v:Qp) (h0:k.tk=some (i,t)) (ht:t.status=2) (hf:t.filled=false) (hs:x.au[i]?=some s) (hv:(v=qr (k,x)/\f)\/v.slot<0) (h1:x'.au=x.au.set i { s with ring:=(Zp s.ring t v).1 }) (h2:k'.tk=some (i,(Zp s.ring t v).2.1)):wI f k k' x x'
structure xL (s:SC) (k:Qv) (x:Qi) (r:SC × ZC):Prop where
 kind:r.2.1.kind=k.kind
 fit:vR r.1 r.2.1
 tk:xC r.1 r.2.1
 ins:r.2.2.f.inside=x.f.inside+uT r.1 r.2.1 - uT s k
 uA:wI (s=.at none .fills) k r.2.1 x r.2.2
theorem lX.tk {k k':Qv} (h:lX k) (e:k'.tk=k.tk):lX k':=fun i t ht=>h i t (e ▸ ht)
theorem pX.tk {k k':Qv} (h:pX k) (e:k'.tk=k.tk):pX k':=by
 obtain ⟨i,t,h1,h2⟩:=h;exact ⟨i,t,e.trans h1,h2⟩
theorem Rm {k k2:Qv} (h:1<=k.kind/\k.kind<=5) (e:k2.kind=k.kind) (hf:lX k2):vR (X2 k) k2/\xC (X2 k) k2/\uT (X2 k) k2=if k.kind<=3 then 1 else 0:=by
 unfold X2;split
 ·exact ⟨trivial,hf,by rw [if_neg (by omega)];rfl⟩
 ·refine ⟨by show 1<=k2.kind/\k2.kind<=3;omega,hf,?_⟩
  show (if k2.kind<=3 then (1:Int) else 0)=_
  rw [e]
theorem Aw (k:Qv) (s:Qj):(lookW k s).1.tk=k.tk/\(lookW k s).1.kind=k.kind:=by
 unfold lookW;split
 ·exact ⟨rfl,rfl⟩
 ·split <;> exact ⟨rfl,rfl⟩
theorem q1j {r:Qz} {t:Xz} (h:t.status=0):((stepT r t).2.status=0\/(stepT r t).2.status=1\/(stepT r t).2.status=2)/\(stepT r t).2.filled=t.filled:=by
 unfold stepT qP pV o9;rw [if_neg (by omega)];split
 ·exact ⟨.inl h,rfl⟩
 ·split
  ·split
   ·exact ⟨.inl h,rfl⟩
   ·split
    ·exact ⟨.inr (.inl rfl),rfl⟩
    ·exact ⟨.inl h,rfl⟩
  ·split
   ·exact ⟨.inr (.inr rfl),rfl⟩
   ·exact ⟨.inl h,rfl⟩
section
variable {N:Nat} {k:Qv} {x:Qi}
theorem q0x (z:ZC):(Q4 z).1.1.tk=z.1.tk/\(Q4 z).1.1.kind=z.1.kind/\(Q4 z).1.2=z.2:=⟨(Aw _ _).1,(Aw _ _).2,rfl⟩
theorem FQ (hk:Zn N k x) (v:Qp) (h:pX k):∃ i t s,k.tk=some (i,t)/\t.status=2/\t.filled=false/\x.au[i]?=some s/\Yo v (k,x)=({ k with tk:=some (i,(Zp s.ring t v).2.1) },{ x with au:=x.au.set i { s with ring:=(Zp s.ring t v).1 } })/\(Zp s.ring t v).2.1={ t with filled:=true }:=by
 obtain ⟨i,t,h1,h2,h3⟩:=h;have hi:=(hk.tk i t h1).2;refine ⟨i,t,x.au[i],h1,h2,h3,U8 hi,?_,?_⟩
 ·unfold Yo
  simp only [h1,U8 hi]
 ·unfold Zp
  rw [if_pos ⟨h2,h3⟩]
theorem PK {k':Qv} {i:Nat} {t:Xz} (h:k'.tk=some (i,{ t with filled:=true })):lX k':=by
 intro j u hu;rw [h] at hu;simp only [UQ,Prod.mk.injEq] at hu;obtain ⟨_,rfl⟩:=hu;intro hh;cases hh.2
theorem q7k (hc:Zi N x) (hk:Zn N k x) (m:MC) (hf:tN (.at none m) k) (h1:vR (.at none m) k) (h2:xC (.at none m) k):xL (.at none m) k x (J1 m (k,x)):=by
 cases m with
 | right =>
   have h1:k.kind=1\/k.kind=2:=h1;have h2:lX k:=h2
   show xL _ k x (if mP k then (.aj .aS,Ql 1 (k,x)) else (.at none .enter,(k,x)))
   split
   ·exact ⟨rfl,trivial,h2.tk rfl,by show x.f.inside=x.f.inside+0 - 0;omega,.none rfl rfl⟩
   ·exact ⟨rfl,by show 1<=k.kind/\k.kind<=3;omega,h2,by show x.f.inside=x.f.inside+0 - 0;omega,.none rfl rfl⟩
 | enter =>
   have h1:1<=k.kind/\k.kind<=3:=h1;have h2:lX k:=h2;exact ⟨rfl,by show 1<=k.kind/\k.kind<=5;omega,h2,by show x.f.inside+1=x.f.inside+(if k.kind<=3 then 1 else 0) - 0;rw [if_pos h1.2];omega,.none rfl rfl⟩
 | gate =>
   have h1:1<=k.kind/\k.kind<=5:=h1;have h2:lX k:=h2
   show xL _ k x (if x.f.closed=true then (X2 k,Ql 3 (k,x)) else if k.kind=1\/k.kind=2 then (.at none .asks,({ k with rq:=some ⟨k.period,0,0,0,0,0⟩ },x)) else (.at none .looks,(k,x)))
   split
   ·obtain ⟨a,b,c⟩:=Rm (k:=k) (k2:=Yb 3 k) h1 rfl (h2.tk rfl)
    exact ⟨rfl,a,b,by show x.f.inside=x.f.inside+uT (X2 k) (Yb 3 k) - (if k.kind<=3 then 1 else 0);rw [c];omega,.none rfl rfl⟩
   ·split
    ·exact ⟨rfl,by show k.kind=1\/k.kind=2;assumption,h2.tk rfl,by show x.f.inside=x.f.inside+(if k.kind<=3 then 1 else 0) - (if k.kind<=3 then 1 else 0);omega,.none rfl rfl⟩
    ·exact ⟨rfl,by show 3<=k.kind/\k.kind<=5;omega,h2,by show x.f.inside=x.f.inside+(if k.kind<=3 then 1 else 0) - (if k.kind<=3 then 1 else 0);omega,.none rfl rfl⟩
 | asks =>
   have h1:k.kind=1\/k.kind=2:=h1;have h2:lX k:=h2;obtain ⟨q,hq⟩:=Option.isSome_iff_exists.1 hf.1;have e:J1 .asks (k,x)=q7 (k,x) q:=by show (match k.rq with | none=>_ | some q=>_)=_;rw [hq]
   rw [e];unfold q7;simp only [];split
   ·exact ⟨rfl,by show 1<=k.kind/\k.kind<=3;omega,h2.tk rfl,by show x.f.inside=x.f.inside+(if k.kind<=3 then 1 else 0) - (if k.kind<=3 then 1 else 0);omega,.none rfl rfl⟩
   ·split
    ·rename_i ha hb
     refine ⟨rfl,by show 1<=k.kind/\k.kind<=3;omega,⟨_,_,rfl,rfl,rfl⟩,by show x.f.inside=x.f.inside+(if k.kind<=3 then 1 else 0) - (if k.kind<=3 then 1 else 0);omega,.new rfl h2 _ ?_ rfl⟩
     exact Gh (N:=N) hc (UN _ (by omega))
    ·exact ⟨rfl,h1,h2.tk rfl,by show x.f.inside=x.f.inside+(if k.kind<=3 then 1 else 0) - (if k.kind<=3 then 1 else 0);omega,.none rfl rfl⟩
 | aX =>
   have h1:1<=k.kind/\k.kind<=3:=h1;obtain ⟨i,t,ht,hst,hfl⟩:=(show ∃ i t,k.tk=some (i,t)/\t.status=0/\t.filled=false from h2);have hi:=(hk.tk i t ht).2;have hs:=U8 hi
   have e:J1 .aX (k,x)=Ze (k,x) i t x.au[i]:=by
    show (match k.tk with | none=>_ | some (i,t)=>_)=_
    rw [ht];simp only [hs]
   rw [e];obtain ⟨hcase,vH⟩:=q1j (r:=x.au[i].ring) hst;rw [hfl] at vH;unfold Ze;simp only [];split
   ·rename_i h
    exact ⟨rfl,h1,⟨_,_,rfl,h,vH⟩,by show x.f.inside=x.f.inside+(if k.kind<=3 then 1 else 0) - (if k.kind<=3 then 1 else 0);omega,.step i t _ ht hst hfl hs rfl rfl⟩
   ·rename_i hn0
    have hfree:(stepT x.au[i].ring t).2.status=1->∀ k':Qv,k'.tk=some (i,(stepT x.au[i].ring t).2)->lX k':=by
     intro h k' hk' j u hu;rw [hk'] at hu;simp only [UQ,Prod.mk.injEq] at hu;obtain ⟨_,rfl⟩:=hu;omega
    split
    ·rename_i h
     exact ⟨rfl,h1,hfree h.1 _ rfl,by show x.f.inside=x.f.inside+(if k.kind<=3 then 1 else 0) - (if k.kind<=3 then 1 else 0);omega,.step i t _ ht hst hfl hs rfl rfl⟩
    ·rename_i hn1
     split
     ·rename_i h
      exact ⟨rfl,by show k.kind=1\/k.kind=2;omega,hfree h _ rfl,by show x.f.inside=x.f.inside+(if k.kind<=3 then 1 else 0) - (if k.kind<=3 then 1 else 0);omega,.step i t _ ht hst hfl hs rfl rfl⟩
     ·rename_i hn2
      have h3:(stepT x.au[i].ring t).2.status=2:=by omega
      split
      ·exact ⟨rfl,by show k.kind=3;assumption,⟨_,_,rfl,h3,vH⟩,by show x.f.inside=x.f.inside+(if k.kind<=3 then 1 else 0) - (if k.kind<=3 then 1 else 0);omega,.step i t _ ht hst hfl hs rfl rfl⟩
      ·exact ⟨rfl,by show k.kind=1\/k.kind=2;omega,⟨_,_,rfl,h3,vH⟩,by show x.f.inside=x.f.inside+(if k.kind<=3 then 1 else 0) - (if k.kind<=3 then 1 else 0);omega,.step i t _ ht hst hfl hs rfl rfl⟩
 | bU =>
   have h1:k.kind=1\/k.kind=2:=h1;have h2:pX k:=h2;exact ⟨rfl,by show 1<=k.kind/\k.kind<=3;omega,h2.tk rfl,by show x.f.inside=x.f.inside+(if k.kind<=3 then 1 else 0) - (if k.kind<=3 then 1 else 0);omega,.none rfl rfl⟩
 | fills =>
   have h1:1<=k.kind/\k.kind<=3:=h1;obtain ⟨i,t,s,a1,a2,a3,a4,a5,a6⟩:=FQ hk (qr (k,x)) h2;have e:J1 .fills (k,x)=(Ji,(iQ (Yo (qr (k,x)) (k,x)).1,(Yo (qr (k,x)) (k,x)).2)):=rfl;rw [e,a5];refine ⟨rfl,h1,PK (i:=i) (t:=t) (by rw [<- a6];rfl),by show x.f.inside=x.f.inside+(if k.kind<=3 then 1 else 0) - (if k.kind<=3 then 1 else 0);omega,.fill i t s (qr (k,x)) a1 a2 a3 a4 (.inl ⟨rfl,rfl⟩) rfl rfl⟩
 | looks =>
   have h1:3<=k.kind/\k.kind<=5:=h1;have h2:lX k:=h2;obtain ⟨l1,l2⟩:=Aw k x.aa;have hl2:(Q4 (k,x)).1.1.kind=k.kind:=l2;have hl1:lX (Q4 (k,x)).1.1:=h2.tk l1
   show xL _ k x (if (Q4 (k,x)).2=0 then (if k.kind=3 then (.at none .aX,({ (Q4 (k,x)).1.1 with tk:=some (qi (Q4 (k,x)).1.1.slot x,Xp) },x)) else (.at none .tries,(Q4 (k,x)).1)) else if (Q4 (k,x)).2=1 then (X2 k,Ql 1 (Q4 (k,x)).1) else (X2 k,Ql 0 (Q4 (k,x)).1))
   split
   ·split
    ·refine ⟨l2,by show 1<=(Q4 (k,x)).1.1.kind/\(Q4 (k,x)).1.1.kind<=3;omega,⟨_,_,rfl,rfl,rfl⟩,by show x.f.inside=x.f.inside+(if (Q4 (k,x)).1.1.kind<=3 then 1 else 0) - (if k.kind<=3 then 1 else 0);rw [hl2];omega,.new rfl h2 _ ?_ rfl⟩
     exact Gh (N:=N) hc ((LV hc hk).slot)
    ·rename_i hk3
     refine ⟨l2,by show 3<=(Q4 (k,x)).1.1.kind/\(Q4 (k,x)).1.1.kind<=5;omega,?_,by show x.f.inside=x.f.inside+(if (Q4 (k,x)).1.1.kind<=3 then 1 else 0) - (if k.kind<=3 then 1 else 0);rw [hl2];omega,.none rfl l1⟩
     show if (Q4 (k,x)).1.1.kind=3 then _ else _
     rw [hl2,if_neg hk3];exact hl1
   ·have hov:=fun e=>Rm (k:=k) (k2:=Yb e (Q4 (k,x)).1.1) ⟨by omega,h1.2⟩ l2 (hl1.tk rfl)
    split
    ·exact ⟨l2,(hov 1).1,(hov 1).2.1,by show x.f.inside=x.f.inside+uT (X2 k) (Yb 1 (Q4 (k,x)).1.1) - (if k.kind<=3 then 1 else 0);rw [(hov 1).2.2];omega,.none rfl l1⟩
    ·exact ⟨l2,(hov 0).1,(hov 0).2.1,by show x.f.inside=x.f.inside+uT (X2 k) (Yb 0 (Q4 (k,x)).1.1) - (if k.kind<=3 then 1 else 0);rw [(hov 0).2.2];omega,.none rfl l1⟩
 | again =>
   have h1:k.kind=3:=h1;have h2:pX k:=h2;obtain ⟨l1,l2⟩:=Aw k x.aa;have hl2:(Q4 (k,x)).1.1.kind=k.kind:=l2;have hl1:pX (Q4 (k,x)).1.1:=h2.tk l1
   show xL _ k x (if (Q4 (k,x)).2=0 then (.at none .tries,(Q4 (k,x)).1) else (.thn (.aj .bC) .leaves,Ql 0 (Q4 (k,x)).1))
   split
   ·refine ⟨l2,by show 3<=(Q4 (k,x)).1.1.kind/\(Q4 (k,x)).1.1.kind<=5;omega,?_,by show x.f.inside=x.f.inside+(if (Q4 (k,x)).1.1.kind<=3 then 1 else 0) - (if k.kind<=3 then 1 else 0);rw [hl2];omega,.none rfl l1⟩
    show if (Q4 (k,x)).1.1.kind=3 then _ else _
    rw [hl2,if_pos h1];exact hl1
   ·exact ⟨l2,by show (Q4 (k,x)).1.1.kind=3;omega,hl1.tk rfl,by show x.f.inside=x.f.inside+(if (Q4 (k,x)).1.1.kind<=3 then 1 else 0) - (if k.kind<=3 then 1 else 0);rw [hl2];omega,.none rfl l1⟩
 | tries =>
   have h1:3<=k.kind/\k.kind<=5:=h1;have h2:if k.kind=3 then pX k else lX k:=h2
   have l1:(Zr (k,x)).1.1.tk=k.tk:=rfl;have l2:(Zr (k,x)).1.1.kind=k.kind:=rfl
   show xL _ k x (if (Zr (k,x)).2≠0 then (if k.kind=3 then (.at none .again,(Zr (k,x)).1) else (.at none .looks,(Zr (k,x)).1)) else if k.kind=3 then (.at none .fills,qc { bL with kind:=6,id:=k.id,gen:=(Zr (k,x)).1.1.gen,dl:=k.jJ } (iQ (Zr (k,x)).1.1,(Zr (k,x)).1.2))
    else if k.kind=5 then (.aj .aS,qc { bL with kind:=8,id:=k.id,gen:=(Zr (k,x)).1.1.gen } (iQ (Zr (k,x)).1.1,(Zr (k,x)).1.2))
    else (.thn (.aO .bK .drop) .ends,qc { bL with kind:=7,id:=k.id,gen:=(Zr (k,x)).1.1.gen } (iQ (Zr (k,x)).1.1,(Zr (k,x)).1.2)))
   split
   ·split
    ·rename_i h3
     rw [if_pos h3] at h2;exact ⟨rfl,h3,h2.tk rfl,by show x.f.inside=x.f.inside+(if k.kind<=3 then 1 else 0) - (if k.kind<=3 then 1 else 0);omega,.none rfl rfl⟩
    ·rename_i h3
     rw [if_neg h3] at h2;exact ⟨rfl,h1,h2.tk rfl,by show x.f.inside=x.f.inside+(if k.kind<=3 then 1 else 0) - (if k.kind<=3 then 1 else 0);omega,.none rfl rfl⟩
   ·split
    ·rename_i h3
     rw [if_pos h3] at h2;exact ⟨rfl,by show 1<=k.kind/\k.kind<=3;omega,h2.tk rfl,by show x.f.inside=x.f.inside+(if k.kind<=3 then 1 else 0) - (if k.kind<=3 then 1 else 0);omega,.none rfl rfl⟩
    ·rename_i h3
     rw [if_neg h3] at h2;split
     ·exact ⟨rfl,trivial,h2.tk rfl,by show x.f.inside=x.f.inside+0 - (if k.kind<=3 then 1 else 0);rw [if_neg (by omega)];omega,.none rfl rfl⟩
     ·exact ⟨rfl,by show k.kind=4;omega,h2.tk rfl,by show x.f.inside=x.f.inside+(if k.kind<=3 then 1 else 0) - (if k.kind<=3 then 1 else 0);omega,.none rfl rfl⟩
 | ends=>exact hf.elim
 | leaves=>exact hf.elim
theorem LQ {s:SC} (hj:JC N s (k,x)) (h1:vR s k) (h2:xC s k) (hi:uT s k<=x.f.inside):xL s k x (J5 s (k,x)):=by
 obtain ⟨hc,hk,hf⟩:=hj;simp only at hc hk hf
 match s,hf,h1,h2,hi with
 | .nil,_,_,h2,_=>exact ⟨rfl,trivial,h2,by show x.f.inside=x.f.inside+0 - 0;omega,.none rfl rfl⟩
 | .at none m,hf,h1,h2,_=>exact q7k hc hk m hf h1 h2
 | .aj .aS,_,_,h2,_=>exact ⟨rfl,trivial,h2,by show x.f.inside=x.f.inside+0 - 0;omega,.none rfl rfl⟩
 | .thn (.aj .bJ) .ends,_,h1,h2,hi =>
   have h1:1<=k.kind/\k.kind<=3:=h1;have hi:(if k.kind<=3 then (1:Int) else 0)<=x.f.inside:=hi;rw [if_pos h1.2] at hi;refine ⟨rfl,trivial,h2,?_,.none rfl rfl⟩
   show Z5 x.f.inside=x.f.inside+0 - (if k.kind<=3 then 1 else 0)
   unfold Z5;rw [if_neg (by omega),if_pos h1.2];omega
 | .thn (.aO .eB .drop) .leaves,_,h1,h2,_=>exact ⟨rfl,h1,h2,by show x.f.inside=x.f.inside+(if k.kind<=3 then 1 else 0) - (if k.kind<=3 then 1 else 0);omega,.none rfl rfl⟩
 | .thn (.aj .drop) .leaves,_,h1,h2,_ =>
   have h1:k.kind=1\/k.kind=2:=h1;exact ⟨rfl,by show 1<=k.kind/\k.kind<=3;omega,h2,by show x.f.inside=x.f.inside+(if k.kind<=3 then 1 else 0) - (if k.kind<=3 then 1 else 0);omega,.none rfl rfl⟩
 | .thn (.aj .bC) .leaves,_,h1,h2,_ =>
   have h1:k.kind=3:=h1;obtain ⟨i,t,s,a1,a2,a3,a4,a5,a6⟩:=FQ hk { Qp.zero with slot:=-1 } h2;have e:J5 (.thn (.aj .bC) .leaves) (k,x)=(Ji,Yo { Qp.zero with slot:=-1 } (k,x)):=rfl;rw [e,a5];exact ⟨rfl,by show 1<=k.kind/\k.kind<=3;omega,PK (i:=i) (t:=t) (by rw [<- a6]),by show x.f.inside=x.f.inside+(if k.kind<=3 then 1 else 0) - (if k.kind<=3 then 1 else 0);omega,.fill i t s _ a1 a2 a3 a4 (.inr (show (-1:Int)<0 by decide)) rfl rfl⟩
 | .thn (.aO .bK .drop) .ends,_,h1,h2,_=>exact ⟨rfl,h1,h2,by show x.f.inside=x.f.inside+(if k.kind<=3 then 1 else 0) - (if k.kind<=3 then 1 else 0);omega,.none rfl rfl⟩
 | .thn (.aj .drop) .ends,_,h1,h2,_ =>
   have h1:k.kind=4:=h1;exact ⟨rfl,trivial,h2,by show x.f.inside=x.f.inside+0 - (if k.kind<=3 then 1 else 0);rw [if_neg (by omega)];omega,.none rfl rfl⟩
end
def oI (L:Lay) (kb:Nat) (n:Int) (w:Wk) (g:List ak):Prop:=match w with
 | .call s k=>zl L kb s n k g
 | .turn s k=>isTurn L kb s n k g
 | .dM s k=>oH L kb s n k g
def Wk.ty:Wk->TypeId
 | .call _ _=>33
 | .turn _ _=>88
 | .dM _ _=>94
def Wk.fB:Wk->UO
 | .call _ _=>16
 | .turn _ _=>44
 | .dM _ _=>48
def Wk.jR:Wk->UO
 | .call _ _=>362
 | .turn _ _=>365
 | .dM _ _=>366
def Wk.iD:Wk->UO
 | .call _ _=>89
 | .turn _ _=>93
 | .dM _ _=>112
def Wk.il:Wk->UO
 | .call _ _=>21
 | .turn _ _=>151
 | .dM _ _=>49
theorem J7 {P:Program} {f:UO} {args:Array Value} {g gA gB gZ:List ak} {R:Ending->List ak->List ak->Prop} (hd:Qa P f args [g,gA] fun e gs=>∃ g' fe,R e g' fe/\gs=[g',fe]) (hp:gZ.Perm (gA++gB)) :
 Qa P f args [g,gZ] fun e gs=>∃ g' fe,R e g' fe/\gs=[g',fe++gB]:=by
 intro w hw
 have h2:Yz ([g,gA]++[gB]) w:=hw.re (by
  classical
  refine U2.2 fun b=>?_
  have:=(U2.1 hp) b;simp only [UE,UA,UB,U9,U7] at this |-
  omega)
 refine (hd w h2.left).mono ?_
 rintro e w' ⟨gs,⟨g',fe,hR,rfl⟩,T⟩;refine ⟨_,⟨g',fe,hR,rfl⟩,((T.frame h2).re (H':=[g',fe++gB]) ?_).dO ?_⟩
 ·classical
  refine U2.2 fun b=>?_
  simp only [UE,UA,UB,U9,U7];omega
 ·classical
  refine U2.2 fun b=>?_
  have:=(U2.1 hp) b;simp only [UE,UA,UB,U9,U7] at this |-;omega
theorem Zs {L:Lay} {z:ZF} {g:List ak} (h:eZ L z g):∃ gC gW gP gL,Qf L z.x gC/\Jr L z.ws gW/\Zd L.p.pb z.p gP/\uM L.p.lb z.lg gL/\g=(gC++(gW++gP))++gL:=by
 obtain ⟨gT,gL,⟨gC,gW,gP,h1,h2,h3,rfl⟩,h4,rfl⟩:=h;exact ⟨gC,gW,gP,gL,h1,h2,h3,h4,rfl⟩
theorem zm {L:Lay} {z:ZF} {gC gW gP gL:List ak} (h1:Qf L z.x gC) (h2:Jr L z.ws gW) (h3:Zd L.p.pb z.p gP) (h4:uM L.p.lb z.lg gL):eZ L z ((gC++(gW++gP))++gL):=⟨_,gL,⟨gC,gW,gP,h1,h2,h3,rfl⟩,h4,rfl⟩
section
variable {L:Lay} {z:ZF} {w:Wk} {kb:Nat} {n:Int} {g gZ:List ak} {N:Nat}
theorem q4b (hj:oI L kb n w g):Qd prog w.iD #[Qb kb] [g] (.bool w.done):=by
 cases w with
 | call s k=>exact KJ hj
 | turn s k=>exact KT hj
 | dM s k=>exact Lt hj
theorem permA (a b c:List ak):(a++b++c).Perm (a++(b++c)):=by rw [UH]
theorem IU (a b c d:List ak):((a++(b++c))++d).Perm ((a++c)++(b++d)):=by
 classical
 refine U2.2 fun x=>?_
 simp only [U7];omega
theorem IQ (x a b c d:List ak):([x,(a++c)++(b++d)]:GH).flatten.Perm ([x,(a++(b++c))++d]:GH).flatten:=by
 classical
 refine U2.2 fun x=>?_
 simp only [UA,UB,U9,U7];omega
theorem q7a (hj:oI L kb n w g) (hz:eZ L z gZ) (hg:lY N z) (hw:oL N w z.x) (hN:N<999999) :
 Qa prog w.jR #[Qb kb] [g,gZ] fun e gs=>∃ g' cu,e=U1 (.bool (w.may z))/\oI L kb n w g'/\eZ L z cu/\gs=[g',cu]:=by
 cases w with
 | call s k =>
   obtain ⟨gC,gW,gP,gL,h1,h2,h3,h4,rfl⟩:=Zs hz;refine (J7 (gB:=(gW++gP)++gL) (R:=fun e g' fe=>e=U1 (.bool (!s.isNil))/\zl L kb s n k g'/\Qf L z.x fe) ((q3r hj h1).mono ?_) (permA _ _ _)).mono ?_
   ·rintro e gs ⟨rfl,g',aJ,a,b,rfl⟩
    exact ⟨g',aJ,⟨rfl,a,b⟩,rfl⟩
   ·rintro e gs ⟨g',fe,⟨rfl,a,b⟩,rfl⟩
    exact ⟨g',_,rfl,a,by rw [<- UH];exact zm b h2 h3 h4,rfl⟩
 | turn s k =>
   obtain ⟨gT,gL,h1,h2,rfl⟩:=hz;have hjt:JT N s ⟨k,z.x,z.ws,z.p⟩:=⟨⟨hg.zn.core,hg.zn.rest,hw.wk,hg.ws,hg.iT⟩,hw.fit⟩;refine (J7 (gB:=gL) (R:=fun e g' fe=>e=U1 (.bool (mM s ⟨k,z.x,z.ws,z.p⟩))/\isTurn L kb s n k g'/\qE L z.x z.ws z.p fe) ((q5u hj h1 (hjt.dx (by omega))).mono ?_) (UR _)).mono ?_
   ·rintro e gs ⟨rfl,g',aJ,a,b,rfl⟩
    exact ⟨g',aJ,⟨rfl,a,b⟩,rfl⟩
   ·rintro e gs ⟨g',fe,⟨rfl,a,b⟩,rfl⟩
    exact ⟨g',_,rfl,a,⟨_,gL,b,h2,rfl⟩,rfl⟩
 | dM s k =>
   obtain ⟨gC,gW,gP,gL,h1,h2,h3,h4,rfl⟩:=Zs hz;have hjs:JS N s ⟨k,z.x,z.p⟩:=⟨⟨hg.zn.core,hg.zn.rest.cap,hg.zn.rest.busy,hw.aB,hw.left⟩,hw.fit⟩;refine (J7 (gB:=gW++gL) (R:=fun e g' fe=>e=U1 (.bool (sQ s ⟨k,z.x,z.p⟩))/\oH L kb s n k g'/\qX L z.x z.p fe) ((q6z hj ⟨gC,gP,h1,h3,rfl⟩ (hjs.b.ok (by omega))).mono ?_) (IU _ _ _ _)).post ?_
   ·rintro e gs ⟨rfl,g',aJ,a,b,rfl⟩
    exact ⟨g',aJ,⟨rfl,a,b⟩,rfl⟩
   ·rintro e gs ⟨g',fe,⟨rfl,a,⟨jm,zZ,b1,b2,rfl⟩⟩,rfl⟩
    exact ⟨_,⟨g',_,rfl,a,zm b1 h2 b2 h4,rfl⟩,IQ _ _ _ _ _⟩
theorem q4c (hj:oI L kb n w g) (hz:eZ L z gZ) (hg:lY N z) (hw:oL N w z.x) (hN:N<999999) (hm:w.may z=true) (hn:0<=n/\n<=1000000000) :
 Qa prog w.fB #[Qb kb] [g,gZ] fun e gs=>∃ g' cu,e=U1 (.bool true)/\oI L kb (n+1) (w.step z).1 g'/\eZ L (w.step z).2 cu/\gs=[g',cu]:=by
 cases w with
 | call s k =>
   obtain ⟨gC,gW,gP,gL,h1,h2,h3,h4,rfl⟩:=Zs hz;have hjc:JC N s (k,z.x):=⟨hg.zn.core,hw.wk,hw.fit⟩
   have hs:s.isNil=false:=by
    have:(!s.isNil)=true:=hm;cases h:s.isNil
    ·rfl
    ·rw [h] at this;cases this
   refine (J7 (gB:=(gW++gP)++gL) (R:=fun e g' fe=>e=U1 (.bool true)/\zl L kb (J5 s (k,z.x)).1 (n+1) (J5 s (k,z.x)).2.1 g'/\Qf L (J5 s (k,z.x)).2.2 fe) ((qzh hj h1 (hjc.pre (by omega)) hs hn).mono ?_) (permA _ _ _)).mono ?_
   ·rintro e gs ⟨g',aJ,rfl,a,b,rfl⟩
    exact ⟨g',aJ,⟨rfl,a,b⟩,rfl⟩
   ·rintro e gs ⟨g',fe,⟨rfl,a,b⟩,rfl⟩
    exact ⟨g',_,rfl,a,by rw [<- UH];exact zm (z:={ z with x:=(J5 s (k,z.x)).2.2 }) b h2 h3 h4,rfl⟩
 | turn s k =>
   obtain ⟨gT,gL,h1,h2,rfl⟩:=hz;have hjt:JT N s ⟨k,z.x,z.ws,z.p⟩:=⟨⟨hg.zn.core,hg.zn.rest,hw.wk,hg.ws,hg.iT⟩,hw.fit⟩;refine (J7 (gB:=gL) (R:=fun e g' fe=>e=U1 (.bool true)/\isTurn L kb (Qy s ⟨k,z.x,z.ws,z.p⟩).1 (n+1) (Qy s ⟨k,z.x,z.ws,z.p⟩).2.k g'/\qE L (Qy s ⟨k,z.x,z.ws,z.p⟩).2.x (Qy s ⟨k,z.x,z.ws,z.p⟩).2.ws (Qy s ⟨k,z.x,z.ws,z.p⟩).2.p fe) ((q11 hj h1 (hjt.dx (by omega)) hm (hjt.pre (by omega) hm) hn).mono ?_) (UR _)).mono ?_
   ·rintro e gs ⟨g',aJ,rfl,a,b,rfl⟩
    exact ⟨g',aJ,⟨rfl,a,b⟩,rfl⟩
   ·rintro e gs ⟨g',fe,⟨rfl,a,b⟩,rfl⟩
    exact ⟨g',_,rfl,a,⟨_,gL,b,h2,rfl⟩,rfl⟩
 | dM s k =>
   obtain ⟨gC,gW,gP,gL,h1,h2,h3,h4,rfl⟩:=Zs hz;have hjs:JS N s ⟨k,z.x,z.p⟩:=⟨⟨hg.zn.core,hg.zn.rest.cap,hg.zn.rest.busy,hw.aB,hw.left⟩,hw.fit⟩;refine (J7 (gB:=gW++gL) (R:=fun e g' fe=>e=U1 (.bool true)/\oH L kb (stepS s ⟨k,z.x,z.p⟩).1 (n+1) (stepS s ⟨k,z.x,z.p⟩).2.k g'/\qX L (stepS s ⟨k,z.x,z.p⟩).2.x (stepS s ⟨k,z.x,z.p⟩).2.p fe) ((q31 hj ⟨gC,gP,h1,h3,rfl⟩ (hjs.b.ok (by omega)) hm (hjs.pre (by omega)) hn).mono ?_) (IU _ _ _ _)).post ?_
   ·rintro e gs ⟨g',aJ,rfl,a,b,rfl⟩
    exact ⟨g',aJ,⟨rfl,a,b⟩,rfl⟩
   ·rintro e gs ⟨g',fe,⟨rfl,a,⟨jm,zZ,b1,b2,rfl⟩⟩,rfl⟩
    exact ⟨_,⟨g',_,rfl,a,zm (z:={ z with x:=(stepS s ⟨k,z.x,z.p⟩).2.x,p:=(stepS s ⟨k,z.x,z.p⟩).2.p }) b1 h2 b2 h4,rfl⟩,IQ _ _ _ _ _⟩
theorem q9f (hj:oI L kb n w g) (hz:eZ L z gZ) (hg:lY N z) (hw:oL N w z.x) (hN:N<999999) (hm:w.may z=false) :
 Qa prog w.fB #[Qb kb] [g,gZ] fun e gs=>∃ g' cu,e=U1 (.bool false)/\oI L kb n w g'/\eZ L z cu/\gs=[g',cu]:=by
 cases w with
 | call s k =>
   obtain ⟨gC,gW,gP,gL,h1,h2,h3,h4,rfl⟩:=Zs hz
   obtain rfl:s=.nil:=by
    have:(!s.isNil)=false:=hm;cases s with
    | nil=>rfl
    | _=>cases this
   refine (J7 (gB:=(gW++gP)++gL) (R:=fun e g' fe=>e=U1 (.bool false)/\zl L kb .nil n k g'/\Qf L z.x fe) ((qlm hj h1).mono ?_) (permA _ _ _)).mono ?_
   ·rintro e gs ⟨rfl,g',aJ,a,b,rfl⟩
    exact ⟨g',aJ,⟨rfl,a,b⟩,rfl⟩
   ·rintro e gs ⟨g',fe,⟨rfl,a,b⟩,rfl⟩
    exact ⟨g',_,rfl,a,by rw [<- UH];exact zm b h2 h3 h4,rfl⟩
 | turn s k =>
   obtain ⟨gT,gL,h1,h2,rfl⟩:=hz;have hjt:JT N s ⟨k,z.x,z.ws,z.p⟩:=⟨⟨hg.zn.core,hg.zn.rest,hw.wk,hg.ws,hg.iT⟩,hw.fit⟩;refine (J7 (gB:=gL) (R:=fun e g' fe=>e=U1 (.bool false)/\isTurn L kb s n k g'/\qE L z.x z.ws z.p fe) ((q8r hj h1 (hjt.dx (by omega)) hm).mono ?_) (UR _)).mono ?_
   ·rintro e gs ⟨rfl,g',aJ,a,b,rfl⟩
    exact ⟨g',aJ,⟨rfl,a,b⟩,rfl⟩
   ·rintro e gs ⟨g',fe,⟨rfl,a,b⟩,rfl⟩
    exact ⟨g',_,rfl,a,⟨_,gL,b,h2,rfl⟩,rfl⟩
 | dM s k =>
   obtain ⟨gC,gW,gP,gL,h1,h2,h3,h4,rfl⟩:=Zs hz;have hjs:JS N s ⟨k,z.x,z.p⟩:=⟨⟨hg.zn.core,hg.zn.rest.cap,hg.zn.rest.busy,hw.aB,hw.left⟩,hw.fit⟩;refine (J7 (gB:=gW++gL) (R:=fun e g' fe=>e=U1 (.bool false)/\oH L kb s n k g'/\qX L z.x z.p fe) ((q87 hj ⟨gC,gP,h1,h3,rfl⟩ (hjs.b.ok (by omega)) hm).mono ?_) (IU _ _ _ _)).post ?_
   ·rintro e gs ⟨rfl,g',aJ,a,b,rfl⟩
    exact ⟨g',aJ,⟨rfl,a,b⟩,rfl⟩
   ·rintro e gs ⟨g',fe,⟨rfl,a,⟨jm,zZ,b1,b2,rfl⟩⟩,rfl⟩
    exact ⟨_,⟨g',_,rfl,a,zm b1 h2 b2 h4,rfl⟩,IQ _ _ _ _ _⟩
end
structure oK where
 err:Int
 ok:Bool
 id:Int
 gen:Int
 left:List Int
 code:Int
def oK.cells (a:oK) (v:Value):Array Value:=#[U4 U3 a.err,.bool a.ok,U4 .u64 a.id,U4 .u64 a.gen,v]
def Wk.ans:Wk->oK
 | .call s k=>if s.isNil then ⟨k.err,k.ok,k.nI,k.iJ,[],0⟩ else ⟨0,false,0,0,[],10⟩
 | .turn s k=>if s.isNil then ⟨k.err,k.ok,0,0,[],0⟩ else ⟨0,false,0,0,[],10⟩
 | .dM s k=>if s.isNil then ⟨k.err,k.ok,0,0,k.told,0⟩ else ⟨0,false,0,0,[],10⟩
section
variable {L:Lay} {z:ZF} {w:Wk} {kb:Nat} {n:Int} {g gZ:List ak} {N:Nat}
theorem D4 {f:UO} {a:Array Value} {c:Int} (hd:Qa prog f #[Qb kb] [g] fun e gs=>e=U1 (.tuple #[.agg a,U4 U3 c])/\gs=[g]) (A:oK) (h1:A.cells (.slice none 0 0)=a) (h2:A.left=[]) (h3:A.code=c) :
 Qa prog f #[Qb kb] [g] fun e gs=>∃ v gv,e=U1 (.tuple #[.agg (A.cells v),U4 U3 A.code])/\Q3 36 1 v A.left.length (kX A.left) gv/\gs=[g,gv]:=by
 subst h1 h3;refine hd.post ?_
 rintro e gs ⟨rfl,rfl⟩;exact ⟨[g,[]],⟨.slice none 0 0,[],rfl,by rw [h2];exact X7 _ _,rfl⟩,by simp⟩
theorem qwa (hj:oI L kb n w g) (hw:oL N w z.x) (hN:N<999999):Qa prog w.il #[Qb kb] [g] fun e gs =>
 ∃ v gv,e=U1 (.tuple #[.agg (w.ans.cells v),U4 U3 w.ans.code])/\Q3 36 1 v w.ans.left.length (kX w.ans.left) gv/\gs=[g,gv]:=by
 cases w with
 | call s k =>
   cases hs:s.isNil with
   | true =>
     rw [show (Wk.call s k).ans=⟨k.err,k.ok,k.nI,k.iJ,[],0⟩ from if_pos hs];exact D4 (qr4 hj hs) _ rfl rfl rfl
   | false =>
     rw [show (Wk.call s k).ans=⟨0,false,0,0,[],10⟩ from if_neg (by rw [hs];decide)];exact D4 (qze hj hs) _ rfl rfl rfl
 | turn s k =>
   cases hs:s.isNil with
   | true =>
     rw [show (Wk.turn s k).ans=⟨k.err,k.ok,0,0,[],0⟩ from if_pos hs];exact D4 (quh hj hs) _ rfl rfl rfl
   | false =>
     rw [show (Wk.turn s k).ans=⟨0,false,0,0,[],10⟩ from if_neg (by rw [hs];decide)];exact D4 (q1z hj hs) _ rfl rfl rfl
 | dM s k =>
   cases hs:s.isNil with
   | true =>
     have hl:k.left.length<=N:=hw.left;rw [show (Wk.dM s k).ans=⟨k.err,k.ok,0,0,k.told,0⟩ from if_pos hs];exact qvp hj hs (by omega)
   | false =>
     rw [show (Wk.dM s k).ans=⟨0,false,0,0,[],10⟩ from if_neg (by rw [hs];decide)];exact D4 (q3x hj hs) _ rfl rfl rfl
structure mK (N:Nat) (c:dz):Prop where
 fit:(c.s=J2/\c.k.holds=[])\/(c.s=.thn (.aj .jD) .takes/\c.k.holds.length=1)
 worked:0<=c.k.worked/\c.k.worked<=N
 n:0<=c.n/\c.n<=N
theorem mK.mono {N M:Nat} {c:dz} (h:mK N c) (hm:N<=M):mK M c:=⟨h.fit,by have:=h.worked;omega,by have:=h.n;omega⟩
theorem mK.new {c:dz} (h:Ba c):mK 0 c:=by
 obtain ⟨a,b,d⟩:=h;exact ⟨.inl ⟨a,by rw [d];rfl⟩,by rw [d];exact ⟨UG _,UG _⟩,by rw [b];exact ⟨UG _,UG _⟩⟩
def dz.zw (c:dz) (z:ZF):ZW:=⟨c.k,z.x,z.p,z.lg⟩
def dz.may (c:dz) (z:ZF):Bool:=Bh c.s (c.zw z)
def dz.step (c:dz) (z:ZF):dz × ZF :=
 (⟨c.wb,(uI c.s (c.zw z)).1,c.n+1,(uI c.s (c.zw z)).2.k⟩,⟨(uI c.s (c.zw z)).2.x,z.ws,(uI c.s (c.zw z)).2.p,(uI c.s (c.zw z)).2.lg⟩)
theorem mK.ok {c:dz} (h:mK N c) (hg:lY N z) (hN:N<999999):yX (c.zw z):=by
 have hr:=hg.zn.rest;have hl:=hg.zn.lg;have hw:=h.worked
 have hh:c.k.holds.length<=1:=by
  rcases h.fit with ⟨_,h⟩ | ⟨_,h⟩
  ·rw [h];exact Nat.zero_le _
  ·omega
 exact ⟨by have:=hr.busy;show 0<=z.x.f.busy/\z.x.f.busy<=_;omega,⟨hr.ch,by have:=hr.sp;show z.p.sp.length<=_;omega⟩,by have:=hg.room;show z.p.room<=_;omega,by show c.k.holds.length<=_;omega,by show z.lg.length<=_;omega,by show 0<=c.k.worked/\c.k.worked<=_;omega⟩
theorem mK.dx {c:dz} (h:mK N c) (hg:lY N z) (hN:N<999999):Gf c.s (c.zw z):=by
 have ho:=h.ok hg hN;rcases h.fit with ⟨h1,_⟩ | ⟨h1,_⟩
 ·rw [h1];exact ho
 ·rw [h1];trivial
theorem SQ {p:Q2} (h:p.ch.length<=p.room):p.take.1.ch.length<=p.take.1.room/\p.take.1.room=p.room/\p.take.1.sp.length<=p.sp.length/\p.take.1.shut=p.shut:=by
 unfold Q2.take;split
 ·next h1=>exact ⟨h,rfl,UW _,rfl⟩
 ·next f l h1 h2 =>
  rw [h1] at h;simp only [UI] at h;refine ⟨?_,rfl,by rw [h2];simp,rfl⟩
  show l.length<=p.room
  omega
 ·next f l x sp h1 h2 =>
  rw [h1] at h;simp only [UI] at h;refine ⟨?_,rfl,by rw [h2];simp,rfl⟩
  show (l++[x]).length<=p.room
  rw [UC];simpa using h
theorem OW {c:dz} (h:mK N c) (hg:lY N z) (hN:N<999998) :
 Ow c.s (c.zw z)/\mK (N+1) (c.step z).1/\lY (N+1) (c.step z).2/\Gi z.x (c.step z).2.x/\vZ z.x (c.step z).2.x:=by
 have ho:=h.ok hg (by omega);have hr:=hg.zn.rest;have hl:=hg.zn.lg;obtain ⟨wb,s,n,k⟩:=c;have hw:=h.worked;have hn:=h.n;simp only at hw hn;rcases h.fit with ⟨h1,h2⟩ | ⟨h1,h2⟩
 ·obtain rfl:s=J2:=h1
  have h2:k.holds=[]:=h2;obtain ⟨t1,t2,t3,t4⟩:=SQ hr.ch;refine ⟨ho,⟨.inr ⟨rfl,?_⟩,?_,?_⟩,⟨⟨⟨hg.zn.core.aa,hg.zn.core.i0,by have:=hg.zn.core.i1;show z.x.f.inside<=_;omega,by have:=hg.zn.core.tr;show z.x.tr.length<=_;omega,hg.zn.core.sh,(hg.zn.core.mono (M:=N+1) (by omega)).ring⟩,⟨by have:=hr.now;show 0<=z.x.f.now/\z.x.f.now<=_;omega,?_,hr.cap,hr.wl,fun w hw=>(hr.kK w hw).mono (by omega),hr.task,fun s hs=>by have:=hr.turns s hs;omega,t1,?_⟩,?_⟩,hg.ws,hg.iT,?_⟩,⟨rfl,rfl⟩,fun _=>rfl⟩
  ·show (k.holds++[_]).length=1
   rw [h2];rfl
  ·show 0<=k.worked/\k.worked<=_;omega
  ·show 0<=n+1/\n+1<=_;omega
  ·have:=hr.busy
   show 0<=z.x.f.busy+1/\z.x.f.busy+1<=_;omega
  ·have:=hr.sp
   show z.p.take.1.sp.length<=_;omega
  ·show z.lg.length<=_;omega
  ·show z.p.take.1.room<=_
   rw [t2];exact hg.room
 ·obtain rfl:s=.thn (.aj .jD) .takes:=h1
  have h2:k.holds.length=1:=h2;have hb:0<=Z5 z.x.f.busy/\Z5 z.x.f.busy<=N:=by have:=hr.busy;unfold Z5;split <;> omega
  refine ⟨⟨⟨ho,by show 0<k.holds.length;omega⟩,fun _=>?_⟩,⟨.inl ⟨rfl,rfl⟩,?_,?_⟩,⟨⟨⟨hg.zn.core.aa,hg.zn.core.i0,by have:=hg.zn.core.i1;show z.x.f.inside<=_;omega,by have:=hg.zn.core.tr;show z.x.tr.length<=_;omega,hg.zn.core.sh,(hg.zn.core.mono (M:=N+1) (by omega)).ring⟩,⟨by have:=hr.now;show 0<=z.x.f.now/\z.x.f.now<=_;omega,?_,hr.cap,hr.wl,fun w hw=>(hr.kK w hw).mono (by omega),hr.task,fun s hs=>by have:=hr.turns s hs;omega,hr.ch,?_⟩,?_⟩,hg.ws,hg.iT,hg.room⟩,⟨rfl,rfl⟩,fun _=>rfl⟩
  ·exact ⟨by show 0<=Z5 z.x.f.busy/\Z5 z.x.f.busy<=_;omega,ho.pipe,ho.room,by show ([]:List Xj).length<=_;simp,by show (z.lg++k.holds).length<=_;rw [UC];omega,by show 0<=k.worked+1/\k.worked+1<=_;omega⟩
  ·show 0<=k.worked+1/\k.worked+1<=_;omega
  ·show 0<=n+1/\n+1<=_;omega
  ·show 0<=Z5 z.x.f.busy/\Z5 z.x.f.busy<=_;omega
  ·have:=hr.sp
   show z.p.sp.length<=_;omega
  ·show (z.lg++k.holds).length<=_
   rw [UC];omega
def vS (L:Lay) (c:dz) (g:List ak):Prop:=tH L c.wb c.s c.n c.k g
theorem IW (a b c d:List ak):((a++(b++c))++d).Perm ((a++(c++d))++b):=by
 classical
 refine U2.2 fun x=>?_
 simp only [U7];omega
theorem IV (x a b c d:List ak):([x,(a++(c++d))++b]:GH).flatten.Perm ([x,(a++(b++c))++d]:GH).flatten:=by
 classical
 refine U2.2 fun x=>?_
 simp only [UA,UB,U9,U7];omega
theorem q36 {c:dz} (hc:vS L c g) (hz:eZ L z gZ) (hg:lY N z) (hw:mK N c) (hN:N<999998) :
 Qa prog 377 #[Qb c.wb] [g,gZ] fun e gs=>∃ g' cu,e=U1 (.bool (c.may z))/\vS L c g'/\eZ L z cu/\gs=[g',cu]:=by
 obtain ⟨gC,gW,gP,gL,h1,h2,h3,h4,rfl⟩:=Zs hz;refine (J7 (gB:=gW) (R:=fun e g' fe=>e=U1 (.bool (c.may z))/\vS L c g'/\uU L z.x z.p z.lg fe) ((q8u hc ⟨gC,gP,gL,h1,h3,h4,rfl⟩ (hw.dx hg (by omega))).mono ?_) (IW _ _ _ _)).post ?_
 ·rintro e gs ⟨rfl,g',aJ,a,b,rfl⟩
  exact ⟨g',aJ,⟨rfl,a,b⟩,rfl⟩
 ·rintro e gs ⟨g',fe,⟨rfl,a,⟨jm,zZ,MP,b1,b2,b3,rfl⟩⟩,rfl⟩
  exact ⟨_,⟨g',_,rfl,a,zm b1 h2 b2 b3,rfl⟩,IV _ _ _ _ _⟩
theorem qz4 {c:dz} (hc:vS L c g) (hz:eZ L z gZ) (hg:lY N z) (hw:mK N c) (hN:N<999998) (hm:c.may z=true) :
 Qa prog 378 #[Qb c.wb] [g,gZ] fun e gs=>∃ g' cu,e=U1 (.bool true)/\vS L (c.step z).1 g'/\eZ L (c.step z).2 cu/\gs=[g',cu]:=by
 obtain ⟨gC,gW,gP,gL,h1,h2,h3,h4,rfl⟩:=Zs hz;have hn:=hw.n;refine (J7 (gB:=gW) (R:=fun e g' fe=>e=U1 (.bool true)/\vS L (c.step z).1 g'/\uU L (c.step z).2.x (c.step z).2.p (c.step z).2.lg fe) ((q5y hc ⟨gC,gP,gL,h1,h3,h4,rfl⟩ (hw.dx hg (by omega)) hm (OW hw hg hN).1 (by omega)).mono ?_) (IW _ _ _ _)).post ?_
 ·rintro e gs ⟨g',aJ,rfl,a,b,rfl⟩
  exact ⟨g',aJ,⟨rfl,a,b⟩,rfl⟩
 ·rintro e gs ⟨g',fe,⟨rfl,a,⟨jm,zZ,MP,b1,b2,b3,rfl⟩⟩,rfl⟩
  exact ⟨_,⟨g',_,rfl,a,zm (z:=(c.step z).2) b1 h2 b2 b3,rfl⟩,IV _ _ _ _ _⟩
theorem q61 {c:dz} (hc:vS L c g) (hz:eZ L z gZ) (hg:lY N z) (hw:mK N c) (hN:N<999998) (hm:c.may z=false) :
 Qa prog 378 #[Qb c.wb] [g,gZ] fun e gs=>∃ g' cu,e=U1 (.bool false)/\vS L c g'/\eZ L z cu/\gs=[g',cu]:=by
 obtain ⟨gC,gW,gP,gL,h1,h2,h3,h4,rfl⟩:=Zs hz;refine (J7 (gB:=gW) (R:=fun e g' fe=>e=U1 (.bool false)/\vS L c g'/\uU L z.x z.p z.lg fe) ((q90 hc ⟨gC,gP,gL,h1,h3,h4,rfl⟩ (hw.dx hg (by omega)) hm).mono ?_) (IW _ _ _ _)).post ?_
 ·rintro e gs ⟨rfl,g',aJ,a,b,rfl⟩
  exact ⟨g',aJ,⟨rfl,a,b⟩,rfl⟩
 ·rintro e gs ⟨g',fe,⟨rfl,a,⟨jm,zZ,MP,b1,b2,b3,rfl⟩⟩,rfl⟩
  exact ⟨_,⟨g',_,rfl,a,zm b1 h2 b2 b3,rfl⟩,IV _ _ _ _ _⟩
end
end
section
open Go.RowKit Go.Shelf
attribute [local go_sem] UX
def kF:Option (Wk × Nat)->Value
 | none=>.nilIface
 | some (w,b)=>.iface w.ty (Qb b)
def Z2:Nat->List (Option (Wk × Nat))->List (Array Value)
 | _,[]=>[]
 | a,none::l=>Z2 (a+1) l
 | a,some o::l=>#[U4 U3 a,kF (some o)]::Z2 (a+1) l
def wB:Nat->List Nat->List (Array Value)
 | _,[]=>[]
 | a,p::l=>#[U4 U3 a,.iface 269 (Qb p)]::wB (a+1) l
theorem Dk:∀ (l l':List (Option (Wk × Nat))) (a:Nat),Z2 a (l++l')=Z2 a l++Z2 (a+l.length) l'
 | [],l',a=>rfl
 | none::l,l',a=>by
   show Z2 (a+1) (l++l')=Z2 (a+1) l++_
   rw [Dk l l' (a+1),UI,show a+1+l.length=a+(l.length+1) by omega]
 | some o::l,l',a=>by
   show _::Z2 (a+1) (l++l')=_::Z2 (a+1) l++_
   rw [Dk l l' (a+1),UI,show a+1+l.length=a+(l.length+1) by omega];rfl
theorem Pf:∀ (l:List Nat) (a:Nat),(wB a l).length=l.length
 | [],_=>rfl
 | p::l,a=>by
   show (wB (a+1) l).length+1=_
   rw [Pf l];rfl
theorem QL:∀ (l:List Nat) (a i p:Nat),l[i]?=some p->(wB a l)[i]?=some #[U4 U3 (a+i:Nat),.iface 269 (Qb p)]
 | [],_,_,_,h=>by cases h
 | q::l,a,0,p,h=>by cases h;rfl
 | q::l,a,i+1,p,h=>by
   have:=QL l (a+1) i p h;rw [show a+1+i=a+(i+1) by omega] at this;exact this
def qG (os:List (Option (Wk × Nat))) (i:Nat):Nat:=(Z2 0 (os.take i)).length
theorem qw3 {os:List (Option (Wk × Nat))} {i:Nat} (h:os[i]?=some none):qG os (i+1)=qG os i:=by
 obtain ⟨h1,h2⟩:=U6.1 h;unfold qG;rw [UL h1,h2,Dk]
 show (Z2 0 (os.take i)++[]).length=_
 rw [U9]
theorem qw4 {os:List (Option (Wk × Nat))} {i:Nat} {o:Wk × Nat} (h:os[i]?=some (some o)):qG os (i+1)=qG os i+1/\∀ l,(Z2 0 os++l)[qG os i]?=some #[U4 U3 i,kF (some o)]:=by
 obtain ⟨h1,h2⟩:=U6.1 h;have hl:(os.take i).length=i:=by rw [List.length_take];omega
 refine ⟨?_,fun l=>?_⟩
 ·unfold qG
  rw [UL h1,h2,Dk,UC];rfl
 ·have e:os=os.take i++some o::os.drop (i+1):=by
   rw [<- h2,<- List.drop_eq_getElem_cons h1,List.take_append_drop]
  have e2:Z2 0 os=Z2 0 (os.take i)++(#[U4 U3 i,kF (some o)]::Z2 (i+1) (os.drop (i+1))):=by
   have h3:Z2 0 os=Z2 0 (os.take i++some o::os.drop (i+1)):=congrArg _ e;rw [Dk,hl,UT] at h3;exact h3
  rw [e2,UH];unfold qG;rw [UJ (UW _),Nat.sub_self];rfl
theorem q06 (os:List (Option (Wk × Nat))):qG os os.length=(Z2 0 os).length:=by unfold qG;rw [List.take_length]
def CS (xs:List (Array Value)) (R:GH->Prop) (O:GH):zM where
 σ:=Nat
 O _ O':=O'=O
 T _ H:=R H
 step k x G k':=xs[k]?=some x/\G=[]/\k'=k+1
 fin k:=k=xs.length
theorem Az (W:World):(binOp .neq 205 .nilIface .nilIface).run prog W=.ok (.bool false) W:=by kernel_rfl
theorem AU (w:Wk) (b:Nat) (W:World):(binOp .neq 205 (.iface w.ty (Qb b)) .nilIface).run prog W=.ok (.bool true) W:=by cases w <;> kernel_rfl
def LP (sb:Nat) (hd go gc:List ak) (H:GH):Prop:=∃ i j k,H.getD i []=hd/\H.getD j []=go/\H.getD k []=gc/\i<H.length/\j<H.length/\k<H.length
def Xg (sb fb:Nat) (vo va vc:Value):List ak:=[cl sb 208 #[Qb fb,vo,va,vc]]
theorem RB {α:Type} {H K:List α} {i:Nat} {d:α} (hi:i<H.length):(H++K).getD i d=H.getD i d:=by
 rw [U5,UK hi,<- U5]
theorem z7 {v:Value} {gr:List ak} {n:Nat} {t:TypeId} {xs:List Value} (hr:Q3 t 1 v n xs gr) {h H:GH} {w w':World} (T:TG h w H w') (i:Nat) (hg:H.getD i []=gr) (hi:i<H.length) {k:Nat} {x:Value} (hk:xs[k]?=some x) :
 ∃ b cap,v=.slice (some ⟨b,0,none⟩) n cap/\w'.cell? ⟨b,k,none⟩=some x:=by
 have hlen:xs.length=n:=by
  have:=hr.1;omega
 have hkl:=(U6.1 hk).1;obtain ⟨b,cap,cur,hv,hgr,_,_,_,dQ⟩:=hr.open (by omega);refine ⟨b,cap,hv,?_⟩
 have:=T.cell i 0 (b:=b) (T:=t) (C:=cur) (by rw [hg,hgr];rfl) k;rw [this,dQ k (by omega),hk]
theorem qnf (bx sb fb:Nat) {os:List (Option (Wk × Nat))} {ps:List Nat} {vo va vc:Value} {go gc:List ak} (hro:Q3 205 1 vo os.length (os.map kF) go) (hrc:Q3 269 1 vc ps.length (ps.map Qb) gc) (hn:os.length<=1000) (hm:ps.length<=1000) :
 sU prog 168 #[Qb bx] (CS (Z2 0 os++wB os.length ps) (LP sb (Xg sb fb vo va vc) go gc) [[cl bx 102 #[Qb sb]]]) (0:Nat):=by
 intro ly J Jx hT hY H0 O0 W hJ0 hO hH;have l8:O0=[[cl bx 102 #[Qb sb]]]:=hO;subst l8;have T0:=TG.refl hH;have c0:=(TG.refl hH.right).c 0 0 0;simp only [bP] at c0;obtain ⟨a0,a1,a2,b0,b1,b2,l0,l1,l2⟩:=hT (0:Nat) H0 hJ0;obtain ⟨iO,dG,rfl⟩:=Q3.val hro;obtain ⟨qI,j6,rfl⟩:=Q3.val hrc
 have HEAD:∀ (H:GH) (w':World),LP sb (Xg sb fb (.slice iO os.length dG) va (.slice qI ps.length j6)) go gc H->Yz H w'->w'.cell? ⟨sb,1,none⟩=some (.slice iO os.length dG)/\w'.cell? ⟨sb,3,none⟩=some (.slice qI ps.length j6):=by
  rintro H w' ⟨i,j,k,h1,_,_,h4,_,_⟩ hh;exact ⟨(TG.refl hh).cell i 0 (b:=sb) (by rw [h1];rfl) 1,(TG.refl hh).cell i 0 (b:=sb) (by rw [h1];rfl) 3⟩
 obtain ⟨hd1,hd3⟩:=HEAD H0 W (hT (0:Nat) H0 hJ0) hH.left;have M5:=Vh HEAD;have lS:=Vh hro;have uZ:=Vh hrc;have HJ:=Vh hJ0;have HT0:=Vh T0;have uw:=Vh hT;have HY:=Vh hY;clear hO hH hY hT hJ0 T0 b0 b1 b2 l0 l1 l2 hro hrc HEAD;refine (callsIn_wide (n:=9)).1 (callsIn_of_wp func168 rfl trivial ?_ rfl)
 simp only [ntmps168,List.size_toArray,UI,List.length_nil,Nat.reduceAdd,Nat.reduceSub,Array.replicate_succ,Array.replicate_zero,List.push_toArray,List.append_toArray,List.nil_append,List.cons_append];gi_wp2
 clear hd1 hd3
 gi_loopw [14] (fun i wr=>∃ (k:Nat) (H:GH),k<=os.length/\i=U4 U3 k/\J (qG os k) H/\TG (H0++[[cl bx 102 #[Qb sb]]]) W (H++[[cl bx 102 #[Qb sb]]]) wr) (fun i _=>os.length+1 - (intOf i).toNat)
 case atStart=>exact ⟨0,H0,by omega,rfl,HJ,HT0⟩
 case round =>
  obtain ⟨k,H,hk,rfl,hj,T⟩:=hrel;clear HJ HT0 c0;by_cases hlt:k<os.length
  ·obtain ⟨o,ho⟩:∃ o,os[k]?=some o:=⟨_,U8 hlt⟩
   obtain ⟨i,j,q,e1,e2,e3,l1,l2,l3⟩:=uw.out _ _ hj;obtain ⟨rb,cp,hv,hb⟩:=z7 lS T j (by rw [RB l2];exact e2) (by rw [UC];omega) (k:=k) (x:=kF o) (by rw [UU,ho];rfl);obtain ⟨rfl,rfl⟩:iO=some ⟨rb,0,none⟩/\dG=cp:=by cases hv;exact ⟨rfl,rfl⟩
   clear hv e1 e2 e3 l1 l2 l3;cases o with
   | none =>
     have hp:=qw3 ho;have hnq:=Az;change _=some Value.nilIface at hb
     rw [<- hp] at hj;have HJ:=Vh hj;have HT:=Vh T;clear hj T hp ho;gi_wp2
     refine ⟨fun f hf=>(by cases hf),?_⟩
     gi_wp2
     go_roundw
     case rel=>exact ⟨k+1,H,by omega,by go_num,HJ,HT⟩
     case measure=>simp [intOf];omega
   | some ov =>
     obtain ⟨wk,b⟩:=ov;obtain ⟨hp,hp2⟩:=qw4 ho;have hnq:=AU wk b;change _=some (UZ wk.ty (Qb b)) at hb
     have hy0:=HY.out (qG os k) #[U4 U3 k,.iface wk.ty (Qb b)] [] (qG os k+1) H wr hj ⟨hp2 _,rfl,rfl⟩ (by rw [U9];exact T.has.left);have HP:=Vh hp;obtain ⟨fn,tmps,assign,body,hy,hR⟩:=Z8 (n:=8) hy0;have HRR:=Vh hR;have HT:=Vh T;clear hy0 hR hj T hp hp2 ho;gi_wp2
     refine HRR.mono ?_
     rintro e W' ⟨H',hT',hj'⟩;have T7:=HT.trans ((hT'.app (a':=H) (by simp)).frame HT.has);have ed:=Vh T7;rcases hj' with ⟨rfl,hj'⟩ | ⟨rfl,hj'⟩
     ·have HJ:=Vh hj'
      clear hT' T7 hj' hy;gi_wp2
      go_roundw
      case rel=>exact ⟨k+1,H',by omega,by go_num,by rw [HP.out];exact HJ,ed⟩
      case measure=>simp [intOf];omega
     ·have HJ:=Vh hj'
      clear hT' T7 hj' hy;gi_wp2
      refine bodyPost_ret (results_none rfl _ _ _) rfl ?_
      exact ⟨⟨_,rfl⟩,_,H',_,ed,.inr HJ⟩
  ·obtain rfl:k=os.length:=by omega
   rw [q06] at hj;obtain ⟨hd1,hd3⟩:=M5.out H _ (uw _ _ hj) T.has.left;have c1:=(TG.refl T.has.right).c 0 0 0;simp only [bP] at c1;have HJ:=Vh hj;have HT0:=Vh T;clear hj T;gi_wp2
   clear hd1 hd3 c1
   gi_loopw [34] (fun i wr=>∃ (k:Nat) (H:GH),k<=ps.length/\i=U4 U3 k/\J ((Z2 0 os).length+k) H/\TG (H0++[[cl bx 102 #[Qb sb]]]) W (H++[[cl bx 102 #[Qb sb]]]) wr) (fun i _=>ps.length+1 - (intOf i).toNat)
   case atStart=>exact ⟨0,H,by omega,rfl,HJ,HT0⟩
   case round =>
    obtain ⟨k,H,hk,rfl,hj,T⟩:=hrel;clear HJ HT0;by_cases hlt:k<ps.length
    ·obtain ⟨p,ho⟩:∃ p,ps[k]?=some p:=⟨_,U8 hlt⟩
     obtain ⟨hd1,hd3⟩:=M5.out H _ (uw _ _ hj) T.has.left;have c1:=(TG.refl T.has.right).c 0 0 0;simp only [bP] at c1;obtain ⟨i,j,q,e1,e2,e3,l1,l2,l3⟩:=uw.out _ _ hj;obtain ⟨rb,cp,hv,hb⟩:=z7 uZ T q (by rw [RB l3];exact e3) (by rw [UC];omega) (k:=k) (x:=Qb p) (by rw [UU,ho];rfl);obtain ⟨rfl,rfl⟩:qI=some ⟨rb,0,none⟩/\j6=cp:=by cases hv;exact ⟨rfl,rfl⟩
     clear hv e1 e2 e3 l1 l2 l3;have hit:=QL ps os.length k p ho
     have hy0:=HY.out ((Z2 0 os).length+k) #[U4 U3 ((os.length:Int)+k),.iface 269 (Qb p)] [] ((Z2 0 os).length+(k+1)) H wr hj ⟨by
      rw [UJ (by omega),Nat.add_sub_cancel_left,hit]
      rfl,rfl,by omega⟩ (by rw [U9];exact T.has.left)
     obtain ⟨fn,tmps,assign,body,hy,hR⟩:=Z8 (n:=8) hy0;have HRR:=Vh hR;have HT:=Vh T;clear hy0 hR hj T hit ho;gi_wp2
     refine HRR.mono ?_
     rintro e W' ⟨H',hT',hj'⟩;have T7:=HT.trans ((hT'.app (a':=H) (by simp)).frame HT.has);have ed:=Vh T7;rcases hj' with ⟨rfl,hj'⟩ | ⟨rfl,hj'⟩
     ·have HJ:=Vh hj'
      clear hT' T7 hj' hy hd1 hd3 c1;gi_wp2
      go_roundw
      case rel=>exact ⟨k+1,H',by omega,by go_num,HJ,ed⟩
      case measure=>simp [intOf];omega
     ·have HJ:=Vh hj'
      clear hT' T7 hj' hy hd1 hd3 c1;gi_wp2
      refine bodyPost_ret (results_none rfl _ _ _) rfl ?_
      exact ⟨⟨_,rfl⟩,_,H',_,ed,.inr HJ⟩
    ·obtain rfl:k=ps.length:=by omega
     have HJ:=Vh hj;have HT:=Vh T;clear hj T;gi_wp2
     go_end0
     exact ⟨⟨_,rfl⟩,_,H,_,HT,.inl ⟨by show _=(Z2 0 os++wB os.length ps).length;rw [UC,Pf],HJ,rfl⟩⟩
end
section
open Go.RowKit Go.Shelf
attribute [local go_sem] UX
structure Jw where
 kb:Nat
 n:Int
 w:Wk
structure SvS where
 z:ZF
 own:List (Option Nat)
 all:List Jw
 aP:List dz
inductive Th where
 | eY (a:Nat)
 | gY (i:Nat)
def xq:Jw:=⟨0,0,.call .nil (fP 0 0 ⟨0,0,0,0⟩)⟩
def Mv:dz:=⟨0,J2,0,tX⟩
def SvS.af (S:SvS) (a:Nat):Jw:=S.all.getD a xq
def SvS.aM (S:SvS) (i:Nat):dz:=S.aP.getD i Mv
def Th.b (S:SvS):Th->Nat
 | .eY a=>(S.af a).kb
 | .gY i=>(S.aM i).wb
def Th.ty (S:SvS):Th->TypeId
 | .eY a=>(S.af a).w.ty
 | .gY i=>269
def Th.jR (S:SvS):Th->UO
 | .eY a=>(S.af a).w.jR
 | .gY i=>377
def Th.fB (S:SvS):Th->UO
 | .eY a=>(S.af a).w.fB
 | .gY i=>378
def Th.may (S:SvS):Th->Bool
 | .eY a=>(S.af a).w.may S.z
 | .gY i=>(S.aM i).may S.z
def Th.step (S:SvS):Th->SvS
 | .eY a=>{ S with all:=S.all.set a ⟨(S.af a).kb,(S.af a).n+1,((S.af a).w.step S.z).1⟩,z:=((S.af a).w.step S.z).2 }
 | .gY i=>{ S with aP:=S.aP.set i ((S.aM i).step S.z).1,z:=((S.aM i).step S.z).2 }
def Th.here (S:SvS):Th->Prop
 | .eY a=>a<S.all.length
 | .gY i=>i<S.aP.length
def vT:Nat->List (Option Nat)->List (Nat × Th)
 | _,[]=>[]
 | a,none::l=>vT (a+1) l
 | a,some k::l=>(a,.eY k)::vT (a+1) l
def ry:Nat->Nat->List dz->List (Nat × Th)
 | _,_,[]=>[]
 | a,i,_::l=>(a,.gY i)::ry (a+1) (i+1) l
def SvS.iH (S:SvS):List (Nat × Th):=vT 0 S.own++ry S.own.length 0 S.aP
def SvS.os (S:SvS):List (Option (Wk × Nat)):=S.own.map fun o=>o.map fun a=>((S.af a).w,(S.af a).kb)
def SvS.ps (S:SvS):List Nat:=S.aP.map dz.wb
def uf (S:SvS) (t:Nat × Th):Array Value:=#[U4 U3 t.1,.iface (t.2.ty S) (Qb (t.2.b S))]
theorem Ke (S:SvS):∀ (l:List (Option Nat)) (a:Nat),Z2 a (l.map fun o=>o.map fun a=>((S.af a).w,(S.af a).kb))=(vT a l).map (uf S)
 | [],_=>rfl
 | none::l,a=>Ke S l (a+1)
 | some k::l,a=>by
   show _::Z2 (a+1) _=_::(vT (a+1) l).map _
   rw [Ke S l (a+1)];rfl
theorem Pg (S:SvS):∀ (l:List dz) (a i:Nat),(∀ j c,l[j]?=some c->S.aP[i+j]?=some c)->wB a (l.map dz.wb)=(ry a i l).map (uf S)
 | [],_,_,_=>rfl
 | c::l,a,i,h=>by
   show _::wB (a+1) _=uf S (a,.gY i)::(ry (a+1) (i+1) l).map _
   rw [Pg S l (a+1) (i+1) (fun j d hd=>by
    have:=h (j+1) d hd
    rwa [show i+(j+1)=i+1+j by omega] at this)]
   have h0:=h 0 c rfl
   have:S.aM i=c:=by
    unfold SvS.aM;rw [U5,show i=i+0 from rfl,h0];rfl
   show _=(#[Value.int U3 a,UZ 269 (Qb (S.aM i).wb)]:Array Value)::_
   rw [this]
theorem qv9 (S:SvS):Z2 0 S.os++wB S.os.length S.ps=S.iH.map (uf S):=by
 unfold SvS.iH SvS.os SvS.ps;rw [List.map_append,Ke,List.length_map,Pg S S.aP S.own.length 0 (fun j c h=>by rwa [UT])]
theorem Dt:∀ (l:List (Option Nat)) (a:Nat) (t:Nat × Th),t∈vT a l->∃ k,t.2=.eY k/\some k∈l/\a<=t.1/\l[t.1 - a]?=some (some k)
 | none::l,a,t,h=>by
   obtain ⟨k,h1,h2,h3,h4⟩:=Dt l (a+1) t h;refine ⟨k,h1,US _ h2,by omega,?_⟩
   rw [show t.1 - a=(t.1 - (a+1))+1 by omega];exact h4
 | some k::l,a,t,h=>by
   rcases UY.1 h with rfl | h
   ·exact ⟨k,rfl,List.mem_cons_self,UW _,by simp⟩
   ·obtain ⟨k',h1,h2,h3,h4⟩:=Dt l (a+1) t h
    refine ⟨k',h1,US _ h2,by omega,?_⟩
    rw [show t.1 - a=(t.1 - (a+1))+1 by omega];exact h4
theorem FL:∀ (l:List dz) (a i:Nat) (t:Nat × Th),t∈ry a i l->∃ j,t.2=.gY (i+j)/\t.1=a+j/\j<l.length
 | c::l,a,i,t,h=>by
   rcases UY.1 h with rfl | h
   ·exact ⟨0,rfl,rfl,Nat.zero_lt_succ _⟩
   ·obtain ⟨j,h1,h2,h3⟩:=FL l (a+1) (i+1) t h
    exact ⟨j+1,by rw [h1,show i+1+j=i+(j+1) by omega],by omega,by simp;omega⟩
structure dN (N:Nat) (S:SvS):Prop where
 eF:lY N S.z
 eT:∀ j∈S.all,oL N j.w S.z.x/\0<=j.n/\j.n<=N
 aP:∀ c∈S.aP,mK N c
 own:∀ k,some k∈S.own->k<S.all.length
 ol:1<=S.own.length/\S.own.length<=1000
 cl:S.aP.length<=1000
 al:S.all.length<=N
 turn:∀ (a:Nat) (j:Jw),S.all[a]?=some j->j.w.isTurn=true->j.w.done=false->S.own[S.own.length - 1]?=some (some a)
theorem dN.mono {N M:Nat} {S:SvS} (h:dN N S) (hm:N<=M):dN M S :=
 ⟨h.eF.mono hm,fun j hj=>⟨(h.eT j hj).1.mono hm,(h.eT j hj).2.1,by have:=(h.eT j hj).2.2;omega⟩,fun c hc=>(h.aP c hc).mono hm,h.own,h.ol,h.cl,by have:=h.al;omega,h.turn⟩
theorem yR {N:Nat} {S:SvS} (h:dN N S) {t:Nat × Th} (ht:t∈S.iH):t.2.here S:=by
 rcases List.mem_append.1 ht with ht | ht
 ·obtain ⟨k,h1,h2,_⟩:=Dt _ _ _ ht
  rw [h1];exact h.own k h2
 ·obtain ⟨j,h1,_,h3⟩:=FL _ _ _ _ ht
  rw [h1,UT];exact h3
theorem Xd {S:SvS} {a:Nat} (h:a<S.all.length):S.all[a]?=some (S.af a):=by
 unfold SvS.af;rw [U5,U8 h];rfl
theorem Jo {S:SvS} {a:Nat} (h:a<S.aP.length):S.aP[a]?=some (S.aM a):=by
 unfold SvS.aM;rw [U5,U8 h];rfl
def Jb (L:Lay) (l:List Jw) (g:List ak):Prop:=Yy (fun (j:Jw) g=>oI L j.kb j.n j.w g) l g
theorem KV {P:Program} {f:UO} {args:Array Value} {a b c:List ak} {R:Ending->List ak->List ak->Prop} (hd:Qa P f args [a,c] fun e gs=>∃ a' c',R e a' c'/\gs=[a',c']) :
 Qa P f args [a,b,c] fun e gs=>∃ a' c',R e a' c'/\gs=[a',b,c']:=by
 intro w hw
 have h2:Yz ([a,c]++[b]) w:=hw.re (by
  classical
  refine U2.2 fun x=>?_
  simp only [UE,UA,UB,U9,U7]
  omega)
 refine (hd w h2.left).mono ?_
 rintro e w' ⟨gs,⟨a',c',hR,rfl⟩,T⟩;refine ⟨_,⟨a',c',hR,rfl⟩,((T.frame h2).re (H':=[a',b,c']) ?_).dO ?_⟩
 ·classical
  refine U2.2 fun x=>?_
  simp only [UE,UA,UB,U9,U7];omega
 ·classical
  refine U2.2 fun x=>?_
  simp only [UE,UA,UB,U9,U7];omega
theorem KU {P:Program} {f:UO} {args:Array Value} {a b c:List ak} {R:Ending->List ak->List ak->Prop} (hd:Qa P f args [a,c] fun e gs=>∃ a' c',R e a' c'/\gs=[a',c']) :
 Qa P f args [b,a,c] fun e gs=>∃ a' c',R e a' c'/\gs=[b,a',c']:=by
 intro w hw;have h2:Yz ([b]++[a,c]) w:=hw;refine (hd w h2.right).mono ?_
 rintro e w' ⟨gs,⟨a',c',hR,rfl⟩,T⟩;exact ⟨_,⟨a',c',hR,rfl⟩,T.yl h2⟩
section
variable {L:Lay} {S:SvS} {gJ gW gZ:List ak} {N:Nat} {t:Th}
theorem q9z (hn:dN N S) (ht:t.here S) (hj:Jb L S.all gJ) (hw:kU L S.aP gW) (hz:eZ L S.z gZ) (hN:N<999998) :
 Qa prog (t.jR S) #[Qb (t.b S)] [gJ,gW,gZ] fun e gs=>∃ dP gM cu,e=U1 (.bool (t.may S))/\Jb L S.all dP/\kU L S.aP gM/\eZ L S.z cu/\gs=[dP,gM,cu]:=by
 cases t with
 | eY a =>
   have hk:=Xd ht;have hjn:=(hn.eT _ (UD hk)).1;refine (KV (R:=fun e a' c'=>e=U1 (.bool (Th.may S (.eY a)))/\Jb L S.all a'/\eZ L S.z c') ((vW (R:=fun e a' bS=>e=U1 (.bool (Th.may S (.eY a)))/\a'=S.af a/\∃ gz,eZ L S.z gz/\bS=[gz]) hj hk (fun ga hga=>(q7a hga hz hn.eF hjn (by omega)).mono ?_)).mono ?_)).mono ?_
   ·rintro e gs ⟨g',cu,rfl,h1,h2,rfl⟩
    exact ⟨_,g',[cu],⟨rfl,rfl,cu,h2,rfl⟩,h1,rfl⟩
   ·rintro e gs ⟨a',g',bS,⟨rfl,rfl,gz,h1,rfl⟩,h2,rfl⟩
    rw [za hk] at h2;exact ⟨g',gz,⟨rfl,h2,h1⟩,rfl⟩
   ·rintro e gs ⟨a',c',⟨rfl,h1,h2⟩,rfl⟩
    exact ⟨a',gW,c',rfl,h1,hw,h2,rfl⟩
 | gY i =>
   have hk:=Jo ht;have hcn:=hn.aP _ (UD hk);refine (KU (R:=fun e a' c'=>e=U1 (.bool (Th.may S (.gY i)))/\kU L S.aP a'/\eZ L S.z c') ((vW (R:=fun e a' bS=>e=U1 (.bool (Th.may S (.gY i)))/\a'=S.aM i/\∃ gz,eZ L S.z gz/\bS=[gz]) hw hk (fun ga hga=>(q36 (c:=S.aM i) hga hz hn.eF hcn hN).mono ?_)).mono ?_)).mono ?_
   ·rintro e gs ⟨g',cu,rfl,h1,h2,rfl⟩
    exact ⟨_,g',[cu],⟨rfl,rfl,cu,h2,rfl⟩,h1,rfl⟩
   ·rintro e gs ⟨a',g',bS,⟨rfl,rfl,gz,h1,rfl⟩,h2,rfl⟩
    rw [za hk] at h2;exact ⟨g',gz,⟨rfl,h2,h1⟩,rfl⟩
   ·rintro e gs ⟨a',c',⟨rfl,h1,h2⟩,rfl⟩
    exact ⟨gJ,a',c',rfl,hj,h1,h2,rfl⟩
theorem q8o (hn:dN N S) (ht:t.here S) (hj:Jb L S.all gJ) (hw:kU L S.aP gW) (hz:eZ L S.z gZ) (hN:N<999998) (hm:t.may S=true) :
 Qa prog (t.fB S) #[Qb (t.b S)] [gJ,gW,gZ] fun e gs=>∃ dP gM cu,e=U1 (.bool true)/\Jb L (t.step S).all dP/\kU L (t.step S).aP gM/\eZ L (t.step S).z cu/\gs=[dP,gM,cu]:=by
 cases t with
 | eY a =>
   have hk:=Xd ht;obtain ⟨hjn,hn0,hn1⟩:=hn.eT _ (UD hk);refine (KV (R:=fun e a' c'=>e=U1 (.bool true)/\Jb L (Th.step S (.eY a)).all a'/\eZ L (Th.step S (.eY a)).z c') ((vW (R:=fun e a' bS=>e=U1 (.bool true)/\a'=⟨(S.af a).kb,(S.af a).n+1,((S.af a).w.step S.z).1⟩/\∃ gz,eZ L ((S.af a).w.step S.z).2 gz/\bS=[gz]) hj hk (fun ga hga=>(q4c hga hz hn.eF hjn (by omega) hm (by omega)).mono ?_)).mono ?_)).mono ?_
   ·rintro e gs ⟨g',cu,rfl,h1,h2,rfl⟩
    exact ⟨_,g',[cu],⟨rfl,rfl,cu,h2,rfl⟩,h1,rfl⟩
   ·rintro e gs ⟨a',g',bS,⟨rfl,rfl,gz,h1,rfl⟩,h2,rfl⟩
    exact ⟨g',gz,⟨rfl,h2,h1⟩,rfl⟩
   ·rintro e gs ⟨a',c',⟨rfl,h1,h2⟩,rfl⟩
    exact ⟨a',gW,c',rfl,h1,hw,h2,rfl⟩
 | gY i =>
   have hk:=Jo ht;have hcn:=hn.aP _ (UD hk);refine (KU (R:=fun e a' c'=>e=U1 (.bool true)/\kU L (Th.step S (.gY i)).aP a'/\eZ L (Th.step S (.gY i)).z c') ((vW (R:=fun e a' bS=>e=U1 (.bool true)/\a'=((S.aM i).step S.z).1/\∃ gz,eZ L ((S.aM i).step S.z).2 gz/\bS=[gz]) hw hk (fun ga hga=>(qz4 (c:=S.aM i) hga hz hn.eF hcn hN hm).mono ?_)).mono ?_)).mono ?_
   ·rintro e gs ⟨g',cu,rfl,h1,h2,rfl⟩
    exact ⟨_,g',[cu],⟨rfl,rfl,cu,h2,rfl⟩,h1,rfl⟩
   ·rintro e gs ⟨a',g',bS,⟨rfl,rfl,gz,h1,rfl⟩,h2,rfl⟩
    exact ⟨g',gz,⟨rfl,h2,h1⟩,rfl⟩
   ·rintro e gs ⟨a',c',⟨rfl,h1,h2⟩,rfl⟩
    exact ⟨gJ,a',c',rfl,hj,h1,h2,rfl⟩
theorem Mf (hn:dN N S) (ht:t.here S) (hj:Jb L S.all gJ) (hw:kU L S.aP gW) (hz:eZ L S.z gZ) (hN:N<999998) (hm:t.may S=false) :
 Qa prog (t.fB S) #[Qb (t.b S)] [gJ,gW,gZ] fun e gs=>∃ dP gM cu,e=U1 (.bool false)/\Jb L S.all dP/\kU L S.aP gM/\eZ L S.z cu/\gs=[dP,gM,cu]:=by
 cases t with
 | eY a =>
   have hk:=Xd ht;have hjn:=(hn.eT _ (UD hk)).1;refine (KV (R:=fun e a' c'=>e=U1 (.bool false)/\Jb L S.all a'/\eZ L S.z c') ((vW (R:=fun e a' bS=>e=U1 (.bool false)/\a'=S.af a/\∃ gz,eZ L S.z gz/\bS=[gz]) hj hk (fun ga hga=>(q9f hga hz hn.eF hjn (by omega) hm).mono ?_)).mono ?_)).mono ?_
   ·rintro e gs ⟨g',cu,rfl,h1,h2,rfl⟩
    exact ⟨_,g',[cu],⟨rfl,rfl,cu,h2,rfl⟩,h1,rfl⟩
   ·rintro e gs ⟨a',g',bS,⟨rfl,rfl,gz,h1,rfl⟩,h2,rfl⟩
    rw [za hk] at h2;exact ⟨g',gz,⟨rfl,h2,h1⟩,rfl⟩
   ·rintro e gs ⟨a',c',⟨rfl,h1,h2⟩,rfl⟩
    exact ⟨a',gW,c',rfl,h1,hw,h2,rfl⟩
 | gY i =>
   have hk:=Jo ht;have hcn:=hn.aP _ (UD hk);refine (KU (R:=fun e a' c'=>e=U1 (.bool false)/\kU L S.aP a'/\eZ L S.z c') ((vW (R:=fun e a' bS=>e=U1 (.bool false)/\a'=S.aM i/\∃ gz,eZ L S.z gz/\bS=[gz]) hw hk (fun ga hga=>(q61 (c:=S.aM i) hga hz hn.eF hcn hN hm).mono ?_)).mono ?_)).mono ?_
   ·rintro e gs ⟨g',cu,rfl,h1,h2,rfl⟩
    exact ⟨_,g',[cu],⟨rfl,rfl,cu,h2,rfl⟩,h1,rfl⟩
   ·rintro e gs ⟨a',g',bS,⟨rfl,rfl,gz,h1,rfl⟩,h2,rfl⟩
    rw [za hk] at h2;exact ⟨g',gz,⟨rfl,h2,h1⟩,rfl⟩
   ·rintro e gs ⟨a',c',⟨rfl,h1,h2⟩,rfl⟩
    exact ⟨gJ,a',c',rfl,hj,h1,h2,rfl⟩
end
end
section
open Go.RowKit Go.Shelf
structure mY (r:Qz):Prop where
 n1:1<=r.slots.length
 h0:0<=r.head
 ht:r.head<=r.tail
 tn:r.tail<=r.head+r.slots.length
 sq:∀ p,r.head<=p->p<r.head+r.slots.length->(r.slot p).seq=2*p\/(p<r.tail/\(r.slot p).seq=2*p+1)
theorem SA {n p q h:Int} (h1:h<=p) (h2:p<h+n) (h3:h<=q) (h4:q<h+n) (e:p % n=q % n):p=q:=by
 have hd:=Int.emod_emod_of_dvd (p - q) (Int.dvd_refl n);have h0:(p - q) % n=0:=Int.emod_eq_emod_iff_emod_sub_eq_zero.1 e;obtain ⟨c,hc⟩:=Int.dvd_of_emod_eq_zero h0;have hn:0<n:=by omega
 rcases Int.lt_trichotomy c 0 with h | h | h
 ·have:n*c<=n*(-1):=Int.mul_le_mul_of_nonneg_left (by omega) (by omega)
  omega
 ·subst h;rw [Int.mul_zero] at hc;omega
 ·have:n*1<=n*c:=Int.mul_le_mul_of_nonneg_left (by omega) (by omega)
  omega
theorem q70 {r:Qz} (h:1<=r.slots.length) (p:Int):r.at p<r.slots.length:=by
 unfold Qz.at;have h1:=UN p (b:=(r.slots.length:Int)) (by omega);have h2:=Int.emod_lt_of_pos p (b:=(r.slots.length:Int)) (by omega);omega
theorem NP {r:Qz} (h:1<=r.slots.length) {p q:Int} (e:r.at p=r.at q):p % (r.slots.length:Int)=q % (r.slots.length:Int):=by
 unfold Qz.at at e;have h1:=UN p (b:=(r.slots.length:Int)) (by omega);have h2:=UN q (b:=(r.slots.length:Int)) (by omega);omega
theorem QW {r:Qz} {r':Qz} (hn:1<=r.slots.length) {p:Int} {v:lW} (hs:r'.slots=r.slots.set (r.at p) v) (q:Int):r'.slot q=if r.at q=r.at p then v else r.slot q:=by
 have hl:r'.slots.length=r.slots.length:=by rw [hs,UM]
 have ha:r'.at q=r.at q:=by unfold Qz.at;rw [hl]
 unfold Qz.slot;rw [ha,hs,U5,UF];split
 ·rename_i h
  rw [if_pos h.symm,if_pos (by rw [h];exact q70 hn q)];rfl
 ·rename_i h
  rw [if_neg (fun e=>h e.symm),U5]
structure wF (r:Qz) (t:Xz):Prop where
 w:t.status=0->t.next=2->2*t.pos<=(r.slot t.pos).seq
 c:t.status=2->t.filled=false->r.head<=t.pos/\t.pos<r.tail/\(r.slot t.pos).seq=2*t.pos
theorem qwr (r:Qz):wF r Xp:=⟨fun _ h=>(by cases h),fun h=>(by cases h)⟩
section
variable {r:Qz} {t:Xz}
theorem q8n (hr:mY r) (ht:wF r t) (hs:t.status=0) (hn:t.next=2) (he:r.tail=t.pos):mY { r with tail:=t.pos+1 }/\r.head<=t.pos/\(r.slot t.pos).seq=2*t.pos:=by
 have hw:=ht.w hs hn;have h1:=hr.ht
 have hlt:t.pos<r.head+r.slots.length:=by
  rcases Int.lt_or_le t.pos (r.head+r.slots.length) with h | h
  ·exact h
  ·exfalso
   have e:t.pos=r.head+r.slots.length:=by have:=hr.tn;omega
   have hsl:r.slot t.pos=r.slot r.head:=by
    unfold Qz.slot Qz.at;rw [e,Int.add_emod_right]
   rw [hsl] at hw;have:=hr.n1;rcases hr.sq r.head (UG _) (by omega) with h | h <;> omega
 refine ⟨⟨hr.n1,hr.h0,by show r.head<=t.pos+1;omega,by show t.pos+1<=r.head+r.slots.length;omega,fun p h1 h2=>?_⟩,by omega,?_⟩
 ·rcases hr.sq p h1 h2 with h | ⟨h,h'⟩
  ·exact .inl h
  ·exact .inr ⟨by show p<t.pos+1;omega,h'⟩
 ·rcases hr.sq t.pos (by omega) hlt with h | h
  ·exact h
  ·omega
structure LM (r r':Qz):Prop where
 len:r'.slots.length=r.slots.length
 seq:∀ p,(r.slot p).seq<=(r'.slot p).seq
theorem wF.Ez {r':Qz} (h:wF r t) (hl:LM r r'):t.status=0->t.next=2->2*t.pos<=(r'.slot t.pos).seq :=
 fun a b=>Int.le_trans (h.w a b) (hl.seq _)
theorem q64 (hr:mY r) (h1:r.head<=t.pos) (h2:t.pos<r.tail) (h3:(r.slot t.pos).seq=2*t.pos) (v:Qp) {r':Qz} (e:r'={ r with slots:=r.slots.set (r.at t.pos) ⟨2*t.pos+1,v⟩ }) :
 mY r'/\LM r r'/\(∀ q,r.head<=q->q<r.tail->q≠t.pos->(r'.slot q).seq=(r.slot q).seq)/\(r'.slot t.pos).seq=2*t.pos+1:=by
 subst e;have hs:=fun q=>QW (r:=r) (r':={ r with slots:=r.slots.set (r.at t.pos) ⟨2*t.pos+1,v⟩ }) hr.n1 rfl q
 have htn:=hr.tn
 have hoth:∀ q,r.head<=q->q<r.head+r.slots.length->q≠t.pos->(Qz.slot { r with slots:=r.slots.set (r.at t.pos) ⟨2*t.pos+1,v⟩ } q)=r.slot q:=by
  intro q a b c;rw [hs,if_neg (fun e=>c (SA a b h1 (by omega) (NP hr.n1 e)))]
 have hown:(Qz.slot { r with slots:=r.slots.set (r.at t.pos) ⟨2*t.pos+1,v⟩ } t.pos).seq=2*t.pos+1:=by rw [hs,if_pos rfl]
 have hlen:(r.slots.set (r.at t.pos) ⟨2*t.pos+1,v⟩).length=r.slots.length:=UM;refine ⟨⟨by show 1<=(List.set _ _ _).length;rw [hlen];exact hr.n1,hr.h0,hr.ht,by show r.tail<=r.head+((List.set _ _ _).length:Int);rw [hlen];exact hr.tn,fun p a b=>?_⟩,⟨hlen,fun p=>?_⟩,fun q a b c=>?_,hown⟩
 ·change r.head<=p at a
  change p<r.head+((r.slots.set (r.at t.pos) ⟨2*t.pos+1,v⟩).length:Int) at b
  rw [hlen] at b;by_cases c:p=t.pos
  ·subst c;exact .inr ⟨h2,hown⟩
  ·rw [hoth p a b c];exact hr.sq p a b
 ·rw [hs]
  split
  ·rename_i e
   have:r.slot p=r.slot t.pos:=by unfold Qz.slot;rw [e]
   rw [this,h3]
   show 2*t.pos<=2*t.pos+1
   omega
  ·exact UG _
 ·rw [hoth q a (by omega) c]
theorem Oq (hr:mY r) (hp:r.ready=true):mY (J3 r).1/\LM r (J3 r).1/\(J3 r).1.head=r.head+1/\(J3 r).1.tail=r.tail/\r.head<r.tail/\(∀ q,r.head+1<=q->q<r.tail->((J3 r).1.slot q).seq=(r.slot q).seq):=by
 have e:(J3 r).1={ r with slots:=r.slots.set (r.at r.head) ⟨2*(r.head+r.slots.length),Qp.zero⟩,head:=r.head+1 }:=by unfold J3;rw [if_pos hp]
 have hq:(r.slot r.head).seq=2*r.head+1:=by simpa [Qz.ready] using hp
 have hn:=hr.n1;have htn:=hr.tn
 have hlt:r.head<r.tail:=by
  rcases hr.sq r.head (UG _) (by omega) with h | h
  ·omega
  ·exact h.1
 rw [e];have hs:=fun q=>QW (r:=r) (r':={ r with slots:=r.slots.set (r.at r.head) ⟨2*(r.head+r.slots.length),Qp.zero⟩,head:=r.head+1 }) hr.n1 rfl q
 have hlen:(r.slots.set (r.at r.head) ⟨2*(r.head+r.slots.length),Qp.zero⟩).length=r.slots.length:=UM
 have hoth:∀ q,r.head+1<=q->q<r.head+r.slots.length->(Qz.slot { r with slots:=r.slots.set (r.at r.head) ⟨2*(r.head+r.slots.length),Qp.zero⟩,head:=r.head+1 } q)=r.slot q:=by
  intro q a b;rw [hs,if_neg (fun e=>by have:=SA (h:=r.head) (by omega) b (UG _) (by omega) (NP hr.n1 e);omega)]
 refine ⟨⟨by show 1<=(List.set _ _ _).length;rw [hlen];exact hr.n1,by show 0<=r.head+1;have:=hr.h0;omega,hlt,by show r.tail<=r.head+1+((List.set _ _ _).length:Int);rw [hlen];omega,fun p a b=>?_⟩,⟨hlen,fun p=>?_⟩,rfl,rfl,hlt,fun q a b=>by rw [hoth q a (by omega)]⟩
 ·change r.head+1<=p at a
  change p<r.head+1+((r.slots.set (r.at r.head) ⟨2*(r.head+r.slots.length),Qp.zero⟩).length:Int) at b
  rw [hlen] at b;by_cases c:p<r.head+r.slots.length
  ·rw [hoth p a c];exact hr.sq p (by omega) c
  ·have e2:p=r.head+r.slots.length:=by omega
   refine .inl ?_
   have:r.at p=r.at r.head:=by unfold Qz.at;rw [e2,Int.add_emod_right]
   rw [hs,if_pos this,e2]
 ·rw [hs]
  split
  ·rename_i e
   have:r.slot p=r.slot r.head:=by unfold Qz.slot;rw [e]
   rw [this,hq]
   show 2*r.head+1<=2*(r.head+r.slots.length)
   omega
  ·exact UG _
end
def uL (t:Xz):Prop:=t.status=2/\t.filled=false
abbrev GZ:Type:=List (Option (Nat × Xz))
structure jk (T:GZ) (R:Nat->Option Qz):Prop where
 ring:∀ i r,R i=some r->mY r
 tick:∀ (a i:Nat) (t:Xz) (r:Qz),T[a]?=some (some (i,t))->R i=some r->wF r t
 uniq:∀ (a b i:Nat) (t u:Xz),T[a]?=some (some (i,t))->T[b]?=some (some (i,u))->uL t->uL u->t.pos=u.pos->a=b
 uy:∀ i r p,R i=some r->r.head<=p->p<r.tail->(r.slot p).seq=2*p+1\/∃ (a:Nat) (t:Xz),T[a]?=some (some (i,t))/\uL t/\t.pos=p
def lK (R:Nat->Option Qz) (i:Nat) (r:Qz):Nat->Option Qz:=fun n=>if n=i then some r else R n
theorem Jk {α:Type} {l:List α} {a b:Nat} {x y:α} (h:(l.set a x)[b]?=some y):(b=a/\y=x)\/(b≠a/\l[b]?=some y):=by
 rw [UF] at h;split at h
 ·rename_i e
  split at h
  ·exact .inl ⟨e.symm,by cases h;rfl⟩
  ·cases h
 ·rename_i e
  exact .inr ⟨fun e'=>e e'.symm,h⟩
theorem vX {α:Type} {l:List α} {a b:Nat} {x y:α} (h:l[b]?=some y) (hb:b≠a):(l.set a x)[b]?=some y:=by
 rw [UF,if_neg (fun e=>hb e.symm)];exact h
theorem get_set_same {α:Type} {l:List α} {a:Nat} {x y:α} (h:l[a]?=some y):(l.set a x)[a]?=some x:=by
 rw [UF,if_pos rfl,if_pos (U6.1 h).1]
section
variable {T:GZ} {R:Nat->Option Qz} {a i:Nat} {o o':Option (Nat × Xz)} {t t':Xz} {r r':Qz}
theorem qw5:lK R i r i=some r:=if_pos rfl
theorem Y2 {n:Nat} {q:Qz} (h:lK R i r n=some q):(n=i/\q=r)\/(n≠i/\R n=some q):=by
 unfold lK at h;split at h
 ·exact .inl ⟨by assumption,by cases h;rfl⟩
 ·exact .inr ⟨by assumption,h⟩
theorem jk.calm (h:jk T R) (hT:T[a]?=some o) (h0:∀ i t,o=some (i,t)->¬ uL t) (h1:∀ i t,o'=some (i,t)->¬ uL t/\∀ r,R i=some r->wF r t):jk (T.set a o') R where
 ring:=h.ring
 tick b i t r hb hr:=by
  rcases Jk hb with ⟨_,e⟩ | ⟨_,hB⟩
  ·exact (h1 i t e.symm).2 r hr
  ·exact h.tick b i t r hB hr
 uniq b c i t u hb hc k1 k2 e:=by
  rcases Jk hb with ⟨_,e1⟩ | ⟨_,hB⟩
  ·exact absurd k1 (h1 i t e1.symm).1
  ·rcases Jk hc with ⟨_,e1⟩ | ⟨_,hC⟩
   ·exact absurd k2 (h1 i u e1.symm).1
   ·exact h.uniq b c i t u hB hC k1 k2 e
 uy i r p hr a1 a2:=by
  rcases h.uy i r p hr a1 a2 with h' | ⟨b,t,hb,hc,hp⟩
  ·exact .inl h'
  ·refine .inr ⟨b,t,vX hb (fun e=>?_),hc,hp⟩
   subst e;rw [hT] at hb;exact h0 i t (Option.some.inj hb) hc
theorem jk.take (h:jk T R) (hT:T[a]?=some (some (i,t))) (hr:R i=some r) (hs:t.status=0) (hn:t.next=2) (he:r.tail=t.pos) (h1:t'.status=2) (h2:t'.filled=false) (h3:t'.pos=t.pos) (hr':r'={ r with tail:=t.pos+1 }) :
 jk (T.set a (some (i,t'))) (lK R i r'):=by
 subst hr';have hk:=h.tick a i t r hT hr;obtain ⟨k1,k2,k3⟩:=q8n (h.ring i r hr) hk hs hn he;have hsl:∀ q,Qz.slot { r with tail:=t.pos+1 } q=r.slot q:=fun q=>rfl
 have hold:∀ u,wF r u->wF { r with tail:=t.pos+1 } u:=fun u hu=>⟨hu.w,fun x y=>⟨(hu.c x y).1,by have:=(hu.c x y).2.1;show u.pos<t.pos+1;omega,(hu.c x y).2.2⟩⟩
 refine ⟨fun n q hq=>?_,fun b n u q hb hq=>?_,fun b c n u v hb hc c1 c2 e=>?_,fun n q p hq a1 a2=>?_⟩
 ·rcases Y2 hq with ⟨_,rfl⟩ | ⟨_,hq⟩
  ·exact k1
  ·exact h.ring n q hq
 ·rcases Jk hb with ⟨_,e⟩ | ⟨_,hB⟩
  ·cases e
   rcases Y2 hq with ⟨_,rfl⟩ | ⟨x,_⟩
   ·exact ⟨fun x=>by omega,fun _ _=>⟨by rw [h3];exact k2,by show t'.pos<t.pos+1;omega,by rw [h3,hsl];exact k3⟩⟩
   ·exact absurd rfl x
  ·rcases Y2 hq with ⟨rfl,rfl⟩ | ⟨_,hq⟩
   ·exact hold u (h.tick b _ u r hB hr)
   ·exact h.tick b n u q hB hq
 ·have hlt:∀ d (w:Xz),T[d]?=some (some (i,w))->uL w->w.pos<t.pos:=fun d w hd hw=>by
   have:=((h.tick d i w r hd hr).c hw.1 hw.2).2.1;omega
  rcases Jk hb with ⟨rfl,e1⟩ | ⟨nb,hB⟩
  ·cases e1
   rcases Jk hc with ⟨rfl,_⟩ | ⟨_,hC⟩
   ·rfl
   ·have:=hlt c v hC c2;omega
  ·rcases Jk hc with ⟨rfl,e1⟩ | ⟨_,hC⟩
   ·cases e1
    have:=hlt b u hB c1;omega
   ·exact h.uniq b c n u v hB hC c1 c2 e
 ·have hnc:¬ uL t:=fun x=>by have:=x.1;omega
  rcases Y2 hq with ⟨rfl,rfl⟩ | ⟨hni,hq⟩
  ·change r.head<=p at a1
   change p<t.pos+1 at a2
   by_cases c:p=t.pos
   ·exact .inr ⟨a,t',get_set_same hT,⟨h1,h2⟩,by rw [h3,c]⟩
   ·rcases h.uy n r p hr a1 (by omega) with h' | ⟨b,u,hb,hc,hp⟩
    ·exact .inl h'
    ·refine .inr ⟨b,u,vX hb (fun e=>?_),hc,hp⟩
     subst e;rw [hT] at hb;cases hb
     exact hnc hc
  ·rcases h.uy n q p hq a1 a2 with h' | ⟨b,u,hb,hc,hp⟩
   ·exact .inl h'
   ·refine .inr ⟨b,u,vX hb (fun e=>?_),hc,hp⟩
    subst e;rw [hT] at hb;cases hb
    exact hnc hc
theorem jk.fill (h:jk T R) (hT:T[a]?=some (some (i,t))) (hr:R i=some r) (hs:t.status=2) (hf:t.filled=false) (h1:¬ uL t') (h2:t'.status=2) (v:Qp) (hr':r'={ r with slots:=r.slots.set (r.at t.pos) ⟨2*t.pos+1,v⟩ }) :
 jk (T.set a (some (i,t'))) (lK R i r'):=by
 obtain ⟨b1,b2,b3⟩:=(h.tick a i t r hT hr).c hs hf;obtain ⟨k1,k2,k3,k4⟩:=q64 (h.ring i r hr) b1 b2 b3 v hr';have hh:r'.head=r.head/\r'.tail=r.tail:=by rw [hr'];exact ⟨rfl,rfl⟩
 refine ⟨fun n q hq=>?_,fun b n u q hb hq=>?_,fun b c n u v hb hc c1 c2 e=>?_,fun n q p hq a1 a2=>?_⟩
 ·rcases Y2 hq with ⟨_,rfl⟩ | ⟨_,hq⟩
  ·exact k1
  ·exact h.ring n q hq
 ·rcases Jk hb with ⟨_,e⟩ | ⟨nb,hB⟩
  ·cases e
   exact ⟨fun x=>by omega,fun x y=>absurd ⟨x,y⟩ h1⟩
  ·rcases Y2 hq with ⟨rfl,rfl⟩ | ⟨_,hq⟩
   ·have hu:=h.tick b n u r hB hr
    refine ⟨hu.Ez k2,fun x y=>?_⟩
    obtain ⟨d1,d2,d3⟩:=hu.c x y;have hne:u.pos≠t.pos:=fun e=>nb (h.uniq b a n u t hB hT ⟨x,y⟩ ⟨hs,hf⟩ e)
    exact ⟨by rw [hh.1];exact d1,by rw [hh.2];exact d2,by rw [k3 _ d1 d2 hne];exact d3⟩
   ·exact h.tick b n u q hB hq
 ·rcases Jk hb with ⟨rfl,e1⟩ | ⟨nb,hB⟩
  ·cases e1;exact absurd c1 h1
  ·rcases Jk hc with ⟨rfl,e1⟩ | ⟨_,hC⟩
   ·cases e1;exact absurd c2 h1
   ·exact h.uniq b c n u v hB hC c1 c2 e
 ·rcases Y2 hq with ⟨rfl,rfl⟩ | ⟨hni,hq⟩
  ·rw [hh.1] at a1
   rw [hh.2] at a2;by_cases c:p=t.pos
   ·exact .inl (by rw [c];exact k4)
   ·rcases h.uy n r p hr a1 a2 with h' | ⟨b,u,hb,hc,hp⟩
    ·exact .inl (by rw [k3 p a1 a2 c];exact h')
    ·refine .inr ⟨b,u,vX hb (fun e=>?_),hc,hp⟩
     subst e;rw [hT] at hb;cases hb
     exact c hp.symm
  ·rcases h.uy n q p hq a1 a2 with h' | ⟨b,u,hb,hc,hp⟩
   ·exact .inl h'
   ·refine .inr ⟨b,u,vX hb (fun e=>?_),hc,hp⟩
    subst e;rw [hT] at hb;cases hb
    exact hni rfl
theorem jk.pop (h:jk T R) (hr:R i=some r) (hp:r.ready=true):jk T (lK R i (J3 r).1):=by
 obtain ⟨k1,k2,k3,k4,k5,k6⟩:=Oq (h.ring i r hr) hp;have hq:(r.slot r.head).seq=2*r.head+1:=by simpa [Qz.ready] using hp
 refine ⟨fun n q hq=>?_,fun b n u q hb hq=>?_,h.uniq,fun n q p hq a1 a2=>?_⟩
 ·rcases Y2 hq with ⟨_,rfl⟩ | ⟨_,hq⟩
  ·exact k1
  ·exact h.ring n q hq
 ·rcases Y2 hq with ⟨rfl,rfl⟩ | ⟨_,hq⟩
  ·have hu:=h.tick b n u r hb hr
   refine ⟨hu.Ez k2,fun x y=>?_⟩
   obtain ⟨d1,d2,d3⟩:=hu.c x y;have hne:u.pos≠r.head:=fun e=>by rw [e] at d3;omega
   exact ⟨by rw [k3];omega,by rw [k4];exact d2,by rw [k6 _ (by omega) d2];exact d3⟩
  ·exact h.tick b n u q hb hq
 ·rcases Y2 hq with ⟨rfl,rfl⟩ | ⟨hni,hq⟩
  ·rw [k3] at a1
   rw [k4] at a2;rcases h.uy n r p hr (by omega) a2 with h' | h'
   ·exact .inl (by rw [k6 p a1 a2];exact h')
   ·exact .inr h'
  ·exact h.uy n q p hq a1 a2
theorem jk.step (h:jk T R) (hT:T[a]?=some (some (i,t))) (hr:R i=some r) (hs:t.status=0) (hf:t.filled=false) (hn:t.next=0\/t.next=1\/t.next=2):jk (T.set a (some (i,(stepT r t).2))) (lK R i (stepT r t).1):=by
 have hnc:∀ j u,some (i,t)=some (j,u)->¬ uL u:=fun j u e x=>by cases e;have:=x.1;omega
 have hsame:lK R i r=R:=by
  funext n
  unfold lK;split
  ·rename_i e;rw [e,hr]
  ·rfl
 have hcalm:∀ t':Xz,¬ uL t'->wF r t'->jk (T.set a (some (i,t'))) (lK R i r):=fun t' c1 c2=>by
  rw [hsame];refine h.calm hT hnc (fun j u e=>?_)
  cases e
  exact ⟨c1,fun q hq=>by rw [hr] at hq;cases hq;exact c2⟩
 unfold stepT;rw [if_neg (by omega)];split
 ·exact hcalm _ (fun x=>by have:=x.1;simp only [qP] at this;omega) ⟨fun _ x=>by simp only [qP] at x;omega,fun x=>by simp only [qP] at x;omega⟩
 ·split
  ·refine hcalm _ ?_ ?_
   ·unfold pV
    split
    ·exact fun x=>by have:=x.1;simp only at this;omega
    ·split
     ·exact fun x=>by have:=x.1;simp only at this;omega
     ·exact fun x=>by have:=x.1;simp only at this;omega
   ·unfold pV
    split
    ·exact ⟨fun _ x=>by simp only at x;omega,fun x=>by simp only at x;omega⟩
    ·split
     ·exact ⟨fun x=>by simp only at x;omega,fun x=>by simp only at x;omega⟩
     ·rename_i w1 w2
      exact ⟨fun _ _=>by simp only;omega,fun x=>by simp only at x;omega⟩
  ·unfold o9
   split
   ·exact h.take hT hr hs (by omega) (by assumption) rfl hf rfl rfl
   ·exact hcalm _ (fun x=>by have:=x.1;simp only at this;omega) ⟨fun _ x=>by simp only at x;omega,fun x=>by simp only at x;omega⟩
theorem jk.snoc (h:jk T R) (h0:∀ i t,o=some (i,t)->False):jk (T++[o]) R:=by
 have hg:∀ (b:Nat) i t,(T++[o])[b]?=some (some (i,t))->T[b]?=some (some (i,t)):=by
  intro b i t hb;rcases Nat.lt_or_ge b T.length with hl | hl
  ·rwa [UK hl] at hb
  ·rw [UJ hl] at hb
   rcases Nat.eq_zero_or_pos (b - T.length) with e | e
   ·rw [e] at hb;simp only [List.getElem?_cons_zero,UQ] at hb;exact (h0 _ _ hb).elim
   ·rw [List.getElem?_eq_none (by simp;omega)] at hb;cases hb
 exact ⟨h.ring,fun b i t r hb=>h.tick b i t r (hg b i t hb),fun b c i t u hb hc=>h.uniq b c i t u (hg _ _ _ hb) (hg _ _ _ hc),fun i r p hr a1 a2=>(h.uy i r p hr a1 a2).imp id fun ⟨b,t,hb,hc,hp⟩=>⟨b,t,by rw [UK (U6.1 hb).1];exact hb,hc,hp⟩⟩
end
def Wk.tk:Wk->Option (Nat × Xz)
 | .call _ k=>k.tk
 | _=>none
def Qi.rg (x:Qi) (i:Nat):Option Qz:=(x.au[i]?).map Qu.ring
theorem LZ {α:Type} {l:List α} {a:Nat} {x:α} (h:l[a]?=some x):l.set a x=l:=by
 apply List.ext_getElem?
 intro b;rw [UF];split
 ·rename_i e
  subst e;rw [if_pos (U6.1 h).1,h]
 ·rfl
theorem yU {x x':Qi} {i:Nat} {s:Qu} {r:Qz} (hs:x.au[i]?=some s) (h:x'.au=x.au.set i { s with ring:=r }):x'.rg=lK x.rg i r:=by
 funext n
 unfold Qi.rg lK;rw [h,UF];split
 ·rename_i e
  subst e;rw [if_pos (U6.1 hs).1,if_pos rfl];rfl
 ·rename_i e
  rw [if_neg (fun e'=>e e'.symm)]
theorem z6 {x x':Qi} (h:x'.au=x.au):x'.rg=x.rg:=by funext n;unfold Qi.rg;rw [h]
theorem qvj {N:Nat} {T:GZ} {a:Nat} {k k':Qv} {x x':Qi} (h:jk T x.rg) (hT:T[a]?=some k.tk) (hk:Zn N k x) {f:Prop} (e:wI f k k' x x'):jk (T.set a k'.tk) x'.rg:=by
 have hrg:∀ {i:Nat} {s:Qu},x.au[i]?=some s->x.rg i=some s.ring:=fun hs=>by unfold Qi.rg;rw [hs];rfl
 cases e with
 | none h1 h2=>rw [z6 h1,h2,LZ hT];exact h
 | new h1 h0 i hi h2 =>
   rw [z6 h1,h2];refine h.calm hT (fun j t e c=>h0 j t e c) (fun j t e=>?_)
   cases e
   exact ⟨fun c=>by have:=c.1;simp [Xp] at this,fun r _=>qwr r⟩
 | step i t s h0 ht hf hs h1 h2 =>
   rw [yU hs h1,h2];rw [h0] at hT;exact h.step hT (hrg hs) ht hf (hk.tk i t h0).1.nx
 | fill i t s v h0 ht hf hs hv h1 h2 =>
   rw [yU hs h1,h2];rw [h0] at hT;have e:Zp s.ring t v=({ s.ring with slots:=s.ring.slots.set (s.ring.at t.pos) ⟨2*t.pos+1,v⟩ },{ t with filled:=true },0):=by unfold Zp;rw [if_pos ⟨ht,hf⟩]
   rw [e];exact h.fill hT (hrg hs) ht hf (fun c=>by cases c.2) ht v rfl
def St.allM {M A Y:Type} (p:M->Prop) (q:A->Prop):St M A Y->Prop
 | .nil=>True
 | .at _ m=>p m
 | .aj a=>q a
 | .aO a _=>q a
 | .thn s m=>s.allM p q/\p m
theorem St.su {M A Y α:Type} {runM:M->α->St M A Y × α} {bN:A->α->α} {R:α->α->Prop} {p:M->Prop} {q:A->Prop} (hr:∀ z,R z z) (ht:∀ x y z,R x y->R y z->R x z) (hm:∀ m z,p m->R z (runM m z).2) (ha:∀ a z,q a->R z (bN a z)) :
 ∀ (s:St M A Y) (z:α),s.allM p q->R z (St.run runM bN s z).2
 | .nil,z,_=>hr z
 | .at _ m,z,h=>hm m z h
 | .aj a,z,h=>ha a z h
 | .aO a _,z,h=>ha a z h
 | .thn s m,z,h=>by
   have h1:=St.su (Y:=Y) hr ht hm ha s z h.1
   show R z (Qe runM (s.run runM bN z).1 m (s.run runM bN z).2).2
   unfold Qe;split
   ·exact ht _ _ _ h1 (hm m _ h.2)
   ·exact h1
theorem qpq {M A Y α:Type} {runM:M->α->St M A Y × α} {R:α->α->Prop} (hr:∀ z,R z z) {m:M} (hm:∀ z,R z (runM m z).2) (s:St M A Y) (z:α):R z (Qe runM s m z).2:=by
 unfold Qe;split
 ·exact hm z
 ·exact hr z
structure Z4 (z z':ZT):Prop where
 inside:z'.x.f.inside=z.x.f.inside
 rg:z'.x.rg=z.x.rg
 who:vZ z.x z'.x
 s:z'.k.s=z.k.s
theorem Z4.refl (z:ZT):Z4 z z:=⟨rfl,rfl,fun _=>rfl,rfl⟩
theorem Z4.trans {x y z:ZT} (a:Z4 x y) (b:Z4 y z):Z4 x z:=⟨b.inside.trans a.inside,b.rg.trans a.rg,fun j=>(b.who j).trans (a.who j),b.s.trans a.s⟩
def II:MT->Prop
 | .enter=>False
 | .tick=>False
 | .ae _=>False
 | .dH _=>False
 | .bI _=>False
 | _=>True
def IG:AT->Prop
 | .leave1=>False
 | .unlock=>False
 | _=>True
theorem Yn {z z':ZT} (h1:z'.x.f.inside=z.x.f.inside) (h2:z'.x.au=z.x.au) (h3:z'.k.s=z.k.s):Z4 z z':=⟨h1,z6 h2,fun j=>by rw [h2],h3⟩
theorem OK (st:Int) (z:ZT):Z4 z (Qs st z).1:=Yn rfl rfl rfl
theorem Ye (ev:Int) (z:ZT):Z4 z (Qk ev z).1:=Yn rfl rfl rfl
theorem PT (E:EvS) (z:ZT):Z4 z (z.note E):=Yn rfl rfl rfl
theorem qvm (z:ZT):Z4 z (jy z):=Yn rfl rfl rfl
theorem Pn (d i:Nat) (z:ZT):Z4 z (Qo d i z).2:=by
 unfold Qo;split
 ·exact Z4.refl z
 ·exact Yn rfl rfl rfl
theorem KN (m:MT) (z:ZT) (h:II m):Z4 z (runT m z).2:=by
 cases m with
 | enter=>exact h.elim
 | tick=>exact h.elim
 | ae i=>exact h.elim
 | dH d=>exact h.elim
 | bI n=>exact h.elim
 | gate =>
   show Z4 z ((if z.x.f.closed=true then Ys 3 z else (.at none .tick,z)):ST × ZT).2
   split
   ·exact Yn rfl rfl rfl
   ·exact Z4.refl z
 | bX d =>
   show Z4 z ((if z.aW.ring.tail - z.aW.ring.head<=0 then J0 d z else (.thn (Q5 (z.aW.ring.tail - z.aW.ring.head) z) (.ai d),z)):ST × ZT).2
   split <;> exact Z4.refl z
 | ai d=>exact Z4.refl z
 | aL d =>
   show Z4 z ((match z.k.due[0]? with | none=>(.aj .unlock,z) | some _=>(.thn (Qo d 0 z).1 .ay,(Qo d 0 z).2)):ST × ZT).2
   split
   ·exact Z4.refl z
   ·exact Pn d 0 z
 | ay=>exact Z4.refl z
 | ax n=>exact Z4.refl z
 | bA =>
   show Z4 z ((if (Qs 2 z).2=true then (.at none .aI,(Qs 2 z).1) else (.nil,(Qs 2 z).1)):ST × ZT).2
   split <;> exact OK 2 z
 | aI =>
   show Z4 z ((if (Qk 3 z).2=true then (.nil,jy (Qk 3 z).1) else (Qx (Qk 3 z).1,(Qk 3 z).1)):ST × ZT).2
   split
   ·exact (Ye 3 z).trans (qvm _)
   ·exact Ye 3 z
 | aF d i=>exact Pn d (i+1) z
 | looks =>
   show Z4 z ((if (Qs 3 z).2=true then (.at none .bE,(Qs 3 z).1) else (.nil,(Qs 3 z).1)):ST × ZT).2
   split <;> exact OK 3 z
 | bE =>
   show Z4 z ((if (Qk 4 z).2=true then (.thn (.aj (.put ⟨z.k.t.id,z.k.t.gen,z.k.t.dl,z.k.now⟩)) .bD,(Qk 4 z).1.note { bL with kind:=5,id:=z.k.t.id,gen:=z.k.t.gen,dl:=z.k.t.dl,tick:=z.k.now }) else (.at none .looks,(Qk 4 z).1)):ST × ZT).2
   split
   ·exact (Ye 4 z).trans (PT _ _)
   ·exact Ye 4 z
 | bD=>exact Z4.refl z
 | behind =>
   show Z4 z ((if bB (z.x.aa.word z.k.t.slot)≠4\/Xv (z.x.aa.word z.k.t.slot)≠z.k.t.gen then (St.nil,({ z with k:={ z.k with aB:=z.x.aa.word z.k.t.slot } }:ZT))
    else if 0<z.k.t.per/\Xr (z.x.aa.word z.k.t.slot)=false/\z.k.t.dl+z.k.t.per<18446744073709551616 then (.at none (.aY (z.k.t.dl+z.k.t.per)),{ z with k:={ z.k with aB:=z.x.aa.word z.k.t.slot } }) else (.at none .aQ,{ z with k:={ z.k with aB:=z.x.aa.word z.k.t.slot } })):ST × ZT).2
   split
   ·exact Yn rfl rfl rfl
   ·split <;> exact Yn rfl rfl rfl
 | aY next =>
   show Z4 z ((if (Qk 5 z).2=true then (.nil,jy { (Qk 5 z).1 with k:={ z.k with t:={ z.k.t with gen:=z.k.t.gen+1,dl:=next } } }) else (.at none .behind,(Qk 5 z).1)):ST × ZT).2
   split
   ·exact Yn rfl rfl rfl
   ·exact Ye 5 z
 | aQ =>
   show Z4 z ((if (Qk 9 z).2=true then (.aO .rel .drop,if 0<z.k.t.per/\Xr z.k.aB=false then (Qk 9 z).1.note { bL with kind:=14,id:=z.k.t.id,gen:=z.k.t.gen } else (Qk 9 z).1) else (.at none .behind,(Qk 9 z).1)):ST × ZT).2
   split
   ·show Z4 z (if _ then _ else _)
    split
    ·exact (Ye 9 z).trans (PT _ _)
    ·exact Ye 9 z
   ·exact Ye 9 z
theorem qzm (a:AT) (z:ZT) (h:IG a):Z4 z (Q6 a z):=by
 cases a with
 | leave1=>exact h.elim
 | unlock=>exact h.elim
 | answer=>exact Yn rfl rfl rfl
 | bG d=>exact Yn rfl rfl rfl
 | put f=>exact Yn rfl rfl rfl
 | rel=>exact Yn rfl rfl rfl
 | drop=>exact Yn rfl rfl rfl
theorem Po (s:ST) (z:ZT) (h:s.allM II IG):Z4 z (St.run runT Q6 s z).2 :=
 St.su (Y:=YT) Z4.refl (fun _ _ _=>Z4.trans) KN qzm s z h
end
end Go.Proofs.YtcneeepdclgdcaaGreat
