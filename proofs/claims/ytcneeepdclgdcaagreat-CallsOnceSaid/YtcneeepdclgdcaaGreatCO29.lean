import Derived.Test.YtcneeepdclgdcaaGreatCO23
import Derived.Test.YtcneeepdclgdcaaGreatCO27
import Derived.Test.YtcneeepdclgdcaaGreatCO28
import Derived.Test.YtcneeepdclgdcaaGreatCO15
import Derived.Deep.RegionHeld3
import Derived.Test.YtcneeepdclgdcaaGreatCO22
import Derived.Test.YtcneeepdclgdcaaGreatCO14
import Derived.Test.YtcneeepdclgdcaaGreatCO26
import Derived.Deep.LoopGhost
import Derived.Conc.LoneCalls
import Derived.Test.YtcneeepdclgdcaaGreatCO16
import Derived.Test.YtcneeepdclgdcaaGreatCO12
set_option maxRecDepth 100000
set_option maxHeartbeats 4000000
namespace Go.Proofs.YtcneeepdclgdcaaGreat
set_option linter.unusedVariables false
set_option linter.unusedSimpArgs false
section
open Go.RowKit Go.Shelf
structure qgj where
 th:Int
 no:Int
 err:Int
 ok:Bool
 now:Int
 s:Option Nat
 t:Qn
 saw:Int
 nd:Nat
 due:List Qn
inductive MT where
 | enter | gate | tick | shards1 (i:Nat) | one2 (d:Nat) | one21 (d:Nat) | one211 (d:Nat) | one2112 (d:Nat) | one21121 | pops1 (n:Int) | pops11 (n:Int)
 | rec1 | rec11 | fires1 (d:Nat) (i:Nat) | looks | claims | claims2 | behind | rearm1 (next:Int) | finishes
inductive AT where
 | leave1 | answer | turnA (d:Nat) | unlock | put (f:qgv) | rel | drop
inductive YT where
 | lock | ready (i:Nat)
abbrev ST:Type:=St MT AT YT
def qk4:qg8:=ql7.s
structure ZF where
 x:Qk
 ws:List qg8
 p:qj9
 lg:List qgv
def zf0 (c:Cfg):ZF:=⟨qfr c,List.replicate c.sh.toNat qk4,qk2 c.room.toNat,[]⟩
end
section
open Go.RowKit Go.Shelf
attribute [local go_sem] Oper.semAt_some
end
section
open Go.RowKit Go.Shelf Go.Conc
attribute [local go_sem] Oper.semAt_some
end
section
open Go.RowKit Go.Shelf
attribute [local go_sem] Oper.semAt_some
end
section
open Go.RowKit Go.Shelf
structure WkrS where
 holds:List qgv
 worked:Int
inductive MW where
 | takes | takes1
inductive AW where
 | puts
inductive YW where
 | ready
abbrev SW:Type:=St MW AW YW
end
section
open Go.RowKit Go.Shelf
attribute [local go_sem] Oper.semAt_some
def wkr0:WkrS:=⟨[],0⟩
def qj1:SW:=.at (some .ready) .takes1
structure WkN where
 wb:Nat
 s:SW
 n:Int
 k:WkrS
end
section
open Go.RowKit Go.Shelf
theorem qbk {α:Type} {Pr:Program} {f:FuncId} {args:Array Value} {P:α→List Blk→Prop} {l:List α} {g:List Blk} {k:Nat} {a:α} (hf:qcg P l g) (hk:l[k]?=some a) {rest:GH} {R:Ending→α→GH→Prop}
 (hd:∀ ga,P a ga→Qa Pr f args (ga::rest) fun e gs=>∃ a' ga' rest',R e a' rest'∧P a' ga'∧gs=ga'::rest') :
 Qa Pr f args (g::rest) fun e gs=>∃ a' g' rest',R e a' rest'∧qcg P (l.set k a') g'∧gs=g'::rest':=by
 obtain ⟨x,y,hx,hp,hr⟩:=hf.out hk;intro w hw
 have h2:Ye ((x::rest)++[y]) w:=hw.re (by
  classical
  have:=List.perm_iff_count.1 hp;refine List.perm_iff_count.2 fun b=>?_
  have:=this b;simp only [List.flatten_append,List.flatten_cons,List.flatten_nil,List.append_nil,List.count_append] at this ⊢
  omega)
 refine (hd x hx w h2.left).mono ?_
 rintro e w' ⟨gs,⟨a',ga',rest',hR,hP,rfl⟩,T⟩;obtain ⟨g',hg',hp'⟩:=hr a' ga' hP;refine ⟨_,⟨a',g',rest',hR,hg',rfl⟩,((T.frame h2).re (H':=g'::rest') ?_).basePerm ?_⟩
 ·classical
  have:=List.perm_iff_count.1 hp';refine List.perm_iff_count.2 fun b=>?_
  have:=this b;simp only [List.flatten_append,List.flatten_cons,List.flatten_nil,List.append_nil,List.count_append] at this ⊢;omega
 ·classical
  have:=List.perm_iff_count.1 hp;refine List.perm_iff_count.2 fun b=>?_
  have:=this b;simp only [List.flatten_append,List.flatten_cons,List.flatten_nil,List.append_nil,List.count_append] at this ⊢;omega
theorem Ym {α:Type} {l:List α} {k:Nat} {a:α} (h:l[k]?=some a):l.set k a=l:=by
 obtain ⟨h1,h2⟩:=List.getElem?_eq_some_iff.1 h;subst h2;exact List.set_getElem_self h1
inductive Wk where
 | call (s:SC) (k:Ql)
 | turn (s:ST) (k:qgj)
 | clo (s:SS) (k:qlz)
def Wk.done:Wk→Bool
 | .call s _=>s.isNil
 | .turn s _=>s.isNil
 | .clo s _=>s.isNil
def q6:SC→Ql→Int
 | .nil,_=>0
 | .at none .right,_=>0
 | .at none .enter,_=>0
 | .row1 .ends1,_=>0
 | _,k=>if k.kind≤3 then 1 else 0
def qgb:SC→Ql→Prop
 | .nil,k=>True
 | .at none .right,k=>k.kind=1∨k.kind=2
 | .at none .enter,k=>1≤k.kind∧k.kind≤3
 | .at none .gate,k=>1≤k.kind∧k.kind≤5
 | .at none .looks,k=>3≤k.kind∧k.kind≤5
 | .at none .asks,k=>k.kind=1∨k.kind=2
 | .at none .queues,k=>1≤k.kind∧k.kind≤3
 | .at none .submits,k=>k.kind=1∨k.kind=2
 | .at none .fills,k=>1≤k.kind∧k.kind≤3
 | .at none .again,k=>k.kind=3
 | .at none .tries,k=>3≤k.kind∧k.kind≤5
 | .row1 .ends1,k=>True
 | .thn (.row1 .leaves1) .ends,k=>1≤k.kind∧k.kind≤3
 | .thn (.row2 .undo .drop) .leaves,k=>k.kind=1∨k.kind=2
 | .thn (.row1 .drop) .leaves,k=>k.kind=1∨k.kind=2
 | .thn (.row1 .again1) .leaves,k=>k.kind=3
 | .thn (.row2 .tries1 .drop) .ends,k=>k.kind=4
 | .thn (.row1 .drop) .ends,k=>k.kind=4
 | _,_=>False
def Jl (k:Ql):Prop:=∀ i t,k.tk=some (i,t)→¬ (t.status=2∧t.filled=false)
def Y1 (k:Ql):Prop:=∃ i t,k.tk=some (i,t)∧t.status=2∧t.filled=false
def qam:SC→Ql→Prop
 | .at none .queues,k=>∃ i t,k.tk=some (i,t)∧t.status=0∧t.filled=false
 | .at none .submits,k=>Y1 k
 | .at none .fills,k=>Y1 k
 | .at none .again,k=>Y1 k
 | .at none .tries,k=>if k.kind=3 then Y1 k else Jl k
 | .thn (.row1 .again1) .leaves,k=>Y1 k
 | _,k=>Jl k
inductive qjx (f:Prop) (k k':Ql) (x x':Qk):Prop where
 | none (h1:x'.shs=x.shs) (h2:k'.tk=k.tk):qjx f k k' x x'
 | new (h1:x'.shs=x.shs) (h0:Jl k) (i:Nat) (hi:i<x.shs.length) (h2:k'.tk=some (i,Qx)):qjx f k k' x x'
 | step (i:Nat) (t:Q4) (s:Qy) (h0:k.tk=some (i,t)) (ht:t.status=0) (hf:t.filled=false) (hs:x.shs[i]?=some s) (h1:x'.shs=x.shs.set i { s with ring:=(stepT s.ring t).1 }) (h2:k'.tk=some (i,(stepT s.ring t).2)):qjx f k k' x x'
 | fill (i:Nat) (t:Q4) (s:Qy) (v:Qn) (h0:k.tk=some (i,t)) (ht:t.status=2) (hf:t.filled=false) (hs:x.shs[i]?=some s) (hv:(v=Ze (k,x)∧f)∨v.slot<0) (h1:x'.shs=x.shs.set i { s with ring:=(Xi s.ring t v).1 }) (h2:k'.tk=some (i,(Xi s.ring t v).2.1)):qjx f k k' x x'
structure GoC (s:SC) (k:Ql) (x:Qk) (r:SC × ZC):Prop where
 kind:r.2.1.kind=k.kind
 fit:qgb r.1 r.2.1
 tk:qam r.1 r.2.1
 ins:r.2.2.f.inside=x.f.inside+q6 r.1 r.2.1 - q6 s k
 eff:qjx (s=.at none .fills) k r.2.1 x r.2.2
theorem Jl.tk {k k':Ql} (h:Jl k) (e:k'.tk=k.tk):Jl k':=fun i t ht=>h i t (e ▸ ht)
theorem Y1.tk {k k':Ql} (h:Y1 k) (e:k'.tk=k.tk):Y1 k':=by
 obtain ⟨i,t,h1,h2⟩:=h;exact ⟨i,t,e.trans h1,h2⟩
theorem qev {k k2:Ql} (h:1≤k.kind∧k.kind≤5) (e:k2.kind=k.kind) (hf:Jl k2):qgb (Q2 k) k2∧qam (Q2 k) k2∧q6 (Q2 k) k2=if k.kind≤3 then 1 else 0:=by
 unfold Q2;split
 ·exact ⟨trivial,hf,by rw [if_neg (by omega)];rfl⟩
 ·refine ⟨by show 1≤k2.kind∧k2.kind≤3;omega,hf,?_⟩
  show (if k2.kind≤3 then (1:Int) else 0)=_
  rw [e]
theorem Jt (k:Ql) (s:Qg):(lookW k s).1.tk=k.tk∧(lookW k s).1.kind=k.kind:=by
 unfold lookW;split
 ·exact ⟨rfl,rfl⟩
 ·split <;> exact ⟨rfl,rfl⟩
theorem qje {r:Qo} {t:Q4} (h:t.status=0):((stepT r t).2.status=0∨(stepT r t).2.status=1∨(stepT r t).2.status=2)∧(stepT r t).2.filled=t.filled:=by
 unfold stepT qak Jm qo;rw [if_neg (by omega)];split
 ·exact ⟨.inl h,rfl⟩
 ·split
  ·split
   ·exact ⟨.inl h,rfl⟩
   ·split
    ·exact ⟨.inr (.inl rfl),rfl⟩
    ·exact ⟨.inl h,rfl⟩
  ·split
   ·exact ⟨.inr (.inr rfl),rfl⟩
   ·exact ⟨.inl h,rfl⟩
section
variable {N:Nat} {k:Ql} {x:Qk}
theorem qjw (z:ZC):(Qp z).1.1.tk=z.1.tk∧(Qp z).1.1.kind=z.1.kind∧(Qp z).1.2=z.2:=⟨(Jt _ _).1,(Jt _ _).2,rfl⟩
theorem qw (hk:Xk N k x) (v:Qn) (h:Y1 k):∃ i t s,k.tk=some (i,t)∧t.status=2∧t.filled=false∧x.shs[i]?=some s∧Xh v (k,x)=({ k with tk:=some (i,(Xi s.ring t v).2.1) },{ x with shs:=x.shs.set i { s with ring:=(Xi s.ring t v).1 } })∧(Xi s.ring t v).2.1={ t with filled:=true }:=by
 obtain ⟨i,t,h1,h2,h3⟩:=h;have hi:=(hk.tk i t h1).2;refine ⟨i,t,x.shs[i],h1,h2,h3,List.getElem?_eq_getElem hi,?_,?_⟩
 ·unfold Xh
  simp only [h1,List.getElem?_eq_getElem hi]
 ·unfold Xi
  rw [if_pos ⟨h2,h3⟩]
theorem qcy {k':Ql} {i:Nat} {t:Q4} (h:k'.tk=some (i,{ t with filled:=true })):Jl k':=by
 intro j u hu;rw [h] at hu;simp only [Option.some.injEq,Prod.mk.injEq] at hu;obtain ⟨_,rfl⟩:=hu;intro hh;cases hh.2
theorem ql5 (hc:Xo N x) (hk:Xk N k x) (m:MC) (hf:qgp (.at none m) k) (h1:qgb (.at none m) k) (h2:qam (.at none m) k):GoC (.at none m) k x (Xq m (k,x)):=by
 cases m with
 | right =>
   have h1:k.kind=1∨k.kind=2:=h1;have h2:Jl k:=h2
   show GoC _ k x (if qdm k then (.row1 .ends1,Qf 1 (k,x)) else (.at none .enter,(k,x)))
   split
   ·exact ⟨rfl,trivial,h2.tk rfl,by show x.f.inside=x.f.inside+0 - 0;omega,.none rfl rfl⟩
   ·exact ⟨rfl,by show 1≤k.kind∧k.kind≤3;omega,h2,by show x.f.inside=x.f.inside+0 - 0;omega,.none rfl rfl⟩
 | enter =>
   have h1:1≤k.kind∧k.kind≤3:=h1;have h2:Jl k:=h2;exact ⟨rfl,by show 1≤k.kind∧k.kind≤5;omega,h2,by show x.f.inside+1=x.f.inside+(if k.kind≤3 then 1 else 0) - 0;rw [if_pos h1.2];omega,.none rfl rfl⟩
 | gate =>
   have h1:1≤k.kind∧k.kind≤5:=h1;have h2:Jl k:=h2
   show GoC _ k x (if x.f.closed=true then (Q2 k,Qf 3 (k,x)) else if k.kind=1∨k.kind=2 then (.at none .asks,({ k with rq:=some ⟨k.period,0,0,0,0,0⟩ },x)) else (.at none .looks,(k,x)))
   split
   ·obtain ⟨a,b,c⟩:=qev (k:=k) (k2:=X1 3 k) h1 rfl (h2.tk rfl)
    exact ⟨rfl,a,b,by show x.f.inside=x.f.inside+q6 (Q2 k) (X1 3 k) - (if k.kind≤3 then 1 else 0);rw [c];omega,.none rfl rfl⟩
   ·split
    ·exact ⟨rfl,by show k.kind=1∨k.kind=2;assumption,h2.tk rfl,by show x.f.inside=x.f.inside+(if k.kind≤3 then 1 else 0) - (if k.kind≤3 then 1 else 0);omega,.none rfl rfl⟩
    ·exact ⟨rfl,by show 3≤k.kind∧k.kind≤5;omega,h2,by show x.f.inside=x.f.inside+(if k.kind≤3 then 1 else 0) - (if k.kind≤3 then 1 else 0);omega,.none rfl rfl⟩
 | asks =>
   have h1:k.kind=1∨k.kind=2:=h1;have h2:Jl k:=h2;obtain ⟨q,hq⟩:=Option.isSome_iff_exists.1 hf.1;have e:Xq .asks (k,x)=Zp (k,x) q:=by show (match k.rq with | none=>_ | some q=>_)=_;rw [hq]
   rw [e];unfold Zp;simp only [];split
   ·exact ⟨rfl,by show 1≤k.kind∧k.kind≤3;omega,h2.tk rfl,by show x.f.inside=x.f.inside+(if k.kind≤3 then 1 else 0) - (if k.kind≤3 then 1 else 0);omega,.none rfl rfl⟩
   ·split
    ·rename_i ha hb
     refine ⟨rfl,by show 1≤k.kind∧k.kind≤3;omega,⟨_,_,rfl,rfl,rfl⟩,by show x.f.inside=x.f.inside+(if k.kind≤3 then 1 else 0) - (if k.kind≤3 then 1 else 0);omega,.new rfl h2 _ ?_ rfl⟩
     exact qfb (N:=N) hc (Int.emod_nonneg _ (by omega))
    ·exact ⟨rfl,h1,h2.tk rfl,by show x.f.inside=x.f.inside+(if k.kind≤3 then 1 else 0) - (if k.kind≤3 then 1 else 0);omega,.none rfl rfl⟩
 | queues =>
   have h1:1≤k.kind∧k.kind≤3:=h1;obtain ⟨i,t,ht,hst,hfl⟩:=(show ∃ i t,k.tk=some (i,t)∧t.status=0∧t.filled=false from h2);have hi:=(hk.tk i t ht).2;have hs:=List.getElem?_eq_getElem hi
   have e:Xq .queues (k,x)=Q8 (k,x) i t x.shs[i]:=by
    show (match k.tk with | none=>_ | some (i,t)=>_)=_
    rw [ht];simp only [hs]
   rw [e];obtain ⟨hcase,hfl'⟩:=qje (r:=x.shs[i].ring) hst;rw [hfl] at hfl';unfold Q8;simp only [];split
   ·rename_i h
    exact ⟨rfl,h1,⟨_,_,rfl,h,hfl'⟩,by show x.f.inside=x.f.inside+(if k.kind≤3 then 1 else 0) - (if k.kind≤3 then 1 else 0);omega,.step i t _ ht hst hfl hs rfl rfl⟩
   ·rename_i hn0
    have hfree:(stepT x.shs[i].ring t).2.status=1→∀ k':Ql,k'.tk=some (i,(stepT x.shs[i].ring t).2)→Jl k':=by
     intro h k' hk' j u hu;rw [hk'] at hu;simp only [Option.some.injEq,Prod.mk.injEq] at hu;obtain ⟨_,rfl⟩:=hu;omega
    split
    ·rename_i h
     exact ⟨rfl,h1,hfree h.1 _ rfl,by show x.f.inside=x.f.inside+(if k.kind≤3 then 1 else 0) - (if k.kind≤3 then 1 else 0);omega,.step i t _ ht hst hfl hs rfl rfl⟩
    ·rename_i hn1
     split
     ·rename_i h
      exact ⟨rfl,by show k.kind=1∨k.kind=2;omega,hfree h _ rfl,by show x.f.inside=x.f.inside+(if k.kind≤3 then 1 else 0) - (if k.kind≤3 then 1 else 0);omega,.step i t _ ht hst hfl hs rfl rfl⟩
     ·rename_i hn2
      have h3:(stepT x.shs[i].ring t).2.status=2:=by omega
      split
      ·exact ⟨rfl,by show k.kind=3;assumption,⟨_,_,rfl,h3,hfl'⟩,by show x.f.inside=x.f.inside+(if k.kind≤3 then 1 else 0) - (if k.kind≤3 then 1 else 0);omega,.step i t _ ht hst hfl hs rfl rfl⟩
      ·exact ⟨rfl,by show k.kind=1∨k.kind=2;omega,⟨_,_,rfl,h3,hfl'⟩,by show x.f.inside=x.f.inside+(if k.kind≤3 then 1 else 0) - (if k.kind≤3 then 1 else 0);omega,.step i t _ ht hst hfl hs rfl rfl⟩
 | submits =>
   have h1:k.kind=1∨k.kind=2:=h1;have h2:Y1 k:=h2;exact ⟨rfl,by show 1≤k.kind∧k.kind≤3;omega,h2.tk rfl,by show x.f.inside=x.f.inside+(if k.kind≤3 then 1 else 0) - (if k.kind≤3 then 1 else 0);omega,.none rfl rfl⟩
 | fills =>
   have h1:1≤k.kind∧k.kind≤3:=h1;obtain ⟨i,t,s,a1,a2,a3,a4,a5,a6⟩:=qw hk (Ze (k,x)) h2;have e:Xq .fills (k,x)=(Xj,(okC (Xh (Ze (k,x)) (k,x)).1,(Xh (Ze (k,x)) (k,x)).2)):=rfl;rw [e,a5];refine ⟨rfl,h1,qcy (i:=i) (t:=t) (by rw [← a6];rfl),by show x.f.inside=x.f.inside+(if k.kind≤3 then 1 else 0) - (if k.kind≤3 then 1 else 0);omega,.fill i t s (Ze (k,x)) a1 a2 a3 a4 (.inl ⟨rfl,rfl⟩) rfl rfl⟩
 | looks =>
   have h1:3≤k.kind∧k.kind≤5:=h1;have h2:Jl k:=h2;obtain ⟨l1,l2⟩:=Jt k x.slab;have hl2:(Qp (k,x)).1.1.kind=k.kind:=l2;have hl1:Jl (Qp (k,x)).1.1:=h2.tk l1
   show GoC _ k x (if (Qp (k,x)).2=0 then (if k.kind=3 then (.at none .queues,({ (Qp (k,x)).1.1 with tk:=some (Zk (Qp (k,x)).1.1.slot x,Qx) },x)) else (.at none .tries,(Qp (k,x)).1)) else if (Qp (k,x)).2=1 then (Q2 k,Qf 1 (Qp (k,x)).1) else (Q2 k,Qf 0 (Qp (k,x)).1))
   split
   ·split
    ·refine ⟨l2,by show 1≤(Qp (k,x)).1.1.kind∧(Qp (k,x)).1.1.kind≤3;omega,⟨_,_,rfl,rfl,rfl⟩,by show x.f.inside=x.f.inside+(if (Qp (k,x)).1.1.kind≤3 then 1 else 0) - (if k.kind≤3 then 1 else 0);rw [hl2];omega,.new rfl h2 _ ?_ rfl⟩
     exact qfb (N:=N) hc ((qh2 hc hk).slot)
    ·rename_i hk3
     refine ⟨l2,by show 3≤(Qp (k,x)).1.1.kind∧(Qp (k,x)).1.1.kind≤5;omega,?_,by show x.f.inside=x.f.inside+(if (Qp (k,x)).1.1.kind≤3 then 1 else 0) - (if k.kind≤3 then 1 else 0);rw [hl2];omega,.none rfl l1⟩
     show if (Qp (k,x)).1.1.kind=3 then _ else _
     rw [hl2,if_neg hk3];exact hl1
   ·have hov:=fun e=>qev (k:=k) (k2:=X1 e (Qp (k,x)).1.1) ⟨by omega,h1.2⟩ l2 (hl1.tk rfl)
    split
    ·exact ⟨l2,(hov 1).1,(hov 1).2.1,by show x.f.inside=x.f.inside+q6 (Q2 k) (X1 1 (Qp (k,x)).1.1) - (if k.kind≤3 then 1 else 0);rw [(hov 1).2.2];omega,.none rfl l1⟩
    ·exact ⟨l2,(hov 0).1,(hov 0).2.1,by show x.f.inside=x.f.inside+q6 (Q2 k) (X1 0 (Qp (k,x)).1.1) - (if k.kind≤3 then 1 else 0);rw [(hov 0).2.2];omega,.none rfl l1⟩
 | again =>
   have h1:k.kind=3:=h1;have h2:Y1 k:=h2;obtain ⟨l1,l2⟩:=Jt k x.slab;have hl2:(Qp (k,x)).1.1.kind=k.kind:=l2;have hl1:Y1 (Qp (k,x)).1.1:=h2.tk l1
   show GoC _ k x (if (Qp (k,x)).2=0 then (.at none .tries,(Qp (k,x)).1) else (.thn (.row1 .again1) .leaves,Qf 0 (Qp (k,x)).1))
   split
   ·refine ⟨l2,by show 3≤(Qp (k,x)).1.1.kind∧(Qp (k,x)).1.1.kind≤5;omega,?_,by show x.f.inside=x.f.inside+(if (Qp (k,x)).1.1.kind≤3 then 1 else 0) - (if k.kind≤3 then 1 else 0);rw [hl2];omega,.none rfl l1⟩
    show if (Qp (k,x)).1.1.kind=3 then _ else _
    rw [hl2,if_pos h1];exact hl1
   ·exact ⟨l2,by show (Qp (k,x)).1.1.kind=3;omega,hl1.tk rfl,by show x.f.inside=x.f.inside+(if (Qp (k,x)).1.1.kind≤3 then 1 else 0) - (if k.kind≤3 then 1 else 0);rw [hl2];omega,.none rfl l1⟩
 | tries =>
   have h1:3≤k.kind∧k.kind≤5:=h1;have h2:if k.kind=3 then Y1 k else Jl k:=h2
   have l1:(Xc (k,x)).1.1.tk=k.tk:=rfl;have l2:(Xc (k,x)).1.1.kind=k.kind:=rfl
   show GoC _ k x (if (Xc (k,x)).2≠0 then (if k.kind=3 then (.at none .again,(Xc (k,x)).1) else (.at none .looks,(Xc (k,x)).1)) else if k.kind=3 then (.at none .fills,Zi { ev0 with kind:=6,id:=k.id,gen:=(Xc (k,x)).1.1.gen,dl:=k.cdl } (okC (Xc (k,x)).1.1,(Xc (k,x)).1.2))
    else if k.kind=5 then (.row1 .ends1,Zi { ev0 with kind:=8,id:=k.id,gen:=(Xc (k,x)).1.1.gen } (okC (Xc (k,x)).1.1,(Xc (k,x)).1.2))
    else (.thn (.row2 .tries1 .drop) .ends,Zi { ev0 with kind:=7,id:=k.id,gen:=(Xc (k,x)).1.1.gen } (okC (Xc (k,x)).1.1,(Xc (k,x)).1.2)))
   split
   ·split
    ·rename_i h3
     rw [if_pos h3] at h2;exact ⟨rfl,h3,h2.tk rfl,by show x.f.inside=x.f.inside+(if k.kind≤3 then 1 else 0) - (if k.kind≤3 then 1 else 0);omega,.none rfl rfl⟩
    ·rename_i h3
     rw [if_neg h3] at h2;exact ⟨rfl,h1,h2.tk rfl,by show x.f.inside=x.f.inside+(if k.kind≤3 then 1 else 0) - (if k.kind≤3 then 1 else 0);omega,.none rfl rfl⟩
   ·split
    ·rename_i h3
     rw [if_pos h3] at h2;exact ⟨rfl,by show 1≤k.kind∧k.kind≤3;omega,h2.tk rfl,by show x.f.inside=x.f.inside+(if k.kind≤3 then 1 else 0) - (if k.kind≤3 then 1 else 0);omega,.none rfl rfl⟩
    ·rename_i h3
     rw [if_neg h3] at h2;split
     ·exact ⟨rfl,trivial,h2.tk rfl,by show x.f.inside=x.f.inside+0 - (if k.kind≤3 then 1 else 0);rw [if_neg (by omega)];omega,.none rfl rfl⟩
     ·exact ⟨rfl,by show k.kind=4;omega,h2.tk rfl,by show x.f.inside=x.f.inside+(if k.kind≤3 then 1 else 0) - (if k.kind≤3 then 1 else 0);omega,.none rfl rfl⟩
 | ends=>exact hf.elim
 | leaves=>exact hf.elim
theorem qig {s:SC} (hj:JC N s (k,x)) (h1:qgb s k) (h2:qam s k) (hi:q6 s k≤x.f.inside):GoC s k x (Xn s (k,x)):=by
 obtain ⟨hc,hk,hf⟩:=hj;simp only at hc hk hf
 match s,hf,h1,h2,hi with
 | .nil,_,_,h2,_=>exact ⟨rfl,trivial,h2,by show x.f.inside=x.f.inside+0 - 0;omega,.none rfl rfl⟩
 | .at none m,hf,h1,h2,_=>exact ql5 hc hk m hf h1 h2
 | .row1 .ends1,_,_,h2,_=>exact ⟨rfl,trivial,h2,by show x.f.inside=x.f.inside+0 - 0;omega,.none rfl rfl⟩
 | .thn (.row1 .leaves1) .ends,_,h1,h2,hi =>
   have h1:1≤k.kind∧k.kind≤3:=h1;have hi:(if k.kind≤3 then (1:Int) else 0)≤x.f.inside:=hi;rw [if_pos h1.2] at hi;refine ⟨rfl,trivial,h2,?_,.none rfl rfl⟩
   show Yr x.f.inside=x.f.inside+0 - (if k.kind≤3 then 1 else 0)
   unfold Yr;rw [if_neg (by omega),if_pos h1.2];omega
 | .thn (.row2 .undo .drop) .leaves,_,h1,h2,_=>exact ⟨rfl,h1,h2,by show x.f.inside=x.f.inside+(if k.kind≤3 then 1 else 0) - (if k.kind≤3 then 1 else 0);omega,.none rfl rfl⟩
 | .thn (.row1 .drop) .leaves,_,h1,h2,_ =>
   have h1:k.kind=1∨k.kind=2:=h1;exact ⟨rfl,by show 1≤k.kind∧k.kind≤3;omega,h2,by show x.f.inside=x.f.inside+(if k.kind≤3 then 1 else 0) - (if k.kind≤3 then 1 else 0);omega,.none rfl rfl⟩
 | .thn (.row1 .again1) .leaves,_,h1,h2,_ =>
   have h1:k.kind=3:=h1;obtain ⟨i,t,s,a1,a2,a3,a4,a5,a6⟩:=qw hk { Qn.zero with slot:=-1 } h2;have e:Xn (.thn (.row1 .again1) .leaves) (k,x)=(Xj,Xh { Qn.zero with slot:=-1 } (k,x)):=rfl;rw [e,a5];exact ⟨rfl,by show 1≤k.kind∧k.kind≤3;omega,qcy (i:=i) (t:=t) (by rw [← a6]),by show x.f.inside=x.f.inside+(if k.kind≤3 then 1 else 0) - (if k.kind≤3 then 1 else 0);omega,.fill i t s _ a1 a2 a3 a4 (.inr (show (-1:Int)<0 by decide)) rfl rfl⟩
 | .thn (.row2 .tries1 .drop) .ends,_,h1,h2,_=>exact ⟨rfl,h1,h2,by show x.f.inside=x.f.inside+(if k.kind≤3 then 1 else 0) - (if k.kind≤3 then 1 else 0);omega,.none rfl rfl⟩
 | .thn (.row1 .drop) .ends,_,h1,h2,_ =>
   have h1:k.kind=4:=h1;exact ⟨rfl,trivial,h2,by show x.f.inside=x.f.inside+0 - (if k.kind≤3 then 1 else 0);rw [if_neg (by omega)];omega,.none rfl rfl⟩
end
end
section
open Go.RowKit Go.Shelf
attribute [local go_sem] Oper.semAt_some
theorem Z6 {v:Value} {gr:List Blk} {n:Nat} {t:TypeId} {xs:List Value} (hr:J5 t 1 v n xs gr) {h H:GH} {w w':World} (T:TG h w H w') (i:Nat) (hg:H.getD i []=gr) (hi:i<H.length) {k:Nat} {x:Value} (hk:xs[k]?=some x) :
 ∃ b cap,v=.slice (some ⟨b,0,none⟩) n cap∧w'.cell? ⟨b,k,none⟩=some x:=by
 have hlen:xs.length=n:=by
  have:=hr.1;omega
 have hkl:=(List.getElem?_eq_some_iff.1 hk).1;obtain ⟨b,cap,cur,hv,hgr,_,_,_,hcur⟩:=hr.open (by omega);refine ⟨b,cap,hv,?_⟩
 have:=T.cell i 0 (b:=b) (T:=t) (C:=cur) (by rw [hg,hgr];rfl) k;rw [this,hcur k (by omega),hk]
end
section
open Go.RowKit Go.Shelf
attribute [local go_sem] Oper.semAt_some
structure qlx where
 kb:Nat
 n:Int
 w:Wk
structure SvS where
 z:ZF
 own:List (Option Nat)
 all:List qlx
 crew:List WkN
end
section
open Go.RowKit Go.Shelf
structure Yw (r:Qo):Prop where
 n1:1≤r.slots.length
 h0:0≤r.head
 ht:r.head≤r.tail
 tn:r.tail≤r.head+r.slots.length
 sq:∀ p,r.head≤p→p<r.head+r.slots.length→(r.slot p).seq=2*p∨(p<r.tail∧(r.slot p).seq=2*p+1)
theorem qhu {n p q h:Int} (h1:h≤p) (h2:p<h+n) (h3:h≤q) (h4:q<h+n) (e:p % n=q % n):p=q:=by
 have hd:=Int.emod_emod_of_dvd (p - q) (Int.dvd_refl n);have h0:(p - q) % n=0:=Int.emod_eq_emod_iff_emod_sub_eq_zero.1 e;obtain ⟨c,hc⟩:=Int.dvd_of_emod_eq_zero h0;have hn:0<n:=by omega
 rcases Int.lt_trichotomy c 0 with h | h | h
 ·have:n*c≤n*(-1):=Int.mul_le_mul_of_nonneg_left (by omega) (by omega)
  omega
 ·subst h;rw [Int.mul_zero] at hc;omega
 ·have:n*1≤n*c:=Int.mul_le_mul_of_nonneg_left (by omega) (by omega)
  omega
theorem qll {r:Qo} (h:1≤r.slots.length) (p:Int):r.at p<r.slots.length:=by
 unfold Qo.at;have h1:=Int.emod_nonneg p (b:=(r.slots.length:Int)) (by omega);have h2:=Int.emod_lt_of_pos p (b:=(r.slots.length:Int)) (by omega);omega
theorem qj3 {r:Qo} (h:1≤r.slots.length) {p q:Int} (e:r.at p=r.at q):p % (r.slots.length:Int)=q % (r.slots.length:Int):=by
 unfold Qo.at at e;have h1:=Int.emod_nonneg p (b:=(r.slots.length:Int)) (by omega);have h2:=Int.emod_nonneg q (b:=(r.slots.length:Int)) (by omega);omega
theorem qcn {r:Qo} {r':Qo} (hn:1≤r.slots.length) {p:Int} {v:Jc} (hs:r'.slots=r.slots.set (r.at p) v) (q:Int):r'.slot q=if r.at q=r.at p then v else r.slot q:=by
 have hl:r'.slots.length=r.slots.length:=by rw [hs,List.length_set]
 have ha:r'.at q=r.at q:=by unfold Qo.at;rw [hl]
 unfold Qo.slot;rw [ha,hs,List.getD_eq_getElem?_getD,List.getElem?_set];split
 ·rename_i h
  rw [if_pos h.symm,if_pos (by rw [h];exact qll hn q)];rfl
 ·rename_i h
  rw [if_neg (fun e=>h e.symm),List.getD_eq_getElem?_getD]
structure qcc (r:Qo) (t:Q4):Prop where
 w:t.status=0→t.next=2→2*t.pos≤(r.slot t.pos).seq
 c:t.status=2→t.filled=false→r.head≤t.pos∧t.pos<r.tail∧(r.slot t.pos).seq=2*t.pos
theorem qh4 (r:Qo):qcc r Qx:=⟨fun _ h=>(by cases h),fun h=>(by cases h)⟩
section
variable {r:Qo} {t:Q4}
theorem qlp (hr:Yw r) (ht:qcc r t) (hs:t.status=0) (hn:t.next=2) (he:r.tail=t.pos):Yw { r with tail:=t.pos+1 }∧r.head≤t.pos∧(r.slot t.pos).seq=2*t.pos:=by
 have hw:=ht.w hs hn;have h1:=hr.ht
 have hlt:t.pos<r.head+r.slots.length:=by
  rcases Int.lt_or_le t.pos (r.head+r.slots.length) with h | h
  ·exact h
  ·exfalso
   have e:t.pos=r.head+r.slots.length:=by have:=hr.tn;omega
   have hsl:r.slot t.pos=r.slot r.head:=by
    unfold Qo.slot Qo.at;rw [e,Int.add_emod_right]
   rw [hsl] at hw;have:=hr.n1;rcases hr.sq r.head (Int.le_refl _) (by omega) with h | h <;> omega
 refine ⟨⟨hr.n1,hr.h0,by show r.head≤t.pos+1;omega,by show t.pos+1≤r.head+r.slots.length;omega,fun p h1 h2=>?_⟩,by omega,?_⟩
 ·rcases hr.sq p h1 h2 with h | ⟨h,h'⟩
  ·exact .inl h
  ·exact .inr ⟨by show p<t.pos+1;omega,h'⟩
 ·rcases hr.sq t.pos (by omega) hlt with h | h
  ·exact h
  ·omega
structure qif (r r':Qo):Prop where
 len:r'.slots.length=r.slots.length
 seq:∀ p,(r.slot p).seq≤(r'.slot p).seq
theorem qcc.w_le {r':Qo} (h:qcc r t) (hl:qif r r'):t.status=0→t.next=2→2*t.pos≤(r'.slot t.pos).seq :=
 fun a b=>Int.le_trans (h.w a b) (hl.seq _)
theorem qli (hr:Yw r) (h1:r.head≤t.pos) (h2:t.pos<r.tail) (h3:(r.slot t.pos).seq=2*t.pos) (v:Qn) {r':Qo} (e:r'={ r with slots:=r.slots.set (r.at t.pos) ⟨2*t.pos+1,v⟩ }) :
 Yw r'∧qif r r'∧(∀ q,r.head≤q→q<r.tail→q≠t.pos→(r'.slot q).seq=(r.slot q).seq)∧(r'.slot t.pos).seq=2*t.pos+1:=by
 subst e;have hs:=fun q=>qcn (r:=r) (r':={ r with slots:=r.slots.set (r.at t.pos) ⟨2*t.pos+1,v⟩ }) hr.n1 rfl q
 have htn:=hr.tn
 have hoth:∀ q,r.head≤q→q<r.head+r.slots.length→q≠t.pos→(Qo.slot { r with slots:=r.slots.set (r.at t.pos) ⟨2*t.pos+1,v⟩ } q)=r.slot q:=by
  intro q a b c;rw [hs,if_neg (fun e=>c (qhu a b h1 (by omega) (qj3 hr.n1 e)))]
 have hown:(Qo.slot { r with slots:=r.slots.set (r.at t.pos) ⟨2*t.pos+1,v⟩ } t.pos).seq=2*t.pos+1:=by rw [hs,if_pos rfl]
 have hlen:(r.slots.set (r.at t.pos) ⟨2*t.pos+1,v⟩).length=r.slots.length:=List.length_set;refine ⟨⟨by show 1≤(List.set _ _ _).length;rw [hlen];exact hr.n1,hr.h0,hr.ht,by show r.tail≤r.head+((List.set _ _ _).length:Int);rw [hlen];exact hr.tn,fun p a b=>?_⟩,⟨hlen,fun p=>?_⟩,fun q a b c=>?_,hown⟩
 ·change r.head≤p at a
  change p<r.head+((r.slots.set (r.at t.pos) ⟨2*t.pos+1,v⟩).length:Int) at b
  rw [hlen] at b;by_cases c:p=t.pos
  ·subst c;exact .inr ⟨h2,hown⟩
  ·rw [hoth p a b c];exact hr.sq p a b
 ·rw [hs]
  split
  ·rename_i e
   have:r.slot p=r.slot t.pos:=by unfold Qo.slot;rw [e]
   rw [this,h3]
   show 2*t.pos≤2*t.pos+1
   omega
  ·exact Int.le_refl _
 ·rw [hoth q a (by omega) c]
theorem qlo (hr:Yw r) (hp:r.ready=true):Yw (J0 r).1∧qif r (J0 r).1∧(J0 r).1.head=r.head+1∧(J0 r).1.tail=r.tail∧r.head<r.tail∧(∀ q,r.head+1≤q→q<r.tail→((J0 r).1.slot q).seq=(r.slot q).seq):=by
 have e:(J0 r).1={ r with slots:=r.slots.set (r.at r.head) ⟨2*(r.head+r.slots.length),Qn.zero⟩,head:=r.head+1 }:=by unfold J0;rw [if_pos hp]
 have hq:(r.slot r.head).seq=2*r.head+1:=by simpa [Qo.ready] using hp
 have hn:=hr.n1;have htn:=hr.tn
 have hlt:r.head<r.tail:=by
  rcases hr.sq r.head (Int.le_refl _) (by omega) with h | h
  ·omega
  ·exact h.1
 rw [e];have hs:=fun q=>qcn (r:=r) (r':={ r with slots:=r.slots.set (r.at r.head) ⟨2*(r.head+r.slots.length),Qn.zero⟩,head:=r.head+1 }) hr.n1 rfl q
 have hlen:(r.slots.set (r.at r.head) ⟨2*(r.head+r.slots.length),Qn.zero⟩).length=r.slots.length:=List.length_set
 have hoth:∀ q,r.head+1≤q→q<r.head+r.slots.length→(Qo.slot { r with slots:=r.slots.set (r.at r.head) ⟨2*(r.head+r.slots.length),Qn.zero⟩,head:=r.head+1 } q)=r.slot q:=by
  intro q a b;rw [hs,if_neg (fun e=>by have:=qhu (h:=r.head) (by omega) b (Int.le_refl _) (by omega) (qj3 hr.n1 e);omega)]
 refine ⟨⟨by show 1≤(List.set _ _ _).length;rw [hlen];exact hr.n1,by show 0≤r.head+1;have:=hr.h0;omega,hlt,by show r.tail≤r.head+1+((List.set _ _ _).length:Int);rw [hlen];omega,fun p a b=>?_⟩,⟨hlen,fun p=>?_⟩,rfl,rfl,hlt,fun q a b=>by rw [hoth q a (by omega)]⟩
 ·change r.head+1≤p at a
  change p<r.head+1+((r.slots.set (r.at r.head) ⟨2*(r.head+r.slots.length),Qn.zero⟩).length:Int) at b
  rw [hlen] at b;by_cases c:p<r.head+r.slots.length
  ·rw [hoth p a c];exact hr.sq p (by omega) c
  ·have e2:p=r.head+r.slots.length:=by omega
   refine .inl ?_
   have:r.at p=r.at r.head:=by unfold Qo.at;rw [e2,Int.add_emod_right]
   rw [hs,if_pos this,e2]
 ·rw [hs]
  split
  ·rename_i e
   have:r.slot p=r.slot r.head:=by unfold Qo.slot;rw [e]
   rw [this,hq]
   show 2*r.head+1≤2*(r.head+r.slots.length)
   omega
  ·exact Int.le_refl _
end
def qaj (t:Q4):Prop:=t.status=2∧t.filled=false
abbrev Tks:Type:=List (Option (Nat × Q4))
structure RgI (T:Tks) (R:Nat→Option Qo):Prop where
 ring:∀ i r,R i=some r→Yw r
 tick:∀ (a i:Nat) (t:Q4) (r:Qo),T[a]?=some (some (i,t))→R i=some r→qcc r t
 uniq:∀ (a b i:Nat) (t u:Q4),T[a]?=some (some (i,t))→T[b]?=some (some (i,u))→qaj t→qaj u→t.pos=u.pos→a=b
 cov:∀ i r p,R i=some r→r.head≤p→p<r.tail→(r.slot p).seq=2*p+1∨∃ (a:Nat) (t:Q4),T[a]?=some (some (i,t))∧qaj t∧t.pos=p
def qil (R:Nat→Option Qo) (i:Nat) (r:Qo):Nat→Option Qo:=fun n=>if n=i then some r else R n
theorem Xb {α:Type} {l:List α} {a b:Nat} {x y:α} (h:(l.set a x)[b]?=some y):(b=a∧y=x)∨(b≠a∧l[b]?=some y):=by
 rw [List.getElem?_set] at h;split at h
 ·rename_i e
  split at h
  ·exact .inl ⟨e.symm,by cases h;rfl⟩
  ·cases h
 ·rename_i e
  exact .inr ⟨fun e'=>e e'.symm,h⟩
theorem Z3 {α:Type} {l:List α} {a b:Nat} {x y:α} (h:l[b]?=some y) (hb:b≠a):(l.set a x)[b]?=some y:=by
 rw [List.getElem?_set,if_neg (fun e=>hb e.symm)];exact h
theorem get_set_same {α:Type} {l:List α} {a:Nat} {x y:α} (h:l[a]?=some y):(l.set a x)[a]?=some x:=by
 rw [List.getElem?_set,if_pos rfl,if_pos (List.getElem?_eq_some_iff.1 h).1]
section
variable {T:Tks} {R:Nat→Option Qo} {a i:Nat} {o o':Option (Nat × Q4)} {t t':Q4} {r r':Qo}
theorem Zu {n:Nat} {q:Qo} (h:qil R i r n=some q):(n=i∧q=r)∨(n≠i∧R n=some q):=by
 unfold qil at h;split at h
 ·exact .inl ⟨by assumption,by cases h;rfl⟩
 ·exact .inr ⟨by assumption,h⟩
theorem RgI.calm (h:RgI T R) (hT:T[a]?=some o) (h0:∀ i t,o=some (i,t)→¬ qaj t) (h1:∀ i t,o'=some (i,t)→¬ qaj t∧∀ r,R i=some r→qcc r t):RgI (T.set a o') R where
 ring:=h.ring
 tick b i t r hb hr:=by
  rcases Xb hb with ⟨_,e⟩ | ⟨_,hB⟩
  ·exact (h1 i t e.symm).2 r hr
  ·exact h.tick b i t r hB hr
 uniq b c i t u hb hc k1 k2 e:=by
  rcases Xb hb with ⟨_,e1⟩ | ⟨_,hB⟩
  ·exact absurd k1 (h1 i t e1.symm).1
  ·rcases Xb hc with ⟨_,e1⟩ | ⟨_,hC⟩
   ·exact absurd k2 (h1 i u e1.symm).1
   ·exact h.uniq b c i t u hB hC k1 k2 e
 cov i r p hr a1 a2:=by
  rcases h.cov i r p hr a1 a2 with h' | ⟨b,t,hb,hc,hp⟩
  ·exact .inl h'
  ·refine .inr ⟨b,t,Z3 hb (fun e=>?_),hc,hp⟩
   subst e;rw [hT] at hb;exact h0 i t (Option.some.inj hb) hc
theorem RgI.take (h:RgI T R) (hT:T[a]?=some (some (i,t))) (hr:R i=some r) (hs:t.status=0) (hn:t.next=2) (he:r.tail=t.pos) (h1:t'.status=2) (h2:t'.filled=false) (h3:t'.pos=t.pos) (hr':r'={ r with tail:=t.pos+1 }) :
 RgI (T.set a (some (i,t'))) (qil R i r'):=by
 subst hr';have hk:=h.tick a i t r hT hr;obtain ⟨k1,k2,k3⟩:=qlp (h.ring i r hr) hk hs hn he;have hsl:∀ q,Qo.slot { r with tail:=t.pos+1 } q=r.slot q:=fun q=>rfl
 have hold:∀ u,qcc r u→qcc { r with tail:=t.pos+1 } u:=fun u hu=>⟨hu.w,fun x y=>⟨(hu.c x y).1,by have:=(hu.c x y).2.1;show u.pos<t.pos+1;omega,(hu.c x y).2.2⟩⟩
 refine ⟨fun n q hq=>?_,fun b n u q hb hq=>?_,fun b c n u v hb hc c1 c2 e=>?_,fun n q p hq a1 a2=>?_⟩
 ·rcases Zu hq with ⟨_,rfl⟩ | ⟨_,hq⟩
  ·exact k1
  ·exact h.ring n q hq
 ·rcases Xb hb with ⟨_,e⟩ | ⟨_,hB⟩
  ·cases e
   rcases Zu hq with ⟨_,rfl⟩ | ⟨x,_⟩
   ·exact ⟨fun x=>by omega,fun _ _=>⟨by rw [h3];exact k2,by show t'.pos<t.pos+1;omega,by rw [h3,hsl];exact k3⟩⟩
   ·exact absurd rfl x
  ·rcases Zu hq with ⟨rfl,rfl⟩ | ⟨_,hq⟩
   ·exact hold u (h.tick b _ u r hB hr)
   ·exact h.tick b n u q hB hq
 ·have hlt:∀ d (w:Q4),T[d]?=some (some (i,w))→qaj w→w.pos<t.pos:=fun d w hd hw=>by
   have:=((h.tick d i w r hd hr).c hw.1 hw.2).2.1;omega
  rcases Xb hb with ⟨rfl,e1⟩ | ⟨nb,hB⟩
  ·cases e1
   rcases Xb hc with ⟨rfl,_⟩ | ⟨_,hC⟩
   ·rfl
   ·have:=hlt c v hC c2;omega
  ·rcases Xb hc with ⟨rfl,e1⟩ | ⟨_,hC⟩
   ·cases e1
    have:=hlt b u hB c1;omega
   ·exact h.uniq b c n u v hB hC c1 c2 e
 ·have hnc:¬ qaj t:=fun x=>by have:=x.1;omega
  rcases Zu hq with ⟨rfl,rfl⟩ | ⟨hni,hq⟩
  ·change r.head≤p at a1
   change p<t.pos+1 at a2
   by_cases c:p=t.pos
   ·exact .inr ⟨a,t',get_set_same hT,⟨h1,h2⟩,by rw [h3,c]⟩
   ·rcases h.cov n r p hr a1 (by omega) with h' | ⟨b,u,hb,hc,hp⟩
    ·exact .inl h'
    ·refine .inr ⟨b,u,Z3 hb (fun e=>?_),hc,hp⟩
     subst e;rw [hT] at hb;cases hb
     exact hnc hc
  ·rcases h.cov n q p hq a1 a2 with h' | ⟨b,u,hb,hc,hp⟩
   ·exact .inl h'
   ·refine .inr ⟨b,u,Z3 hb (fun e=>?_),hc,hp⟩
    subst e;rw [hT] at hb;cases hb
    exact hnc hc
theorem RgI.fill (h:RgI T R) (hT:T[a]?=some (some (i,t))) (hr:R i=some r) (hs:t.status=2) (hf:t.filled=false) (h1:¬ qaj t') (h2:t'.status=2) (v:Qn) (hr':r'={ r with slots:=r.slots.set (r.at t.pos) ⟨2*t.pos+1,v⟩ }) :
 RgI (T.set a (some (i,t'))) (qil R i r'):=by
 obtain ⟨b1,b2,b3⟩:=(h.tick a i t r hT hr).c hs hf;obtain ⟨k1,k2,k3,k4⟩:=qli (h.ring i r hr) b1 b2 b3 v hr';have hh:r'.head=r.head∧r'.tail=r.tail:=by rw [hr'];exact ⟨rfl,rfl⟩
 refine ⟨fun n q hq=>?_,fun b n u q hb hq=>?_,fun b c n u v hb hc c1 c2 e=>?_,fun n q p hq a1 a2=>?_⟩
 ·rcases Zu hq with ⟨_,rfl⟩ | ⟨_,hq⟩
  ·exact k1
  ·exact h.ring n q hq
 ·rcases Xb hb with ⟨_,e⟩ | ⟨nb,hB⟩
  ·cases e
   exact ⟨fun x=>by omega,fun x y=>absurd ⟨x,y⟩ h1⟩
  ·rcases Zu hq with ⟨rfl,rfl⟩ | ⟨_,hq⟩
   ·have hu:=h.tick b n u r hB hr
    refine ⟨hu.w_le k2,fun x y=>?_⟩
    obtain ⟨d1,d2,d3⟩:=hu.c x y;have hne:u.pos≠t.pos:=fun e=>nb (h.uniq b a n u t hB hT ⟨x,y⟩ ⟨hs,hf⟩ e)
    exact ⟨by rw [hh.1];exact d1,by rw [hh.2];exact d2,by rw [k3 _ d1 d2 hne];exact d3⟩
   ·exact h.tick b n u q hB hq
 ·rcases Xb hb with ⟨rfl,e1⟩ | ⟨nb,hB⟩
  ·cases e1;exact absurd c1 h1
  ·rcases Xb hc with ⟨rfl,e1⟩ | ⟨_,hC⟩
   ·cases e1;exact absurd c2 h1
   ·exact h.uniq b c n u v hB hC c1 c2 e
 ·rcases Zu hq with ⟨rfl,rfl⟩ | ⟨hni,hq⟩
  ·rw [hh.1] at a1
   rw [hh.2] at a2;by_cases c:p=t.pos
   ·exact .inl (by rw [c];exact k4)
   ·rcases h.cov n r p hr a1 a2 with h' | ⟨b,u,hb,hc,hp⟩
    ·exact .inl (by rw [k3 p a1 a2 c];exact h')
    ·refine .inr ⟨b,u,Z3 hb (fun e=>?_),hc,hp⟩
     subst e;rw [hT] at hb;cases hb
     exact c hp.symm
  ·rcases h.cov n q p hq a1 a2 with h' | ⟨b,u,hb,hc,hp⟩
   ·exact .inl h'
   ·refine .inr ⟨b,u,Z3 hb (fun e=>?_),hc,hp⟩
    subst e;rw [hT] at hb;cases hb
    exact hni rfl
theorem RgI.pop (h:RgI T R) (hr:R i=some r) (hp:r.ready=true):RgI T (qil R i (J0 r).1):=by
 obtain ⟨k1,k2,k3,k4,k5,k6⟩:=qlo (h.ring i r hr) hp;have hq:(r.slot r.head).seq=2*r.head+1:=by simpa [Qo.ready] using hp
 refine ⟨fun n q hq=>?_,fun b n u q hb hq=>?_,h.uniq,fun n q p hq a1 a2=>?_⟩
 ·rcases Zu hq with ⟨_,rfl⟩ | ⟨_,hq⟩
  ·exact k1
  ·exact h.ring n q hq
 ·rcases Zu hq with ⟨rfl,rfl⟩ | ⟨_,hq⟩
  ·have hu:=h.tick b n u r hb hr
   refine ⟨hu.w_le k2,fun x y=>?_⟩
   obtain ⟨d1,d2,d3⟩:=hu.c x y;have hne:u.pos≠r.head:=fun e=>by rw [e] at d3;omega
   exact ⟨by rw [k3];omega,by rw [k4];exact d2,by rw [k6 _ (by omega) d2];exact d3⟩
  ·exact h.tick b n u q hb hq
 ·rcases Zu hq with ⟨rfl,rfl⟩ | ⟨hni,hq⟩
  ·rw [k3] at a1
   rw [k4] at a2;rcases h.cov n r p hr (by omega) a2 with h' | h'
   ·exact .inl (by rw [k6 p a1 a2];exact h')
   ·exact .inr h'
  ·exact h.cov n q p hq a1 a2
theorem RgI.step (h:RgI T R) (hT:T[a]?=some (some (i,t))) (hr:R i=some r) (hs:t.status=0) (hf:t.filled=false) (hn:t.next=0∨t.next=1∨t.next=2):RgI (T.set a (some (i,(stepT r t).2))) (qil R i (stepT r t).1):=by
 have hnc:∀ j u,some (i,t)=some (j,u)→¬ qaj u:=fun j u e x=>by cases e;have:=x.1;omega
 have hsame:qil R i r=R:=by
  funext n
  unfold qil;split
  ·rename_i e;rw [e,hr]
  ·rfl
 have hcalm:∀ t':Q4,¬ qaj t'→qcc r t'→RgI (T.set a (some (i,t'))) (qil R i r):=fun t' c1 c2=>by
  rw [hsame];refine h.calm hT hnc (fun j u e=>?_)
  cases e
  exact ⟨c1,fun q hq=>by rw [hr] at hq;cases hq;exact c2⟩
 unfold stepT;rw [if_neg (by omega)];split
 ·exact hcalm _ (fun x=>by have:=x.1;simp only [qak] at this;omega) ⟨fun _ x=>by simp only [qak] at x;omega,fun x=>by simp only [qak] at x;omega⟩
 ·split
  ·refine hcalm _ ?_ ?_
   ·unfold Jm
    split
    ·exact fun x=>by have:=x.1;simp only at this;omega
    ·split
     ·exact fun x=>by have:=x.1;simp only at this;omega
     ·exact fun x=>by have:=x.1;simp only at this;omega
   ·unfold Jm
    split
    ·exact ⟨fun _ x=>by simp only at x;omega,fun x=>by simp only at x;omega⟩
    ·split
     ·exact ⟨fun x=>by simp only at x;omega,fun x=>by simp only at x;omega⟩
     ·rename_i w1 w2
      exact ⟨fun _ _=>by simp only;omega,fun x=>by simp only at x;omega⟩
  ·unfold qo
   split
   ·exact h.take hT hr hs (by omega) (by assumption) rfl hf rfl rfl
   ·exact hcalm _ (fun x=>by have:=x.1;simp only at this;omega) ⟨fun _ x=>by simp only at x;omega,fun x=>by simp only at x;omega⟩
theorem RgI.snoc (h:RgI T R) (h0:∀ i t,o=some (i,t)→False):RgI (T++[o]) R:=by
 have hg:∀ (b:Nat) i t,(T++[o])[b]?=some (some (i,t))→T[b]?=some (some (i,t)):=by
  intro b i t hb;rcases Nat.lt_or_ge b T.length with hl | hl
  ·rwa [List.getElem?_append_left hl] at hb
  ·rw [List.getElem?_append_right hl] at hb
   rcases Nat.eq_zero_or_pos (b - T.length) with e | e
   ·rw [e] at hb;simp only [List.getElem?_cons_zero,Option.some.injEq] at hb;exact (h0 _ _ hb).elim
   ·rw [List.getElem?_eq_none (by simp;omega)] at hb;cases hb
 exact ⟨h.ring,fun b i t r hb=>h.tick b i t r (hg b i t hb),fun b c i t u hb hc=>h.uniq b c i t u (hg _ _ _ hb) (hg _ _ _ hc),fun i r p hr a1 a2=>(h.cov i r p hr a1 a2).imp id fun ⟨b,t,hb,hc,hp⟩=>⟨b,t,by rw [List.getElem?_append_left (List.getElem?_eq_some_iff.1 hb).1];exact hb,hc,hp⟩⟩
end
def Wk.tk:Wk→Option (Nat × Q4)
 | .call _ k=>k.tk
 | _=>none
def Qk.rg (x:Qk) (i:Nat):Option Qo:=(x.shs[i]?).map Qy.ring
theorem qg6 {α:Type} {l:List α} {a:Nat} {x:α} (h:l[a]?=some x):l.set a x=l:=by
 apply List.ext_getElem?
 intro b;rw [List.getElem?_set];split
 ·rename_i e
  subst e;rw [if_pos (List.getElem?_eq_some_iff.1 h).1,h]
 ·rfl
theorem qhw {x x':Qk} {i:Nat} {s:Qy} {r:Qo} (hs:x.shs[i]?=some s) (h:x'.shs=x.shs.set i { s with ring:=r }):x'.rg=qil x.rg i r:=by
 funext n
 unfold Qk.rg qil;rw [h,List.getElem?_set];split
 ·rename_i e
  subst e;rw [if_pos (List.getElem?_eq_some_iff.1 hs).1,if_pos rfl];rfl
 ·rename_i e
  rw [if_neg (fun e'=>e e'.symm)]
theorem qgx {x x':Qk} (h:x'.shs=x.shs):x'.rg=x.rg:=by funext n;unfold Qk.rg;rw [h]
theorem qhi {N:Nat} {T:Tks} {a:Nat} {k k':Ql} {x x':Qk} (h:RgI T x.rg) (hT:T[a]?=some k.tk) (hk:Xk N k x) {f:Prop} (e:qjx f k k' x x'):RgI (T.set a k'.tk) x'.rg:=by
 have hrg:∀ {i:Nat} {s:Qy},x.shs[i]?=some s→x.rg i=some s.ring:=fun hs=>by unfold Qk.rg;rw [hs];rfl
 cases e with
 | none h1 h2=>rw [qgx h1,h2,qg6 hT];exact h
 | new h1 h0 i hi h2 =>
   rw [qgx h1,h2];refine h.calm hT (fun j t e c=>h0 j t e c) (fun j t e=>?_)
   cases e
   exact ⟨fun c=>by have:=c.1;simp [Qx] at this,fun r _=>qh4 r⟩
 | step i t s h0 ht hf hs h1 h2 =>
   rw [qhw hs h1,h2];rw [h0] at hT;exact h.step hT (hrg hs) ht hf (hk.tk i t h0).1.nx
 | fill i t s v h0 ht hf hs hv h1 h2 =>
   rw [qhw hs h1,h2];rw [h0] at hT;have e:Xi s.ring t v=({ s.ring with slots:=s.ring.slots.set (s.ring.at t.pos) ⟨2*t.pos+1,v⟩ },{ t with filled:=true },0):=by unfold Xi;rw [if_pos ⟨ht,hf⟩]
   rw [e];exact h.fill hT (hrg hs) ht hf (fun c=>by cases c.2) ht v rfl
def qmp:ST→Int
 | .nil=>0
 | .at none .enter=>0
 | .row1 .answer=>0
 | _=>1
def qms:ST→Prop
 | .at none (.one21 _)=>True
 | .row1 .unlock=>True
 | .thn _ (.one2112 _)=>True
 | .thn _ (.one211 _)=>True
 | .thn _ .one21121=>True
 | _=>False
def qmi:ST→Prop
 | .thn X (.shards1 _)=>qms X
 | _=>False
def popN (n:Int) (i:Nat) (x:Qk):Prop:=∀ r,x.rg i=some r→n≤r.tail - r.head
def fitN:ST→Qk→Prop
 | .thn (.thn (.at (some (.ready _)) (.pops1 n)) (.one211 _)) (.shards1 i),x=>1≤n∧popN n i x
 | .thn (.thn (.thn _ (.pops11 n)) (.one211 _)) (.shards1 i),x=>popN (n - 1) i x
 | _,_=>True
end
section
open Go.RowKit Go.Shelf
attribute [local go_sem] Oper.semAt_some
end
section
open Go.RowKit Go.Shelf
attribute [local go_sem] Oper.semAt_some
end
section
open Go.RowKit Go.Shelf
def insW:Wk→Int
 | .call s k=>q6 s k
 | .turn s _=>qmp s
 | .clo _ _=>0
def qld:SS→qj9→Prop
 | .at (some .idle) _,p=>p.shut=true
 | _,_=>True
def goW (z:ZF):Wk→Prop
 | .call s k=>qgb s k∧qam s k
 | .turn s k=>fitN s z.x
 | .clo s k=>qld s z.p
def qk (l:List Int):Int:=l.foldr (·+·) 0
structure qmj (S:SvS):Prop where
 go:∀ (a:Nat) (j:qlx),S.all[a]?=some j→goW S.z j.w
 ins:S.z.x.f.inside=qk (S.all.map fun j=>insW j.w)
 rg:RgI (S.all.map fun j=>j.w.tk) S.z.x.rg
 who:∀ i,(S.z.x.shs.getD i (Xd 1)).who≠0→∃ (a:Nat) (j:qlx) (s:ST) (k:qgj),S.all[a]?=some j∧j.w=.turn s k∧qmi s∧k.s=some i
 busy:S.z.x.f.busy=qk (S.crew.map fun c=>(c.k.holds.length:Int))
 own:∀ (a:Nat) (j:qlx),S.all[a]?=some j→j.w.done=false→∃ i:Nat,S.own[i]?=some (some a)
 crew:1≤S.crew.length
theorem qv {α:Type} {f:α→Int}:∀ {l:List α} {a:Nat} {x y:α},l[a]?=some x→qk ((l.set a y).map f)=qk (l.map f) - f x+f y
 | b::l,0,x,y,h=>by
   simp only [List.getElem?_cons_zero,Option.some.injEq] at h;subst h
   show f y+qk (l.map f)=f b+qk (l.map f) - f b+f y
   omega
 | b::l,a+1,x,y,h=>by
   have:=qv (f:=f) (l:=l) (a:=a) (y:=y) h
   show f b+qk ((l.set a y).map f)=f b+qk (l.map f) - f x+f y
   rw [this];omega
theorem Yd {α:Type} {f:α→Int}:∀ {l:List α} {a:Nat} {x:α},(∀ x,0≤f x)→l[a]?=some x→f x≤qk (l.map f)
 | b::l,0,x,hf,h=>by
   simp only [List.getElem?_cons_zero,Option.some.injEq] at h;subst h;have:0≤qk (l.map f):=sum_nn l hf
   show f b≤f b+qk (l.map f)
   omega
 | b::l,a+1,x,hf,h=>by
   have:=Yd (f:=f) (l:=l) (a:=a) hf h;have:=hf b
   show f x≤f b+qk (l.map f)
   omega
where sum_nn {α:Type} {f:α→Int}:∀ l:List α,(∀ x,0≤f x)→0≤qk (l.map f)
 | [],_=>Int.le_refl _
 | b::l,hf=>by
   have:=sum_nn l hf;have:=hf b
   show 0≤f b+qk (l.map f)
   omega
theorem z7 {α:Type} {f:α→Int}:∀ {l:List α},(∀ x∈l,f x=0)→qk (l.map f)=0
 | [],_=>rfl
 | b::l,h=>by
   have h1:=z7 (f:=f) (l:=l) (fun x hx=>h x (List.mem_cons_of_mem _ hx));have h2:=h b List.mem_cons_self
   show f b+qk (l.map f)=0
   omega
theorem qew {α:Type} {f:α→Int} (l:List α) (x:α):qk ((l++[x]).map f)=qk (l.map f)+f x:=by
 induction l with
 | nil=>show f x+0=0+f x;omega
 | cons b l ih =>
   show f b+qk ((l++[x]).map f)=f b+qk (l.map f)+f x
   rw [ih];omega
theorem qkj (w:Wk):0≤insW w:=by
 cases w with
 | call s k=>show 0≤q6 s k;unfold q6;split <;> first | exact Int.le_refl _ | (split <;> decide)
 | turn s k=>show 0≤qmp s;unfold qmp;split <;> decide
 | clo s k=>exact Int.le_refl _
theorem qia (r:Qo) (t:Q4):(stepT r t).1.head=r.head∧r.tail≤(stepT r t).1.tail:=by
 unfold stepT qak Jm qo;split
 ·exact ⟨rfl,Int.le_refl _⟩
 ·split
  ·exact ⟨rfl,Int.le_refl _⟩
  ·split
   ·exact ⟨rfl,Int.le_refl _⟩
   ·split
    ·exact ⟨rfl,by show r.tail≤t.pos+1;omega⟩
    ·exact ⟨rfl,Int.le_refl _⟩
theorem qgy (r:Qo) (t:Q4) (v:Qn):(Xi r t v).1.head=r.head∧(Xi r t v).1.tail=r.tail:=by
 unfold Xi;split <;> exact ⟨rfl,rfl⟩
section
variable {N:Nat} {S:SvS}
theorem qey {α β:Type} (f:α→β) (l:List α) (a:Nat) (x:α):(l.set a x).map f=(l.map f).set a (f x):=List.map_set ..
theorem zh {α β:Type} {f:α→β} {l:List α} {a:Nat} {x:α} (h:l[a]?=some x):(l.map f)[a]?=some (f x):=by rw [List.getElem?_map,h];rfl
end
end
section
open Go.RowKit Go.Shelf
attribute [local go_sem] Oper.semAt_some
end
section
open Go.RowKit Go.Shelf
end
section
open Go.RowKit Go.Shelf
attribute [local go_sem] Oper.semAt_some
end
section
open Go.RowKit Go.Shelf
section
variable {N:Nat} {L:Lay} {sb:Nat} {B:SvS} {g:List Blk}
def qmo (c:Cfg):SvS:=⟨zf0 c,List.replicate (c.cli.toNat+1) none,[],List.replicate c.wk.toNat ⟨0,qj1,0,wkr0⟩⟩
end
section
variable {N:Nat} {S:SvS}
theorem ql9 {α:Type} {l:List α} {b:Nat} {x y:α} (h:(l++[x])[b]?=some y):(b<l.length∧l[b]?=some y)∨(b=l.length∧y=x):=by
 rcases Nat.lt_or_ge b l.length with hl | hl
 ·rw [List.getElem?_append_left hl] at h;exact .inl ⟨hl,h⟩
 ·rw [List.getElem?_append_right hl] at h
  have hb:b - l.length<1:=by have:=(List.getElem?_eq_some_iff.1 h).1;simpa using this
  have e:b - l.length=0:=by omega
  rw [e] at h;cases h
  exact .inr ⟨by omega,rfl⟩
theorem qij {n:Nat} (h:1≤n):Yw (X5 n):=by
 have hl:(X5 n).slots.length=n:=by simp [X5]
 refine ⟨by rw [hl];exact h,Int.le_refl _,Int.le_refl _,by rw [hl];show (0:Int)≤0+n;omega,fun p a b=>?_⟩
 have a:0≤p:=a;have b:p<0+((X5 n).slots.length:Int):=b;rw [hl] at b;refine .inl ?_
 obtain ⟨k,rfl⟩:=Int.eq_ofNat_of_zero_le a;have hk:k<n:=by omega
 have e:(X5 n).at k=k:=by
  unfold Qo.at;rw [hl,Int.emod_eq_of_lt (by omega) (by omega)];exact Int.toNat_natCast k
 unfold Qo.slot;rw [e];unfold X5;rw [List.getD_eq_getElem?_getD,List.getElem?_map,List.getElem?_range hk];rfl
theorem qmr (c:Cfg) (hk:c.ok=true):qmj (qmo c):=by
 obtain ⟨b1,b2,b3,b4,b5,b6⟩:=Cfg.bd hk;have hsh:∀ i s,(qmo c).z.x.shs[i]?=some s→s=Xd c.ring.toNat:=fun i s h=>List.eq_of_mem_replicate (List.mem_of_getElem? h)
 refine ⟨fun a j ha=>(by cases ha),rfl,⟨fun i r hr=>?_,fun a i t r ha=>(by cases ha),fun a b i t u ha=>(by cases ha),fun i r p hr a1 a2=>?_⟩,fun i hi=>absurd ?_ hi,?_,fun a j ha=>(by cases ha),?_⟩
 ·obtain ⟨s,hs,rfl⟩:=Option.map_eq_some_iff.1 hr
  rw [hsh i s hs];exact qij (by omega)
 ·obtain ⟨s,hs,rfl⟩:=Option.map_eq_some_iff.1 hr
  rw [hsh i s hs] at a1 a2;have a1:0≤p:=a1;have a2:p<0:=a2;omega
 ·show ((List.replicate c.sh.toNat (Xd c.ring.toNat)).getD i (Xd 1)).who=0
  rw [List.getD_eq_getElem?_getD];cases hh:(List.replicate c.sh.toNat (Xd c.ring.toNat))[i]? with
  | none=>rfl
  | some s =>
    have:=List.eq_of_mem_replicate (List.mem_of_getElem? hh);subst this;rfl
 ·show (0:Int)=qk ((List.replicate c.wk.toNat (⟨0,qj1,0,wkr0⟩:WkN)).map fun c=>(c.k.holds.length:Int))
  rw [z7];intro x hx;rw [List.eq_of_mem_replicate hx];rfl
 ·show 1≤(List.replicate _ _).length
  rw [List.length_replicate];omega
end
abbrev qfc:Type:=Option (Nat × Int)
structure OwI (O:List qfc) (rs:List Rec):Prop where
 own:∀ (a k:Nat) (e:Int),O[a]?=some (some (k,e))→(e=1∨e=5∨e=6)∧∃ r,rs[k]?=some r∧stW r.w=e
 uniq:∀ (a b k:Nat) (e f:Int),O[a]?=some (some (k,e))→O[b]?=some (some (k,f))→a=b
inductive qlc (o o':qfc) (rs rs':List Rec):Prop where
 | calm (h:rs'=rs) (h2:o'=o∨o'=none):qlc o o' rs rs'
 | other (k:Nat) (r r':Rec) (hr:rs[k]?=some r) (hs:stW r.w≠1∧stW r.w≠5∧stW r.w≠6) (h:rs'=rs.set k r') (h1:o'=none∨∃ e,o'=some (k,e)∧stW r'.w=e∧(e=1∨e=5∨e=6)):qlc o o' rs rs'
 | mine (k:Nat) (e:Int) (r':Rec) (h0:o=some (k,e)) (h:rs'=rs.set k r') (h1:o'=none):qlc o o' rs rs'
theorem OwI.eff {O:List qfc} {rs rs':List Rec} {a:Nat} {o o':qfc} (h:OwI O rs) (ha:O[a]?=some o) (e:qlc o o' rs rs'):OwI (O.set a o') rs':=by
 cases e with
 | calm hr h2 =>
   subst hr;refine ⟨fun b k e hb=>?_,fun b c k e f hb hc=>?_⟩
   ·rcases Xb hb with ⟨_,e1⟩ | ⟨_,hB⟩
    ·rcases h2 with h2 | h2
     ·rw [h2] at e1;exact h.own a k e (by rw [ha,e1])
     ·rw [h2] at e1;cases e1
    ·exact h.own b k e hB
   ·have hold:∀ d e,(O.set a o')[d]?=some (some (k,e))→O[d]?=some (some (k,e)):=fun d e hd=>by
     rcases Xb hd with ⟨rfl,e1⟩ | ⟨_,hD⟩
     ·rcases h2 with h2 | h2
      ·rw [h2] at e1;rw [ha,e1]
      ·rw [h2] at e1;cases e1
     ·exact hD
    exact h.uniq b c k e f (hold _ _ hb) (hold _ _ hc)
 | other k r r' hr hs hrs h1 =>
   have hfree:∀ d e,O[d]?=some (some (k,e))→False:=fun d e hd=>by
    obtain ⟨h5,r2,h6,h7⟩:=h.own d k e hd;rw [hr] at h6;cases h6;omega
   subst hrs;refine ⟨fun b k2 e hb=>?_,fun b c k2 e f hb hc=>?_⟩
   ·rcases Xb hb with ⟨_,e1⟩ | ⟨_,hB⟩
    ·rcases h1 with h1 | ⟨e2,h1,h3,h4⟩
     ·rw [h1] at e1;cases e1
     ·rw [h1] at e1;cases e1
      exact ⟨h4,r',get_set_same hr,h3⟩
    ·obtain ⟨h5,r2,h6,h7⟩:=h.own b k2 e hB
     exact ⟨h5,r2,Z3 h6 (fun e3=>by subst e3;exact hfree b e hB),h7⟩
   ·rcases Xb hb with ⟨rfl,e1⟩ | ⟨_,hB⟩
    ·rcases Xb hc with ⟨rfl,_⟩ | ⟨_,hC⟩
     ·rfl
     ·rcases h1 with h1 | ⟨e2,h1,_⟩
      ·rw [h1] at e1;cases e1
      ·rw [h1] at e1;cases e1
       exact (hfree c f hC).elim
    ·rcases Xb hc with ⟨rfl,e1⟩ | ⟨_,hC⟩
     ·rcases h1 with h1 | ⟨e2,h1,_⟩
      ·rw [h1] at e1;cases e1
      ·rw [h1] at e1;cases e1
       exact (hfree b e hB).elim
     ·exact h.uniq b c k2 e f hB hC
 | mine k e r' h0 hrs h1 =>
   subst h1 hrs h0;refine ⟨fun b k2 e2 hb=>?_,fun b c k2 e2 f hb hc=>?_⟩
   ·rcases Xb hb with ⟨_,e1⟩ | ⟨hne,hB⟩
    ·cases e1
    ·obtain ⟨h5,r2,h6,h7⟩:=h.own b k2 e2 hB
     exact ⟨h5,r2,Z3 h6 (fun e3=>hne (by subst e3;exact h.uniq b a k2 e2 e hB ha)),h7⟩
   ·rcases Xb hb with ⟨_,e1⟩ | ⟨_,hB⟩
    ·cases e1
    ·rcases Xb hc with ⟨_,e1⟩ | ⟨_,hC⟩
     ·cases e1
     ·exact h.uniq b c k2 e2 f hB hC
theorem OwI.snoc {O:List qfc} {rs:List Rec} (h:OwI O rs):OwI (O++[none]) rs:=by
 have hg:∀ (b:Nat) x,(O++[none])[b]?=some (some x)→O[b]?=some (some x):=fun b x hb=>by
  rcases ql9 hb with ⟨_,hb⟩ | ⟨_,e⟩
  ·exact hb
  ·cases e
 exact ⟨fun a k e ha=>h.own a k e (hg _ _ ha),fun a b k e f ha hb=>h.uniq a b k e f (hg _ _ ha) (hg _ _ hb)⟩
theorem Yv {s:Qg} (hs:Xm s) (k old ev:Int):((s.try k old ev).2.2≠0∧(s.try k old ev).1=s) ∨
 ((s.try k old ev).2.2=0∧∃ (j:Nat) (r:Rec) (w':Int),k=j∧s.recs[j]?=some r∧r.w=old∧Zy r∧Qs r.w ev (decide (0<r.p))=(w',0)∧(s.try k old ev).1={ s with recs:=s.recs.set j { r with w:=w' } }∧(s.try k old ev).2.1=w'):=by
 unfold Qg.try;split
 ·next hh =>
  obtain ⟨j,rfl⟩:=Qg.has_nat hh;obtain ⟨r,h1,h2⟩:=Qg.has_at hh;rw [h2];simp only [];split
  ·next hne=>exact .inl ⟨hne,rfl⟩
  ·next he =>
   split
   ·next hw =>
    refine .inr ⟨rfl,j,r,(Qs old ev (decide (0<r.p))).1,rfl,h1,hw,hs.recs r (List.mem_of_getElem? h1),?_,rfl,rfl⟩
    rw [hw];exact Prod.ext rfl (by simpa using he)
   ·exact .inl ⟨by show (10:Int)≠0;decide,rfl⟩
 ·exact .inl ⟨by show (4:Int)≠0;decide,rfl⟩
theorem qbw {r:Rec} (hr:Zy r) {ev w':Int} {p:Bool} (h:Qs r.w ev p=(w',0)):1≤ev∧ev≤10∧(toW (stW r.w) ev (p && !Xl r.w)).2.2=true∧stW w'=(toW (stW r.w) ev (p && !Xl r.w)).1:=by
 rcases Zf r.w ev p hr.w0 hr.w1 hr.ok with ⟨_,h2⟩ | ⟨h1,h2,h3,h4,h5,h6,_⟩
 ·rw [h] at h2;simp only at h2;omega
 ·rw [h] at h6
  exact ⟨h2,h3,h4,h6⟩
theorem qcz {l:List Rec} {k:Nat} {x r:Rec} (h:l[k]?=some x) (hx:stW x.w≠0) (hr:stW r.w≠0):X8 (l.set k r)=X8 l:=by
 have:=qby r h;rw [Yk hx,Yk hr] at this;simp at this
 omega
theorem qie {l:List Rec} {k:Nat} {x r:Rec} (h:l[k]?=some x) (hx:stW x.w≠0) (hr:stW r.w=0):(X8 (l.set k r):Int)=X8 l - 1:=by
 have:=qby r h;rw [Yk hx,qa7 hr] at this;simp at this
 omega
theorem qhj {l:List Rec} {k:Nat} {x r:Rec} (h:l[k]?=some x) (hx:stW x.w=0) (hr:stW r.w≠0):(X8 (l.set k r):Int)=X8 l+1:=by
 have:=qby r h;rw [qa7 hx,Yk hr] at this;simp at this
 omega
theorem qj7 {s ev:Int} {ag:Bool} (h0:0≤s) (h6:s≤6) (he:ev=6∨ev=7∨ev=8) (h:(toW s ev ag).2.2=true):(s=2∨s=3∨s=4)∧(toW s ev ag).1≠0∧(ev=6→(toW s ev ag).1=5):=by
 have hs:s=0∨s=1∨s=2∨s=3∨s=4∨s=5∨s=6:=by omega
 revert h
 rcases hs with rfl | rfl | rfl | rfl | rfl | rfl | rfl <;> rcases he with rfl | rfl | rfl <;> cases ag <;> decide
theorem qbe {r:Rec} (hr:Zy r) {ev w':Int} {p:Bool} (he:ev=6∨ev=7∨ev=8) (h:Qs r.w ev p=(w',0)):(stW r.w=2∨stW r.w=3∨stW r.w=4)∧stW w'≠0∧(ev=6→stW w'=5):=by
 obtain ⟨_,_,g3,g4⟩:=qbw hr h;have hb:=qap r.w hr.w0 hr.ok;obtain ⟨a,b,c⟩:=qj7 hb.1 hb.2.1 he g3;rw [g4];exact ⟨a,b,c⟩
def Y3 (M:Int) (rs:List Rec):Prop:=∀ r∈rs,X0 r.w≤M
theorem qbs {rs:List Rec} {k:Nat} {r r':Rec} {ev:Int} {p:Bool} (hr:rs[k]?=some r) (ho:Zy r) (hn:Qs r.w ev p=(r'.w,0)):∀ M,Y3 M rs→Y3 (M+1) (rs.set k r'):=by
 intro M h q hq;rcases List.mem_or_eq_of_mem_set hq with hq | rfl
 ·have:=h q hq;omega
 ·have h0:=h r (List.mem_of_getElem? hr)
  have hb:=qap r.w ho.w0 ho.ok;rcases Zf r.w ev p ho.w0 ho.w1 ho.ok with ⟨_,h2⟩ | ⟨h1,h2,h3,h4,h5,h6,h7,_⟩
  ·rw [hn] at h2;simp only at h2;omega
  ·rw [hn] at h7
   have hf:=Yh (stW r.w) ev (p && !Xl r.w) hb.1 hb.2.1;have:=hf.2.2.2;simp only at h7;omega
theorem qbb {rs rs':List Rec} (h:rs'=rs):∀ M,Y3 M rs→Y3 (M+1) rs':=by
 intro M hM q hq;rw [h] at hq;have:=hM q hq;omega
structure qdg (rs rs':List Rec):Prop where
 len:rs'.length=rs.length
 at_:∀ (k:Nat) (r':Rec),rs'[k]?=some r'→∃ r,rs[k]?=some r∧X0 r.w≤X0 r'.w∧(X0 r'.w=X0 r.w→r'.p=r.p)
theorem qdg.refl (rs:List Rec):qdg rs rs:=⟨rfl,fun k r h=>⟨r,h,Int.le_refl _,fun _=>rfl⟩⟩
theorem qeg {rs rs':List Rec} (h:rs'=rs):qdg rs rs':=by rw [h];exact qdg.refl rs
theorem qdp {rs:List Rec} {k:Nat} {r r':Rec} {ev:Int} {p:Bool} (hr:rs[k]?=some r) (ho:Zy r) (hn:Qs r.w ev p=(r'.w,0)) (hp:r'.p=r.p∨ev=1):qdg rs (rs.set k r'):=by
 refine ⟨List.length_set,fun j q hq=>?_⟩
 rcases Xb hq with ⟨rfl,rfl⟩ | ⟨_,hQ⟩
 ·have hb:=qap r.w ho.w0 ho.ok
  rcases Zf r.w ev p ho.w0 ho.w1 ho.ok with ⟨_,h2⟩ | ⟨h1,h2,h3,h4,h5,h6,h7,_⟩
  ·rw [hn] at h2;simp only at h2;omega
  ·rw [hn] at h7
   have hf:=Yh (stW r.w) ev (p && !Xl r.w) hb.1 hb.2.1;have hf0:=hf.2.2.1;simp only at h7;refine ⟨r,hr,by omega,fun e=>?_⟩
   rcases hp with hp | rfl
   ·exact hp
   ·have:(toW (stW r.w) 1 (p && !Xl r.w)).2.1=1:=rfl
    omega
 ·exact ⟨q,hQ,Int.le_refl _,fun _=>rfl⟩
def qcw:SC→Ql→qfc
 | .at none .queues,k=>if k.kind=3 then none else some (k.slot.toNat,1)
 | .at none .submits,k=>some (k.slot.toNat,1)
 | .thn (.row2 .undo .drop) .leaves,k=>some (k.slot.toNat,1)
 | .thn (.row2 .tries1 .drop) .ends,k=>some (k.slot.toNat,5)
 | _,_=>none
def qfz:Option Req→Int
 | some q=>if q.next=2 then 1 else 0
 | none=>0
def Xw:SC→Ql→Int
 | .at none .asks,k=>qfz k.rq
 | .thn (.row1 .drop) _,_=>1
 | _,_=>0
structure Xv (o o':qfc) (s s':Qg) (d:Int):Prop where
 cnt:s'.count - X8 s'.recs=s.count - X8 s.recs+d
 eff:qlc o o' s.recs s'.recs
 gen:∀ M,Y3 M s.recs→Y3 (M+1) s'.recs
 le:qdg s.recs s'.recs
theorem Xv.same {o o':qfc} {s s':Qg} {d:Int} (h:s'=s) (hd:d=0) (ho:o'=o∨o'=none):Xv o o' s s' d:=by
 subst h hd;exact ⟨by omega,.calm rfl ho,qbb rfl,qeg rfl⟩
theorem qhm {s:Qg} {j:Nat} {r:Rec} (h:s.recs[j]?=some r):s.has (j:Int)∧s.word (j:Int)=r.w∧s.recs.getD (j:Int).toNat Rec.zero=r:=by
 have hl:=(List.getElem?_eq_some_iff.1 h).1;have hh:s.has (j:Int):=⟨by omega,by omega⟩;have hg:s.recs.getD (j:Int).toNat Rec.zero=r:=by rw [Int.toNat_natCast];exact qa h
 refine ⟨hh,?_,hg⟩
 unfold Qg.word;rw [if_pos hh,hg]
theorem qim {s:Qg} {j:Nat} {r:Rec} (h:s.recs[j]?=some r) {ev w':Int} (hn:Qs r.w ev (decide (0<r.p))=(w',0)):(s.try j (s.word j) ev)=({ s with recs:=s.recs.set j { r with w:=w' } },w',0):=by
 obtain ⟨a,b,c⟩:=qhm h;unfold Qg.try;rw [if_pos a,b];simp only [c,hn];simp
theorem qhz {r:Rec} (hr:Zy r) {ev:Int} {p:Bool} (h1:1≤ev) (h2:ev≤10) (ht:(toW (stW r.w) ev (p && !Xl r.w)).2.2=true) (hg:(toW (stW r.w) ev (p && !Xl r.w)).2.1=0):∃ w',Qs r.w ev p=(w',0)∧stW w'=(toW (stW r.w) ev (p && !Xl r.w)).1:=by
 have hb:=qap r.w hr.w0 hr.ok;rcases Zf r.w ev p hr.w0 hr.w1 hr.ok with ⟨h3,h4⟩ | ⟨h3,_,_,_,_,h6,_⟩
 ·exfalso
  unfold Qs at h4;simp only [hr.ok] at h4;rw [if_neg (by simp),if_neg (by omega)] at h4;simp only [ht,hg] at h4;rw [if_neg (by simp),if_neg (by omega)] at h4;simp at h4
 ·exact ⟨_,Prod.ext rfl h3,h6⟩
section
variable {N:Nat} {k:Ql} {x:Qk}
theorem qbp (hs:Xm x.slab) (ev e:Int) {o:qfc} {d:Int} (ho:o=some (k.slot.toNat,e)) (h0:0≤k.slot) {r:Rec} (hr:x.slab.recs[k.slot.toNat]?=some r) (he:stW r.w=e) (h1:1≤ev) (h2:ev≤10)
 (ht:∀ ag,(toW e ev ag).2.2=true∧(toW e ev ag).2.1=0) (hne:e≠0) (hd:∀ ag,d=if (toW e ev ag).1=0 then 1 else 0):Xv o none x.slab (Z9 k.slot ev x.slab).1 d:=by
 have hro:=hs.recs r (List.mem_of_getElem? hr);obtain ⟨j,hj⟩:=Int.eq_ofNat_of_zero_le h0;rw [hj,Int.toNat_natCast] at hr ho;obtain ⟨w',hn,hst⟩:=qhz (p:=decide (0<r.p)) hro h1 h2 (by rw [he];exact (ht _).1) (by rw [he];exact (ht _).2)
 have e1:(Z9 k.slot ev x.slab).1={ x.slab with recs:=x.slab.recs.set j { r with w:=w' } }:=by
  show (x.slab.try k.slot (x.slab.word k.slot) ev).1=_
  rw [hj,qim hr hn]
 rw [e1];rw [he] at hst;refine ⟨?_,.mine j e { r with w:=w' } ho rfl rfl,qbs (r':={ r with w:=w' }) hr hro hn,qdp (r':={ r with w:=w' }) hr hro hn (.inl rfl)⟩
 show x.slab.count - (X8 (x.slab.recs.set j { r with w:=w' }):Int)=_
 rw [hd (decide (0<r.p) && !Xl r.w)];split
 ·next hz=>rw [qie hr (by omega) (by show stW w'=0;omega)];omega
 ·next hz=>rw [qcz hr (by omega) (by show stW w'≠0;omega)];omega
theorem qlq (hc:Xo N x) (hk:Xk N k x) (m:MC) (hf:qgp (.at none m) k) (h1:qgb (.at none m) k) (hO:∀ j e,qcw (.at none m) k=some (j,e)→∃ r,x.slab.recs[j]?=some r∧stW r.w=e) :
 Xv (qcw (.at none m) k) (qcw (Xq m (k,x)).1 (Xq m (k,x)).2.1) x.slab (Xq m (k,x)).2.2.slab (Xw (Xq m (k,x)).1 (Xq m (k,x)).2.1 - Xw (.at none m) k):=by
 have hover:∀ (k2:Ql),qcw (Q2 k) k2=none∧Xw (Q2 k) k2=0:=fun k2=>by unfold Q2;split <;> exact ⟨rfl,rfl⟩
 have hs:=hc.slab;cases m with
 | right =>
   show Xv none (qcw (if qdm k then ((.row1 .ends1,Qf 1 (k,x)):SC × ZC) else (.at none .enter,(k,x))).1 (if qdm k then ((.row1 .ends1,Qf 1 (k,x)):SC × ZC) else (.at none .enter,(k,x))).2.1) _ (if qdm k then ((.row1 .ends1,Qf 1 (k,x)):SC × ZC) else (.at none .enter,(k,x))).2.2.slab (Xw (if qdm k then ((.row1 .ends1,Qf 1 (k,x)):SC × ZC) else (.at none .enter,(k,x))).1 (if qdm k then ((.row1 .ends1,Qf 1 (k,x)):SC × ZC) else (.at none .enter,(k,x))).2.1 - 0)
   split <;> exact Xv.same rfl rfl (.inl rfl)
 | enter=>exact Xv.same rfl rfl (.inl rfl)
 | gate =>
   obtain ⟨r,hr⟩:∃ r,Xq .gate (k,x)=r:=⟨_,rfl⟩;have e:Xq .gate (k,x)=if x.f.closed=true then (Q2 k,Qf 3 (k,x)) else if k.kind=1∨k.kind=2 then (.at none .asks,({ k with rq:=some ⟨k.period,0,0,0,0,0⟩ },x)) else (.at none .looks,(k,x)):=rfl
   rw [e];split
   ·exact Xv.same rfl (by show Xw (Q2 k) _ - 0=0;rw [(hover _).2];rfl) (.inr (hover _).1)
   ·split <;> exact Xv.same rfl rfl (.inl rfl)
 | asks =>
   have hk3:k.kind≠3:=by have h1:k.kind=1∨k.kind=2:=h1;omega
   obtain ⟨q,hq⟩:=Option.isSome_iff_exists.1 hf.1;have hst:=hf.2 q hq;have hqo:=hk.rq q hq;have e:Xq .asks (k,x)=Zp (k,x) q:=by show (match k.rq with | none=>_ | some q=>_)=_;rw [hq]
   have hp:Xw (.at none .asks) k=if q.next=2 then 1 else 0:=by show qfz k.rq=_;rw [hq];rfl
   rw [e,hp]
   show Xv none _ _ _ _
   by_cases hn0:q.next=0
   ·have er:Q3 x.slab q=(x.slab,Yu x.slab q):=by unfold Q3;rw [if_neg (by omega),if_pos hn0]
    unfold Zp;simp only [er];rw [if_neg (show ¬ q.next=2 by omega)];unfold Yu;split
    ·exact Xv.same rfl rfl (.inl rfl)
    ·simp only [hst]
     exact Xv.same rfl rfl (.inl rfl)
   ·by_cases hn1:q.next=1
    ·have er:Q3 x.slab q=Jn x.slab q:=by unfold Q3;rw [if_neg (by omega),if_neg hn0,if_pos hn1]
     unfold Zp;simp only [er];rw [if_neg (show ¬ q.next=2 by omega)];unfold Jn;split
     ·simp only [hst]
      exact ⟨by show x.slab.count+1 - (X8 x.slab.recs:Int)=x.slab.count - X8 x.slab.recs+(1 - 0);omega,.calm rfl (.inl rfl),qbb rfl,qeg rfl⟩
     ·simp only [hst]
      exact Xv.same rfl rfl (.inl rfl)
    ·have hn2:q.next=2:=by have:=hqo.next;omega
     have er:Q3 x.slab q=Jd x.slab q:=by unfold Q3;rw [if_neg (by omega),if_neg hn0,if_neg hn1]
     unfold Zp;simp only [er];rw [if_pos hn2];obtain ⟨j,hj⟩:=Int.eq_ofNat_of_zero_le hqo.slot0;have hjl:j<x.slab.recs.length:=by have:=hqo.slot1;omega
     have hr:=List.getElem?_eq_getElem hjl;generalize x.slab.recs[j]=r at hr;have hro:=hs.recs r (List.mem_of_getElem? hr);have hn64:=hs.n1;have hgd:x.slab.recs.getD q.slot.toNat Rec.zero=r:=by rw [hj,Int.toNat_natCast];exact qa hr
     unfold Jd;simp only [hgd];split
     ·next hz =>
      have hnx:Qs r.w 1 (decide (0<q.p))=((Qs r.w 1 (decide (0<q.p))).1,0):=Prod.ext rfl hz;obtain ⟨_,_,g3,g4⟩:=qbw hro hnx;have g3:(stW r.w == 0)=true:=g3;have g4:stW (Qs r.w 1 (decide (0<q.p))).1=1:=g4;have hz0:stW r.w=0:=by simpa using g3
      generalize (Qs r.w 1 (decide (0<q.p))).1=w' at g4 hnx;have hid:((r.g+1)*64+q.slot) % 64=j:=by have:=hqo.slot0;omega
      simp only [if_neg (show ¬ (2:Int)=1 by decide),if_pos (show (2:Int)=2 from rfl)];refine ⟨?_,.other j r ⟨w',r.g+1,q.p⟩ hr (by omega) (by rw [hj];rfl) (.inr ⟨1,?_,g4,.inl rfl⟩),?_,?_⟩
      ·show x.slab.count - (X8 (x.slab.recs.set q.slot.toNat ⟨w',r.g+1,q.p⟩):Int)=_
       rw [hj,Int.toNat_natCast,qhj hr hz0 (by show stW w'≠0;omega)]
       show _=_+(0 - 1)
       omega
      ·show (if k.kind=3 then none else some ((((r.g+1)*64+q.slot) % 64).toNat,(1:Int)))=_
       rw [if_neg hk3,hid,Int.toNat_natCast]
      ·show ∀ M,Y3 M x.slab.recs→Y3 (M+1) (x.slab.recs.set q.slot.toNat ⟨w',r.g+1,q.p⟩)
       rw [hj,Int.toNat_natCast];exact qbs (r':=⟨w',r.g+1,q.p⟩) hr hro hnx
      ·show qdg x.slab.recs (x.slab.recs.set q.slot.toNat ⟨w',r.g+1,q.p⟩)
       rw [hj,Int.toNat_natCast];exact qdp (r':=⟨w',r.g+1,q.p⟩) hr hro hnx (.inr rfl)
     ·simp only [hst]
      exact Xv.same rfl (by show qfz (some _) - 1=0;simp [qfz,hn2]) (.inl rfl)
 | queues =>
   obtain ⟨t,ht⟩:=Option.isSome_iff_exists.1 (show k.tk.isSome=true from hf);obtain ⟨i,t⟩:=t;have hi:=(hk.tk i t ht).2;have hsh:=List.getElem?_eq_getElem hi
   have e:Xq .queues (k,x)=Q8 (k,x) i t x.shs[i]:=by
    show (match k.tk with | none=>_ | some (i,t)=>_)=_
    rw [ht];simp only [hsh]
   rw [e];unfold Q8;simp only [];split
   ·exact Xv.same rfl rfl (.inl rfl)
   ·split
    ·exact Xv.same rfl rfl (.inr rfl)
    ·split
     ·next hn1 h2 =>
      refine Xv.same rfl rfl (.inl ?_)
      show some (k.slot.toNat,(1:Int))=if k.kind=3 then none else some (k.slot.toNat,1)
      rw [if_neg (fun h=>hn1 ⟨h2,h⟩)]
     ·split
      ·exact Xv.same rfl rfl (.inr rfl)
      ·next h3 =>
       refine Xv.same rfl rfl (.inl ?_)
       show some (k.slot.toNat,(1:Int))=if k.kind=3 then none else some (k.slot.toNat,1)
       rw [if_neg h3]
 | submits =>
   obtain ⟨r,hr,he⟩:=hO _ _ rfl;exact qbp hs 2 1 rfl hk.slot hr he (by decide) (by decide) (fun _=>⟨rfl,rfl⟩) (by decide) (fun _=>rfl)
 | fills =>
   have e:(Xq .fills (k,x)).2.2.slab=x.slab:=by
    show (Xh (Ze (k,x)) (k,x)).2.slab=x.slab
    unfold Xh;split
    ·rfl
    ·split <;> rfl
   exact Xv.same e rfl (.inl rfl)
 | looks =>
   have e:Xq .looks (k,x)=(if (Qp (k,x)).2=0 then (if k.kind=3 then (.at none .queues,({ (Qp (k,x)).1.1 with tk:=some (Zk (Qp (k,x)).1.1.slot x,Qx) },x)) else (.at none .tries,(Qp (k,x)).1)) else if (Qp (k,x)).2=1 then (Q2 k,Qf 1 (Qp (k,x)).1) else (Q2 k,Qf 0 (Qp (k,x)).1)):=rfl;rw [e];split
   ·split
    ·next h3 =>
     refine Xv.same rfl rfl (.inl ?_)
     show (if (Qp (k,x)).1.1.kind=3 then none else _)=none
     rw [if_pos ((qjw (k,x)).2.1.trans h3)]
    ·exact Xv.same rfl rfl (.inl rfl)
   ·split
    ·exact Xv.same rfl (by show Xw (Q2 k) _ - 0=0;rw [(hover _).2];rfl) (.inr (hover _).1)
    ·exact Xv.same rfl (by show Xw (Q2 k) _ - 0=0;rw [(hover _).2];rfl) (.inr (hover _).1)
 | again =>
   have e:Xq .again (k,x)=(if (Qp (k,x)).2=0 then (.at none .tries,(Qp (k,x)).1) else (.thn (.row1 .again1) .leaves,Qf 0 (Qp (k,x)).1)):=rfl;rw [e];split <;> exact Xv.same rfl rfl (.inl rfl)
 | tries =>
   have h1:3≤k.kind∧k.kind≤5:=h1
   have e:Xq .tries (k,x)=(if (Xc (k,x)).2≠0 then (if k.kind=3 then (.at none .again,(Xc (k,x)).1) else (.at none .looks,(Xc (k,x)).1)) else if k.kind=3 then (.at none .fills,Zi { ev0 with kind:=6,id:=k.id,gen:=(Xc (k,x)).1.1.gen,dl:=k.cdl } (okC (Xc (k,x)).1.1,(Xc (k,x)).1.2))
    else if k.kind=5 then (.row1 .ends1,Zi { ev0 with kind:=8,id:=k.id,gen:=(Xc (k,x)).1.1.gen } (okC (Xc (k,x)).1.1,(Xc (k,x)).1.2))
    else (.thn (.row2 .tries1 .drop) .ends,Zi { ev0 with kind:=7,id:=k.id,gen:=(Xc (k,x)).1.1.gen } (okC (Xc (k,x)).1.1,(Xc (k,x)).1.2))):=rfl
   have hev:k.event=if k.kind=4 then 6 else if k.kind=5 then 7 else 8:=rfl
   rcases Yv hs k.slot k.saw k.event with ⟨t1,t2⟩ | ⟨t1,j,r,w',t2,t3,t4,t5,t6,t7,t8⟩
   ·rw [e,if_pos (show (Xc (k,x)).2≠0 from t1)]
    split
    ·exact Xv.same t2 rfl (.inl rfl)
    ·exact Xv.same t2 rfl (.inl rfl)
   ·have hst:=qbe t5 (show k.event=6∨k.event=7∨k.event=8 by rw [hev];split <;> first | exact .inl rfl | (split <;> first | exact .inr (.inl rfl) | exact .inr (.inr rfl))) t6
    have hsl:(Xc (k,x)).1.2.slab={ x.slab with recs:=x.slab.recs.set j { r with w:=w' } }:=t7
    have hcnt:∀ d:Int,d=0→({ x.slab with recs:=x.slab.recs.set j { r with w:=w' } }:Qg).count - X8 ({ x.slab with recs:=x.slab.recs.set j { r with w:=w' } }:Qg).recs=x.slab.count - X8 x.slab.recs+d:=fun d hd=>by
     show x.slab.count - (X8 (x.slab.recs.set j { r with w:=w' }):Int)=_
     rw [qcz t3 (by omega) (by show stW w'≠0;exact hst.2.1)];omega
    have hne:stW r.w≠1∧stW r.w≠5∧stW r.w≠6:=by omega
    rw [e,if_neg (show ¬ (Xc (k,x)).2≠0 from fun h=>h t1)]
    have fin:∀ (o':qfc) (z:Qk),z.slab=(Xc (k,x)).1.2.slab→(o'=none∨∃ e,o'=some (j,e)∧stW w'=e∧(e=1∨e=5∨e=6))→Xv none o' x.slab z.slab 0:=fun o' z hz ho=>by
     rw [hz,hsl];exact ⟨hcnt 0 rfl,.other j r { r with w:=w' } t3 hne rfl ho,qbs (r':={ r with w:=w' }) t3 t5 t6,qdp (r':={ r with w:=w' }) t3 t5 t6 (.inl rfl)⟩
    split
    ·exact fin _ _ rfl (.inl rfl)
    ·split
     ·exact fin _ _ rfl (.inl rfl)
     ·next k3 k5 =>
      have k4:k.kind=4:=by omega
      refine fin _ _ rfl (.inr ⟨5,?_,hst.2.2 (by rw [hev,if_pos k4]),.inr (.inl rfl)⟩)
      show some (k.slot.toNat,(5:Int))=_
      rw [t2,Int.toNat_natCast]
 | ends=>exact hf.elim
 | leaves=>exact hf.elim
theorem qjy {s:SC} (hj:JC N s (k,x)) (h1:qgb s k) (hO:∀ j e,qcw s k=some (j,e)→∃ r,x.slab.recs[j]?=some r∧stW r.w=e) (hp:Xw s k≤x.slab.count) :
 Xv (qcw s k) (qcw (Xn s (k,x)).1 (Xn s (k,x)).2.1) x.slab (Xn s (k,x)).2.2.slab (Xw (Xn s (k,x)).1 (Xn s (k,x)).2.1 - Xw s k):=by
 obtain ⟨hc,hk,hf⟩:=hj;simp only at hc hk hf;have hs:=hc.slab
 have hdrop:1≤x.slab.count→Xv none none x.slab x.slab.drop.1 (-1):=fun h=>by
  unfold Qg.drop;rw [if_pos (by omega)];exact ⟨by show x.slab.count - 1 - (X8 x.slab.recs:Int)=_;omega,.calm rfl (.inl rfl),qbb rfl,qeg rfl⟩
 match s,hf,h1,hO,hp with
 | .nil,_,_,_,_=>exact Xv.same rfl rfl (.inl rfl)
 | .at none m,hf,h1,hO,_=>exact qlq hc hk m hf h1 hO
 | .row1 .ends1,_,_,_,_=>exact Xv.same rfl rfl (.inl rfl)
 | .thn (.row1 .leaves1) .ends,_,_,_,_=>exact Xv.same rfl rfl (.inl rfl)
 | .thn (.row2 .undo .drop) .leaves,_,_,hO,_ =>
   obtain ⟨r,hr,he⟩:=hO _ _ rfl;exact qbp hs 9 1 rfl hk.slot hr he (by decide) (by decide) (fun _=>⟨rfl,rfl⟩) (by decide) (fun _=>rfl)
 | .thn (.row1 .drop) .leaves,_,_,_,hp=>exact hdrop hp
 | .thn (.row1 .again1) .leaves,_,_,_,_ =>
   have e:(Xn (.thn (.row1 .again1) .leaves) (k,x)).2.2.slab=x.slab:=by
    show (Xh _ (k,x)).2.slab=x.slab
    unfold Xh;split
    ·rfl
    ·split <;> rfl
   exact Xv.same e rfl (.inl rfl)
 | .thn (.row2 .tries1 .drop) .ends,_,_,hO,_ =>
   obtain ⟨r,hr,he⟩:=hO _ _ rfl;exact qbp hs 10 5 rfl hk.slot hr he (by decide) (by decide) (fun _=>⟨rfl,rfl⟩) (by decide) (fun _=>rfl)
 | .thn (.row1 .drop) .ends,_,_,_,hp=>exact hdrop hp
end
def ownG:ST→qgj→qfc
 | .row2 .rel .drop,k=>some (k.t.slot.toNat,6)
 | _,_=>none
def qkm:ST→Int
 | .row1 .drop=>1
 | _=>0
def finG:ST→qgj→Prop
 | .at none .finishes,k=>stW k.saw=4
 | _,_=>True
def qjo:ST→ST
 | .thn (.thn (.thn G (.fires1 _ _)) .one21121) (.shards1 _)=>G
 | _=>.nil
def ownT (s:ST) (k:qgj):qfc:=ownG (qjo s) k
def qmn (s:ST):Int:=qkm (qjo s)
def finT (s:ST) (k:qgj):Prop:=finG (qjo s) k
def ownS:SS→qfc
 | .thn (.row2 (.release i) .drop) (.slots2 _)=>some (i.toNat,5)
 | _=>none
def qkc:SS→Int
 | .thn (.row1 .drop) (.slots2 _)=>1
 | _=>0
def finS:SS→qlz→Prop
 | .thn (.at none (.leaves0 _)) (.slots2 _),k=>stW k.saw=2∨stW k.saw=3
 | .thn (.row2 (.release i) .drop) (.slots2 _),_=>0≤i
 | _,_=>True
def ownW:Wk→qfc
 | .call s k=>qcw s k
 | .turn s k=>ownT s k
 | .clo s _=>ownS s
def qlj:Wk→Int
 | .call s k=>Xw s k
 | .turn s _=>qmn s
 | .clo s _=>qkc s
def finW:Wk→Prop
 | .call _ _=>True
 | .turn s k=>finT s k
 | .clo s k=>finS s k
theorem qi8 (w:Wk):0≤qlj w:=by
 cases w with
 | call s k =>
   show 0≤Xw s k
   unfold Xw;split
   ·unfold qfz;split
    ·split <;> decide
    ·decide
   ·decide
   ·decide
 | turn s k=>show 0≤qkm (qjo s);unfold qkm;split <;> decide
 | clo s k=>show 0≤qkc s;unfold qkc;split <;> decide
structure SlI (N:Nat) (S:SvS):Prop where
 cnt:S.z.x.slab.count=X8 S.z.x.slab.recs+qk (S.all.map fun j=>qlj j.w)
 own:OwI (S.all.map fun j=>ownW j.w) S.z.x.slab.recs
 fin:∀ (a:Nat) (j:qlx),S.all[a]?=some j→finW j.w
 gen:Y3 N S.z.x.slab.recs
section
variable {N:Nat} {S:SvS}
theorem sl0 (c:Cfg) (hk:c.ok=true):SlI 0 (qmo c):=by
 refine ⟨?_,⟨fun a k e ha=>(by cases ha),fun a b k e f ha=>(by cases ha)⟩,fun a j ha=>(by cases ha),fun r hr=>by
  rw [List.eq_of_mem_replicate (show r∈List.replicate c.cap.toNat Rec.zero from hr)]
  decide⟩
 show (0:Int)=X8 (List.replicate c.cap.toNat Rec.zero)+0
 have:X8 (List.replicate c.cap.toNat Rec.zero)=0:=by
  unfold X8;rw [List.countP_eq_zero];intro r hr;rw [List.eq_of_mem_replicate hr];decide
 rw [this];rfl
end
def st2 (b:Bool):Int:=if b=true then 0 else 2
theorem qgr (b:Bool):0≤st2 b∧st2 b≤2:=by cases b <;> decide
def Yn (s:Qg) (k old ev:Int):Bool:=(s.try k old ev).2.2 == 0
def Zn (rs:List Rec):Nat→Nat→Int
 | 0,_=>0
 | f+1,i=>if Xz (rs.getD (i % rs.length) Rec.zero)=true then 1+Zn rs f (i+1) else 0
theorem Z2 (rs:List Rec):∀ f i,0≤Zn rs f i∧Zn rs f i≤f
 | 0,_=>⟨Int.le_refl _,Int.le_refl _⟩
 | f+1,i=>by
   have:=Z2 rs f (i+1);unfold Zn;split <;> omega
theorem qcs (rs:List Rec):∀ (f i j:Nat),i % rs.length=j % rs.length→Zn rs f i=Zn rs f j
 | 0,_,_,_=>rfl
 | f+1,i,j,h=>by
   unfold Zn;rw [h,qcs rs f (i+1) (j+1) (by rw [Nat.add_mod i,Nat.add_mod j,h])]
theorem qav (rs:List Rec):∀ (f i:Nat),(∃ j,j<f∧Xz (rs.getD ((i+j) % rs.length) Rec.zero)=false)→Zn rs (f+1) i=Zn rs f i
 | 0,i,⟨j,h,_⟩=>absurd h (Nat.not_lt_zero j)
 | f+1,i,⟨j,h1,h2⟩=>by
   show (if Xz (rs.getD (i % rs.length) Rec.zero)=true then 1+Zn rs (f+1) (i+1) else 0)=(if Xz (rs.getD (i % rs.length) Rec.zero)=true then 1+Zn rs f (i+1) else 0)
   split
   ·next hb =>
    cases j with
    | zero=>rw [Nat.add_zero,hb] at h2;cases h2
    | succ j=>rw [qav rs f (i+1) ⟨j,by omega,by rw [show i+1+j=i+(j+1) by omega];exact h2⟩]
   ·rfl
theorem qgw {rs:List Rec} {i:Nat} (hb:Xz (rs.getD (i % rs.length) Rec.zero)=true) (hf:∃ r∈rs,Xz r=false):Zn rs rs.length (i+1)+1≤Zn rs rs.length i:=by
 obtain ⟨r,hr,hfr⟩:=hf;obtain ⟨k,hk⟩:=List.mem_iff_getElem?.1 hr;have hkl:=(List.getElem?_eq_some_iff.1 hk).1;obtain ⟨n,hn⟩:∃ n,rs.length=n+1:=⟨rs.length - 1,by omega⟩;have hkd:rs.getD k Rec.zero=r:=qa hk;have hne:i % rs.length≠k:=fun e=>by rw [e,hkd,hfr] at hb;cases hb
 have hex:∃ j,j<n∧Xz (rs.getD ((i+1+j) % rs.length) Rec.zero)=false:=by
  have hi:=Nat.mod_lt i (show 0<rs.length by omega)
  have hmod:∀ j,(i+1+j) % rs.length=(i % rs.length+1+j) % rs.length:=fun j=>by
   rw [Nat.add_assoc,Nat.add_assoc,Nat.mod_add_mod]
  generalize i % rs.length=a at hne hi hmod;rcases Nat.lt_or_ge a k with h | h
  ·refine ⟨k - a - 1,by omega,?_⟩
   rw [hmod,show a+1+(k - a - 1)=k by omega,Nat.mod_eq_of_lt hkl,hkd];exact hfr
  ·refine ⟨k+rs.length - a - 1,by omega,?_⟩
   rw [hmod,show a+1+(k+rs.length - a - 1)=k+rs.length by omega,Nat.add_mod_right,Nat.mod_eq_of_lt hkl,hkd];exact hfr
 have hm:=qav rs n (i+1) hex;rw [hn] at hb ⊢
 have e:Zn rs (n+1) i=1+Zn rs n (i+1):=by
  show (if Xz (rs.getD (i % rs.length) Rec.zero)=true then _ else _)=_
  rw [hn,if_pos hb]
 rw [e,hm];omega
theorem qco {rs rs':List Rec} (hl:rs'.length=rs.length) (h:∀ i,Xz (rs'.getD i Rec.zero)=true→Xz (rs.getD i Rec.zero)=true):∀ f i,Zn rs' f i≤Zn rs f i
 | 0,_=>Int.le_refl _
 | f+1,i=>by
   have h1:=qco hl h f (i+1);have h2:=(Z2 rs f (i+1)).1;unfold Zn;rw [hl];have h3:=h (i % rs.length);split
   ·next hb=>rw [if_pos (h3 hb)];omega
   ·split <;> omega
def Xy (x:Qk) (i:Nat):Int:=(x.shs.getD i (Xd 1)).ring.tail
def qdn (k:Ql) (x:Qk):Int:=match k.tk with
 | none=>0
 | some (i,t)=>if t.next=0 then 244 else if t.next=1 then 243+(if Xy x i=t.pos then 0 else 3) else 242+(if Xy x i=t.pos then 0 else 3)
def qbc (k:Ql) (x:Qk):Int:=match k.rq with
 | none=>0
 | some q=>if q.next=0 then 315 else if q.next=1 then 314+(if x.slab.count=q.saw then 0 else 2) else 293+Zn x.slab.recs x.slab.recs.length q.slot.toNat
def Xp:SC→Ql→Qk→Int
 | .row1 .ends1,_,_=>1
 | .thn (.row1 .leaves1) .ends,_,_=>2
 | .at none .fills,_,_=>3
 | .at none .submits,_,_=>12
 | .thn (.row1 .drop) .leaves,_,_=>11
 | .thn (.row2 .undo .drop) .leaves,_,_=>20
 | .thn (.row1 .again1) .leaves,_,_=>3
 | .at none .again,_,_=>13
 | .at none .tries,k,x=>(if k.kind=3 then 12 else 28)+st2 (Yn x.slab k.slot k.saw k.event)
 | .thn (.row1 .drop) .ends,_,_=>10
 | .thn (.row2 .tries1 .drop) .ends,_,_=>19
 | .at none .looks,k,_=>if k.kind=3 then 245 else 29
 | .at none .queues,k,x=>qdn k x
 | .at none .asks,k,x=>qbc k x
 | .at none .gate,_,_=>316
 | .at none .enter,_,_=>317
 | .at none .right,_,_=>318
 | _,_,_=>0
inductive qkt (x x':Qk):Int→Prop where
 | calm (h1:x'.slab=x.slab) (h2:∀ i,Xy x' i=Xy x i):qkt x x' 0
 | count (h1:x'.slab.recs=x.slab.recs) (h2:∀ i,Xy x' i=Xy x i):qkt x x' 2
 | tail (h1:x'.slab=x.slab):qkt x x' 3
 | word (j:Nat) (r r':Rec) (hr:x.slab.recs[j]?=some r) (hb:Xz r=true) (h1:x'.slab.recs=x.slab.recs.set j r') (hc:x'.slab.count=x.slab.count) (h2:∀ i,Xy x' i=Xy x i):qkt x x' 2
 | take (h1:x'.slab.recs.length=x.slab.recs.length) (hc:x'.slab.count=x.slab.count) (h2:∀ i,Xy x' i=Xy x i):qkt x x' 12
theorem qmu {x x':Qk} {c:Int} (h:qkt x x' c) (hn:x.slab.recs.length≤12) (s:SC) (k:Ql):Xp s k x'≤Xp s k x+c∧0≤c:=by
 have hc0:0≤c:=by cases h <;> decide
 refine ⟨?_,hc0⟩
 unfold Xp;split
 case h_9 =>
  have b1:=qgr (Yn x'.slab k.slot k.saw k.event);have b2:=qgr (Yn x.slab k.slot k.saw k.event);cases h with
  | calm h1 h2=>rw [h1];omega
  | count h1 h2=>omega
  | tail h1=>rw [h1];omega
  | word j r r' hr hb h1 hc h2=>omega
  | take h1 hc h2=>omega
 case h_13 =>
  unfold qdn;split
  ·omega
  ·next i t _ =>
   have ht:(∀ i,Xy x' i=Xy x i)∨c=3:=by
    cases h with
    | calm h1 h2=>exact .inl h2
    | count h1 h2=>exact .inl h2
    | tail h1=>exact .inr rfl
    | word j r r' hr hb h1 hc h2=>exact .inl h2
    | take h1 hc h2=>exact .inl h2
   split
   ·omega
   ·split
    ·rcases ht with ht | ht
     ·rw [ht];omega
     ·split <;> split <;> omega
    ·rcases ht with ht | ht
     ·rw [ht];omega
     ·split <;> split <;> omega
 case h_14 =>
  unfold qbc;split
  ·omega
  ·next q _ =>
   have hb:=Z2 x.slab.recs x.slab.recs.length q.slot.toNat;have hb':=Z2 x'.slab.recs x'.slab.recs.length q.slot.toNat;split
   ·omega
   ·split
    ·cases h with
     | calm h1 h2=>rw [h1];omega
     | count h1 h2=>split <;> split <;> omega
     | tail h1=>rw [h1];omega
     | word j r r' hr hb h1 hc h2=>rw [hc];omega
     | take h1 hc h2=>rw [hc];omega
    ·cases h with
     | calm h1 h2=>rw [h1];omega
     | count h1 h2=>rw [h1];omega
     | tail h1=>rw [h1];omega
     | word j r r' hr hbb h1 hc h2 =>
       have hm:=qco (rs:=x.slab.recs) (rs':=x'.slab.recs) (by rw [h1,List.length_set]) (fun i hi=>by
        rw [h1,List.getD_eq_getElem?_getD,List.getElem?_set] at hi;rw [List.getD_eq_getElem?_getD];split at hi
        ·next e=>subst e;rw [hr];exact hbb
        ·exact hi) x.slab.recs.length q.slot.toNat
       have hlen:x'.slab.recs.length=x.slab.recs.length:=by rw [h1,List.length_set]
       rw [hlen];omega
     | take h1 hc h2=>omega
 all_goals omega
def qgo (x:Qk):Int:=qk (x.shs.map fun s:Qy=>s.ring.tail - s.ring.head)
def Qz (s:SC) (k:Ql) (x:Qk) (r:SC × ZC):Prop :=
 ∃ c,qkt x r.2.2 c∧Xp r.1 r.2.1 r.2.2+1+4*c+216*(qgo r.2.2 - qgo x)≤Xp s k x
section
variable {N:Nat} {k:Ql} {x:Qk} {s:SC} {r:SC × ZC}
theorem Jv {x x':Qk} (h:x'.shs=x.shs):qgo x'=qgo x:=by unfold qgo;rw [h]
theorem Yt {x x':Qk} (h:x'.shs=x.shs) (i:Nat):Xy x' i=Xy x i:=by unfold Xy;rw [h]
theorem Qz.calm (h1:r.2.2.slab=x.slab) (h2:r.2.2.shs=x.shs) (h3:Xp r.1 r.2.1 r.2.2+1≤Xp s k x):Qz s k x r :=
 ⟨0,.calm h1 (Yt h2),by rw [Jv h2];omega⟩
theorem Qz.count (h1:r.2.2.slab.recs=x.slab.recs) (h2:r.2.2.shs=x.shs) (h3:Xp r.1 r.2.1 r.2.2+9≤Xp s k x):Qz s k x r :=
 ⟨2,.count h1 (Yt h2),by rw [Jv h2];omega⟩
theorem Qz.word (j:Nat) (a b:Rec) (hr:x.slab.recs[j]?=some a) (hb:Xz a=true) (h1:r.2.2.slab.recs=x.slab.recs.set j b) (hc:r.2.2.slab.count=x.slab.count) (h2:r.2.2.shs=x.shs) (h3:Xp r.1 r.2.1 r.2.2+9≤Xp s k x):Qz s k x r :=
 ⟨2,.word j a b hr hb h1 hc (Yt h2),by rw [Jv h2];omega⟩
theorem Qz.take (h1:r.2.2.slab.recs.length=x.slab.recs.length) (hc:r.2.2.slab.count=x.slab.count) (h2:r.2.2.shs=x.shs) (h3:Xp r.1 r.2.1 r.2.2+49≤Xp s k x):Qz s k x r :=
 ⟨12,.take h1 hc (Yt h2),by rw [Jv h2];omega⟩
theorem qb5 {x x':Qk} {i:Nat} {a b:Qy} (hs:x.shs[i]?=some a) (h2:x'.shs=x.shs.set i b):qgo x'=qgo x - (a.ring.tail - a.ring.head)+(b.ring.tail - b.ring.head):=by
 unfold qgo;rw [h2,qv (f:=fun s:Qy=>s.ring.tail - s.ring.head) hs]
theorem qi9 {x x':Qk} {i:Nat} {a b:Qy} (hs:x.shs[i]?=some a) (h2:x'.shs=x.shs.set i b) (ht:b.ring.tail=a.ring.tail) (n:Nat):Xy x' n=Xy x n:=by
 unfold Xy;rw [h2,List.getD_eq_getElem?_getD,List.getD_eq_getElem?_getD,List.getElem?_set];have hi:=(List.getElem?_eq_some_iff.1 hs).1;split
 ·next e=>subst e;rw [hs];exact ht
 ·rfl
theorem Qz.ring {i:Nat} {a b:Qy} (hs:x.shs[i]?=some a) (h1:r.2.2.slab=x.slab) (h2:r.2.2.shs=x.shs.set i b) (ht:b.ring.tail=a.ring.tail) (hh:b.ring.head=a.ring.head) (h3:Xp r.1 r.2.1 r.2.2+1≤Xp s k x):Qz s k x r :=
 ⟨0,.calm h1 (qi9 hs h2 ht),by rw [qb5 hs h2,ht,hh];omega⟩
theorem Qz.tail {i:Nat} {a b:Qy} (hs:x.shs[i]?=some a) (h1:r.2.2.slab=x.slab) (h2:r.2.2.shs=x.shs.set i b) (ht:b.ring.tail=a.ring.tail+1) (hh:b.ring.head=a.ring.head) (h3:Xp r.1 r.2.1 r.2.2+229≤Xp s k x):Qz s k x r :=
 ⟨3,.tail h1,by rw [qb5 hs h2,ht,hh];omega⟩
theorem zo (k k':Ql) (x':Qk):Xp (Q2 k) k' x'≤2:=by
 unfold Q2;split
 ·show (1:Int)≤2;decide
 ·show (2:Int)≤2;decide
theorem qju {s:Qg} {id:Int} (h:s.serr id=0):s.has (s.slot id):=by
 unfold Qg.serr at h;split at h
 ·next hk =>
  unfold Qg.slot;rw [if_pos hk];exact ⟨Int.emod_nonneg _ (by decide),hk.1⟩
 ·cases h
theorem look_ok {s:Qg} (h:(lookW k s).2=0):Yn s (lookW k s).1.slot (lookW k s).1.saw (lookW k s).1.event=true:=by
 unfold lookW at h ⊢;split at h
 ·next h1=>exact absurd h h1
 ·next h1 =>
  have h1:s.serr k.id=0:=Decidable.of_not_not h1;have hh:=qju h1;rw [if_neg (fun e=>e h1)];split at h
  ·cases h
  ·next h2 =>
   rw [if_neg h2];have e1:s.word (s.slot k.id)=(s.recs.getD (s.slot k.id).toNat Rec.zero).w:=by unfold Qg.word;rw [if_pos hh]
   have e2:s.period (s.slot k.id)=(s.recs.getD (s.slot k.id).toNat Rec.zero).p:=by unfold Qg.period;rw [if_pos hh]
   have h:(Qs (s.word (s.slot k.id)) k.event (decide (0<s.period (s.slot k.id)))).2=0:=h
   show Yn s (s.slot k.id) (s.word (s.slot k.id)) k.event=true
   unfold Yn Qg.try;rw [if_pos hh];dsimp only
   rw [e2] at h;rw [if_neg (fun e=>e h),if_pos e1.symm];rfl
theorem qhq {r:Rec} (hr:Zy r) (p:Bool) (h:Xz r=false) {M:Int} (hg:X0 r.w≤M) (hM:M<4294967295):(Qs r.w 1 p).2=0:=by
 have hz:stW r.w=0:=by
  unfold Xz at h;simpa using h
 unfold Qs;rw [if_neg (by rw [hr.ok];decide),if_neg (by omega)];dsimp only
 rw [hz];rw [if_neg (show ¬ (toW 0 1 (p && !Xl r.w)).2.2=false by show ¬ ((0:Int) == 0)=false;decide)];rw [if_neg (show ¬ 4294967295<X0 r.w+(toW 0 1 (p && !Xl r.w)).2.1 by show ¬ 4294967295<X0 r.w+1;omega)]
end
end
end Go.Proofs.YtcneeepdclgdcaaGreat
