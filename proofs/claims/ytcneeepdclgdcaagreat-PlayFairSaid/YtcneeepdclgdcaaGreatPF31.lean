import Derived.Test.YtcneeepdclgdcaaGreatPF30
import Derived.Test.YtcneeepdclgdcaaGreatPF23
import Derived.Test.YtcneeepdclgdcaaGreatPF15
import Derived.Test.YtcneeepdclgdcaaGreatPF17
import Derived.Test.YtcneeepdclgdcaaGreatPF26
import Derived.Deep.LoopGhost
import Derived.Conc.LoneCalls
import Derived.Test.YtcneeepdclgdcaaGreatPF24
set_option maxRecDepth 100000
set_option maxHeartbeats 4000000
namespace Go.Proofs.YtcneeepdclgdcaaGreat
open Go.Value renaming int->WK,func->WN,nilFunc->WR,tuple->WZ,pointer->XH
open Go.IntKind renaming u64->WL,i64->WS
open Go.Ending renaming returned->WM
open _root_.List renaming getD_eq_getElem?_getD->WO,mem_or_eq_of_mem_set->WT,length_set->WU,perm_iff_count->WV,getElem?_eq_some_iff->WW,length_append->WX,mem_of_getElem?->WY,getElem?_eq_getElem->XA,length_cons->XB,flatten_append->XC,append_nil->XE,flatten_cons->XF,count_append->XG,cons_append->XI,flatten_nil->XJ,length_nil->XK,nil_append->XL,length_map->XN,append_toArray->XT,size_toArray->XU,push_toArray->XV,getElem?_append_left->XX,set_cons_zero->XZ,set_cons_succ->YA,getElem?_map->YC,append_assoc->YD,getElem_mem->YE,mem_append->YF,mem_map->YG
open Go.Fn renaming func->WQ
open _root_.And renaming intro->XD
open Go renaming bodyPost_ret->XM,callsIn_wide->XP,results_none->YB
open Go.Oper renaming semAt_some->XO
open _root_.Array renaming replicate_succ->XQ,replicate_zero->XR
open _root_.Decidable renaming byContradiction->XW
open _root_.Bool renaming and_eq_true->XY
open _root_.Nat renaming zero_le->YH
open Go.World renaming alloc->YI
set_option linter.all false
open Go.Proofs.Tryz
section
open Go.RowKit Go.Shelf
def za2 (t:Qn):Prop:=Jf t/\0<=t.slot
structure Ap (N:Nat) (k:Xd) (x:Qi):Prop where
 th:0<=k.th
 aA:0<=k.aA/\k.aA<18446744073709551616/\okW k.aA=true
 t:Jf k.t
 dl:k.due.length<=N
 due:∀ t∈k.due,za2 t
 sh:∀ i,k.s=some i->i<x.au.length
def K9 (ws:List Qg):Prop:=∀ w∈ws,fU (fun e=>0<=e.v.slot) w
structure TB (N:Nat) (z:ZT):Prop where
 core:Zg N z.x
 rest:Ao N z.x z.ws z.p
 k:Ap N z.k z.x
 ws:K9 z.ws
 iG:z.x.au.length<=4
def oo (s:ST) (k:Xd):Prop:=match s with
 | .at none .looks=>0<=k.t.slot
 | .at none .bE=>0<=k.t.slot
 | .thn (.ai (.put _)) .bB=>0<=k.t.slot
 | .at none .behind=>0<=k.t.slot
 | .at none (.aV next)=>0<=k.t.slot/\0<=next/\next<18446744073709551616/\k.t.gen<=4294967295
 | .at none .aS=>0<=k.t.slot
 | .aP .rel .drop=>0<=k.t.slot
 | .ai .drop=>0<=k.t.slot
 | _=>False
def zU (s:ST) (k:Xd) (i:Nat):Prop:=match s with
 | .at (some (.ready j)) (.bK n)=>j=i/\0<=n/\n<=1000000
 | .thn (.at none .bz) (.ax n)=>0<=k.t.slot/\0<=n/\n<=1000000
 | .thn (.at none .aH) (.ax n)=>0<=k.t.slot/\0<=n/\n<=1000000
 | _=>False
def Own (k:Xd) (x:Qi):Prop:=(x.au.getD (k.s.getD 0) (Qp 1)).who=k.th+1
def ky (s:ST) (k:Xd) (x:Qi) (i:Nat):Prop:=match s with
 | .at (some .lock) (.dI d)=>jl d k
 | .at none (.bX d)=>jl d k/\Own k x
 | .thn (.ai (.bH d)) (.aM e)=>jl d k/\e=d/\Own k x
 | .thn P (.af d)=>jl d k/\Own k x/\zU P k i
 | .thn (.thn G (.aD d n)) .ay=>jl d k/\Own k x/\n<=1000000/\n<k.due.length/\oo G k
 | .ai .unlock=>Own k x
 | _=>False
where jl (d:Nat) (k:Xd):Prop:=k.nd=d+1
def rM (s:ST) (k:Xd) (x:Qi):Prop:=match s with
 | .nil=>True
 | .at none .enter=>x.f.closed=true\/k.th<=1000000
 | .at none .gate=>x.f.closed=true\/k.th<=1000000
 | .at none .tick=>k.th<=1000000
 | .aP .leave1 .answer=>True
 | .ai .answer=>True
 | .thn X (.ae i)=>k.s=some i/\i<x.au.length/\k.th<=1000000/\ky X k x i
 | _=>False
structure JT (N:Nat) (s:ST) (z:ZT):Prop where
 b:TB N z
 fit:rM s z.k z.x
theorem Ap.mono {N M:Nat} {k:Xd} {x:Qi} (h:Ap N k x) (hm:N<=M):Ap M k x:=⟨h.th,h.aA,h.t,by have:=h.dl;omega,h.due,h.sh⟩
theorem TB.mono {N M:Nat} {z:ZT} (h:TB N z) (hm:N<=M):TB M z:=⟨h.core.mono hm,h.rest.mono hm,h.k.mono hm,h.ws,h.iG⟩
section
variable {N:Nat} {z:ZT}
theorem TB.ok (h:TB N z) (hN:N<1000000):xy z :=
 ⟨h.core.ok (by omega),h.k.th,by have:=h.rest.now;omega,h.k.aA,h.k.t,by have:=h.k.dl;omega,h.rest.wl,fun w hw=>(h.rest.kE w hw).ok hN,h.k.sh,fun s hs=>by have:=h.rest.turns s hs;omega,⟨h.rest.ch,by have:=h.rest.sp;omega⟩⟩
theorem TB.lX (h:TB N z) {k:Xd} (hk:Ap N k z.x):TB N { z with k:=k }:=⟨h.core,h.rest,hk,h.ws,h.iG⟩
theorem TB.note (h:TB N z) (E:EvS):TB (N+1) (z.note E):=by
 have h1:=h.rest.mono (M:=N+1) (by omega);have h2:=h.k.mono (M:=N+1) (by omega);exact ⟨Gi h.core _,⟨h1.now,h1.busy,h1.cap,h1.wl,h1.kE,h1.task,h1.turns,h1.ch,h1.sp⟩,⟨h2.th,h2.aA,h2.t,h2.dl,h2.due,h2.sh⟩,h.ws,h.iG⟩
theorem TB.aa (h:TB N z) {s:Qj} (hs:Xc s) (hl:s.recs.length=z.x.aa.recs.length):TB N { z with x:={ z.x with aa:=s } }:=by
 have h1:=h.rest;exact ⟨Bo h.core hs,⟨h1.now,h1.busy,by show z.x.f.cfg.cap=(s.recs.length:Int);rw [hl];exact h1.cap,h1.wl,h1.kE,h1.task,h1.turns,h1.ch,h1.sp⟩,⟨h.k.th,h.k.aA,h.k.t,h.k.dl,h.k.due,h.k.sh⟩,h.ws,h.iG⟩
theorem TB.look (h:TB N z) (st:Int):TB N (Qr st z).1:=h.lX ⟨h.k.th,Y3 h.core.aa _,h.k.t,h.k.dl,h.k.due,h.k.sh⟩
theorem TB.try (h:TB N z) (ev:Int):TB N (Qk ev z).1:=by
 obtain ⟨a,b⟩:=ui h.core.aa z.k.t.slot z.k.aA ev;exact h.aa a b
theorem UW (h:TB N z) {i:Nat} (hi:z.k.s=some i):z.aU∈z.x.au/\z.sh=i:=by
 have hlt:=h.k.sh i hi;have e:z.sh=i:=by unfold ZT.sh;rw [hi];rfl
 refine ⟨?_,e⟩
 unfold ZT.aU;rw [e,WO,XA hlt];exact YE hlt
theorem PT (h:TB N z) {i:Nat} (hi:z.k.s=some i):z.wh∈z.ws:=by
 have hlt:=h.k.sh i hi;have e:z.sh=i:=by unfold ZT.sh;rw [hi];rfl
 have hw:i<z.ws.length:=by rw [h.rest.wl];exact hlt
 unfold ZT.wh;rw [e,WO,XA hw];exact YE hw
theorem TB.cZ (h:TB N z) {s:Qs} (h1:lH (N+1) s.ring) (h2:∀ e∈s.ring.slots,Jf e.v) (h3:0<=s.turns/\s.turns<=N+1):TB (N+1) (z.cZ s):=by
 have hr:=h.rest.mono (M:=N+1) (by omega);have hk:=h.k.mono (M:=N+1) (by omega);have hc:=h.core.mono (M:=N+1) (by omega)
 refine ⟨⟨hc.aa,hc.i0,hc.i1,hc.tr,by show 1<=(z.x.au.set z.sh s).length;rw [WU];exact hc.sh,MG hc.ring h1⟩,⟨hr.now,hr.busy,hr.cap,by show z.ws.length=(z.x.au.set z.sh s).length;rw [WU];exact hr.wl,hr.kE,fun a ha=>?_,fun a ha=>?_,hr.ch,hr.sp⟩,
  ⟨hk.th,hk.aA,hk.t,hk.dl,hk.due,fun i hi=>by show i<(z.x.au.set z.sh s).length;rw [WU];exact hk.sh i hi⟩,h.ws,by show (z.x.au.set z.sh s).length<=4;rw [WU];exact h.iG⟩
 ·rcases WT ha with ha | rfl
  ·exact hr.task a ha
  ·exact h2
 ·rcases WT ha with ha | rfl
  ·exact hr.turns a ha
  ·exact_mod_cast h3
theorem TB.DZ (h:TB N z) {w:Qg} (h1:ym (N+1) w) (h2:fU (fun e=>0<=e.v.slot) w):TB (N+1) { z with ws:=z.ws.set z.sh w }:=by
 have hr:=h.rest.mono (M:=N+1) (by omega);refine ⟨h.core.mono (M:=N+1) (by omega),⟨hr.now,hr.busy,hr.cap,by show (z.ws.set z.sh w).length=_;rw [WU];exact hr.wl,fun a ha=>?_,hr.task,hr.turns,hr.ch,hr.sp⟩,h.k.mono (M:=N+1) (by omega),fun a ha=>?_,h.iG⟩
 ·rcases WT ha with ha | rfl
  ·exact hr.kE a ha
  ·exact h1
 ·rcases WT ha with ha | rfl
  ·exact h.ws a ha
  ·exact h2
theorem q47 {w:Qg} {t:Qn} (ht:Jf t) (hn:w.now<1000000):(j3 w t:Int)<18446744073709551616:=by
 have:=ht.dl;unfold j3;omega
theorem za8 (h:TB N z) (hN:N<1000000) {i:Nat} (hi:z.k.s=some i) (hs:0<=z.k.t.slot):TB (N+1) { z with ws:=z.ws.set z.sh (z.wh.place (mQ z.wh z.k.t)) }:=by
 have hm:=PT h hi;have hw:=h.rest.kE _ hm;have hd:=q47 (w:=z.wh) h.k.t (by have:=hw.now;omega);refine h.DZ ⟨Qg.jN hw.sh _,?_,?_,hw.JM.place ⟨h.k.t.id,h.k.t.gen,⟨Int.natCast_nonneg _,hd⟩,h.k.t.per⟩⟩ ((h.ws _ hm).place hs)
 ·have e:(z.wh.place (mQ z.wh z.k.t)).now=z.wh.now:=Qg.iB [mQ z.wh z.k.t] z.wh
  rw [e];have:=hw.now;omega
 ·rw [qx hw.sh];have:=hw.tot;omega
theorem q9q {N:Int} {r:Qx} (h:lH N r):lH (N+1) (J4 r).1:=by
 unfold J4;split
 ·exact ⟨by simp only [WU];exact h.n0,by simp only [WU];exact h.n1,h.t0,by have:=h.t1;simp only;omega,by have:=h.h0;simp only;omega,by have:=h.h1;simp only;omega⟩
 ·exact h.mono (by omega)
theorem KQ:Jf Qn.zero:=⟨by decide,by decide,by decide,by decide⟩
theorem q9r {r:Qx} (h:∀ e∈r.slots,Jf e.v):(∀ e∈(J4 r).1.slots,Jf e.v)/\Jf (J4 r).2.1:=by
 have hz:=KQ
 have hs:Jf (r.slot r.head).v:=by
  unfold Qx.slot;rw [WO];cases h1:r.slots[r.at r.head]? with
  | none=>exact hz
  | some e=>exact h e (WY h1)
 unfold J4;split
 ·refine ⟨fun e he=>?_,hs⟩
  rcases WT he with he | rfl
  ·exact h e he
  ·exact hz
 ·exact ⟨h,hz⟩
end
structure vS (z z':ZT):Prop where
 s:z'.k.s=z.k.s
 nd:z'.k.nd=z.k.nd
 th:z'.k.th=z.k.th
 due:z'.k.due=z.k.due
 who:∀ j,(z'.x.au.getD j (Qp 1)).who=(z.x.au.getD j (Qp 1)).who
 len:z'.x.au.length=z.x.au.length
theorem vS.refl (z:ZT):vS z z:=⟨rfl,rfl,rfl,rfl,fun _=>rfl,rfl⟩
theorem vS.own {z z':ZT} (h:vS z z') (ho:Own z.k z.x):Own z'.k z'.x:=by
 unfold Own at ho |-;rw [h.s,h.th,h.who];exact ho
theorem Ml {α:Type} (l:List α) (i j:Nat) (a d:α) (hi:i<l.length):(l.set i a).getD j d=if i=j then a else l.getD j d:=by
 rw [WO,List.getElem?_set,WO];by_cases h:i=j
 ·subst h;simp [hi]
 ·simp [h]
section
variable {N:Nat} {z:ZT} {i:Nat}
theorem vS.cZ {z':ZT} (h:vS z z') (s:Qs) (hs:s.who=z'.aU.who) (hi:z'.k.s=some i) (hlt:i<z'.x.au.length):vS z (z'.cZ s):=by
 refine ⟨h.s,h.nd,h.th,h.due,fun j=>?_,by show (z'.x.au.set z'.sh s).length=_;rw [WU];exact h.len⟩
 have e:z'.sh=i:=by unfold ZT.sh;rw [hi];rfl
 show ((z'.x.au.set z'.sh s).getD j (Qp 1)).who=_
 rw [Ml _ _ _ _ _ (by rw [e];exact hlt),<- h.who];split
 ·next hj=>rw [hs,<- hj];rfl
 ·rfl
theorem TB.xV (h:TB N z) (ht:z.x.tr.length+1<=N) (E:EvS):TB N (z.note E):=by
 have hc:=h.core;have h1:=h.rest;exact ⟨⟨hc.aa,hc.i0,hc.i1,by show (z.x.tr++[_]).length<=_;rw [WX];exact ht,hc.sh,hc.ring⟩,⟨h1.now,h1.busy,h1.cap,h1.wl,h1.kE,h1.task,h1.turns,h1.ch,h1.sp⟩,⟨h.k.th,h.k.aA,h.k.t,h.k.dl,h.k.due,h.k.sh⟩,h.ws,h.iG⟩
theorem q3z (h:TB N z) (hN:N<1000000) (hi:z.k.s=some i) (hs:0<=z.k.t.slot):TB (N+1) (jk z) :=
 (za8 h hN hi hs).xV (by have:=h.core.tr;show z.x.tr.length+1<=N+1;omega) _
theorem zbw (h:TB N z) (f:Xm):TB (N+1) { z with p:=(z.p.put f).1 }:=by
 have h0:=h.mono (M:=N+1) (by omega);have h1:=h0.rest;have h2:=h.rest;refine ⟨h0.core,⟨h1.now,h1.busy,h1.cap,h1.wl,h1.kE,h1.task,h1.turns,?_,?_⟩,h0.k,h0.ws,h0.iG⟩
 ·unfold Qz.put
  split
  ·exact h1.ch
  ·split
   ·next hh=>simp only [WX,XB,XK];omega
   ·exact h1.ch
 ·unfold Qz.put
  split
  ·exact h1.sp
  ·split
   ·exact h1.sp
   ·simp only [WX,XB,XK];have:=h2.sp;omega
theorem q81 {w:Int} (hk:okW w=true):X7 w<=4294967295:=by
 unfold X7;rw [if_pos hk];simp only [okW,XY,decide_eq_true_eq] at hk;omega
abbrev iF (s:ST) (z:ZT):ST × ZT:=St.run runT Q3 s z
abbrev zX (s:ST) (z:ZT):Prop:=St.pre runT Q3 jR vR s z
structure rO (N:Nat) (z:ZT) (F:ST->Xd->Prop) (r:ST × ZT):Prop where
 b:TB (N+1) r.2
 same:vS z r.2
 fit:r.1=.nil\/F r.1 r.2.k
theorem stepG (h:TB N z) (hN:N<999999) (hi:z.k.s=some i) {G:ST} (hf:oo G z.k):zX G z/\rO N z oo (iF G z):=by
 have ho:=h.ok (by omega);have h1:=h.mono (M:=N+1) (by omega)
 match G,hf with
 | .at none .looks,hf =>
   refine ⟨⟨ho,trivial⟩,?_⟩
   show rO N z oo (if (Qr 3 z).2=true then (.at none .bE,(Qr 3 z).1) else (.nil,(Qr 3 z).1))
   split
   ·exact ⟨h1.look 3,⟨rfl,rfl,rfl,rfl,fun _=>rfl,rfl⟩,.inr hf⟩
   ·exact ⟨h1.look 3,⟨rfl,rfl,rfl,rfl,fun _=>rfl,rfl⟩,.inl rfl⟩
 | .at none .bE,hf =>
   refine ⟨⟨ho,trivial⟩,?_⟩
   show rO N z oo (if (Qk 4 z).2=true then _ else _)
   split
   ·exact ⟨(h.try 4).note _,⟨rfl,rfl,rfl,rfl,fun _=>rfl,rfl⟩,.inr hf⟩
   ·exact ⟨h1.try 4,⟨rfl,rfl,rfl,rfl,fun _=>rfl,rfl⟩,.inr hf⟩
 | .thn (.ai (.put f)) .bB,hf =>
   have hp:=zbw h f;exact ⟨⟨⟨ho,trivial⟩,fun _=>⟨hp.ok (by omega),trivial⟩⟩,⟨hp,⟨rfl,rfl,rfl,rfl,fun _=>rfl,rfl⟩,.inr hf⟩⟩
 | .at none .behind,hf =>
   refine ⟨⟨ho,trivial⟩,?_⟩
   have hw:=Y3 h.core.aa z.k.t.slot;have hb:TB (N+1) { z with k:={ z.k with aA:=z.x.aa.word z.k.t.slot } }:=h1.lX ⟨h1.k.th,hw,h1.k.t,h1.k.dl,h1.k.due,h1.k.sh⟩;have hd:=h.k.t.dl;have hpr:=h.k.t.per
   show rO N z oo (if bA (z.x.aa.word z.k.t.slot)≠4\/X7 (z.x.aa.word z.k.t.slot)≠z.k.t.gen then _ else if _ then _ else _)
   split
   ·exact ⟨hb,⟨rfl,rfl,rfl,rfl,fun _=>rfl,rfl⟩,.inl rfl⟩
   ·next hg =>
    split
    ·next hc =>
     have hgb:=q81 hw.2.2;have e:X7 (z.x.aa.word z.k.t.slot)=z.k.t.gen:=XW fun h=>hg (.inr h)
     exact ⟨hb,⟨rfl,rfl,rfl,rfl,fun _=>rfl,rfl⟩,.inr ⟨hf,by omega,hc.2.2,by show z.k.t.gen<=_;omega⟩⟩
    ·exact ⟨hb,⟨rfl,rfl,rfl,rfl,fun _=>rfl,rfl⟩,.inr hf⟩
 | .at none (.aV next),hf =>
   obtain ⟨hs,hn0,hn1,hg⟩:=hf;refine ⟨⟨ho,⟨i,hi⟩,hs,hn0,hn1⟩,?_⟩
   show rO N z oo (if (Qk 5 z).2=true then _ else _)
   split
   ·have ht:=h.try 5
    have hb:TB N { (Qk 5 z).1 with k:={ z.k with t:={ z.k.t with gen:=z.k.t.gen+1,dl:=next } } } :=
     ht.lX ⟨h.k.th,h.k.aA,⟨h.k.t.id,by have:=h.k.t.gen;show 0<=z.k.t.gen+1/\z.k.t.gen+1<=_;omega,⟨hn0,hn1⟩,h.k.t.per⟩,h.k.dl,h.k.due,h.k.sh⟩
    exact ⟨q3z hb (by omega) hi hs,⟨rfl,rfl,rfl,rfl,fun _=>rfl,rfl⟩,.inl rfl⟩
   ·exact ⟨h1.try 5,⟨rfl,rfl,rfl,rfl,fun _=>rfl,rfl⟩,.inr hs⟩
 | .at none .aS,hf =>
   refine ⟨⟨ho,trivial⟩,?_⟩
   show rO N z oo (if (Qk 9 z).2=true then (_,if _ then _ else _) else _)
   split
   ·split
    ·exact ⟨(h.try 9).note _,⟨rfl,rfl,rfl,rfl,fun _=>rfl,rfl⟩,.inr hf⟩
    ·exact ⟨h1.try 9,⟨rfl,rfl,rfl,rfl,fun _=>rfl,rfl⟩,.inr hf⟩
   ·exact ⟨h1.try 9,⟨rfl,rfl,rfl,rfl,fun _=>rfl,rfl⟩,.inr hf⟩
 | .aP .rel .drop,hf =>
   obtain ⟨a,b⟩:=ui h1.core.aa z.k.t.slot (z.x.aa.word z.k.t.slot) 10;exact ⟨⟨ho,trivial⟩,⟨h1.aa a b,⟨rfl,rfl,rfl,rfl,fun _=>rfl,rfl⟩,.inr hf⟩⟩
 | .ai .drop,hf =>
   obtain ⟨a,b⟩:=EA h1.core.aa;exact ⟨⟨ho,trivial⟩,⟨h1.aa a b,⟨rfl,rfl,rfl,rfl,fun _=>rfl,rfl⟩,.inl rfl⟩⟩
theorem G8 (hi:z.k.s=some i) {n:Int} (hn:n<=1000000) (k:Xd):Q2 n z=.nil\/zU (Q2 n z) k i:=by
 have e:z.sh=i:=by unfold ZT.sh;rw [hi];rfl
 unfold Q2;split
 ·exact .inl rfl
 ·exact .inr ⟨e,by omega,hn⟩
def vJ (z:ZT):ZT:={ (z.cZ { z.aU with ring:=(J4 z.aU.ring).1 }) with k:={ z.k with t:=(J4 z.aU.ring).2.1 } }
theorem q9s (h:TB N z) (hi:z.k.s=some i):TB (N+1) (vJ z)/\vS z (vJ z):=by
 obtain ⟨hm,he⟩:=UW h hi;have hr:=h.core.ring _ hm;obtain ⟨t1,t2⟩:=q9r (h.rest.task _ hm);have hb:=h.cZ (s:={ z.aU with ring:=(J4 z.aU.ring).1 }) (q9q hr) t1 (by have:=h.rest.turns _ hm;show 0<=z.aU.turns/\z.aU.turns<=_;omega)
 exact ⟨hb.lX ⟨hb.k.th,hb.k.aA,t2,hb.k.dl,hb.k.due,hb.k.sh⟩,(by
  have hs:=(vS.refl z).cZ { z.aU with ring:=(J4 z.aU.ring).1 } rfl hi (h.k.sh i hi)
  exact ⟨hs.s,hs.nd,hs.th,hs.due,hs.who,hs.len⟩)⟩
theorem KG (h:TB N z) (hN:N<999999) (hi:z.k.s=some i) {P:ST} (hf:zU P z.k i):zX P z/\rO N z (fun s k=>zU s k i) (iF P z):=by
 have ho:=h.ok (by omega);have h1:=h.mono (M:=N+1) (by omega)
 match P,hf with
 | .at (some (.ready j)) (.bK n),hf =>
   obtain ⟨hb,hs⟩:=q9s h hi;obtain ⟨rfl,hn0,hn1⟩:=hf;have e2:(runT (.bK n) z).2=vJ z:=by dsimp only [runT,vJ];split <;> rfl
   refine ⟨⟨ho,⟨j,hi⟩,hn0,hn1,by rw [e2];exact hb.ok (by omega)⟩,?_⟩
   show rO N z _ (if (vJ z).k.t.slot<0 then (Q2 (n - 1) (vJ z),vJ z) else (.thn (.at none .bz) (.ax n),vJ z))
   split
   ·exact ⟨hb,hs,G8 (z:=vJ z) hi (by omega) _⟩
   ·next hh=>exact ⟨hb,hs,.inr ⟨by show 0<=(vJ z).k.t.slot;omega,hn0,hn1⟩⟩
 | .thn (.at none .bz) (.ax n),hf =>
   obtain ⟨hs,hn0,hn1⟩:=hf;have hl:=h1.look 2;refine ⟨⟨⟨ho,trivial⟩,fun _=>⟨?_,?_,hn0,hn1⟩⟩,?_⟩
   ·show xy (if (Qr 2 z).2=true then (.at none .aH,(Qr 2 z).1) else (.nil,(Qr 2 z).1):ST × ZT).2
    split <;> exact hl.ok (by omega)
   ·show lF (if (Qr 2 z).2=true then (.at none .aH,(Qr 2 z).1) else (.nil,(Qr 2 z).1):ST × ZT).2
    split <;> exact ⟨i,hi⟩
   ·show rO N z _ (Qd runT (if (Qr 2 z).2=true then (.at none .aH,(Qr 2 z).1) else (.nil,(Qr 2 z).1):ST × ZT).1 (.ax n) (if (Qr 2 z).2=true then (.at none .aH,(Qr 2 z).1) else (.nil,(Qr 2 z).1):ST × ZT).2)
    split
    ·exact ⟨hl,⟨rfl,rfl,rfl,rfl,fun _=>rfl,rfl⟩,.inr ⟨hs,hn0,hn1⟩⟩
    ·exact ⟨hl,⟨rfl,rfl,rfl,rfl,fun _=>rfl,rfl⟩,G8 (z:=(Qr 2 z).1) hi (by omega) _⟩
 | .thn (.at none .aH) (.ax n),hf =>
   obtain ⟨hs,hn0,hn1⟩:=hf;have ht:=h.try 3;have ha:=q3z ht (by omega) hi hs;have h2:=h1.try 3;have er:Qv (Qk 3 z).1=.at none .bz:=if_neg (by show ¬ z.k.t.slot<0;omega);refine ⟨⟨⟨ho,⟨i,hi⟩,hs⟩,fun _=>⟨?_,?_,hn0,hn1⟩⟩,?_⟩
   ·show xy (if (Qk 3 z).2=true then (.nil,jk (Qk 3 z).1) else (Qv (Qk 3 z).1,(Qk 3 z).1):ST × ZT).2
    split
    ·exact ha.ok (by omega)
    ·exact h2.ok (by omega)
   ·show lF (if (Qk 3 z).2=true then (.nil,jk (Qk 3 z).1) else (Qv (Qk 3 z).1,(Qk 3 z).1):ST × ZT).2
    split <;> exact ⟨i,hi⟩
   ·show rO N z _ (Qd runT (if (Qk 3 z).2=true then (.nil,jk (Qk 3 z).1) else (Qv (Qk 3 z).1,(Qk 3 z).1):ST × ZT).1 (.ax n) (if (Qk 3 z).2=true then (.nil,jk (Qk 3 z).1) else (Qv (Qk 3 z).1,(Qk 3 z).1):ST × ZT).2)
    split
    ·exact ⟨ha,⟨rfl,rfl,rfl,rfl,fun _=>rfl,rfl⟩,G8 (z:=jk (Qk 3 z).1) hi (by omega) _⟩
    ·rw [er]
     exact ⟨h2,⟨rfl,rfl,rfl,rfl,fun _=>rfl,rfl⟩,.inr ⟨hs,hn0,hn1⟩⟩
structure vE (N:Nat) (z:ZT) (i:Nat) (r:ST × ZT):Prop where
 b:TB (N+1) r.2
 s:r.2.k.s=some i
 len:r.2.x.au.length=z.x.au.length
 th:r.2.k.th=z.k.th
 fit:r.1=.nil\/ky r.1 r.2.k r.2.x i
theorem Um {z':ZT} (hb:TB (N+1) z') (hs:z'.k.s=some i) (hl:z'.x.au.length=z.x.au.length) (ht:z'.k.th=z.k.th) {d:Nat} (hc:ky.jl d z'.k) (ho:Own z'.k z'.x):vE N z i (J1 d z') :=
 ⟨hb,hs,hl,ht,.inr ⟨hc,rfl,ho⟩⟩
theorem Nc {z':ZT} (hb:TB (N+1) z') (hN:N<999999) (hs:z'.k.s=some i) (hl:z'.x.au.length=z.x.au.length) (hth:z'.k.th=z.k.th) {d n:Nat} (hc:ky.jl d z'.k) (ho:Own z'.k z'.x) (hn:n<=z'.k.due.length) :
 ((Qm d n z').1=.nil/\(Qm d n z').2=z')\/∃ t,z'.k.due[n]?=some t/\Qm d n z'=(.thn (.at none .looks) (.aD d n),{ z' with k:={ z'.k with t:=t } })/\vE N z i (.thn (Qm d n z').1 .ay,(Qm d n z').2):=by
 unfold Qm;cases ht:z'.k.due[n]? with
 | none=>exact .inl ⟨rfl,rfl⟩
 | some t =>
   have hlt:=(WW.1 ht).1;have OX:=hb.k.due t (WY ht);exact .inr ⟨t,rfl,rfl,hb.lX ⟨hb.k.th,hb.k.aA,OX.1,hb.k.dl,hb.k.due,hb.k.sh⟩,hs,hl,hth,.inr ⟨hc,ho,by have:=hb.k.dl;omega,hlt,OX.2⟩⟩
theorem q18 {P:ST} {k:Xd} {i:Nat} (h:zU P k i):P.isNil=false:=by
 cases P <;> first | rfl | exact h.elim
theorem Sg {G:ST} {k:Xd} (h:oo G k):G.isNil=false:=by
 cases G <;> first | rfl | exact h.elim
theorem Gu {M A Y α:Type} {runM:M->α->St M A Y × α} {s:St M A Y} (h:s.isNil=false) (m:M) (x:α):Qd runM s m x=(.thn s m,x):=by
 cases s <;> first | rfl | cases h
theorem q0p {P:ST} {d:Nat} {k:Xd} {x:Qi} {i:Nat} (hc:ky.jl d k) (ho:Own k x) (h:zU P k i):ky (.thn P (.af d)) k x i:=by
 match P,h with
 | .at (some (.ready j)) (.bK n),h=>exact ⟨hc,ho,h⟩
 | .thn (.at none .bz) (.ax n),h=>exact ⟨hc,ho,h⟩
 | .thn (.at none .aH) (.ax n),h=>exact ⟨hc,ho,h⟩
theorem Og (h:TB N z) (hN:N<999999) (hi:z.k.s=some i) {d:Nat} (hc:ky.jl d z.k) (ho:Own z.k z.x) {P:ST} (q1:zX P z) (q2:rO N z (fun s k=>zU s k i) (iF P z)) :
 zX (.thn P (.af d)) z/\vE N z i (iF (.thn P (.af d)) z):=by
 refine ⟨⟨q1,fun _=>⟨q2.b.ok (by omega),⟨i,q2.same.s.trans hi⟩,q2.same.nd.trans hc⟩⟩,?_⟩
 show vE N z i (Qd runT (iF P z).1 (.af d) (iF P z).2)
 rcases q2.fit with hn | hf
 ·rw [hn]
  exact Um q2.b (q2.same.s.trans hi) q2.same.len q2.same.th (q2.same.nd.trans hc) (q2.same.own ho)
 ·rw [Gu (q18 hf)]
  exact ⟨q2.b,q2.same.s.trans hi,q2.same.len,q2.same.th,.inr (q0p (q2.same.nd.trans hc) (q2.same.own ho) hf)⟩
theorem q8z (h:TB N z) (hN:N<999999) (hi:z.k.s=some i) {d n:Nat} (hc:ky.jl d z.k) (ho:Own z.k z.x) (hn:n<=1000000) (hnd:n<z.k.due.length) {G:ST} (q1:zX G z) (q2:rO N z oo (iF G z)) :
 zX (.thn (.thn G (.aD d n)) .ay) z/\vE N z i (iF (.thn (.thn G (.aD d n)) .ay) z):=by
 have hs:=q2.same.s.trans hi;have hcc:ky.jl d (iF G z).2.k:=q2.same.nd.trans hc;have Ga:=q2.same.own ho;have hle:n+1<=(iF G z).2.k.due.length:=by rw [q2.same.due];omega
 have hp1:(iF G z).1.isNil=true->jR (.aD d n) (iF G z).2:=fun _=>⟨q2.b.ok (by omega),⟨i,hs⟩,hcc,hn⟩
 have e0:iF (.thn G (.aD d n)) z=Qd runT (iF G z).1 (.aD d n) (iF G z).2:=rfl;have e1:iF (.thn (.thn G (.aD d n)) .ay) z=Qd runT (iF (.thn G (.aD d n)) z).1 .ay (iF (.thn G (.aD d n)) z).2:=rfl;refine ⟨⟨⟨q1,hp1⟩,?_⟩,?_⟩
 ·show (iF (.thn G (.aD d n)) z).1.isNil=true->jR .ay (iF (.thn G (.aD d n)) z).2
  rw [e0];rcases q2.fit with hnil | hf
  ·rw [hnil]
   show (Qm d (n+1) (iF G z).2).1.isNil=true->jR .ay (Qm d (n+1) (iF G z).2).2
   rcases Nc q2.b hN hs q2.same.len q2.same.th hcc Ga hle with ⟨h1,h2⟩ | ⟨t,h1,h2,h3⟩
   ·rw [h2];exact fun _=>⟨q2.b.ok (by omega),i,hs⟩
   ·rw [h2];intro hh;cases hh
  ·rw [Gu (Sg hf)];intro hh;cases hh
 ·rw [e1,e0]
  rcases q2.fit with hnil | hf
  ·rw [hnil]
   show vE N z i (Qd runT (Qm d (n+1) (iF G z).2).1 .ay (Qm d (n+1) (iF G z).2).2)
   rcases Nc q2.b hN hs q2.same.len q2.same.th hcc Ga hle with ⟨h1,h2⟩ | ⟨t,h1,h2,h3⟩
   ·rw [h1,h2]
    exact ⟨q2.b,hs,q2.same.len,q2.same.th,.inr Ga⟩
   ·rw [h2] at h3 |-;exact h3
  ·rw [Gu (Sg hf)]
   exact ⟨q2.b,hs,q2.same.len,q2.same.th,.inr ⟨hcc,Ga,hn,by show n<(iF G z).2.k.due.length;omega,hf⟩⟩
theorem WJ (h:TB N z) (hN:N<999999) (hth:z.k.th<=1000000) (hi:z.k.s=some i) {X:ST} (hf:ky X z.k z.x i) (hm:X.may rU z=true):zX X z/\vE N z i (iF X z):=by
 have hok:=h.ok (by omega);have h1:=h.mono (M:=N+1) (by omega);have hsh:lF z:=⟨i,hi⟩;obtain ⟨hmem,Kr⟩:=UW h hi
 match X,hf with
 | .at (some .lock) (.dI d),hf =>
   have nQ:rU .lock z=true:=hm
   have hw:z.aU.who=0:=by
    simp only [rU,XY,beq_iff_eq] at nQ;exact nQ.2
   refine ⟨⟨hok,hsh,hf,hth⟩,?_⟩
   have ht:=h.rest.turns _ hmem
   have hb:=h.cZ (s:={ z.aU with who:=ow z.aU.who z.k.th,turns:=nC z.aU.who z.aU.turns }) ((h.core.ring _ hmem).mono (by omega)) (h.rest.task z.aU hmem)
    (by show 0<=nC z.aU.who z.aU.turns/\nC z.aU.who z.aU.turns<=_;unfold nC;split <;> omega)
   refine ⟨hb,hi,by show (z.x.au.set z.sh _).length=_;rw [WU],rfl,.inr ⟨hf,?_⟩⟩
   show ((z.x.au.set z.sh { z.aU with who:=ow z.aU.who z.k.th,turns:=nC z.aU.who z.aU.turns }).getD (z.k.s.getD 0) (Qp 1)).who=z.k.th+1
   have e:z.k.s.getD 0=i:=by rw [hi];rfl
   rw [e,Kr,Ml _ _ _ _ _ (h.k.sh i hi),if_pos rfl]
   show ow z.aU.who z.k.th=_
   unfold ow;rw [if_pos hw]
 | .at none (.bX d),hf =>
   obtain ⟨hc,ho⟩:=hf;refine ⟨⟨hok,hsh,hc⟩,?_⟩
   show vE N z i (if z.aU.ring.tail - z.aU.ring.head<=0 then J1 d z else (.thn (Q2 (z.aU.ring.tail - z.aU.ring.head) z) (.af d),z))
   split
   ·exact Um h1 hi rfl rfl hc ho
   ·next hgt =>
    have hr:=h.core.ring _ hmem;have hn:z.aU.ring.tail - z.aU.ring.head<=1000000:=by have:=hr.t1;have:=hr.h0;omega
    rcases G8 hi hn z.k with hp | hp
    ·exfalso
     unfold Q2 at hp;rw [if_neg hgt] at hp;cases hp
    ·have e:Q2 (z.aU.ring.tail - z.aU.ring.head) z=.at (some (.ready z.sh)) (.bK (z.aU.ring.tail - z.aU.ring.head)):=if_neg hgt
     rw [e] at hp |-;exact ⟨h1,hi,rfl,rfl,.inr ⟨hc,ho,hp⟩⟩
 | .thn (.ai (.bH d)) (.aM e),hf =>
   obtain ⟨hc,he,ho⟩:=hf;obtain rfl:d=e:=he.symm;have OZ:=PT h hi;have hw:=h.rest.kE _ OZ;obtain ⟨a1,a2,a3⟩:=LH hw.sh;obtain ⟨e1,e2⟩:=hw.JM.fO;obtain ⟨f1,f2⟩:=(h.ws _ OZ).fO;have hb0:=h.DZ (w:=z.wh.fO.1) ⟨a1,by have:=hw.now;omega,by have:=hw.tot;omega,e1⟩ f1
   have hb:TB (N+1) (Q3 (.bH d) z):=hb0.lX ⟨hb0.k.th,hb0.k.aA,hb0.k.t,by
    have:=hw.tot;show (z.wh.fO.2.map gI.v).length<=_;rw [XN];omega,fun t ht=>by
     obtain ⟨en,hen,rfl⟩:=YG.1 ht
     exact ⟨e2 en hen,f2 en hen⟩,hb0.k.sh⟩
   refine ⟨⟨⟨hok,hsh,hc⟩,fun _=>⟨hb.ok (by omega),⟨i,hi⟩,hc⟩⟩,?_⟩
   show vE N z i (runT (.aM d) (Q3 (.bH d) z))
   generalize hz':Q3 (.bH d) z=z' at hb;have es:z'.k.s=some i:=by rw [<- hz'];exact hi
   have el:z'.x.au.length=z.x.au.length:=by rw [<- hz'];rfl
   have et:z'.k.th=z.k.th:=by rw [<- hz'];rfl
   have ec:ky.jl d z'.k:=by rw [<- hz'];exact hc
   have eo:Own z'.k z'.x:=by rw [<- hz'];exact ho
   show vE N z i (match z'.k.due[0]? with | none=>(.ai .unlock,z') | some _=>(.thn (Qm d 0 z').1 .ay,(Qm d 0 z').2))
   rcases Nc hb hN es el et ec eo (YH _) with ⟨_,h2⟩ | ⟨t,h1,h2,h3⟩
   ·cases hd:z'.k.due[0]? with
    | none=>exact ⟨hb,es,el,et,.inr eo⟩
    | some t =>
      exfalso
      rename_i h0
      unfold Qm at h0;rw [hd] at h0;cases h0
   ·rw [h1];exact h3
 | .thn (.at (some (.ready j)) (.bK n)) (.af d),hf =>
   obtain ⟨hc,ho,hp⟩:=hf;obtain ⟨q1,q2⟩:=KG h hN hi hp;exact Og h hN hi hc ho q1 q2
 | .thn (.thn (.at none .bz) (.ax n)) (.af d),hf =>
   obtain ⟨hc,ho,hp⟩:=hf;obtain ⟨q1,q2⟩:=KG h hN hi hp;exact Og h hN hi hc ho q1 q2
 | .thn (.thn (.at none .aH) (.ax n)) (.af d),hf =>
   obtain ⟨hc,ho,hp⟩:=hf;obtain ⟨q1,q2⟩:=KG h hN hi hp;exact Og h hN hi hc ho q1 q2
 | .thn (.thn G (.aD d n)) .ay,hf =>
   obtain ⟨hc,ho,hn,hnd,hg⟩:=hf;obtain ⟨q1,q2⟩:=stepG h hN hi hg;exact q8z h hN hi hc ho hn hnd q1 q2
 | .ai .unlock,ho =>
   have ht:=h.rest.turns _ hmem;have hb:=h.cZ (s:={ z.aU with who:=0 }) ((h.core.ring _ hmem).mono (by omega)) (h.rest.task z.aU hmem) (by show 0<=z.aU.turns/\z.aU.turns<=_;omega);exact ⟨⟨hok,hsh,ho,hth⟩,⟨hb,hi,by show (z.x.au.set z.sh _).length=_;rw [WU],rfl,.inl rfl⟩⟩
theorem Tj {M:Nat} {z:ZT} (h:TB M z) (hth:z.k.th<=1000000) (j:Nat):JT M (Q7 j z).1 (Q7 j z).2:=by
 unfold Q7;split
 ·next hj=>exact ⟨h.lX ⟨h.k.th,h.k.aA,h.k.t,YH _,(fun t ht=>by cases ht),fun i hi=>by cases hi;exact hj⟩,rfl,hj,hth,rfl⟩
 ·exact ⟨h.lX ⟨h.k.th,h.k.aA,h.k.t,h.k.dl,h.k.due,h.k.sh⟩,trivial⟩
theorem qyl (h:TB N z) (e:Int):JT (N+1) (Yr e z).1 (Yr e z).2:=by
 have h1:=h.note { bO with kind:=9,err:=e };exact ⟨h1.lX ⟨h1.k.th,h1.k.aA,h1.k.t,h1.k.dl,h1.k.due,h1.k.sh⟩,trivial⟩
theorem qxb {X:ST} {k:Xd} {x:Qi} {i:Nat} (h:ky X k x i):X.isNil=false:=by
 cases X <;> first | rfl | exact h.elim
theorem JT.pre {s:ST} (h:JT N s z) (hN:N<999999) (hm:mO s z=true):QP s z:=by
 obtain ⟨hb,hf⟩:=h;have ho:=hb.ok (by omega)
 match s,hf with
 | .nil,_=>trivial
 | .at none .enter,_=>exact ⟨ho,trivial⟩
 | .at none .gate,_=>exact ⟨ho,trivial⟩
 | .at none .tick,_=>exact ⟨ho,trivial⟩
 | .aP .leave1 .answer,_=>exact ⟨ho,trivial⟩
 | .ai .answer,_=>exact ⟨ho,trivial⟩
 | .thn X (.ae i),hf =>
   obtain ⟨hi,hlt,hth,hx⟩:=hf;obtain ⟨q1,q2⟩:=WJ hb hN hth hi hx hm;exact ⟨q1,fun _=>⟨q2.b.ok (by omega),by have:=hb.iG;show i<=64;omega⟩⟩
theorem JT.dw {s:ST} (h:JT N s z) (hN:N<999999):Hz s z:=by
 obtain ⟨hb,hf⟩:=h;have ho:=hb.ok (by omega)
 match s,hf with
 | .nil,_=>trivial
 | .at none .enter,_=>trivial
 | .at none .gate,_=>trivial
 | .at none .tick,_=>trivial
 | .aP .leave1 .answer,_=>trivial
 | .ai .answer,_=>trivial
 | .thn X (.ae i),hf =>
   obtain ⟨hi,hlt,hth,hx⟩:=hf
   match X,hx with
   | .at (some .lock) (.dI d),_=>exact ⟨ho,i,hi⟩
   | .at none (.bX d),_=>trivial
   | .thn (.ai (.bH d)) (.aM e),_=>trivial
   | .thn (.at (some (.ready j)) (.bK n)) (.af d),hx=>exact ⟨ho,by rw [hx.2.2.1];exact hlt⟩
   | .thn (.thn (.at none .bz) (.ax n)) (.af d),_=>trivial
   | .thn (.thn (.at none .aH) (.ax n)) (.af d),_=>trivial
   | .thn (.thn G (.aD d n)) .ay,hx =>
     obtain ⟨_,_,_,_,hg⟩:=hx
     match G,hg with
     | .at none .looks,_=>trivial
     | .at none .bE,_=>trivial
     | .thn (.ai (.put f)) .bB,_=>trivial
     | .at none .behind,_=>trivial
     | .at none (.aV next),_=>trivial
     | .at none .aS,_=>trivial
     | .aP .rel .drop,_=>trivial
     | .ai .drop,_=>trivial
   | .ai .unlock,_=>trivial
theorem JT.step {s:ST} (h:JT N s z) (hN:N<999999) (hm:mO s z=true):JT (N+1) (Qw s z).1 (Qw s z).2:=by
 obtain ⟨hb,hf⟩:=h;have h1:=hb.mono (M:=N+1) (by omega)
 match s,hf with
 | .nil,_=>exact ⟨h1,trivial⟩
 | .at none .enter,hf =>
   have hc:=hb.core;have hr:=h1.rest;exact ⟨⟨⟨hc.aa,by have:=hc.i0;show 0<=z.x.f.inside+1;omega,by have:=hc.i1;show z.x.f.inside+1<=_;omega,h1.core.tr,hc.sh,h1.core.ring⟩,⟨hr.now,hr.busy,hr.cap,hr.wl,hr.kE,hr.task,hr.turns,hr.ch,hr.sp⟩,⟨h1.k.th,h1.k.aA,h1.k.t,h1.k.dl,h1.k.due,h1.k.sh⟩,h1.ws,h1.iG⟩,hf⟩
 | .at none .gate,hf =>
   show JT (N+1) (if z.x.f.closed=true then Yr 3 z else (.at none .tick,z)).1 (if z.x.f.closed=true then Yr 3 z else (.at none .tick,z)).2
   split
   ·exact qyl hb 3
   ·next hcl=>exact ⟨h1,hf.resolve_left hcl⟩
 | .at none .tick,hf =>
   have hr:=h1.rest;have hn:=hb.rest.now
   have hb2:TB (N+1) ({ z with x:={ z.x with f:={ z.x.f with now:=z.x.f.now+1 } },k:={ z.k with now:=z.x.f.now+1 } }:ZT) :=
    ⟨⟨h1.core.aa,h1.core.i0,h1.core.i1,h1.core.tr,h1.core.sh,h1.core.ring⟩,⟨by show 0<=z.x.f.now+1/\z.x.f.now+1<=_;omega,hr.busy,hr.cap,hr.wl,hr.kE,hr.task,hr.turns,hr.ch,hr.sp⟩,⟨h1.k.th,h1.k.aA,h1.k.t,h1.k.dl,h1.k.due,h1.k.sh⟩,h1.ws,h1.iG⟩
   exact Tj (hb2.xV (by have:=hb.core.tr;show z.x.tr.length+1<=_;omega) _) hf 0
 | .aP .leave1 .answer,_ =>
   have hc:=hb.core;have hr:=h1.rest;have hl:0<=Z2 z.x.f.inside/\Z2 z.x.f.inside<=N:=by have:=hc.i0;have:=hc.i1;unfold Z2;split <;> omega
   exact ⟨⟨⟨hc.aa,hl.1,by have:=hl.2;show Z2 z.x.f.inside<=_;omega,h1.core.tr,hc.sh,h1.core.ring⟩,⟨hr.now,hr.busy,hr.cap,hr.wl,hr.kE,hr.task,hr.turns,hr.ch,hr.sp⟩,⟨h1.k.th,h1.k.aA,h1.k.t,h1.k.dl,h1.k.due,h1.k.sh⟩,h1.ws,h1.iG⟩,trivial⟩
 | .ai .answer,_=>exact ⟨hb.note _,trivial⟩
 | .thn X (.ae i),hf =>
   obtain ⟨hi,hlt,hth,hx⟩:=hf;obtain ⟨q1,q2⟩:=WJ hb hN hth hi hx hm
   show JT (N+1) (Qd runT (iF X z).1 (.ae i) (iF X z).2).1 (Qd runT (iF X z).1 (.ae i) (iF X z).2).2
   rcases q2.fit with hn | hfx
   ·rw [hn]
    exact Tj q2.b (by rw [q2.th];exact hth) (i+1)
   ·rw [Gu (qxb hfx)]
    exact ⟨q2.b,q2.s,by rw [q2.len];exact hlt,by rw [q2.th];exact hth,hfx⟩
end
structure Zd (x x':Qi):Prop where
 now:x'.f.now=x.f.now
 busy:x'.f.busy=x.f.busy
 cfg:x'.f.cfg=x.f.cfg
 closed:x'.f.closed=x.f.closed
 recs:x'.aa.recs.length=x.aa.recs.length
 len:x'.au.length=x.au.length
 who:∀ j,(x'.au.getD j (Qp 1)).who=(x.au.getD j (Qp 1)).who
 sh:(∀ s∈x.au,∀ e∈s.ring.slots,Jf e.v)->∀ s∈x'.au,∀ e∈s.ring.slots,Jf e.v
 turns:∀ N:Nat,(∀ s∈x.au,0<=s.turns/\s.turns<=N)->∀ s∈x'.au,0<=s.turns/\s.turns<=N
theorem Zd.refl (x:Qi):Zd x x:=⟨rfl,rfl,rfl,rfl,rfl,rfl,fun _=>rfl,fun h=>h,fun _ h=>h⟩
theorem Zd.trans {x y z:Qi} (a:Zd x y) (b:Zd y z):Zd x z :=
 ⟨b.now.trans a.now,b.busy.trans a.busy,b.cfg.trans a.cfg,b.closed.trans a.closed,b.recs.trans a.recs,b.len.trans a.len,fun j=>(b.who j).trans (a.who j),fun h=>b.sh (a.sh h),fun N h=>b.turns N (a.turns N h)⟩
theorem Zd.rest {N:Nat} {x x':Qi} {ws:List Qg} {p:Qz} (k:Zd x x') (h:Ao N x ws p):Ao N x' ws p :=
 ⟨by rw [k.now];exact h.now,by rw [k.busy];exact h.busy,by rw [k.cfg,k.recs];exact h.cap,by rw [k.len];exact h.wl,h.kE,k.sh h.task,k.turns N h.turns,h.ch,h.sp⟩
def iU (k:Qt):Prop:=0<=k.gen/\k.gen<=4294967295
theorem UF {w:Int} (h0:0<=w):0<=X7 w/\X7 w<=4294967295:=by
 unfold X7;split
 ·next hk =>
  simp only [okW,XY,decide_eq_true_eq] at hk;omega
 ·omega
theorem PQ {s:Qj} (hs:Xc s) (k old ev:Int) (h0:0<=old/\old<18446744073709551616/\okW old=true):0<=(s.try k old ev).2.1:=by
 unfold Qj.try;split
 ·next hh =>
  have hr:0<=(s.recs.getD k.toNat Rec.zero).w:=by
   rw [WO];cases h1:s.recs[k.toNat]? with
   | none=>show (0:Int)<=0;omega
   | some r=>exact (hs.recs r (WY h1)).w0
  simp only;split
  ·exact hr
  ·next hx =>
   split
   ·have:=GU (e:=ev) (p:=decide (0<(s.recs.getD k.toNat Rec.zero).p)) h0.1 h0.2.1 h0.2.2 (XW hx)
    exact this.2.2.2.2.2.2.2.1
   ·exact hr
 ·show (0:Int)<=0;omega
section
variable {N:Nat} {k:Qt} {x:Qi}
theorem Zt (k:Qt) (E:EvS) (x:Qi):Zd x (xC k E x):=⟨rfl,rfl,rfl,rfl,rfl,rfl,fun _=>rfl,fun h=>h,fun _ h=>h⟩
theorem Bq {s:Qj} (hl:s.recs.length=x.aa.recs.length):Zd x { x with aa:=s }:=⟨rfl,rfl,rfl,rfl,hl,rfl,fun _=>rfl,fun h=>h,fun _ h=>h⟩
theorem Rl (n:Int):Zd x { x with f:={ x.f with inside:=n } }:=⟨rfl,rfl,rfl,rfl,rfl,rfl,fun _=>rfl,fun h=>h,fun _ h=>h⟩
theorem Sl {i:Nat} {s:Qs} (hs:x.au[i]?=some s) (r:Qx) (hr:(∀ e∈s.ring.slots,Jf e.v)->∀ e∈r.slots,Jf e.v):Zd x { x with au:=x.au.set i { s with ring:=r } }:=by
 have hlt:=(WW.1 hs).1;have hm:=WY hs;refine ⟨rfl,rfl,rfl,rfl,rfl,WU,fun j=>?_,fun h a ha=>?_,fun N h a ha=>?_⟩
 ·show ((x.au.set i _).getD j (Qp 1)).who=_
  rw [Ml _ _ _ _ _ hlt];split
  ·next hj=>subst hj;rw [WO,hs];rfl
  ·rfl
 ·rcases WT ha with ha | rfl
  ·exact h a ha
  ·exact hr (h s hm)
 ·rcases WT ha with ha | rfl
  ·exact h a ha
  ·exact h s hm
theorem Rs (r:Qx) (t:Xv):(stepT r t).1.slots=r.slots:=by
 unfold stepT rG qE oU;split
 ·rfl
 ·split
  ·rfl
  ·split
   ·rfl
   ·split <;> rfl
theorem qpb {r:Qx} {t:Xv} {v:Qn} (hv:Jf v) (h:∀ e∈r.slots,Jf e.v):∀ e∈(Zn r t v).1.slots,Jf e.v:=by
 unfold Zn;split
 ·intro e he
  rcases WT he with he | rfl
  ·exact h e he
  ·exact hv
 ·exact h
theorem Sk (k:Qt) {v:Qn} (hv:Jf v):Zd x (Yn v (k,x)).2:=by
 unfold Yn;simp only;split
 ·exact Zd.refl x
 ·rename_i i t ht
  split
  ·exact Zd.refl x
  ·rename_i s hs
   exact Sl hs _ (fun h=>qpb hv h)
theorem TZ {v:Qn} (h:iU k):iU (Yn v (k,x)).1:=by
 unfold Yn;simp only;split
 ·exact h
 ·split
  ·exact h
  ·exact h
theorem Lh (hc:Zg N x) (ev:Int):Zd x (zk ev (k,x)).2/\iU (zk ev (k,x)).1:=by
 obtain ⟨h1,h2⟩:=ui hc.aa k.slot (x.aa.word k.slot) ev;exact ⟨Bq h2,UF (PQ hc.aa _ _ _ (Y3 hc.aa _))⟩
theorem q3e (hc:Zg N x) (hk:Zm N k x) (hg:iU k):Jf (qt (k,x)):=by
 refine ⟨hk.id,⟨hg.1,by have:=hg.2;show k.gen<=_;omega⟩,hk.c0,?_⟩
 show 0<=x.aa.period k.slot/\x.aa.period k.slot < _
 unfold Qj.period;split
 ·rw [WO]
  cases h1:x.aa.recs[k.slot.toNat]? with
  | none=>exact ⟨by show (0:Int)<=0;omega,by show (0:Int) < _;omega⟩
  | some r=>have:=hc.aa.recs r (WY h1);exact ⟨this.p0,this.p1⟩
 ·omega
theorem zb9:Jf { Qn.zero with slot:=-1 }:=⟨by decide,by decide,by decide,by decide⟩
theorem qv2 (hc:Zg N x) (hk:Zm N k x) (hg:iU k) (a:AC):Zd x (bP a (k,x)).2/\iU (bP a (k,x)).1:=by
 cases a with
 | aR=>exact ⟨Zt _ _ _,hg⟩
 | bL=>exact ⟨Rl _,hg⟩
 | eG =>
   obtain ⟨h1,h2⟩:=Lh (k:=k) hc 9;exact ⟨h1.trans (Zt _ _ _),h2⟩
 | drop=>exact ⟨Bq (EA hc.aa).2,hg⟩
 | bN=>exact Lh (k:=k) hc 10
 | bC=>exact ⟨Sk k zb9,TZ hg⟩
theorem Ug (k:Qt) (s:Qj):(lookW k s).1.gen=k.gen:=by
 unfold lookW;split
 ·rfl
 ·split <;> rfl
theorem qt7 (hc:Zg N x) (hk:Zm N k x) (hg:iU k) (m:MC):Zd x (Jk m (k,x)).2.2/\iU (Jk m (k,x)).2.1:=by
 cases m with
 | ends=>exact ⟨Zd.refl x,hg⟩
 | leaves=>exact ⟨Zd.refl x,hg⟩
 | right =>
   show Zd x (if mR k then _ else _:SC × ZC).2.2/\iU (if mR k then _ else _:SC × ZC).2.1
   split
   ·exact ⟨Zt _ _ _,hg⟩
   ·exact ⟨Zd.refl x,hg⟩
 | enter=>exact ⟨Rl _,hg⟩
 | gate =>
   show Zd x (if x.f.closed=true then _ else _:SC × ZC).2.2/\iU (if x.f.closed=true then _ else _:SC × ZC).2.1
   split
   ·exact ⟨Zt _ _ _,hg⟩
   ·split
    ·exact ⟨Zd.refl x,hg⟩
    ·exact ⟨Zd.refl x,hg⟩
 | asks =>
   show Zd x (match k.rq with | none=>_ | some q=>_:SC × ZC).2.2/\iU (match k.rq with | none=>_ | some q=>_:SC × ZC).2.1
   split
   ·exact ⟨Zd.refl x,hg⟩
   ·next q hq =>
    obtain ⟨h1,h2,h3⟩:=Uv hc.aa (hk.rq q hq);unfold ql;simp only;split
    ·exact ⟨(Bq h3).trans (Zt _ _ _),hg⟩
    ·split
     ·exact ⟨Bq h3,hg⟩
     ·exact ⟨Bq h3,hg⟩
 | bu =>
   show Zd x (match k.tk with | none=>_ | some (i,t)=>_:SC × ZC).2.2/\iU (match k.tk with | none=>_ | some (i,t)=>_:SC × ZC).2.1
   split
   ·exact ⟨Zd.refl x,hg⟩
   ·next i t htk =>
    show Zd x (match x.au[i]? with | none=>_ | some s=>_:SC × ZC).2.2/\iU (match x.au[i]? with | none=>_ | some s=>_:SC × ZC).2.1
    split
    ·exact ⟨Zd.refl x,hg⟩
    ·next s hs =>
     have hr:=Sl (x:=x) hs (stepT s.ring t).1 (fun h=>by rw [Rs];exact h);unfold X8;simp only;split
     ·exact ⟨hr,hg⟩
     ·split
      ·exact ⟨hr.trans (Zt _ _ _),hg⟩
      ·split
       ·exact ⟨hr,hg⟩
       ·split
        ·exact ⟨hr,hg⟩
        ·exact ⟨hr,hg⟩
 | bW =>
   obtain ⟨h1,h2⟩:=Lh (k:=k) hc 2;exact ⟨h1.trans (Zt _ _ _),h2⟩
 | fills=>exact ⟨Sk k (q3e hc hk hg),TZ hg⟩
 | looks =>
   have hl:iU (lookW k x.aa).1:=by unfold iU;rw [Ug];exact hg
   show Zd x (if (lookW k x.aa).2=0 then _ else _:SC × ZC).2.2/\iU (if (lookW k x.aa).2=0 then _ else _:SC × ZC).2.1
   split
   ·show Zd x (if k.kind=3 then _ else _:SC × ZC).2.2/\iU (if k.kind=3 then _ else _:SC × ZC).2.1
    split
    ·exact ⟨Zd.refl x,hl⟩
    ·exact ⟨Zd.refl x,hl⟩
   ·show Zd x (if (lookW k x.aa).2=1 then _ else _:SC × ZC).2.2/\iU (if (lookW k x.aa).2=1 then _ else _:SC × ZC).2.1
    split
    ·exact ⟨Zt _ _ _,hl⟩
    ·exact ⟨Zt _ _ _,hl⟩
 | again =>
   have hl:iU (lookW k x.aa).1:=by unfold iU;rw [Ug];exact hg
   show Zd x (if (lookW k x.aa).2=0 then _ else _:SC × ZC).2.2/\iU (if (lookW k x.aa).2=0 then _ else _:SC × ZC).2.1
   split
   ·exact ⟨Zd.refl x,hl⟩
   ·exact ⟨Zt _ _ _,hl⟩
 | tries =>
   obtain ⟨h1,h2⟩:=ui hc.aa k.slot k.aA k.event;have hs:Zd x (Zo (k,x)).1.2:=Bq h2;have hgn:iU (Zo (k,x)).1.1:=UF (PQ hc.aa _ _ _ hk.aA)
   show Zd x (if (Zo (k,x)).2≠0 then _ else _:SC × ZC).2.2/\iU (if (Zo (k,x)).2≠0 then _ else _:SC × ZC).2.1
   split
   ·show Zd x (if k.kind=3 then _ else _:SC × ZC).2.2/\iU (if k.kind=3 then _ else _:SC × ZC).2.1
    split
    ·exact ⟨hs,hgn⟩
    ·exact ⟨hs,hgn⟩
   ·show Zd x (if k.kind=3 then _ else _:SC × ZC).2.2/\iU (if k.kind=3 then _ else _:SC × ZC).2.1
    split
    ·exact ⟨hs.trans (Zt _ _ _),hgn⟩
    ·show Zd x (if k.kind=5 then _ else _:SC × ZC).2.2/\iU (if k.kind=5 then _ else _:SC × ZC).2.1
     split
     ·exact ⟨hs.trans (Zt _ _ _),hgn⟩
     ·exact ⟨hs.trans (Zt _ _ _),hgn⟩
theorem Tt {s:SC} (h:JC N s (k,x)) (hg:iU k):Zd x (J5 s (k,x)).2.2/\iU (J5 s (k,x)).2.1:=by
 obtain ⟨hc,hk,hf⟩:=h;simp only at hc hk hf;have ha:=fun a=>qv2 hc hk hg a
 match s,hf with
 | .nil,_=>exact ⟨Zd.refl x,hg⟩
 | .at none m,hf=>exact qt7 hc hk hg m
 | .ai .aR,_=>exact ha .aR
 | .thn (.ai .bL) .ends,_=>exact ha .bL
 | .thn (.aP .eG .drop) .leaves,_=>exact ha .eG
 | .thn (.ai .drop) .leaves,_=>exact ha .drop
 | .thn (.ai .bC) .leaves,_=>exact ha .bC
 | .thn (.aP .bN .drop) .ends,_=>exact ha .bN
 | .thn (.ai .drop) .ends,_=>exact ha .drop
end
end
section
open Go.RowKit Go.Shelf
attribute [local go_sem] XO
end
section
open Go.RowKit Go.Shelf Go.Conc
attribute [local go_sem] XO
theorem Ez:∀ (l:List Xm) (j:Nat) (f:Xm) (i:Nat),l[j]?=some f->i<4->(fires l)[j*4+i]?=f.vals[i]?
 | [],j,f,i,h,_=>by cases h
 | a::l,0,f,i,h,hi=>by
   cases h
   show (a.vals++fires l)[0*4+i]?=_
   rw [XX (by show 0*4+i<4;omega)];simp
 | a::l,j+1,f,i,h,hi=>by
   show (a.vals++fires l)[(j+1)*4+i]?=_
   rw [List.getElem?_append_right (by show 4<=(j+1)*4+i;omega)];have:=Ez l j f i h hi;rw [<- this];congr 1
   show (j+1)*4+i - 4=_
   omega
end
section
open Go.RowKit Go.Shelf
attribute [local go_sem] XO
section
variable {lb:Nat} {l hs:List Xm} {g gh:List ak} {hv:Value}
theorem SA (a b:List Xm):fires (a++b)=fires a++fires b:=by simp [fires,oh]
theorem SB (a:List Xm):(fires a).length=a.length*4:=by
 induction a with
 | nil=>rfl
 | cons x a ih =>
   show (x.vals++fires a).length=_
   rw [WX,ih]
   show 4+_=_
   rw [XB];omega
theorem qw4 (a:List Xm):∀ u∈fires a,u.oneCell'=true:=by
 induction a with
 | nil=>intro u hu;cases hu
 | cons x a ih =>
   intro u hu;rcases YF.1 (show u∈x.vals++fires a from hu) with hu | hu
   ·simp only [Xm.vals,List.mem_cons,List.not_mem_nil,or_false] at hu
    rcases hu with rfl | rfl | rfl | rfl <;> rfl
   ·exact ih u hu
theorem q2g (hg:vQ lb l g) (hh:Q1 63 4 hv hs.length (fires hs) gh) (h0:0<hs.length) (hn:l.length+hs.length<=2000000) :
 Qa prog 301 #[Qb lb,hv] [g,gh] fun e gs=>e=WM (WZ #[])/\∃ g',vQ lb (l++hs) g'/\gs=[g',gh]:=by
 obtain ⟨v,gr,hr,rfl⟩:=hg;have HH:=Vh hh;obtain ⟨hb,hcap,dN,rfl,rfl,hc1,hc2,hc3,hc4⟩:=hh.open h0;obtain ⟨av,cap,hv⟩:=Q1.val hr;subst hv;refine GO fun w HT=>?_
 have HT:=Vh (HT.out.sum (H':=[[cl lb 232 #[.slice av l.length cap]],gr,[cl hb 63 dN]]));have c0:=HT.c 0 0 0;have f0:=HT.f 0 0 0;simp only [bR] at c0
 have hnews:∀ j u,(fires hs)[j]?=some u->w.cell? ((⟨hb,0,none⟩:Addr).add j)=some u:=fun j u hu=>by
  have hj:=(WW.1 hu).1;rw [SB] at hj;have:=(HT.cell 2 0 rfl j).trans ((hc4 j hj).trans hu)
  have e:(⟨hb,0,none⟩:Addr).add j=⟨hb,j,none⟩:=by
   unfold Addr.add;split
   ·next h=>subst h;rfl
   ·simp
  rw [e];exact this
 have HR:=Vh hr;have lh:=Vh hnews;have HO:=Vh (qw4 hs);have HL:=Vh (SB hs);have HF:=Vh (SA l hs);clear hr hh hc3 hc4 hnews;go_enter func301,ntmps301
 go_wp2_with (
  at_builtin
  (with_reducible refine X3 rfl (.tmp 10) (.tmp 11) 58 rfl 63 4 32 _ underlying58 Gv rfl (by decide) HT.out 1 rfl rfl HR.out rfl ⟨hb,0,none⟩ hs.length hcap (fires hs) rfl HL.out lh.out HO.out (by unfold maxLen;omega) (by omega) ?_)
  intro v1 w2 g2 r1 T1;simp only [XZ,YA] at T1;have c1:=T1.c 0 0 0;have f1:=T1.f 0 0 0;have nU:=T1.l 0 0;obtain ⟨a1,di,hv1⟩:=Q1.val r1;subst hv1;have T1:=Vh T1;have r1:=Vh r1
  simp only [bR] at c1)
 go_end0
 exact ⟨_,⟨rfl,[cl lb 232 #[.slice a1 (l.length+hs.length) di]]++g2,⟨_,g2,by rw [WX,HF.out];exact r1.out,rfl⟩,rfl⟩,(((T1.set 0 0 rfl 0 (.slice a1 (l.length+hs.length) di)).eq (H':=[[cl lb 232 #[.slice a1 (l.length+hs.length) di]],g2,[cl hb 63 dN]]) rfl).sum)⟩
end
theorem q0u (a b c d:Int) (w:World):Calls prog 205 #[.agg #[WK WL a,WK WL b,WK WL c,WK WL d]] w fun e w'=>e=WM (.bool true)/\∃ C T,w'=w.alloc (.cells C T):=by
 go_enter func205,ntmps205
 go_wp2
 go_ret
 exact ⟨rfl,_,_,rfl⟩
theorem qu8 (bl ba lb:Nat) {l:List Xm} {g:List ak} (hg:vQ lb l g) (hn:l.length<=2000000) :
 uy prog 247 #[Qb bl,Qb ba] (BV (l.map fun f=>f.vals.toArray) [[cl bl 128 #[Qb lb]],[cl ba 189 #[WN (WQ 205) #[] #[]]],g]) (0:Nat):=by
 intro ly J Jx hT hY H0 O0 W hJ0 hO hH;have l8:O0=[[cl bl 128 #[Qb lb]],[cl ba 189 #[WN (WQ 205) #[] #[]]],g]:=hO;subst l8;obtain ⟨v,gr,hr,rfl⟩:=hg;obtain ⟨av,cap,hv⟩:=Q1.val hr;subst hv;obtain ⟨O,FT⟩:∃ O:GH,O=[[cl bl 128 #[Qb lb]],[cl ba 189 #[WN (WQ 205) #[] #[]]],[cl lb 232 #[.slice av l.length cap]]++gr]:=⟨_,rfl⟩;rw [<- FT] at hH |-;have T0:=TG.refl hH;have Ke:=hH.right;rw [FT] at Ke;have T1:=(TG.refl Ke).sum (H':=[[cl bl 128 #[Qb lb]],[cl ba 189 #[WN (WQ 205) #[] #[]]],[cl lb 232 #[.slice av l.length cap]],gr]);have c0:=T1.c 0 0 0;have l0:=T1.c 2 0 0;simp only [bR] at c0 l0;have HR:=Vh hr;have HH:=Vh (XD hJ0 T0);have HY:=Vh hY;have HO:=Vh FT;clear hr hO hH hY hT hJ0 T0 T1 Ke FT;refine (XP (n:=9)).1 (callsIn_of_wp func247 rfl trivial ?_ rfl)
 simp only [ntmps247,XU,XB,XK,Nat.reduceAdd,Nat.reduceSub,XQ,XR,XV,XT,XL,XI];gi_wp2
 clear c0 l0
 gi_loopw [13] (fun i wr=>∃ (k:Nat) (H:GH),k<=l.length/\i=WK WS k/\J k H/\TG (H0++O) W (H++O) wr) (fun i _=>l.length+1 - (intOf i).toNat)
 case atStart=>exact ⟨0,H0,by omega,rfl,HH.1,HH.2⟩
 case round =>
  obtain ⟨k,H,hk,rfl,hj,T⟩:=hrel;clear HH;by_cases hlt:k<l.length
  ·obtain ⟨f,hf⟩:∃ f,l[k]?=some f:=⟨_,XA hlt⟩
   have hat:(l.map fun f=>f.vals.toArray)[k]?=some f.vals.toArray:=by rw [YC,hf];rfl
   have TR:=T.has.right;rw [HO.out] at TR;have TE:=(TG.refl TR).sum (H':=[[cl bl 128 #[Qb lb]],[cl ba 189 #[WN (WQ 205) #[] #[]]],[cl lb 232 #[.slice av l.length cap]],gr]);obtain ⟨rb,cap',cur,hv,rfl,_,hcm,_,dN⟩:=HR.open (by omega);cases hv
   have r0:=(TE.cell 3 0 rfl (k*4)).trans ((dN (k*4) (by omega)).trans (Ez l k f 0 hf (by decide)));have r1:=(TE.cell 3 0 rfl (k*4+1)).trans ((dN (k*4+1) (by omega)).trans (Ez l k f 1 hf (by decide)));have r2:=(TE.cell 3 0 rfl (k*4+2)).trans ((dN (k*4+2) (by omega)).trans (Ez l k f 2 hf (by decide)));have r3:=(TE.cell 3 0 rfl (k*4+3)).trans ((dN (k*4+3) (by omega)).trans (Ez l k f 3 hf (by decide)));have a0:=TE.c 1 0 0;simp only [Xm.vals,List.getElem?_cons_zero,List.getElem?_cons_succ,List.getElem?_toArray] at r0 r1 r2 r3 a0;have DU:=TE.l 1 0;simp only [] at DU;have T2:=T.aN (.cells #[WK WL f.id,WK WL f.gen,WK WL f.dl,WK WL f.tick] 63);have HT2:=Vh T2;have HK:=Vh (XD hj hat);clear T TE TR dN hf hat hj T2;gi_wp2
   refine ⟨trivial,(XP (n:=8)).2 ((q0u _ _ _ _ _).mono ?_)⟩
   rintro e W1 ⟨rfl,C1,T1,rfl⟩;have HT2:=Vh (HT2.out.aN (.cells C1 T1));have hy0:=HY.out k #[.agg f.vals.toArray] [] (k+1) H _ HK.1 ⟨⟨_,HK.2,rfl⟩,rfl,rfl⟩ (by rw [XE];exact HT2.has.left);obtain ⟨fn,tmps,assign,body,hy,hR⟩:=Zw (n:=8) hy0;have HRR:=Vh hR;rw [Y4] at hy;clear hy0 hR;gi_wp2
   refine HRR.mono ?_
   rintro e W' ⟨H',hT',hj'⟩;have T7:=HT2.trans ((hT'.app (a':=H) (by simp)).frame HT2.has);have dY:=Vh T7;rcases hj' with ⟨rfl,hj'⟩ | ⟨rfl,hj'⟩
   ·have HJ:=Vh hj'
    clear hT' T7 hj' hy r0 r1 r2 r3 a0;gi_wp2
    go_roundw
    case rel=>exact ⟨k+1,H',by omega,by go_num,HJ,dY⟩
    case measure=>simp [intOf];omega
   ·have HJ:=Vh hj'
    clear hT' T7 hj' hy r0 r1 r2 r3 a0;gi_wp2
    refine XM (YB rfl _ _ _) rfl ?_
    exact ⟨⟨_,rfl⟩,k+1,H',_,dY,.inr HJ⟩
  ·obtain rfl:k=l.length:=by omega
   gi_wp2
   go_end0
   exact ⟨⟨_,rfl⟩,l.length,H,_,T,.inl ⟨(XN _).symm,hj,by rw [HO.out];rfl⟩⟩
theorem qt4 (lb:Nat):Qa prog 204 #[Qb lb,WN (WQ 205) #[] #[]] [] fun e gs=>∃ bl ba,e=WM (WN (WQ 247) #[] #[Qb bl,Qb ba]) /\
 gs=[[cl bl 128 #[Qb lb]],[cl ba 189 #[WN (WQ 205) #[] #[]]]]:=by
 refine GO fun w HT=>?_
 go_enter func204,ntmps204
 go_wp2
 go_ret
 exact ⟨_,⟨_,_,rfl,rfl⟩,(HT.alloc rfl _ _).alloc (k:=w.heap.size+1) (by simp) _ _⟩
theorem q2e {lb:Nat} {l:List Xm} {g:List ak} (hg:vQ lb l g) (hn:l.length<=1000000):Qa prog 165 #[Qb lb] [g] fun e gs=>∃ v gv,e=WM v/\Q1 63 4 v l.length (fires l) gv/\gs=[g,gv]:=by
 have HC:=Vh (show ∀ bl ba,_ from fun bl ba=>qs8 (enters_of func247 (by kernel_rfl) rfl) (qu8 bl ba lb hg (by omega)) (fun c hc=>by
  obtain ⟨a,_,rfl⟩:=YG.1 hc
  exact ⟨_,_,_,_,rfl⟩) (by rw [XN];exact hn))
 simp only [XN] at HC;refine GO fun w HT=>?_
 go_enter func165,ntmps165
 go_wp2_with fail
 refine Qa.run (qt4 lb) (HT) [] ?_
 rintro e w1 gs ⟨bl,ba,rfl,rfl⟩ HT;simp only [PU] at HT;go_wp2_with fail
 refine Qa.run (HC bl ba) (HT) [1,2,0] ?_
 rintro e w1 gs ⟨v,gv,rfl,hr,rfl⟩ HT;simp only [PU] at HT;obtain ⟨av,cap,hv⟩:=Q1.val hr;subst hv;have HR:=Vh hr;clear hr;go_wp2
 go_ret
 exact ⟨_,⟨_,gv,rfl,HR,rfl⟩,HT.p [0,3]⟩
end
section
open Go.RowKit Go.Shelf
structure zT where
 holds:List Xm
 worked:Int
inductive MW where
 | takes | fq
inductive AW where
 | jy
inductive YW where
 | ready
abbrev SW:Type:=St MW AW YW
structure ZW where
 k:zT
 x:Qi
 p:Qz
 lg:List Xm
def yh:MW->ZW->SW × ZW
 | .takes,z=>(.at (some .ready) .fq,z)
 | .fq,z=>(.thn (.ai .jy) .takes,{ z with k:={ z.k with holds:=z.k.holds++[z.p.take.2.1] },p:=z.p.take.1,x:={ z.x with f:={ z.x.f with busy:=z.x.f.busy+1 } } })
def q2z:AW->ZW->ZW
 | .jy,z=>{ z with lg:=z.lg++z.k.holds,k:=⟨[],z.k.worked+1⟩,x:={ z.x with f:={ z.x.f with busy:=Z2 z.x.f.busy } } }
def Ib:YW->ZW->Bool
 | .ready,z=>decide (0<(z.p.ch.length:Int)+z.p.sp.length)
structure Aq (z:ZW):Prop where
 busy:0<=z.x.f.busy/\z.x.f.busy<=1000000
 pipe:Hu z.p
 room:z.p.room<=1000000
 holds:z.k.holds.length<=1000
 lg:z.lg.length<=1000000
 worked:0<=z.k.worked/\z.k.worked<=1000000
def Ed (_:MW) (z:ZW):Prop:=Aq z
def QN (_:AW) (z:ZW):Prop:=Aq z/\0<z.k.holds.length
def QR (_:YW) (z:ZW):Prop:=Aq z
def nZ (fb:Nat) (pv hv:Value) (n:Int):Array Value:=#[Qb fb,pv,hv,WK WS n]
abbrev qn (wb fb:Nat) (pv hv:Value) (n:Int):List ak:=[cl wb 311 (nZ fb pv hv n)]
def rW (L:Lay) (wb:Nat) (pv:Value) (e:List ak) (z:ZW) (gK gF:List ak):Prop :=
 ∃ hv gh gC gP gL,Q1 63 4 hv z.k.holds.length (fires z.k.holds) gh/\Qf L z.x gC/\Z3 L.p.pb z.p gP/\vQ L.p.lb z.lg gL/\gK=qn wb L.fb pv hv z.k.worked++(gh++e)/\gF=gC++(gP++gL)
def Bc (wb:Nat) (e:List ak) (fn:FuncId) (v:Value):Prop:=∃ bk,v=WN (WQ fn) #[] #[Qb bk]/\cl bk 269 #[Qb wb]∈e
def VMW (wb:Nat) (e:List ak) (f:MW) (v:Value) (g:List ak):Prop:=g=[]/\match f with
 | .takes=>v=WN (WQ 269) #[Qb wb] #[]
 | .fq=>Bc wb e 287 v
def VAW (wb:Nat) (e:List ak) (f:AW) (v:Value) (g:List ak):Prop:=g=[]/\v=WN (WQ 289) #[Qb wb] #[]
def VYW (wb:Nat) (e:List ak) (f:YW) (v:Value) (g:List ak):Prop:=g=[]/\Bc wb e 286 v
def wY (L:Lay) (wb:Nat) (pv:Value):kT :=
 ⟨MW,AW,YW,ZW,List ak,fH,rW L wb pv,VMW wb,VAW wb,VYW wb,yh,q2z,Ib,Ed,QN,QR⟩
theorem Bc.le {wb:Nat} {e e':List ak} {fn:FuncId} {v:Value} (h:Bc wb e fn v) (hl:fH e e'):Bc wb e' fn v:=by
 obtain ⟨bk,h1,h2⟩:=h;exact ⟨bk,h1,hl _ h2⟩
theorem LJ (L:Lay) (wb:Nat) (pv:Value) (e:List ak):((wY L wb pv).on e).iA where
 vm {f v g} h:=by
  obtain ⟨_,h⟩:=h;cases f with
  | takes=>exact ⟨_,_,_,h⟩
  | fq=>obtain ⟨bk,h,_⟩:=h;exact ⟨_,_,_,h⟩
 va {f v g} h:=⟨_,_,_,h.2⟩
 vy {f v g} h:=by obtain ⟨_,bk,h,_⟩:=h;exact ⟨_,_,_,h⟩
def SRW (L:Lay) (wb:Nat) (pv:Value) (s:SW) (en:Ending) (g' l:List ak):Prop :=
 ∃ m d,en=WM (.agg #[m,d])/\∀ e,fH l e->(wY L wb pv).SV e s m d g'
section
variable {L:Lay} {x:Qi} {p:Qz} {lg:List Xm} {g gK gF e:List ak} {wb:Nat} {pv:Value} {k:zT}
theorem PS (L:Lay) (wb:Nat) (pv:Value):Qa prog 269 #[Qb wb] [] fun en gs=>∃ g' l,SRW L wb pv (.at (some .ready) .fq) en g' l/\gs=[g',l]:=by
 refine GO fun w HT=>?_
 go_enter func269,ntmps269
 go_wp2_with fail
 refine Qa.run (EL 286 287 #[] #[] #[Qb w.heap.size] #[Qb w.heap.size]) ((HT.a 269 #[Qb wb]).alloc (k:=w.heap.size+1) (by simp) 153 #[WR,WR]) [] ?_
 rintro e w1 gs ⟨rfl,rfl⟩ HT;simp only [PU] at HT;obtain ⟨e0,e1⟩:=HT.c2 1 0 0 1;obtain ⟨eX,eD⟩:=HT.f2 1 0 0 1;simp only [aT] at e0 e1;go_wp2
 exact XM (v:=.agg #[_,_]) (by simp [results,results269,go_sem,e0,e1]) rfl ⟨_,⟨[],[cl w.heap.size 269 #[Qb wb]],⟨_,_,rfl,fun e he=>⟨[],[],⟨rfl,w.heap.size,rfl,he _ (by simp)⟩,⟨rfl,w.heap.size,rfl,he _ (by simp)⟩,rfl⟩⟩,rfl⟩,(((HT.set 1 0 rfl 0 _).set 1 0 rfl 1 _).p [0]).sum⟩
theorem q7y (hz:rW L wb pv e ⟨k,x,p,lg⟩ gK gF) (hp:Aq ⟨k,x,p,lg⟩) (bk:Nat) (hb:cl bk 269 #[Qb wb]∈e) :
 Qe prog 286 #[Qb bk] [gK,gF] (.bool (Ib .ready ⟨k,x,p,lg⟩)):=by
 have hch:p.ch.length<=1000000:=Nat.le_trans hp.pipe.ch hp.room;have hsp:p.sp.length<=1000000:=hp.pipe.sp
 show Qe _ _ _ _ (.bool (decide (0<(p.ch.length:Int)+p.sp.length)))
 clear hp;obtain ⟨hv,gh,gC,gP,gL,hr,hx,aW,hl,rfl,rfl⟩:=hz;intro w hw;have HT:=Vh ((TG.refl hw).m [qn wb L.fb pv hv k.worked,gh,e,gC,gP,gL]);have HX:=Vh hx;have o7:=Vh (Td aW ⟨hch,hsp⟩);have b0:=HT.aj 2 hb 0;have lt:=HT.l 0 0;simp only [bR] at b0 lt;have k0:=HT.c 0 0 0;simp only [nZ,aC] at k0;generalize hm:(p.ch.length:Int)+p.sp.length=m at *;clear hx hr aW hl hw hch hsp hm;by_cases h0:0<m
 ·have hd:decide (0<m)=true:=decide_eq_true h0
  rw [hd];go_enter func286,ntmps286
  go_wp2_with fail
  refine (Qe.use (Ye HX) (HT) [3] rfl rfl).mono ?_
  rintro e w1 ⟨rfl,mq,rfl⟩;go_wp2_with fail
  refine (Qe.use o7 (HT.drewN _) [4] rfl rfl).mono ?_
  rintro e w1 ⟨rfl,mq,rfl⟩;go_wp2
  go_ret
  exact ⟨rfl,_,rfl⟩
 ·have hd:decide (0<m)=false:=decide_eq_false h0
  rw [hd];go_enter func286,ntmps286
  go_wp2_with fail
  refine (Qe.use (Ye HX) (HT) [3] rfl rfl).mono ?_
  rintro e w1 ⟨rfl,mq,rfl⟩;go_wp2_with fail
  refine (Qe.use o7 (HT.drewN _) [4] rfl rfl).mono ?_
  rintro e w1 ⟨rfl,mq,rfl⟩;go_wp2
  go_ret
  exact ⟨rfl,_,rfl⟩
theorem za5 (hz:rW L wb pv e ⟨k,x,p,lg⟩ gK gF) (hp:Aq ⟨k,x,p,lg⟩) (h0:0<k.holds.length) :
 Qa prog 289 #[Qb wb] [gK,gF] fun en gs=>∃ aY aI,en=WM (WZ #[])/\rW L wb pv e (q2z .jy ⟨k,x,p,lg⟩) aY aI/\gs=[aY,aI]:=by
 have hbz:=hp.busy;have Kn:=hp.lg;have hho:=hp.holds;have hwk:=hp.worked;simp only at hbz Kn hho hwk;clear hp;have HPT:=Vh (show ∀ g hv gh,vQ L.p.lb lg g->Q1 63 4 hv k.holds.length (fires k.holds) gh->_ from fun g hv gh h1 h2=>q2g (hs:=k.holds) h1 h2 h0 (by omega));have FC:=Vh (show ∀ g,Qf L x g->_ from fun g hg=>q1e hg hbz);obtain ⟨hv,gh,gC,gP,gL,hr,hx,aW,hl,rfl,rfl⟩:=hz;obtain ⟨av,cap,hv'⟩:=Q1.val hr;subst hv';refine GO fun w HT=>?_
 have HT:=Vh (HT.out.m [qn wb L.fb pv (.slice av k.holds.length cap) k.worked,gh,e,gC,gP,gL]);have HX:=Vh hx;have HR:=Vh hr;have bD:=Vh aW;have HL:=Vh hl;clear hx hr aW hl;obtain ⟨k0,k2⟩:=HT.c2 0 0 0 2;simp only [nZ,aC] at k0 k2;go_enter func289,ntmps289
 go_wp2_with fail
 refine Mx 9 ?_
 simp only [dx]
 repeat (go_big_quiet_step ((first | (go_at_call 164;with_reducible exact Qe.quiet (Sy HX.out) HT.out _ [3] rfl rfl))))
 refine wpQuiet_nil (QT HT fun nq HT=>?_)
 go_wp2_with fail
 refine Qa.run (HPT _ _ _ HL HR) (HT) [5,1] ?_
 rintro e w1 gs ⟨rfl,g1,hl1,rfl⟩ HT;simp only [PU] at HT;have HL:=Vh hl1;clear hl1 k0 k2;go_wp2_with fail
 refine ⟨rfl,?_⟩
 obtain ⟨k0,k2,k3⟩:=HT.c3 0 0 0 2 3;obtain ⟨fk2,AO⟩:=HT.f2 0 0 2 3;simp only [nZ,aC] at k0 k2 k3;have lt:=HT.l 0 0;simp only [] at lt;go_wp2_with fail
 refine Qa.run (FC _ HX) ((HT.set 0 0 rfl 2 (.slice none 0 0)).set 0 0 rfl 3 (WK WS (k.worked+1))) [3] ?_
 rintro e w1 gs ⟨rfl,g2,hx2,rfl⟩ HT;simp only [PU] at HT;have HX:=Vh hx2;clear hx2;go_wp2
 exact bodyPost_end (YB rfl _ _ _) rfl ⟨_,⟨_,_,rfl,⟨.slice none 0 0,[],g2,gP,g1,X5 _ _,HX,bD,HL,(rfl:qn wb L.fb pv (.slice none 0 0) (k.worked+1)++([]++e)=_),rfl⟩,rfl⟩,(((HT.p [0,2,3,4,5]).eq (H':=[qn wb L.fb pv (.slice none 0 0) (k.worked+1),e,g2,gP,g1]) rfl).sum)⟩
theorem q7g {e_:List ak} (hz:rW L wb pv e_ ⟨k,x,p,lg⟩ gK gF) (hp:Aq ⟨k,x,p,lg⟩) (bk:Nat) (hb:cl bk 269 #[Qb wb]∈e_) :
 Qa prog 287 #[Qb bk] [gK,gF] fun en gs=>∃ m d g' aY aI,en=WM (.agg #[m,d])/\(wY L wb pv).SV e_ (yh .fq ⟨k,x,p,lg⟩).1 m d g'/\rW L wb pv e_ (yh .fq ⟨k,x,p,lg⟩).2 aY aI/\gs=[g',aY,aI]:=by
 have hbz:=hp.busy;have hho:=hp.holds;simp only at hbz hho;have dZ:=Vh (show ∀ g,Z3 L.p.pb p g->_ from fun g hg=>quh hg hp.pipe);clear hp;have HCW:=Vh (show ∀ g,Qf L x g->_ from fun g hg=>q1i hg hbz);obtain ⟨f,hf⟩:∃ f,p.take.2.1=f:=⟨_,rfl⟩;have HF:=Vh hf;rw [hf,Y4] at dZ;clear hf;obtain ⟨hv,gh,gC,gP,gL,hr,hx,aW,hl,rfl,rfl⟩:=hz;obtain ⟨av,cap,hv'⟩:=Q1.val hr;subst hv';refine GO fun w HT=>?_
 have HT:=Vh (HT.out.m [qn wb L.fb pv (.slice av k.holds.length cap) k.worked,gh,e_,gC,gP,gL]);have HX:=Vh hx;have HR:=Vh hr;have bD:=Vh aW;have HL:=Vh hl;clear hx hr aW hl;have HB:=Vh hb;have b0:=HT.aj 2 HB 0;have bI:=HT.bg 2 HB;have ji:=HT.l 0 0;simp only [bR] at b0 bI ji;have k0:=HT.c 0 0 0;simp only [nZ,aC] at k0;go_enter func287,ntmps287
 go_wp2_with fail
 have HT:=Vh (HT.out.a 153 #[WR,WR]);obtain ⟨rb,hrb⟩:∃ rb,rb=w.heap.size:=⟨_,rfl⟩;rw [<- hrb] at HT |-;clear hrb hb b0 bI ji k0;generalize YI w _=wa at HT |-;go_wp2_with fail
 refine Qe.run (Ye HX) HT [3] ?_
 rintro e wq rfl HT;go_wp2_with fail
 refine Qa.run (dZ _ bD) (HT) [4] ?_
 rintro e w1 gs ⟨rfl,g1,hp1,rfl⟩ HT;simp only [PU] at HT;have bD:=Vh hp1;clear hp1;go_wp2_with fail
 have HT:=Vh (HT.out.a 63 #[WK WL f.id,WK WL f.gen,WK WL f.dl,WK WL f.tick]);obtain ⟨vb,hvb⟩:∃ vb,vb=w1.heap.size:=⟨_,rfl⟩;rw [<- hvb] at HT |-;clear hvb;generalize YI w1 _=wb1 at HT |-;have b0:=HT.aj 2 HB 0;have bI:=HT.bg 2 HB;simp only [bR] at b0 bI;have k2:=HT.c 0 0 2;simp only [nZ,aC] at k2;obtain ⟨v0,v1,v2,v3⟩:=HT.c4 7 0 0 1 2 3;simp only [aT] at v0 v1 v2 v3;have ji:=HT.l 0 0;simp only [] at ji;simp only [XI,XL] at HT;have HT:=Vh HT.out.drew
 apply U8 (α:=Option Addr) (β:=Nat) (A:=fun a1 di w5=>∃ l7,Q1 63 4 (.slice a1 (k.holds.length+1) di) (k.holds.length+1) (fires k.holds++f.vals) l7 /\
  TG [qn wb L.fb pv (.slice av k.holds.length cap) k.worked++(gh++e_),gC++(gP++gL)] w [qn wb L.fb pv (.slice a1 (k.holds.length+1) di) k.worked,l7,e_,gC,g1,gL,[cl rb 153 #[WR,WR]]] w5)
 case main =>
  intro key
  go_region_law (
   refine KV rfl (.tmp 17) (.tmp 19) 58 rfl 4 32 _ underlying58 Gv rfl (by decide) (HT.aN _) 1 rfl rfl HR rfl ⟨wb1.heap.size,0,none⟩ 1 1 [WK WL f.id,WK WL f.gen,WK WL f.dl,WK WL f.tick] rfl rfl (Za _ _ _) (by simp [Value.oneCell']) (by unfold maxLen;omega) (by omega) ?_
   intro v w3 l7 r T;simp only [XZ,YA] at T;obtain ⟨a1,di,rfl⟩:=r.val;have c2:=T.c 0 0 2;have f2:=T.f 0 0 2;have bq:=T.aj 2 HB 0;simp only [nZ,aC] at c2 bq;have T:=Vh T
   have r:=Vh r)
  all_goals
   have T5:=(T.set 0 0 rfl 2 (.slice a1 (k.holds.length+1) di)).eq (H':=[qn wb L.fb pv (.slice a1 (k.holds.length+1) di) k.worked,l7,e_,gC,g1,gL,[cl rb 153 #[WR,WR]],[cl vb 63 #[WK WL f.id,WK WL f.gen,WK WL f.dl,WK WL f.tick]]]) rfl;generalize World.setCell _ _ _=w5 at T5 |-;exact key a1 di w5 ⟨l7,r.out,T5.p [0,1,2,3,4,5,6]⟩
 case key =>
  rintro a1 di w5 ⟨l7,r,T⟩;have HT:=Vh T
  have RR:=Vh (show Q1 63 4 (.slice a1 (k.holds.length+1) di) (k.holds++[f]).length (fires (k.holds++[f])) l7 from by
   rw [WX,SA]
   simpa [fires,oh] using r)
  clear r T b0 k2 v0 v1 v2 v3 bI ji;have b0:=HT.aj 2 HB 0;have bI:=HT.bg 2 HB;simp only [bR] at b0 bI;have k0:=HT.c 0 0 0;simp only [nZ,aC] at k0;go_wp2_with fail
  refine Qa.run (HCW _ HX) (HT) [3] ?_
  rintro e w1 gs ⟨rfl,g2,hx2,rfl⟩ HT;simp only [PU] at HT;have HX:=Vh hx2;clear hx2 b0 k0 bI;generalize w1=w6 at HT |-;have b0:=HT.aj 2 HB 0;have bI:=HT.bg 2 HB;have nW:=HT.l 6 0;simp only [bR] at b0 bI nW;go_wp2_with fail
  go_region_held3 (fun w'=>w'.cell? ⟨bk,0,none⟩=some (Qb wb))
   (first
   | exact b0
   | exact q1
   | exact r1
   | exact (((ll.set 6 0 rfl 0 WR).set 6 0 rfl 1 (WN (WQ 237) #[] #[Qb bs,Qb br])).aj 2 HB 0)
   | (simp [go_sem,b0,bI,Nat.ne_of_lt bI,Nat.ne_of_gt bI];done))
   (first
   | (go_at_call 178
      refine (Qa.use (aZ.eO (b:=w6.heap.size) (o:=0) (D:=#[WN (WQ 289) #[Qb wb] #[]]) rfl 1 (.inl rfl)) (HT.drew.alloc (k:=w6.heap.size) rfl 1 #[WN (WQ 289) #[Qb wb] #[]]) [7] rfl rfl).mono ?_
      rintro e w7 ⟨gs,⟨bf,bl,bi,rfl,rfl⟩,Ta⟩;simp only [PU] at Ta;have dY:=Vh Ta;clear Ta;have q1:=dY.aj 2 HB 0;simp only [aC] at q1
      have hsv:((wY L wb pv).on e_).SV (.ai .jy) WR (WN (WQ 209) #[] #[Qb bf,Qb bl,Qb bi]) ([cl bf 1 #[WN (WQ 289) #[Qb wb] #[]],cl bl 322 #[.slice (some ⟨w6.heap.size,0,none⟩) 1 1],cl bi 3 #[WK WS 0],cl w6.heap.size 1 #[WN (WQ 289) #[Qb wb] #[]]]++[]) :=
       ⟨rfl,bf,bl,bi,w6.heap.size,0,_,_,[],rfl,⟨rfl,rfl⟩,rfl,rfl⟩
      have fM:=Vh hsv
      clear hsv)
   | (go_at_call 196
      refine (Qa.use (aZ.bS (c:=(wY L wb pv).on e_) (f:=MW.takes) (v:=WN (WQ 269) #[Qb wb] #[]) (gm:=[]) (LJ L wb pv _) rfl fM ⟨rfl,rfl⟩) (dY.bG (H':=[qn wb L.fb pv (.slice a1 (k.holds.length+1) di) k.worked,l7,e_,g2,g1,gL,[cl rb 153 #[WR,WR]],[cl bf 1 #[WN (WQ 289) #[Qb wb] #[]],cl bl 322 #[.slice (some ⟨w6.heap.size,0,none⟩) 1 1],cl bi 3 #[WK WS 0],cl w6.heap.size 1 #[WN (WQ 289) #[Qb wb] #[]]]++[],[]])) [7,8] rfl rfl).mono ?_
      rintro e w8 ⟨gs,⟨bs,br,rfl,rfl⟩,Ta⟩;simp only [PU] at Ta;have ll:=Vh Ta;clear Ta;have r1:=ll.aj 2 HB 0;obtain ⟨z0,z1⟩:=ll.c2 6 0 0 1;obtain ⟨AP,AQ⟩:=ll.f2 6 0 0 1
      simp only [aC] at r1 z0 z1))
  all_goals
   have T9:=((ll.set 6 0 rfl 0 WR).set 6 0 rfl 1 (WN (WQ 237) #[] #[Qb bs,Qb br])).p [7,0,1,2,3,4,5]
   have C8:rW L wb pv e_ (yh .fq ⟨k,x,p,lg⟩).2 (qn wb L.fb pv (.slice a1 (k.holds.length+1) di) k.worked++(l7++e_)) (g2++(g1++gL)):=by
    show rW L wb pv e_ ⟨⟨k.holds++[p.take.2.1],k.worked⟩,{ x with f:={ x.f with busy:=x.f.busy+1 } },p.take.1,lg⟩ _ _
    rw [HF.out];exact ⟨_,l7,g2,g1,gL,RR,HX,bD,HL,rfl,rfl⟩
   have CB:=fM.out;have IE:=Vh (XD T9 (XD C8 CB));clear T9 C8 CB;go_wp2
   exact XM (v:=.agg #[WR,_]) (by simp [results,results287,go_sem,z0,z1]) rfl ⟨_,⟨_,_,_,_,_,rfl,⟨bs,br,_,_,_,[],rfl,rfl,IE.2.2,⟨rfl,rfl⟩,rfl⟩,IE.2.1,rfl⟩,IE.1.bG⟩
end
theorem q6h {L:Lay} {wb:Nat} {pv:Value} {e gK gF:List ak} {z:ZW} (hz:rW L wb pv e z gK gF):Qa prog 269 #[Qb wb] [gK,gF] fun en gs =>
 ∃ e',fH e e'/\∃ m d g' aY aI,en=WM (.agg #[m,d])/\(wY L wb pv).SV e' (yh .takes z).1 m d g'/\rW L wb pv e' (yh .takes z).2 aY aI/\gs=[g',aY,aI]:=by
 obtain ⟨hv,gh,gC,gP,gL,hr,hx,aW,hl,rfl,rfl⟩:=hz;intro w hw;refine (Qa.use (PS L wb pv) (TG.refl hw) [] rfl rfl).mono ?_
 rintro en w1 ⟨gs,⟨g',l,⟨m,d,rfl,hs⟩,rfl⟩,Ta⟩;exact ⟨_,⟨e++l,fH.app _ _,m,d,g',_,_,rfl,hs _ (fun b hb=>List.mem_append_right _ hb),⟨hv,gh,gC,gP,gL,hr,hx,aW,hl,(rfl:qn wb L.fb pv hv z.k.worked++(gh++(e++l))=_),rfl⟩,rfl⟩,TG.sum (H:=[qn wb L.fb pv hv z.k.worked++(gh++e),gC++(gP++gL),g',l]) Ta⟩
theorem MM (L:Lay) (wb:Nat) (pv:Value):(wY L wb pv).Ok where
 refl:=fH.refl
 trans h1 h2:=fun b hb=>h2 b (h1 b hb)
 mm {e e' f v g} hl h:=by
  obtain ⟨h0,h⟩:=h;refine ⟨h0,?_⟩
  cases f with
  | takes=>exact h
  | fq=>exact Bc.le h hl
 ma hl h:=h
 v e:=LJ L wb pv e
 m {e f v g gK gF z} hv hz hp:=by
   obtain ⟨k,x,p,lg⟩:=z;obtain ⟨rfl,hv⟩:=hv;cases f with
   | takes =>
     subst hv;refine ⟨_,_,_,rfl,fun _ _=>rfl,(Qa.pre (gs':=[[],gK,gF]) (q6h hz) rfl)⟩
   | fq =>
     obtain ⟨bk,rfl,hb⟩:=hv;refine ⟨_,_,_,rfl,fun _ _=>rfl,(Qa.pre (gs':=[[],gK,gF]) (q7g hz hp bk hb) rfl).mono ?_⟩
     rintro en gs ⟨m,d,g',aY,aI,h1,h2,h3,rfl⟩;exact ⟨e,fH.refl _,m,d,g',aY,aI,h1,h2,h3,rfl⟩
 a {e f v g gK gF z} hv hz hp:=by
   obtain ⟨k,x,p,lg⟩:=z;obtain ⟨rfl,hv⟩:=hv;cases f
   subst hv;refine ⟨_,_,_,rfl,fun _ _=>rfl,((za5 hz hp.1 hp.2).pre (gs':=[[],gK,gF]) rfl).post ?_⟩
   rintro en gs ⟨aY,aI,h1,h2,rfl⟩;exact ⟨[[],aY,aI],⟨e,fH.refl _,aY,aI,h1,h2,rfl⟩,.refl _⟩
 y {e f v g gK gF z} hv hz hp:=by
   obtain ⟨k,x,p,lg⟩:=z;obtain ⟨rfl,bk,rfl,hb⟩:=hv;cases f
   refine ⟨_,_,_,rfl,fun _ _=>rfl,fun w hw=>?_⟩
   refine (Qe.use (q7y hz hp bk hb) (TG.refl hw) [1,2] rfl rfl).mono ?_
   rintro en w1 ⟨rfl,m,rfl⟩;exact ⟨_,⟨gK,gF,rfl,hz,rfl⟩,(TG.refl hw).drewN m⟩
def DN (L:Lay) (wb:Nat) (pv:Value) (e:List ak) (k:zT) (gK:List ak):Prop:=∃ hv gh,Q1 63 4 hv k.holds.length (fires k.holds) gh/\gK=qn wb L.fb pv hv k.worked++(gh++e)
def vH (L:Lay) (x:Qi) (p:Qz) (lg:List Xm) (gF:List ak):Prop:=∃ gC gP gL,Qf L x gC/\Z3 L.p.pb p gP/\vQ L.p.lb lg gL/\gF=gC++(gP++gL)
theorem BD {L:Lay} {wb:Nat} {pv:Value} {e gK gF:List ak} {z:ZW}:rW L wb pv e z gK gF↔DN L wb pv e z.k gK/\vH L z.x z.p z.lg gF :=
 ⟨fun ⟨hv,gh,gC,gP,gL,a,b,c,d,h,i⟩=>⟨⟨hv,gh,a,h⟩,⟨gC,gP,gL,b,c,d,i⟩⟩,fun ⟨⟨hv,gh,a,h⟩,⟨gC,gP,gL,b,c,d,i⟩⟩=>⟨hv,gh,gC,gP,gL,a,b,c,d,h,i⟩⟩
def uF (L:Lay) (wb:Nat) (s:SW) (n:Int) (k:zT) (g:List ak):Prop :=
 ∃ (pb:Nat) (e:List ak) (m d:Value) (cB gK:List ak),(wY L wb (Qb pb)).SV e s m d cB/\DN L wb (Qb pb) e k gK/\g=aZ.aJ pb m d n++(cB++gK)
def vN (s:SW) (z:ZW):SW × ZW:=St.run yh q2z s z
def QQ (s:SW) (z:ZW):Prop:=St.pre yh q2z Ed QN s z
def BZ (s:SW) (z:ZW):Bool:=s.may Ib z
def H5 (s:SW) (z:ZW):Prop:=St.dw QR s z
section
variable {L:Lay} {x:Qi} {p:Qz} {lg:List Xm} {g gF:List ak} {wb:Nat} {s:SW} {n:Int} {k:zT}
theorem q7u (hc:uF L wb s n k g) (hx:vH L x p lg gF) (hy:H5 s ⟨k,x,p,lg⟩) (hm:BZ s ⟨k,x,p,lg⟩=true) (hp:QQ s ⟨k,x,p,lg⟩) (hb:0<=n/\n<=1000000000) :
 Qa prog 378 #[Qb wb] [g,gF] fun en gs=>∃ g' aI,en=WM (.bool true)/\uF L wb (vN s ⟨k,x,p,lg⟩).1 (n+1) (vN s ⟨k,x,p,lg⟩).2.k g'/\vH L (vN s ⟨k,x,p,lg⟩).2.x (vN s ⟨k,x,p,lg⟩).2.p (vN s ⟨k,x,p,lg⟩).2.lg aI/\gs=[g',aI]:=by
 obtain ⟨pb,e,m,d,cB,gK,hs,hk,rfl⟩:=hc;have hd:=kT.fJ (n:=n) (MM L wb (Qb pb)) hs (x:=(⟨k,x,p,lg⟩:ZW)) (BD.2 ⟨hk,hx⟩) hy hp pb hb hm;obtain ⟨hv,gh,hl,rfl⟩:=hk;refine GO fun w HT=>?_
 have T1:=HT.sum (H':=[qn wb L.fb (Qb pb) hv k.worked,aZ.aJ pb m d n++(cB++(gh++e)),gF]);have k1:=T1.c 0 0 1;simp only [nZ,aC] at k1;have lt:=T1.l 0 0;simp only [] at lt;have HD:=Vh hd;have HT:=Vh (HT.out.m [aZ.aJ pb m d n,cB,qn wb L.fb (Qb pb) hv k.worked++(gh++e),gF]);clear hs hl hx hy hm hp hb hd T1;go_enter func378,ntmps378
 go_wp2_with fail
 refine Qa.run HD HT [0,1,2,3] ?_
 rintro e w1 gs ⟨e',hle,m',d',nN,aY,aI,rfl,hs',hx',rfl⟩ HT;simp only [PU] at HT;have HS:=Vh hs';have HX:=Vh (BD.1 hx');clear hs' hx' k1;go_wp2
 go_ret
 exact ⟨_,⟨_,aI,rfl,⟨pb,e',m',d',nN,aY,HS,HX.1,rfl⟩,HX.2,rfl⟩,HT.sum⟩
theorem zcb (hc:uF L wb s n k g) (hx:vH L x p lg gF) (hy:H5 s ⟨k,x,p,lg⟩) (hm:BZ s ⟨k,x,p,lg⟩=false) :
 Qa prog 378 #[Qb wb] [g,gF] fun en gs=>en=WM (.bool false)/\∃ g' aI,uF L wb s n k g'/\vH L x p lg aI/\gs=[g',aI]:=by
 obtain ⟨pb,e,m,d,cB,gK,hs,hk,rfl⟩:=hc;have hd:=kT.dQ (n:=n) (MM L wb (Qb pb)) hs (x:=(⟨k,x,p,lg⟩:ZW)) (BD.2 ⟨hk,hx⟩) hy pb hm;obtain ⟨hv,gh,hl,rfl⟩:=hk;refine GO fun w HT=>?_
 have T1:=HT.sum (H':=[qn wb L.fb (Qb pb) hv k.worked,aZ.aJ pb m d n++(cB++(gh++e)),gF]);have k1:=T1.c 0 0 1;simp only [nZ,aC] at k1;have lt:=T1.l 0 0;simp only [] at lt;have HD:=Vh hd;have HS:=Vh hs;have HT:=Vh (HT.out.m [aZ.aJ pb m d n,cB,qn wb L.fb (Qb pb) hv k.worked++(gh++e),gF]);clear hs hl hx hy hm hd T1;go_enter func378,ntmps378
 go_wp2_with fail
 refine Qa.run HD HT [0,1,2,3] ?_
 rintro e w1 gs ⟨aY,aI,rfl,hx',rfl⟩ HT;simp only [PU] at HT;have HX:=Vh (BD.1 hx');clear hx' k1;go_wp2
 go_ret
 exact ⟨_,⟨rfl,_,aI,⟨pb,e,m,d,cB,aY,HS,HX.1,rfl⟩,HX.2,rfl⟩,HT.sum⟩
theorem zat (hc:uF L wb s n k g) (hx:vH L x p lg gF) (hy:H5 s ⟨k,x,p,lg⟩) :
 Qa prog 377 #[Qb wb] [g,gF] fun en gs=>en=WM (.bool (BZ s ⟨k,x,p,lg⟩))/\∃ g' aI,uF L wb s n k g'/\vH L x p lg aI/\gs=[g',aI]:=by
 obtain ⟨pb,e,m,d,cB,gK,hs,hk,rfl⟩:=hc;have hd:=kT.dP (n:=n) (MM L wb (Qb pb)) hs (x:=(⟨k,x,p,lg⟩:ZW)) (BD.2 ⟨hk,hx⟩) hy pb;have hd:Qa prog 146 _ _ fun en gs=>∃ aY aI,en=WM (.bool (BZ s ⟨k,x,p,lg⟩))/\rW L wb (Qb pb) e ⟨k,x,p,lg⟩ aY aI/\_:=hd
 generalize BZ s ⟨k,x,p,lg⟩=v at *;obtain ⟨hv,gh,hl,rfl⟩:=hk;refine GO fun w HT=>?_
 have T1:=HT.sum (H':=[qn wb L.fb (Qb pb) hv k.worked,aZ.aJ pb m d n++(cB++(gh++e)),gF]);have k1:=T1.c 0 0 1;simp only [nZ,aC] at k1;have lt:=T1.l 0 0;simp only [] at lt;have HD:=Vh hd;have HS:=Vh hs;have HT:=Vh (HT.out.m [aZ.aJ pb m d n,cB,qn wb L.fb (Qb pb) hv k.worked++(gh++e),gF]);clear hs hl hx hy hd T1;go_enter func377,ntmps377
 go_wp2_with fail
 refine Qa.run HD HT [0,1,2,3] ?_
 rintro e w1 gs ⟨aY,aI,rfl,hx',rfl⟩ HT;simp only [PU] at HT;have HX:=Vh (BD.1 hx');clear hx' k1;go_wp2
 go_ret
 exact ⟨_,⟨rfl,_,aI,⟨pb,e,m,d,cB,aY,HS,HX.1,rfl⟩,HX.2,rfl⟩,HT.sum⟩
def Gg:List Xm->Xm
 | []=>Xm.zero
 | f::_=>f
theorem q3q (hc:uF L wb s n k g) (hn:k.holds.length<=1000):Qa prog 167 #[Qb wb] [g] fun en gs=>en=WM (WZ #[.agg (Gg k.holds).vals.toArray,.bool (!k.holds.isEmpty)])/\gs=[g]:=by
 obtain ⟨pb,e,m,d,cB,gK,hs,⟨hv,gh,hl,rfl⟩,rfl⟩:=hc;cases hh:k.holds with
 | nil =>
   rw [show k.holds.length=0 from by rw [hh];rfl] at hl;obtain ⟨av,cap,rfl⟩:=Q1.val hl;refine GO fun w HT=>?_
   have HT:=Vh (HT.out.sum (H':=[qn wb L.fb (Qb pb) (.slice av 0 cap) k.worked,aZ.aJ pb m d n++(cB++(gh++e))]));have k2:=HT.c 0 0 2;simp only [nZ,aC] at k2;have lt:=HT.l 0 0;simp only [] at lt;clear hs hl hh;go_enter func167,ntmps167
   go_wp2
   have HT2:=Vh (HT.out.a 63 #[WK WL 0,WK WL 0,WK WL 0,WK WL 0]);obtain ⟨r0,r1,r2,r3⟩:=HT2.c4 2 0 0 1 2 3;simp only [aT] at r0 r1 r2 r3;exact XM (v:=WZ #[.agg #[WK WL 0,WK WL 0,WK WL 0,WK WL 0],.bool false]) (by simp [results,results167,go_sem,r0,r1,r2,r3]) rfl ⟨_,⟨rfl,rfl⟩,(HT2.p [0,1]).sum⟩
 | cons f l =>
   have h0:0<k.holds.length:=by rw [hh];exact Nat.zero_lt_succ _
   obtain ⟨hb,hcap,dN,rfl,hgh,hc1,hc2,hc3,hc4⟩:=hl.open h0
   have hf0:(fires k.holds)[0]?=some (WK WL f.id)/\(fires k.holds)[1]?=some (WK WL f.gen)/\(fires k.holds)[2]?=some (WK WL f.dl)/\(fires k.holds)[3]?=some (WK WL f.tick):=by
    rw [hh];exact ⟨rfl,rfl,rfl,rfl⟩
   obtain ⟨q0,q1,q2,q3⟩:=hf0;have a0:=(hc4 0 (by omega)).trans q0;have a1:=(hc4 1 (by omega)).trans q1;have a2:=(hc4 2 (by omega)).trans q2;have a3:=(hc4 3 (by omega)).trans q3;refine GO fun w HT=>?_
   have HT:=Vh (HT.out.sum (H':=[qn wb L.fb (Qb pb) (.slice (some ⟨hb,0,none⟩) k.holds.length hcap) k.worked,gh,aZ.aJ pb m d n++(cB++e)]));rw [hgh] at HT;obtain ⟨N,hN⟩:∃ N,k.holds.length=N:=⟨_,rfl⟩;rw [hN] at HT h0 hc1 hn |-;have p0:=(HT.c 1 0 0).trans a0;have p1:=(HT.c 1 0 1).trans a1;have p2:=(HT.c 1 0 2).trans a2;have p3:=(HT.c 1 0 3).trans a3;have k2:=HT.c 0 0 2;simp only [nZ,aC] at k2;have lt:=HT.l 0 0;have lt2:=HT.l 1 0;simp only [] at lt lt2;clear hs hl hh hc2 hc3 hc4 a0 a1 a2 a3 q0 q1 q2 q3;go_enter func167,ntmps167
   go_wp2
   have HT2:=Vh (HT.out.a 63 #[WK WL f.id,WK WL f.gen,WK WL f.dl,WK WL f.tick]);obtain ⟨r0,r1,r2,r3⟩:=HT2.c4 3 0 0 1 2 3;simp only [aT] at r0 r1 r2 r3;have T9:=HT2.p [0,1,2];change TG _ w [_,[cl hb 63 dN],_] _ at T9
   rw [<- hgh] at T9;exact XM (v:=WZ #[.agg #[WK WL f.id,WK WL f.gen,WK WL f.dl,WK WL f.tick],.bool true]) (by simp [results,results167,go_sem,r0,r1,r2,r3]) rfl ⟨_,⟨rfl,rfl⟩,T9.sum⟩
end
end
section
open Go.RowKit Go.Shelf
attribute [local go_sem] XO
def rY:zT:=⟨[],0⟩
def Jy:SW:=.at (some .ready) .fq
theorem qwv (L:Lay):Qa prog 245 #[Qb L.fb] [] fun en gs=>∃ wb g,en=WM (WZ #[Qb wb,WK WS 0])/\uF L wb Jy 0 rY g/\gs=[g]:=by
 have lh:=Vh (show ∀ wb (m d:Value) cB l,(∀ e,fH l e->(wY L wb (XH none)).SV e Jy m d cB)->_ from fun wb m d cB l h=>aZ.iC (LJ L wb (XH none) l) (h l (fun b hb=>hb)));refine GO fun w HT=>?_
 go_enter func245,ntmps245
 go_wp2_with fail
 refine Qa.run (PS L w.heap.size (XH none)) (HT.a 311 (nZ L.fb (XH none) (.slice none 0 0) 0)) [] ?_
 rintro e w1 gs ⟨cB,l,⟨m,d,rfl,hs⟩,rfl⟩ HT;simp only [PU] at HT;have HS:=Vh hs;clear hs;go_wp2_with fail
 refine Qa.run (lh _ _ _ _ _ HS) (HT) [1] ?_
 rintro e w1 gs ⟨pb,rfl,rfl⟩ HT;simp only [PU] at HT;have k1:=HT.c 0 0 1;have fk1:=HT.f 0 0 1;simp only [nZ,aC] at k1;go_wp2
 go_ret2
 exact ⟨_,⟨_,_,rfl,⟨pb,l,m,d,cB,qn w.heap.size L.fb (Qb pb) (.slice none 0 0) 0++([]++l),HS l (fun b hb=>hb),⟨_,[],X5 _ _,rfl⟩,rfl⟩,rfl⟩,(((HT.set 0 0 rfl 1 (Qb pb)).eq (H':=[qn w.heap.size L.fb (Qb pb) (.slice none 0 0) 0,cB,l,aZ.aJ pb m d 0]) rfl).p [3,1,0,2]).sum⟩
def q82 (L:Lay) (n:Nat) (x:Qi) (gC:List ak) (O:GH):A8 where
 σ:=Nat
 O _ O':=O'=O
 T _ H:=∃ i,H.getD i []=gC/\i<H.length
 step k v G k':=k<n/\(∃ wb g,uF L wb Jy 0 rY g/\v=#[Qb wb]/\G=[g])/\k'=k+1
 fin k:=k=n
theorem QW {α:Type}:∀ (l:List (List α)) (i:Nat),i<l.length->l.flatten.Perm (l.getD i []++(l.eraseIdx i).flatten)
 | [],i,h=>absurd h (Nat.not_lt_zero _)
 | a::l,0,_=>List.Perm.refl _
 | a::l,i+1,h=>by
   have ih:=QW l i (Nat.lt_of_succ_lt_succ h)
   show (a++l.flatten).Perm (l.getD i []++(a++(l.eraseIdx i).flatten))
   refine (ih.append_left a).trans ?_
   rw [<- YD,<- YD];exact List.perm_append_comm.append_right _
theorem q8v {P:Program} {f:FuncId} {args:Array Value} {g:List ak} {R:Ending->GH->Prop} (hd:Qa P f args [g] R) {H:GH} {i:Nat} (hi:H.getD i []=g) (hl:i<H.length) {W:World} (hH:Yc H W) :
 Calls P f args W fun e w'=>∃ gs K,R e gs/\TG H W (gs++K) w'/\H.flatten.Perm (g++K.flatten):=by
 have hp:=QW H i hl;rw [hi] at hp;have h2:Yc ([g]++H.eraseIdx i) W:=hH.re (by simpa using hp);refine (hd W h2.left).mono ?_
 rintro e w' ⟨gs,hR,T⟩;exact ⟨gs,_,hR,(T.frame h2).dG (by simpa using hp.symm),hp⟩
theorem qs6 (a b c d e f:Value) (w:World):(Instr.field 30 (.agg #[a,b,c,d,e,f]) 4).run prog w=.ok e w:=by kernel_rfl
theorem qoh (L:Lay) (bx:Nat) {x:Qi} {gC:List ak} (hx:Qf L x gC) {n:Nat} (hn:x.f.cfg.wk=n) (hn2:n<=1000) :
 uy prog 244 #[Qb bx] (q82 L n x gC [[cl bx 25 #[Qb L.fb]]]) (0:Nat):=by
 intro ly J Jx hT hY H0 O0 W hJ0 hO hH;have l8:O0=[[cl bx 25 #[Qb L.fb]]]:=hO;subst l8;have T0:=TG.refl hH;have c0:=(TG.refl hH.right).c 0 0 0;simp only [bR] at c0;obtain ⟨i0,hi0,hl0⟩:=hT (0:Nat) H0 hJ0;have si:=Vh (RE hx);have HB:=Vh (qwv L);have HH:=Vh (XD hJ0 T0);have HY:=Vh hY;have HI:=Vh (XD hi0 hl0);clear hO hH hY hT hJ0 T0 hi0 hl0 hx;refine (XP (n:=9)).1 (callsIn_of_wp func244 rfl trivial ?_ rfl)
 simp only [ntmps244,XU,XB,XK,Nat.reduceAdd,Nat.reduceSub,XQ,XR,XV,XT,XL,XI];gi_wp2
 refine ⟨trivial,(XP (n:=8)).2 ((q8v si (i:=i0) (H:=H0++[[cl bx 25 #[Qb L.fb]]]) (by rw [WO,XX HI.out.2,<- WO];exact HI.1) (by rw [WX];have:=HI.2;omega) HH.2.has).mono ?_)⟩
 rintro e W1 ⟨gs,K,⟨rfl,rfl⟩,T1,hp⟩;have HT1:=Vh (T1.re (H':=H0++[[cl bx 25 #[Qb L.fb]]]) (by simpa using hp.symm));clear T1 hp;have hf4:=qs6 (WK WS x.f.cfg.sh) (WK WS x.f.cfg.cap) (WK WS x.f.cfg.ring) (WK WS x.f.cfg.room) (WK WS n) (WK WS x.f.cfg.cO) W1;unfold Cfg.cells;rw [hn];have Ou:=HH.1;have T0:=Vh (HT1.out);have HJ:=Vh Ou;clear Ou HH HI HT1 c0;gi_wp2
 gi_loopw [8] (fun i wr=>∃ (k:Nat) (H:GH),k<=n/\i=WK WS k/\J k H/\TG (H0++[[cl bx 25 #[Qb L.fb]]]) W (H++[[cl bx 25 #[Qb L.fb]]]) wr) (fun i _=>n+1 - (intOf i).toNat)
 case atStart=>exact ⟨0,H0,by omega,rfl,HJ,T0⟩
 case round =>
  obtain ⟨k,H,hk,rfl,hj,T⟩:=hrel;clear HJ T0 hf4;by_cases hlt:k<n
  ·have a0:=(TG.refl T.has.right).c 0 0 0
   simp only [bR] at a0;have HT:=Vh T;have HK:=Vh hj;clear T hj;gi_wp2
   refine ⟨trivial,(XP (n:=8)).2 ((Qa.use HB HT [] rfl rfl).mono ?_)⟩
   rintro e W1 ⟨gs,⟨wb,g,rfl,hw,rfl⟩,Ta⟩
   have Tb:TG (H0++[[cl bx 25 #[Qb L.fb]]]) W ((H++[g])++[[cl bx 25 #[Qb L.fb]]]) W1:=Ta.re (by
    classical
    refine WV.2 fun a=>?_
    simp only [je,XC,XF,XJ,XE,XG]
    omega)
   have HT2:=Vh Tb;have hy0:=HY.out k #[Qb wb] [g] (k+1) H _ HK ⟨hlt,⟨wb,g,hw,rfl,rfl⟩,rfl⟩ Tb.has.left;obtain ⟨fn,tmps,assign,body,hy,hR⟩:=Zw (n:=8) hy0;have HRR:=Vh hR;clear hy0 hR hw Ta Tb;gi_wp2
   refine HRR.mono ?_
   rintro e W' ⟨H',hT',hj'⟩;have T7:=HT2.trans (hT'.frame HT2.has);have dY:=Vh T7;rcases hj' with ⟨rfl,hj'⟩ | ⟨rfl,hj'⟩
   ·have HJ:=Vh hj'
    clear hT' T7 hj' hy a0;gi_wp2
    go_roundw
    case rel=>exact ⟨k+1,H',by omega,by go_num,HJ,dY⟩
    case measure=>simp [intOf];omega
   ·have HJ:=Vh hj'
    clear hT' T7 hj' hy a0;gi_wp2
    refine XM (YB rfl _ _ _) rfl ?_
    exact ⟨⟨_,rfl⟩,k+1,H',_,dY,.inr HJ⟩
  ·obtain rfl:k=n:=by omega
   have HT:=Vh T;have HK:=Vh hj;clear T hj;gi_wp2
   go_end0
   exact ⟨⟨_,rfl⟩,k,H,_,HT,.inl ⟨rfl,HK,rfl⟩⟩
structure dz where
 wb:Nat
 s:SW
 n:Int
 k:zT
def kX (L:Lay) (l:List dz) (g:List ak):Prop:=Yx (fun (z:dz) g=>uF L z.wb z.s z.n z.k g) l g
def BU (z:dz):Prop:=z.s=Jy/\z.n=0/\z.k=rY
def uD (l:List dz):List Value:=l.map fun z=>Qb z.wb
theorem qte:(prog.info? 269).map (fun i=>(i.zero,i.size,i.bytes))=some (some (XH none),1,8):=by kernel_rfl
theorem q0d (L:Lay):Qa prog 202 #[Qb L.fb] [] fun e gs=>∃ bx,e=WM (WN (WQ 244) #[] #[Qb bx])/\gs=[[cl bx 25 #[Qb L.fb]]]:=by
 refine GO fun w HT=>?_
 go_enter func202,ntmps202
 go_wp2
 go_ret
 exact ⟨_,⟨_,rfl,rfl⟩,(HT.alloc rfl _ _)⟩
theorem q1n {L:Lay} {x:Qi} {gC:List ak} (hx:Qf L x gC) {n:Nat} (hn:x.f.cfg.wk=n) (hn2:n<=1000):Qa prog 162 #[Qb L.fb] [gC] fun e gs =>
 ∃ v gr gW l,e=WM v/\l.length=n/\(∀ z∈l,BU z)/\Q1 269 1 v n (uD l) gr/\kX L l gW/\gs=[gC,gr,gW]:=by
 have HI:=Vh (show ∀ bx,_ from fun bx=>qoh L bx hx hn hn2);have eg:=enters_of func244 (P:=prog) (by kernel_rfl) rfl;refine GO fun w HT=>?_
 clear hx hn;refine Xf func162 rfl ?_
 simp only [ntmps162,XU,XB,XK,Nat.reduceAdd,Nat.reduceSub,XQ,XR,XV,XT,XL,XI];go_wp2_with fail
 obtain ⟨sb,hsb⟩:∃ sb,w.heap.size=sb:=⟨_,rfl⟩;have HT:=Vh (HT.out.alloc (k:=sb) hsb.symm 206 #[.slice none 0 0]);rw [hsb];clear hsb;go_wp2_with fail
 refine Qa.run (q0d L) (HT) [] ?_
 rintro e w1 gs ⟨bx,rfl,rfl⟩ HT;simp only [PU] at HT;have T0:=HT.re (H':=[gC,[cl sb 206 #[.slice none 0 0]],[],[]]++[[cl bx 25 #[Qb L.fb]]]) (by simp);go_wp2_with fail
 refine Bt (H0:=[gC,[cl sb 206 #[.slice none 0 0]],[],[]]) (O0:=[[cl bx 25 #[Qb L.fb]]]) rfl eg (HI bx) ?hps T0 ?hO (fun (k:Nat) H=>∃ v gr gW l,H=[gC,[cl sb 206 #[v]],gr,gW]/\l.length=k/\(∀ z∈l,BU z)/\Q1 269 1 v k (uD l) gr/\kX L l gW) (fun _ _ _=>False) ?h0 ?hT ?hbody ?hdone ?hstop
 case hps=>rintro s x G s' ⟨_,⟨_,_,_,rfl,_⟩,_⟩;rfl
 case hO=>exact rfl
 case h0=>exact ⟨_,[],[],[],rfl,rfl,(by intro z h;cases h),X5 _ _,rfl⟩
 case hT=>rintro s H K ⟨v,gr,gW,l,rfl,_⟩;exact ⟨0,rfl,by simp⟩
 case hbody =>
  rintro (k:Nat) x G (k':Nat) H W ly ⟨v,gr,gW,l,rfl,hl,hnw,hr,hf⟩ ⟨hk,⟨wb,g,hw,rfl,rfl⟩,rfl⟩ hH;have HH:=Vh hH;have HR:=Vh hr;have HF:=Vh (show kX L (l++[⟨wb,Jy,0,rY⟩]) (gW++g) from Yx.snoc hf hw)
  have HN:=Vh (show ∀ z∈l++[⟨wb,Jy,0,rY⟩],BU z from fun z hz=>(YF.1 hz).elim (hnw z) (fun h=>by
   obtain rfl:z=_:=by simpa using h
   exact ⟨rfl,rfl,rfl⟩))
  have HL:=Vh hl;have HP:=Vh (show uD (l++[⟨wb,Jy,0,rY⟩])=uD l++[Qb wb] from by simp [uD]);obtain ⟨av,cap,hv⟩:=Q1.val hr;subst hv;clear hH hr hf hw hnw hl;refine Xq (n:=9) ?_
  gi_wp2
  refine ⟨_,TG.refl HH,fun Wb hb=>?_⟩
  have HT:=Vh (TG.refl hb);have c0:=HT.c 1 0 0;have f0:=HT.f 1 0 0;simp only [bR] at c0;clear hb HH;refine Xq (n:=9) ?_
  have ho1:∀ u∈[Qb wb],u.oneCell'=true:=fun u hu=>by
   obtain rfl:u=Qb wb:=(by simpa using hu);rfl
  have ho2:k+1<=maxLen:=by unfold maxLen;omega
  have ho3:(k+1)*8<=140737488355328:=by omega
  gi_wp2_with (
   gi_at_builtin
   with_reducible refine Jv rfl (.tmp 8) (.tmp 10) 206 rfl 269 1 8 _ underlying206 qte rfl (by decide) (HT.out.aN _) 2 rfl rfl HR.out rfl ⟨Wb.heap.size,0,none⟩ 1 1 [Qb wb] rfl rfl (Za _ _ _) ho1 ho2 ho3 ?_;skip)
  ·intro v1 w2 g1 r1 T1
   have T1:=T1.eq (H':=[gC,[cl sb 206 #[.slice av k cap]],g1,gW,g]) rfl;have c1:=T1.c 1 0 0;have f1:=T1.f 1 0 0;obtain ⟨a1,di,hv1⟩:=Q1.val r1;subst hv1;have T1:=Vh T1;have r1:=Vh r1;simp only [bR] at c1;gi_wp2
   exact ⟨[gC,[cl sb 206 #[.slice a1 (k+1) di]],g1,gW++g],⟨_,_,_,_,rfl,by rw [WX,HL.out];rfl,HN,by rw [HP.out];exact r1.out,HF⟩,(((T1.set 1 0 rfl 0 (.slice a1 (k+1) di)).eq (H':=[gC,[cl sb 206 #[.slice a1 (k+1) di]],g1,gW,g]) rfl).sum)⟩
 case hdone =>
  rintro (k:Nat) H O' W D hf' ⟨v,gr,gW,l,rfl,hl,hnw,hr,hf⟩ hO hT;have hf2:k=n:=hf';subst hf2;have l8:O'=[[cl bx 25 #[Qb L.fb]]]:=hO;subst l8;have c0:=hT.c 1 0 0;simp only [bR] at c0;have HX:=Vh (XD hl (XD hnw (XD hr (XD hf hT))));obtain ⟨av,cap,hv⟩:=Q1.val hr;subst hv;clear hf hO hr hT hl hnw hf';go_wp2
  obtain ⟨hl,hnw,hr,hf,hT⟩:=HX.out;have T3:=hT.bY (.deferred none)
  have T4:TG [gC] w ([gC,gr,gW]++[[cl sb 206 #[.slice av k cap],cl bx 25 #[Qb L.fb],(D,.deferred none)]]) (W.putObj D (.deferred none)):=T3.re (by
   classical
   simp only [XC,XF,XJ,XE,XI,XL];refine WV.2 fun a=>?_
   simp only [XG,List.count_cons,List.count_nil]
   omega)
  exact Z5 (v:=.slice av k cap) hT.has.last (by simp [results,results162,go_sem]) ⟨_,⟨_,gr,gW,l,rfl,hl,hnw,hr,hf,rfl⟩,T4.dropLast⟩
 case hstop=>intro s cd H O W D h;exact h.elim
end
section
open Go.RowKit Go.Shelf
theorem xm {α:Type} {Pr:Program} {f:FuncId} {args:Array Value} {P:α->List ak->Prop} {l:List α} {g:List ak} {k:Nat} {a:α} (hf:Yx P l g) (hk:l[k]?=some a) {rest:GH} {R:Ending->α->GH->Prop}
 (hd:∀ ga,P a ga->Qa Pr f args (ga::rest) fun e gs=>∃ a' l6 bT,R e a' bT/\P a' l6/\gs=l6::bT) :
 Qa Pr f args (g::rest) fun e gs=>∃ a' g' bT,R e a' bT/\Yx P (l.set k a') g'/\gs=g'::bT:=by
 obtain ⟨x,y,hx,hp,hr⟩:=hf.out hk;intro w hw
 have h2:Yc ((x::rest)++[y]) w:=hw.re (by
  classical
  have:=WV.1 hp;refine WV.2 fun b=>?_
  have:=this b;simp only [XC,XF,XJ,XE,XG] at this |-
  omega)
 refine (hd x hx w h2.left).mono ?_
 rintro e w' ⟨gs,⟨a',l6,bT,hR,hP,rfl⟩,T⟩;obtain ⟨g',hg',hp'⟩:=hr a' l6 hP;refine ⟨_,⟨a',g',bT,hR,hg',rfl⟩,((T.frame h2).re (H':=g'::bT) ?_).dG ?_⟩
 ·classical
  have:=WV.1 hp';refine WV.2 fun b=>?_
  have:=this b;simp only [XC,XF,XJ,XE,XG] at this |-;omega
 ·classical
  have:=WV.1 hp;refine WV.2 fun b=>?_
  have:=this b;simp only [XC,XF,XJ,XE,XG] at this |-;omega
theorem q9 {α:Type} {l:List α} {k:Nat} {a:α} (h:l[k]?=some a):l.set k a=l:=by
 obtain ⟨h1,h2⟩:=WW.1 h;subst h2;exact List.set_getElem_self h1
theorem q7w {L:Lay} {l:List dz} {gW:List ak} {k:Nat} {z:dz} (hf:kX L l gW) (hk:l[k]?=some z) (hn:z.k.holds.length<=1000) :
 Qa prog 167 #[Qb z.wb] [gW] fun e gs=>∃ g',e=WM (WZ #[.agg (Gg z.k.holds).vals.toArray,.bool (!z.k.holds.isEmpty)])/\kX L l g'/\gs=[g']:=by
 refine (xm (R:=fun e a' bT=>e=WM (WZ #[.agg (Gg z.k.holds).vals.toArray,.bool (!z.k.holds.isEmpty)])/\a'=z/\bT=[]) hf hk (fun ga hga=>(q3q hga hn).mono ?_)).mono ?_
 ·rintro e gs ⟨rfl,rfl⟩
  exact ⟨z,_,[],⟨rfl,rfl,rfl⟩,hga,rfl⟩
 ·rintro e gs ⟨a',g',bT,⟨rfl,rfl,rfl⟩,hg',rfl⟩
  rw [q9 hk] at hg';exact ⟨g',rfl,hg',rfl⟩
def Zj (l:List dz):Bool:=l.all fun z=>z.k.holds.isEmpty
def Y6 (l:List dz) (p:Qz):Bool:=Zj l && decide ((p.ch.length:Int)+p.sp.length=0)
theorem q6v {l:List dz} {v:Value} {gr:List ak} {n:Nat} (hr:Q1 269 1 v n (uD l) gr) {h H:GH} {w w':World} (T:TG h w H w') (i:Nat) (hg:H.getD i []=gr) (hi:i<H.length) {k:Nat} {z:dz} (hk:l[k]?=some z) :
 ∃ b cap,v=.slice (some ⟨b,0,none⟩) n cap/\w'.cell? ⟨b,k,none⟩=some (Qb z.wb):=by
 have hlen:l.length=n:=by
  have:=hr.1;simpa [uD] using this
 have hkl:=(WW.1 hk).1;obtain ⟨b,cap,cur,hv,hgr,_,_,_,dN⟩:=hr.open (by omega);refine ⟨b,cap,hv,?_⟩
 have:=T.cell i 0 (b:=b) (T:=269) (C:=cur) (by rw [hg,hgr];rfl) k;rw [this,dN k (by omega)]
 show (l.map _)[k]?=_
 rw [YC,hk];rfl
theorem qnh {l:List dz} {k:Nat} {z:dz} (hk:l[k]?=some z) (hh:z.k.holds.isEmpty=false):Zj l=false:=by
 unfold Zj;rw [List.all_eq_false];exact ⟨z,WY hk,by rw [hh];decide⟩
theorem qi3 {l:List dz} {k:Nat} {z:dz} (hk:l[k]?=some z) (hh:z.k.holds.isEmpty=true) (h:Zj (l.take k)=true):Zj (l.take (k+1))=true:=by
 unfold Zj at h |-;obtain ⟨h1,h2⟩:=WW.1 hk;rw [List.take_succ_eq_append_getElem h1,List.all_append,h,h2];simp [hh]
section
variable {L:Lay} {x:Qi} {p:Qz} {l:List dz} {gC gP gr gW:List ak} {n:Nat} {v:Value}
theorem q1o (hx:Qf L x gC) (aW:Z3 L.p.pb p gP) (hch:p.ch.length<=1000000) (hsp:p.sp.length<=1000000) (hr:Q1 269 1 v n (uD l) gr) (hf:kX L l gW) (hn:n<=1000) (hh:∀ z∈l,z.k.holds.length<=1000) :
 Qa prog 120 #[Qb L.fb,v] [gW,gr,gC,gP] fun e gs=>∃ gy,e=WM (.bool (Y6 l p))/\kX L l gy/\gs=[gy,gr,gC,gP]:=by
 have hlen:l.length=n:=by
  have:=hr.1;simpa [uD] using this
 obtain ⟨av,cap,rfl⟩:=Q1.val hr;have hpl:=Td aW ⟨hch,hsp⟩;have Az:=Vh (Ye hx);unfold Y6;generalize (p.ch.length:Int)+p.sp.length=m at *;have o7:=Vh hpl;have HR:=Vh hr;have HF:=Vh hf;have HHH:=Vh hh;have ni:=Vh hlen;refine GO fun w HT=>?_
 clear hx aW hch hsp hr hf hh hlen hpl;go_enter func120,ntmps120
 go_wp2_with fail
 go_loopw [11] (fun i wr=>∃ (k:Nat) (iN:List ak),k<=n/\i=WK WS k/\kX L l iN/\Zj (l.take k)=true/\TG [gW,gr,gC,gP] w [iN,gr,gC,gP] wr) (fun i _=>n+1 - (intOf i).toNat)
 case atStart=>exact ⟨0,gW,by omega,rfl,HF,rfl,HT⟩
 case round =>
  obtain ⟨k,iN,hk,rfl,hf1,hno,T⟩:=hrel;clear HF;by_cases hkl:k<n
  ·obtain ⟨z,hz⟩:∃ z,l[k]?=some z:=⟨_,XA (by have:=ni.out;omega)⟩
   obtain ⟨b,cap2,hv,hb⟩:=q6v HR T 1 rfl (by simp) hz;obtain ⟨rfl,rfl⟩:av=some ⟨b,0,none⟩/\cap=cap2:=by cases hv;exact ⟨rfl,rfl⟩
   obtain ⟨fz,hfz⟩:∃ f,Gg z.k.holds=f:=⟨_,rfl⟩;have Cq:=Vh (q7w hf1 hz (HHH z (WY hz)));rw [hfz,Y4] at Cq;have HZ:=Vh hz;have yI:=Vh hno;have HT:=Vh T;clear hf1 hz hv T hno hfz;cases he:z.k.holds.isEmpty with
   | true =>
     rw [he] at Cq;go_wp2_with fail
     refine Qa.run Cq HT [0] ?_
     rintro e w1 gs ⟨l5,rfl,hf2,rfl⟩ HT;simp only [PU] at HT;have sD:=Vh hf2;have yH:=Vh (qi3 HZ he yI);clear hf2;go_wp2
     first | go_roundw | refine ⟨?rel,?measure⟩ | ((repeat apply Exists.intro);refine ⟨⟨?rel,rfl⟩,?measure⟩)
     case rel=>exact ⟨k+1,l5,by omega,by go_num,sD,yH,HT.aN _⟩
     case measure=>simp [intOf];omega
   | false =>
     rw [he] at Cq;go_wp2_with fail
     refine Qa.run Cq HT [0] ?_
     rintro e w1 gs ⟨l5,rfl,hf2,rfl⟩ HT;simp only [PU] at HT;have sD:=Vh hf2;have yH:=Vh (qnh HZ he);clear hf2;go_wp2
     go_ret
     exact ⟨_,⟨l5,by rw [yH.out];rfl,sD,rfl⟩,HT.aN _⟩
  ·have hkn:k=n:=by omega
   subst hkn
   have wP:Zj l=true:=by
    have:=ni.out;rw [List.take_of_length_le (by omega)] at hno;exact hno
   have sD:=Vh hf1;have HT:=Vh T;clear hf1 T hno;by_cases hm:m=0
   ·have HD:=Vh (show (Zj l && decide (m=0))=true from by rw [wP,hm];rfl)
    have hmb:(m == 0)=true:=by rw [hm];rfl
    clear wP;go_wp2_with fail
    refine Qe.run Az HT [2] ?_
    rintro e wq rfl HT;go_wp2_with fail
    refine Qe.run o7 HT [3] ?_
    rintro e wq rfl HT;go_wp2
    go_ret
    exact ⟨_,⟨_,by rw [HD.out];rfl,sD,rfl⟩,HT⟩
   ·have hd:decide (m=0)=false:=decide_eq_false hm
    have HD:=Vh (show (Zj l && decide (m=0))=false from by rw [wP,hd];rfl);have hmb:(m == 0)=false:=by simpa using hm
    clear wP hd;go_wp2_with fail
    refine Qe.run Az HT [2] ?_
    rintro e wq rfl HT;go_wp2_with fail
    refine Qe.run o7 HT [3] ?_
    rintro e wq rfl HT;go_wp2
    go_ret
    exact ⟨_,⟨_,by rw [HD.out];rfl,sD,rfl⟩,HT⟩
end
end
end Go.Proofs.YtcneeepdclgdcaaGreat
