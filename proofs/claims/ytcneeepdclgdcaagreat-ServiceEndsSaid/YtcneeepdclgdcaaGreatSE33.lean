import Derived.Test.YtcneeepdclgdcaaGreatSE32
import Derived.Test.YtcneeepdclgdcaaGreatSE23
import Derived.Test.YtcneeepdclgdcaaGreatSE14
import Derived.Test.YtcneeepdclgdcaaGreatSE16
import Derived.Test.YtcneeepdclgdcaaGreatSE28
import Derived.Deep.LoopGhost
import Derived.Conc.LoneCalls
import Derived.Test.YtcneeepdclgdcaaGreatSE24
set_option maxRecDepth 100000
set_option maxHeartbeats 4000000
namespace Go.Proofs.YtcneeepdclgdcaaGreat
open Go.Value renaming int->U1,func->U4,nilFunc->U7,tuple->UF,pointer->UN
open Go.IntKind renaming u64->U2,i64->U8
open Go.Ending renaming returned->U3
open _root_.List renaming getD_eq_getElem?_getD->U5,mem_or_eq_of_mem_set->U9,length_set->UA,perm_iff_count->UB,getElem?_eq_some_iff->UC,length_append->UD,mem_of_getElem?->UE,getElem?_eq_getElem->UG,length_cons->UH,flatten_append->UI,append_nil->UK,flatten_cons->UL,count_append->UM,cons_append->UO,flatten_nil->UQ,length_nil->UR,nil_append->US,length_map->UU,append_toArray->V6,size_toArray->V7,push_toArray->V8,getElem?_append_left->Va,set_cons_zero->Vd,set_cons_succ->Ve,getElem?_map->Vg,append_assoc->Vi,getElem_mem->Vj,mem_append->Vk,mem_map->Vl
open Go.Fn renaming func->U6
open _root_.And renaming intro->UJ
open Go renaming bodyPost_ret->UT,callsIn_wide->UX,results_none->Vf
open Go.Oper renaming semAt_some->UW
open _root_.Array renaming replicate_succ->UY,replicate_zero->UZ
open _root_.Decidable renaming byContradiction->V9
open _root_.Bool renaming and_eq_true->Vb
open _root_.Nat renaming zero_le->Vm
open Go.World renaming alloc->Vn
set_option linter.all false
open Go.Proofs.Tryz
section
open Go.RowKit Go.Shelf
def q8z (t:Qp):Prop:=Je t/\0<=t.slot
structure zB (N:Nat) (k:Xi) (x:Qi):Prop where
 th:0<=k.th
 aB:0<=k.aB/\k.aB<18446744073709551616/\okW k.aB=true
 t:Je k.t
 dl:k.due.length<=N
 due:∀ t∈k.due,q8z t
 sh:∀ i,k.s=some i->i<x.au.length
def I7 (ws:List Qg):Prop:=∀ w∈ws,fQ (fun e=>0<=e.v.slot) w
structure TB (N:Nat) (z:ZT):Prop where
 core:Zi N z.x
 rest:zA N z.x z.ws z.p
 k:zB N z.k z.x
 ws:I7 z.ws
 iT:z.x.au.length<=4
def nX (s:ST) (k:Xi):Prop:=match s with
 | .at none .looks=>0<=k.t.slot
 | .at none .bE=>0<=k.t.slot
 | .thn (.aj (.put _)) .bD=>0<=k.t.slot
 | .at none .behind=>0<=k.t.slot
 | .at none (.aY next)=>0<=k.t.slot/\0<=next/\next<18446744073709551616/\k.t.gen<=4294967295
 | .at none .aQ=>0<=k.t.slot
 | .aO .rel .drop=>0<=k.t.slot
 | .aj .drop=>0<=k.t.slot
 | _=>False
def yI (s:ST) (k:Xi) (i:Nat):Prop:=match s with
 | .at (some (.ready j)) (.bI n)=>j=i/\0<=n/\n<=1000000
 | .thn (.at none .bA) (.ax n)=>0<=k.t.slot/\0<=n/\n<=1000000
 | .thn (.at none .aI) (.ax n)=>0<=k.t.slot/\0<=n/\n<=1000000
 | _=>False
def Own (k:Xi) (x:Qi):Prop:=(x.au.getD (k.s.getD 0) (Qr 1)).who=k.th+1
def kG (s:ST) (k:Xi) (x:Qi) (i:Nat):Prop:=match s with
 | .at (some .lock) (.dH d)=>j5 d k
 | .at none (.bX d)=>j5 d k/\Own k x
 | .thn (.aj (.bG d)) (.aL e)=>j5 d k/\e=d/\Own k x
 | .thn P (.ai d)=>j5 d k/\Own k x/\yI P k i
 | .thn (.thn G (.aF d n)) .ay=>j5 d k/\Own k x/\n<=1000000/\n<k.due.length/\nX G k
 | .aj .unlock=>Own k x
 | _=>False
where j5 (d:Nat) (k:Xi):Prop:=k.nd=d+1
def qT (s:ST) (k:Xi) (x:Qi):Prop:=match s with
 | .nil=>True
 | .at none .enter=>x.f.closed=true\/k.th<=1000000
 | .at none .gate=>x.f.closed=true\/k.th<=1000000
 | .at none .tick=>k.th<=1000000
 | .aO .leave1 .answer=>True
 | .aj .answer=>True
 | .thn X (.ae i)=>k.s=some i/\i<x.au.length/\k.th<=1000000/\kG X k x i
 | _=>False
structure JT (N:Nat) (s:ST) (z:ZT):Prop where
 b:TB N z
 fit:qT s z.k z.x
theorem zB.mono {N M:Nat} {k:Xi} {x:Qi} (h:zB N k x) (hm:N<=M):zB M k x:=⟨h.th,h.aB,h.t,by have:=h.dl;omega,h.due,h.sh⟩
theorem TB.mono {N M:Nat} {z:ZT} (h:TB N z) (hm:N<=M):TB M z:=⟨h.core.mono hm,h.rest.mono hm,h.k.mono hm,h.ws,h.iT⟩
section
variable {N:Nat} {z:ZT}
theorem TB.ok (h:TB N z) (hN:N<1000000):wu z :=
 ⟨h.core.ok (by omega),h.k.th,by have:=h.rest.now;omega,h.k.aB,h.k.t,by have:=h.k.dl;omega,h.rest.wl,fun w hw=>(h.rest.kK w hw).ok hN,h.k.sh,fun s hs=>by have:=h.rest.turns s hs;omega,⟨h.rest.ch,by have:=h.rest.sp;omega⟩⟩
theorem TB.lV (h:TB N z) {k:Xi} (hk:zB N k z.x):TB N { z with k:=k }:=⟨h.core,h.rest,hk,h.ws,h.iT⟩
theorem TB.note (h:TB N z) (E:EvS):TB (N+1) (z.note E):=by
 have h1:=h.rest.mono (M:=N+1) (by omega);have h2:=h.k.mono (M:=N+1) (by omega);exact ⟨Fb h.core _,⟨h1.now,h1.busy,h1.cap,h1.wl,h1.kK,h1.task,h1.turns,h1.ch,h1.sp⟩,⟨h2.th,h2.aB,h2.t,h2.dl,h2.due,h2.sh⟩,h.ws,h.iT⟩
theorem TB.aa (h:TB N z) {s:Qj} (hs:Xh s) (hl:s.recs.length=z.x.aa.recs.length):TB N { z with x:={ z.x with aa:=s } }:=by
 have h1:=h.rest;exact ⟨Am h.core hs,⟨h1.now,h1.busy,by show z.x.f.cfg.cap=(s.recs.length:Int);rw [hl];exact h1.cap,h1.wl,h1.kK,h1.task,h1.turns,h1.ch,h1.sp⟩,⟨h.k.th,h.k.aB,h.k.t,h.k.dl,h.k.due,h.k.sh⟩,h.ws,h.iT⟩
theorem TB.look (h:TB N z) (st:Int):TB N (Qs st z).1:=h.lV ⟨h.k.th,Y4 h.core.aa _,h.k.t,h.k.dl,h.k.due,h.k.sh⟩
theorem TB.try (h:TB N z) (ev:Int):TB N (Qk ev z).1:=by
 obtain ⟨a,b⟩:=sK h.core.aa z.k.t.slot z.k.aB ev;exact h.aa a b
theorem Te (h:TB N z) {i:Nat} (hi:z.k.s=some i):z.aW∈z.x.au/\z.sh=i:=by
 have hlt:=h.k.sh i hi;have e:z.sh=i:=by unfold ZT.sh;rw [hi];rfl
 refine ⟨?_,e⟩
 unfold ZT.aW;rw [e,U5,UG hlt];exact Vj hlt
theorem q24 (h:TB N z) {i:Nat} (hi:z.k.s=some i):z.wh∈z.ws:=by
 have hlt:=h.k.sh i hi;have e:z.sh=i:=by unfold ZT.sh;rw [hi];rfl
 have hw:i<z.ws.length:=by rw [h.rest.wl];exact hlt
 unfold ZT.wh;rw [e,U5,UG hw];exact Vj hw
theorem TB.dh (h:TB N z) {s:Qu} (h1:lG (N+1) s.ring) (h2:∀ e∈s.ring.slots,Je e.v) (h3:0<=s.turns/\s.turns<=N+1):TB (N+1) (z.dh s):=by
 have hr:=h.rest.mono (M:=N+1) (by omega);have hk:=h.k.mono (M:=N+1) (by omega);have hc:=h.core.mono (M:=N+1) (by omega)
 refine ⟨⟨hc.aa,hc.i0,hc.i1,hc.tr,by show 1<=(z.x.au.set z.sh s).length;rw [UA];exact hc.sh,Lf hc.ring h1⟩,⟨hr.now,hr.busy,hr.cap,by show z.ws.length=(z.x.au.set z.sh s).length;rw [UA];exact hr.wl,hr.kK,fun a ha=>?_,fun a ha=>?_,hr.ch,hr.sp⟩,
  ⟨hk.th,hk.aB,hk.t,hk.dl,hk.due,fun i hi=>by show i<(z.x.au.set z.sh s).length;rw [UA];exact hk.sh i hi⟩,h.ws,by show (z.x.au.set z.sh s).length<=4;rw [UA];exact h.iT⟩
 ·rcases U9 ha with ha | rfl
  ·exact hr.task a ha
  ·exact h2
 ·rcases U9 ha with ha | rfl
  ·exact hr.turns a ha
  ·exact_mod_cast h3
theorem TB.CW (h:TB N z) {w:Qg} (h1:xA (N+1) w) (h2:fQ (fun e=>0<=e.v.slot) w):TB (N+1) { z with ws:=z.ws.set z.sh w }:=by
 have hr:=h.rest.mono (M:=N+1) (by omega);refine ⟨h.core.mono (M:=N+1) (by omega),⟨hr.now,hr.busy,hr.cap,by show (z.ws.set z.sh w).length=_;rw [UA];exact hr.wl,fun a ha=>?_,hr.task,hr.turns,hr.ch,hr.sp⟩,h.k.mono (M:=N+1) (by omega),fun a ha=>?_,h.iT⟩
 ·rcases U9 ha with ha | rfl
  ·exact hr.kK a ha
  ·exact h1
 ·rcases U9 ha with ha | rfl
  ·exact h.ws a ha
  ·exact h2
theorem q3h {w:Qg} {t:Qp} (ht:Je t) (hn:w.now<1000000):(jE w t:Int)<18446744073709551616:=by
 have:=ht.dl;unfold jE;omega
theorem q85 (h:TB N z) (hN:N<1000000) {i:Nat} (hi:z.k.s=some i) (hs:0<=z.k.t.slot):TB (N+1) { z with ws:=z.ws.set z.sh (z.wh.place (mO z.wh z.k.t)) }:=by
 have hm:=q24 h hi;have hw:=h.rest.kK _ hm;have hd:=q3h (w:=z.wh) h.k.t (by have:=hw.now;omega);refine h.CW ⟨Qg.jX hw.sh _,?_,?_,hw.Hw.place ⟨h.k.t.id,h.k.t.gen,⟨Int.natCast_nonneg _,hd⟩,h.k.t.per⟩⟩ ((h.ws _ hm).place hs)
 ·have e:(z.wh.place (mO z.wh z.k.t)).now=z.wh.now:=Qg.iL [mO z.wh z.k.t] z.wh
  rw [e];have:=hw.now;omega
 ·rw [qw hw.sh];have:=hw.tot;omega
theorem q7q {N:Int} {r:Qz} (h:lG N r):lG (N+1) (J3 r).1:=by
 unfold J3;split
 ·exact ⟨by simp only [UA];exact h.n0,by simp only [UA];exact h.n1,h.t0,by have:=h.t1;simp only;omega,by have:=h.h0;simp only;omega,by have:=h.h1;simp only;omega⟩
 ·exact h.mono (by omega)
theorem IY:Je Qp.zero:=⟨by decide,by decide,by decide,by decide⟩
theorem q7r {r:Qz} (h:∀ e∈r.slots,Je e.v):(∀ e∈(J3 r).1.slots,Je e.v)/\Je (J3 r).2.1:=by
 have hz:=IY
 have hs:Je (r.slot r.head).v:=by
  unfold Qz.slot;rw [U5];cases h1:r.slots[r.at r.head]? with
  | none=>exact hz
  | some e=>exact h e (UE h1)
 unfold J3;split
 ·refine ⟨fun e he=>?_,hs⟩
  rcases U9 he with he | rfl
  ·exact h e he
  ·exact hz
 ·exact ⟨h,hz⟩
end
structure uK (z z':ZT):Prop where
 s:z'.k.s=z.k.s
 nd:z'.k.nd=z.k.nd
 th:z'.k.th=z.k.th
 due:z'.k.due=z.k.due
 who:∀ j,(z'.x.au.getD j (Qr 1)).who=(z.x.au.getD j (Qr 1)).who
 len:z'.x.au.length=z.x.au.length
theorem uK.refl (z:ZT):uK z z:=⟨rfl,rfl,rfl,rfl,fun _=>rfl,rfl⟩
theorem uK.own {z z':ZT} (h:uK z z') (ho:Own z.k z.x):Own z'.k z'.x:=by
 unfold Own at ho |-;rw [h.s,h.th,h.who];exact ho
theorem KW {α:Type} (l:List α) (i j:Nat) (a d:α) (hi:i<l.length):(l.set i a).getD j d=if i=j then a else l.getD j d:=by
 rw [U5,List.getElem?_set,U5];by_cases h:i=j
 ·subst h;simp [hi]
 ·simp [h]
section
variable {N:Nat} {z:ZT} {i:Nat}
theorem uK.dh {z':ZT} (h:uK z z') (s:Qu) (hs:s.who=z'.aW.who) (hi:z'.k.s=some i) (hlt:i<z'.x.au.length):uK z (z'.dh s):=by
 refine ⟨h.s,h.nd,h.th,h.due,fun j=>?_,by show (z'.x.au.set z'.sh s).length=_;rw [UA];exact h.len⟩
 have e:z'.sh=i:=by unfold ZT.sh;rw [hi];rfl
 show ((z'.x.au.set z'.sh s).getD j (Qr 1)).who=_
 rw [KW _ _ _ _ _ (by rw [e];exact hlt),<- h.who];split
 ·next hj=>rw [hs,<- hj];rfl
 ·rfl
theorem TB.xh (h:TB N z) (ht:z.x.tr.length+1<=N) (E:EvS):TB N (z.note E):=by
 have hc:=h.core;have h1:=h.rest;exact ⟨⟨hc.aa,hc.i0,hc.i1,by show (z.x.tr++[_]).length<=_;rw [UD];exact ht,hc.sh,hc.ring⟩,⟨h1.now,h1.busy,h1.cap,h1.wl,h1.kK,h1.task,h1.turns,h1.ch,h1.sp⟩,⟨h.k.th,h.k.aB,h.k.t,h.k.dl,h.k.due,h.k.sh⟩,h.ws,h.iT⟩
theorem NF (h:TB N z) (hN:N<1000000) (hi:z.k.s=some i) (hs:0<=z.k.t.slot):TB (N+1) (jy z) :=
 (q85 h hN hi hs).xh (by have:=h.core.tr;show z.x.tr.length+1<=N+1;omega) _
theorem q9m (h:TB N z) (f:Xj):TB (N+1) { z with p:=(z.p.put f).1 }:=by
 have h0:=h.mono (M:=N+1) (by omega);have h1:=h0.rest;have h2:=h.rest;refine ⟨h0.core,⟨h1.now,h1.busy,h1.cap,h1.wl,h1.kK,h1.task,h1.turns,?_,?_⟩,h0.k,h0.ws,h0.iT⟩
 ·unfold Q2.put
  split
  ·exact h1.ch
  ·split
   ·next hh=>simp only [UD,UH,UR];omega
   ·exact h1.ch
 ·unfold Q2.put
  split
  ·exact h1.sp
  ·split
   ·exact h1.sp
   ·simp only [UD,UH,UR];have:=h2.sp;omega
theorem q68 {w:Int} (hk:okW w=true):Xv w<=4294967295:=by
 unfold Xv;rw [if_pos hk];simp only [okW,Vb,decide_eq_true_eq] at hk;omega
abbrev iR (s:ST) (z:ZT):ST × ZT:=St.run runT Q6 s z
abbrev yN (s:ST) (z:ZT):Prop:=St.pre runT Q6 jZ uN s z
structure qU (N:Nat) (z:ZT) (F:ST->Xi->Prop) (r:ST × ZT):Prop where
 b:TB (N+1) r.2
 same:uK z r.2
 fit:r.1=.nil\/F r.1 r.2.k
theorem stepG (h:TB N z) (hN:N<999999) (hi:z.k.s=some i) {G:ST} (hf:nX G z.k):yN G z/\qU N z nX (iR G z):=by
 have ho:=h.ok (by omega);have h1:=h.mono (M:=N+1) (by omega)
 match G,hf with
 | .at none .looks,hf =>
   refine ⟨⟨ho,trivial⟩,?_⟩
   show qU N z nX (if (Qs 3 z).2=true then (.at none .bE,(Qs 3 z).1) else (.nil,(Qs 3 z).1))
   split
   ·exact ⟨h1.look 3,⟨rfl,rfl,rfl,rfl,fun _=>rfl,rfl⟩,.inr hf⟩
   ·exact ⟨h1.look 3,⟨rfl,rfl,rfl,rfl,fun _=>rfl,rfl⟩,.inl rfl⟩
 | .at none .bE,hf =>
   refine ⟨⟨ho,trivial⟩,?_⟩
   show qU N z nX (if (Qk 4 z).2=true then _ else _)
   split
   ·exact ⟨(h.try 4).note _,⟨rfl,rfl,rfl,rfl,fun _=>rfl,rfl⟩,.inr hf⟩
   ·exact ⟨h1.try 4,⟨rfl,rfl,rfl,rfl,fun _=>rfl,rfl⟩,.inr hf⟩
 | .thn (.aj (.put f)) .bD,hf =>
   have hp:=q9m h f;exact ⟨⟨⟨ho,trivial⟩,fun _=>⟨hp.ok (by omega),trivial⟩⟩,⟨hp,⟨rfl,rfl,rfl,rfl,fun _=>rfl,rfl⟩,.inr hf⟩⟩
 | .at none .behind,hf =>
   refine ⟨⟨ho,trivial⟩,?_⟩
   have hw:=Y4 h.core.aa z.k.t.slot;have hb:TB (N+1) { z with k:={ z.k with aB:=z.x.aa.word z.k.t.slot } }:=h1.lV ⟨h1.k.th,hw,h1.k.t,h1.k.dl,h1.k.due,h1.k.sh⟩;have hd:=h.k.t.dl;have hpr:=h.k.t.per
   show qU N z nX (if bB (z.x.aa.word z.k.t.slot)≠4\/Xv (z.x.aa.word z.k.t.slot)≠z.k.t.gen then _ else if _ then _ else _)
   split
   ·exact ⟨hb,⟨rfl,rfl,rfl,rfl,fun _=>rfl,rfl⟩,.inl rfl⟩
   ·next hg =>
    split
    ·next hc =>
     have hgb:=q68 hw.2.2;have e:Xv (z.x.aa.word z.k.t.slot)=z.k.t.gen:=V9 fun h=>hg (.inr h)
     exact ⟨hb,⟨rfl,rfl,rfl,rfl,fun _=>rfl,rfl⟩,.inr ⟨hf,by omega,hc.2.2,by show z.k.t.gen<=_;omega⟩⟩
    ·exact ⟨hb,⟨rfl,rfl,rfl,rfl,fun _=>rfl,rfl⟩,.inr hf⟩
 | .at none (.aY next),hf =>
   obtain ⟨hs,hn0,hn1,hg⟩:=hf;refine ⟨⟨ho,⟨i,hi⟩,hs,hn0,hn1⟩,?_⟩
   show qU N z nX (if (Qk 5 z).2=true then _ else _)
   split
   ·have ht:=h.try 5
    have hb:TB N { (Qk 5 z).1 with k:={ z.k with t:={ z.k.t with gen:=z.k.t.gen+1,dl:=next } } } :=
     ht.lV ⟨h.k.th,h.k.aB,⟨h.k.t.id,by have:=h.k.t.gen;show 0<=z.k.t.gen+1/\z.k.t.gen+1<=_;omega,⟨hn0,hn1⟩,h.k.t.per⟩,h.k.dl,h.k.due,h.k.sh⟩
    exact ⟨NF hb (by omega) hi hs,⟨rfl,rfl,rfl,rfl,fun _=>rfl,rfl⟩,.inl rfl⟩
   ·exact ⟨h1.try 5,⟨rfl,rfl,rfl,rfl,fun _=>rfl,rfl⟩,.inr hs⟩
 | .at none .aQ,hf =>
   refine ⟨⟨ho,trivial⟩,?_⟩
   show qU N z nX (if (Qk 9 z).2=true then (_,if _ then _ else _) else _)
   split
   ·split
    ·exact ⟨(h.try 9).note _,⟨rfl,rfl,rfl,rfl,fun _=>rfl,rfl⟩,.inr hf⟩
    ·exact ⟨h1.try 9,⟨rfl,rfl,rfl,rfl,fun _=>rfl,rfl⟩,.inr hf⟩
   ·exact ⟨h1.try 9,⟨rfl,rfl,rfl,rfl,fun _=>rfl,rfl⟩,.inr hf⟩
 | .aO .rel .drop,hf =>
   obtain ⟨a,b⟩:=sK h1.core.aa z.k.t.slot (z.x.aa.word z.k.t.slot) 10;exact ⟨⟨ho,trivial⟩,⟨h1.aa a b,⟨rfl,rfl,rfl,rfl,fun _=>rfl,rfl⟩,.inr hf⟩⟩
 | .aj .drop,hf =>
   obtain ⟨a,b⟩:=D5 h1.core.aa;exact ⟨⟨ho,trivial⟩,⟨h1.aa a b,⟨rfl,rfl,rfl,rfl,fun _=>rfl,rfl⟩,.inl rfl⟩⟩
theorem FC (hi:z.k.s=some i) {n:Int} (hn:n<=1000000) (k:Xi):Q5 n z=.nil\/yI (Q5 n z) k i:=by
 have e:z.sh=i:=by unfold ZT.sh;rw [hi];rfl
 unfold Q5;split
 ·exact .inl rfl
 ·exact .inr ⟨e,by omega,hn⟩
def uP (z:ZT):ZT:={ (z.dh { z.aW with ring:=(J3 z.aW.ring).1 }) with k:={ z.k with t:=(J3 z.aW.ring).2.1 } }
theorem q7s (h:TB N z) (hi:z.k.s=some i):TB (N+1) (uP z)/\uK z (uP z):=by
 obtain ⟨hm,he⟩:=Te h hi;have hr:=h.core.ring _ hm;obtain ⟨t1,t2⟩:=q7r (h.rest.task _ hm);have hb:=h.dh (s:={ z.aW with ring:=(J3 z.aW.ring).1 }) (q7q hr) t1 (by have:=h.rest.turns _ hm;show 0<=z.aW.turns/\z.aW.turns<=_;omega)
 exact ⟨hb.lV ⟨hb.k.th,hb.k.aB,t2,hb.k.dl,hb.k.due,hb.k.sh⟩,(by
  have hs:=(uK.refl z).dh { z.aW with ring:=(J3 z.aW.ring).1 } rfl hi (h.k.sh i hi)
  exact ⟨hs.s,hs.nd,hs.th,hs.due,hs.who,hs.len⟩)⟩
theorem IL (h:TB N z) (hN:N<999999) (hi:z.k.s=some i) {P:ST} (hf:yI P z.k i):yN P z/\qU N z (fun s k=>yI s k i) (iR P z):=by
 have ho:=h.ok (by omega);have h1:=h.mono (M:=N+1) (by omega)
 match P,hf with
 | .at (some (.ready j)) (.bI n),hf =>
   obtain ⟨hb,hs⟩:=q7s h hi;obtain ⟨rfl,hn0,hn1⟩:=hf;have e2:(runT (.bI n) z).2=uP z:=by dsimp only [runT,uP];split <;> rfl
   refine ⟨⟨ho,⟨j,hi⟩,hn0,hn1,by rw [e2];exact hb.ok (by omega)⟩,?_⟩
   show qU N z _ (if (uP z).k.t.slot<0 then (Q5 (n - 1) (uP z),uP z) else (.thn (.at none .bA) (.ax n),uP z))
   split
   ·exact ⟨hb,hs,FC (z:=uP z) hi (by omega) _⟩
   ·next hh=>exact ⟨hb,hs,.inr ⟨by show 0<=(uP z).k.t.slot;omega,hn0,hn1⟩⟩
 | .thn (.at none .bA) (.ax n),hf =>
   obtain ⟨hs,hn0,hn1⟩:=hf;have hl:=h1.look 2;refine ⟨⟨⟨ho,trivial⟩,fun _=>⟨?_,?_,hn0,hn1⟩⟩,?_⟩
   ·show wu (if (Qs 2 z).2=true then (.at none .aI,(Qs 2 z).1) else (.nil,(Qs 2 z).1):ST × ZT).2
    split <;> exact hl.ok (by omega)
   ·show lD (if (Qs 2 z).2=true then (.at none .aI,(Qs 2 z).1) else (.nil,(Qs 2 z).1):ST × ZT).2
    split <;> exact ⟨i,hi⟩
   ·show qU N z _ (Qe runT (if (Qs 2 z).2=true then (.at none .aI,(Qs 2 z).1) else (.nil,(Qs 2 z).1):ST × ZT).1 (.ax n) (if (Qs 2 z).2=true then (.at none .aI,(Qs 2 z).1) else (.nil,(Qs 2 z).1):ST × ZT).2)
    split
    ·exact ⟨hl,⟨rfl,rfl,rfl,rfl,fun _=>rfl,rfl⟩,.inr ⟨hs,hn0,hn1⟩⟩
    ·exact ⟨hl,⟨rfl,rfl,rfl,rfl,fun _=>rfl,rfl⟩,FC (z:=(Qs 2 z).1) hi (by omega) _⟩
 | .thn (.at none .aI) (.ax n),hf =>
   obtain ⟨hs,hn0,hn1⟩:=hf;have ht:=h.try 3;have ha:=NF ht (by omega) hi hs;have h2:=h1.try 3;have er:Qx (Qk 3 z).1=.at none .bA:=if_neg (by show ¬ z.k.t.slot<0;omega);refine ⟨⟨⟨ho,⟨i,hi⟩,hs⟩,fun _=>⟨?_,?_,hn0,hn1⟩⟩,?_⟩
   ·show wu (if (Qk 3 z).2=true then (.nil,jy (Qk 3 z).1) else (Qx (Qk 3 z).1,(Qk 3 z).1):ST × ZT).2
    split
    ·exact ha.ok (by omega)
    ·exact h2.ok (by omega)
   ·show lD (if (Qk 3 z).2=true then (.nil,jy (Qk 3 z).1) else (Qx (Qk 3 z).1,(Qk 3 z).1):ST × ZT).2
    split <;> exact ⟨i,hi⟩
   ·show qU N z _ (Qe runT (if (Qk 3 z).2=true then (.nil,jy (Qk 3 z).1) else (Qx (Qk 3 z).1,(Qk 3 z).1):ST × ZT).1 (.ax n) (if (Qk 3 z).2=true then (.nil,jy (Qk 3 z).1) else (Qx (Qk 3 z).1,(Qk 3 z).1):ST × ZT).2)
    split
    ·exact ⟨ha,⟨rfl,rfl,rfl,rfl,fun _=>rfl,rfl⟩,FC (z:=jy (Qk 3 z).1) hi (by omega) _⟩
    ·rw [er]
     exact ⟨h2,⟨rfl,rfl,rfl,rfl,fun _=>rfl,rfl⟩,.inr ⟨hs,hn0,hn1⟩⟩
structure uR (N:Nat) (z:ZT) (i:Nat) (r:ST × ZT):Prop where
 b:TB (N+1) r.2
 s:r.2.k.s=some i
 len:r.2.x.au.length=z.x.au.length
 th:r.2.k.th=z.k.th
 fit:r.1=.nil\/kG r.1 r.2.k r.2.x i
theorem Rl {z':ZT} (hb:TB (N+1) z') (hs:z'.k.s=some i) (hl:z'.x.au.length=z.x.au.length) (ht:z'.k.th=z.k.th) {d:Nat} (hc:kG.j5 d z'.k) (ho:Own z'.k z'.x):uR N z i (J0 d z') :=
 ⟨hb,hs,hl,ht,.inr ⟨hc,rfl,ho⟩⟩
theorem L6 {z':ZT} (hb:TB (N+1) z') (hN:N<999999) (hs:z'.k.s=some i) (hl:z'.x.au.length=z.x.au.length) (hth:z'.k.th=z.k.th) {d n:Nat} (hc:kG.j5 d z'.k) (ho:Own z'.k z'.x) (hn:n<=z'.k.due.length) :
 ((Qo d n z').1=.nil/\(Qo d n z').2=z')\/∃ t,z'.k.due[n]?=some t/\Qo d n z'=(.thn (.at none .looks) (.aF d n),{ z' with k:={ z'.k with t:=t } })/\uR N z i (.thn (Qo d n z').1 .ay,(Qo d n z').2):=by
 unfold Qo;cases ht:z'.k.due[n]? with
 | none=>exact .inl ⟨rfl,rfl⟩
 | some t =>
   have hlt:=(UC.1 ht).1;have Ns:=hb.k.due t (UE ht);exact .inr ⟨t,rfl,rfl,hb.lV ⟨hb.k.th,hb.k.aB,Ns.1,hb.k.dl,hb.k.due,hb.k.sh⟩,hs,hl,hth,.inr ⟨hc,ho,by have:=hb.k.dl;omega,hlt,Ns.2⟩⟩
theorem q0o {P:ST} {k:Xi} {i:Nat} (h:yI P k i):P.isNil=false:=by
 cases P <;> first | rfl | exact h.elim
theorem QK {G:ST} {k:Xi} (h:nX G k):G.isNil=false:=by
 cases G <;> first | rfl | exact h.elim
theorem Fy {M A Y α:Type} {runM:M->α->St M A Y × α} {s:St M A Y} (h:s.isNil=false) (m:M) (x:α):Qe runM s m x=(.thn s m,x):=by
 cases s <;> first | rfl | cases h
theorem qy3 {P:ST} {d:Nat} {k:Xi} {x:Qi} {i:Nat} (hc:kG.j5 d k) (ho:Own k x) (h:yI P k i):kG (.thn P (.ai d)) k x i:=by
 match P,h with
 | .at (some (.ready j)) (.bI n),h=>exact ⟨hc,ho,h⟩
 | .thn (.at none .bA) (.ax n),h=>exact ⟨hc,ho,h⟩
 | .thn (.at none .aI) (.ax n),h=>exact ⟨hc,ho,h⟩
theorem JG (h:TB N z) (hN:N<999999) (hi:z.k.s=some i) {d:Nat} (hc:kG.j5 d z.k) (ho:Own z.k z.x) {P:ST} (q1:yN P z) (q2:qU N z (fun s k=>yI s k i) (iR P z)) :
 yN (.thn P (.ai d)) z/\uR N z i (iR (.thn P (.ai d)) z):=by
 refine ⟨⟨q1,fun _=>⟨q2.b.ok (by omega),⟨i,q2.same.s.trans hi⟩,q2.same.nd.trans hc⟩⟩,?_⟩
 show uR N z i (Qe runT (iR P z).1 (.ai d) (iR P z).2)
 rcases q2.fit with hn | hf
 ·rw [hn]
  exact Rl q2.b (q2.same.s.trans hi) q2.same.len q2.same.th (q2.same.nd.trans hc) (q2.same.own ho)
 ·rw [Fy (q0o hf)]
  exact ⟨q2.b,q2.same.s.trans hi,q2.same.len,q2.same.th,.inr (qy3 (q2.same.nd.trans hc) (q2.same.own ho) hf)⟩
theorem q66 (h:TB N z) (hN:N<999999) (hi:z.k.s=some i) {d n:Nat} (hc:kG.j5 d z.k) (ho:Own z.k z.x) (hn:n<=1000000) (hnd:n<z.k.due.length) {G:ST} (q1:yN G z) (q2:qU N z nX (iR G z)) :
 yN (.thn (.thn G (.aF d n)) .ay) z/\uR N z i (iR (.thn (.thn G (.aF d n)) .ay) z):=by
 have hs:=q2.same.s.trans hi;have hcc:kG.j5 d (iR G z).2.k:=q2.same.nd.trans hc;have EZ:=q2.same.own ho;have hle:n+1<=(iR G z).2.k.due.length:=by rw [q2.same.due];omega
 have hp1:(iR G z).1.isNil=true->jZ (.aF d n) (iR G z).2:=fun _=>⟨q2.b.ok (by omega),⟨i,hs⟩,hcc,hn⟩
 have e0:iR (.thn G (.aF d n)) z=Qe runT (iR G z).1 (.aF d n) (iR G z).2:=rfl;have e1:iR (.thn (.thn G (.aF d n)) .ay) z=Qe runT (iR (.thn G (.aF d n)) z).1 .ay (iR (.thn G (.aF d n)) z).2:=rfl;refine ⟨⟨⟨q1,hp1⟩,?_⟩,?_⟩
 ·show (iR (.thn G (.aF d n)) z).1.isNil=true->jZ .ay (iR (.thn G (.aF d n)) z).2
  rw [e0];rcases q2.fit with hnil | hf
  ·rw [hnil]
   show (Qo d (n+1) (iR G z).2).1.isNil=true->jZ .ay (Qo d (n+1) (iR G z).2).2
   rcases L6 q2.b hN hs q2.same.len q2.same.th hcc EZ hle with ⟨h1,h2⟩ | ⟨t,h1,h2,h3⟩
   ·rw [h2];exact fun _=>⟨q2.b.ok (by omega),i,hs⟩
   ·rw [h2];intro hh;cases hh
  ·rw [Fy (QK hf)];intro hh;cases hh
 ·rw [e1,e0]
  rcases q2.fit with hnil | hf
  ·rw [hnil]
   show uR N z i (Qe runT (Qo d (n+1) (iR G z).2).1 .ay (Qo d (n+1) (iR G z).2).2)
   rcases L6 q2.b hN hs q2.same.len q2.same.th hcc EZ hle with ⟨h1,h2⟩ | ⟨t,h1,h2,h3⟩
   ·rw [h1,h2]
    exact ⟨q2.b,hs,q2.same.len,q2.same.th,.inr EZ⟩
   ·rw [h2] at h3 |-;exact h3
  ·rw [Fy (QK hf)]
   exact ⟨q2.b,hs,q2.same.len,q2.same.th,.inr ⟨hcc,EZ,hn,by show n<(iR G z).2.k.due.length;omega,hf⟩⟩
theorem Oy (h:TB N z) (hN:N<999999) (hth:z.k.th<=1000000) (hi:z.k.s=some i) {X:ST} (hf:kG X z.k z.x i) (hm:X.may qY z=true):yN X z/\uR N z i (iR X z):=by
 have hok:=h.ok (by omega);have h1:=h.mono (M:=N+1) (by omega);have hsh:lD z:=⟨i,hi⟩;obtain ⟨hmem,Ir⟩:=Te h hi
 match X,hf with
 | .at (some .lock) (.dH d),hf =>
   have nP:qY .lock z=true:=hm
   have hw:z.aW.who=0:=by
    simp only [qY,Vb,beq_iff_eq] at nP;exact nP.2
   refine ⟨⟨hok,hsh,hf,hth⟩,?_⟩
   have ht:=h.rest.turns _ hmem
   have hb:=h.dh (s:={ z.aW with who:=og z.aW.who z.k.th,turns:=nz z.aW.who z.aW.turns }) ((h.core.ring _ hmem).mono (by omega)) (h.rest.task z.aW hmem)
    (by show 0<=nz z.aW.who z.aW.turns/\nz z.aW.who z.aW.turns<=_;unfold nz;split <;> omega)
   refine ⟨hb,hi,by show (z.x.au.set z.sh _).length=_;rw [UA],rfl,.inr ⟨hf,?_⟩⟩
   show ((z.x.au.set z.sh { z.aW with who:=og z.aW.who z.k.th,turns:=nz z.aW.who z.aW.turns }).getD (z.k.s.getD 0) (Qr 1)).who=z.k.th+1
   have e:z.k.s.getD 0=i:=by rw [hi];rfl
   rw [e,Ir,KW _ _ _ _ _ (h.k.sh i hi),if_pos rfl]
   show og z.aW.who z.k.th=_
   unfold og;rw [if_pos hw]
 | .at none (.bX d),hf =>
   obtain ⟨hc,ho⟩:=hf;refine ⟨⟨hok,hsh,hc⟩,?_⟩
   show uR N z i (if z.aW.ring.tail - z.aW.ring.head<=0 then J0 d z else (.thn (Q5 (z.aW.ring.tail - z.aW.ring.head) z) (.ai d),z))
   split
   ·exact Rl h1 hi rfl rfl hc ho
   ·next hgt =>
    have hr:=h.core.ring _ hmem;have hn:z.aW.ring.tail - z.aW.ring.head<=1000000:=by have:=hr.t1;have:=hr.h0;omega
    rcases FC hi hn z.k with hp | hp
    ·exfalso
     unfold Q5 at hp;rw [if_neg hgt] at hp;cases hp
    ·have e:Q5 (z.aW.ring.tail - z.aW.ring.head) z=.at (some (.ready z.sh)) (.bI (z.aW.ring.tail - z.aW.ring.head)):=if_neg hgt
     rw [e] at hp |-;exact ⟨h1,hi,rfl,rfl,.inr ⟨hc,ho,hp⟩⟩
 | .thn (.aj (.bG d)) (.aL e),hf =>
   obtain ⟨hc,he,ho⟩:=hf;obtain rfl:d=e:=he.symm;have Nu:=q24 h hi;have hw:=h.rest.kK _ Nu;obtain ⟨a1,a2,a3⟩:=Kt hw.sh;obtain ⟨e1,e2⟩:=hw.Hw.fH;obtain ⟨f1,f2⟩:=(h.ws _ Nu).fH;have hb0:=h.CW (w:=z.wh.fH.1) ⟨a1,by have:=hw.now;omega,by have:=hw.tot;omega,e1⟩ f1
   have hb:TB (N+1) (Q6 (.bG d) z):=hb0.lV ⟨hb0.k.th,hb0.k.aB,hb0.k.t,by
    have:=hw.tot;show (z.wh.fH.2.map gU.v).length<=_;rw [UU];omega,fun t ht=>by
     obtain ⟨en,hen,rfl⟩:=Vl.1 ht
     exact ⟨e2 en hen,f2 en hen⟩,hb0.k.sh⟩
   refine ⟨⟨⟨hok,hsh,hc⟩,fun _=>⟨hb.ok (by omega),⟨i,hi⟩,hc⟩⟩,?_⟩
   show uR N z i (runT (.aL d) (Q6 (.bG d) z))
   generalize hz':Q6 (.bG d) z=z' at hb;have es:z'.k.s=some i:=by rw [<- hz'];exact hi
   have el:z'.x.au.length=z.x.au.length:=by rw [<- hz'];rfl
   have et:z'.k.th=z.k.th:=by rw [<- hz'];rfl
   have ec:kG.j5 d z'.k:=by rw [<- hz'];exact hc
   have eo:Own z'.k z'.x:=by rw [<- hz'];exact ho
   show uR N z i (match z'.k.due[0]? with | none=>(.aj .unlock,z') | some _=>(.thn (Qo d 0 z').1 .ay,(Qo d 0 z').2))
   rcases L6 hb hN es el et ec eo (Vm _) with ⟨_,h2⟩ | ⟨t,h1,h2,h3⟩
   ·cases hd:z'.k.due[0]? with
    | none=>exact ⟨hb,es,el,et,.inr eo⟩
    | some t =>
      exfalso
      rename_i h0
      unfold Qo at h0;rw [hd] at h0;cases h0
   ·rw [h1];exact h3
 | .thn (.at (some (.ready j)) (.bI n)) (.ai d),hf =>
   obtain ⟨hc,ho,hp⟩:=hf;obtain ⟨q1,q2⟩:=IL h hN hi hp;exact JG h hN hi hc ho q1 q2
 | .thn (.thn (.at none .bA) (.ax n)) (.ai d),hf =>
   obtain ⟨hc,ho,hp⟩:=hf;obtain ⟨q1,q2⟩:=IL h hN hi hp;exact JG h hN hi hc ho q1 q2
 | .thn (.thn (.at none .aI) (.ax n)) (.ai d),hf =>
   obtain ⟨hc,ho,hp⟩:=hf;obtain ⟨q1,q2⟩:=IL h hN hi hp;exact JG h hN hi hc ho q1 q2
 | .thn (.thn G (.aF d n)) .ay,hf =>
   obtain ⟨hc,ho,hn,hnd,hg⟩:=hf;obtain ⟨q1,q2⟩:=stepG h hN hi hg;exact q66 h hN hi hc ho hn hnd q1 q2
 | .aj .unlock,ho =>
   have ht:=h.rest.turns _ hmem;have hb:=h.dh (s:={ z.aW with who:=0 }) ((h.core.ring _ hmem).mono (by omega)) (h.rest.task z.aW hmem) (by show 0<=z.aW.turns/\z.aW.turns<=_;omega);exact ⟨⟨hok,hsh,ho,hth⟩,⟨hb,hi,by show (z.x.au.set z.sh _).length=_;rw [UA],rfl,.inl rfl⟩⟩
theorem QY {M:Nat} {z:ZT} (h:TB M z) (hth:z.k.th<=1000000) (j:Nat):JT M (Xa j z).1 (Xa j z).2:=by
 unfold Xa;split
 ·next hj=>exact ⟨h.lV ⟨h.k.th,h.k.aB,h.k.t,Vm _,(fun t ht=>by cases ht),fun i hi=>by cases hi;exact hj⟩,rfl,hj,hth,rfl⟩
 ·exact ⟨h.lV ⟨h.k.th,h.k.aB,h.k.t,h.k.dl,h.k.due,h.k.sh⟩,trivial⟩
theorem qw8 (h:TB N z) (e:Int):JT (N+1) (Ys e z).1 (Ys e z).2:=by
 have h1:=h.note { bL with kind:=9,err:=e };exact ⟨h1.lV ⟨h1.k.th,h1.k.aB,h1.k.t,h1.k.dl,h1.k.due,h1.k.sh⟩,trivial⟩
theorem qv7 {X:ST} {k:Xi} {x:Qi} {i:Nat} (h:kG X k x i):X.isNil=false:=by
 cases X <;> first | rfl | exact h.elim
theorem JT.pre {s:ST} (h:JT N s z) (hN:N<999999) (hm:mM s z=true):Ov s z:=by
 obtain ⟨hb,hf⟩:=h;have ho:=hb.ok (by omega)
 match s,hf with
 | .nil,_=>trivial
 | .at none .enter,_=>exact ⟨ho,trivial⟩
 | .at none .gate,_=>exact ⟨ho,trivial⟩
 | .at none .tick,_=>exact ⟨ho,trivial⟩
 | .aO .leave1 .answer,_=>exact ⟨ho,trivial⟩
 | .aj .answer,_=>exact ⟨ho,trivial⟩
 | .thn X (.ae i),hf =>
   obtain ⟨hi,hlt,hth,hx⟩:=hf;obtain ⟨q1,q2⟩:=Oy hb hN hth hi hx hm;exact ⟨q1,fun _=>⟨q2.b.ok (by omega),by have:=hb.iT;show i<=64;omega⟩⟩
theorem JT.dx {s:ST} (h:JT N s z) (hN:N<999999):Gd s z:=by
 obtain ⟨hb,hf⟩:=h;have ho:=hb.ok (by omega)
 match s,hf with
 | .nil,_=>trivial
 | .at none .enter,_=>trivial
 | .at none .gate,_=>trivial
 | .at none .tick,_=>trivial
 | .aO .leave1 .answer,_=>trivial
 | .aj .answer,_=>trivial
 | .thn X (.ae i),hf =>
   obtain ⟨hi,hlt,hth,hx⟩:=hf
   match X,hx with
   | .at (some .lock) (.dH d),_=>exact ⟨ho,i,hi⟩
   | .at none (.bX d),_=>trivial
   | .thn (.aj (.bG d)) (.aL e),_=>trivial
   | .thn (.at (some (.ready j)) (.bI n)) (.ai d),hx=>exact ⟨ho,by rw [hx.2.2.1];exact hlt⟩
   | .thn (.thn (.at none .bA) (.ax n)) (.ai d),_=>trivial
   | .thn (.thn (.at none .aI) (.ax n)) (.ai d),_=>trivial
   | .thn (.thn G (.aF d n)) .ay,hx =>
     obtain ⟨_,_,_,_,hg⟩:=hx
     match G,hg with
     | .at none .looks,_=>trivial
     | .at none .bE,_=>trivial
     | .thn (.aj (.put f)) .bD,_=>trivial
     | .at none .behind,_=>trivial
     | .at none (.aY next),_=>trivial
     | .at none .aQ,_=>trivial
     | .aO .rel .drop,_=>trivial
     | .aj .drop,_=>trivial
   | .aj .unlock,_=>trivial
theorem JT.step {s:ST} (h:JT N s z) (hN:N<999999) (hm:mM s z=true):JT (N+1) (Qy s z).1 (Qy s z).2:=by
 obtain ⟨hb,hf⟩:=h;have h1:=hb.mono (M:=N+1) (by omega)
 match s,hf with
 | .nil,_=>exact ⟨h1,trivial⟩
 | .at none .enter,hf =>
   have hc:=hb.core;have hr:=h1.rest;exact ⟨⟨⟨hc.aa,by have:=hc.i0;show 0<=z.x.f.inside+1;omega,by have:=hc.i1;show z.x.f.inside+1<=_;omega,h1.core.tr,hc.sh,h1.core.ring⟩,⟨hr.now,hr.busy,hr.cap,hr.wl,hr.kK,hr.task,hr.turns,hr.ch,hr.sp⟩,⟨h1.k.th,h1.k.aB,h1.k.t,h1.k.dl,h1.k.due,h1.k.sh⟩,h1.ws,h1.iT⟩,hf⟩
 | .at none .gate,hf =>
   show JT (N+1) (if z.x.f.closed=true then Ys 3 z else (.at none .tick,z)).1 (if z.x.f.closed=true then Ys 3 z else (.at none .tick,z)).2
   split
   ·exact qw8 hb 3
   ·next hcl=>exact ⟨h1,hf.resolve_left hcl⟩
 | .at none .tick,hf =>
   have hr:=h1.rest;have hn:=hb.rest.now
   have hb2:TB (N+1) ({ z with x:={ z.x with f:={ z.x.f with now:=z.x.f.now+1 } },k:={ z.k with now:=z.x.f.now+1 } }:ZT) :=
    ⟨⟨h1.core.aa,h1.core.i0,h1.core.i1,h1.core.tr,h1.core.sh,h1.core.ring⟩,⟨by show 0<=z.x.f.now+1/\z.x.f.now+1<=_;omega,hr.busy,hr.cap,hr.wl,hr.kK,hr.task,hr.turns,hr.ch,hr.sp⟩,⟨h1.k.th,h1.k.aB,h1.k.t,h1.k.dl,h1.k.due,h1.k.sh⟩,h1.ws,h1.iT⟩
   exact QY (hb2.xh (by have:=hb.core.tr;show z.x.tr.length+1<=_;omega) _) hf 0
 | .aO .leave1 .answer,_ =>
   have hc:=hb.core;have hr:=h1.rest;have hl:0<=Z5 z.x.f.inside/\Z5 z.x.f.inside<=N:=by have:=hc.i0;have:=hc.i1;unfold Z5;split <;> omega
   exact ⟨⟨⟨hc.aa,hl.1,by have:=hl.2;show Z5 z.x.f.inside<=_;omega,h1.core.tr,hc.sh,h1.core.ring⟩,⟨hr.now,hr.busy,hr.cap,hr.wl,hr.kK,hr.task,hr.turns,hr.ch,hr.sp⟩,⟨h1.k.th,h1.k.aB,h1.k.t,h1.k.dl,h1.k.due,h1.k.sh⟩,h1.ws,h1.iT⟩,trivial⟩
 | .aj .answer,_=>exact ⟨hb.note _,trivial⟩
 | .thn X (.ae i),hf =>
   obtain ⟨hi,hlt,hth,hx⟩:=hf;obtain ⟨q1,q2⟩:=Oy hb hN hth hi hx hm
   show JT (N+1) (Qe runT (iR X z).1 (.ae i) (iR X z).2).1 (Qe runT (iR X z).1 (.ae i) (iR X z).2).2
   rcases q2.fit with hn | hfx
   ·rw [hn]
    exact QY q2.b (by rw [q2.th];exact hth) (i+1)
   ·rw [Fy (qv7 hfx)]
    exact ⟨q2.b,q2.s,by rw [q2.len];exact hlt,by rw [q2.th];exact hth,hfx⟩
end
structure Zf (x x':Qi):Prop where
 now:x'.f.now=x.f.now
 busy:x'.f.busy=x.f.busy
 cfg:x'.f.cfg=x.f.cfg
 closed:x'.f.closed=x.f.closed
 recs:x'.aa.recs.length=x.aa.recs.length
 len:x'.au.length=x.au.length
 who:∀ j,(x'.au.getD j (Qr 1)).who=(x.au.getD j (Qr 1)).who
 sh:(∀ s∈x.au,∀ e∈s.ring.slots,Je e.v)->∀ s∈x'.au,∀ e∈s.ring.slots,Je e.v
 turns:∀ N:Nat,(∀ s∈x.au,0<=s.turns/\s.turns<=N)->∀ s∈x'.au,0<=s.turns/\s.turns<=N
theorem Zf.refl (x:Qi):Zf x x:=⟨rfl,rfl,rfl,rfl,rfl,rfl,fun _=>rfl,fun h=>h,fun _ h=>h⟩
theorem Zf.trans {x y z:Qi} (a:Zf x y) (b:Zf y z):Zf x z :=
 ⟨b.now.trans a.now,b.busy.trans a.busy,b.cfg.trans a.cfg,b.closed.trans a.closed,b.recs.trans a.recs,b.len.trans a.len,fun j=>(b.who j).trans (a.who j),fun h=>b.sh (a.sh h),fun N h=>b.turns N (a.turns N h)⟩
theorem Zf.rest {N:Nat} {x x':Qi} {ws:List Qg} {p:Q2} (k:Zf x x') (h:zA N x ws p):zA N x' ws p :=
 ⟨by rw [k.now];exact h.now,by rw [k.busy];exact h.busy,by rw [k.cfg,k.recs];exact h.cap,by rw [k.len];exact h.wl,h.kK,k.sh h.task,k.turns N h.turns,h.ch,h.sp⟩
def jf (k:Qv):Prop:=0<=k.gen/\k.gen<=4294967295
theorem Sr {w:Int} (h0:0<=w):0<=Xv w/\Xv w<=4294967295:=by
 unfold Xv;split
 ·next hk =>
  simp only [okW,Vb,decide_eq_true_eq] at hk;omega
 ·omega
theorem NA {s:Qj} (hs:Xh s) (k old ev:Int) (h0:0<=old/\old<18446744073709551616/\okW old=true):0<=(s.try k old ev).2.1:=by
 unfold Qj.try;split
 ·next hh =>
  have hr:0<=(s.recs.getD k.toNat Rec.zero).w:=by
   rw [U5];cases h1:s.recs[k.toNat]? with
   | none=>show (0:Int)<=0;omega
   | some r=>exact (hs.recs r (UE h1)).w0
  simp only;split
  ·exact hr
  ·next hx =>
   split
   ·have:=FF (e:=ev) (p:=decide (0<(s.recs.getD k.toNat Rec.zero).p)) h0.1 h0.2.1 h0.2.2 (V9 hx)
    exact this.2.2.2.2.2.2.2.1
   ·exact hr
 ·show (0:Int)<=0;omega
section
variable {N:Nat} {k:Qv} {x:Qi}
theorem Zw (k:Qv) (E:EvS) (x:Qi):Zf x (xF k E x):=⟨rfl,rfl,rfl,rfl,rfl,rfl,fun _=>rfl,fun h=>h,fun _ h=>h⟩
theorem Ao {s:Qj} (hl:s.recs.length=x.aa.recs.length):Zf x { x with aa:=s }:=⟨rfl,rfl,rfl,rfl,hl,rfl,fun _=>rfl,fun h=>h,fun _ h=>h⟩
theorem OH (n:Int):Zf x { x with f:={ x.f with inside:=n } }:=⟨rfl,rfl,rfl,rfl,rfl,rfl,fun _=>rfl,fun h=>h,fun _ h=>h⟩
theorem QN {i:Nat} {s:Qu} (hs:x.au[i]?=some s) (r:Qz) (hr:(∀ e∈s.ring.slots,Je e.v)->∀ e∈r.slots,Je e.v):Zf x { x with au:=x.au.set i { s with ring:=r } }:=by
 have hlt:=(UC.1 hs).1;have hm:=UE hs;refine ⟨rfl,rfl,rfl,rfl,rfl,UA,fun j=>?_,fun h a ha=>?_,fun N h a ha=>?_⟩
 ·show ((x.au.set i _).getD j (Qr 1)).who=_
  rw [KW _ _ _ _ _ hlt];split
  ·next hj=>subst hj;rw [U5,hs];rfl
  ·rfl
 ·rcases U9 ha with ha | rfl
  ·exact h a ha
  ·exact hr (h s hm)
 ·rcases U9 ha with ha | rfl
  ·exact h a ha
  ·exact h s hm
theorem OT (r:Qz) (t:Xz):(stepT r t).1.slots=r.slots:=by
 unfold stepT qP pV o9;split
 ·rfl
 ·split
  ·rfl
  ·split
   ·rfl
   ·split <;> rfl
theorem qop {r:Qz} {t:Xz} {v:Qp} (hv:Je v) (h:∀ e∈r.slots,Je e.v):∀ e∈(Zp r t v).1.slots,Je e.v:=by
 unfold Zp;split
 ·intro e he
  rcases U9 he with he | rfl
  ·exact h e he
  ·exact hv
 ·exact h
theorem QM (k:Qv) {v:Qp} (hv:Je v):Zf x (Yo v (k,x)).2:=by
 unfold Yo;simp only;split
 ·exact Zf.refl x
 ·rename_i i t ht
  split
  ·exact Zf.refl x
  ·rename_i s hs
   exact QN hs _ (fun h=>qop hv h)
theorem RA {v:Qp} (h:jf k):jf (Yo v (k,x)).1:=by
 unfold Yo;simp only;split
 ·exact h
 ·split
  ·exact h
  ·exact h
theorem Kg (hc:Zi N x) (ev:Int):Zf x (zj ev (k,x)).2/\jf (zj ev (k,x)).1:=by
 obtain ⟨h1,h2⟩:=sK hc.aa k.slot (x.aa.word k.slot) ev;exact ⟨Ao h2,Sr (NA hc.aa _ _ _ (Y4 hc.aa _))⟩
theorem q1s (hc:Zi N x) (hk:Zn N k x) (hg:jf k):Je (qr (k,x)):=by
 refine ⟨hk.id,⟨hg.1,by have:=hg.2;show k.gen<=_;omega⟩,hk.c0,?_⟩
 show 0<=x.aa.period k.slot/\x.aa.period k.slot < _
 unfold Qj.period;split
 ·rw [U5]
  cases h1:x.aa.recs[k.slot.toNat]? with
  | none=>exact ⟨by show (0:Int)<=0;omega,by show (0:Int) < _;omega⟩
  | some r=>have:=hc.aa.recs r (UE h1);exact ⟨this.p0,this.p1⟩
 ·omega
theorem q9y:Je { Qp.zero with slot:=-1 }:=⟨by decide,by decide,by decide,by decide⟩
theorem qu1 (hc:Zi N x) (hk:Zn N k x) (hg:jf k) (a:AC):Zf x (bN a (k,x)).2/\jf (bN a (k,x)).1:=by
 cases a with
 | aS=>exact ⟨Zw _ _ _,hg⟩
 | bJ=>exact ⟨OH _,hg⟩
 | eB =>
   obtain ⟨h1,h2⟩:=Kg (k:=k) hc 9;exact ⟨h1.trans (Zw _ _ _),h2⟩
 | drop=>exact ⟨Ao (D5 hc.aa).2,hg⟩
 | bK=>exact Kg (k:=k) hc 10
 | bC=>exact ⟨QM k q9y,RA hg⟩
theorem RH (k:Qv) (s:Qj):(lookW k s).1.gen=k.gen:=by
 unfold lookW;split
 ·rfl
 ·split <;> rfl
theorem qs5 (hc:Zi N x) (hk:Zn N k x) (hg:jf k) (m:MC):Zf x (J1 m (k,x)).2.2/\jf (J1 m (k,x)).2.1:=by
 cases m with
 | ends=>exact ⟨Zf.refl x,hg⟩
 | leaves=>exact ⟨Zf.refl x,hg⟩
 | right =>
   show Zf x (if mP k then _ else _:SC × ZC).2.2/\jf (if mP k then _ else _:SC × ZC).2.1
   split
   ·exact ⟨Zw _ _ _,hg⟩
   ·exact ⟨Zf.refl x,hg⟩
 | enter=>exact ⟨OH _,hg⟩
 | gate =>
   show Zf x (if x.f.closed=true then _ else _:SC × ZC).2.2/\jf (if x.f.closed=true then _ else _:SC × ZC).2.1
   split
   ·exact ⟨Zw _ _ _,hg⟩
   ·split
    ·exact ⟨Zf.refl x,hg⟩
    ·exact ⟨Zf.refl x,hg⟩
 | asks =>
   show Zf x (match k.rq with | none=>_ | some q=>_:SC × ZC).2.2/\jf (match k.rq with | none=>_ | some q=>_:SC × ZC).2.1
   split
   ·exact ⟨Zf.refl x,hg⟩
   ·next q hq =>
    obtain ⟨h1,h2,h3⟩:=RV hc.aa (hk.rq q hq);unfold q7;simp only;split
    ·exact ⟨(Ao h3).trans (Zw _ _ _),hg⟩
    ·split
     ·exact ⟨Ao h3,hg⟩
     ·exact ⟨Ao h3,hg⟩
 | aX =>
   show Zf x (match k.tk with | none=>_ | some (i,t)=>_:SC × ZC).2.2/\jf (match k.tk with | none=>_ | some (i,t)=>_:SC × ZC).2.1
   split
   ·exact ⟨Zf.refl x,hg⟩
   ·next i t htk =>
    show Zf x (match x.au[i]? with | none=>_ | some s=>_:SC × ZC).2.2/\jf (match x.au[i]? with | none=>_ | some s=>_:SC × ZC).2.1
    split
    ·exact ⟨Zf.refl x,hg⟩
    ·next s hs =>
     have hr:=QN (x:=x) hs (stepT s.ring t).1 (fun h=>by rw [OT];exact h);unfold Ze;simp only;split
     ·exact ⟨hr,hg⟩
     ·split
      ·exact ⟨hr.trans (Zw _ _ _),hg⟩
      ·split
       ·exact ⟨hr,hg⟩
       ·split
        ·exact ⟨hr,hg⟩
        ·exact ⟨hr,hg⟩
 | bU =>
   obtain ⟨h1,h2⟩:=Kg (k:=k) hc 2;exact ⟨h1.trans (Zw _ _ _),h2⟩
 | fills=>exact ⟨QM k (q1s hc hk hg),RA hg⟩
 | looks =>
   have hl:jf (lookW k x.aa).1:=by unfold jf;rw [RH];exact hg
   show Zf x (if (lookW k x.aa).2=0 then _ else _:SC × ZC).2.2/\jf (if (lookW k x.aa).2=0 then _ else _:SC × ZC).2.1
   split
   ·show Zf x (if k.kind=3 then _ else _:SC × ZC).2.2/\jf (if k.kind=3 then _ else _:SC × ZC).2.1
    split
    ·exact ⟨Zf.refl x,hl⟩
    ·exact ⟨Zf.refl x,hl⟩
   ·show Zf x (if (lookW k x.aa).2=1 then _ else _:SC × ZC).2.2/\jf (if (lookW k x.aa).2=1 then _ else _:SC × ZC).2.1
    split
    ·exact ⟨Zw _ _ _,hl⟩
    ·exact ⟨Zw _ _ _,hl⟩
 | again =>
   have hl:jf (lookW k x.aa).1:=by unfold jf;rw [RH];exact hg
   show Zf x (if (lookW k x.aa).2=0 then _ else _:SC × ZC).2.2/\jf (if (lookW k x.aa).2=0 then _ else _:SC × ZC).2.1
   split
   ·exact ⟨Zf.refl x,hl⟩
   ·exact ⟨Zw _ _ _,hl⟩
 | tries =>
   obtain ⟨h1,h2⟩:=sK hc.aa k.slot k.aB k.event;have hs:Zf x (Zr (k,x)).1.2:=Ao h2;have hgn:jf (Zr (k,x)).1.1:=Sr (NA hc.aa _ _ _ hk.aB)
   show Zf x (if (Zr (k,x)).2≠0 then _ else _:SC × ZC).2.2/\jf (if (Zr (k,x)).2≠0 then _ else _:SC × ZC).2.1
   split
   ·show Zf x (if k.kind=3 then _ else _:SC × ZC).2.2/\jf (if k.kind=3 then _ else _:SC × ZC).2.1
    split
    ·exact ⟨hs,hgn⟩
    ·exact ⟨hs,hgn⟩
   ·show Zf x (if k.kind=3 then _ else _:SC × ZC).2.2/\jf (if k.kind=3 then _ else _:SC × ZC).2.1
    split
    ·exact ⟨hs.trans (Zw _ _ _),hgn⟩
    ·show Zf x (if k.kind=5 then _ else _:SC × ZC).2.2/\jf (if k.kind=5 then _ else _:SC × ZC).2.1
     split
     ·exact ⟨hs.trans (Zw _ _ _),hgn⟩
     ·exact ⟨hs.trans (Zw _ _ _),hgn⟩
theorem Rs {s:SC} (h:JC N s (k,x)) (hg:jf k):Zf x (J5 s (k,x)).2.2/\jf (J5 s (k,x)).2.1:=by
 obtain ⟨hc,hk,hf⟩:=h;simp only at hc hk hf;have ha:=fun a=>qu1 hc hk hg a
 match s,hf with
 | .nil,_=>exact ⟨Zf.refl x,hg⟩
 | .at none m,hf=>exact qs5 hc hk hg m
 | .aj .aS,_=>exact ha .aS
 | .thn (.aj .bJ) .ends,_=>exact ha .bJ
 | .thn (.aO .eB .drop) .leaves,_=>exact ha .eB
 | .thn (.aj .drop) .leaves,_=>exact ha .drop
 | .thn (.aj .bC) .leaves,_=>exact ha .bC
 | .thn (.aO .bK .drop) .ends,_=>exact ha .bK
 | .thn (.aj .drop) .ends,_=>exact ha .drop
end
end
section
open Go.RowKit Go.Shelf
attribute [local go_sem] UW
end
section
open Go.RowKit Go.Shelf Go.Conc
attribute [local go_sem] UW
theorem Ar:∀ (l:List Xj) (j:Nat) (f:Xj) (i:Nat),l[j]?=some f->i<4->(fires l)[j*4+i]?=f.vals[i]?
 | [],j,f,i,h,_=>by cases h
 | a::l,0,f,i,h,hi=>by
   cases h
   show (a.vals++fires l)[0*4+i]?=_
   rw [Va (by show 0*4+i<4;omega)];simp
 | a::l,j+1,f,i,h,hi=>by
   show (a.vals++fires l)[(j+1)*4+i]?=_
   rw [List.getElem?_append_right (by show 4<=(j+1)*4+i;omega)];have:=Ar l j f i h hi;rw [<- this];congr 1
   show (j+1)*4+i - 4=_
   omega
end
section
open Go.RowKit Go.Shelf
attribute [local go_sem] UW
section
variable {lb:Nat} {l hs:List Xj} {g gh:List ak} {hv:Value}
theorem PL (a b:List Xj):fires (a++b)=fires a++fires b:=by simp [fires,qc2]
theorem PM (a:List Xj):(fires a).length=a.length*4:=by
 induction a with
 | nil=>rfl
 | cons x a ih =>
   show (x.vals++fires a).length=_
   rw [UD,ih]
   show 4+_=_
   rw [UH];omega
theorem qv0 (a:List Xj):∀ u∈fires a,u.oneCell'=true:=by
 induction a with
 | nil=>intro u hu;cases hu
 | cons x a ih =>
   intro u hu;rcases Vk.1 (show u∈x.vals++fires a from hu) with hu | hu
   ·simp only [Xj.vals,List.mem_cons,List.not_mem_nil,or_false] at hu
    rcases hu with rfl | rfl | rfl | rfl <;> rfl
   ·exact ih u hu
theorem q0w (hg:uM lb l g) (hh:Q3 63 4 hv hs.length (fires hs) gh) (h0:0<hs.length) (hn:l.length+hs.length<=2000000) :
 Qa prog 301 #[Qb lb,hv] [g,gh] fun e gs=>e=U3 (UF #[])/\∃ g',uM lb (l++hs) g'/\gs=[g',gh]:=by
 obtain ⟨v,gr,hr,rfl⟩:=hg;have HH:=Vh hh;obtain ⟨hb,hcap,dQ,rfl,rfl,hc1,hc2,hc3,hc4⟩:=hh.open h0;obtain ⟨av,cap,hv⟩:=Q3.val hr;subst hv;refine GO fun w HT=>?_
 have HT:=Vh (HT.out.sum (H':=[[cl lb 232 #[.slice av l.length cap]],gr,[cl hb 63 dQ]]));have c0:=HT.c 0 0 0;have f0:=HT.f 0 0 0;simp only [bP] at c0
 have hnews:∀ j u,(fires hs)[j]?=some u->w.cell? ((⟨hb,0,none⟩:Addr).add j)=some u:=fun j u hu=>by
  have hj:=(UC.1 hu).1;rw [PM] at hj;have:=(HT.cell 2 0 rfl j).trans ((hc4 j hj).trans hu)
  have e:(⟨hb,0,none⟩:Addr).add j=⟨hb,j,none⟩:=by
   unfold Addr.add;split
   ·next h=>subst h;rfl
   ·simp
  rw [e];exact this
 have HR:=Vh hr;have kz:=Vh hnews;have HO:=Vh (qv0 hs);have HL:=Vh (PM hs);have HF:=Vh (PL l hs);clear hr hh hc3 hc4 hnews;go_enter func301,ntmps301
 go_wp2_with (
  at_builtin
  (with_reducible refine Z0 rfl (.tmp 10) (.tmp 11) 58 rfl 63 4 32 _ underlying58 F8 rfl (by decide) HT.out 1 rfl rfl HR.out rfl ⟨hb,0,none⟩ hs.length hcap (fires hs) rfl HL.out kz.out HO.out (by unfold maxLen;omega) (by omega) ?_)
  intro v1 w2 g2 r1 T1;simp only [Vd,Ve] at T1;have c1:=T1.c 0 0 0;have f1:=T1.f 0 0 0;have nS:=T1.l 0 0;obtain ⟨a1,di,hv1⟩:=Q3.val r1;subst hv1;have T1:=Vh T1;have r1:=Vh r1
  simp only [bP] at c1)
 go_end0
 exact ⟨_,⟨rfl,[cl lb 232 #[.slice a1 (l.length+hs.length) di]]++g2,⟨_,g2,by rw [UD,HF.out];exact r1.out,rfl⟩,rfl⟩,(((T1.set 0 0 rfl 0 (.slice a1 (l.length+hs.length) di)).eq (H':=[[cl lb 232 #[.slice a1 (l.length+hs.length) di]],g2,[cl hb 63 dQ]]) rfl).sum)⟩
end
theorem qy8 (a b c d:Int) (w:World):Calls prog 205 #[.agg #[U1 U2 a,U1 U2 b,U1 U2 c,U1 U2 d]] w fun e w'=>e=U3 (.bool true)/\∃ C T,w'=w.alloc (.cells C T):=by
 go_enter func205,ntmps205
 go_wp2
 go_ret
 exact ⟨rfl,_,_,rfl⟩
theorem qua (bl ba lb:Nat) {l:List Xj} {g:List ak} (hg:uM lb l g) (hn:l.length<=2000000) :
 sU prog 247 #[Qb bl,Qb ba] (Bb (l.map fun f=>f.vals.toArray) [[cl bl 128 #[Qb lb]],[cl ba 189 #[U4 (U6 205) #[] #[]]],g]) (0:Nat):=by
 intro ly J Jx hT hY H0 O0 W hJ0 hO hH;have l8:O0=[[cl bl 128 #[Qb lb]],[cl ba 189 #[U4 (U6 205) #[] #[]]],g]:=hO;subst l8;obtain ⟨v,gr,hr,rfl⟩:=hg;obtain ⟨av,cap,hv⟩:=Q3.val hr;subst hv;obtain ⟨O,ES⟩:∃ O:GH,O=[[cl bl 128 #[Qb lb]],[cl ba 189 #[U4 (U6 205) #[] #[]]],[cl lb 232 #[.slice av l.length cap]]++gr]:=⟨_,rfl⟩;rw [<- ES] at hH |-;have T0:=TG.refl hH;have Ih:=hH.right;rw [ES] at Ih;have T1:=(TG.refl Ih).sum (H':=[[cl bl 128 #[Qb lb]],[cl ba 189 #[U4 (U6 205) #[] #[]]],[cl lb 232 #[.slice av l.length cap]],gr]);have c0:=T1.c 0 0 0;have l0:=T1.c 2 0 0;simp only [bP] at c0 l0;have HR:=Vh hr;have HH:=Vh (UJ hJ0 T0);have HY:=Vh hY;have HO:=Vh ES;clear hr hO hH hY hT hJ0 T0 T1 Ih ES;refine (UX (n:=9)).1 (callsIn_of_wp func247 rfl trivial ?_ rfl)
 simp only [ntmps247,V7,UH,UR,Nat.reduceAdd,Nat.reduceSub,UY,UZ,V8,V6,US,UO];gi_wp2
 clear c0 l0
 gi_loopw [13] (fun i wr=>∃ (k:Nat) (H:GH),k<=l.length/\i=U1 U8 k/\J k H/\TG (H0++O) W (H++O) wr) (fun i _=>l.length+1 - (intOf i).toNat)
 case atStart=>exact ⟨0,H0,by omega,rfl,HH.1,HH.2⟩
 case round =>
  obtain ⟨k,H,hk,rfl,hj,T⟩:=hrel;clear HH;by_cases hlt:k<l.length
  ·obtain ⟨f,hf⟩:∃ f,l[k]?=some f:=⟨_,UG hlt⟩
   have hat:(l.map fun f=>f.vals.toArray)[k]?=some f.vals.toArray:=by rw [Vg,hf];rfl
   have TR:=T.has.right;rw [HO.out] at TR;have TE:=(TG.refl TR).sum (H':=[[cl bl 128 #[Qb lb]],[cl ba 189 #[U4 (U6 205) #[] #[]]],[cl lb 232 #[.slice av l.length cap]],gr]);obtain ⟨rb,cap',cur,hv,rfl,_,hcm,_,dQ⟩:=HR.open (by omega);cases hv
   have r0:=(TE.cell 3 0 rfl (k*4)).trans ((dQ (k*4) (by omega)).trans (Ar l k f 0 hf (by decide)));have r1:=(TE.cell 3 0 rfl (k*4+1)).trans ((dQ (k*4+1) (by omega)).trans (Ar l k f 1 hf (by decide)));have r2:=(TE.cell 3 0 rfl (k*4+2)).trans ((dQ (k*4+2) (by omega)).trans (Ar l k f 2 hf (by decide)));have r3:=(TE.cell 3 0 rfl (k*4+3)).trans ((dQ (k*4+3) (by omega)).trans (Ar l k f 3 hf (by decide)));have a0:=TE.c 1 0 0;simp only [Xj.vals,List.getElem?_cons_zero,List.getElem?_cons_succ,List.getElem?_toArray] at r0 r1 r2 r3 a0;have Iv:=TE.l 1 0;simp only [] at Iv;have T2:=T.aT (.cells #[U1 U2 f.id,U1 U2 f.gen,U1 U2 f.dl,U1 U2 f.tick] 63);have HT2:=Vh T2;have HK:=Vh (UJ hj hat);clear T TE TR dQ hf hat hj T2;gi_wp2
   refine ⟨trivial,(UX (n:=8)).2 ((qy8 _ _ _ _ _).mono ?_)⟩
   rintro e W1 ⟨rfl,C1,T1,rfl⟩;have HT2:=Vh (HT2.out.aT (.cells C1 T1));have hy0:=HY.out k #[.agg f.vals.toArray] [] (k+1) H _ HK.1 ⟨⟨_,HK.2,rfl⟩,rfl,rfl⟩ (by rw [UK];exact HT2.has.left);obtain ⟨fn,tmps,assign,body,hy,hR⟩:=Z8 (n:=8) hy0;have HRR:=Vh hR;rw [J8] at hy;clear hy0 hR;gi_wp2
   refine HRR.mono ?_
   rintro e W' ⟨H',hT',hj'⟩;have T7:=HT2.trans ((hT'.app (a':=H) (by simp)).frame HT2.has);have ed:=Vh T7;rcases hj' with ⟨rfl,hj'⟩ | ⟨rfl,hj'⟩
   ·have HJ:=Vh hj'
    clear hT' T7 hj' hy r0 r1 r2 r3 a0;gi_wp2
    go_roundw
    case rel=>exact ⟨k+1,H',by omega,by go_num,HJ,ed⟩
    case measure=>simp [intOf];omega
   ·have HJ:=Vh hj'
    clear hT' T7 hj' hy r0 r1 r2 r3 a0;gi_wp2
    refine UT (Vf rfl _ _ _) rfl ?_
    exact ⟨⟨_,rfl⟩,k+1,H',_,ed,.inr HJ⟩
  ·obtain rfl:k=l.length:=by omega
   gi_wp2
   go_end0
   exact ⟨⟨_,rfl⟩,l.length,H,_,T,.inl ⟨(UU _).symm,hj,by rw [HO.out];rfl⟩⟩
theorem qs2 (lb:Nat):Qa prog 204 #[Qb lb,U4 (U6 205) #[] #[]] [] fun e gs=>∃ bl ba,e=U3 (U4 (U6 247) #[] #[Qb bl,Qb ba]) /\
 gs=[[cl bl 128 #[Qb lb]],[cl ba 189 #[U4 (U6 205) #[] #[]]]]:=by
 refine GO fun w HT=>?_
 go_enter func204,ntmps204
 go_wp2
 go_ret
 exact ⟨_,⟨_,_,rfl,rfl⟩,(HT.alloc rfl _ _).alloc (k:=w.heap.size+1) (by simp) _ _⟩
theorem q0u {lb:Nat} {l:List Xj} {g:List ak} (hg:uM lb l g) (hn:l.length<=1000000):Qa prog 165 #[Qb lb] [g] fun e gs=>∃ v gv,e=U3 v/\Q3 63 4 v l.length (fires l) gv/\gs=[g,gv]:=by
 have HC:=Vh (show ∀ bl ba,_ from fun bl ba=>qr8 (enters_of func247 (by kernel_rfl) rfl) (qua bl ba lb hg (by omega)) (fun c hc=>by
  obtain ⟨a,_,rfl⟩:=Vl.1 hc
  exact ⟨_,_,_,_,rfl⟩) (by rw [UU];exact hn))
 simp only [UU] at HC;refine GO fun w HT=>?_
 go_enter func165,ntmps165
 go_wp2_with fail
 refine Qa.run (qs2 lb) (HT) [] ?_
 rintro e w1 gs ⟨bl,ba,rfl,rfl⟩ HT;simp only [PU] at HT;go_wp2_with fail
 refine Qa.run (HC bl ba) (HT) [1,2,0] ?_
 rintro e w1 gs ⟨v,gv,rfl,hr,rfl⟩ HT;simp only [PU] at HT;obtain ⟨av,cap,hv⟩:=Q3.val hr;subst hv;have HR:=Vh hr;clear hr;go_wp2
 go_ret
 exact ⟨_,⟨_,gv,rfl,HR,rfl⟩,HT.p [0,3]⟩
end
section
open Go.RowKit Go.Shelf
structure yK where
 holds:List Xj
 worked:Int
inductive MW where
 | takes | eX
inductive AW where
 | jD
inductive YW where
 | ready
abbrev SW:Type:=St MW AW YW
structure ZW where
 k:yK
 x:Qi
 p:Q2
 lg:List Xj
def xz:MW->ZW->SW × ZW
 | .takes,z=>(.at (some .ready) .eX,z)
 | .eX,z=>(.thn (.aj .jD) .takes,{ z with k:={ z.k with holds:=z.k.holds++[z.p.take.2.1] },p:=z.p.take.1,x:={ z.x with f:={ z.x.f with busy:=z.x.f.busy+1 } } })
def Fq:AW->ZW->ZW
 | .jD,z=>{ z with lg:=z.lg++z.k.holds,k:=⟨[],z.k.worked+1⟩,x:={ z.x with f:={ z.x.f with busy:=Z5 z.x.f.busy } } }
def JF:YW->ZW->Bool
 | .ready,z=>decide (0<(z.p.ch.length:Int)+z.p.sp.length)
structure yX (z:ZW):Prop where
 busy:0<=z.x.f.busy/\z.x.f.busy<=1000000
 pipe:Gb z.p
 room:z.p.room<=1000000
 holds:z.k.holds.length<=1000
 lg:z.lg.length<=1000000
 worked:0<=z.k.worked/\z.k.worked<=1000000
def CZ (_:MW) (z:ZW):Prop:=yX z
def Ot (_:AW) (z:ZW):Prop:=yX z/\0<z.k.holds.length
def Ox (_:YW) (z:ZW):Prop:=yX z
def qc1 (fb:Nat) (pv hv:Value) (n:Int):Array Value:=#[Qb fb,pv,hv,U1 U8 n]
abbrev qn (wb fb:Nat) (pv hv:Value) (n:Int):List ak:=[cl wb 311 (qc1 fb pv hv n)]
def rf (L:Lay) (wb:Nat) (pv:Value) (e:List ak) (z:ZW) (gK gF:List ak):Prop :=
 ∃ hv gh gC gP gL,Q3 63 4 hv z.k.holds.length (fires z.k.holds) gh/\Qf L z.x gC/\Zd L.p.pb z.p gP/\uM L.p.lb z.lg gL/\gK=qn wb L.fb pv hv z.k.worked++(gh++e)/\gF=gC++(gP++gL)
def Af (wb:Nat) (e:List ak) (fn:FuncId) (v:Value):Prop:=∃ bk,v=U4 (U6 fn) #[] #[Qb bk]/\cl bk 269 #[Qb wb]∈e
def VMW (wb:Nat) (e:List ak) (f:MW) (v:Value) (g:List ak):Prop:=g=[]/\match f with
 | .takes=>v=U4 (U6 269) #[Qb wb] #[]
 | .eX=>Af wb e 287 v
def VAW (wb:Nat) (e:List ak) (f:AW) (v:Value) (g:List ak):Prop:=g=[]/\v=U4 (U6 289) #[Qb wb] #[]
def VYW (wb:Nat) (e:List ak) (f:YW) (v:Value) (g:List ak):Prop:=g=[]/\Af wb e 286 v
def wL (L:Lay) (wb:Nat) (pv:Value):kV :=
 ⟨MW,AW,YW,ZW,List ak,fw,rf L wb pv,VMW wb,VAW wb,VYW wb,xz,Fq,JF,CZ,Ot,Ox⟩
theorem Af.le {wb:Nat} {e e':List ak} {fn:FuncId} {v:Value} (h:Af wb e fn v) (hl:fw e e'):Af wb e' fn v:=by
 obtain ⟨bk,h1,h2⟩:=h;exact ⟨bk,h1,hl _ h2⟩
theorem Kw (L:Lay) (wb:Nat) (pv:Value) (e:List ak):((wL L wb pv).on e).iI where
 vm {f v g} h:=by
  obtain ⟨_,h⟩:=h;cases f with
  | takes=>exact ⟨_,_,_,h⟩
  | eX=>obtain ⟨bk,h,_⟩:=h;exact ⟨_,_,_,h⟩
 va {f v g} h:=⟨_,_,_,h.2⟩
 vy {f v g} h:=by obtain ⟨_,bk,h,_⟩:=h;exact ⟨_,_,_,h⟩
def SRW (L:Lay) (wb:Nat) (pv:Value) (s:SW) (en:Ending) (g' l:List ak):Prop :=
 ∃ m d,en=U3 (.agg #[m,d])/\∀ e,fw l e->(wL L wb pv).SV e s m d g'
section
variable {L:Lay} {x:Qi} {p:Q2} {lg:List Xj} {g gK gF e:List ak} {wb:Nat} {pv:Value} {k:yK}
theorem NB (L:Lay) (wb:Nat) (pv:Value):Qa prog 269 #[Qb wb] [] fun en gs=>∃ g' l,SRW L wb pv (.at (some .ready) .eX) en g' l/\gs=[g',l]:=by
 refine GO fun w HT=>?_
 go_enter func269,ntmps269
 go_wp2_with fail
 refine Qa.run (DK 286 287 #[] #[] #[Qb w.heap.size] #[Qb w.heap.size]) ((HT.a 269 #[Qb wb]).alloc (k:=w.heap.size+1) (by simp) 153 #[U7,U7]) [] ?_
 rintro e w1 gs ⟨rfl,rfl⟩ HT;simp only [PU] at HT;obtain ⟨e0,e1⟩:=HT.c2 1 0 0 1;obtain ⟨ek,dZ⟩:=HT.f2 1 0 0 1;simp only [aN] at e0 e1;go_wp2
 exact UT (v:=.agg #[_,_]) (by simp [results,results269,go_sem,e0,e1]) rfl ⟨_,⟨[],[cl w.heap.size 269 #[Qb wb]],⟨_,_,rfl,fun e he=>⟨[],[],⟨rfl,w.heap.size,rfl,he _ (by simp)⟩,⟨rfl,w.heap.size,rfl,he _ (by simp)⟩,rfl⟩⟩,rfl⟩,(((HT.set 1 0 rfl 0 _).set 1 0 rfl 1 _).p [0]).sum⟩
theorem q52 (hz:rf L wb pv e ⟨k,x,p,lg⟩ gK gF) (hp:yX ⟨k,x,p,lg⟩) (bk:Nat) (hb:cl bk 269 #[Qb wb]∈e) :
 Qd prog 286 #[Qb bk] [gK,gF] (.bool (JF .ready ⟨k,x,p,lg⟩)):=by
 have hch:p.ch.length<=1000000:=Nat.le_trans hp.pipe.ch hp.room;have hsp:p.sp.length<=1000000:=hp.pipe.sp
 show Qd _ _ _ _ (.bool (decide (0<(p.ch.length:Int)+p.sp.length)))
 clear hp;obtain ⟨hv,gh,gC,gP,gL,hr,hx,aU,hl,rfl,rfl⟩:=hz;intro w hw;have HT:=Vh ((TG.refl hw).m [qn wb L.fb pv hv k.worked,gh,e,gC,gP,gL]);have HX:=Vh hx;have uu:=Vh (QU aU ⟨hch,hsp⟩);have b0:=HT.ah 2 hb 0;have lt:=HT.l 0 0;simp only [bP] at b0 lt;have k0:=HT.c 0 0 0;simp only [qc1,az] at k0;generalize hm:(p.ch.length:Int)+p.sp.length=m at *;clear hx hr aU hl hw hch hsp hm;by_cases h0:0<m
 ·have hd:decide (0<m)=true:=decide_eq_true h0
  rw [hd];go_enter func286,ntmps286
  go_wp2_with fail
  refine (Qd.use (Yf HX) (HT) [3] rfl rfl).mono ?_
  rintro e w1 ⟨rfl,mq,rfl⟩;go_wp2_with fail
  refine (Qd.use uu (HT.drewN _) [4] rfl rfl).mono ?_
  rintro e w1 ⟨rfl,mq,rfl⟩;go_wp2
  go_ret
  exact ⟨rfl,_,rfl⟩
 ·have hd:decide (0<m)=false:=decide_eq_false h0
  rw [hd];go_enter func286,ntmps286
  go_wp2_with fail
  refine (Qd.use (Yf HX) (HT) [3] rfl rfl).mono ?_
  rintro e w1 ⟨rfl,mq,rfl⟩;go_wp2_with fail
  refine (Qd.use uu (HT.drewN _) [4] rfl rfl).mono ?_
  rintro e w1 ⟨rfl,mq,rfl⟩;go_wp2
  go_ret
  exact ⟨rfl,_,rfl⟩
theorem q82 (hz:rf L wb pv e ⟨k,x,p,lg⟩ gK gF) (hp:yX ⟨k,x,p,lg⟩) (h0:0<k.holds.length) :
 Qa prog 289 #[Qb wb] [gK,gF] fun en gs=>∃ bg aJ,en=U3 (UF #[])/\rf L wb pv e (Fq .jD ⟨k,x,p,lg⟩) bg aJ/\gs=[bg,aJ]:=by
 have hbz:=hp.busy;have Io:=hp.lg;have hho:=hp.holds;have hwk:=hp.worked;simp only at hbz Io hho hwk;clear hp;have HPT:=Vh (show ∀ g hv gh,uM L.p.lb lg g->Q3 63 4 hv k.holds.length (fires k.holds) gh->_ from fun g hv gh h1 h2=>q0w (hs:=k.holds) h1 h2 h0 (by omega));have E5:=Vh (show ∀ g,Qf L x g->_ from fun g hg=>qzu hg hbz);obtain ⟨hv,gh,gC,gP,gL,hr,hx,aU,hl,rfl,rfl⟩:=hz;obtain ⟨av,cap,hv'⟩:=Q3.val hr;subst hv';refine GO fun w HT=>?_
 have HT:=Vh (HT.out.m [qn wb L.fb pv (.slice av k.holds.length cap) k.worked,gh,e,gC,gP,gL]);have HX:=Vh hx;have HR:=Vh hr;have bF:=Vh aU;have HL:=Vh hl;clear hx hr aU hl;obtain ⟨k0,k2⟩:=HT.c2 0 0 0 2;simp only [qc1,az] at k0 k2;go_enter func289,ntmps289
 go_wp2_with fail
 refine Mx 9 ?_
 simp only [bY]
 repeat (go_big_quiet_step ((first | (go_at_call 164;with_reducible exact Qd.quiet (QA HX.out) HT.out _ [3] rfl rfl))))
 refine wpQuiet_nil (QT HT fun nq HT=>?_)
 go_wp2_with fail
 refine Qa.run (HPT _ _ _ HL HR) (HT) [5,1] ?_
 rintro e w1 gs ⟨rfl,g1,hl1,rfl⟩ HT;simp only [PU] at HT;have HL:=Vh hl1;clear hl1 k0 k2;go_wp2_with fail
 refine ⟨rfl,?_⟩
 obtain ⟨k0,k2,k3⟩:=HT.c3 0 0 0 2 3;obtain ⟨fk2,zU⟩:=HT.f2 0 0 2 3;simp only [qc1,az] at k0 k2 k3;have lt:=HT.l 0 0;simp only [] at lt;go_wp2_with fail
 refine Qa.run (E5 _ HX) ((HT.set 0 0 rfl 2 (.slice none 0 0)).set 0 0 rfl 3 (U1 U8 (k.worked+1))) [3] ?_
 rintro e w1 gs ⟨rfl,g2,hx2,rfl⟩ HT;simp only [PU] at HT;have HX:=Vh hx2;clear hx2;go_wp2
 exact bodyPost_end (Vf rfl _ _ _) rfl ⟨_,⟨_,_,rfl,⟨.slice none 0 0,[],g2,gP,g1,X7 _ _,HX,bF,HL,(rfl:qn wb L.fb pv (.slice none 0 0) (k.worked+1)++([]++e)=_),rfl⟩,rfl⟩,(((HT.p [0,2,3,4,5]).eq (H':=[qn wb L.fb pv (.slice none 0 0) (k.worked+1),e,g2,gP,g1]) rfl).sum)⟩
theorem q5j {e_:List ak} (hz:rf L wb pv e_ ⟨k,x,p,lg⟩ gK gF) (hp:yX ⟨k,x,p,lg⟩) (bk:Nat) (hb:cl bk 269 #[Qb wb]∈e_) :
 Qa prog 287 #[Qb bk] [gK,gF] fun en gs=>∃ m d g' bg aJ,en=U3 (.agg #[m,d])/\(wL L wb pv).SV e_ (xz .eX ⟨k,x,p,lg⟩).1 m d g'/\rf L wb pv e_ (xz .eX ⟨k,x,p,lg⟩).2 bg aJ/\gs=[g',bg,aJ]:=by
 have hbz:=hp.busy;have hho:=hp.holds;simp only at hbz hho;have dK:=Vh (show ∀ g,Zd L.p.pb p g->_ from fun g hg=>qti hg hp.pipe);clear hp;have E7:=Vh (show ∀ g,Qf L x g->_ from fun g hg=>qzx hg hbz);obtain ⟨f,hf⟩:∃ f,p.take.2.1=f:=⟨_,rfl⟩;have HF:=Vh hf;rw [hf,J8] at dK;clear hf;obtain ⟨hv,gh,gC,gP,gL,hr,hx,aU,hl,rfl,rfl⟩:=hz;obtain ⟨av,cap,hv'⟩:=Q3.val hr;subst hv';refine GO fun w HT=>?_
 have HT:=Vh (HT.out.m [qn wb L.fb pv (.slice av k.holds.length cap) k.worked,gh,e_,gC,gP,gL]);have HX:=Vh hx;have HR:=Vh hr;have bF:=Vh aU;have HL:=Vh hl;clear hx hr aU hl;have HB:=Vh hb;have b0:=HT.ah 2 HB 0;have bM:=HT.bu 2 HB;have jw:=HT.l 0 0;simp only [bP] at b0 bM jw;have k0:=HT.c 0 0 0;simp only [qc1,az] at k0;go_enter func287,ntmps287
 go_wp2_with fail
 have HT:=Vh (HT.out.a 153 #[U7,U7]);obtain ⟨rb,hrb⟩:∃ rb,rb=w.heap.size:=⟨_,rfl⟩;rw [<- hrb] at HT |-;clear hrb hb b0 bM jw k0;generalize Vn w _=wa at HT |-;go_wp2_with fail
 refine Qd.run (Yf HX) HT [3] ?_
 rintro e wq rfl HT;go_wp2_with fail
 refine Qa.run (dK _ bF) (HT) [4] ?_
 rintro e w1 gs ⟨rfl,g1,hp1,rfl⟩ HT;simp only [PU] at HT;have bF:=Vh hp1;clear hp1;go_wp2_with fail
 have HT:=Vh (HT.out.a 63 #[U1 U2 f.id,U1 U2 f.gen,U1 U2 f.dl,U1 U2 f.tick]);obtain ⟨vb,hvb⟩:∃ vb,vb=w1.heap.size:=⟨_,rfl⟩;rw [<- hvb] at HT |-;clear hvb;generalize Vn w1 _=wb1 at HT |-;have b0:=HT.ah 2 HB 0;have bM:=HT.bu 2 HB;simp only [bP] at b0 bM;have k2:=HT.c 0 0 2;simp only [qc1,az] at k2;obtain ⟨v0,v1,v2,v3⟩:=HT.c4 7 0 0 1 2 3;simp only [aN] at v0 v1 v2 v3;have jw:=HT.l 0 0;simp only [] at jw;simp only [UO,US] at HT;have HT:=Vh HT.out.drew
 apply Si (α:=Option Addr) (β:=Nat) (A:=fun a1 di w5=>∃ l7,Q3 63 4 (.slice a1 (k.holds.length+1) di) (k.holds.length+1) (fires k.holds++f.vals) l7 /\
  TG [qn wb L.fb pv (.slice av k.holds.length cap) k.worked++(gh++e_),gC++(gP++gL)] w [qn wb L.fb pv (.slice a1 (k.holds.length+1) di) k.worked,l7,e_,gC,g1,gL,[cl rb 153 #[U7,U7]]] w5)
 case main =>
  intro key
  go_region_law (
   refine JM rfl (.tmp 17) (.tmp 19) 58 rfl 4 32 _ underlying58 F8 rfl (by decide) (HT.aT _) 1 rfl rfl HR rfl ⟨wb1.heap.size,0,none⟩ 1 1 [U1 U2 f.id,U1 U2 f.gen,U1 U2 f.dl,U1 U2 f.tick] rfl rfl (Zy _ _ _) (by simp [Value.oneCell']) (by unfold maxLen;omega) (by omega) ?_
   intro v w3 l7 r T;simp only [Vd,Ve] at T;obtain ⟨a1,di,rfl⟩:=r.val;have c2:=T.c 0 0 2;have f2:=T.f 0 0 2;have bq:=T.ah 2 HB 0;simp only [qc1,az] at c2 bq;have T:=Vh T
   have r:=Vh r)
  all_goals
   have T5:=(T.set 0 0 rfl 2 (.slice a1 (k.holds.length+1) di)).eq (H':=[qn wb L.fb pv (.slice a1 (k.holds.length+1) di) k.worked,l7,e_,gC,g1,gL,[cl rb 153 #[U7,U7]],[cl vb 63 #[U1 U2 f.id,U1 U2 f.gen,U1 U2 f.dl,U1 U2 f.tick]]]) rfl;generalize World.setCell _ _ _=w5 at T5 |-;exact key a1 di w5 ⟨l7,r.out,T5.p [0,1,2,3,4,5,6]⟩
 case key =>
  rintro a1 di w5 ⟨l7,r,T⟩;have HT:=Vh T
  have RR:=Vh (show Q3 63 4 (.slice a1 (k.holds.length+1) di) (k.holds++[f]).length (fires (k.holds++[f])) l7 from by
   rw [UD,PL]
   simpa [fires,qc2] using r)
  clear r T b0 k2 v0 v1 v2 v3 bM jw;have b0:=HT.ah 2 HB 0;have bM:=HT.bu 2 HB;simp only [bP] at b0 bM;have k0:=HT.c 0 0 0;simp only [qc1,az] at k0;go_wp2_with fail
  refine Qa.run (E7 _ HX) (HT) [3] ?_
  rintro e w1 gs ⟨rfl,g2,hx2,rfl⟩ HT;simp only [PU] at HT;have HX:=Vh hx2;clear hx2 b0 k0 bM;generalize w1=w6 at HT |-;have b0:=HT.ah 2 HB 0;have bM:=HT.bu 2 HB;have nU:=HT.l 6 0;simp only [bP] at b0 bM nU;go_wp2_with fail
  go_region_held3 (fun w'=>w'.cell? ⟨bk,0,none⟩=some (Qb wb))
   (first
   | exact b0
   | exact q1
   | exact r1
   | exact (((kZ.set 6 0 rfl 0 U7).set 6 0 rfl 1 (U4 (U6 237) #[] #[Qb bs,Qb br])).ah 2 HB 0)
   | (simp [go_sem,b0,bM,Nat.ne_of_lt bM,Nat.ne_of_gt bM];done))
   (first
   | (go_at_call 178
      refine (Qa.use (aV.dY (b:=w6.heap.size) (o:=0) (D:=#[U4 (U6 289) #[Qb wb] #[]]) rfl 1 (.inl rfl)) (HT.drew.alloc (k:=w6.heap.size) rfl 1 #[U4 (U6 289) #[Qb wb] #[]]) [7] rfl rfl).mono ?_
      rintro e w7 ⟨gs,⟨bf,bl,bi,rfl,rfl⟩,Ta⟩;simp only [PU] at Ta;have ed:=Vh Ta;clear Ta;have q1:=ed.ah 2 HB 0;simp only [az] at q1
      have hsv:((wL L wb pv).on e_).SV (.aj .jD) U7 (U4 (U6 209) #[] #[Qb bf,Qb bl,Qb bi]) ([cl bf 1 #[U4 (U6 289) #[Qb wb] #[]],cl bl 322 #[.slice (some ⟨w6.heap.size,0,none⟩) 1 1],cl bi 3 #[U1 U8 0],cl w6.heap.size 1 #[U4 (U6 289) #[Qb wb] #[]]]++[]) :=
       ⟨rfl,bf,bl,bi,w6.heap.size,0,_,_,[],rfl,⟨rfl,rfl⟩,rfl,rfl⟩
      have gI:=Vh hsv
      clear hsv)
   | (go_at_call 196
      refine (Qa.use (aV.bR (c:=(wL L wb pv).on e_) (f:=MW.takes) (v:=U4 (U6 269) #[Qb wb] #[]) (gm:=[]) (Kw L wb pv _) rfl gI ⟨rfl,rfl⟩) (ed.bW (H':=[qn wb L.fb pv (.slice a1 (k.holds.length+1) di) k.worked,l7,e_,g2,g1,gL,[cl rb 153 #[U7,U7]],[cl bf 1 #[U4 (U6 289) #[Qb wb] #[]],cl bl 322 #[.slice (some ⟨w6.heap.size,0,none⟩) 1 1],cl bi 3 #[U1 U8 0],cl w6.heap.size 1 #[U4 (U6 289) #[Qb wb] #[]]]++[],[]])) [7,8] rfl rfl).mono ?_
      rintro e w8 ⟨gs,⟨bs,br,rfl,rfl⟩,Ta⟩;simp only [PU] at Ta;have kZ:=Vh Ta;clear Ta;have r1:=kZ.ah 2 HB 0;obtain ⟨z0,z1⟩:=kZ.c2 6 0 0 1;obtain ⟨zV,zW⟩:=kZ.f2 6 0 0 1
      simp only [az] at r1 z0 z1))
  all_goals
   have T9:=((kZ.set 6 0 rfl 0 U7).set 6 0 rfl 1 (U4 (U6 237) #[] #[Qb bs,Qb br])).p [7,0,1,2,3,4,5]
   have BG:rf L wb pv e_ (xz .eX ⟨k,x,p,lg⟩).2 (qn wb L.fb pv (.slice a1 (k.holds.length+1) di) k.worked++(l7++e_)) (g2++(g1++gL)):=by
    show rf L wb pv e_ ⟨⟨k.holds++[p.take.2.1],k.worked⟩,{ x with f:={ x.f with busy:=x.f.busy+1 } },p.take.1,lg⟩ _ _
    rw [HF.out];exact ⟨_,l7,g2,g1,gL,RR,HX,bF,HL,rfl,rfl⟩
   have BJ:=gI.out;have GK:=Vh (UJ T9 (UJ BG BJ));clear T9 BG BJ;go_wp2
   exact UT (v:=.agg #[U7,_]) (by simp [results,results287,go_sem,z0,z1]) rfl ⟨_,⟨_,_,_,_,_,rfl,⟨bs,br,_,_,_,[],rfl,rfl,GK.2.2,⟨rfl,rfl⟩,rfl⟩,GK.2.1,rfl⟩,GK.1.bW⟩
end
theorem q4l {L:Lay} {wb:Nat} {pv:Value} {e gK gF:List ak} {z:ZW} (hz:rf L wb pv e z gK gF):Qa prog 269 #[Qb wb] [gK,gF] fun en gs =>
 ∃ e',fw e e'/\∃ m d g' bg aJ,en=U3 (.agg #[m,d])/\(wL L wb pv).SV e' (xz .takes z).1 m d g'/\rf L wb pv e' (xz .takes z).2 bg aJ/\gs=[g',bg,aJ]:=by
 obtain ⟨hv,gh,gC,gP,gL,hr,hx,aU,hl,rfl,rfl⟩:=hz;intro w hw;refine (Qa.use (NB L wb pv) (TG.refl hw) [] rfl rfl).mono ?_
 rintro en w1 ⟨gs,⟨g',l,⟨m,d,rfl,hs⟩,rfl⟩,Ta⟩;exact ⟨_,⟨e++l,fw.app _ _,m,d,g',_,_,rfl,hs _ (fun b hb=>List.mem_append_right _ hb),⟨hv,gh,gC,gP,gL,hr,hx,aU,hl,(rfl:qn wb L.fb pv hv z.k.worked++(gh++(e++l))=_),rfl⟩,rfl⟩,TG.sum (H:=[qn wb L.fb pv hv z.k.worked++(gh++e),gC++(gP++gL),g',l]) Ta⟩
theorem Ls (L:Lay) (wb:Nat) (pv:Value):(wL L wb pv).Ok where
 refl:=fw.refl
 trans h1 h2:=fun b hb=>h2 b (h1 b hb)
 mm {e e' f v g} hl h:=by
  obtain ⟨h0,h⟩:=h;refine ⟨h0,?_⟩
  cases f with
  | takes=>exact h
  | eX=>exact Af.le h hl
 ma hl h:=h
 v e:=Kw L wb pv e
 m {e f v g gK gF z} hv hz hp:=by
   obtain ⟨k,x,p,lg⟩:=z;obtain ⟨rfl,hv⟩:=hv;cases f with
   | takes =>
     subst hv;refine ⟨_,_,_,rfl,fun _ _=>rfl,(Qa.pre (gs':=[[],gK,gF]) (q4l hz) rfl)⟩
   | eX =>
     obtain ⟨bk,rfl,hb⟩:=hv;refine ⟨_,_,_,rfl,fun _ _=>rfl,(Qa.pre (gs':=[[],gK,gF]) (q5j hz hp bk hb) rfl).mono ?_⟩
     rintro en gs ⟨m,d,g',bg,aJ,h1,h2,h3,rfl⟩;exact ⟨e,fw.refl _,m,d,g',bg,aJ,h1,h2,h3,rfl⟩
 a {e f v g gK gF z} hv hz hp:=by
   obtain ⟨k,x,p,lg⟩:=z;obtain ⟨rfl,hv⟩:=hv;cases f
   subst hv;refine ⟨_,_,_,rfl,fun _ _=>rfl,((q82 hz hp.1 hp.2).pre (gs':=[[],gK,gF]) rfl).post ?_⟩
   rintro en gs ⟨bg,aJ,h1,h2,rfl⟩;exact ⟨[[],bg,aJ],⟨e,fw.refl _,bg,aJ,h1,h2,rfl⟩,.refl _⟩
 y {e f v g gK gF z} hv hz hp:=by
   obtain ⟨k,x,p,lg⟩:=z;obtain ⟨rfl,bk,rfl,hb⟩:=hv;cases f
   refine ⟨_,_,_,rfl,fun _ _=>rfl,fun w hw=>?_⟩
   refine (Qd.use (q52 hz hp bk hb) (TG.refl hw) [1,2] rfl rfl).mono ?_
   rintro en w1 ⟨rfl,m,rfl⟩;exact ⟨_,⟨gK,gF,rfl,hz,rfl⟩,(TG.refl hw).drewN m⟩
def CQ (L:Lay) (wb:Nat) (pv:Value) (e:List ak) (k:yK) (gK:List ak):Prop:=∃ hv gh,Q3 63 4 hv k.holds.length (fires k.holds) gh/\gK=qn wb L.fb pv hv k.worked++(gh++e)
def uU (L:Lay) (x:Qi) (p:Q2) (lg:List Xj) (gF:List ak):Prop:=∃ gC gP gL,Qf L x gC/\Zd L.p.pb p gP/\uM L.p.lb lg gL/\gF=gC++(gP++gL)
theorem AA {L:Lay} {wb:Nat} {pv:Value} {e gK gF:List ak} {z:ZW}:rf L wb pv e z gK gF↔CQ L wb pv e z.k gK/\uU L z.x z.p z.lg gF :=
 ⟨fun ⟨hv,gh,gC,gP,gL,a,b,c,d,h,i⟩=>⟨⟨hv,gh,a,h⟩,⟨gC,gP,gL,b,c,d,i⟩⟩,fun ⟨⟨hv,gh,a,h⟩,⟨gC,gP,gL,b,c,d,i⟩⟩=>⟨hv,gh,gC,gP,gL,a,b,c,d,h,i⟩⟩
def tH (L:Lay) (wb:Nat) (s:SW) (n:Int) (k:yK) (g:List ak):Prop :=
 ∃ (pb:Nat) (e:List ak) (m d:Value) (cB gK:List ak),(wL L wb (Qb pb)).SV e s m d cB/\CQ L wb (Qb pb) e k gK/\g=aV.aH pb m d n++(cB++gK)
def uI (s:SW) (z:ZW):SW × ZW:=St.run xz Fq s z
def Ow (s:SW) (z:ZW):Prop:=St.pre xz Fq CZ Ot s z
def Bh (s:SW) (z:ZW):Bool:=s.may JF z
def Gf (s:SW) (z:ZW):Prop:=St.dx Ox s z
section
variable {L:Lay} {x:Qi} {p:Q2} {lg:List Xj} {g gF:List ak} {wb:Nat} {s:SW} {n:Int} {k:yK}
theorem q5y (hc:tH L wb s n k g) (hx:uU L x p lg gF) (hy:Gf s ⟨k,x,p,lg⟩) (hm:Bh s ⟨k,x,p,lg⟩=true) (hp:Ow s ⟨k,x,p,lg⟩) (hb:0<=n/\n<=1000000000) :
 Qa prog 378 #[Qb wb] [g,gF] fun en gs=>∃ g' aJ,en=U3 (.bool true)/\tH L wb (uI s ⟨k,x,p,lg⟩).1 (n+1) (uI s ⟨k,x,p,lg⟩).2.k g'/\uU L (uI s ⟨k,x,p,lg⟩).2.x (uI s ⟨k,x,p,lg⟩).2.p (uI s ⟨k,x,p,lg⟩).2.lg aJ/\gs=[g',aJ]:=by
 obtain ⟨pb,e,m,d,cB,gK,hs,hk,rfl⟩:=hc;have hd:=kV.fD (n:=n) (Ls L wb (Qb pb)) hs (x:=(⟨k,x,p,lg⟩:ZW)) (AA.2 ⟨hk,hx⟩) hy hp pb hb hm;obtain ⟨hv,gh,hl,rfl⟩:=hk;refine GO fun w HT=>?_
 have T1:=HT.sum (H':=[qn wb L.fb (Qb pb) hv k.worked,aV.aH pb m d n++(cB++(gh++e)),gF]);have k1:=T1.c 0 0 1;simp only [qc1,az] at k1;have lt:=T1.l 0 0;simp only [] at lt;have HD:=Vh hd;have HT:=Vh (HT.out.m [aV.aH pb m d n,cB,qn wb L.fb (Qb pb) hv k.worked++(gh++e),gF]);clear hs hl hx hy hm hp hb hd T1;go_enter func378,ntmps378
 go_wp2_with fail
 refine Qa.run HD HT [0,1,2,3] ?_
 rintro e w1 gs ⟨e',hle,m',d',nL,bg,aJ,rfl,hs',hx',rfl⟩ HT;simp only [PU] at HT;have HS:=Vh hs';have HX:=Vh (AA.1 hx');clear hs' hx' k1;go_wp2
 go_ret
 exact ⟨_,⟨_,aJ,rfl,⟨pb,e',m',d',nL,bg,HS,HX.1,rfl⟩,HX.2,rfl⟩,HT.sum⟩
theorem q90 (hc:tH L wb s n k g) (hx:uU L x p lg gF) (hy:Gf s ⟨k,x,p,lg⟩) (hm:Bh s ⟨k,x,p,lg⟩=false) :
 Qa prog 378 #[Qb wb] [g,gF] fun en gs=>en=U3 (.bool false)/\∃ g' aJ,tH L wb s n k g'/\uU L x p lg aJ/\gs=[g',aJ]:=by
 obtain ⟨pb,e,m,d,cB,gK,hs,hk,rfl⟩:=hc;have hd:=kV.dU (n:=n) (Ls L wb (Qb pb)) hs (x:=(⟨k,x,p,lg⟩:ZW)) (AA.2 ⟨hk,hx⟩) hy pb hm;obtain ⟨hv,gh,hl,rfl⟩:=hk;refine GO fun w HT=>?_
 have T1:=HT.sum (H':=[qn wb L.fb (Qb pb) hv k.worked,aV.aH pb m d n++(cB++(gh++e)),gF]);have k1:=T1.c 0 0 1;simp only [qc1,az] at k1;have lt:=T1.l 0 0;simp only [] at lt;have HD:=Vh hd;have HS:=Vh hs;have HT:=Vh (HT.out.m [aV.aH pb m d n,cB,qn wb L.fb (Qb pb) hv k.worked++(gh++e),gF]);clear hs hl hx hy hm hd T1;go_enter func378,ntmps378
 go_wp2_with fail
 refine Qa.run HD HT [0,1,2,3] ?_
 rintro e w1 gs ⟨bg,aJ,rfl,hx',rfl⟩ HT;simp only [PU] at HT;have HX:=Vh (AA.1 hx');clear hx' k1;go_wp2
 go_ret
 exact ⟨_,⟨rfl,_,aJ,⟨pb,e,m,d,cB,bg,HS,HX.1,rfl⟩,HX.2,rfl⟩,HT.sum⟩
theorem q8u (hc:tH L wb s n k g) (hx:uU L x p lg gF) (hy:Gf s ⟨k,x,p,lg⟩) :
 Qa prog 377 #[Qb wb] [g,gF] fun en gs=>en=U3 (.bool (Bh s ⟨k,x,p,lg⟩))/\∃ g' aJ,tH L wb s n k g'/\uU L x p lg aJ/\gs=[g',aJ]:=by
 obtain ⟨pb,e,m,d,cB,gK,hs,hk,rfl⟩:=hc;have hd:=kV.dS (n:=n) (Ls L wb (Qb pb)) hs (x:=(⟨k,x,p,lg⟩:ZW)) (AA.2 ⟨hk,hx⟩) hy pb;have hd:Qa prog 146 _ _ fun en gs=>∃ bg aJ,en=U3 (.bool (Bh s ⟨k,x,p,lg⟩))/\rf L wb (Qb pb) e ⟨k,x,p,lg⟩ bg aJ/\_:=hd
 generalize Bh s ⟨k,x,p,lg⟩=v at *;obtain ⟨hv,gh,hl,rfl⟩:=hk;refine GO fun w HT=>?_
 have T1:=HT.sum (H':=[qn wb L.fb (Qb pb) hv k.worked,aV.aH pb m d n++(cB++(gh++e)),gF]);have k1:=T1.c 0 0 1;simp only [qc1,az] at k1;have lt:=T1.l 0 0;simp only [] at lt;have HD:=Vh hd;have HS:=Vh hs;have HT:=Vh (HT.out.m [aV.aH pb m d n,cB,qn wb L.fb (Qb pb) hv k.worked++(gh++e),gF]);clear hs hl hx hy hd T1;go_enter func377,ntmps377
 go_wp2_with fail
 refine Qa.run HD HT [0,1,2,3] ?_
 rintro e w1 gs ⟨bg,aJ,rfl,hx',rfl⟩ HT;simp only [PU] at HT;have HX:=Vh (AA.1 hx');clear hx' k1;go_wp2
 go_ret
 exact ⟨_,⟨rfl,_,aJ,⟨pb,e,m,d,cB,bg,HS,HX.1,rfl⟩,HX.2,rfl⟩,HT.sum⟩
def Fh:List Xj->Xj
 | []=>Xj.zero
 | f::_=>f
theorem q14 (hc:tH L wb s n k g) (hn:k.holds.length<=1000):Qa prog 167 #[Qb wb] [g] fun en gs=>en=U3 (UF #[.agg (Fh k.holds).vals.toArray,.bool (!k.holds.isEmpty)])/\gs=[g]:=by
 obtain ⟨pb,e,m,d,cB,gK,hs,⟨hv,gh,hl,rfl⟩,rfl⟩:=hc;cases hh:k.holds with
 | nil =>
   rw [show k.holds.length=0 from by rw [hh];rfl] at hl;obtain ⟨av,cap,rfl⟩:=Q3.val hl;refine GO fun w HT=>?_
   have HT:=Vh (HT.out.sum (H':=[qn wb L.fb (Qb pb) (.slice av 0 cap) k.worked,aV.aH pb m d n++(cB++(gh++e))]));have k2:=HT.c 0 0 2;simp only [qc1,az] at k2;have lt:=HT.l 0 0;simp only [] at lt;clear hs hl hh;go_enter func167,ntmps167
   go_wp2
   have HT2:=Vh (HT.out.a 63 #[U1 U2 0,U1 U2 0,U1 U2 0,U1 U2 0]);obtain ⟨r0,r1,r2,r3⟩:=HT2.c4 2 0 0 1 2 3;simp only [aN] at r0 r1 r2 r3;exact UT (v:=UF #[.agg #[U1 U2 0,U1 U2 0,U1 U2 0,U1 U2 0],.bool false]) (by simp [results,results167,go_sem,r0,r1,r2,r3]) rfl ⟨_,⟨rfl,rfl⟩,(HT2.p [0,1]).sum⟩
 | cons f l =>
   have h0:0<k.holds.length:=by rw [hh];exact Nat.zero_lt_succ _
   obtain ⟨hb,hcap,dQ,rfl,hgh,hc1,hc2,hc3,hc4⟩:=hl.open h0
   have hf0:(fires k.holds)[0]?=some (U1 U2 f.id)/\(fires k.holds)[1]?=some (U1 U2 f.gen)/\(fires k.holds)[2]?=some (U1 U2 f.dl)/\(fires k.holds)[3]?=some (U1 U2 f.tick):=by
    rw [hh];exact ⟨rfl,rfl,rfl,rfl⟩
   obtain ⟨q0,q1,q2,q3⟩:=hf0;have a0:=(hc4 0 (by omega)).trans q0;have a1:=(hc4 1 (by omega)).trans q1;have a2:=(hc4 2 (by omega)).trans q2;have a3:=(hc4 3 (by omega)).trans q3;refine GO fun w HT=>?_
   have HT:=Vh (HT.out.sum (H':=[qn wb L.fb (Qb pb) (.slice (some ⟨hb,0,none⟩) k.holds.length hcap) k.worked,gh,aV.aH pb m d n++(cB++e)]));rw [hgh] at HT;obtain ⟨N,hN⟩:∃ N,k.holds.length=N:=⟨_,rfl⟩;rw [hN] at HT h0 hc1 hn |-;have p0:=(HT.c 1 0 0).trans a0;have p1:=(HT.c 1 0 1).trans a1;have p2:=(HT.c 1 0 2).trans a2;have p3:=(HT.c 1 0 3).trans a3;have k2:=HT.c 0 0 2;simp only [qc1,az] at k2;have lt:=HT.l 0 0;have lt2:=HT.l 1 0;simp only [] at lt lt2;clear hs hl hh hc2 hc3 hc4 a0 a1 a2 a3 q0 q1 q2 q3;go_enter func167,ntmps167
   go_wp2
   have HT2:=Vh (HT.out.a 63 #[U1 U2 f.id,U1 U2 f.gen,U1 U2 f.dl,U1 U2 f.tick]);obtain ⟨r0,r1,r2,r3⟩:=HT2.c4 3 0 0 1 2 3;simp only [aN] at r0 r1 r2 r3;have T9:=HT2.p [0,1,2];change TG _ w [_,[cl hb 63 dQ],_] _ at T9
   rw [<- hgh] at T9;exact UT (v:=UF #[.agg #[U1 U2 f.id,U1 U2 f.gen,U1 U2 f.dl,U1 U2 f.tick],.bool true]) (by simp [results,results167,go_sem,r0,r1,r2,r3]) rfl ⟨_,⟨rfl,rfl⟩,T9.sum⟩
end
end
section
open Go.RowKit Go.Shelf
attribute [local go_sem] UW
def tX:yK:=⟨[],0⟩
def J2:SW:=.at (some .ready) .eX
theorem qvu (L:Lay):Qa prog 245 #[Qb L.fb] [] fun en gs=>∃ wb g,en=U3 (UF #[Qb wb,U1 U8 0])/\tH L wb J2 0 tX g/\gs=[g]:=by
 have kz:=Vh (show ∀ wb (m d:Value) cB l,(∀ e,fw l e->(wL L wb (UN none)).SV e J2 m d cB)->_ from fun wb m d cB l h=>aV.iM (Kw L wb (UN none) l) (h l (fun b hb=>hb)));refine GO fun w HT=>?_
 go_enter func245,ntmps245
 go_wp2_with fail
 refine Qa.run (NB L w.heap.size (UN none)) (HT.a 311 (qc1 L.fb (UN none) (.slice none 0 0) 0)) [] ?_
 rintro e w1 gs ⟨cB,l,⟨m,d,rfl,hs⟩,rfl⟩ HT;simp only [PU] at HT;have HS:=Vh hs;clear hs;go_wp2_with fail
 refine Qa.run (kz _ _ _ _ _ HS) (HT) [1] ?_
 rintro e w1 gs ⟨pb,rfl,rfl⟩ HT;simp only [PU] at HT;have k1:=HT.c 0 0 1;have fk1:=HT.f 0 0 1;simp only [qc1,az] at k1;go_wp2
 go_ret2
 exact ⟨_,⟨_,_,rfl,⟨pb,l,m,d,cB,qn w.heap.size L.fb (Qb pb) (.slice none 0 0) 0++([]++l),HS l (fun b hb=>hb),⟨_,[],X7 _ _,rfl⟩,rfl⟩,rfl⟩,(((HT.set 0 0 rfl 1 (Qb pb)).eq (H':=[qn w.heap.size L.fb (Qb pb) (.slice none 0 0) 0,cB,l,aV.aH pb m d 0]) rfl).p [3,1,0,2]).sum⟩
def q69 (L:Lay) (n:Nat) (x:Qi) (gC:List ak) (O:GH):zM where
 σ:=Nat
 O _ O':=O'=O
 T _ H:=∃ i,H.getD i []=gC/\i<H.length
 step k v G k':=k<n/\(∃ wb g,tH L wb J2 0 tX g/\v=#[Qb wb]/\G=[g])/\k'=k+1
 fin k:=k=n
theorem O5 {α:Type}:∀ (l:List (List α)) (i:Nat),i<l.length->l.flatten.Perm (l.getD i []++(l.eraseIdx i).flatten)
 | [],i,h=>absurd h (Nat.not_lt_zero _)
 | a::l,0,_=>List.Perm.refl _
 | a::l,i+1,h=>by
   have ih:=O5 l i (Nat.lt_of_succ_lt_succ h)
   show (a++l.flatten).Perm (l.getD i []++(a++(l.eraseIdx i).flatten))
   refine (ih.append_left a).trans ?_
   rw [<- Vi,<- Vi];exact List.perm_append_comm.append_right _
theorem q62 {P:Program} {f:FuncId} {args:Array Value} {g:List ak} {R:Ending->GH->Prop} (hd:Qa P f args [g] R) {H:GH} {i:Nat} (hi:H.getD i []=g) (hl:i<H.length) {W:World} (hH:Yz H W) :
 Calls P f args W fun e w'=>∃ gs K,R e gs/\TG H W (gs++K) w'/\H.flatten.Perm (g++K.flatten):=by
 have hp:=O5 H i hl;rw [hi] at hp;have h2:Yz ([g]++H.eraseIdx i) W:=hH.re (by simpa using hp);refine (hd W h2.left).mono ?_
 rintro e w' ⟨gs,hR,T⟩;exact ⟨gs,_,hR,(T.frame h2).dO (by simpa using hp.symm),hp⟩
theorem qr6 (a b c d e f:Value) (w:World):(Instr.field 30 (.agg #[a,b,c,d,e,f]) 4).run prog w=.ok e w:=by kernel_rfl
theorem qnn (L:Lay) (bx:Nat) {x:Qi} {gC:List ak} (hx:Qf L x gC) {n:Nat} (hn:x.f.cfg.wk=n) (hn2:n<=1000) :
 sU prog 244 #[Qb bx] (q69 L n x gC [[cl bx 25 #[Qb L.fb]]]) (0:Nat):=by
 intro ly J Jx hT hY H0 O0 W hJ0 hO hH;have l8:O0=[[cl bx 25 #[Qb L.fb]]]:=hO;subst l8;have T0:=TG.refl hH;have c0:=(TG.refl hH.right).c 0 0 0;simp only [bP] at c0;obtain ⟨i0,hi0,hl0⟩:=hT (0:Nat) H0 hJ0;have Bv:=Vh (Pp hx);have HB:=Vh (qvu L);have HH:=Vh (UJ hJ0 T0);have HY:=Vh hY;have HI:=Vh (UJ hi0 hl0);clear hO hH hY hT hJ0 T0 hi0 hl0 hx;refine (UX (n:=9)).1 (callsIn_of_wp func244 rfl trivial ?_ rfl)
 simp only [ntmps244,V7,UH,UR,Nat.reduceAdd,Nat.reduceSub,UY,UZ,V8,V6,US,UO];gi_wp2
 refine ⟨trivial,(UX (n:=8)).2 ((q62 Bv (i:=i0) (H:=H0++[[cl bx 25 #[Qb L.fb]]]) (by rw [U5,Va HI.out.2,<- U5];exact HI.1) (by rw [UD];have:=HI.2;omega) HH.2.has).mono ?_)⟩
 rintro e W1 ⟨gs,K,⟨rfl,rfl⟩,T1,hp⟩;have HT1:=Vh (T1.re (H':=H0++[[cl bx 25 #[Qb L.fb]]]) (by simpa using hp.symm));clear T1 hp;have hf4:=qr6 (U1 U8 x.f.cfg.sh) (U1 U8 x.f.cfg.cap) (U1 U8 x.f.cfg.ring) (U1 U8 x.f.cfg.room) (U1 U8 n) (U1 U8 x.f.cfg.jA) W1;unfold Cfg.cells;rw [hn];have M7:=HH.1;have T0:=Vh (HT1.out);have HJ:=Vh M7;clear M7 HH HI HT1 c0;gi_wp2
 gi_loopw [8] (fun i wr=>∃ (k:Nat) (H:GH),k<=n/\i=U1 U8 k/\J k H/\TG (H0++[[cl bx 25 #[Qb L.fb]]]) W (H++[[cl bx 25 #[Qb L.fb]]]) wr) (fun i _=>n+1 - (intOf i).toNat)
 case atStart=>exact ⟨0,H0,by omega,rfl,HJ,T0⟩
 case round =>
  obtain ⟨k,H,hk,rfl,hj,T⟩:=hrel;clear HJ T0 hf4;by_cases hlt:k<n
  ·have a0:=(TG.refl T.has.right).c 0 0 0
   simp only [bP] at a0;have HT:=Vh T;have HK:=Vh hj;clear T hj;gi_wp2
   refine ⟨trivial,(UX (n:=8)).2 ((Qa.use HB HT [] rfl rfl).mono ?_)⟩
   rintro e W1 ⟨gs,⟨wb,g,rfl,hw,rfl⟩,Ta⟩
   have Tb:TG (H0++[[cl bx 25 #[Qb L.fb]]]) W ((H++[g])++[[cl bx 25 #[Qb L.fb]]]) W1:=Ta.re (by
    classical
    refine UB.2 fun a=>?_
    simp only [j3,UI,UL,UQ,UK,UM]
    omega)
   have HT2:=Vh Tb;have hy0:=HY.out k #[Qb wb] [g] (k+1) H _ HK ⟨hlt,⟨wb,g,hw,rfl,rfl⟩,rfl⟩ Tb.has.left;obtain ⟨fn,tmps,assign,body,hy,hR⟩:=Z8 (n:=8) hy0;have HRR:=Vh hR;clear hy0 hR hw Ta Tb;gi_wp2
   refine HRR.mono ?_
   rintro e W' ⟨H',hT',hj'⟩;have T7:=HT2.trans (hT'.frame HT2.has);have ed:=Vh T7;rcases hj' with ⟨rfl,hj'⟩ | ⟨rfl,hj'⟩
   ·have HJ:=Vh hj'
    clear hT' T7 hj' hy a0;gi_wp2
    go_roundw
    case rel=>exact ⟨k+1,H',by omega,by go_num,HJ,ed⟩
    case measure=>simp [intOf];omega
   ·have HJ:=Vh hj'
    clear hT' T7 hj' hy a0;gi_wp2
    refine UT (Vf rfl _ _ _) rfl ?_
    exact ⟨⟨_,rfl⟩,k+1,H',_,ed,.inr HJ⟩
  ·obtain rfl:k=n:=by omega
   have HT:=Vh T;have HK:=Vh hj;clear T hj;gi_wp2
   go_end0
   exact ⟨⟨_,rfl⟩,k,H,_,HT,.inl ⟨rfl,HK,rfl⟩⟩
structure dz where
 wb:Nat
 s:SW
 n:Int
 k:yK
def kU (L:Lay) (l:List dz) (g:List ak):Prop:=Yy (fun (z:dz) g=>tH L z.wb z.s z.n z.k g) l g
def Ba (z:dz):Prop:=z.s=J2/\z.n=0/\z.k=tX
def tL (l:List dz):List Value:=l.map fun z=>Qb z.wb
theorem qsd:(prog.info? 269).map (fun i=>(i.zero,i.size,i.bytes))=some (some (UN none),1,8):=by kernel_rfl
theorem qys (L:Lay):Qa prog 202 #[Qb L.fb] [] fun e gs=>∃ bx,e=U3 (U4 (U6 244) #[] #[Qb bx])/\gs=[[cl bx 25 #[Qb L.fb]]]:=by
 refine GO fun w HT=>?_
 go_enter func202,ntmps202
 go_wp2
 go_ret
 exact ⟨_,⟨_,rfl,rfl⟩,(HT.alloc rfl _ _)⟩
theorem qz2 {L:Lay} {x:Qi} {gC:List ak} (hx:Qf L x gC) {n:Nat} (hn:x.f.cfg.wk=n) (hn2:n<=1000):Qa prog 162 #[Qb L.fb] [gC] fun e gs =>
 ∃ v gr gW l,e=U3 v/\l.length=n/\(∀ z∈l,Ba z)/\Q3 269 1 v n (tL l) gr/\kU L l gW/\gs=[gC,gr,gW]:=by
 have HI:=Vh (show ∀ bx,_ from fun bx=>qnn L bx hx hn hn2);have eg:=enters_of func244 (P:=prog) (by kernel_rfl) rfl;refine GO fun w HT=>?_
 clear hx hn;refine Zo func162 rfl ?_
 simp only [ntmps162,V7,UH,UR,Nat.reduceAdd,Nat.reduceSub,UY,UZ,V8,V6,US,UO];go_wp2_with fail
 obtain ⟨sb,hsb⟩:∃ sb,w.heap.size=sb:=⟨_,rfl⟩;have HT:=Vh (HT.out.alloc (k:=sb) hsb.symm 206 #[.slice none 0 0]);rw [hsb];clear hsb;go_wp2_with fail
 refine Qa.run (qys L) (HT) [] ?_
 rintro e w1 gs ⟨bx,rfl,rfl⟩ HT;simp only [PU] at HT;have T0:=HT.re (H':=[gC,[cl sb 206 #[.slice none 0 0]],[],[]]++[[cl bx 25 #[Qb L.fb]]]) (by simp);go_wp2_with fail
 refine Aq (H0:=[gC,[cl sb 206 #[.slice none 0 0]],[],[]]) (O0:=[[cl bx 25 #[Qb L.fb]]]) rfl eg (HI bx) ?hps T0 ?hO (fun (k:Nat) H=>∃ v gr gW l,H=[gC,[cl sb 206 #[v]],gr,gW]/\l.length=k/\(∀ z∈l,Ba z)/\Q3 269 1 v k (tL l) gr/\kU L l gW) (fun _ _ _=>False) ?h0 ?hT ?hbody ?hdone ?hstop
 case hps=>rintro s x G s' ⟨_,⟨_,_,_,rfl,_⟩,_⟩;rfl
 case hO=>exact rfl
 case h0=>exact ⟨_,[],[],[],rfl,rfl,(by intro z h;cases h),X7 _ _,rfl⟩
 case hT=>rintro s H K ⟨v,gr,gW,l,rfl,_⟩;exact ⟨0,rfl,by simp⟩
 case hbody =>
  rintro (k:Nat) x G (k':Nat) H W ly ⟨v,gr,gW,l,rfl,hl,hnw,hr,hf⟩ ⟨hk,⟨wb,g,hw,rfl,rfl⟩,rfl⟩ hH;have HH:=Vh hH;have HR:=Vh hr;have HF:=Vh (show kU L (l++[⟨wb,J2,0,tX⟩]) (gW++g) from Yy.snoc hf hw)
  have HN:=Vh (show ∀ z∈l++[⟨wb,J2,0,tX⟩],Ba z from fun z hz=>(Vk.1 hz).elim (hnw z) (fun h=>by
   obtain rfl:z=_:=by simpa using h
   exact ⟨rfl,rfl,rfl⟩))
  have HL:=Vh hl;have HP:=Vh (show tL (l++[⟨wb,J2,0,tX⟩])=tL l++[Qb wb] from by simp [tL]);obtain ⟨av,cap,hv⟩:=Q3.val hr;subst hv;clear hH hr hf hw hnw hl;refine Zm (n:=9) ?_
  gi_wp2
  refine ⟨_,TG.refl HH,fun Wb hb=>?_⟩
  have HT:=Vh (TG.refl hb);have c0:=HT.c 1 0 0;have f0:=HT.f 1 0 0;simp only [bP] at c0;clear hb HH;refine Zm (n:=9) ?_
  have ho1:∀ u∈[Qb wb],u.oneCell'=true:=fun u hu=>by
   obtain rfl:u=Qb wb:=(by simpa using hu);rfl
  have ho2:k+1<=maxLen:=by unfold maxLen;omega
  have ho3:(k+1)*8<=140737488355328:=by omega
  gi_wp2_with (
   gi_at_builtin
   with_reducible refine Ju rfl (.tmp 8) (.tmp 10) 206 rfl 269 1 8 _ underlying206 qsd rfl (by decide) (HT.out.aT _) 2 rfl rfl HR.out rfl ⟨Wb.heap.size,0,none⟩ 1 1 [Qb wb] rfl rfl (Zy _ _ _) ho1 ho2 ho3 ?_;skip)
  ·intro v1 w2 g1 r1 T1
   have T1:=T1.eq (H':=[gC,[cl sb 206 #[.slice av k cap]],g1,gW,g]) rfl;have c1:=T1.c 1 0 0;have f1:=T1.f 1 0 0;obtain ⟨a1,di,hv1⟩:=Q3.val r1;subst hv1;have T1:=Vh T1;have r1:=Vh r1;simp only [bP] at c1;gi_wp2
   exact ⟨[gC,[cl sb 206 #[.slice a1 (k+1) di]],g1,gW++g],⟨_,_,_,_,rfl,by rw [UD,HL.out];rfl,HN,by rw [HP.out];exact r1.out,HF⟩,(((T1.set 1 0 rfl 0 (.slice a1 (k+1) di)).eq (H':=[gC,[cl sb 206 #[.slice a1 (k+1) di]],g1,gW,g]) rfl).sum)⟩
 case hdone =>
  rintro (k:Nat) H O' W D hf' ⟨v,gr,gW,l,rfl,hl,hnw,hr,hf⟩ hO hT;have hf2:k=n:=hf';subst hf2;have l8:O'=[[cl bx 25 #[Qb L.fb]]]:=hO;subst l8;have c0:=hT.c 1 0 0;simp only [bP] at c0;have HX:=Vh (UJ hl (UJ hnw (UJ hr (UJ hf hT))));obtain ⟨av,cap,hv⟩:=Q3.val hr;subst hv;clear hf hO hr hT hl hnw hf';go_wp2
  obtain ⟨hl,hnw,hr,hf,hT⟩:=HX.out;have T3:=hT.dE (.deferred none)
  have T4:TG [gC] w ([gC,gr,gW]++[[cl sb 206 #[.slice av k cap],cl bx 25 #[Qb L.fb],(D,.deferred none)]]) (W.putObj D (.deferred none)):=T3.re (by
   classical
   simp only [UI,UL,UQ,UK,UO,US];refine UB.2 fun a=>?_
   simp only [UM,List.count_cons,List.count_nil]
   omega)
  exact J4 (v:=.slice av k cap) hT.has.last (by simp [results,results162,go_sem]) ⟨_,⟨_,gr,gW,l,rfl,hl,hnw,hr,hf,rfl⟩,T4.dropLast⟩
 case hstop=>intro s cd H O W D h;exact h.elim
end
section
open Go.RowKit Go.Shelf
theorem vW {α:Type} {Pr:Program} {f:FuncId} {args:Array Value} {P:α->List ak->Prop} {l:List α} {g:List ak} {k:Nat} {a:α} (hf:Yy P l g) (hk:l[k]?=some a) {rest:GH} {R:Ending->α->GH->Prop}
 (hd:∀ ga,P a ga->Qa Pr f args (ga::rest) fun e gs=>∃ a' l6 bS,R e a' bS/\P a' l6/\gs=l6::bS) :
 Qa Pr f args (g::rest) fun e gs=>∃ a' g' bS,R e a' bS/\Yy P (l.set k a') g'/\gs=g'::bS:=by
 obtain ⟨x,y,hx,hp,hr⟩:=hf.out hk;intro w hw
 have h2:Yz ((x::rest)++[y]) w:=hw.re (by
  classical
  have:=UB.1 hp;refine UB.2 fun b=>?_
  have:=this b;simp only [UI,UL,UQ,UK,UM] at this |-
  omega)
 refine (hd x hx w h2.left).mono ?_
 rintro e w' ⟨gs,⟨a',l6,bS,hR,hP,rfl⟩,T⟩;obtain ⟨g',hg',hp'⟩:=hr a' l6 hP;refine ⟨_,⟨a',g',bS,hR,hg',rfl⟩,((T.frame h2).re (H':=g'::bS) ?_).dO ?_⟩
 ·classical
  have:=UB.1 hp';refine UB.2 fun b=>?_
  have:=this b;simp only [UI,UL,UQ,UK,UM] at this |-;omega
 ·classical
  have:=UB.1 hp;refine UB.2 fun b=>?_
  have:=this b;simp only [UI,UL,UQ,UK,UM] at this |-;omega
theorem za {α:Type} {l:List α} {k:Nat} {a:α} (h:l[k]?=some a):l.set k a=l:=by
 obtain ⟨h1,h2⟩:=UC.1 h;subst h2;exact List.set_getElem_self h1
theorem q50 {L:Lay} {l:List dz} {gW:List ak} {k:Nat} {z:dz} (hf:kU L l gW) (hk:l[k]?=some z) (hn:z.k.holds.length<=1000) :
 Qa prog 167 #[Qb z.wb] [gW] fun e gs=>∃ g',e=U3 (UF #[.agg (Fh z.k.holds).vals.toArray,.bool (!z.k.holds.isEmpty)])/\kU L l g'/\gs=[g']:=by
 refine (vW (R:=fun e a' bS=>e=U3 (UF #[.agg (Fh z.k.holds).vals.toArray,.bool (!z.k.holds.isEmpty)])/\a'=z/\bS=[]) hf hk (fun ga hga=>(q14 hga hn).mono ?_)).mono ?_
 ·rintro e gs ⟨rfl,rfl⟩
  exact ⟨z,_,[],⟨rfl,rfl,rfl⟩,hga,rfl⟩
 ·rintro e gs ⟨a',g',bS,⟨rfl,rfl,rfl⟩,hg',rfl⟩
  rw [za hk] at hg';exact ⟨g',rfl,hg',rfl⟩
def Zk (l:List dz):Bool:=l.all fun z=>z.k.holds.isEmpty
def Y8 (l:List dz) (p:Q2):Bool:=Zk l && decide ((p.ch.length:Int)+p.sp.length=0)
theorem q4z {l:List dz} {v:Value} {gr:List ak} {n:Nat} (hr:Q3 269 1 v n (tL l) gr) {h H:GH} {w w':World} (T:TG h w H w') (i:Nat) (hg:H.getD i []=gr) (hi:i<H.length) {k:Nat} {z:dz} (hk:l[k]?=some z) :
 ∃ b cap,v=.slice (some ⟨b,0,none⟩) n cap/\w'.cell? ⟨b,k,none⟩=some (Qb z.wb):=by
 have hlen:l.length=n:=by
  have:=hr.1;simpa [tL] using this
 have hkl:=(UC.1 hk).1;obtain ⟨b,cap,cur,hv,hgr,_,_,_,dQ⟩:=hr.open (by omega);refine ⟨b,cap,hv,?_⟩
 have:=T.cell i 0 (b:=b) (T:=269) (C:=cur) (by rw [hg,hgr];rfl) k;rw [this,dQ k (by omega)]
 show (l.map _)[k]?=_
 rw [Vg,hk];rfl
theorem qml {l:List dz} {k:Nat} {z:dz} (hk:l[k]?=some z) (hh:z.k.holds.isEmpty=false):Zk l=false:=by
 unfold Zk;rw [List.all_eq_false];exact ⟨z,UE hk,by rw [hh];decide⟩
theorem qie {l:List dz} {k:Nat} {z:dz} (hk:l[k]?=some z) (hh:z.k.holds.isEmpty=true) (h:Zk (l.take k)=true):Zk (l.take (k+1))=true:=by
 unfold Zk at h |-;obtain ⟨h1,h2⟩:=UC.1 hk;rw [List.take_succ_eq_append_getElem h1,List.all_append,h,h2];simp [hh]
section
variable {L:Lay} {x:Qi} {p:Q2} {l:List dz} {gC gP gr gW:List ak} {n:Nat} {v:Value}
theorem qz3 (hx:Qf L x gC) (aU:Zd L.p.pb p gP) (hch:p.ch.length<=1000000) (hsp:p.sp.length<=1000000) (hr:Q3 269 1 v n (tL l) gr) (hf:kU L l gW) (hn:n<=1000) (hh:∀ z∈l,z.k.holds.length<=1000) :
 Qa prog 120 #[Qb L.fb,v] [gW,gr,gC,gP] fun e gs=>∃ gM,e=U3 (.bool (Y8 l p))/\kU L l gM/\gs=[gM,gr,gC,gP]:=by
 have hlen:l.length=n:=by
  have:=hr.1;simpa [tL] using this
 obtain ⟨av,cap,rfl⟩:=Q3.val hr;have hpl:=QU aU ⟨hch,hsp⟩;have MB:=Vh (Yf hx);unfold Y8;generalize (p.ch.length:Int)+p.sp.length=m at *;have uu:=Vh hpl;have HR:=Vh hr;have HF:=Vh hf;have HHH:=Vh hh;have mW:=Vh hlen;refine GO fun w HT=>?_
 clear hx aU hch hsp hr hf hh hlen hpl;go_enter func120,ntmps120
 go_wp2_with fail
 go_loopw [11] (fun i wr=>∃ (k:Nat) (iZ:List ak),k<=n/\i=U1 U8 k/\kU L l iZ/\Zk (l.take k)=true/\TG [gW,gr,gC,gP] w [iZ,gr,gC,gP] wr) (fun i _=>n+1 - (intOf i).toNat)
 case atStart=>exact ⟨0,gW,by omega,rfl,HF,rfl,HT⟩
 case round =>
  obtain ⟨k,iZ,hk,rfl,hf1,hno,T⟩:=hrel;clear HF;by_cases hkl:k<n
  ·obtain ⟨z,hz⟩:∃ z,l[k]?=some z:=⟨_,UG (by have:=mW.out;omega)⟩
   obtain ⟨b,cap2,hv,hb⟩:=q4z HR T 1 rfl (by simp) hz;obtain ⟨rfl,rfl⟩:av=some ⟨b,0,none⟩/\cap=cap2:=by cases hv;exact ⟨rfl,rfl⟩
   obtain ⟨fz,hfz⟩:∃ f,Fh z.k.holds=f:=⟨_,rfl⟩;have Bz:=Vh (q50 hf1 hz (HHH z (UE hz)));rw [hfz,J8] at Bz;have HZ:=Vh hz;have EB:=Vh hno;have HT:=Vh T;clear hf1 hz hv T hno hfz;cases he:z.k.holds.isEmpty with
   | true =>
     rw [he] at Bz;go_wp2_with fail
     refine Qa.run Bz HT [0] ?_
     rintro e w1 gs ⟨l5,rfl,hf2,rfl⟩ HT;simp only [PU] at HT;have wP:=Vh hf2;have xS:=Vh (qie HZ he EB);clear hf2;go_wp2
     first | go_roundw | refine ⟨?rel,?measure⟩ | ((repeat apply Exists.intro);refine ⟨⟨?rel,rfl⟩,?measure⟩)
     case rel=>exact ⟨k+1,l5,by omega,by go_num,wP,xS,HT.aT _⟩
     case measure=>simp [intOf];omega
   | false =>
     rw [he] at Bz;go_wp2_with fail
     refine Qa.run Bz HT [0] ?_
     rintro e w1 gs ⟨l5,rfl,hf2,rfl⟩ HT;simp only [PU] at HT;have wP:=Vh hf2;have xS:=Vh (qml HZ he);clear hf2;go_wp2
     go_ret
     exact ⟨_,⟨l5,by rw [xS.out];rfl,wP,rfl⟩,HT.aT _⟩
  ·have hkn:k=n:=by omega
   subst hkn
   have vI:Zk l=true:=by
    have:=mW.out;rw [List.take_of_length_le (by omega)] at hno;exact hno
   have wP:=Vh hf1;have HT:=Vh T;clear hf1 T hno;by_cases hm:m=0
   ·have HD:=Vh (show (Zk l && decide (m=0))=true from by rw [vI,hm];rfl)
    have hmb:(m == 0)=true:=by rw [hm];rfl
    clear vI;go_wp2_with fail
    refine Qd.run MB HT [2] ?_
    rintro e wq rfl HT;go_wp2_with fail
    refine Qd.run uu HT [3] ?_
    rintro e wq rfl HT;go_wp2
    go_ret
    exact ⟨_,⟨_,by rw [HD.out];rfl,wP,rfl⟩,HT⟩
   ·have hd:decide (m=0)=false:=decide_eq_false hm
    have HD:=Vh (show (Zk l && decide (m=0))=false from by rw [vI,hd];rfl);have hmb:(m == 0)=false:=by simpa using hm
    clear vI hd;go_wp2_with fail
    refine Qd.run MB HT [2] ?_
    rintro e wq rfl HT;go_wp2_with fail
    refine Qd.run uu HT [3] ?_
    rintro e wq rfl HT;go_wp2
    go_ret
    exact ⟨_,⟨_,by rw [HD.out];rfl,wP,rfl⟩,HT⟩
end
end
end Go.Proofs.YtcneeepdclgdcaaGreat
