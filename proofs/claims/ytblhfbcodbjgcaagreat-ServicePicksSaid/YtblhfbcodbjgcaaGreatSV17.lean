import Derived.Test.YtblhfbcodbjgcaaGreatSV16
import Derived.Test.YtblhfbcodbjgcaaGreatSV4
import Derived.Test.YtblhfbcodbjgcaaGreatSV5
import Derived.Test.YtblhfbcodbjgcaaGreatSV13
namespace Go.Proofs.YtblhfbcodbjgcaaGreat
set_option linter.unusedVariables false
set_option linter.unusedSimpArgs false
section
open Go.RowKit Go.Shelf
structure TickS where
 pos:Int
 next:Int
 status:Int
 filled:Bool
def newTick:TickS:=⟨0,0,0,false⟩
def SlotS.zero:SlotS:=⟨0,TaskS.zero⟩
def RingS.at (r:RingS) (pos:Int):Nat:=(pos % (r.slots.length:Int)).toNat
def RingS.slot (r:RingS) (pos:Int):SlotS:=r.slots.getD (r.at pos) SlotS.zero
def lookT (r:RingS) (t:TickS):TickS:={ t with pos:=r.tail,next:=1 }
def weighT (r:RingS) (t:TickS):TickS :=
 if 2*t.pos<(r.slot t.pos).seq then { t with next:=0 } else if (r.slot t.pos).seq<2*t.pos then { t with status:=1 } else { t with next:=2 }
def takeT (r:RingS) (t:TickS):RingS × TickS :=
 if r.tail=t.pos then ({ r with tail:=t.pos+1 },{ t with next:=0,status:=2 }) else (r,{ t with next:=0 })
def stepT (r:RingS) (t:TickS):RingS × TickS :=
 if t.status≠0 then (r,t) else if t.next=0 then (r,lookT r t) else if t.next=1 then (r,weighT r t) else takeT r t
def fillT (r:RingS) (t:TickS) (v:TaskS):RingS × TickS × Int :=
 if t.status=2∧t.filled=false then ({ r with slots:=r.slots.set (r.at t.pos) ⟨2*t.pos+1,v⟩ },{ t with filled:=true },0) else (r,t,7)
def RingS.ready (r:RingS):Bool:=(r.slot r.head).seq == 2*r.head+1
def popR (r:RingS):RingS × TaskS × Int :=
 if r.ready=true then ({ r with slots:=r.slots.set (r.at r.head) ⟨2*(r.head+r.slots.length),TaskS.zero⟩,head:=r.head+1 },(r.slot r.head).v,0) else (r,TaskS.zero,6)
structure RingB (r:RingS):Prop where
 n0:1≤r.slots.length
 n1:r.slots.length≤64
 t0:0≤r.tail
 t1:r.tail≤1099511627776
 h0:0≤r.head
 h1:r.head≤1099511627776
structure TickB (t:TickS):Prop where
 p0:0≤t.pos
 p1:t.pos≤1099511627776
 nx:t.next=0∨t.next=1∨t.next=2
 st:t.status=0∨t.status=1∨t.status=2
theorem stepT_b {r:RingS} {t:TickS} (hr:RingB r) (ht:TickB t):TickB (stepT r t).2:=by
 unfold stepT lookT weighT takeT
 have h1:=hr.t0;have h2:=hr.t1
 split
 ·exact ht
 ·split
  ·exact ⟨h1,h2,.inr (.inl rfl),ht.st⟩
  ·split
   ·split
    ·exact ⟨ht.p0,ht.p1,.inl rfl,ht.st⟩
    ·split
     ·exact ⟨ht.p0,ht.p1,ht.nx,.inr (.inl rfl)⟩
     ·exact ⟨ht.p0,ht.p1,.inr (.inr rfl),ht.st⟩
   ·split
    ·exact ⟨ht.p0,ht.p1,.inl rfl,.inr (.inr rfl)⟩
    ·exact ⟨ht.p0,ht.p1,.inl rfl,ht.st⟩
def TaskS.cells (t:TaskS):Array Value:=#[.int .u64 t.id,.int .i64 t.slot,.int .u64 t.gen,.int .u64 t.dl,.int .u64 t.per]
def tickC (rb:Nat) (t:TickS):Array Value:=#[ptr' rb,.int .i64 t.pos,.int .i64 t.next,.int .i64 t.status,.bool t.filled]
def tickG (tb rb:Nat) (t:TickS):List Blk:=[cl tb 332 (tickC rb t)]
structure ringC (sb:Nat) (r:RingS) (C:Array Value):Prop where
 size:C.size=6
 sl:C[0]?=some (.slice (some ⟨sb,0,none⟩) r.slots.length r.slots.length)
 tail:cellAt C 1 (.int .i64 r.tail)
 head:C[5]?=some (.int .i64 r.head)
structure slotsD (l:List SlotS) (D:Array Value):Prop where
 size:D.size=l.length*9
 at_:∀ i s,l[i]?=some s→slotAt D i s
theorem isRing.open {rb:Nat} {r:RingS} {g:List Blk} (h:isRing rb r g):∃ sb C D,g=[cl rb 231 C,cl sb 233 D]∧ringC sb r C∧slotsD r.slots D:=by
 obtain ⟨sb,C,D,rfl,h0,h1,h2,h3,h4,h5⟩:=h
 exact ⟨sb,C,D,rfl,⟨h0,h1,h2,h3⟩,⟨h4,h5⟩⟩
theorem isRing.mk' {rb sb:Nat} {r:RingS} {C D:Array Value} (h:ringC sb r C) (hd:slotsD r.slots D):isRing rb r [cl rb 231 C,cl sb 233 D] :=
 ⟨sb,C,D,rfl,h.size,h.sl,h.tail,h.head,hd.size,hd.at_⟩
theorem ringC.tailR {sb:Nat} {r:RingS} {C C':Array Value} (h:ringC sb r C) {x:Int} (rc:Recell C 1 (.int .i64 x) C'):ringC sb { r with tail:=x } C' :=
 ⟨rc.size.trans h.size,(rc.other 0 (by omega)).trans h.sl,rc.cell,(rc.other 5 (by omega)).trans h.head⟩
theorem ringC.headR {sb:Nat} {r:RingS} {C:Array Value} (h:ringC sb r C) (x:Int):ringC sb { r with head:=x } (C.setIfInBounds 5 (.int .i64 x)):=by
 obtain ⟨hs,hsl,⟨h0,l,t,u,h1,h2,h3⟩,hh⟩:=h
 exact ⟨by simpa using hs,(get_set_ne (by omega)).trans hsl,⟨(get_set_ne (by omega)).trans h0,l,t,u,(get_set_ne (by omega)).trans h1,(get_set_ne (by omega)).trans h2,(get_set_ne (by omega)).trans h3⟩,get_set_eq hh⟩
theorem ringC.withSlots {sb:Nat} {r:RingS} {C:Array Value} (h:ringC sb r C) {l:List SlotS} (hl:l.length=r.slots.length):ringC sb { r with slots:=l } C :=
 ⟨h.size,by have:=h.sl;simpa [hl] using this,h.tail,h.head⟩
theorem slotsD.re {l:List SlotS} {D D':Array Value} {k:Nat} {x:Int} {s:SlotS} (h:slotsD l D) (hk:l[k]?=some s) (rc:Recell D (k*9) (.int .i64 x) D'):slotsD (l.set k { s with seq:=x }) D':=by
 refine ⟨by rw [List.length_set];exact rc.size.trans h.size,fun i s' hs=>?_⟩
 rw [List.getElem?_set] at hs
 by_cases e:k=i
 ·subst e
  rw [if_pos rfl,if_pos (List.getElem?_eq_some_iff.1 hk).1] at hs
  cases hs
  obtain ⟨_,b0,b1,b2,b3,b4⟩:=h.at_ k s hk
  exact ⟨rc.cell,(rc.other _ (by omega)).trans b0,(rc.other _ (by omega)).trans b1,(rc.other _ (by omega)).trans b2,(rc.other _ (by omega)).trans b3,(rc.other _ (by omega)).trans b4⟩
 ·rw [if_neg e] at hs
  obtain ⟨a,b0,b1,b2,b3,b4⟩:=h.at_ i s' hs
  exact ⟨rc.cellOther a (by omega),(rc.other _ (by omega)).trans b0,(rc.other _ (by omega)).trans b1,(rc.other _ (by omega)).trans b2,(rc.other _ (by omega)).trans b3,(rc.other _ (by omega)).trans b4⟩
theorem slotsD.same {l:List SlotS} {D D':Array Value} {k:Nat} {s:SlotS} (h:slotsD l D) (hk:l[k]?=some s) (rc:Recell D (k*9) (.int .i64 s.seq) D'):slotsD l D':=by
 have:=h.re hk rc
 have e:l.set k { s with seq:=s.seq }=l:=fam_set_same hk
 exact e ▸ this
def putTask (D:Array Value) (o:Nat) (v:TaskS):Array Value:=((((D.setIfInBounds o (.int .u64 v.id)).setIfInBounds (o+1) (.int .i64 v.slot)).setIfInBounds (o+2) (.int .u64 v.gen)).setIfInBounds (o+3) (.int .u64 v.dl)).setIfInBounds (o+4) (.int .u64 v.per)
theorem putTask_ne {D:Array Value} {o j:Nat} {v:TaskS} (h:j<o∨o+5≤j):(putTask D o v)[j]?=D[j]?:=by
 unfold putTask
 rw [get_set_ne (by omega),get_set_ne (by omega),get_set_ne (by omega),get_set_ne (by omega),get_set_ne (by omega)]
theorem putTask_at {D:Array Value} {o:Nat} {u v:TaskS} (h:taskAt D o u):taskAt (putTask D o v) o v:=by
 obtain ⟨b0,b1,b2,b3,b4⟩:=h
 unfold putTask
 refine ⟨?_,?_,?_,?_,?_⟩
 ·rw [get_set_ne (by omega),get_set_ne (by omega),get_set_ne (by omega),get_set_ne (by omega)];exact get_set_eq b0
 ·rw [get_set_ne (by omega),get_set_ne (by omega),get_set_ne (by omega)];exact get_set_eq (by rw [get_set_ne (by omega)];exact b1)
 ·rw [get_set_ne (by omega),get_set_ne (by omega)];exact get_set_eq (by rw [get_set_ne (by omega),get_set_ne (by omega)];exact b2)
 ·rw [get_set_ne (by omega)];exact get_set_eq (by rw [get_set_ne (by omega),get_set_ne (by omega),get_set_ne (by omega)];exact b3)
 ·exact get_set_eq (by rw [get_set_ne (by omega),get_set_ne (by omega),get_set_ne (by omega),get_set_ne (by omega)];exact b4)
theorem slotsD.putV {l:List SlotS} {D:Array Value} {k:Nat} {s:SlotS} (h:slotsD l D) (hk:l[k]?=some s) (v:TaskS):slotsD (l.set k { s with v:=v }) (putTask D (k*9+4) v):=by
 refine ⟨by rw [List.length_set];unfold putTask;simpa using h.size,fun i s' hs=>?_⟩
 rw [List.getElem?_set] at hs
 by_cases e:k=i
 ·subst e
  rw [if_pos rfl,if_pos (List.getElem?_eq_some_iff.1 hk).1] at hs
  cases hs
  obtain ⟨⟨a0,l,t,u,a1,a2,a3⟩,b⟩:=h.at_ k s hk
  exact ⟨⟨(putTask_ne (by omega)).trans a0,l,t,u,(putTask_ne (by omega)).trans a1,(putTask_ne (by omega)).trans a2,(putTask_ne (by omega)).trans a3⟩,putTask_at b⟩
 ·rw [if_neg e] at hs
  obtain ⟨⟨a0,l,t,u,a1,a2,a3⟩,b0,b1,b2,b3,b4⟩:=h.at_ i s' hs
  exact ⟨⟨(putTask_ne (by omega)).trans a0,l,t,u,(putTask_ne (by omega)).trans a1,(putTask_ne (by omega)).trans a2,(putTask_ne (by omega)).trans a3⟩,(putTask_ne (by omega)).trans b0,(putTask_ne (by omega)).trans b1,(putTask_ne (by omega)).trans b2,(putTask_ne (by omega)).trans b3,(putTask_ne (by omega)).trans b4⟩
theorem ring_at {r:RingS} (h:1≤r.slots.length) (pos:Int):r.slots[r.at pos]?=some (r.slot pos)∧r.at pos<r.slots.length∧((r.at pos:Nat):Int)=pos % (r.slots.length:Int):=by
 have x0:0≤pos % (r.slots.length:Int):=Int.emod_nonneg _ (by omega)
 have x1:pos % (r.slots.length:Int)<r.slots.length:=Int.emod_lt_of_pos _ (by omega)
 have hl:r.at pos<r.slots.length:=by unfold RingS.at;omega
 refine ⟨?_,hl,by unfold RingS.at;omega⟩
 unfold RingS.slot
 rw [List.getD_eq_getElem?_getD,List.getElem?_eq_getElem hl];rfl
section
variable {rb sb tb:Nat} {r:RingS} {t:TickS} {C D:Array Value} {g:List Blk}
theorem ringAt_r (hc:ringC sb r C) (hr:RingB r) (pos:Int) (h0:0≤pos) (h1:pos≤1099511627776):ReadsG Tryz.prog 144 #[ptr' rb,.int .i64 pos] [[cl rb 231 C]] (.pointer (some ⟨sb,r.at pos*9,none⟩)):=by
 obtain ⟨ha,hal,hav⟩:=ring_at hr.n0 pos
 obtain ⟨k,hk⟩:∃ k,r.at pos=k:=⟨_,rfl⟩
 have HK:=Lib.hid hk
 rw [hk] at hav hal
 intro w hw
 have T0:=TG.refl hw
 have HT:=Lib.hid T0
 clear hw T0
 have c0:=(HT.out.cell 0 0 rfl 0).trans hc.sl
 have hn0:=hr.n0
 generalize r.slots.length=n at *
 have hz:((n:Int) == 0)=false:=beq_eq_false_iff_ne.2 (by omega)
 have hm0:0≤pos % (n:Int):=by omega
 have hm1:pos % (n:Int)<n:=by omega
 have hm2:(pos % (n:Int)).toNat=k:=by omega
 clear hc hr hk ha
 go_enter Tryz.func144,Tryz.ntmps144
 go_wp2
 go_quiet ((fail))
 have HT:=Lib.hid (HT.out.drewN nq)
 go_wp2
 go_ret
 exact ⟨by rw [HK.out];rfl,_,rfl⟩
theorem tickLook_g (hg:isRing rb r g):DoesG Tryz.prog 229 #[ptr' tb] [tickG tb rb t,g] fun e gs=>e=.returned (.tuple #[])∧∃ g',isRing rb r g'∧gs=[tickG tb rb (lookT r t),g']:=by
 obtain ⟨sb,C,D,rfl,hC,hD⟩:=hg.open
 intro w hw
 have T0:=TG.refl hw
 have HT:=Lib.hid T0
 clear hw T0
 have HC:=Lib.hid hC
 have HD:=Lib.hid hD
 clear hC hD hg
 simp only [tickG] at HT ⊢
 have HT:=Lib.hid (HT.out.eq (H':=[[cl tb 332 (tickC rb t)],[cl rb 231 C],[cl sb 233 D]]) rfl)
 have t0:=HT.out.cell 0 0 rfl 0
 simp only [tickC,GE2] at t0
 go_enter Tryz.func229,Tryz.ntmps229
 go_wp2_with fail
 refine (DoesG.use (cellG (loadI_does rb 1 _ C r.tail HC.out.tail)) (HT.out) [1] rfl rfl).mono ?_
 rintro e w1 ⟨gs,⟨rfl,C1,hr,rfl⟩,Ta⟩
 simp only [PU] at Ta
 have t1:=Ta.cell 0 0 rfl 1
 have t2:=Ta.cell 0 0 rfl 2
 have f1:=Ta.free 0 0 rfl 1
 have f2:=Ta.free 0 0 rfl 2
 have HC1:=Lib.hid (HC.out.tailR hr)
 clear hr
 simp only [tickC,GE3] at t1 t2
 have HT:=Lib.hid Ta
 clear Ta
 go_wp2
 refine bodyPost_end (results_none rfl _ _ _) rfl ⟨_,⟨rfl,_,isRing.mk' HC1.out HD.out,rfl⟩,(((HT.out.set 0 0 rfl 1 _).set 0 0 rfl 2 _).eq rfl)⟩
theorem tickWeigh_g (hg:isRing rb r g) (hr:RingB r) (ht:TickB t):DoesG Tryz.prog 230 #[ptr' tb] [tickG tb rb t,g] fun e gs=>e=.returned (.tuple #[])∧∃ g',isRing rb r g'∧gs=[tickG tb rb (weighT r t),g']:=by
 obtain ⟨sb,C,D,rfl,hC,hD⟩:=hg.open
 obtain ⟨ha,hal,hav⟩:=ring_at hr.n0 t.pos
 intro w hw
 have T0:=TG.refl hw
 have HT:=Lib.hid T0
 clear hw T0
 have HC:=Lib.hid hC
 have HD:=Lib.hid hD
 have HA:=Lib.hid (ringAt_r (rb:=rb) hC hr t.pos ht.p0 ht.p1)
 simp only [tickG] at HT ⊢
 have HT:=Lib.hid (HT.out.eq (H':=[[cl tb 332 (tickC rb t)],[cl rb 231 C],[cl sb 233 D]]) rfl)
 have HS:=Lib.hid (hD.at_ _ _ ha).1
 have HW:=Lib.hid (show weighT r t=if 2*t.pos<(r.slot t.pos).seq then { t with next:=0 } else if (r.slot t.pos).seq<2*t.pos then { t with status:=1 } else { t with next:=2 } from rfl)
 have HK:=Lib.hid ha
 generalize r.slot t.pos=s at *
 generalize r.at t.pos=k at *
 have p0:=ht.p0
 have p1:=ht.p1
 obtain ⟨pos,nx,st,fi⟩:=t
 simp only at HA HW p0 p1
 have t0:=HT.out.cell 0 0 rfl 0
 have t1:=HT.out.cell 0 0 rfl 1
 simp only [tickC,GE3] at t0 t1
 clear hC hD hg ha hav ht hr
 by_cases h1:2*pos<s.seq
 ·have HW2:=Lib.hid (HW.out.trans (if_pos h1))
  go_enter Tryz.func230,Tryz.ntmps230
  go_upto_region 0 with fail
  refine wp_region_mix1 11 (by kernel_rfl) (by kernel_rfl) ?_
  simp only [TD4]
  repeat (go_big_quiet_step ((first | (go_at_call 144;with_reducible exact ReadsG.quiet (HA.out) HT.out _ [1] rfl rfl))))
  refine wpQuiet_nil ?_
  intro _ hw'
  obtain ⟨nq,hw''⟩:=hw'
  subst hw''
  have HT:=Lib.hid (HT.out.drewN nq)
  go_wp2_with fail
  refine (DoesG.use (cellG (loadI_does sb (k*9) _ D s.seq HS.out)) (HT.out) [2] rfl rfl).mono ?_
  rintro e w1 ⟨gs,⟨rfl,D1,hr,rfl⟩,Ta⟩
  simp only [PU] at Ta
  have t1:=Ta.cell 0 0 rfl 1
  have t2:=Ta.cell 0 0 rfl 2
  have f2:=Ta.free 0 0 rfl 2
  have HD1:=Lib.hid (HD.out.same HK.out hr)
  simp only [tickC,GE3] at t1 t2
  have HT:=Lib.hid Ta
  clear Ta hr
  go_wp2_with fail
  refine ⟨rfl,?_⟩
  go_wp2
  refine bodyPost_end (results_none rfl _ _ _) rfl ⟨_,⟨rfl,_,isRing.mk' HC.out HD1.out,rfl⟩,((HT.out.set 0 0 rfl 2 _).eq (by rw [HW2.out];rfl))⟩
 ·by_cases h2:s.seq<2*pos
  ·have HW2:=Lib.hid ((HW.out.trans (if_neg h1)).trans (if_pos h2))
   go_enter Tryz.func230,Tryz.ntmps230
   go_upto_region 0 with fail
   refine wp_region_mix1 11 (by kernel_rfl) (by kernel_rfl) ?_
   simp only [TD4]
   repeat (go_big_quiet_step ((first | (go_at_call 144;with_reducible exact ReadsG.quiet (HA.out) HT.out _ [1] rfl rfl))))
   refine wpQuiet_nil ?_
   intro _ hw'
   obtain ⟨nq,hw''⟩:=hw'
   subst hw''
   have HT:=Lib.hid (HT.out.drewN nq)
   go_wp2_with fail
   refine (DoesG.use (cellG (loadI_does sb (k*9) _ D s.seq HS.out)) (HT.out) [2] rfl rfl).mono ?_
   rintro e w1 ⟨gs,⟨rfl,D1,hr,rfl⟩,Ta⟩
   simp only [PU] at Ta
   have t1:=Ta.cell 0 0 rfl 1
   have t2:=Ta.cell 0 0 rfl 3
   have f2:=Ta.free 0 0 rfl 3
   have HD1:=Lib.hid (HD.out.same HK.out hr)
   simp only [tickC,GE3] at t1 t2
   have HT:=Lib.hid Ta
   clear Ta hr
   go_wp2_with fail
   refine ⟨rfl,?_⟩
   go_wp2
   refine bodyPost_end (results_none rfl _ _ _) rfl ⟨_,⟨rfl,_,isRing.mk' HC.out HD1.out,rfl⟩,((HT.out.set 0 0 rfl 3 _).eq (by rw [HW2.out];rfl))⟩
  ·have HW2:=Lib.hid ((HW.out.trans (if_neg h1)).trans (if_neg h2))
   go_enter Tryz.func230,Tryz.ntmps230
   go_upto_region 0 with fail
   refine wp_region_mix1 11 (by kernel_rfl) (by kernel_rfl) ?_
   simp only [TD4]
   repeat (go_big_quiet_step ((first | (go_at_call 144;with_reducible exact ReadsG.quiet (HA.out) HT.out _ [1] rfl rfl))))
   refine wpQuiet_nil ?_
   intro _ hw'
   obtain ⟨nq,hw''⟩:=hw'
   subst hw''
   have HT:=Lib.hid (HT.out.drewN nq)
   go_wp2_with fail
   refine (DoesG.use (cellG (loadI_does sb (k*9) _ D s.seq HS.out)) (HT.out) [2] rfl rfl).mono ?_
   rintro e w1 ⟨gs,⟨rfl,D1,hr,rfl⟩,Ta⟩
   simp only [PU] at Ta
   have t1:=Ta.cell 0 0 rfl 1
   have t2:=Ta.cell 0 0 rfl 2
   have f2:=Ta.free 0 0 rfl 2
   have HD1:=Lib.hid (HD.out.same HK.out hr)
   simp only [tickC,GE3] at t1 t2
   have HT:=Lib.hid Ta
   clear Ta hr
   go_wp2_with fail
   refine ⟨rfl,?_⟩
   go_wp2
   refine bodyPost_end (results_none rfl _ _ _) rfl ⟨_,⟨rfl,_,isRing.mk' HC.out HD1.out,rfl⟩,((HT.out.set 0 0 rfl 2 _).eq (by rw [HW2.out];rfl))⟩
theorem tickTake_g (hg:isRing rb r g) (ht:TickB t):DoesG Tryz.prog 231 #[ptr' tb] [tickG tb rb t,g] fun e gs=>e=.returned (.tuple #[])∧∃ g',isRing rb (takeT r t).1 g'∧gs=[tickG tb rb (takeT r t).2,g']:=by
 obtain ⟨sb,C,D,rfl,hC,hD⟩:=hg.open
 intro w hw
 have T0:=TG.refl hw
 have HT:=Lib.hid T0
 clear hw T0
 have HC:=Lib.hid hC
 have HD:=Lib.hid hD
 simp only [tickG] at HT ⊢
 have HT:=Lib.hid (HT.out.eq (H':=[[cl tb 332 (tickC rb t)],[cl rb 231 C],[cl sb 233 D]]) rfl)
 have p0:=ht.p0
 have p1:=ht.p1
 obtain ⟨pos,nx,st,fi⟩:=t
 simp only at p0 p1
 have t0:=HT.out.cell 0 0 rfl 0
 have t1:=HT.out.cell 0 0 rfl 1
 have t2:=HT.out.cell 0 0 rfl 2
 have f2:=HT.out.free 0 0 rfl 2
 simp only [tickC,GE3] at t0 t1 t2
 clear hC hD hg ht
 by_cases h1:r.tail=pos
 ·have HW:=Lib.hid (show takeT r ⟨pos,nx,st,fi⟩=({ r with tail:=pos+1 },⟨pos,0,2,fi⟩) from if_pos h1)
  have HSW:=Lib.hid (swapI_does rb 1 231 C r.tail pos (pos+1) HC.out.tail)
  have HB:=Lib.hid (show (Value.bool (decide (r.tail=pos)))=.bool true∧(if r.tail=pos then pos+1 else r.tail)=pos+1 from ⟨by rw [decide_eq_true h1],if_pos h1⟩)
  rw [HB.out.1,HB.out.2] at HSW
  clear h1
  go_enter Tryz.func231,Tryz.ntmps231
  go_wp2_with fail
  have HT:=Lib.hid (HT.out.set 0 0 rfl 2 (.int .i64 0))
  refine wp_region_mix1 15 (by kernel_rfl) (by kernel_rfl) ?_
  simp only [TD4]
  repeat (go_big_quiet_step ((fail)))
  refine wpQuiet_nil ?_
  intro _ hw'
  obtain ⟨nq,hw''⟩:=hw'
  subst hw''
  have HT:=Lib.hid (HT.out.drewN nq)
  go_wp2_with fail
  refine (DoesG.use (cellG HSW.out) (HT.out) [1] rfl rfl).mono ?_
  rintro e w1 ⟨gs,⟨rfl,C1,hr,rfl⟩,Ta⟩
  simp only [PU] at Ta
  have HC1:=Lib.hid (HC.out.tailR hr)
  have t3:=Ta.cell 0 0 rfl 3
  have f3:=Ta.free 0 0 rfl 3
  have HT:=Lib.hid Ta
  clear Ta hr
  go_wp2_with fail
  refine ⟨rfl,?_⟩
  go_wp2
  refine bodyPost_end (results_none rfl _ _ _) rfl ⟨_,⟨rfl,_,by rw [HW.out];exact isRing.mk' HC1.out HD.out,rfl⟩,((HT.out.set 0 0 rfl 3 _).eq (by rw [HW.out];rfl))⟩
 ·have HW:=Lib.hid (show takeT r ⟨pos,nx,st,fi⟩=(r,⟨pos,0,st,fi⟩) from if_neg h1)
  have HSW:=Lib.hid (swapI_does rb 1 231 C r.tail pos (pos+1) HC.out.tail)
  have HB:=Lib.hid (show (Value.bool (decide (r.tail=pos)))=.bool false∧(if r.tail=pos then pos+1 else r.tail)=r.tail from ⟨by rw [decide_eq_false h1],if_neg h1⟩)
  rw [HB.out.1,HB.out.2] at HSW
  clear h1
  go_enter Tryz.func231,Tryz.ntmps231
  go_wp2_with fail
  have HT:=Lib.hid (HT.out.set 0 0 rfl 2 (.int .i64 0))
  refine wp_region_mix1 15 (by kernel_rfl) (by kernel_rfl) ?_
  simp only [TD4]
  repeat (go_big_quiet_step ((fail)))
  refine wpQuiet_nil ?_
  intro _ hw'
  obtain ⟨nq,hw''⟩:=hw'
  subst hw''
  have HT:=Lib.hid (HT.out.drewN nq)
  go_wp2_with fail
  refine (DoesG.use (cellG HSW.out) (HT.out) [1] rfl rfl).mono ?_
  rintro e w1 ⟨gs,⟨rfl,C1,hr,rfl⟩,Ta⟩
  simp only [PU] at Ta
  have HC1:=Lib.hid (HC.out.tailR hr)
  have HT:=Lib.hid Ta
  clear Ta hr
  go_wp2_with fail
  refine ⟨rfl,?_⟩
  go_wp2
  refine bodyPost_end (results_none rfl _ _ _) rfl ⟨_,⟨rfl,_,by rw [HW.out];exact isRing.mk' HC1.out HD.out,rfl⟩,(HT.out.eq (by rw [HW.out];rfl))⟩
end
end
section
open Go.RowKit Go.Shelf
theorem lockTry1_g (bb:Nat) (now who:Int) (ok:Bool) (hk:(now == 0)=ok) (h:0≤who∧who≤1000000000) :
 DoesG Tryz.prog 279 #[.int .i64 now,ptr' bb] [[cl bb 3 #[.int .i64 who]]] fun e gs=>e=.returned (.tuple #[.int .i64 (who+1),.bool ok])∧gs=[[cl bb 3 #[.int .i64 who]]]:=by
 subst hk
 intro w hw
 have T0:=TG.refl hw
 have HT:=Lib.hid T0
 clear hw T0
 have c0:=HT.out.cell 0 0 rfl 0
 simp only [GE2] at c0
 obtain ⟨h1,h2⟩:=h
 go_enter Tryz.func279,Tryz.ntmps279
 go_wp2
 go_ret2
 exact ⟨_,⟨by simp,rfl⟩,HT.out⟩
theorem isLock.re {who n y:Int} {C C':Array Value} (h:C.size=5∧cellAt C 0 (.int .i64 who)∧C[4]?=some (.int .i64 n)) (r:Recell C 0 (.int .i64 y) C'):C'.size=5∧cellAt C' 0 (.int .i64 y)∧C'[4]?=some (.int .i64 n) :=
 ⟨r.size.trans h.1,r.cell,(r.other 4 (by omega)).trans h.2.2⟩
theorem lock_turns {who n m:Int} {C:Array Value} (h:C.size=5∧cellAt C 0 (.int .i64 who)∧C[4]?=some (.int .i64 n)):(C.setIfInBounds 4 (.int .i64 m)).size=5∧cellAt (C.setIfInBounds 4 (.int .i64 m)) 0 (.int .i64 who)∧(C.setIfInBounds 4 (.int .i64 m))[4]?=some (.int .i64 m):=by
 obtain ⟨hs,⟨h0,l,t,u,h1,h2,h3⟩,h4⟩:=h
 exact ⟨by simpa using hs,⟨(get_set_ne (by omega)).trans h0,l,t,u,(get_set_ne (by omega)).trans h1,(get_set_ne (by omega)).trans h2,(get_set_ne (by omega)).trans h3⟩,get_set_eq h4⟩
def tryW (x who:Int):Int:=if x=0 then who+1 else x
def tryN (x n:Int):Int:=if x=0 then n+1 else n
set_option maxRecDepth 100000 in
theorem lockTry_g {lb:Nat} {x n:Int} {g:List Blk} (who:Int) (hg:isLock lb x n g) (h:0≤who∧who≤1000000000) (hn:0≤n∧n≤1000000000) :
 DoesG Tryz.prog 257 #[ptr' lb,.int .i64 who] [g] fun e gs=>e=.returned (.bool (x == 0))∧∃ g',isLock lb (tryW x who) (tryN x n) g'∧gs=[g']:=by
 obtain ⟨C,rfl,hC⟩:=hg
 intro w hw
 have T0:=TG.refl hw
 have HT:=Lib.hid T0
 clear hw T0
 have HC:=Lib.hid hC
 have hw0:=h.1
 by_cases hx:x=0
 ·subst hx
  have HB:=Lib.hid (lockTry1_g w.heap.size 0 who true rfl h)
  obtain ⟨hn0,hn1⟩:=hn
  clear hC h
  go_enter Tryz.func257,Tryz.ntmps257
  go_wp2_with fail
  refine (DoesG.use (turnI_g (caps:=#[ptr' w.heap.size]) (g:=279) (bb:=w.heap.size) (D:=#[.int .i64 who]) HC.out.2.1 (enters_of Tryz.func279 (by kernel_rfl) rfl) HB.out) ((HT.out.alloc rfl _ _)) [0,1] rfl rfl).mono ?_
  rintro e w1 ⟨gs,⟨rfl,C1,hr,rfl⟩,Ta⟩
  simp only [PU] at Ta
  have HC1:=Lib.hid (isLock.re HC.out hr)
  have c4:=(Ta.cell 0 0 rfl 4).trans HC1.out.2.2
  have fc4:=Ta.free 0 0 rfl 4
  clear hr
  have HT:=Lib.hid Ta
  clear Ta
  go_wp2
  go_ret
  exact ⟨_,⟨rfl,_,⟨_,rfl,lock_turns HC1.out⟩,rfl⟩,(HT.out.set 0 0 rfl 4 _).pick [0] rfl⟩
 ·have hb:(x == 0)=false:=beq_eq_false_iff_ne.2 hx
  have HB:=Lib.hid (lockTry1_g w.heap.size x who false hb h)
  have HX:=Lib.hid (show tryW x who=x∧tryN x n=n from ⟨if_neg hx,if_neg hx⟩)
  have HBB:=Lib.hid hb
  clear hC hx hb h hn
  go_enter Tryz.func257,Tryz.ntmps257
  go_wp2_with fail
  refine (DoesG.use (turnI_g (caps:=#[ptr' w.heap.size]) (g:=279) (bb:=w.heap.size) (D:=#[.int .i64 who]) HC.out.2.1 (enters_of Tryz.func279 (by kernel_rfl) rfl) HB.out) ((HT.out.alloc rfl _ _)) [0,1] rfl rfl).mono ?_
  rintro e w1 ⟨gs,⟨rfl,C1,hr,rfl⟩,Ta⟩
  simp only [PU] at Ta
  have HC1:=Lib.hid (isLock.re HC.out hr)
  clear hr
  have HT:=Lib.hid Ta
  clear Ta
  go_wp2
  go_ret
  exact ⟨_,⟨by rw [HBB.out];rfl,_,⟨_,rfl,by rw [HX.out.1,HX.out.2];exact HC1.out⟩,rfl⟩,HT.out.pick [0] rfl⟩
theorem lockMay_g {lb:Nat} {x n:Int} {g:List Blk} (who:Int) (hg:isLock lb x n g) :
 DoesG Tryz.prog 255 #[ptr' lb,.int .i64 who] [g] fun e gs=>e=.returned (.bool (decide (0≤who) && x == 0))∧∃ g',isLock lb x n g'∧gs=[g']:=by
 obtain ⟨C,rfl,hC⟩:=hg
 intro w hw
 have T0:=TG.refl hw
 have HT:=Lib.hid T0
 clear hw T0
 have HC:=Lib.hid hC
 clear hC
 by_cases hw:0≤who
 ·have HW:=Lib.hid (show decide (0≤who)=true from by simpa using hw)
  go_enter Tryz.func255,Tryz.ntmps255
  go_wp2_with fail
  refine (DoesG.use (cellG (loadI_does lb 0 _ C x HC.out.2.1)) (HT.out) [0] rfl rfl).mono ?_
  rintro e w1 ⟨gs,⟨rfl,C1,hr,rfl⟩,Ta⟩
  simp only [PU] at Ta
  have HC1:=Lib.hid (isLock.re HC.out hr)
  clear hr
  have HT:=Lib.hid Ta
  clear Ta
  go_wp2
  go_ret
  exact ⟨_,⟨by rw [HW.out,Bool.true_and];rfl,_,⟨_,rfl,HC1.out⟩,rfl⟩,HT.out⟩
 ·have HW:=Lib.hid (show decide (0≤who)=false from by simpa using hw)
  go_enter Tryz.func255,Tryz.ntmps255
  go_wp2
  go_ret
  exact ⟨_,⟨by rw [HW.out,Bool.false_and];rfl,_,⟨_,rfl,HC.out⟩,rfl⟩,HT.out⟩
theorem lockLeave1_g (bb:Nat) (now who:Int) (ok:Bool) (hk:(now == who+1)=ok) (h:0≤who∧who≤1000000000) :
 DoesG Tryz.prog 289 #[.int .i64 now,ptr' bb] [[cl bb 3 #[.int .i64 who]]] fun e gs=>e=.returned (.tuple #[.int .i64 0,.bool ok])∧gs=[[cl bb 3 #[.int .i64 who]]]:=by
 subst hk
 intro w hw
 have T0:=TG.refl hw
 have HT:=Lib.hid T0
 clear hw T0
 have c0:=HT.out.cell 0 0 rfl 0
 simp only [GE2] at c0
 obtain ⟨h1,h2⟩:=h
 go_enter Tryz.func289,Tryz.ntmps289
 go_wp2
 try go_quiet (fail)
 try go_wp2
 go_ret2
 first | exact ⟨_,⟨by simp,rfl⟩,HT.out.drewN _⟩ | exact ⟨_,⟨by simp,rfl⟩,HT.out⟩
theorem lockLeave_g {lb:Nat} {n:Int} {g:List Blk} (who:Int) (hg:isLock lb (who+1) n g) (h:0≤who∧who≤1000000000) :
 DoesG Tryz.prog 267 #[ptr' lb,.int .i64 who] [g] fun e gs=>e=.returned (.int .i64 0)∧∃ g',isLock lb 0 n g'∧gs=[g']:=by
 obtain ⟨C,rfl,hC⟩:=hg
 intro w hw
 have T0:=TG.refl hw
 have HT:=Lib.hid T0
 clear hw T0
 have HC:=Lib.hid hC
 have hw0:=h.1
 have HB:=Lib.hid (lockLeave1_g w.heap.size (who+1) who true (by simp) h)
 clear hC h
 go_enter Tryz.func267,Tryz.ntmps267
 go_wp2_with fail
 refine (DoesG.use (turnI_g (caps:=#[ptr' w.heap.size]) (g:=289) (bb:=w.heap.size) (D:=#[.int .i64 who]) HC.out.2.1 (enters_of Tryz.func289 (by kernel_rfl) rfl) HB.out) ((HT.out.alloc rfl _ _)) [0,1] rfl rfl).mono ?_
 rintro e w1 ⟨gs,⟨rfl,C1,hr,rfl⟩,Ta⟩
 simp only [PU] at Ta
 have HC1:=Lib.hid (isLock.re HC.out hr)
 clear hr
 have HT:=Lib.hid Ta
 clear Ta
 go_wp2
 go_ret
 exact ⟨_,⟨rfl,_,⟨_,rfl,HC1.out⟩,rfl⟩,HT.out.pick [0] rfl⟩
def shardB (b rb lb wb:Nat):List Blk:=[cl b 220 #[ptr' rb,ptr' lb,ptr' wb]]
set_option maxRecDepth 100000 in
theorem shardParts_g (b rb lb wb:Nat):DoesG Tryz.prog 91 #[ptr' b] [shardB b rb lb wb] fun e gs=>e=.returned (.agg #[ptr' rb,ptr' lb,ptr' wb])∧gs=[shardB b rb lb wb]:=by
 intro w hw
 have T0:=TG.refl hw
 have HT:=Lib.hid T0
 clear hw T0
 simp only [shardB] at HT ⊢
 have c0:=HT.out.cell 0 0 rfl 0
 have c1:=HT.out.cell 0 0 rfl 1
 have c2:=HT.out.cell 0 0 rfl 2
 have hlt:=HT.out.lt 0 0 rfl
 simp only [GE3] at c0 c1 c2 hlt
 go_enter Tryz.func91,Tryz.ntmps91
 go_wp2
 exact bodyPost_ret (v:=.agg #[ptr' rb,ptr' lb,ptr' wb]) (by simp [results,Tryz.results91,go_sem]) rfl ⟨_,⟨rfl,rfl⟩,HT.out.alloc0 _⟩
theorem inner_field (a b c:Value) (w:World):(Instr.field 156 (.agg #[a,b,c]) 0).run Tryz.prog w=.ok a w∧(Instr.field 156 (.agg #[a,b,c]) 1).run Tryz.prog w=.ok b w∧(Instr.field 156 (.agg #[a,b,c]) 2).run Tryz.prog w=.ok c w:=⟨by kernel_rfl,by kernel_rfl,by kernel_rfl⟩
set_option maxRecDepth 100000 in
theorem shardLock_g (b rb lb wb:Nat):DoesG Tryz.prog 38 #[ptr' b] [shardB b rb lb wb] fun e gs=>e=.returned (ptr' lb)∧gs=[shardB b rb lb wb]:=by
 intro w hw
 have T0:=TG.refl hw
 have HT:=Lib.hid T0
 clear hw T0
 go_enter Tryz.func38,Tryz.ntmps38
 go_wp2_with fail
 refine (DoesG.use (shardParts_g b rb lb wb) (HT.out) [0] rfl rfl).mono ?_
 rintro e w1 ⟨gs,⟨rfl,rfl⟩,Ta⟩
 simp only [PU] at Ta
 have HT:=Lib.hid Ta
 clear Ta
 have hf:=fun w=>(inner_field (ptr' rb) (ptr' lb) (ptr' wb) w).2.1
 go_wp2
 go_ret
 exact ⟨_,⟨rfl,rfl⟩,HT.out⟩
end
section
open Go.RowKit Go.Shelf
section
variable {rb sb tb:Nat} {r:RingS} {t:TickS} {C D:Array Value} {g:List Blk}
theorem ringBegin_g (rb:Nat):DoesG Tryz.prog 197 #[ptr' rb] [] fun e gs=>∃ tb,e=.returned (ptr' tb)∧gs=[tickG tb rb newTick]:=by
 intro w hw
 have T0:=TG.refl hw
 have HT:=Lib.hid T0
 clear hw T0
 go_enter Tryz.func197,Tryz.ntmps197
 go_wp2
 go_ret
 exact ⟨_,⟨_,rfl,rfl⟩,HT.out.alloc rfl _ _⟩
set_option maxRecDepth 100000 in
theorem tickStep_g (hg:isRing rb r g) (hr:RingB r) (ht:TickB t):DoesG Tryz.prog 198 #[ptr' tb] [tickG tb rb t,g] fun e gs =>
 e=.returned (.int .i64 (stepT r t).2.status)∧∃ g',isRing rb (stepT r t).1 g'∧gs=[tickG tb rb (stepT r t).2,g']:=by
 intro w hw
 have T0:=TG.refl hw
 have HT:=Lib.hid T0
 clear hw T0
 have HL:=Lib.hid (tickLook_g (tb:=tb) (t:=t) hg)
 have HWE:=Lib.hid (tickWeigh_g (tb:=tb) (t:=t) hg hr ht)
 have HTK:=Lib.hid (tickTake_g (tb:=tb) (t:=t) hg ht)
 have HG:=Lib.hid hg
 have hst:t.status=0∨t.status≠0:=by omega
 have hnx:=ht.nx
 have HW0:=Lib.hid (show t.status≠0→stepT r t=(r,t) from fun h=>if_pos h)
 have HW1:=Lib.hid (show t.status=0→t.next=0→stepT r t=(r,lookT r t) from fun h h1=>(if_neg (by omega)).trans (if_pos h1))
 have HW2:=Lib.hid (show t.status=0→t.next=1→stepT r t=(r,weighT r t) from fun h h1=>(if_neg (by omega)).trans ((if_neg (by omega)).trans (if_pos h1)))
 have HW3:=Lib.hid (show t.status=0→t.next=2→stepT r t=takeT r t from fun h h1=>(if_neg (by omega)).trans ((if_neg (by omega)).trans (if_neg (by omega))))
 have t2:=HT.out.cell 0 0 rfl 2
 have t3:=HT.out.cell 0 0 rfl 3
 simp only [tickC,GE3] at t2 t3
 have lt:=HT.out.lt 0 0 rfl
 simp only [] at lt
 clear hg hr ht
 rcases hst with hst | hst
 ·rcases hnx with hnx | hnx | hnx
  ·have HS:=Lib.hid (HW1.out hst hnx)
   rw [hst] at t3
   rw [hnx] at t2
   clear hst hnx
   go_enter Tryz.func198,Tryz.ntmps198
   go_wp2_with fail
   refine (DoesG.use (HL.out) (HT.out.put rfl _) [0,1] rfl rfl).mono ?_
   rintro e w1 ⟨gs,⟨rfl,g',hg',rfl⟩,Ta⟩
   simp only [PU] at Ta
   have t3:=Ta.cell 0 0 rfl 3
   simp only [tickC,GE3] at t3
   have HT:=Lib.hid Ta
   clear Ta
   go_wp2
   go_ret
   exact ⟨_,⟨by rw [HS.out];rfl,g',by rw [HS.out];exact hg',rfl⟩,(HT.out.pick [0,1] rfl).eq (by rw [HS.out];rfl)⟩
  ·have HS:=Lib.hid (HW2.out hst hnx)
   rw [hst] at t3
   rw [hnx] at t2
   clear hst hnx
   go_enter Tryz.func198,Tryz.ntmps198
   go_wp2_with fail
   refine (DoesG.use (HWE.out) (HT.out.put rfl _) [0,1] rfl rfl).mono ?_
   rintro e w1 ⟨gs,⟨rfl,g',hg',rfl⟩,Ta⟩
   simp only [PU] at Ta
   have t3:=Ta.cell 0 0 rfl 3
   simp only [tickC,GE3] at t3
   have HT:=Lib.hid Ta
   clear Ta
   go_wp2
   go_ret
   exact ⟨_,⟨by rw [HS.out];rfl,g',by rw [HS.out];exact hg',rfl⟩,(HT.out.pick [0,1] rfl).eq (by rw [HS.out];rfl)⟩
  ·have HS:=Lib.hid (HW3.out hst hnx)
   rw [hst] at t3
   rw [hnx] at t2
   clear hst hnx
   go_enter Tryz.func198,Tryz.ntmps198
   go_wp2_with fail
   refine (DoesG.use (HTK.out) (HT.out.put rfl _) [0,1] rfl rfl).mono ?_
   rintro e w1 ⟨gs,⟨rfl,g',hg',rfl⟩,Ta⟩
   simp only [PU] at Ta
   have t3:=Ta.cell 0 0 rfl 3
   simp only [tickC,GE3] at t3
   have HT:=Lib.hid Ta
   clear Ta
   go_wp2
   go_ret
   exact ⟨_,⟨by rw [HS.out];rfl,g',by rw [HS.out];exact hg',rfl⟩,(HT.out.pick [0,1] rfl).eq (by rw [HS.out];rfl)⟩
 ·have HS:=Lib.hid (HW0.out hst)
  have hb:(t.status == 0)=false:=beq_eq_false_iff_ne.2 hst
  clear hst hnx
  go_enter Tryz.func198,Tryz.ntmps198
  go_wp2
  go_ret
  exact ⟨_,⟨by rw [HS.out];rfl,g,by rw [HS.out];exact HG.out,rfl⟩,((HT.out.put rfl _).pick [0,1] rfl).eq (by rw [HS.out];rfl)⟩
theorem storeC_g (b o:Nat) (T:TypeId) (C:Array Value) (y x:Int) (hc:cellAt C o (.int .i64 y)) :
 DoesG Tryz.prog 145 #[.pointer (some ⟨b,o,none⟩),.int .i64 x] [[cl b T C]] fun e gs=>e=.returned (.tuple #[])∧gs=[[cl b T (C.setIfInBounds o (.int .i64 x))]]:=storeI_g b o T C _ x hc.1
theorem slotsD.fill {l:List SlotS} {D:Array Value} {k:Nat} {s:SlotS} (h:slotsD l D) (hk:l[k]?=some s) (v:TaskS) (n:Int):slotsD (l.set k ⟨n,v⟩) ((putTask D (k*9+4) v).setIfInBounds (k*9) (.int .i64 n)):=by
 have h1:=h.putV hk v
 have hk1:(l.set k { s with v:=v })[k]?=some { s with v:=v }:=by rw [List.getElem?_set,if_pos rfl,if_pos (List.getElem?_eq_some_iff.1 hk).1]
 obtain ⟨⟨a0,l0,t0,u0,a1,a2,a3⟩,b⟩:=h1.at_ k _ hk1
 refine ⟨?_,fun i s' hs=>?_⟩
 ·rw [Array.size_setIfInBounds,h1.size];simp
 ·rw [List.getElem?_set] at hs
  by_cases e:k=i
  ·subst e
   rw [if_pos rfl,if_pos (List.getElem?_eq_some_iff.1 hk).1] at hs
   cases hs
   obtain ⟨b0,b1,b2,b3,b4⟩:=b
   exact ⟨⟨get_set_eq a0,l0,t0,u0,(get_set_ne (by omega)).trans a1,(get_set_ne (by omega)).trans a2,(get_set_ne (by omega)).trans a3⟩,(get_set_ne (by omega)).trans b0,(get_set_ne (by omega)).trans b1,(get_set_ne (by omega)).trans b2,(get_set_ne (by omega)).trans b3,(get_set_ne (by omega)).trans b4⟩
  ·rw [if_neg e] at hs
   have hs1:(l.set k { s with v:=v })[i]?=some s':=by rw [List.getElem?_set,if_neg e];exact hs
   obtain ⟨⟨a0,l0,t0,u0,a1,a2,a3⟩,b0,b1,b2,b3,b4⟩:=h1.at_ i s' hs1
   exact ⟨⟨(get_set_ne (by omega)).trans a0,l0,t0,u0,(get_set_ne (by omega)).trans a1,(get_set_ne (by omega)).trans a2,(get_set_ne (by omega)).trans a3⟩,(get_set_ne (by omega)).trans b0,(get_set_ne (by omega)).trans b1,(get_set_ne (by omega)).trans b2,(get_set_ne (by omega)).trans b3,(get_set_ne (by omega)).trans b4⟩
set_option maxRecDepth 100000 in
theorem tickFill_yes (v:TaskS) (hg:isRing rb r g) (hr:RingB r) (ht:TickB t) (hh:t.status=2∧t.filled=false):DoesG Tryz.prog 234 #[ptr' tb,.agg v.cells] [tickG tb rb t,g] fun e gs =>
 e=.returned (.int .i64 0)∧∃ g',isRing rb { r with slots:=r.slots.set (r.at t.pos) ⟨2*t.pos+1,v⟩ } g'∧gs=[tickG tb rb { t with filled:=true },g']:=by
 obtain ⟨sb,C,D,rfl,hC,hD⟩:=hg.open
 obtain ⟨ha,hal,hav⟩:=ring_at hr.n0 t.pos
 intro w hw
 have T0:=TG.refl hw
 have HT:=Lib.hid T0
 clear hw T0
 have HC:=Lib.hid hC
 have HD:=Lib.hid hD
 have HA:=Lib.hid (ringAt_r (rb:=rb) hC hr t.pos ht.p0 ht.p1)
 simp only [tickG] at HT ⊢
 have HT:=Lib.hid (HT.out.eq (H':=[[cl tb 332 (tickC rb t)],[cl rb 231 C],[cl sb 233 D]]) rfl)
 have HV:=Lib.hid (hD.fill ha v (2*t.pos+1))
 have HCS:=Lib.hid (hC.withSlots (l:=r.slots.set (r.at t.pos) ⟨2*t.pos+1,v⟩) (List.length_set ..))
 have hcell:=(hD.at_ _ _ ha).1
 generalize r.slot t.pos=s at *
 generalize r.at t.pos=k at *
 have p0:=ht.p0
 have p1:=ht.p1
 obtain ⟨e0,e1,e2,e3,e4⟩:=(hD.at_ _ _ ha).2
 obtain ⟨pos,nx,st,fi⟩:=t
 simp only at HA HV HCS p0 p1 hh
 obtain ⟨rfl,rfl⟩:=hh
 have HP:=Lib.hid (show cellAt (putTask D (k*9+4) v) (k*9) (.int .i64 s.seq) from by
  obtain ⟨a0,l0,t0,u0,a1,a2,a3⟩:=hcell
  exact ⟨(putTask_ne (by omega)).trans a0,l0,t0,u0,(putTask_ne (by omega)).trans a1,(putTask_ne (by omega)).trans a2,(putTask_ne (by omega)).trans a3⟩)
 have HE:=Lib.hid (And.intro e0 (And.intro e1 (And.intro e2 (And.intro e3 e4))))
 have lt:=HT.out.lt 0 0 rfl
 simp only [] at lt
 have t0:=HT.out.cell 0 0 rfl 0
 have t1:=HT.out.cell 0 0 rfl 1
 have t3:=HT.out.cell 0 0 rfl 3
 have t4:=HT.out.cell 0 0 rfl 4
 have f4:=HT.out.free 0 0 rfl 4
 simp only [tickC,GE3] at t0 t1 t3 t4
 clear hC hD hg ha hav ht hr hal e0 e1 e2 e3 e4 hcell
 simp only [TaskS.cells]
 go_enter Tryz.func234,Tryz.ntmps234
 go_wp2
 have HT:=Lib.hid ((HT.out.set 0 0 rfl 4 (.bool true)).alloc (k:=w.heap.size) (by simp) 40 #[.int .u64 v.id,.int .i64 v.slot,.int .u64 v.gen,.int .u64 v.dl,.int .u64 v.per])
 clear t0 t1 t3 t4 f4 lt
 generalize World.alloc _ _=w1 at HT ⊢
 simp only [List.set_cons_zero,List.cons_append,List.nil_append] at HT
 have t0:=HT.out.cell 0 0 rfl 0
 have t1:=HT.out.cell 0 0 rfl 1
 have b0:=HT.out.cell 3 0 rfl 0
 have b1:=HT.out.cell 3 0 rfl 1
 have b2:=HT.out.cell 3 0 rfl 2
 have b3:=HT.out.cell 3 0 rfl 3
 have b4:=HT.out.cell 3 0 rfl 4
 simp only [tickC,GE3] at t0 t1 b0 b1 b2 b3 b4
 have d0:=(HT.out.cell 2 0 rfl (k*9+4)).trans HE.out.1
 have d1:=(HT.out.cell 2 0 rfl (k*9+4+1)).trans HE.out.2.1
 have d2:=(HT.out.cell 2 0 rfl (k*9+4+2)).trans HE.out.2.2.1
 have d3:=(HT.out.cell 2 0 rfl (k*9+4+3)).trans HE.out.2.2.2.1
 have d4:=(HT.out.cell 2 0 rfl (k*9+4+4)).trans HE.out.2.2.2.2
 have g0:=HT.out.free 2 0 rfl (k*9+4)
 have g1:=HT.out.free 2 0 rfl (k*9+4+1)
 have g2:=HT.out.free 2 0 rfl (k*9+4+2)
 have g3:=HT.out.free 2 0 rfl (k*9+4+3)
 have g4:=HT.out.free 2 0 rfl (k*9+4+4)
 have n1:=HT.out.ne 0 0 2 0 (by decide) rfl rfl
 simp only [] at n1
 go_quiet ((first | (go_at_call 144;with_reducible exact ReadsG.quiet (HA.out) HT.out _ [1] rfl rfl)))
 have HT:=Lib.hid (HT.out.drewN nq)
 go_wp2
 have HT:=Lib.hid ((((((HT.out.set 2 0 rfl (k*9+4) (.int .u64 v.id)).set 2 0 rfl (k*9+4+1) (.int .i64 v.slot)).set 2 0 rfl (k*9+4+2) (.int .u64 v.gen)).set 2 0 rfl (k*9+4+3) (.int .u64 v.dl)).set 2 0 rfl (k*9+4+4) (.int .u64 v.per)).eq (H':=[[cl tb 332 (tickC rb ⟨pos,nx,2,true⟩)],[cl rb 231 C],[cl sb 233 (putTask D (k*9+4) v)],[cl w.heap.size 40 #[.int .u64 v.id,.int .i64 v.slot,.int .u64 v.gen,.int .u64 v.dl,.int .u64 v.per]]]) rfl)
 clear t0 t1 b0 b1 b2 b3 b4 d0 d1 d2 d3 d4 g0 g1 g2 g3 g4 n1
 generalize World.setCell _ _ _=w2 at HT ⊢
 have t1:=HT.out.cell 0 0 rfl 1
 simp only [tickC,GE3] at t1
 refine wp_region_mix1 9 (by kernel_rfl) (by kernel_rfl) ?_
 simp only [TD4]
 repeat (go_big_quiet_step ((fail)))
 refine wpQuiet_nil ?_
 intro _ hw'
 obtain ⟨nq,hw''⟩:=hw'
 subst hw''
 have HT:=Lib.hid (HT.out.drewN nq)
 go_wp2_with fail
 refine (DoesG.use (storeC_g _ _ _ _ _ _ HP.out) (HT.out) [2] rfl rfl).mono ?_
 rintro e w1 ⟨gs,⟨rfl,rfl⟩,Ta⟩
 simp only [PU] at Ta
 have HT:=Lib.hid Ta
 clear Ta
 go_wp2_with fail
 refine ⟨rfl,?_⟩
 go_wp2
 go_ret
 exact ⟨_,⟨rfl,_,isRing.mk' HCS.out HV.out,rfl⟩,(HT.out.pick [0,1,2] rfl).eq rfl⟩
set_option maxRecDepth 100000 in
theorem tickFill_no (v:TaskS) (hh:¬ (t.status=2∧t.filled=false)):DoesG Tryz.prog 234 #[ptr' tb,.agg v.cells] [tickG tb rb t] fun e gs=>e=.returned (.int .i64 7)∧gs=[tickG tb rb t]:=by
 intro w hw
 have T0:=TG.refl hw
 have HT:=Lib.hid T0
 clear hw T0
 have lt:=HT.out.lt 0 0 rfl
 simp only [] at lt
 have t3:=HT.out.cell 0 0 rfl 3
 have t4:=HT.out.cell 0 0 rfl 4
 simp only [tickC,GE3] at t3 t4
 simp only [TaskS.cells]
 by_cases h:t.status=2
 ·have hf:t.filled=true:=by
   cases hf:t.filled
   ·exact absurd ⟨h,hf⟩ hh
   ·rfl
  rw [h] at t3
  rw [hf] at t4
  clear h hf hh
  go_enter Tryz.func234,Tryz.ntmps234
  go_wp2
  go_ret
  exact ⟨_,⟨rfl,rfl⟩,HT.out.alloc0 _⟩
 ·have hb:(t.status != 2)=true:=bne_iff_ne.2 h
  have hb':(t.status == 2)=false:=beq_eq_false_iff_ne.2 h
  clear h hh
  go_enter Tryz.func234,Tryz.ntmps234
  go_wp2
  go_ret
  exact ⟨_,⟨rfl,rfl⟩,HT.out.alloc0 _⟩
theorem tickFill_g (v:TaskS) (hg:isRing rb r g) (hr:RingB r) (ht:TickB t):DoesG Tryz.prog 234 #[ptr' tb,.agg v.cells] [tickG tb rb t,g] fun e gs =>
 e=.returned (.int .i64 (fillT r t v).2.2)∧∃ g',isRing rb (fillT r t v).1 g'∧gs=[tickG tb rb (fillT r t v).2.1,g']:=by
 by_cases hh:t.status=2∧t.filled=false
 ·have e:fillT r t v=({ r with slots:=r.slots.set (r.at t.pos) ⟨2*t.pos+1,v⟩ },{ t with filled:=true },0):=if_pos hh
  rw [e]
  exact tickFill_yes v hg hr ht hh
 ·have e:fillT r t v=(r,t,7):=if_neg hh
  rw [e]
  intro w hw
  refine (DoesG.use (tickFill_no v hh) (TG.refl hw) [0] rfl rfl).mono ?_
  rintro e w' ⟨gs,⟨he,rfl⟩,T⟩
  exact ⟨_,⟨he,g,hg,rfl⟩,T⟩
end
end
section
open Go.RowKit Go.Shelf
section
variable {rb sb:Nat} {r:RingS} {C D:Array Value} {g:List Blk}
set_option maxRecDepth 100000 in
theorem ringReady_g (hg:isRing rb r g) (hr:RingB r):DoesG Tryz.prog 143 #[ptr' rb] [g] fun e gs=>e=.returned (.bool r.ready)∧∃ g',isRing rb r g'∧gs=[g']:=by
 obtain ⟨sb,C,D,rfl,hC,hD⟩:=hg.open
 obtain ⟨ha,hal,hav⟩:=ring_at hr.n0 r.head
 intro w hw
 have T0:=TG.refl hw
 have HT:=Lib.hid T0
 clear hw T0
 have HT:=Lib.hid (HT.out.eq (H':=[[cl rb 231 C],[cl sb 233 D]]) rfl)
 have HA:=Lib.hid (show ∀ C',ringC sb r C'→_ from fun C' hC'=>(ringAt_r (rb:=rb) hC' hr r.head hr.h0 hr.h1).does)
 have HS:=Lib.hid (show ∀ D',slotsD r.slots D'→cellAt D' (r.at r.head*9) (.int .i64 (r.slot r.head).seq) from fun D' h=>(h.at_ _ _ ha).1)
 have HK:=Lib.hid ha
 have h0:=hr.h0
 have h1:=hr.h1
 have HR:=Lib.hid (show r.ready=((r.slot r.head).seq == 2*r.head+1) from rfl)
 have HC:=Lib.hid hC
 have HD:=Lib.hid hD
 clear hg hr hC hD ha hal hav
 go_enter Tryz.func143,Tryz.ntmps143
 go_wp2_with fail
 obtain ⟨ι,W,hW0,hend,hin⟩:∃ (ι:Type) (W:ι→World),(∃ i,World.drew _=W i)∧(∀ i,∃ Cx Dx,(ringC sb r Cx∧slotsD r.slots Dx)∧TG [[cl rb 231 C,cl sb 233 D]] w [[cl rb 231 Cx],[cl sb 233 Dx]] (W i))∧(∀ w',(∃ Cx Dx,(ringC sb r Cx∧slotsD r.slots Dx)∧TG [[cl rb 231 C,cl sb 233 D]] w [[cl rb 231 Cx],[cl sb 233 Dx]] w')→∃ i,w'=W i):=⟨{w' // ∃ Cx Dx,(ringC sb r Cx∧slotsD r.slots Dx)∧TG [[cl rb 231 C,cl sb 233 D]] w [[cl rb 231 Cx],[cl sb 233 Dx]] w'},Subtype.val,⟨⟨_,C,D,⟨HC.out,HD.out⟩,HT.out.drew⟩,rfl⟩,fun i=>i.2,fun w' h=>⟨⟨w',h⟩,rfl⟩⟩
 have hne:Nonempty ι:=hW0.elim fun i _=>⟨i⟩
 have q5:∀ i,(W i).cell? ⟨rb,5,none⟩=some (.int .i64 r.head):=fun i=>by obtain ⟨_,_,h,T⟩:=hend i;exact (T.cell 0 0 rfl 5).trans h.1.head
 have m1:∀ i,Calls Tryz.prog 144 #[ptr' rb,.int .i64 r.head] (W i) fun e w2=>e=.returned (.pointer (some ⟨sb,r.at r.head*9,none⟩))∧∃ j,w2=W j:=fun i=>by
  obtain ⟨Cx,Dx,h,T⟩:=hend i
  refine (DoesG.use (HA.out _ h.1) T [0] rfl rfl).mono ?_
  rintro e w2 ⟨gs,⟨rfl,rfl⟩,T2⟩
  exact ⟨rfl,hin _ ⟨Cx,Dx,h,T2⟩⟩
 have m2:∀ i,Calls Tryz.prog 93 #[.pointer (some ⟨sb,r.at r.head*9,none⟩)] (W i) fun e w2=>e=.returned (.int .i64 (r.slot r.head).seq)∧∃ j,w2=W j:=fun i=>by
  obtain ⟨Cx,Dx,h,T⟩:=hend i
  refine (DoesG.use (cellG (loadI_does sb (r.at r.head*9) _ Dx _ (HS.out _ h.2))) T [1] rfl rfl).mono ?_
  rintro e w2 ⟨gs,⟨rfl,D1,hr1,rfl⟩,T2⟩
  exact ⟨rfl,hin _ ⟨Cx,D1,⟨h.1,h.2.same HK.out hr1⟩,T2⟩⟩
 refine wp_region_cls W (by kernel_rfl) (by kernel_rfl) hW0 ?_
 repeat (go_big_quiet_step ((first | (go_at_call 144;with_reducible exact m1 _) | (go_at_call 93;with_reducible exact m2 _))))
 refine wpQuiet_nil ?_
 intro _ hw
 obtain ⟨iq,hw2⟩:=hw
 subst hw2
 obtain ⟨Cx,Dx,h,T⟩:=hend iq
 have HT:=Lib.hid T
 generalize W iq=w1 at HT ⊢
 clear T hend hin hW0 hne
 have HH:=Lib.hid h
 clear h
 go_wp2
 go_ret
 exact ⟨_,⟨by rw [HR.out];rfl,_,isRing.mk' HH.out.1 HH.out.2,rfl⟩,HT.out.eq rfl⟩
set_option maxRecDepth 100000 in
theorem ringLen_g (hg:isRing rb r g) (hr:RingB r):DoesG Tryz.prog 108 #[ptr' rb] [g] fun e gs=>e=.returned (.int .i64 (r.tail - r.head))∧∃ g',isRing rb r g'∧gs=[g']:=by
 obtain ⟨sb,C,D,rfl,hC,hD⟩:=hg.open
 intro w hw
 have T0:=TG.refl hw
 have HT:=Lib.hid T0
 clear hw T0
 have HT:=Lib.hid (HT.out.eq (H':=[[cl rb 231 C],[cl sb 233 D]]) rfl)
 have h0:=hr.h0
 have h1:=hr.h1
 have h2:=hr.t0
 have h3:=hr.t1
 have HC:=Lib.hid hC
 have HD:=Lib.hid hD
 clear hg hr hC hD
 go_enter Tryz.func108,Tryz.ntmps108
 go_wp2_with fail
 obtain ⟨ι,W,hW0,hend,hin⟩:∃ (ι:Type) (W:ι→World),(∃ i,World.drew _=W i)∧(∀ i,∃ Cx,(ringC sb r Cx)∧TG [[cl rb 231 C,cl sb 233 D]] w [[cl rb 231 Cx],[cl sb 233 D]] (W i))∧(∀ w',(∃ Cx,(ringC sb r Cx)∧TG [[cl rb 231 C,cl sb 233 D]] w [[cl rb 231 Cx],[cl sb 233 D]] w')→∃ i,w'=W i):=⟨{w' // ∃ Cx,(ringC sb r Cx)∧TG [[cl rb 231 C,cl sb 233 D]] w [[cl rb 231 Cx],[cl sb 233 D]] w'},Subtype.val,⟨⟨_,C,HC.out,HT.out.drew⟩,rfl⟩,fun i=>i.2,fun w' h=>⟨⟨w',h⟩,rfl⟩⟩
 have hne:Nonempty ι:=hW0.elim fun i _=>⟨i⟩
 have q5:∀ i,(W i).cell? ⟨rb,5,none⟩=some (.int .i64 r.head):=fun i=>by obtain ⟨_,h,T⟩:=hend i;exact (T.cell 0 0 rfl 5).trans h.head
 have m2:∀ i,Calls Tryz.prog 93 #[.pointer (some ⟨rb,1,none⟩)] (W i) fun e w2=>e=.returned (.int .i64 r.tail)∧∃ j,w2=W j:=fun i=>by
  obtain ⟨Cx,h,T⟩:=hend i
  refine (DoesG.use (cellG (loadI_does rb 1 _ Cx _ h.tail)) T [0] rfl rfl).mono ?_
  rintro e w2 ⟨gs,⟨rfl,C1,hr1,rfl⟩,T2⟩
  exact ⟨rfl,hin _ ⟨C1,h.tailR hr1,T2⟩⟩
 refine wp_region_cls W (by kernel_rfl) (by kernel_rfl) hW0 ?_
 repeat (go_big_quiet_step ((first | (go_at_call 93;with_reducible exact m2 _))))
 refine wpQuiet_nil ?_
 intro _ hw
 obtain ⟨iq,hw2⟩:=hw
 subst hw2
 obtain ⟨Cx,h,T⟩:=hend iq
 have HT:=Lib.hid T
 generalize W iq=w1 at HT ⊢
 clear T hend hin hW0 hne
 have HH:=Lib.hid h
 clear h
 go_wp2
 go_ret
 exact ⟨_,⟨by rfl,_,isRing.mk' HH.out HD.out,rfl⟩,HT.out.eq rfl⟩
set_option maxRecDepth 100000 in
theorem ringPop_g (hg:isRing rb r g) (hr:RingB r):DoesG Tryz.prog 92 #[ptr' rb] [g] fun e gs=>e=.returned (.tuple #[.agg (popR r).2.1.cells,.int .i64 (popR r).2.2])∧∃ g',isRing rb (popR r).1 g'∧gs=[g']:=by
 have hrd:=ringReady_g hg hr
 cases hb:r.ready with
 | false =>
   have HE:=Lib.hid (show popR r=(r,TaskS.zero,6) from if_neg (by rw [hb];decide))
   rw [hb] at hrd
   intro w hw
   have T0:=TG.refl hw
   have HT:=Lib.hid T0
   clear hw T0
   have HR:=Lib.hid hrd
   clear hg hr hrd hb
   go_enter Tryz.func92,Tryz.ntmps92
   go_wp2_with fail
   have HT:=Lib.hid ((HT.out.alloc (k:=w.heap.size) rfl 40 TaskS.zero.cells).alloc (k:=w.heap.size+1) (by simp) 40 TaskS.zero.cells)
   go_wp2_with fail
   refine (DoesG.use (HR.out) (HT.out) [0] rfl rfl).mono ?_
   rintro e w1 ⟨gs,⟨rfl,g1,hg1,rfl⟩,Ta⟩
   simp only [PU] at Ta
   have HG:=Lib.hid hg1
   clear hg1
   have HT:=Lib.hid Ta
   clear Ta
   have a0:=HT.out.cell 1 0 rfl 0
   have fa0:=HT.out.free 1 0 rfl 0
   have a1:=HT.out.cell 1 0 rfl 1
   have fa1:=HT.out.free 1 0 rfl 1
   have a2:=HT.out.cell 1 0 rfl 2
   have fa2:=HT.out.free 1 0 rfl 2
   have a3:=HT.out.cell 1 0 rfl 3
   have fa3:=HT.out.free 1 0 rfl 3
   have a4:=HT.out.cell 1 0 rfl 4
   have fa4:=HT.out.free 1 0 rfl 4
   simp only [TaskS.cells,TaskS.zero,GE3] at a0 a1 a2 a3 a4
   have b0:=HT.out.cell 2 0 rfl 0
   have fb0:=HT.out.free 2 0 rfl 0
   have b1:=HT.out.cell 2 0 rfl 1
   have fb1:=HT.out.free 2 0 rfl 1
   have b2:=HT.out.cell 2 0 rfl 2
   have fb2:=HT.out.free 2 0 rfl 2
   have b3:=HT.out.cell 2 0 rfl 3
   have fb3:=HT.out.free 2 0 rfl 3
   have b4:=HT.out.cell 2 0 rfl 4
   have fb4:=HT.out.free 2 0 rfl 4
   simp only [TaskS.cells,TaskS.zero,GE3] at b0 b1 b2 b3 b4
   go_wp2
   exact bodyPost_ret (v:=.tuple #[.agg TaskS.zero.cells,.int .i64 6]) (by simp [results,Tryz.results92,go_sem,a0,a1,a2,a3,a4,TaskS.cells,TaskS.zero]) rfl ⟨_,⟨by rw [HE.out],g1,by rw [HE.out];exact HG.out,rfl⟩,((((((HT.out.set 1 0 rfl 0 _).set 1 0 rfl 1 _).set 1 0 rfl 2 _).set 1 0 rfl 3 _).set 1 0 rfl 4 _).pick [0] rfl)⟩
 | true =>
   have HE:=Lib.hid (show popR r=({ r with slots:=r.slots.set (r.at r.head) ⟨2*(r.head+r.slots.length),TaskS.zero⟩,head:=r.head+1 },(r.slot r.head).v,0) from if_pos hb)
   rw [hb] at hrd
   intro w hw
   have T0:=TG.refl hw
   have HT:=Lib.hid T0
   clear hw T0
   have HR:=Lib.hid hrd
   have HRB:=Lib.hid hr
   clear hg hr hrd hb
   go_enter Tryz.func92,Tryz.ntmps92
   go_wp2_with fail
   have HT:=Lib.hid ((HT.out.alloc (k:=w.heap.size) rfl 40 TaskS.zero.cells).alloc (k:=w.heap.size+1) (by simp) 40 TaskS.zero.cells)
   go_wp2_with fail
   refine (DoesG.use (HR.out) (HT.out) [0] rfl rfl).mono ?_
   rintro e w1 ⟨gs,⟨rfl,g1,hg1,rfl⟩,Ta⟩
   simp only [PU] at Ta
   have HT:=Lib.hid Ta
   clear Ta
   obtain ⟨sb,C,D,rfl,hC,hD⟩:=hg1.open
   have HT:=Lib.hid (HT.out.sum (H':=[[cl rb 231 C],[cl sb 233 D],[cl w.heap.size 40 TaskS.zero.cells],[cl (w.heap.size+1) 40 TaskS.zero.cells]]))
   obtain ⟨ha,hal,hav⟩:=ring_at HRB.out.n0 r.head
   have h0:=HRB.out.h0
   have h1:=HRB.out.h1
   have hn0:=HRB.out.n0
   have hn1:=HRB.out.n1
   have HC:=Lib.hid hC
   have HD:=Lib.hid hD
   have HA:=Lib.hid (ringAt_r (rb:=rb) hC HRB.out r.head h0 h1)
   have HV:=Lib.hid (hD.fill ha TaskS.zero (2*(r.head+r.slots.length)))
   have HCS:=Lib.hid ((hC.withSlots (l:=r.slots.set (r.at r.head) ⟨2*(r.head+r.slots.length),TaskS.zero⟩) (List.length_set ..)).headR (r.head+1))
   have hcell:=(hD.at_ _ _ ha).1
   obtain ⟨e0,e1,e2,e3,e4⟩:=(hD.at_ _ _ ha).2
   generalize r.slot r.head=s at *
   generalize r.at r.head=k at *
   have HP:=Lib.hid (show cellAt (putTask D (k*9+4) TaskS.zero) (k*9) (.int .i64 s.seq) from by
    obtain ⟨a0,l0,t0,u0,a1,a2,a3⟩:=hcell
    exact ⟨(putTask_ne (by omega)).trans a0,l0,t0,u0,(putTask_ne (by omega)).trans a1,(putTask_ne (by omega)).trans a2,(putTask_ne (by omega)).trans a3⟩)
   have HEE:=Lib.hid (And.intro e0 (And.intro e1 (And.intro e2 (And.intro e3 e4))))
   have c5:=(HT.out.cell 0 0 rfl 5).trans hC.head
   clear hg1 hC hD ha hal hav e0 e1 e2 e3 e4 hcell
   go_wp2_with fail
   refine (ReadsG.use (HA.out) (HT.out) [0] rfl rfl).mono ?_
   rintro e w1 ⟨rfl,mq,rfl⟩
   have HT:=Lib.hid (HT.out.drewN mq)
   generalize World.drewN _ _=wq at HT ⊢
   clear c5
   have z0:=HT.out.cell 3 0 rfl 0
   have z1:=HT.out.cell 3 0 rfl 1
   have z2:=HT.out.cell 3 0 rfl 2
   have z3:=HT.out.cell 3 0 rfl 3
   have z4:=HT.out.cell 3 0 rfl 4
   simp only [TaskS.cells,TaskS.zero,GE3] at z0 z1 z2 z3 z4
   have d0:=(HT.out.cell 1 0 rfl (k*9+4)).trans HEE.out.1
   have d1:=(HT.out.cell 1 0 rfl (k*9+4+1)).trans HEE.out.2.1
   have d2:=(HT.out.cell 1 0 rfl (k*9+4+2)).trans HEE.out.2.2.1
   have d3:=(HT.out.cell 1 0 rfl (k*9+4+3)).trans HEE.out.2.2.2.1
   have d4:=(HT.out.cell 1 0 rfl (k*9+4+4)).trans HEE.out.2.2.2.2
   have g0:=HT.out.free 1 0 rfl (k*9+4)
   have g1:=HT.out.free 1 0 rfl (k*9+4+1)
   have g2:=HT.out.free 1 0 rfl (k*9+4+2)
   have g3:=HT.out.free 1 0 rfl (k*9+4+3)
   have g4:=HT.out.free 1 0 rfl (k*9+4+4)
   have lt1:=HT.out.lt 1 0 rfl
   have lt3:=HT.out.lt 3 0 rfl
   simp only [] at lt1 lt3
   go_wp2
   have HT:=Lib.hid (((((((HT.out.set 1 0 rfl (k*9+4) (.int .u64 0)).set 1 0 rfl (k*9+4+1) (.int .i64 0)).set 1 0 rfl (k*9+4+2) (.int .u64 0)).set 1 0 rfl (k*9+4+3) (.int .u64 0)).set 1 0 rfl (k*9+4+4) (.int .u64 0)).alloc (k:=wq.heap.size) (by simp) 40 s.v.cells).eq (H':=[[cl rb 231 C],[cl sb 233 (putTask D (k*9+4) TaskS.zero)],[cl w.heap.size 40 TaskS.zero.cells],[cl (w.heap.size+1) 40 TaskS.zero.cells],[cl wq.heap.size 40 s.v.cells]]) rfl)
   simp only [TaskS.cells] at HT
   clear z0 z1 z2 z3 z4 d0 d1 d2 d3 d4 g0 g1 g2 g3 g4 lt1 lt3
   generalize World.alloc _ _=w2 at HT ⊢
   have c5:=(HT.out.cell 0 0 rfl 5).trans HC.out.head
   have c0:=(HT.out.cell 0 0 rfl 0).trans HC.out.sl
   refine wp_region_mix1 14 (by kernel_rfl) (by kernel_rfl) ?_
   simp only [TD4]
   repeat (go_big_quiet_step ((fail)))
   refine wpQuiet_nil ?_
   intro _ hw'
   obtain ⟨nq,hw''⟩:=hw'
   subst hw''
   have HT:=Lib.hid (HT.out.drewN nq)
   go_wp2_with fail
   refine (DoesG.use (storeC_g _ _ _ _ _ _ HP.out) (HT.out) [1] rfl rfl).mono ?_
   rintro e w1 ⟨gs,⟨rfl,rfl⟩,Ta⟩
   simp only [PU] at Ta
   have HT:=Lib.hid Ta
   clear Ta
   go_wp2_with fail
   refine ⟨rfl,?_⟩
   have HT:=Lib.hid (HT.out.eq (H':=[[cl rb 231 C],[cl sb 233 ((putTask D (k*9+4) TaskS.zero).setIfInBounds (k*9) (.int .i64 (2*(r.head+r.slots.length))))],[cl w.heap.size 40 TaskS.zero.cells],[cl (w.heap.size+1) 40 TaskS.zero.cells],[cl wq.heap.size 40 s.v.cells]]) rfl)
   clear c5 c0
   have c5:=(HT.out.cell 0 0 rfl 5).trans HC.out.head
   have f5:=HT.out.free 0 0 rfl 5
   have a0:=HT.out.cell 2 0 rfl 0
   have fa0:=HT.out.free 2 0 rfl 0
   have a1:=HT.out.cell 2 0 rfl 1
   have fa1:=HT.out.free 2 0 rfl 1
   have a2:=HT.out.cell 2 0 rfl 2
   have fa2:=HT.out.free 2 0 rfl 2
   have a3:=HT.out.cell 2 0 rfl 3
   have fa3:=HT.out.free 2 0 rfl 3
   have a4:=HT.out.cell 2 0 rfl 4
   have fa4:=HT.out.free 2 0 rfl 4
   simp only [TaskS.cells,TaskS.zero,GE3] at a0 a1 a2 a3 a4
   have b0:=HT.out.cell 4 0 rfl 0
   have b1:=HT.out.cell 4 0 rfl 1
   have b2:=HT.out.cell 4 0 rfl 2
   have b3:=HT.out.cell 4 0 rfl 3
   have b4:=HT.out.cell 4 0 rfl 4
   simp only [TaskS.cells,GE3] at b0 b1 b2 b3 b4
   have n1:=HT.out.ne 0 0 2 0 (by decide) rfl rfl
   have n2:=HT.out.ne 0 0 4 0 (by decide) rfl rfl
   have n3:=HT.out.ne 2 0 4 0 (by decide) rfl rfl
   simp only [] at n1 n2 n3
   go_wp2
   exact bodyPost_ret (v:=.tuple #[.agg s.v.cells,.int .i64 0]) (by simp [results,Tryz.results92,go_sem,a0,a1,a2,a3,a4,TaskS.cells,n1]) rfl ⟨_,⟨by rw [HE.out],_,by rw [HE.out];exact isRing.mk' HCS.out HV.out,rfl⟩,(((((((HT.out.set 0 0 rfl 5 _).set 2 0 rfl 0 _).set 2 0 rfl 1 _).set 2 0 rfl 2 _).set 2 0 rfl 3 _).set 2 0 rfl 4 _).pick [0,1] rfl).eq rfl⟩
end
end
end Go.Proofs.YtblhfbcodbjgcaaGreat
