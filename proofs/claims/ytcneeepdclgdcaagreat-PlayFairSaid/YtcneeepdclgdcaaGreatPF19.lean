import Derived.Test.YtcneeepdclgdcaaGreatPF18
import Derived.Test.YtcneeepdclgdcaaGreatPF4
import Derived.Test.YtcneeepdclgdcaaGreatPF5
import Derived.Test.YtcneeepdclgdcaaGreatPF15
set_option maxRecDepth 100000
set_option maxHeartbeats 4000000
namespace Go.Proofs.YtcneeepdclgdcaaGreat
open Go.Value renaming int->WK,tuple->WO
open Go.IntKind renaming i64->WL,u64->WN
open Go.Ending renaming returned->WM
open _root_.List renaming getElem?_eq_some_iff->WQ,getElem?_set->WS,length_set->WW
open Go renaming wpQuiet_nil->WR,bodyPost_end->WT,results_none->WU,bodyPost_ret->WX
open _root_.And renaming intro->WV
open Go.World renaming alloc->WY,drew->XA
open _root_.Subtype renaming val->WZ
set_option linter.all false
open Go.Proofs.Tryz
section
open Go.RowKit Go.Shelf
structure Xv where
 pos:Int
 next:Int
 status:Int
 filled:Bool
def X6:Xv:=⟨0,0,0,false⟩
def lZ.zero:lZ:=⟨0,Qn.zero⟩
def Qx.at (r:Qx) (pos:Int):Nat:=(pos % (r.slots.length:Int)).toNat
def Qx.slot (r:Qx) (pos:Int):lZ:=r.slots.getD (r.at pos) lZ.zero
def rG (r:Qx) (t:Xv):Xv:={ t with pos:=r.tail,next:=1 }
def qE (r:Qx) (t:Xv):Xv :=
 if 2*t.pos<(r.slot t.pos).seq then { t with next:=0 } else if (r.slot t.pos).seq<2*t.pos then { t with status:=1 } else { t with next:=2 }
def oU (r:Qx) (t:Xv):Qx × Xv :=
 if r.tail=t.pos then ({ r with tail:=t.pos+1 },{ t with next:=0,status:=2 }) else (r,{ t with next:=0 })
def stepT (r:Qx) (t:Xv):Qx × Xv :=
 if t.status≠0 then (r,t) else if t.next=0 then (r,rG r t) else if t.next=1 then (r,qE r t) else oU r t
def Zn (r:Qx) (t:Xv) (v:Qn):Qx × Xv × Int :=
 if t.status=2/\t.filled=false then ({ r with slots:=r.slots.set (r.at t.pos) ⟨2*t.pos+1,v⟩ },{ t with filled:=true },0) else (r,t,7)
def Qx.ready (r:Qx):Bool:=(r.slot r.head).seq == 2*r.head+1
def J4 (r:Qx):Qx × Qn × Int :=
 if r.ready=true then ({ r with slots:=r.slots.set (r.at r.head) ⟨2*(r.head+r.slots.length),Qn.zero⟩,head:=r.head+1 },(r.slot r.head).v,0) else (r,Qn.zero,6)
structure zx (r:Qx):Prop where
 n0:1<=r.slots.length
 n1:r.slots.length<=64
 t0:0<=r.tail
 t1:r.tail<=1099511627776
 h0:0<=r.head
 h1:r.head<=1099511627776
structure uA (t:Xv):Prop where
 p0:0<=t.pos
 p1:t.pos<=1099511627776
 nx:t.next=0\/t.next=1\/t.next=2
 st:t.status=0\/t.status=1\/t.status=2
theorem q63 {r:Qx} {t:Xv} (hr:zx r) (ht:uA t):uA (stepT r t).2:=by
 unfold stepT rG qE oU;have h1:=hr.t0;have h2:=hr.t1;split
 ·exact ht
 ·split
  ·exact ⟨h1,h2,.inr (.inl rfl),ht.st⟩
  ·split
   ·split
    ·exact ⟨ht.p0,ht.p1,.inl rfl,ht.st⟩
    ·split
     ·exact ⟨ht.p0,ht.p1,ht.nx,.inr (.inl rfl)⟩
     ·exact ⟨ht.p0,ht.p1,.inr (.inr rfl),ht.st⟩
   ·split
    ·exact ⟨ht.p0,ht.p1,.inl rfl,.inr (.inr rfl)⟩
    ·exact ⟨ht.p0,ht.p1,.inl rfl,ht.st⟩
def Qn.cells (t:Qn):Array Value:=#[WK WN t.id,WK WL t.slot,WK WN t.gen,WK WN t.dl,WK WN t.per]
def kr (rb:Nat) (t:Xv):Array Value:=#[Qb rb,WK WL t.pos,WK WL t.next,WK WL t.status,.bool t.filled]
def Xy (tb rb:Nat) (t:Xv):List ak:=[cl tb 343 (kr rb t)]
structure lJ (sb:Nat) (r:Qx) (C:Array Value):Prop where
 size:C.size=6
 sl:C[0]?=some (.slice (some ⟨sb,0,none⟩) r.slots.length r.slots.length)
 tail:cellAt C 1 (WK WL r.tail)
 head:C[5]?=some (WK WL r.head)
structure Yw (l:List lZ) (D:Array Value):Prop where
 size:D.size=l.length*9
 at_:∀ i s,l[i]?=some s->EN D i s
theorem X2.open {rb:Nat} {r:Qx} {g:List ak} (h:X2 rb r g):∃ sb C D,g=[cl rb 249 C,cl sb 251 D]/\lJ sb r C/\Yw r.slots D:=by
 obtain ⟨sb,C,D,rfl,h0,h1,h2,h3,h4,h5⟩:=h;exact ⟨sb,C,D,rfl,⟨h0,h1,h2,h3⟩,⟨h4,h5⟩⟩
theorem X2.mk' {rb sb:Nat} {r:Qx} {C D:Array Value} (h:lJ sb r C) (hd:Yw r.slots D):X2 rb r [cl rb 249 C,cl sb 251 D] :=
 ⟨sb,C,D,rfl,h.size,h.sl,h.tail,h.head,hd.size,hd.at_⟩
theorem lJ.p8 {sb:Nat} {r:Qx} {C C':Array Value} (h:lJ sb r C) {x:Int} (rc:Xi C 1 (WK WL x) C'):lJ sb { r with tail:=x } C' :=
 ⟨rc.size.trans h.size,(rc.other 0 (by omega)).trans h.sl,rc.cell,(rc.other 5 (by omega)).trans h.head⟩
theorem lJ.Dt {sb:Nat} {r:Qx} {C:Array Value} (h:lJ sb r C) (x:Int):lJ sb { r with head:=x } (C.setIfInBounds 5 (WK WL x)):=by
 obtain ⟨hs,hsl,⟨h0,l,t,u,h1,h2,h3⟩,hh⟩:=h;exact ⟨by simpa using hs,(Qc (by omega)).trans hsl,⟨(Qc (by omega)).trans h0,l,t,u,(Qc (by omega)).trans h1,(Qc (by omega)).trans h2,(Qc (by omega)).trans h3⟩,Xa hh⟩
theorem lJ.kY {sb:Nat} {r:Qx} {C:Array Value} (h:lJ sb r C) {l:List lZ} (hl:l.length=r.slots.length):lJ sb { r with slots:=l } C :=
 ⟨h.size,by have:=h.sl;simpa [hl] using this,h.tail,h.head⟩
theorem Yw.re {l:List lZ} {D D':Array Value} {k:Nat} {x:Int} {s:lZ} (h:Yw l D) (hk:l[k]?=some s) (rc:Xi D (k*9) (WK WL x) D'):Yw (l.set k { s with seq:=x }) D':=by
 refine ⟨by rw [WW];exact rc.size.trans h.size,fun i s' hs=>?_⟩
 rw [WS] at hs;by_cases e:k=i
 ·subst e
  rw [if_pos rfl,if_pos (WQ.1 hk).1] at hs;cases hs
  obtain ⟨_,b0,b1,b2,b3,b4⟩:=h.at_ k s hk;exact ⟨rc.cell,(rc.other _ (by omega)).trans b0,(rc.other _ (by omega)).trans b1,(rc.other _ (by omega)).trans b2,(rc.other _ (by omega)).trans b3,(rc.other _ (by omega)).trans b4⟩
 ·rw [if_neg e] at hs
  obtain ⟨a,b0,b1,b2,b3,b4⟩:=h.at_ i s' hs;exact ⟨rc.bU a (by omega),(rc.other _ (by omega)).trans b0,(rc.other _ (by omega)).trans b1,(rc.other _ (by omega)).trans b2,(rc.other _ (by omega)).trans b3,(rc.other _ (by omega)).trans b4⟩
theorem Yw.same {l:List lZ} {D D':Array Value} {k:Nat} {s:lZ} (h:Yw l D) (hk:l[k]?=some s) (rc:Xi D (k*9) (WK WL s.seq) D'):Yw l D':=by
 have:=h.re hk rc;have e:l.set k { s with seq:=s.seq }=l:=Yg hk;exact e ▸ this
def qi (D:Array Value) (o:Nat) (v:Qn):Array Value:=((((D.setIfInBounds o (WK WN v.id)).setIfInBounds (o+1) (WK WL v.slot)).setIfInBounds (o+2) (WK WN v.gen)).setIfInBounds (o+3) (WK WN v.dl)).setIfInBounds (o+4) (WK WN v.per)
theorem Q8 {D:Array Value} {o j:Nat} {v:Qn} (h:j<o\/o+5<=j):(qi D o v)[j]?=D[j]?:=by
 unfold qi;rw [Qc (by omega),Qc (by omega),Qc (by omega),Qc (by omega),Qc (by omega)]
theorem qul {D:Array Value} {o:Nat} {u v:Qn} (h:ND D o u):ND (qi D o v) o v:=by
 obtain ⟨b0,b1,b2,b3,b4⟩:=h;unfold qi;refine ⟨?_,?_,?_,?_,?_⟩
 ·rw [Qc (by omega),Qc (by omega),Qc (by omega),Qc (by omega)];exact Xa b0
 ·rw [Qc (by omega),Qc (by omega),Qc (by omega)];exact Xa (by rw [Qc (by omega)];exact b1)
 ·rw [Qc (by omega),Qc (by omega)];exact Xa (by rw [Qc (by omega),Qc (by omega)];exact b2)
 ·rw [Qc (by omega)];exact Xa (by rw [Qc (by omega),Qc (by omega),Qc (by omega)];exact b3)
 ·exact Xa (by rw [Qc (by omega),Qc (by omega),Qc (by omega),Qc (by omega)];exact b4)
theorem Yw.K4 {l:List lZ} {D:Array Value} {k:Nat} {s:lZ} (h:Yw l D) (hk:l[k]?=some s) (v:Qn):Yw (l.set k { s with v:=v }) (qi D (k*9+4) v):=by
 refine ⟨by rw [WW];unfold qi;simpa using h.size,fun i s' hs=>?_⟩
 rw [WS] at hs;by_cases e:k=i
 ·subst e
  rw [if_pos rfl,if_pos (WQ.1 hk).1] at hs;cases hs
  obtain ⟨⟨a0,l,t,u,a1,a2,a3⟩,b⟩:=h.at_ k s hk;exact ⟨⟨(Q8 (by omega)).trans a0,l,t,u,(Q8 (by omega)).trans a1,(Q8 (by omega)).trans a2,(Q8 (by omega)).trans a3⟩,qul b⟩
 ·rw [if_neg e] at hs
  obtain ⟨⟨a0,l,t,u,a1,a2,a3⟩,b0,b1,b2,b3,b4⟩:=h.at_ i s' hs;exact ⟨⟨(Q8 (by omega)).trans a0,l,t,u,(Q8 (by omega)).trans a1,(Q8 (by omega)).trans a2,(Q8 (by omega)).trans a3⟩,(Q8 (by omega)).trans b0,(Q8 (by omega)).trans b1,(Q8 (by omega)).trans b2,(Q8 (by omega)).trans b3,(Q8 (by omega)).trans b4⟩
theorem EI {r:Qx} (h:1<=r.slots.length) (pos:Int):r.slots[r.at pos]?=some (r.slot pos)/\r.at pos<r.slots.length/\((r.at pos:Nat):Int)=pos % (r.slots.length:Int):=by
 have x0:0<=pos % (r.slots.length:Int):=Int.emod_nonneg _ (by omega);have x1:pos % (r.slots.length:Int)<r.slots.length:=Int.emod_lt_of_pos _ (by omega);have hl:r.at pos<r.slots.length:=by unfold Qx.at;omega
 refine ⟨?_,hl,by unfold Qx.at;omega⟩
 unfold Qx.slot;rw [List.getD_eq_getElem?_getD,List.getElem?_eq_getElem hl];rfl
section
variable {rb sb tb:Nat} {r:Qx} {t:Xv} {C D:Array Value} {g:List ak}
theorem Hd (hc:lJ sb r C) (hr:zx r) (pos:Int) (h0:0<=pos) (h1:pos<=1099511627776):Qe prog 148 #[Qb rb,WK WL pos] [[cl rb 249 C]] (.pointer (some ⟨sb,r.at pos*9,none⟩)):=by
 obtain ⟨ha,hal,pP⟩:=EI hr.n0 pos;obtain ⟨k,hk⟩:∃ k,r.at pos=k:=⟨_,rfl⟩;have HK:=Vh hk;rw [hk] at pP hal;refine GO fun w HT=>?_
 have c0:=(HT.c 0 0 0).trans hc.sl;have hn0:=hr.n0;generalize r.slots.length=n at *;have hz:((n:Int) == 0)=false:=beq_eq_false_iff_ne.2 (by omega);have hm0:0<=pos % (n:Int):=by omega
 have hm1:pos % (n:Int)<n:=by omega
 have hm2:(pos % (n:Int)).toNat=k:=by omega
 clear hc hr hk ha;go_enter func148,ntmps148
 go_wp2
 go_quiet ((fail))
 have HT:=Vh (HT.out.drewN nq);go_wp2
 go_ret
 exact ⟨by rw [HK.out];rfl,_,rfl⟩
theorem qva (hg:X2 rb r g):Qa prog 251 #[Qb tb] [Xy tb rb t,g] fun e gs=>e=WM (WO #[])/\∃ g',X2 rb r g'/\gs=[Xy tb rb (rG r t),g']:=by
 obtain ⟨sb,C,D,rfl,hC,hD⟩:=hg.open;refine GO fun w HT=>?_
 have HC:=Vh hC;have HD:=Vh hD;clear hC hD hg;simp only [Xy] at HT |-;have HT:=Vh (HT.out.eq (H':=[[cl tb 343 (kr rb t)],[cl rb 249 C],[cl sb 251 D]]) rfl);have t0:=HT.c 0 0 0;simp only [kr,bR] at t0;go_enter func251,ntmps251
 go_wp2_with fail
 refine Qa.run (oM (X9 rb 1 _ C r.tail HC.tail)) (HT) [1] ?_
 rintro e w1 gs ⟨rfl,C1,hr,rfl⟩ HT;simp only [PU] at HT;obtain ⟨t1,t2⟩:=HT.c2 0 0 1 2;obtain ⟨f1,f2⟩:=HT.f2 0 0 1 2;have kZ:=Vh (HC.out.p8 hr);clear hr;simp only [kr,aC] at t1 t2;go_wp2
 refine WT (WU rfl _ _ _) rfl ⟨_,⟨rfl,_,X2.mk' kZ HD,rfl⟩,(((HT.set 0 0 rfl 1 _).set 0 0 rfl 2 _).eq rfl)⟩
theorem qqk (hg:X2 rb r g) (hr:zx r) (ht:uA t):Qa prog 252 #[Qb tb] [Xy tb rb t,g] fun e gs=>e=WM (WO #[])/\∃ g',X2 rb r g'/\gs=[Xy tb rb (qE r t),g']:=by
 obtain ⟨sb,C,D,rfl,hC,hD⟩:=hg.open;obtain ⟨ha,hal,pP⟩:=EI hr.n0 t.pos;refine GO fun w HT=>?_
 have HC:=Vh hC;have HD:=Vh hD;have HA:=Vh (Hd (rb:=rb) hC hr t.pos ht.p0 ht.p1);simp only [Xy] at HT |-;have HT:=Vh (HT.out.eq (H':=[[cl tb 343 (kr rb t)],[cl rb 249 C],[cl sb 251 D]]) rfl);have HS:=Vh (hD.at_ _ _ ha).1;have HW:=Vh (show qE r t=if 2*t.pos<(r.slot t.pos).seq then { t with next:=0 } else if (r.slot t.pos).seq<2*t.pos then { t with status:=1 } else { t with next:=2 } from rfl);have HK:=Vh ha;generalize r.slot t.pos=s at *;generalize r.at t.pos=k at *;have p0:=ht.p0;have p1:=ht.p1;obtain ⟨pos,nx,st,fi⟩:=t;simp only at HA HW p0 p1;obtain ⟨t0,t1⟩:=HT.c2 0 0 0 1;simp only [kr,aC] at t0 t1;clear hC hD hg ha pP ht hr;by_cases h1:2*pos<s.seq
 ·have HW2:=Vh (HW.out.trans (if_pos h1))
  go_enter func252,ntmps252
  go_upto_region 0 with fail
  refine Mx 11 ?_
  simp only [dx]
  repeat (go_big_quiet_step ((first | (go_at_call 148;with_reducible exact Qe.quiet (HA.out) HT.out _ [1] rfl rfl))))
  refine WR (QT HT fun nq HT=>?_)
  go_wp2_with fail
  refine (Qa.use (oM (X9 sb (k*9) _ D s.seq HS)) (HT) [2] rfl rfl).mono ?_
  rintro e w1 ⟨gs,⟨rfl,D1,hr,rfl⟩,Ta⟩;simp only [PU] at Ta;obtain ⟨t1,t2⟩:=Ta.c2 0 0 1 2;have f2:=Ta.f 0 0 2;have HD1:=Vh (HD.out.same HK hr);simp only [kr,aC] at t1 t2;have HT:=Vh Ta;clear Ta hr;go_wp2_with fail
  refine ⟨rfl,?_⟩
  go_wp2
  refine WT (WU rfl _ _ _) rfl ⟨_,⟨rfl,_,X2.mk' HC HD1,rfl⟩,((HT.set 0 0 rfl 2 _).eq (by rw [HW2.out];rfl))⟩
 ·by_cases h2:s.seq<2*pos
  ·have HW2:=Vh ((HW.trans (if_neg h1)).trans (if_pos h2))
   go_enter func252,ntmps252
   go_upto_region 0 with fail
   refine Mx 11 ?_
   simp only [dx]
   repeat (go_big_quiet_step ((first | (go_at_call 148;with_reducible exact Qe.quiet (HA.out) HT.out _ [1] rfl rfl))))
   refine WR (QT HT fun nq HT=>?_)
   go_wp2_with fail
   refine (Qa.use (oM (X9 sb (k*9) _ D s.seq HS)) (HT) [2] rfl rfl).mono ?_
   rintro e w1 ⟨gs,⟨rfl,D1,hr,rfl⟩,Ta⟩;simp only [PU] at Ta;obtain ⟨t1,t2⟩:=Ta.c2 0 0 1 3;have f2:=Ta.f 0 0 3;have HD1:=Vh (HD.out.same HK hr);simp only [kr,aC] at t1 t2;have HT:=Vh Ta;clear Ta hr;go_wp2_with fail
   refine ⟨rfl,?_⟩
   go_wp2
   refine WT (WU rfl _ _ _) rfl ⟨_,⟨rfl,_,X2.mk' HC HD1,rfl⟩,((HT.set 0 0 rfl 3 _).eq (by rw [HW2.out];rfl))⟩
  ·have HW2:=Vh ((HW.trans (if_neg h1)).trans (if_neg h2))
   go_enter func252,ntmps252
   go_upto_region 0 with fail
   refine Mx 11 ?_
   simp only [dx]
   repeat (go_big_quiet_step ((first | (go_at_call 148;with_reducible exact Qe.quiet (HA.out) HT.out _ [1] rfl rfl))))
   refine WR (QT HT fun nq HT=>?_)
   go_wp2_with fail
   refine (Qa.use (oM (X9 sb (k*9) _ D s.seq HS)) (HT) [2] rfl rfl).mono ?_
   rintro e w1 ⟨gs,⟨rfl,D1,hr,rfl⟩,Ta⟩;simp only [PU] at Ta;obtain ⟨t1,t2⟩:=Ta.c2 0 0 1 2;have f2:=Ta.f 0 0 2;have HD1:=Vh (HD.out.same HK hr);simp only [kr,aC] at t1 t2;have HT:=Vh Ta;clear Ta hr;go_wp2_with fail
   refine ⟨rfl,?_⟩
   go_wp2
   refine WT (WU rfl _ _ _) rfl ⟨_,⟨rfl,_,X2.mk' HC HD1,rfl⟩,((HT.set 0 0 rfl 2 _).eq (by rw [HW2.out];rfl))⟩
theorem qvc (hg:X2 rb r g) (ht:uA t):Qa prog 253 #[Qb tb] [Xy tb rb t,g] fun e gs=>e=WM (WO #[])/\∃ g',X2 rb (oU r t).1 g'/\gs=[Xy tb rb (oU r t).2,g']:=by
 obtain ⟨sb,C,D,rfl,hC,hD⟩:=hg.open;refine GO fun w HT=>?_
 have HC:=Vh hC;have HD:=Vh hD;simp only [Xy] at HT |-;have HT:=Vh (HT.out.eq (H':=[[cl tb 343 (kr rb t)],[cl rb 249 C],[cl sb 251 D]]) rfl);have p0:=ht.p0;have p1:=ht.p1;obtain ⟨pos,nx,st,fi⟩:=t;simp only at p0 p1;obtain ⟨t0,t1,t2⟩:=HT.c3 0 0 0 1 2;have f2:=HT.f 0 0 2;simp only [kr,aC] at t0 t1 t2;clear hC hD hg ht;by_cases h1:r.tail=pos
 ·have HW:=Vh (show oU r ⟨pos,nx,st,fi⟩=({ r with tail:=pos+1 },⟨pos,0,2,fi⟩) from if_pos h1)
  have iD:=Vh (Et rb 1 249 C r.tail pos (pos+1) HC.tail);have HB:=Vh (show (Value.bool (decide (r.tail=pos)))=.bool true/\(if r.tail=pos then pos+1 else r.tail)=pos+1 from ⟨by rw [decide_eq_true h1],if_pos h1⟩);rw [HB.out.1,HB.out.2] at iD;clear h1;go_enter func253,ntmps253
  go_wp2_with fail
  have HT:=Vh (HT.out.set 0 0 rfl 2 (WK WL 0));refine Mx 15 ?_
  simp only [dx]
  repeat (go_big_quiet_step ((fail)))
  refine WR (QT HT fun nq HT=>?_)
  go_wp2_with fail
  refine (Qa.use (oM iD) (HT) [1] rfl rfl).mono ?_
  rintro e w1 ⟨gs,⟨rfl,C1,hr,rfl⟩,Ta⟩;simp only [PU] at Ta;have kZ:=Vh (HC.out.p8 hr);have t3:=Ta.c 0 0 3;have f3:=Ta.f 0 0 3;have HT:=Vh Ta;clear Ta hr;go_wp2_with fail
  refine ⟨rfl,?_⟩
  go_wp2
  refine WT (WU rfl _ _ _) rfl ⟨_,⟨rfl,_,by rw [HW.out];exact X2.mk' kZ HD,rfl⟩,((HT.set 0 0 rfl 3 _).eq (by rw [HW.out];rfl))⟩
 ·have HW:=Vh (show oU r ⟨pos,nx,st,fi⟩=(r,⟨pos,0,st,fi⟩) from if_neg h1)
  have iD:=Vh (Et rb 1 249 C r.tail pos (pos+1) HC.tail);have HB:=Vh (show (Value.bool (decide (r.tail=pos)))=.bool false/\(if r.tail=pos then pos+1 else r.tail)=r.tail from ⟨by rw [decide_eq_false h1],if_neg h1⟩);rw [HB.out.1,HB.out.2] at iD;clear h1;go_enter func253,ntmps253
  go_wp2_with fail
  have HT:=Vh (HT.out.set 0 0 rfl 2 (WK WL 0));refine Mx 15 ?_
  simp only [dx]
  repeat (go_big_quiet_step ((fail)))
  refine WR (QT HT fun nq HT=>?_)
  go_wp2_with fail
  refine (Qa.use (oM iD) (HT) [1] rfl rfl).mono ?_
  rintro e w1 ⟨gs,⟨rfl,C1,hr,rfl⟩,Ta⟩;simp only [PU] at Ta;have kZ:=Vh (HC.out.p8 hr);have HT:=Vh Ta;clear Ta hr;go_wp2_with fail
  refine ⟨rfl,?_⟩
  go_wp2
  refine WT (WU rfl _ _ _) rfl ⟨_,⟨rfl,_,by rw [HW.out];exact X2.mk' kZ HD,rfl⟩,(HT.eq (by rw [HW.out];rfl))⟩
end
theorem R3 (bb:Nat) (now who:Int) (ok:Bool) (hk:(now == 0)=ok) (h:0<=who/\who<=1000000000) :
 Qa prog 290 #[WK WL now,Qb bb] [[cl bb 3 #[WK WL who]]] fun e gs=>e=WM (WO #[WK WL (who+1),.bool ok])/\gs=[[cl bb 3 #[WK WL who]]]:=by
 subst hk;refine GO fun w HT=>?_
 have c0:=HT.c 0 0 0;simp only [bR] at c0;obtain ⟨h1,h2⟩:=h;go_enter func290,ntmps290
 go_wp2
 go_ret2
 exact ⟨_,⟨by simp,rfl⟩,HT⟩
theorem qk.re {who n y:Int} {C C':Array Value} (h:C.size=5/\cellAt C 0 (WK WL who)/\C[4]?=some (WK WL n)) (r:Xi C 0 (WK WL y) C'):C'.size=5/\cellAt C' 0 (WK WL y)/\C'[4]?=some (WK WL n) :=
 ⟨r.size.trans h.1,r.cell,(r.other 4 (by omega)).trans h.2.2⟩
theorem qt3 {who n m:Int} {C:Array Value} (h:C.size=5/\cellAt C 0 (WK WL who)/\C[4]?=some (WK WL n)):(C.setIfInBounds 4 (WK WL m)).size=5/\cellAt (C.setIfInBounds 4 (WK WL m)) 0 (WK WL who)/\(C.setIfInBounds 4 (WK WL m))[4]?=some (WK WL m):=by
 obtain ⟨hs,⟨h0,l,t,u,h1,h2,h3⟩,h4⟩:=h;exact ⟨by simpa using hs,⟨(Qc (by omega)).trans h0,l,t,u,(Qc (by omega)).trans h1,(Qc (by omega)).trans h2,(Qc (by omega)).trans h3⟩,Xa h4⟩
def ow (x who:Int):Int:=if x=0 then who+1 else x
def nC (x n:Int):Int:=if x=0 then n+1 else n
theorem qxk {lb:Nat} {x n:Int} {g:List ak} (who:Int) (hg:qk lb x n g) (h:0<=who/\who<=1000000000) (hn:0<=n/\n<=1000000000) :
 Qa prog 275 #[Qb lb,WK WL who] [g] fun e gs=>e=WM (.bool (x == 0))/\∃ g',qk lb (ow x who) (nC x n) g'/\gs=[g']:=by
 obtain ⟨C,rfl,hC⟩:=hg;refine GO fun w HT=>?_
 have HC:=Vh hC;have hw0:=h.1;by_cases hx:x=0
 ·subst hx
  have HB:=Vh (R3 w.heap.size 0 who true rfl h);obtain ⟨hn0,hn1⟩:=hn;clear hC h;go_enter func275,ntmps275
  go_wp2_with fail
  refine Qa.run (EK (aK:=#[Qb w.heap.size]) (g:=290) (bb:=w.heap.size) (D:=#[WK WL who]) HC.2.1 (enters_of func290 (by kernel_rfl) rfl) HB) ((HT.alloc rfl _ _)) [0,1] ?_
  rintro e w1 gs ⟨rfl,C1,hr,rfl⟩ HT;simp only [PU] at HT;have kZ:=Vh (qk.re HC hr);have c4:=(HT.c 0 0 4).trans kZ.2.2;have fc4:=HT.f 0 0 4;clear hr;go_wp2
  go_ret
  exact ⟨_,⟨rfl,_,⟨_,rfl,qt3 kZ⟩,rfl⟩,(HT.set 0 0 rfl 4 _).p [0]⟩
 ·have hb:(x == 0)=false:=beq_eq_false_iff_ne.2 hx
  have HB:=Vh (R3 w.heap.size x who false hb h);have HX:=Vh (show ow x who=x/\nC x n=n from ⟨if_neg hx,if_neg hx⟩);have HBB:=Vh hb;clear hC hx hb h hn;go_enter func275,ntmps275
  go_wp2_with fail
  refine Qa.run (EK (aK:=#[Qb w.heap.size]) (g:=290) (bb:=w.heap.size) (D:=#[WK WL who]) HC.2.1 (enters_of func290 (by kernel_rfl) rfl) HB) ((HT.alloc rfl _ _)) [0,1] ?_
  rintro e w1 gs ⟨rfl,C1,hr,rfl⟩ HT;simp only [PU] at HT;have kZ:=Vh (qk.re HC hr);clear hr;go_wp2
  go_ret
  exact ⟨_,⟨by rw [HBB.out];rfl,_,⟨_,rfl,by rw [HX.out.1,HX.out.2];exact kZ⟩,rfl⟩,HT.p [0]⟩
theorem qxi {lb:Nat} {x n:Int} {g:List ak} (who:Int) (hg:qk lb x n g) :
 Qa prog 273 #[Qb lb,WK WL who] [g] fun e gs=>e=WM (.bool (decide (0<=who) && x == 0))/\∃ g',qk lb x n g'/\gs=[g']:=by
 obtain ⟨C,rfl,hC⟩:=hg;refine GO fun w HT=>?_
 have HC:=Vh hC;clear hC;by_cases hw:0<=who
 ·have HW:=Vh (show decide (0<=who)=true from by simpa using hw)
  go_enter func273,ntmps273
  go_wp2_with fail
  refine Qa.run (oM (X9 lb 0 _ C x HC.2.1)) (HT) [0] ?_
  rintro e w1 gs ⟨rfl,C1,hr,rfl⟩ HT;simp only [PU] at HT;have kZ:=Vh (qk.re HC hr);clear hr;go_wp2
  go_ret
  exact ⟨_,⟨by rw [HW.out,Bool.true_and];rfl,_,⟨_,rfl,kZ⟩,rfl⟩,HT⟩
 ·have HW:=Vh (show decide (0<=who)=false from by simpa using hw)
  go_enter func273,ntmps273
  go_wp2
  go_ret
  exact ⟨_,⟨by rw [HW.out,Bool.false_and];rfl,_,⟨_,rfl,HC⟩,rfl⟩,HT⟩
theorem qne (bb:Nat) (now who:Int) (ok:Bool) (hk:(now == who+1)=ok) (h:0<=who/\who<=1000000000) :
 Qa prog 300 #[WK WL now,Qb bb] [[cl bb 3 #[WK WL who]]] fun e gs=>e=WM (WO #[WK WL 0,.bool ok])/\gs=[[cl bb 3 #[WK WL who]]]:=by
 subst hk;refine GO fun w HT=>?_
 have c0:=HT.c 0 0 0;simp only [bR] at c0;obtain ⟨h1,h2⟩:=h;go_enter func300,ntmps300
 go_wp2
 try go_quiet (fail)
 try go_wp2
 go_ret2
 first | exact ⟨_,⟨by simp,rfl⟩,HT.drewN _⟩ | exact ⟨_,⟨by simp,rfl⟩,HT⟩
theorem qpo {lb:Nat} {n:Int} {g:List ak} (who:Int) (hg:qk lb (who+1) n g) (h:0<=who/\who<=1000000000) :
 Qa prog 285 #[Qb lb,WK WL who] [g] fun e gs=>e=WM (WK WL 0)/\∃ g',qk lb 0 n g'/\gs=[g']:=by
 obtain ⟨C,rfl,hC⟩:=hg;refine GO fun w HT=>?_
 have HC:=Vh hC;have hw0:=h.1;have HB:=Vh (qne w.heap.size (who+1) who true (by simp) h);clear hC h;go_enter func285,ntmps285
 go_wp2_with fail
 refine Qa.run (EK (aK:=#[Qb w.heap.size]) (g:=300) (bb:=w.heap.size) (D:=#[WK WL who]) HC.2.1 (enters_of func300 (by kernel_rfl) rfl) HB) ((HT.alloc rfl _ _)) [0,1] ?_
 rintro e w1 gs ⟨rfl,C1,hr,rfl⟩ HT;simp only [PU] at HT;have kZ:=Vh (qk.re HC hr);clear hr;go_wp2
 go_ret
 exact ⟨_,⟨rfl,_,⟨_,rfl,kZ⟩,rfl⟩,HT.p [0]⟩
def Xl (b rb lb wb:Nat):List ak:=[cl b 238 #[Qb rb,Qb lb,Qb wb]]
theorem Jm (b rb lb wb:Nat):Qa prog 86 #[Qb b] [Xl b rb lb wb] fun e gs=>e=WM (.agg #[Qb rb,Qb lb,Qb wb])/\gs=[Xl b rb lb wb]:=by
 refine GO fun w HT=>?_
 simp only [Xl] at HT |-;obtain ⟨c0,c1,c2⟩:=HT.c3 0 0 0 1 2;have hlt:=HT.l 0 0;simp only [aC] at c0 c1 c2 hlt;go_enter func86,ntmps86
 go_wp2
 exact WX (v:=.agg #[Qb rb,Qb lb,Qb wb]) (by simp [results,results86,go_sem]) rfl ⟨_,⟨rfl,rfl⟩,HT.aN _⟩
theorem J8 (a b c:Value) (w:World):(Instr.field 159 (.agg #[a,b,c]) 0).run prog w=.ok a w/\(Instr.field 159 (.agg #[a,b,c]) 1).run prog w=.ok b w/\(Instr.field 159 (.agg #[a,b,c]) 2).run prog w=.ok c w:=⟨by kernel_rfl,by kernel_rfl,by kernel_rfl⟩
theorem qqb (b rb lb wb:Nat):Qa prog 33 #[Qb b] [Xl b rb lb wb] fun e gs=>e=WM (Qb lb)/\gs=[Xl b rb lb wb]:=by
 refine GO fun w HT=>?_
 go_enter func33,ntmps33
 go_wp2_with fail
 refine Qa.run (Jm b rb lb wb) (HT) [0] ?_
 rintro e w1 gs ⟨rfl,rfl⟩ HT;simp only [PU] at HT;have hf:=fun w=>(J8 (Qb rb) (Qb lb) (Qb wb) w).2.1
 go_wp2
 go_ret
 exact ⟨_,⟨rfl,rfl⟩,HT⟩
section
variable {rb sb tb:Nat} {r:Qx} {t:Xv} {C D:Array Value} {g:List ak}
theorem qp7 (rb:Nat):Qa prog 217 #[Qb rb] [] fun e gs=>∃ tb,e=WM (Qb tb)/\gs=[Xy tb rb X6]:=by
 refine GO fun w HT=>?_
 go_enter func217,ntmps217
 go_wp2
 go_ret
 exact ⟨_,⟨_,rfl,rfl⟩,HT.alloc rfl _ _⟩
theorem qvb (hg:X2 rb r g) (hr:zx r) (ht:uA t):Qa prog 218 #[Qb tb] [Xy tb rb t,g] fun e gs =>
 e=WM (WK WL (stepT r t).2.status)/\∃ g',X2 rb (stepT r t).1 g'/\gs=[Xy tb rb (stepT r t).2,g']:=by
 refine GO fun w HT=>?_
 have HL:=Vh (qva (tb:=tb) (t:=t) hg);have HWE:=Vh (qqk (tb:=tb) (t:=t) hg hr ht);have dZ:=Vh (qvc (tb:=tb) (t:=t) hg ht);have HG:=Vh hg;have hst:t.status=0\/t.status≠0:=by omega
 have hnx:=ht.nx;have HW0:=Vh (show t.status≠0->stepT r t=(r,t) from fun h=>if_pos h);have HW1:=Vh (show t.status=0->t.next=0->stepT r t=(r,rG r t) from fun h h1=>(if_neg (by omega)).trans (if_pos h1));have HW2:=Vh (show t.status=0->t.next=1->stepT r t=(r,qE r t) from fun h h1=>(if_neg (by omega)).trans ((if_neg (by omega)).trans (if_pos h1)));have HW3:=Vh (show t.status=0->t.next=2->stepT r t=oU r t from fun h h1=>(if_neg (by omega)).trans ((if_neg (by omega)).trans (if_neg (by omega))));obtain ⟨t2,t3⟩:=HT.c2 0 0 2 3;simp only [kr,aC] at t2 t3;have lt:=HT.l 0 0;simp only [] at lt;clear hg hr ht;rcases hst with hst | hst
 ·rcases hnx with hnx | hnx | hnx
  ·have HS:=Vh (HW1.out hst hnx)
   rw [hst] at t3;rw [hnx] at t2;clear hst hnx;go_enter func218,ntmps218
   go_wp2_with fail
   refine Qa.run HL (HT.put rfl _) [0,1] ?_
   rintro e w1 gs ⟨rfl,g',hg',rfl⟩ HT;simp only [PU] at HT;have t3:=HT.c 0 0 3;simp only [kr,aC] at t3;go_wp2
   go_ret
   exact ⟨_,⟨by rw [HS.out];rfl,g',by rw [HS.out];exact hg',rfl⟩,(HT.p [0,1]).eq (by rw [HS.out];rfl)⟩
  ·have HS:=Vh (HW2.out hst hnx)
   rw [hst] at t3;rw [hnx] at t2;clear hst hnx;go_enter func218,ntmps218
   go_wp2_with fail
   refine Qa.run HWE (HT.put rfl _) [0,1] ?_
   rintro e w1 gs ⟨rfl,g',hg',rfl⟩ HT;simp only [PU] at HT;have t3:=HT.c 0 0 3;simp only [kr,aC] at t3;go_wp2
   go_ret
   exact ⟨_,⟨by rw [HS.out];rfl,g',by rw [HS.out];exact hg',rfl⟩,(HT.p [0,1]).eq (by rw [HS.out];rfl)⟩
  ·have HS:=Vh (HW3.out hst hnx)
   rw [hst] at t3;rw [hnx] at t2;clear hst hnx;go_enter func218,ntmps218
   go_wp2_with fail
   refine Qa.run dZ (HT.put rfl _) [0,1] ?_
   rintro e w1 gs ⟨rfl,g',hg',rfl⟩ HT;simp only [PU] at HT;have t3:=HT.c 0 0 3;simp only [kr,aC] at t3;go_wp2
   go_ret
   exact ⟨_,⟨by rw [HS.out];rfl,g',by rw [HS.out];exact hg',rfl⟩,(HT.p [0,1]).eq (by rw [HS.out];rfl)⟩
 ·have HS:=Vh (HW0.out hst)
  have hb:(t.status == 0)=false:=beq_eq_false_iff_ne.2 hst;clear hst hnx;go_enter func218,ntmps218
  go_wp2
  go_ret
  exact ⟨_,⟨by rw [HS.out];rfl,g,by rw [HS.out];exact HG,rfl⟩,((HT.put rfl _).p [0,1]).eq (by rw [HS.out];rfl)⟩
theorem Ux (b o:Nat) (T:TypeId) (C:Array Value) (y x:Int) (hc:cellAt C o (WK WL y)) :
 Qa prog 149 #[.pointer (some ⟨b,o,none⟩),WK WL x] [[cl b T C]] fun e gs=>e=WM (WO #[])/\gs=[[cl b T (C.setIfInBounds o (WK WL x))]]:=Uy b o T C _ x hc.1
theorem Yw.fill {l:List lZ} {D:Array Value} {k:Nat} {s:lZ} (h:Yw l D) (hk:l[k]?=some s) (v:Qn) (n:Int):Yw (l.set k ⟨n,v⟩) ((qi D (k*9+4) v).setIfInBounds (k*9) (WK WL n)):=by
 have h1:=h.K4 hk v;have hk1:(l.set k { s with v:=v })[k]?=some { s with v:=v }:=by rw [WS,if_pos rfl,if_pos (WQ.1 hk).1]
 obtain ⟨⟨a0,l0,t0,u0,a1,a2,a3⟩,b⟩:=h1.at_ k _ hk1;refine ⟨?_,fun i s' hs=>?_⟩
 ·rw [Array.size_setIfInBounds,h1.size];simp
 ·rw [WS] at hs
  by_cases e:k=i
  ·subst e
   rw [if_pos rfl,if_pos (WQ.1 hk).1] at hs;cases hs
   obtain ⟨b0,b1,b2,b3,b4⟩:=b;exact ⟨⟨Xa a0,l0,t0,u0,(Qc (by omega)).trans a1,(Qc (by omega)).trans a2,(Qc (by omega)).trans a3⟩,(Qc (by omega)).trans b0,(Qc (by omega)).trans b1,(Qc (by omega)).trans b2,(Qc (by omega)).trans b3,(Qc (by omega)).trans b4⟩
  ·rw [if_neg e] at hs
   have hs1:(l.set k { s with v:=v })[i]?=some s':=by rw [WS,if_neg e];exact hs
   obtain ⟨⟨a0,l0,t0,u0,a1,a2,a3⟩,b0,b1,b2,b3,b4⟩:=h1.at_ i s' hs1;exact ⟨⟨(Qc (by omega)).trans a0,l0,t0,u0,(Qc (by omega)).trans a1,(Qc (by omega)).trans a2,(Qc (by omega)).trans a3⟩,(Qc (by omega)).trans b0,(Qc (by omega)).trans b1,(Qc (by omega)).trans b2,(Qc (by omega)).trans b3,(Qc (by omega)).trans b4⟩
theorem qoa (v:Qn) (hg:X2 rb r g) (hr:zx r) (ht:uA t) (hh:t.status=2/\t.filled=false):Qa prog 256 #[Qb tb,.agg v.cells] [Xy tb rb t,g] fun e gs =>
 e=WM (WK WL 0)/\∃ g',X2 rb { r with slots:=r.slots.set (r.at t.pos) ⟨2*t.pos+1,v⟩ } g'/\gs=[Xy tb rb { t with filled:=true },g']:=by
 obtain ⟨sb,C,D,rfl,hC,hD⟩:=hg.open;obtain ⟨ha,hal,pP⟩:=EI hr.n0 t.pos;refine GO fun w HT=>?_
 have HC:=Vh hC;have HD:=Vh hD;have HA:=Vh (Hd (rb:=rb) hC hr t.pos ht.p0 ht.p1);simp only [Xy] at HT |-;have HT:=Vh (HT.out.eq (H':=[[cl tb 343 (kr rb t)],[cl rb 249 C],[cl sb 251 D]]) rfl);have HV:=Vh (hD.fill ha v (2*t.pos+1));have FD:=Vh (hC.kY (l:=r.slots.set (r.at t.pos) ⟨2*t.pos+1,v⟩) (WW ..));have hcell:=(hD.at_ _ _ ha).1;generalize r.slot t.pos=s at *;generalize r.at t.pos=k at *;have p0:=ht.p0;have p1:=ht.p1;obtain ⟨e0,e1,e2,e3,e4⟩:=(hD.at_ _ _ ha).2;obtain ⟨pos,nx,st,fi⟩:=t;simp only at HA HV FD p0 p1 hh;obtain ⟨rfl,rfl⟩:=hh
 have HP:=Vh (show cellAt (qi D (k*9+4) v) (k*9) (WK WL s.seq) from by
  obtain ⟨a0,l0,t0,u0,a1,a2,a3⟩:=hcell
  exact ⟨(Q8 (by omega)).trans a0,l0,t0,u0,(Q8 (by omega)).trans a1,(Q8 (by omega)).trans a2,(Q8 (by omega)).trans a3⟩)
 have HE:=Vh (WV e0 (WV e1 (WV e2 (WV e3 e4))));have lt:=HT.l 0 0;simp only [] at lt;obtain ⟨t0,t1,t3,t4⟩:=HT.c4 0 0 0 1 3 4;have f4:=HT.f 0 0 4;simp only [kr,aC] at t0 t1 t3 t4;clear hC hD hg ha pP ht hr hal e0 e1 e2 e3 e4 hcell;simp only [Qn.cells];go_enter func256,ntmps256
 go_wp2
 have HT:=Vh ((HT.set 0 0 rfl 4 (.bool true)).alloc (k:=w.heap.size) (by simp) 40 #[WK WN v.id,WK WL v.slot,WK WN v.gen,WK WN v.dl,WK WN v.per]);clear t0 t1 t3 t4 f4 lt;generalize WY _ _=w1 at HT |-;simp only [List.set_cons_zero,List.cons_append,List.nil_append] at HT;obtain ⟨t0,t1⟩:=HT.c2 0 0 0 1;obtain ⟨b0,b1,b2,b3,b4⟩:=HT.c5 3 0 0 1 2 3 4;simp only [kr,aC] at t0 t1 b0 b1 b2 b3 b4;have d0:=(HT.cell 2 0 rfl (k*9+4)).trans HE.1;have d1:=(HT.cell 2 0 rfl (k*9+4+1)).trans HE.2.1;have d2:=(HT.cell 2 0 rfl (k*9+4+2)).trans HE.2.2.1;have d3:=(HT.cell 2 0 rfl (k*9+4+3)).trans HE.2.2.2.1;have d4:=(HT.cell 2 0 rfl (k*9+4+4)).trans HE.2.2.2.2;have g0:=HT.free 2 0 rfl (k*9+4);have g1:=HT.free 2 0 rfl (k*9+4+1);have g2:=HT.free 2 0 rfl (k*9+4+2);have g3:=HT.free 2 0 rfl (k*9+4+3);have g4:=HT.free 2 0 rfl (k*9+4+4);have n1:=HT.ne 0 0 2 0 (by decide) rfl rfl;simp only [] at n1;go_quiet ((first | (go_at_call 148;with_reducible exact Qe.quiet (HA.out) HT.out _ [1] rfl rfl)))
 have HT:=Vh (HT.out.drewN nq);go_wp2
 have HT:=Vh ((((((HT.set 2 0 rfl (k*9+4) (WK WN v.id)).set 2 0 rfl (k*9+4+1) (WK WL v.slot)).set 2 0 rfl (k*9+4+2) (WK WN v.gen)).set 2 0 rfl (k*9+4+3) (WK WN v.dl)).set 2 0 rfl (k*9+4+4) (WK WN v.per)).eq (H':=[[cl tb 343 (kr rb ⟨pos,nx,2,true⟩)],[cl rb 249 C],[cl sb 251 (qi D (k*9+4) v)],[cl w.heap.size 40 #[WK WN v.id,WK WL v.slot,WK WN v.gen,WK WN v.dl,WK WN v.per]]]) rfl);clear t0 t1 b0 b1 b2 b3 b4 d0 d1 d2 d3 d4 g0 g1 g2 g3 g4 n1;generalize World.setCell _ _ _=w2 at HT |-;have t1:=HT.c 0 0 1;simp only [kr,aC] at t1;refine Mx 9 ?_
 simp only [dx]
 repeat (go_big_quiet_step ((fail)))
 refine WR (QT HT fun nq HT=>?_)
 go_wp2_with fail
 refine Qa.run (Ux _ _ _ _ _ _ HP) (HT) [2] ?_
 rintro e w1 gs ⟨rfl,rfl⟩ HT;simp only [PU] at HT;go_wp2_with fail
 refine ⟨rfl,?_⟩
 go_wp2
 go_ret
 exact ⟨_,⟨rfl,_,X2.mk' FD HV,rfl⟩,(HT.p [0,1,2]).eq rfl⟩
theorem qqj (v:Qn) (hh:¬ (t.status=2/\t.filled=false)):Qa prog 256 #[Qb tb,.agg v.cells] [Xy tb rb t] fun e gs=>e=WM (WK WL 7)/\gs=[Xy tb rb t]:=by
 refine GO fun w HT=>?_
 have lt:=HT.l 0 0;simp only [] at lt;obtain ⟨t3,t4⟩:=HT.c2 0 0 3 4;simp only [kr,aC] at t3 t4;simp only [Qn.cells];by_cases h:t.status=2
 ·have hf:t.filled=true:=by
   cases hf:t.filled
   ·exact absurd ⟨h,hf⟩ hh
   ·rfl
  rw [h] at t3;rw [hf] at t4;clear h hf hh;go_enter func256,ntmps256
  go_wp2
  go_ret
  exact ⟨_,⟨rfl,rfl⟩,HT.aN _⟩
 ·have hb:(t.status != 2)=true:=bne_iff_ne.2 h
  have hb':(t.status == 2)=false:=beq_eq_false_iff_ne.2 h;clear h hh;go_enter func256,ntmps256
  go_wp2
  go_ret
  exact ⟨_,⟨rfl,rfl⟩,HT.aN _⟩
theorem qu9 (v:Qn) (hg:X2 rb r g) (hr:zx r) (ht:uA t):Qa prog 256 #[Qb tb,.agg v.cells] [Xy tb rb t,g] fun e gs =>
 e=WM (WK WL (Zn r t v).2.2)/\∃ g',X2 rb (Zn r t v).1 g'/\gs=[Xy tb rb (Zn r t v).2.1,g']:=by
 by_cases hh:t.status=2/\t.filled=false
 ·have e:Zn r t v=({ r with slots:=r.slots.set (r.at t.pos) ⟨2*t.pos+1,v⟩ },{ t with filled:=true },0):=if_pos hh
  rw [e];exact qoa v hg hr ht hh
 ·have e:Zn r t v=(r,t,7):=if_neg hh
  rw [e];intro w hw;refine (Qa.use (qqj v hh) (TG.refl hw) [0] rfl rfl).mono ?_
  rintro e w' ⟨gs,⟨he,rfl⟩,T⟩;exact ⟨_,⟨he,g,hg,rfl⟩,T⟩
end
section
variable {rb sb:Nat} {r:Qx} {C D:Array Value} {g:List ak}
theorem Rj (hg:X2 rb r g) (hr:zx r):Qa prog 147 #[Qb rb] [g] fun e gs=>e=WM (.bool r.ready)/\∃ g',X2 rb r g'/\gs=[g']:=by
 obtain ⟨sb,C,D,rfl,hC,hD⟩:=hg.open;obtain ⟨ha,hal,pP⟩:=EI hr.n0 r.head;refine GO fun w HT=>?_
 have HT:=Vh (HT.out.eq (H':=[[cl rb 249 C],[cl sb 251 D]]) rfl);have HA:=Vh (show ∀ C',lJ sb r C'->_ from fun C' hC'=>(Hd (rb:=rb) hC' hr r.head hr.h0 hr.h1).does);have HS:=Vh (show ∀ D',Yw r.slots D'->cellAt D' (r.at r.head*9) (WK WL (r.slot r.head).seq) from fun D' h=>(h.at_ _ _ ha).1);have HK:=Vh ha;have h0:=hr.h0;have h1:=hr.h1;have HR:=Vh (show r.ready=((r.slot r.head).seq == 2*r.head+1) from rfl);have HC:=Vh hC;have HD:=Vh hD;clear hg hr hC hD ha hal pP;go_enter func147,ntmps147
 go_wp2_with fail
 obtain ⟨ι,W,hW0,hend,hin⟩:∃ (ι:Type) (W:ι->World),(∃ i,XA _=W i)/\(∀ i,∃ Cx Dx,(lJ sb r Cx/\Yw r.slots Dx)/\TG [[cl rb 249 C,cl sb 251 D]] w [[cl rb 249 Cx],[cl sb 251 Dx]] (W i))/\(∀ w',(∃ Cx Dx,(lJ sb r Cx/\Yw r.slots Dx)/\TG [[cl rb 249 C,cl sb 251 D]] w [[cl rb 249 Cx],[cl sb 251 Dx]] w')->∃ i,w'=W i):=⟨{w' // ∃ Cx Dx,(lJ sb r Cx/\Yw r.slots Dx)/\TG [[cl rb 249 C,cl sb 251 D]] w [[cl rb 249 Cx],[cl sb 251 Dx]] w'},WZ,⟨⟨_,C,D,⟨HC,HD⟩,HT.drew⟩,rfl⟩,fun i=>i.2,fun w' h=>⟨⟨w',h⟩,rfl⟩⟩;have hne:Nonempty ι:=hW0.elim fun i _=>⟨i⟩
 have q5:∀ i,(W i).cell? ⟨rb,5,none⟩=some (WK WL r.head):=fun i=>by obtain ⟨_,_,h,T⟩:=hend i;exact (T.c 0 0 5).trans h.1.head
 have m1:∀ i,Calls prog 148 #[Qb rb,WK WL r.head] (W i) fun e w2=>e=WM (.pointer (some ⟨sb,r.at r.head*9,none⟩))/\∃ j,w2=W j:=fun i=>by
  obtain ⟨Cx,Dx,h,T⟩:=hend i;refine (Qa.use (HA _ h.1) T [0] rfl rfl).mono ?_
  rintro e w2 ⟨gs,⟨rfl,rfl⟩,T2⟩;exact ⟨rfl,hin _ ⟨Cx,Dx,h,T2⟩⟩
 have m2:∀ i,Calls prog 88 #[.pointer (some ⟨sb,r.at r.head*9,none⟩)] (W i) fun e w2=>e=WM (WK WL (r.slot r.head).seq)/\∃ j,w2=W j:=fun i=>by
  obtain ⟨Cx,Dx,h,T⟩:=hend i;refine (Qa.use (oM (X9 sb (r.at r.head*9) _ Dx _ (HS _ h.2))) T [1] rfl rfl).mono ?_
  rintro e w2 ⟨gs,⟨rfl,D1,hr1,rfl⟩,T2⟩;exact ⟨rfl,hin _ ⟨Cx,D1,⟨h.1,h.2.same HK hr1⟩,T2⟩⟩
 refine Jw W (by kernel_rfl) (by kernel_rfl) hW0 ?_
 repeat (go_big_quiet_step ((first | (go_at_call 148;with_reducible exact m1 _) | (go_at_call 88;with_reducible exact m2 _))))
 refine WR ?_
 intro _ hw;obtain ⟨iq,hw2⟩:=hw;subst hw2;obtain ⟨Cx,Dx,h,T⟩:=hend iq;have HT:=Vh T;generalize W iq=w1 at HT |-;clear T hend hin hW0 hne;have HH:=Vh h;clear h;go_wp2
 go_ret
 exact ⟨_,⟨by rw [HR.out];rfl,_,X2.mk' HH.1 HH.2,rfl⟩,HT.eq rfl⟩
theorem qys (hg:X2 rb r g) (hr:zx r):Qa prog 96 #[Qb rb] [g] fun e gs=>e=WM (WK WL (r.tail - r.head))/\∃ g',X2 rb r g'/\gs=[g']:=by
 obtain ⟨sb,C,D,rfl,hC,hD⟩:=hg.open;refine GO fun w HT=>?_
 have HT:=Vh (HT.out.eq (H':=[[cl rb 249 C],[cl sb 251 D]]) rfl);have h0:=hr.h0;have h1:=hr.h1;have h2:=hr.t0;have h3:=hr.t1;have HC:=Vh hC;have HD:=Vh hD;clear hg hr hC hD;go_enter func96,ntmps96
 go_wp2_with fail
 obtain ⟨ι,W,hW0,hend,hin⟩:∃ (ι:Type) (W:ι->World),(∃ i,XA _=W i)/\(∀ i,∃ Cx,(lJ sb r Cx)/\TG [[cl rb 249 C,cl sb 251 D]] w [[cl rb 249 Cx],[cl sb 251 D]] (W i))/\(∀ w',(∃ Cx,(lJ sb r Cx)/\TG [[cl rb 249 C,cl sb 251 D]] w [[cl rb 249 Cx],[cl sb 251 D]] w')->∃ i,w'=W i):=⟨{w' // ∃ Cx,(lJ sb r Cx)/\TG [[cl rb 249 C,cl sb 251 D]] w [[cl rb 249 Cx],[cl sb 251 D]] w'},WZ,⟨⟨_,C,HC,HT.drew⟩,rfl⟩,fun i=>i.2,fun w' h=>⟨⟨w',h⟩,rfl⟩⟩;have hne:Nonempty ι:=hW0.elim fun i _=>⟨i⟩
 have q5:∀ i,(W i).cell? ⟨rb,5,none⟩=some (WK WL r.head):=fun i=>by obtain ⟨_,h,T⟩:=hend i;exact (T.c 0 0 5).trans h.head
 have m2:∀ i,Calls prog 88 #[.pointer (some ⟨rb,1,none⟩)] (W i) fun e w2=>e=WM (WK WL r.tail)/\∃ j,w2=W j:=fun i=>by
  obtain ⟨Cx,h,T⟩:=hend i;refine (Qa.use (oM (X9 rb 1 _ Cx _ h.tail)) T [0] rfl rfl).mono ?_
  rintro e w2 ⟨gs,⟨rfl,C1,hr1,rfl⟩,T2⟩;exact ⟨rfl,hin _ ⟨C1,h.p8 hr1,T2⟩⟩
 refine Jw W (by kernel_rfl) (by kernel_rfl) hW0 ?_
 repeat (go_big_quiet_step ((first | (go_at_call 88;with_reducible exact m2 _))))
 refine WR ?_
 intro _ hw;obtain ⟨iq,hw2⟩:=hw;subst hw2;obtain ⟨Cx,h,T⟩:=hend iq;have HT:=Vh T;generalize W iq=w1 at HT |-;clear T hend hin hW0 hne;have HH:=Vh h;clear h;go_wp2
 go_ret
 exact ⟨_,⟨by rfl,_,X2.mk' HH HD,rfl⟩,HT.eq rfl⟩
theorem qyu (hg:X2 rb r g) (hr:zx r):Qa prog 87 #[Qb rb] [g] fun e gs=>e=WM (WO #[.agg (J4 r).2.1.cells,WK WL (J4 r).2.2])/\∃ g',X2 rb (J4 r).1 g'/\gs=[g']:=by
 have hrd:=Rj hg hr;cases hb:r.ready with
 | false =>
   have HE:=Vh (show J4 r=(r,Qn.zero,6) from if_neg (by rw [hb];decide));rw [hb] at hrd;refine GO fun w HT=>?_
   have HR:=Vh hrd;clear hg hr hrd hb;go_enter func87,ntmps87
   go_wp2_with fail
   have HT:=Vh ((HT.a 40 Qn.zero.cells).alloc (k:=w.heap.size+1) (by simp) 40 Qn.zero.cells);go_wp2_with fail
   refine Qa.run HR HT [0] ?_
   rintro e w1 gs ⟨rfl,g1,hg1,rfl⟩ HT;simp only [PU] at HT;have HG:=Vh hg1;clear hg1;obtain ⟨a0,a1,a2,a3,a4⟩:=HT.c5 1 0 0 1 2 3 4;obtain ⟨fa0,fa1,fa2,fa3,fa4⟩:=HT.f5 1 0 0 1 2 3 4;simp only [Qn.cells,Qn.zero,aC] at a0 a1 a2 a3 a4;obtain ⟨b0,b1,b2,b3,b4⟩:=HT.c5 2 0 0 1 2 3 4;obtain ⟨fb0,fb1,fb2,fb3,fb4⟩:=HT.f5 2 0 0 1 2 3 4;simp only [Qn.cells,Qn.zero,aC] at b0 b1 b2 b3 b4;go_wp2
   exact WX (v:=WO #[.agg Qn.zero.cells,WK WL 6]) (by simp [results,results87,go_sem,a0,a1,a2,a3,a4,Qn.cells,Qn.zero]) rfl ⟨_,⟨by rw [HE.out],g1,by rw [HE.out];exact HG,rfl⟩,((((((HT.set 1 0 rfl 0 _).set 1 0 rfl 1 _).set 1 0 rfl 2 _).set 1 0 rfl 3 _).set 1 0 rfl 4 _).p [0])⟩
 | true =>
   have HE:=Vh (show J4 r=({ r with slots:=r.slots.set (r.at r.head) ⟨2*(r.head+r.slots.length),Qn.zero⟩,head:=r.head+1 },(r.slot r.head).v,0) from if_pos hb);rw [hb] at hrd;refine GO fun w HT=>?_
   have HR:=Vh hrd;have A7:=Vh hr;clear hg hr hrd hb;go_enter func87,ntmps87
   go_wp2_with fail
   have HT:=Vh ((HT.a 40 Qn.zero.cells).alloc (k:=w.heap.size+1) (by simp) 40 Qn.zero.cells);go_wp2_with fail
   refine Qa.run HR HT [0] ?_
   rintro e w1 gs ⟨rfl,g1,hg1,rfl⟩ HT;simp only [PU] at HT;obtain ⟨sb,C,D,rfl,hC,hD⟩:=hg1.open;have HT:=Vh (HT.out.m [[cl rb 249 C],[cl sb 251 D],[cl w.heap.size 40 Qn.zero.cells],[cl (w.heap.size+1) 40 Qn.zero.cells]]);obtain ⟨ha,hal,pP⟩:=EI A7.n0 r.head;have h0:=A7.h0;have h1:=A7.h1;have hn0:=A7.n0;have hn1:=A7.n1;have HC:=Vh hC;have HD:=Vh hD;have HA:=Vh (Hd (rb:=rb) hC A7 r.head h0 h1);have HV:=Vh (hD.fill ha Qn.zero (2*(r.head+r.slots.length)));have FD:=Vh ((hC.kY (l:=r.slots.set (r.at r.head) ⟨2*(r.head+r.slots.length),Qn.zero⟩) (WW ..)).Dt (r.head+1));have hcell:=(hD.at_ _ _ ha).1;obtain ⟨e0,e1,e2,e3,e4⟩:=(hD.at_ _ _ ha).2;generalize r.slot r.head=s at *;generalize r.at r.head=k at *
   have HP:=Vh (show cellAt (qi D (k*9+4) Qn.zero) (k*9) (WK WL s.seq) from by
    obtain ⟨a0,l0,t0,u0,a1,a2,a3⟩:=hcell
    exact ⟨(Q8 (by omega)).trans a0,l0,t0,u0,(Q8 (by omega)).trans a1,(Q8 (by omega)).trans a2,(Q8 (by omega)).trans a3⟩)
   have su:=Vh (WV e0 (WV e1 (WV e2 (WV e3 e4))));have c5:=(HT.c 0 0 5).trans hC.head;clear hg1 hC hD ha hal pP e0 e1 e2 e3 e4 hcell;go_wp2_with fail
   refine Qe.run HA HT [0] ?_
   rintro e wq rfl HT;clear c5;obtain ⟨z0,z1,z2,z3,z4⟩:=HT.c5 3 0 0 1 2 3 4;simp only [Qn.cells,Qn.zero,aC] at z0 z1 z2 z3 z4;have d0:=(HT.cell 1 0 rfl (k*9+4)).trans su.1;have d1:=(HT.cell 1 0 rfl (k*9+4+1)).trans su.2.1;have d2:=(HT.cell 1 0 rfl (k*9+4+2)).trans su.2.2.1;have d3:=(HT.cell 1 0 rfl (k*9+4+3)).trans su.2.2.2.1;have d4:=(HT.cell 1 0 rfl (k*9+4+4)).trans su.2.2.2.2;have g0:=HT.free 1 0 rfl (k*9+4);have g1:=HT.free 1 0 rfl (k*9+4+1);have g2:=HT.free 1 0 rfl (k*9+4+2);have g3:=HT.free 1 0 rfl (k*9+4+3);have g4:=HT.free 1 0 rfl (k*9+4+4);have nU:=HT.l 1 0;have Pf:=HT.l 3 0;simp only [] at nU Pf;go_wp2
   have HT:=Vh (((((((HT.set 1 0 rfl (k*9+4) (WK WN 0)).set 1 0 rfl (k*9+4+1) (WK WL 0)).set 1 0 rfl (k*9+4+2) (WK WN 0)).set 1 0 rfl (k*9+4+3) (WK WN 0)).set 1 0 rfl (k*9+4+4) (WK WN 0)).alloc (k:=wq.heap.size) (by simp) 40 s.v.cells).eq (H':=[[cl rb 249 C],[cl sb 251 (qi D (k*9+4) Qn.zero)],[cl w.heap.size 40 Qn.zero.cells],[cl (w.heap.size+1) 40 Qn.zero.cells],[cl wq.heap.size 40 s.v.cells]]) rfl);simp only [Qn.cells] at HT;clear z0 z1 z2 z3 z4 d0 d1 d2 d3 d4 g0 g1 g2 g3 g4 nU Pf;generalize WY _ _=w2 at HT |-;have c5:=(HT.c 0 0 5).trans HC.head;have c0:=(HT.c 0 0 0).trans HC.sl;refine Mx 14 ?_
   simp only [dx]
   repeat (go_big_quiet_step ((fail)))
   refine WR (QT HT fun nq HT=>?_)
   go_wp2_with fail
   refine Qa.run (Ux _ _ _ _ _ _ HP) (HT) [1] ?_
   rintro e w1 gs ⟨rfl,rfl⟩ HT;simp only [PU] at HT;go_wp2_with fail
   refine ⟨rfl,?_⟩
   have HT:=Vh (HT.out.eq (H':=[[cl rb 249 C],[cl sb 251 ((qi D (k*9+4) Qn.zero).setIfInBounds (k*9) (WK WL (2*(r.head+r.slots.length))))],[cl w.heap.size 40 Qn.zero.cells],[cl (w.heap.size+1) 40 Qn.zero.cells],[cl wq.heap.size 40 s.v.cells]]) rfl);clear c5 c0;have c5:=(HT.c 0 0 5).trans HC.head;have f5:=HT.f 0 0 5;obtain ⟨a0,a1,a2,a3,a4⟩:=HT.c5 2 0 0 1 2 3 4;obtain ⟨fa0,fa1,fa2,fa3,fa4⟩:=HT.f5 2 0 0 1 2 3 4;simp only [Qn.cells,Qn.zero,aC] at a0 a1 a2 a3 a4;obtain ⟨b0,b1,b2,b3,b4⟩:=HT.c5 4 0 0 1 2 3 4;simp only [Qn.cells,aC] at b0 b1 b2 b3 b4;have n1:=HT.ne 0 0 2 0 (by decide) rfl rfl;have n2:=HT.ne 0 0 4 0 (by decide) rfl rfl;have n3:=HT.ne 2 0 4 0 (by decide) rfl rfl;simp only [] at n1 n2 n3;go_wp2
   exact WX (v:=WO #[.agg s.v.cells,WK WL 0]) (by simp [results,results87,go_sem,a0,a1,a2,a3,a4,Qn.cells,n1]) rfl ⟨_,⟨by rw [HE.out],_,by rw [HE.out];exact X2.mk' FD HV,rfl⟩,(((((((HT.set 0 0 rfl 5 _).set 2 0 rfl 0 _).set 2 0 rfl 1 _).set 2 0 rfl 2 _).set 2 0 rfl 3 _).set 2 0 rfl 4 _).p [0,1]).eq rfl⟩
end
end
end Go.Proofs.YtcneeepdclgdcaaGreat
