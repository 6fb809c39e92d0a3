import Derived.Test.YtcneeepdclgdcaaGreatSE17
import Derived.Test.YtcneeepdclgdcaaGreatSE4
import Derived.Test.YtcneeepdclgdcaaGreatSE5
import Derived.Test.YtcneeepdclgdcaaGreatSE14
set_option maxRecDepth 100000
set_option maxHeartbeats 4000000
namespace Go.Proofs.YtcneeepdclgdcaaGreat
open Go.Value renaming int->U1,tuple->U5
open Go.IntKind renaming i64->U2,u64->U4
open Go.Ending renaming returned->U3
open _root_.List renaming getElem?_eq_some_iff->U6,getElem?_set->U8,length_set->UC
open Go renaming wpQuiet_nil->U7,bodyPost_end->U9,results_none->UA,bodyPost_ret->UD
open _root_.And renaming intro->UB
open Go.World renaming alloc->UE,drew->UG
open _root_.Subtype renaming val->UF
set_option linter.all false
open Go.Proofs.Tryz
section
open Go.RowKit Go.Shelf
structure Xz where
 pos:Int
 next:Int
 status:Int
 filled:Bool
def Xp:Xz:=⟨0,0,0,false⟩
def lW.zero:lW:=⟨0,Qp.zero⟩
def Qz.at (r:Qz) (pos:Int):Nat:=(pos % (r.slots.length:Int)).toNat
def Qz.slot (r:Qz) (pos:Int):lW:=r.slots.getD (r.at pos) lW.zero
def qP (r:Qz) (t:Xz):Xz:={ t with pos:=r.tail,next:=1 }
def pV (r:Qz) (t:Xz):Xz :=
 if 2*t.pos<(r.slot t.pos).seq then { t with next:=0 } else if (r.slot t.pos).seq<2*t.pos then { t with status:=1 } else { t with next:=2 }
def o9 (r:Qz) (t:Xz):Qz × Xz :=
 if r.tail=t.pos then ({ r with tail:=t.pos+1 },{ t with next:=0,status:=2 }) else (r,{ t with next:=0 })
def stepT (r:Qz) (t:Xz):Qz × Xz :=
 if t.status≠0 then (r,t) else if t.next=0 then (r,qP r t) else if t.next=1 then (r,pV r t) else o9 r t
def Zp (r:Qz) (t:Xz) (v:Qp):Qz × Xz × Int :=
 if t.status=2/\t.filled=false then ({ r with slots:=r.slots.set (r.at t.pos) ⟨2*t.pos+1,v⟩ },{ t with filled:=true },0) else (r,t,7)
def Qz.ready (r:Qz):Bool:=(r.slot r.head).seq == 2*r.head+1
def J3 (r:Qz):Qz × Qp × Int :=
 if r.ready=true then ({ r with slots:=r.slots.set (r.at r.head) ⟨2*(r.head+r.slots.length),Qp.zero⟩,head:=r.head+1 },(r.slot r.head).v,0) else (r,Qp.zero,6)
structure zu (r:Qz):Prop where
 n0:1<=r.slots.length
 n1:r.slots.length<=64
 t0:0<=r.tail
 t1:r.tail<=1099511627776
 h0:0<=r.head
 h1:r.head<=1099511627776
structure sW (t:Xz):Prop where
 p0:0<=t.pos
 p1:t.pos<=1099511627776
 nx:t.next=0\/t.next=1\/t.next=2
 st:t.status=0\/t.status=1\/t.status=2
theorem q46 {r:Qz} {t:Xz} (hr:zu r) (ht:sW t):sW (stepT r t).2:=by
 unfold stepT qP pV o9;have h1:=hr.t0;have h2:=hr.t1;split
 ·exact ht
 ·split
  ·exact ⟨h1,h2,.inr (.inl rfl),ht.st⟩
  ·split
   ·split
    ·exact ⟨ht.p0,ht.p1,.inl rfl,ht.st⟩
    ·split
     ·exact ⟨ht.p0,ht.p1,ht.nx,.inr (.inl rfl)⟩
     ·exact ⟨ht.p0,ht.p1,.inr (.inr rfl),ht.st⟩
   ·split
    ·exact ⟨ht.p0,ht.p1,.inl rfl,.inr (.inr rfl)⟩
    ·exact ⟨ht.p0,ht.p1,.inl rfl,ht.st⟩
def Qp.cells (t:Qp):Array Value:=#[U1 U4 t.id,U1 U2 t.slot,U1 U4 t.gen,U1 U4 t.dl,U1 U4 t.per]
def z9 (rb:Nat) (t:Xz):Array Value:=#[Qb rb,U1 U2 t.pos,U1 U2 t.next,U1 U2 t.status,.bool t.filled]
def Xo (tb rb:Nat) (t:Xz):List ak:=[cl tb 343 (z9 rb t)]
structure lJ (sb:Nat) (r:Qz) (C:Array Value):Prop where
 size:C.size=6
 sl:C[0]?=some (.slice (some ⟨sb,0,none⟩) r.slots.length r.slots.length)
 tail:cellAt C 1 (U1 U2 r.tail)
 head:C[5]?=some (U1 U2 r.head)
structure Yx (l:List lW) (D:Array Value):Prop where
 size:D.size=l.length*9
 at_:∀ i s,l[i]?=some s->DR D i s
theorem X4.open {rb:Nat} {r:Qz} {g:List ak} (h:X4 rb r g):∃ sb C D,g=[cl rb 249 C,cl sb 251 D]/\lJ sb r C/\Yx r.slots D:=by
 obtain ⟨sb,C,D,rfl,h0,h1,h2,h3,h4,h5⟩:=h;exact ⟨sb,C,D,rfl,⟨h0,h1,h2,h3⟩,⟨h4,h5⟩⟩
theorem X4.mk' {rb sb:Nat} {r:Qz} {C D:Array Value} (h:lJ sb r C) (hd:Yx r.slots D):X4 rb r [cl rb 249 C,cl sb 251 D] :=
 ⟨sb,C,D,rfl,h.size,h.sl,h.tail,h.head,hd.size,hd.at_⟩
theorem lJ.oP {sb:Nat} {r:Qz} {C C':Array Value} (h:lJ sb r C) {x:Int} (rc:Xn C 1 (U1 U2 x) C'):lJ sb { r with tail:=x } C' :=
 ⟨rc.size.trans h.size,(rc.other 0 (by omega)).trans h.sl,rc.cell,(rc.other 5 (by omega)).trans h.head⟩
theorem lJ.Ct {sb:Nat} {r:Qz} {C:Array Value} (h:lJ sb r C) (x:Int):lJ sb { r with head:=x } (C.setIfInBounds 5 (U1 U2 x)):=by
 obtain ⟨hs,hsl,⟨h0,l,t,u,h1,h2,h3⟩,hh⟩:=h;exact ⟨by simpa using hs,(Qc (by omega)).trans hsl,⟨(Qc (by omega)).trans h0,l,t,u,(Qc (by omega)).trans h1,(Qc (by omega)).trans h2,(Qc (by omega)).trans h3⟩,Xe hh⟩
theorem lJ.kY {sb:Nat} {r:Qz} {C:Array Value} (h:lJ sb r C) {l:List lW} (hl:l.length=r.slots.length):lJ sb { r with slots:=l } C :=
 ⟨h.size,by have:=h.sl;simpa [hl] using this,h.tail,h.head⟩
theorem Yx.re {l:List lW} {D D':Array Value} {k:Nat} {x:Int} {s:lW} (h:Yx l D) (hk:l[k]?=some s) (rc:Xn D (k*9) (U1 U2 x) D'):Yx (l.set k { s with seq:=x }) D':=by
 refine ⟨by rw [UC];exact rc.size.trans h.size,fun i s' hs=>?_⟩
 rw [U8] at hs;by_cases e:k=i
 ·subst e
  rw [if_pos rfl,if_pos (U6.1 hk).1] at hs;cases hs
  obtain ⟨_,b0,b1,b2,b3,b4⟩:=h.at_ k s hk;exact ⟨rc.cell,(rc.other _ (by omega)).trans b0,(rc.other _ (by omega)).trans b1,(rc.other _ (by omega)).trans b2,(rc.other _ (by omega)).trans b3,(rc.other _ (by omega)).trans b4⟩
 ·rw [if_neg e] at hs
  obtain ⟨a,b0,b1,b2,b3,b4⟩:=h.at_ i s' hs;exact ⟨rc.bT a (by omega),(rc.other _ (by omega)).trans b0,(rc.other _ (by omega)).trans b1,(rc.other _ (by omega)).trans b2,(rc.other _ (by omega)).trans b3,(rc.other _ (by omega)).trans b4⟩
theorem Yx.same {l:List lW} {D D':Array Value} {k:Nat} {s:lW} (h:Yx l D) (hk:l[k]?=some s) (rc:Xn D (k*9) (U1 U2 s.seq) D'):Yx l D':=by
 have:=h.re hk rc;have e:l.set k { s with seq:=s.seq }=l:=Yh hk;exact e ▸ this
def qk (D:Array Value) (o:Nat) (v:Qp):Array Value:=((((D.setIfInBounds o (U1 U4 v.id)).setIfInBounds (o+1) (U1 U2 v.slot)).setIfInBounds (o+2) (U1 U4 v.gen)).setIfInBounds (o+3) (U1 U4 v.dl)).setIfInBounds (o+4) (U1 U4 v.per)
theorem Xb {D:Array Value} {o j:Nat} {v:Qp} (h:j<o\/o+5<=j):(qk D o v)[j]?=D[j]?:=by
 unfold qk;rw [Qc (by omega),Qc (by omega),Qc (by omega),Qc (by omega),Qc (by omega)]
theorem qtm {D:Array Value} {o:Nat} {u v:Qp} (h:LY D o u):LY (qk D o v) o v:=by
 obtain ⟨b0,b1,b2,b3,b4⟩:=h;unfold qk;refine ⟨?_,?_,?_,?_,?_⟩
 ·rw [Qc (by omega),Qc (by omega),Qc (by omega),Qc (by omega)];exact Xe b0
 ·rw [Qc (by omega),Qc (by omega),Qc (by omega)];exact Xe (by rw [Qc (by omega)];exact b1)
 ·rw [Qc (by omega),Qc (by omega)];exact Xe (by rw [Qc (by omega),Qc (by omega)];exact b2)
 ·rw [Qc (by omega)];exact Xe (by rw [Qc (by omega),Qc (by omega),Qc (by omega)];exact b3)
 ·exact Xe (by rw [Qc (by omega),Qc (by omega),Qc (by omega),Qc (by omega)];exact b4)
theorem Yx.I5 {l:List lW} {D:Array Value} {k:Nat} {s:lW} (h:Yx l D) (hk:l[k]?=some s) (v:Qp):Yx (l.set k { s with v:=v }) (qk D (k*9+4) v):=by
 refine ⟨by rw [UC];unfold qk;simpa using h.size,fun i s' hs=>?_⟩
 rw [U8] at hs;by_cases e:k=i
 ·subst e
  rw [if_pos rfl,if_pos (U6.1 hk).1] at hs;cases hs
  obtain ⟨⟨a0,l,t,u,a1,a2,a3⟩,b⟩:=h.at_ k s hk;exact ⟨⟨(Xb (by omega)).trans a0,l,t,u,(Xb (by omega)).trans a1,(Xb (by omega)).trans a2,(Xb (by omega)).trans a3⟩,qtm b⟩
 ·rw [if_neg e] at hs
  obtain ⟨⟨a0,l,t,u,a1,a2,a3⟩,b0,b1,b2,b3,b4⟩:=h.at_ i s' hs;exact ⟨⟨(Xb (by omega)).trans a0,l,t,u,(Xb (by omega)).trans a1,(Xb (by omega)).trans a2,(Xb (by omega)).trans a3⟩,(Xb (by omega)).trans b0,(Xb (by omega)).trans b1,(Xb (by omega)).trans b2,(Xb (by omega)).trans b3,(Xb (by omega)).trans b4⟩
theorem DF {r:Qz} (h:1<=r.slots.length) (pos:Int):r.slots[r.at pos]?=some (r.slot pos)/\r.at pos<r.slots.length/\((r.at pos:Nat):Int)=pos % (r.slots.length:Int):=by
 have x0:0<=pos % (r.slots.length:Int):=Int.emod_nonneg _ (by omega);have x1:pos % (r.slots.length:Int)<r.slots.length:=Int.emod_lt_of_pos _ (by omega);have hl:r.at pos<r.slots.length:=by unfold Qz.at;omega
 refine ⟨?_,hl,by unfold Qz.at;omega⟩
 unfold Qz.slot;rw [List.getD_eq_getElem?_getD,List.getElem?_eq_getElem hl];rfl
section
variable {rb sb tb:Nat} {r:Qz} {t:Xz} {C D:Array Value} {g:List ak}
theorem FK (hc:lJ sb r C) (hr:zu r) (pos:Int) (h0:0<=pos) (h1:pos<=1099511627776):Qd prog 148 #[Qb rb,U1 U2 pos] [[cl rb 249 C]] (.pointer (some ⟨sb,r.at pos*9,none⟩)):=by
 obtain ⟨ha,hal,pF⟩:=DF hr.n0 pos;obtain ⟨k,hk⟩:∃ k,r.at pos=k:=⟨_,rfl⟩;have HK:=Vh hk;rw [hk] at pF hal;refine GO fun w HT=>?_
 have c0:=(HT.c 0 0 0).trans hc.sl;have hn0:=hr.n0;generalize r.slots.length=n at *;have hz:((n:Int) == 0)=false:=beq_eq_false_iff_ne.2 (by omega);have hm0:0<=pos % (n:Int):=by omega
 have hm1:pos % (n:Int)<n:=by omega
 have hm2:(pos % (n:Int)).toNat=k:=by omega
 clear hc hr hk ha;go_enter func148,ntmps148
 go_wp2
 go_quiet ((fail))
 have HT:=Vh (HT.out.drewN nq);go_wp2
 go_ret
 exact ⟨by rw [HK.out];rfl,_,rfl⟩
theorem quc (hg:X4 rb r g):Qa prog 251 #[Qb tb] [Xo tb rb t,g] fun e gs=>e=U3 (U5 #[])/\∃ g',X4 rb r g'/\gs=[Xo tb rb (qP r t),g']:=by
 obtain ⟨sb,C,D,rfl,hC,hD⟩:=hg.open;refine GO fun w HT=>?_
 have HC:=Vh hC;have HD:=Vh hD;clear hC hD hg;simp only [Xo] at HT |-;have HT:=Vh (HT.out.eq (H':=[[cl tb 343 (z9 rb t)],[cl rb 249 C],[cl sb 251 D]]) rfl);have t0:=HT.c 0 0 0;simp only [z9,bP] at t0;go_enter func251,ntmps251
 go_wp2_with fail
 refine Qa.run (oC (X8 rb 1 _ C r.tail HC.tail)) (HT) [1] ?_
 rintro e w1 gs ⟨rfl,C1,hr,rfl⟩ HT;simp only [PU] at HT;obtain ⟨t1,t2⟩:=HT.c2 0 0 1 2;obtain ⟨f1,f2⟩:=HT.f2 0 0 1 2;have mh:=Vh (HC.out.oP hr);clear hr;simp only [z9,az] at t1 t2;go_wp2
 refine U9 (UA rfl _ _ _) rfl ⟨_,⟨rfl,_,X4.mk' mh HD,rfl⟩,(((HT.set 0 0 rfl 1 _).set 0 0 rfl 2 _).eq rfl)⟩
theorem qpt (hg:X4 rb r g) (hr:zu r) (ht:sW t):Qa prog 252 #[Qb tb] [Xo tb rb t,g] fun e gs=>e=U3 (U5 #[])/\∃ g',X4 rb r g'/\gs=[Xo tb rb (pV r t),g']:=by
 obtain ⟨sb,C,D,rfl,hC,hD⟩:=hg.open;obtain ⟨ha,hal,pF⟩:=DF hr.n0 t.pos;refine GO fun w HT=>?_
 have HC:=Vh hC;have HD:=Vh hD;have HA:=Vh (FK (rb:=rb) hC hr t.pos ht.p0 ht.p1);simp only [Xo] at HT |-;have HT:=Vh (HT.out.eq (H':=[[cl tb 343 (z9 rb t)],[cl rb 249 C],[cl sb 251 D]]) rfl);have HS:=Vh (hD.at_ _ _ ha).1;have HW:=Vh (show pV r t=if 2*t.pos<(r.slot t.pos).seq then { t with next:=0 } else if (r.slot t.pos).seq<2*t.pos then { t with status:=1 } else { t with next:=2 } from rfl);have HK:=Vh ha;generalize r.slot t.pos=s at *;generalize r.at t.pos=k at *;have p0:=ht.p0;have p1:=ht.p1;obtain ⟨pos,nx,st,fi⟩:=t;simp only at HA HW p0 p1;obtain ⟨t0,t1⟩:=HT.c2 0 0 0 1;simp only [z9,az] at t0 t1;clear hC hD hg ha pF ht hr;by_cases h1:2*pos<s.seq
 ·have HW2:=Vh (HW.out.trans (if_pos h1))
  go_enter func252,ntmps252
  go_upto_region 0 with fail
  refine Mx 11 ?_
  simp only [bY]
  repeat (go_big_quiet_step ((first | (go_at_call 148;with_reducible exact Qd.quiet (HA.out) HT.out _ [1] rfl rfl))))
  refine U7 (QT HT fun nq HT=>?_)
  go_wp2_with fail
  refine (Qa.use (oC (X8 sb (k*9) _ D s.seq HS)) (HT) [2] rfl rfl).mono ?_
  rintro e w1 ⟨gs,⟨rfl,D1,hr,rfl⟩,Ta⟩;simp only [PU] at Ta;obtain ⟨t1,t2⟩:=Ta.c2 0 0 1 2;have f2:=Ta.f 0 0 2;have HD1:=Vh (HD.out.same HK hr);simp only [z9,az] at t1 t2;have HT:=Vh Ta;clear Ta hr;go_wp2_with fail
  refine ⟨rfl,?_⟩
  go_wp2
  refine U9 (UA rfl _ _ _) rfl ⟨_,⟨rfl,_,X4.mk' HC HD1,rfl⟩,((HT.set 0 0 rfl 2 _).eq (by rw [HW2.out];rfl))⟩
 ·by_cases h2:s.seq<2*pos
  ·have HW2:=Vh ((HW.trans (if_neg h1)).trans (if_pos h2))
   go_enter func252,ntmps252
   go_upto_region 0 with fail
   refine Mx 11 ?_
   simp only [bY]
   repeat (go_big_quiet_step ((first | (go_at_call 148;with_reducible exact Qd.quiet (HA.out) HT.out _ [1] rfl rfl))))
   refine U7 (QT HT fun nq HT=>?_)
   go_wp2_with fail
   refine (Qa.use (oC (X8 sb (k*9) _ D s.seq HS)) (HT) [2] rfl rfl).mono ?_
   rintro e w1 ⟨gs,⟨rfl,D1,hr,rfl⟩,Ta⟩;simp only [PU] at Ta;obtain ⟨t1,t2⟩:=Ta.c2 0 0 1 3;have f2:=Ta.f 0 0 3;have HD1:=Vh (HD.out.same HK hr);simp only [z9,az] at t1 t2;have HT:=Vh Ta;clear Ta hr;go_wp2_with fail
   refine ⟨rfl,?_⟩
   go_wp2
   refine U9 (UA rfl _ _ _) rfl ⟨_,⟨rfl,_,X4.mk' HC HD1,rfl⟩,((HT.set 0 0 rfl 3 _).eq (by rw [HW2.out];rfl))⟩
  ·have HW2:=Vh ((HW.trans (if_neg h1)).trans (if_neg h2))
   go_enter func252,ntmps252
   go_upto_region 0 with fail
   refine Mx 11 ?_
   simp only [bY]
   repeat (go_big_quiet_step ((first | (go_at_call 148;with_reducible exact Qd.quiet (HA.out) HT.out _ [1] rfl rfl))))
   refine U7 (QT HT fun nq HT=>?_)
   go_wp2_with fail
   refine (Qa.use (oC (X8 sb (k*9) _ D s.seq HS)) (HT) [2] rfl rfl).mono ?_
   rintro e w1 ⟨gs,⟨rfl,D1,hr,rfl⟩,Ta⟩;simp only [PU] at Ta;obtain ⟨t1,t2⟩:=Ta.c2 0 0 1 2;have f2:=Ta.f 0 0 2;have HD1:=Vh (HD.out.same HK hr);simp only [z9,az] at t1 t2;have HT:=Vh Ta;clear Ta hr;go_wp2_with fail
   refine ⟨rfl,?_⟩
   go_wp2
   refine U9 (UA rfl _ _ _) rfl ⟨_,⟨rfl,_,X4.mk' HC HD1,rfl⟩,((HT.set 0 0 rfl 2 _).eq (by rw [HW2.out];rfl))⟩
theorem que (hg:X4 rb r g) (ht:sW t):Qa prog 253 #[Qb tb] [Xo tb rb t,g] fun e gs=>e=U3 (U5 #[])/\∃ g',X4 rb (o9 r t).1 g'/\gs=[Xo tb rb (o9 r t).2,g']:=by
 obtain ⟨sb,C,D,rfl,hC,hD⟩:=hg.open;refine GO fun w HT=>?_
 have HC:=Vh hC;have HD:=Vh hD;simp only [Xo] at HT |-;have HT:=Vh (HT.out.eq (H':=[[cl tb 343 (z9 rb t)],[cl rb 249 C],[cl sb 251 D]]) rfl);have p0:=ht.p0;have p1:=ht.p1;obtain ⟨pos,nx,st,fi⟩:=t;simp only at p0 p1;obtain ⟨t0,t1,t2⟩:=HT.c3 0 0 0 1 2;have f2:=HT.f 0 0 2;simp only [z9,az] at t0 t1 t2;clear hC hD hg ht;by_cases h1:r.tail=pos
 ·have HW:=Vh (show o9 r ⟨pos,nx,st,fi⟩=({ r with tail:=pos+1 },⟨pos,0,2,fi⟩) from if_pos h1)
  have iy:=Vh (Dl rb 1 249 C r.tail pos (pos+1) HC.tail);have HB:=Vh (show (Value.bool (decide (r.tail=pos)))=.bool true/\(if r.tail=pos then pos+1 else r.tail)=pos+1 from ⟨by rw [decide_eq_true h1],if_pos h1⟩);rw [HB.out.1,HB.out.2] at iy;clear h1;go_enter func253,ntmps253
  go_wp2_with fail
  have HT:=Vh (HT.out.set 0 0 rfl 2 (U1 U2 0));refine Mx 15 ?_
  simp only [bY]
  repeat (go_big_quiet_step ((fail)))
  refine U7 (QT HT fun nq HT=>?_)
  go_wp2_with fail
  refine (Qa.use (oC iy) (HT) [1] rfl rfl).mono ?_
  rintro e w1 ⟨gs,⟨rfl,C1,hr,rfl⟩,Ta⟩;simp only [PU] at Ta;have mh:=Vh (HC.out.oP hr);have t3:=Ta.c 0 0 3;have f3:=Ta.f 0 0 3;have HT:=Vh Ta;clear Ta hr;go_wp2_with fail
  refine ⟨rfl,?_⟩
  go_wp2
  refine U9 (UA rfl _ _ _) rfl ⟨_,⟨rfl,_,by rw [HW.out];exact X4.mk' mh HD,rfl⟩,((HT.set 0 0 rfl 3 _).eq (by rw [HW.out];rfl))⟩
 ·have HW:=Vh (show o9 r ⟨pos,nx,st,fi⟩=(r,⟨pos,0,st,fi⟩) from if_neg h1)
  have iy:=Vh (Dl rb 1 249 C r.tail pos (pos+1) HC.tail);have HB:=Vh (show (Value.bool (decide (r.tail=pos)))=.bool false/\(if r.tail=pos then pos+1 else r.tail)=r.tail from ⟨by rw [decide_eq_false h1],if_neg h1⟩);rw [HB.out.1,HB.out.2] at iy;clear h1;go_enter func253,ntmps253
  go_wp2_with fail
  have HT:=Vh (HT.out.set 0 0 rfl 2 (U1 U2 0));refine Mx 15 ?_
  simp only [bY]
  repeat (go_big_quiet_step ((fail)))
  refine U7 (QT HT fun nq HT=>?_)
  go_wp2_with fail
  refine (Qa.use (oC iy) (HT) [1] rfl rfl).mono ?_
  rintro e w1 ⟨gs,⟨rfl,C1,hr,rfl⟩,Ta⟩;simp only [PU] at Ta;have mh:=Vh (HC.out.oP hr);have HT:=Vh Ta;clear Ta hr;go_wp2_with fail
  refine ⟨rfl,?_⟩
  go_wp2
  refine U9 (UA rfl _ _ _) rfl ⟨_,⟨rfl,_,by rw [HW.out];exact X4.mk' mh HD,rfl⟩,(HT.eq (by rw [HW.out];rfl))⟩
end
theorem P4 (bb:Nat) (now who:Int) (ok:Bool) (hk:(now == 0)=ok) (h:0<=who/\who<=1000000000) :
 Qa prog 290 #[U1 U2 now,Qb bb] [[cl bb 3 #[U1 U2 who]]] fun e gs=>e=U3 (U5 #[U1 U2 (who+1),.bool ok])/\gs=[[cl bb 3 #[U1 U2 who]]]:=by
 subst hk;refine GO fun w HT=>?_
 have c0:=HT.c 0 0 0;simp only [bP] at c0;obtain ⟨h1,h2⟩:=h;go_enter func290,ntmps290
 go_wp2
 go_ret2
 exact ⟨_,⟨by simp,rfl⟩,HT⟩
theorem ql.re {who n y:Int} {C C':Array Value} (h:C.size=5/\cellAt C 0 (U1 U2 who)/\C[4]?=some (U1 U2 n)) (r:Xn C 0 (U1 U2 y) C'):C'.size=5/\cellAt C' 0 (U1 U2 y)/\C'[4]?=some (U1 U2 n) :=
 ⟨r.size.trans h.1,r.cell,(r.other 4 (by omega)).trans h.2.2⟩
theorem qs1 {who n m:Int} {C:Array Value} (h:C.size=5/\cellAt C 0 (U1 U2 who)/\C[4]?=some (U1 U2 n)):(C.setIfInBounds 4 (U1 U2 m)).size=5/\cellAt (C.setIfInBounds 4 (U1 U2 m)) 0 (U1 U2 who)/\(C.setIfInBounds 4 (U1 U2 m))[4]?=some (U1 U2 m):=by
 obtain ⟨hs,⟨h0,l,t,u,h1,h2,h3⟩,h4⟩:=h;exact ⟨by simpa using hs,⟨(Qc (by omega)).trans h0,l,t,u,(Qc (by omega)).trans h1,(Qc (by omega)).trans h2,(Qc (by omega)).trans h3⟩,Xe h4⟩
def og (x who:Int):Int:=if x=0 then who+1 else x
def nz (x n:Int):Int:=if x=0 then n+1 else n
theorem qwh {lb:Nat} {x n:Int} {g:List ak} (who:Int) (hg:ql lb x n g) (h:0<=who/\who<=1000000000) (hn:0<=n/\n<=1000000000) :
 Qa prog 275 #[Qb lb,U1 U2 who] [g] fun e gs=>e=U3 (.bool (x == 0))/\∃ g',ql lb (og x who) (nz x n) g'/\gs=[g']:=by
 obtain ⟨C,rfl,hC⟩:=hg;refine GO fun w HT=>?_
 have HC:=Vh hC;have hw0:=h.1;by_cases hx:x=0
 ·subst hx
  have HB:=Vh (P4 w.heap.size 0 who true rfl h);obtain ⟨hn0,hn1⟩:=hn;clear hC h;go_enter func275,ntmps275
  go_wp2_with fail
  refine Qa.run (DJ (aK:=#[Qb w.heap.size]) (g:=290) (bb:=w.heap.size) (D:=#[U1 U2 who]) HC.2.1 (enters_of func290 (by kernel_rfl) rfl) HB) ((HT.alloc rfl _ _)) [0,1] ?_
  rintro e w1 gs ⟨rfl,C1,hr,rfl⟩ HT;simp only [PU] at HT;have mh:=Vh (ql.re HC hr);have c4:=(HT.c 0 0 4).trans mh.2.2;have fc4:=HT.f 0 0 4;clear hr;go_wp2
  go_ret
  exact ⟨_,⟨rfl,_,⟨_,rfl,qs1 mh⟩,rfl⟩,(HT.set 0 0 rfl 4 _).p [0]⟩
 ·have hb:(x == 0)=false:=beq_eq_false_iff_ne.2 hx
  have HB:=Vh (P4 w.heap.size x who false hb h);have HX:=Vh (show og x who=x/\nz x n=n from ⟨if_neg hx,if_neg hx⟩);have xN:=Vh hb;clear hC hx hb h hn;go_enter func275,ntmps275
  go_wp2_with fail
  refine Qa.run (DJ (aK:=#[Qb w.heap.size]) (g:=290) (bb:=w.heap.size) (D:=#[U1 U2 who]) HC.2.1 (enters_of func290 (by kernel_rfl) rfl) HB) ((HT.alloc rfl _ _)) [0,1] ?_
  rintro e w1 gs ⟨rfl,C1,hr,rfl⟩ HT;simp only [PU] at HT;have mh:=Vh (ql.re HC hr);clear hr;go_wp2
  go_ret
  exact ⟨_,⟨by rw [xN.out];rfl,_,⟨_,rfl,by rw [HX.out.1,HX.out.2];exact mh⟩,rfl⟩,HT.p [0]⟩
theorem qwf {lb:Nat} {x n:Int} {g:List ak} (who:Int) (hg:ql lb x n g) :
 Qa prog 273 #[Qb lb,U1 U2 who] [g] fun e gs=>e=U3 (.bool (decide (0<=who) && x == 0))/\∃ g',ql lb x n g'/\gs=[g']:=by
 obtain ⟨C,rfl,hC⟩:=hg;refine GO fun w HT=>?_
 have HC:=Vh hC;clear hC;by_cases hw:0<=who
 ·have HW:=Vh (show decide (0<=who)=true from by simpa using hw)
  go_enter func273,ntmps273
  go_wp2_with fail
  refine Qa.run (oC (X8 lb 0 _ C x HC.2.1)) (HT) [0] ?_
  rintro e w1 gs ⟨rfl,C1,hr,rfl⟩ HT;simp only [PU] at HT;have mh:=Vh (ql.re HC hr);clear hr;go_wp2
  go_ret
  exact ⟨_,⟨by rw [HW.out,Bool.true_and];rfl,_,⟨_,rfl,mh⟩,rfl⟩,HT⟩
 ·have HW:=Vh (show decide (0<=who)=false from by simpa using hw)
  go_enter func273,ntmps273
  go_wp2
  go_ret
  exact ⟨_,⟨by rw [HW.out,Bool.false_and];rfl,_,⟨_,rfl,HC⟩,rfl⟩,HT⟩
theorem qmi (bb:Nat) (now who:Int) (ok:Bool) (hk:(now == who+1)=ok) (h:0<=who/\who<=1000000000) :
 Qa prog 300 #[U1 U2 now,Qb bb] [[cl bb 3 #[U1 U2 who]]] fun e gs=>e=U3 (U5 #[U1 U2 0,.bool ok])/\gs=[[cl bb 3 #[U1 U2 who]]]:=by
 subst hk;refine GO fun w HT=>?_
 have c0:=HT.c 0 0 0;simp only [bP] at c0;obtain ⟨h1,h2⟩:=h;go_enter func300,ntmps300
 go_wp2
 try go_quiet (fail)
 try go_wp2
 go_ret2
 first | exact ⟨_,⟨by simp,rfl⟩,HT.drewN _⟩ | exact ⟨_,⟨by simp,rfl⟩,HT⟩
theorem qo4 {lb:Nat} {n:Int} {g:List ak} (who:Int) (hg:ql lb (who+1) n g) (h:0<=who/\who<=1000000000) :
 Qa prog 285 #[Qb lb,U1 U2 who] [g] fun e gs=>e=U3 (U1 U2 0)/\∃ g',ql lb 0 n g'/\gs=[g']:=by
 obtain ⟨C,rfl,hC⟩:=hg;refine GO fun w HT=>?_
 have HC:=Vh hC;have hw0:=h.1;have HB:=Vh (qmi w.heap.size (who+1) who true (by simp) h);clear hC h;go_enter func285,ntmps285
 go_wp2_with fail
 refine Qa.run (DJ (aK:=#[Qb w.heap.size]) (g:=300) (bb:=w.heap.size) (D:=#[U1 U2 who]) HC.2.1 (enters_of func300 (by kernel_rfl) rfl) HB) ((HT.alloc rfl _ _)) [0,1] ?_
 rintro e w1 gs ⟨rfl,C1,hr,rfl⟩ HT;simp only [PU] at HT;have mh:=Vh (ql.re HC hr);clear hr;go_wp2
 go_ret
 exact ⟨_,⟨rfl,_,⟨_,rfl,mh⟩,rfl⟩,HT.p [0]⟩
def Xq (b rb lb wb:Nat):List ak:=[cl b 238 #[Qb rb,Qb lb,Qb wb]]
theorem Jl (b rb lb wb:Nat):Qa prog 86 #[Qb b] [Xq b rb lb wb] fun e gs=>e=U3 (.agg #[Qb rb,Qb lb,Qb wb])/\gs=[Xq b rb lb wb]:=by
 refine GO fun w HT=>?_
 simp only [Xq] at HT |-;obtain ⟨c0,c1,c2⟩:=HT.c3 0 0 0 1 2;have hlt:=HT.l 0 0;simp only [az] at c0 c1 c2 hlt;go_enter func86,ntmps86
 go_wp2
 exact UD (v:=.agg #[Qb rb,Qb lb,Qb wb]) (by simp [results,results86,go_sem]) rfl ⟨_,⟨rfl,rfl⟩,HT.aT _⟩
theorem J9 (a b c:Value) (w:World):(Instr.field 159 (.agg #[a,b,c]) 0).run prog w=.ok a w/\(Instr.field 159 (.agg #[a,b,c]) 1).run prog w=.ok b w/\(Instr.field 159 (.agg #[a,b,c]) 2).run prog w=.ok c w:=⟨by kernel_rfl,by kernel_rfl,by kernel_rfl⟩
theorem qpk (b rb lb wb:Nat):Qa prog 33 #[Qb b] [Xq b rb lb wb] fun e gs=>e=U3 (Qb lb)/\gs=[Xq b rb lb wb]:=by
 refine GO fun w HT=>?_
 go_enter func33,ntmps33
 go_wp2_with fail
 refine Qa.run (Jl b rb lb wb) (HT) [0] ?_
 rintro e w1 gs ⟨rfl,rfl⟩ HT;simp only [PU] at HT;have hf:=fun w=>(J9 (Qb rb) (Qb lb) (Qb wb) w).2.1
 go_wp2
 go_ret
 exact ⟨_,⟨rfl,rfl⟩,HT⟩
section
variable {rb sb tb:Nat} {r:Qz} {t:Xz} {C D:Array Value} {g:List ak}
theorem qpi (rb:Nat):Qa prog 217 #[Qb rb] [] fun e gs=>∃ tb,e=U3 (Qb tb)/\gs=[Xo tb rb Xp]:=by
 refine GO fun w HT=>?_
 go_enter func217,ntmps217
 go_wp2
 go_ret
 exact ⟨_,⟨_,rfl,rfl⟩,HT.alloc rfl _ _⟩
theorem qud (hg:X4 rb r g) (hr:zu r) (ht:sW t):Qa prog 218 #[Qb tb] [Xo tb rb t,g] fun e gs =>
 e=U3 (U1 U2 (stepT r t).2.status)/\∃ g',X4 rb (stepT r t).1 g'/\gs=[Xo tb rb (stepT r t).2,g']:=by
 refine GO fun w HT=>?_
 have HL:=Vh (quc (tb:=tb) (t:=t) hg);have HWE:=Vh (qpt (tb:=tb) (t:=t) hg hr ht);have dK:=Vh (que (tb:=tb) (t:=t) hg ht);have HG:=Vh hg;have hst:t.status=0\/t.status≠0:=by omega
 have hnx:=ht.nx;have HW0:=Vh (show t.status≠0->stepT r t=(r,t) from fun h=>if_pos h);have HW1:=Vh (show t.status=0->t.next=0->stepT r t=(r,qP r t) from fun h h1=>(if_neg (by omega)).trans (if_pos h1));have HW2:=Vh (show t.status=0->t.next=1->stepT r t=(r,pV r t) from fun h h1=>(if_neg (by omega)).trans ((if_neg (by omega)).trans (if_pos h1)));have HW3:=Vh (show t.status=0->t.next=2->stepT r t=o9 r t from fun h h1=>(if_neg (by omega)).trans ((if_neg (by omega)).trans (if_neg (by omega))));obtain ⟨t2,t3⟩:=HT.c2 0 0 2 3;simp only [z9,az] at t2 t3;have lt:=HT.l 0 0;simp only [] at lt;clear hg hr ht;rcases hst with hst | hst
 ·rcases hnx with hnx | hnx | hnx
  ·have HS:=Vh (HW1.out hst hnx)
   rw [hst] at t3;rw [hnx] at t2;clear hst hnx;go_enter func218,ntmps218
   go_wp2_with fail
   refine Qa.run HL (HT.put rfl _) [0,1] ?_
   rintro e w1 gs ⟨rfl,g',hg',rfl⟩ HT;simp only [PU] at HT;have t3:=HT.c 0 0 3;simp only [z9,az] at t3;go_wp2
   go_ret
   exact ⟨_,⟨by rw [HS.out];rfl,g',by rw [HS.out];exact hg',rfl⟩,(HT.p [0,1]).eq (by rw [HS.out];rfl)⟩
  ·have HS:=Vh (HW2.out hst hnx)
   rw [hst] at t3;rw [hnx] at t2;clear hst hnx;go_enter func218,ntmps218
   go_wp2_with fail
   refine Qa.run HWE (HT.put rfl _) [0,1] ?_
   rintro e w1 gs ⟨rfl,g',hg',rfl⟩ HT;simp only [PU] at HT;have t3:=HT.c 0 0 3;simp only [z9,az] at t3;go_wp2
   go_ret
   exact ⟨_,⟨by rw [HS.out];rfl,g',by rw [HS.out];exact hg',rfl⟩,(HT.p [0,1]).eq (by rw [HS.out];rfl)⟩
  ·have HS:=Vh (HW3.out hst hnx)
   rw [hst] at t3;rw [hnx] at t2;clear hst hnx;go_enter func218,ntmps218
   go_wp2_with fail
   refine Qa.run dK (HT.put rfl _) [0,1] ?_
   rintro e w1 gs ⟨rfl,g',hg',rfl⟩ HT;simp only [PU] at HT;have t3:=HT.c 0 0 3;simp only [z9,az] at t3;go_wp2
   go_ret
   exact ⟨_,⟨by rw [HS.out];rfl,g',by rw [HS.out];exact hg',rfl⟩,(HT.p [0,1]).eq (by rw [HS.out];rfl)⟩
 ·have HS:=Vh (HW0.out hst)
  have hb:(t.status == 0)=false:=beq_eq_false_iff_ne.2 hst;clear hst hnx;go_enter func218,ntmps218
  go_wp2
  go_ret
  exact ⟨_,⟨by rw [HS.out];rfl,g,by rw [HS.out];exact HG,rfl⟩,((HT.put rfl _).p [0,1]).eq (by rw [HS.out];rfl)⟩
theorem RX (b o:Nat) (T:TypeId) (C:Array Value) (y x:Int) (hc:cellAt C o (U1 U2 y)) :
 Qa prog 149 #[.pointer (some ⟨b,o,none⟩),U1 U2 x] [[cl b T C]] fun e gs=>e=U3 (U5 #[])/\gs=[[cl b T (C.setIfInBounds o (U1 U2 x))]]:=RY b o T C _ x hc.1
theorem Yx.fill {l:List lW} {D:Array Value} {k:Nat} {s:lW} (h:Yx l D) (hk:l[k]?=some s) (v:Qp) (n:Int):Yx (l.set k ⟨n,v⟩) ((qk D (k*9+4) v).setIfInBounds (k*9) (U1 U2 n)):=by
 have h1:=h.I5 hk v;have hk1:(l.set k { s with v:=v })[k]?=some { s with v:=v }:=by rw [U8,if_pos rfl,if_pos (U6.1 hk).1]
 obtain ⟨⟨a0,l0,t0,u0,a1,a2,a3⟩,b⟩:=h1.at_ k _ hk1;refine ⟨?_,fun i s' hs=>?_⟩
 ·rw [Array.size_setIfInBounds,h1.size];simp
 ·rw [U8] at hs
  by_cases e:k=i
  ·subst e
   rw [if_pos rfl,if_pos (U6.1 hk).1] at hs;cases hs
   obtain ⟨b0,b1,b2,b3,b4⟩:=b;exact ⟨⟨Xe a0,l0,t0,u0,(Qc (by omega)).trans a1,(Qc (by omega)).trans a2,(Qc (by omega)).trans a3⟩,(Qc (by omega)).trans b0,(Qc (by omega)).trans b1,(Qc (by omega)).trans b2,(Qc (by omega)).trans b3,(Qc (by omega)).trans b4⟩
  ·rw [if_neg e] at hs
   have hs1:(l.set k { s with v:=v })[i]?=some s':=by rw [U8,if_neg e];exact hs
   obtain ⟨⟨a0,l0,t0,u0,a1,a2,a3⟩,b0,b1,b2,b3,b4⟩:=h1.at_ i s' hs1;exact ⟨⟨(Qc (by omega)).trans a0,l0,t0,u0,(Qc (by omega)).trans a1,(Qc (by omega)).trans a2,(Qc (by omega)).trans a3⟩,(Qc (by omega)).trans b0,(Qc (by omega)).trans b1,(Qc (by omega)).trans b2,(Qc (by omega)).trans b3,(Qc (by omega)).trans b4⟩
theorem qng (v:Qp) (hg:X4 rb r g) (hr:zu r) (ht:sW t) (hh:t.status=2/\t.filled=false):Qa prog 256 #[Qb tb,.agg v.cells] [Xo tb rb t,g] fun e gs =>
 e=U3 (U1 U2 0)/\∃ g',X4 rb { r with slots:=r.slots.set (r.at t.pos) ⟨2*t.pos+1,v⟩ } g'/\gs=[Xo tb rb { t with filled:=true },g']:=by
 obtain ⟨sb,C,D,rfl,hC,hD⟩:=hg.open;obtain ⟨ha,hal,pF⟩:=DF hr.n0 t.pos;refine GO fun w HT=>?_
 have HC:=Vh hC;have HD:=Vh hD;have HA:=Vh (FK (rb:=rb) hC hr t.pos ht.p0 ht.p1);simp only [Xo] at HT |-;have HT:=Vh (HT.out.eq (H':=[[cl tb 343 (z9 rb t)],[cl rb 249 C],[cl sb 251 D]]) rfl);have HV:=Vh (hD.fill ha v (2*t.pos+1));have E6:=Vh (hC.kY (l:=r.slots.set (r.at t.pos) ⟨2*t.pos+1,v⟩) (UC ..));have hcell:=(hD.at_ _ _ ha).1;generalize r.slot t.pos=s at *;generalize r.at t.pos=k at *;have p0:=ht.p0;have p1:=ht.p1;obtain ⟨e0,e1,e2,e3,e4⟩:=(hD.at_ _ _ ha).2;obtain ⟨pos,nx,st,fi⟩:=t;simp only at HA HV E6 p0 p1 hh;obtain ⟨rfl,rfl⟩:=hh
 have HP:=Vh (show cellAt (qk D (k*9+4) v) (k*9) (U1 U2 s.seq) from by
  obtain ⟨a0,l0,t0,u0,a1,a2,a3⟩:=hcell
  exact ⟨(Xb (by omega)).trans a0,l0,t0,u0,(Xb (by omega)).trans a1,(Xb (by omega)).trans a2,(Xb (by omega)).trans a3⟩)
 have HE:=Vh (UB e0 (UB e1 (UB e2 (UB e3 e4))));have lt:=HT.l 0 0;simp only [] at lt;obtain ⟨t0,t1,t3,t4⟩:=HT.c4 0 0 0 1 3 4;have f4:=HT.f 0 0 4;simp only [z9,az] at t0 t1 t3 t4;clear hC hD hg ha pF ht hr hal e0 e1 e2 e3 e4 hcell;simp only [Qp.cells];go_enter func256,ntmps256
 go_wp2
 have HT:=Vh ((HT.set 0 0 rfl 4 (.bool true)).alloc (k:=w.heap.size) (by simp) 40 #[U1 U4 v.id,U1 U2 v.slot,U1 U4 v.gen,U1 U4 v.dl,U1 U4 v.per]);clear t0 t1 t3 t4 f4 lt;generalize UE _ _=w1 at HT |-;simp only [List.set_cons_zero,List.cons_append,List.nil_append] at HT;obtain ⟨t0,t1⟩:=HT.c2 0 0 0 1;obtain ⟨b0,b1,b2,b3,b4⟩:=HT.c5 3 0 0 1 2 3 4;simp only [z9,az] at t0 t1 b0 b1 b2 b3 b4;have d0:=(HT.cell 2 0 rfl (k*9+4)).trans HE.1;have d1:=(HT.cell 2 0 rfl (k*9+4+1)).trans HE.2.1;have d2:=(HT.cell 2 0 rfl (k*9+4+2)).trans HE.2.2.1;have d3:=(HT.cell 2 0 rfl (k*9+4+3)).trans HE.2.2.2.1;have d4:=(HT.cell 2 0 rfl (k*9+4+4)).trans HE.2.2.2.2;have g0:=HT.free 2 0 rfl (k*9+4);have g1:=HT.free 2 0 rfl (k*9+4+1);have g2:=HT.free 2 0 rfl (k*9+4+2);have g3:=HT.free 2 0 rfl (k*9+4+3);have g4:=HT.free 2 0 rfl (k*9+4+4);have n1:=HT.ne 0 0 2 0 (by decide) rfl rfl;simp only [] at n1;go_quiet ((first | (go_at_call 148;with_reducible exact Qd.quiet (HA.out) HT.out _ [1] rfl rfl)))
 have HT:=Vh (HT.out.drewN nq);go_wp2
 have HT:=Vh ((((((HT.set 2 0 rfl (k*9+4) (U1 U4 v.id)).set 2 0 rfl (k*9+4+1) (U1 U2 v.slot)).set 2 0 rfl (k*9+4+2) (U1 U4 v.gen)).set 2 0 rfl (k*9+4+3) (U1 U4 v.dl)).set 2 0 rfl (k*9+4+4) (U1 U4 v.per)).eq (H':=[[cl tb 343 (z9 rb ⟨pos,nx,2,true⟩)],[cl rb 249 C],[cl sb 251 (qk D (k*9+4) v)],[cl w.heap.size 40 #[U1 U4 v.id,U1 U2 v.slot,U1 U4 v.gen,U1 U4 v.dl,U1 U4 v.per]]]) rfl);clear t0 t1 b0 b1 b2 b3 b4 d0 d1 d2 d3 d4 g0 g1 g2 g3 g4 n1;generalize World.setCell _ _ _=w2 at HT |-;have t1:=HT.c 0 0 1;simp only [z9,az] at t1;refine Mx 9 ?_
 simp only [bY]
 repeat (go_big_quiet_step ((fail)))
 refine U7 (QT HT fun nq HT=>?_)
 go_wp2_with fail
 refine Qa.run (RX _ _ _ _ _ _ HP) (HT) [2] ?_
 rintro e w1 gs ⟨rfl,rfl⟩ HT;simp only [PU] at HT;go_wp2_with fail
 refine ⟨rfl,?_⟩
 go_wp2
 go_ret
 exact ⟨_,⟨rfl,_,X4.mk' E6 HV,rfl⟩,(HT.p [0,1,2]).eq rfl⟩
theorem qps (v:Qp) (hh:¬ (t.status=2/\t.filled=false)):Qa prog 256 #[Qb tb,.agg v.cells] [Xo tb rb t] fun e gs=>e=U3 (U1 U2 7)/\gs=[Xo tb rb t]:=by
 refine GO fun w HT=>?_
 have lt:=HT.l 0 0;simp only [] at lt;obtain ⟨t3,t4⟩:=HT.c2 0 0 3 4;simp only [z9,az] at t3 t4;simp only [Qp.cells];by_cases h:t.status=2
 ·have hf:t.filled=true:=by
   cases hf:t.filled
   ·exact absurd ⟨h,hf⟩ hh
   ·rfl
  rw [h] at t3;rw [hf] at t4;clear h hf hh;go_enter func256,ntmps256
  go_wp2
  go_ret
  exact ⟨_,⟨rfl,rfl⟩,HT.aT _⟩
 ·have hb:(t.status != 2)=true:=bne_iff_ne.2 h
  have hb':(t.status == 2)=false:=beq_eq_false_iff_ne.2 h;clear h hh;go_enter func256,ntmps256
  go_wp2
  go_ret
  exact ⟨_,⟨rfl,rfl⟩,HT.aT _⟩
theorem qub (v:Qp) (hg:X4 rb r g) (hr:zu r) (ht:sW t):Qa prog 256 #[Qb tb,.agg v.cells] [Xo tb rb t,g] fun e gs =>
 e=U3 (U1 U2 (Zp r t v).2.2)/\∃ g',X4 rb (Zp r t v).1 g'/\gs=[Xo tb rb (Zp r t v).2.1,g']:=by
 by_cases hh:t.status=2/\t.filled=false
 ·have e:Zp r t v=({ r with slots:=r.slots.set (r.at t.pos) ⟨2*t.pos+1,v⟩ },{ t with filled:=true },0):=if_pos hh
  rw [e];exact qng v hg hr ht hh
 ·have e:Zp r t v=(r,t,7):=if_neg hh
  rw [e];intro w hw;refine (Qa.use (qps v hh) (TG.refl hw) [0] rfl rfl).mono ?_
  rintro e w' ⟨gs,⟨he,rfl⟩,T⟩;exact ⟨_,⟨he,g,hg,rfl⟩,T⟩
end
section
variable {rb sb:Nat} {r:Qz} {C D:Array Value} {g:List ak}
theorem OO (hg:X4 rb r g) (hr:zu r):Qa prog 147 #[Qb rb] [g] fun e gs=>e=U3 (.bool r.ready)/\∃ g',X4 rb r g'/\gs=[g']:=by
 obtain ⟨sb,C,D,rfl,hC,hD⟩:=hg.open;obtain ⟨ha,hal,pF⟩:=DF hr.n0 r.head;refine GO fun w HT=>?_
 have HT:=Vh (HT.out.eq (H':=[[cl rb 249 C],[cl sb 251 D]]) rfl);have HA:=Vh (show ∀ C',lJ sb r C'->_ from fun C' hC'=>(FK (rb:=rb) hC' hr r.head hr.h0 hr.h1).does);have HS:=Vh (show ∀ D',Yx r.slots D'->cellAt D' (r.at r.head*9) (U1 U2 (r.slot r.head).seq) from fun D' h=>(h.at_ _ _ ha).1);have HK:=Vh ha;have h0:=hr.h0;have h1:=hr.h1;have HR:=Vh (show r.ready=((r.slot r.head).seq == 2*r.head+1) from rfl);have HC:=Vh hC;have HD:=Vh hD;clear hg hr hC hD ha hal pF;go_enter func147,ntmps147
 go_wp2_with fail
 obtain ⟨ι,W,hW0,hend,hin⟩:∃ (ι:Type) (W:ι->World),(∃ i,UG _=W i)/\(∀ i,∃ Cx Dx,(lJ sb r Cx/\Yx r.slots Dx)/\TG [[cl rb 249 C,cl sb 251 D]] w [[cl rb 249 Cx],[cl sb 251 Dx]] (W i))/\(∀ w',(∃ Cx Dx,(lJ sb r Cx/\Yx r.slots Dx)/\TG [[cl rb 249 C,cl sb 251 D]] w [[cl rb 249 Cx],[cl sb 251 Dx]] w')->∃ i,w'=W i):=⟨{w' // ∃ Cx Dx,(lJ sb r Cx/\Yx r.slots Dx)/\TG [[cl rb 249 C,cl sb 251 D]] w [[cl rb 249 Cx],[cl sb 251 Dx]] w'},UF,⟨⟨_,C,D,⟨HC,HD⟩,HT.drew⟩,rfl⟩,fun i=>i.2,fun w' h=>⟨⟨w',h⟩,rfl⟩⟩;have hne:Nonempty ι:=hW0.elim fun i _=>⟨i⟩
 have q5:∀ i,(W i).cell? ⟨rb,5,none⟩=some (U1 U2 r.head):=fun i=>by obtain ⟨_,_,h,T⟩:=hend i;exact (T.c 0 0 5).trans h.1.head
 have m1:∀ i,Calls prog 148 #[Qb rb,U1 U2 r.head] (W i) fun e w2=>e=U3 (.pointer (some ⟨sb,r.at r.head*9,none⟩))/\∃ j,w2=W j:=fun i=>by
  obtain ⟨Cx,Dx,h,T⟩:=hend i;refine (Qa.use (HA _ h.1) T [0] rfl rfl).mono ?_
  rintro e w2 ⟨gs,⟨rfl,rfl⟩,T2⟩;exact ⟨rfl,hin _ ⟨Cx,Dx,h,T2⟩⟩
 have m2:∀ i,Calls prog 88 #[.pointer (some ⟨sb,r.at r.head*9,none⟩)] (W i) fun e w2=>e=U3 (U1 U2 (r.slot r.head).seq)/\∃ j,w2=W j:=fun i=>by
  obtain ⟨Cx,Dx,h,T⟩:=hend i;refine (Qa.use (oC (X8 sb (r.at r.head*9) _ Dx _ (HS _ h.2))) T [1] rfl rfl).mono ?_
  rintro e w2 ⟨gs,⟨rfl,D1,hr1,rfl⟩,T2⟩;exact ⟨rfl,hin _ ⟨Cx,D1,⟨h.1,h.2.same HK hr1⟩,T2⟩⟩
 refine Jv W (by kernel_rfl) (by kernel_rfl) hW0 ?_
 repeat (go_big_quiet_step ((first | (go_at_call 148;with_reducible exact m1 _) | (go_at_call 88;with_reducible exact m2 _))))
 refine U7 ?_
 intro _ hw;obtain ⟨iq,hw2⟩:=hw;subst hw2;obtain ⟨Cx,Dx,h,T⟩:=hend iq;have HT:=Vh T;generalize W iq=w1 at HT |-;clear T hend hin hW0 hne;have HH:=Vh h;clear h;go_wp2
 go_ret
 exact ⟨_,⟨by rw [HR.out];rfl,_,X4.mk' HH.1 HH.2,rfl⟩,HT.eq rfl⟩
theorem qxe (hg:X4 rb r g) (hr:zu r):Qa prog 96 #[Qb rb] [g] fun e gs=>e=U3 (U1 U2 (r.tail - r.head))/\∃ g',X4 rb r g'/\gs=[g']:=by
 obtain ⟨sb,C,D,rfl,hC,hD⟩:=hg.open;refine GO fun w HT=>?_
 have HT:=Vh (HT.out.eq (H':=[[cl rb 249 C],[cl sb 251 D]]) rfl);have h0:=hr.h0;have h1:=hr.h1;have h2:=hr.t0;have h3:=hr.t1;have HC:=Vh hC;have HD:=Vh hD;clear hg hr hC hD;go_enter func96,ntmps96
 go_wp2_with fail
 obtain ⟨ι,W,hW0,hend,hin⟩:∃ (ι:Type) (W:ι->World),(∃ i,UG _=W i)/\(∀ i,∃ Cx,(lJ sb r Cx)/\TG [[cl rb 249 C,cl sb 251 D]] w [[cl rb 249 Cx],[cl sb 251 D]] (W i))/\(∀ w',(∃ Cx,(lJ sb r Cx)/\TG [[cl rb 249 C,cl sb 251 D]] w [[cl rb 249 Cx],[cl sb 251 D]] w')->∃ i,w'=W i):=⟨{w' // ∃ Cx,(lJ sb r Cx)/\TG [[cl rb 249 C,cl sb 251 D]] w [[cl rb 249 Cx],[cl sb 251 D]] w'},UF,⟨⟨_,C,HC,HT.drew⟩,rfl⟩,fun i=>i.2,fun w' h=>⟨⟨w',h⟩,rfl⟩⟩;have hne:Nonempty ι:=hW0.elim fun i _=>⟨i⟩
 have q5:∀ i,(W i).cell? ⟨rb,5,none⟩=some (U1 U2 r.head):=fun i=>by obtain ⟨_,h,T⟩:=hend i;exact (T.c 0 0 5).trans h.head
 have m2:∀ i,Calls prog 88 #[.pointer (some ⟨rb,1,none⟩)] (W i) fun e w2=>e=U3 (U1 U2 r.tail)/\∃ j,w2=W j:=fun i=>by
  obtain ⟨Cx,h,T⟩:=hend i;refine (Qa.use (oC (X8 rb 1 _ Cx _ h.tail)) T [0] rfl rfl).mono ?_
  rintro e w2 ⟨gs,⟨rfl,C1,hr1,rfl⟩,T2⟩;exact ⟨rfl,hin _ ⟨C1,h.oP hr1,T2⟩⟩
 refine Jv W (by kernel_rfl) (by kernel_rfl) hW0 ?_
 repeat (go_big_quiet_step ((first | (go_at_call 88;with_reducible exact m2 _))))
 refine U7 ?_
 intro _ hw;obtain ⟨iq,hw2⟩:=hw;subst hw2;obtain ⟨Cx,h,T⟩:=hend iq;have HT:=Vh T;generalize W iq=w1 at HT |-;clear T hend hin hW0 hne;have HH:=Vh h;clear h;go_wp2
 go_ret
 exact ⟨_,⟨by rfl,_,X4.mk' HH HD,rfl⟩,HT.eq rfl⟩
theorem qxg (hg:X4 rb r g) (hr:zu r):Qa prog 87 #[Qb rb] [g] fun e gs=>e=U3 (U5 #[.agg (J3 r).2.1.cells,U1 U2 (J3 r).2.2])/\∃ g',X4 rb (J3 r).1 g'/\gs=[g']:=by
 have hrd:=OO hg hr;cases hb:r.ready with
 | false =>
   have HE:=Vh (show J3 r=(r,Qp.zero,6) from if_neg (by rw [hb];decide));rw [hb] at hrd;refine GO fun w HT=>?_
   have HR:=Vh hrd;clear hg hr hrd hb;go_enter func87,ntmps87
   go_wp2_with fail
   have HT:=Vh ((HT.a 40 Qp.zero.cells).alloc (k:=w.heap.size+1) (by simp) 40 Qp.zero.cells);go_wp2_with fail
   refine Qa.run HR HT [0] ?_
   rintro e w1 gs ⟨rfl,g1,hg1,rfl⟩ HT;simp only [PU] at HT;have HG:=Vh hg1;clear hg1;obtain ⟨a0,a1,a2,a3,a4⟩:=HT.c5 1 0 0 1 2 3 4;obtain ⟨fa0,fa1,fa2,fa3,fa4⟩:=HT.f5 1 0 0 1 2 3 4;simp only [Qp.cells,Qp.zero,az] at a0 a1 a2 a3 a4;obtain ⟨b0,b1,b2,b3,b4⟩:=HT.c5 2 0 0 1 2 3 4;obtain ⟨fb0,fb1,fb2,fb3,fb4⟩:=HT.f5 2 0 0 1 2 3 4;simp only [Qp.cells,Qp.zero,az] at b0 b1 b2 b3 b4;go_wp2
   exact UD (v:=U5 #[.agg Qp.zero.cells,U1 U2 6]) (by simp [results,results87,go_sem,a0,a1,a2,a3,a4,Qp.cells,Qp.zero]) rfl ⟨_,⟨by rw [HE.out],g1,by rw [HE.out];exact HG,rfl⟩,((((((HT.set 1 0 rfl 0 _).set 1 0 rfl 1 _).set 1 0 rfl 2 _).set 1 0 rfl 3 _).set 1 0 rfl 4 _).p [0])⟩
 | true =>
   have HE:=Vh (show J3 r=({ r with slots:=r.slots.set (r.at r.head) ⟨2*(r.head+r.slots.length),Qp.zero⟩,head:=r.head+1 },(r.slot r.head).v,0) from if_pos hb);rw [hb] at hrd;refine GO fun w HT=>?_
   have HR:=Vh hrd;have zL:=Vh hr;clear hg hr hrd hb;go_enter func87,ntmps87
   go_wp2_with fail
   have HT:=Vh ((HT.a 40 Qp.zero.cells).alloc (k:=w.heap.size+1) (by simp) 40 Qp.zero.cells);go_wp2_with fail
   refine Qa.run HR HT [0] ?_
   rintro e w1 gs ⟨rfl,g1,hg1,rfl⟩ HT;simp only [PU] at HT;obtain ⟨sb,C,D,rfl,hC,hD⟩:=hg1.open;have HT:=Vh (HT.out.m [[cl rb 249 C],[cl sb 251 D],[cl w.heap.size 40 Qp.zero.cells],[cl (w.heap.size+1) 40 Qp.zero.cells]]);obtain ⟨ha,hal,pF⟩:=DF zL.n0 r.head;have h0:=zL.h0;have h1:=zL.h1;have hn0:=zL.n0;have hn1:=zL.n1;have HC:=Vh hC;have HD:=Vh hD;have HA:=Vh (FK (rb:=rb) hC zL r.head h0 h1);have HV:=Vh (hD.fill ha Qp.zero (2*(r.head+r.slots.length)));have E6:=Vh ((hC.kY (l:=r.slots.set (r.at r.head) ⟨2*(r.head+r.slots.length),Qp.zero⟩) (UC ..)).Ct (r.head+1));have hcell:=(hD.at_ _ _ ha).1;obtain ⟨e0,e1,e2,e3,e4⟩:=(hD.at_ _ _ ha).2;generalize r.slot r.head=s at *;generalize r.at r.head=k at *
   have HP:=Vh (show cellAt (qk D (k*9+4) Qp.zero) (k*9) (U1 U2 s.seq) from by
    obtain ⟨a0,l0,t0,u0,a1,a2,a3⟩:=hcell
    exact ⟨(Xb (by omega)).trans a0,l0,t0,u0,(Xb (by omega)).trans a1,(Xb (by omega)).trans a2,(Xb (by omega)).trans a3⟩)
   have rC:=Vh (UB e0 (UB e1 (UB e2 (UB e3 e4))));have c5:=(HT.c 0 0 5).trans hC.head;clear hg1 hC hD ha hal pF e0 e1 e2 e3 e4 hcell;go_wp2_with fail
   refine Qd.run HA HT [0] ?_
   rintro e wq rfl HT;clear c5;obtain ⟨z0,z1,z2,z3,z4⟩:=HT.c5 3 0 0 1 2 3 4;simp only [Qp.cells,Qp.zero,az] at z0 z1 z2 z3 z4;have d0:=(HT.cell 1 0 rfl (k*9+4)).trans rC.1;have d1:=(HT.cell 1 0 rfl (k*9+4+1)).trans rC.2.1;have d2:=(HT.cell 1 0 rfl (k*9+4+2)).trans rC.2.2.1;have d3:=(HT.cell 1 0 rfl (k*9+4+3)).trans rC.2.2.2.1;have d4:=(HT.cell 1 0 rfl (k*9+4+4)).trans rC.2.2.2.2;have g0:=HT.free 1 0 rfl (k*9+4);have g1:=HT.free 1 0 rfl (k*9+4+1);have g2:=HT.free 1 0 rfl (k*9+4+2);have g3:=HT.free 1 0 rfl (k*9+4+3);have g4:=HT.free 1 0 rfl (k*9+4+4);have nS:=HT.l 1 0;have Nw:=HT.l 3 0;simp only [] at nS Nw;go_wp2
   have HT:=Vh (((((((HT.set 1 0 rfl (k*9+4) (U1 U4 0)).set 1 0 rfl (k*9+4+1) (U1 U2 0)).set 1 0 rfl (k*9+4+2) (U1 U4 0)).set 1 0 rfl (k*9+4+3) (U1 U4 0)).set 1 0 rfl (k*9+4+4) (U1 U4 0)).alloc (k:=wq.heap.size) (by simp) 40 s.v.cells).eq (H':=[[cl rb 249 C],[cl sb 251 (qk D (k*9+4) Qp.zero)],[cl w.heap.size 40 Qp.zero.cells],[cl (w.heap.size+1) 40 Qp.zero.cells],[cl wq.heap.size 40 s.v.cells]]) rfl);simp only [Qp.cells] at HT;clear z0 z1 z2 z3 z4 d0 d1 d2 d3 d4 g0 g1 g2 g3 g4 nS Nw;generalize UE _ _=w2 at HT |-;have c5:=(HT.c 0 0 5).trans HC.head;have c0:=(HT.c 0 0 0).trans HC.sl;refine Mx 14 ?_
   simp only [bY]
   repeat (go_big_quiet_step ((fail)))
   refine U7 (QT HT fun nq HT=>?_)
   go_wp2_with fail
   refine Qa.run (RX _ _ _ _ _ _ HP) (HT) [1] ?_
   rintro e w1 gs ⟨rfl,rfl⟩ HT;simp only [PU] at HT;go_wp2_with fail
   refine ⟨rfl,?_⟩
   have HT:=Vh (HT.out.eq (H':=[[cl rb 249 C],[cl sb 251 ((qk D (k*9+4) Qp.zero).setIfInBounds (k*9) (U1 U2 (2*(r.head+r.slots.length))))],[cl w.heap.size 40 Qp.zero.cells],[cl (w.heap.size+1) 40 Qp.zero.cells],[cl wq.heap.size 40 s.v.cells]]) rfl);clear c5 c0;have c5:=(HT.c 0 0 5).trans HC.head;have f5:=HT.f 0 0 5;obtain ⟨a0,a1,a2,a3,a4⟩:=HT.c5 2 0 0 1 2 3 4;obtain ⟨fa0,fa1,fa2,fa3,fa4⟩:=HT.f5 2 0 0 1 2 3 4;simp only [Qp.cells,Qp.zero,az] at a0 a1 a2 a3 a4;obtain ⟨b0,b1,b2,b3,b4⟩:=HT.c5 4 0 0 1 2 3 4;simp only [Qp.cells,az] at b0 b1 b2 b3 b4;have n1:=HT.ne 0 0 2 0 (by decide) rfl rfl;have n2:=HT.ne 0 0 4 0 (by decide) rfl rfl;have n3:=HT.ne 2 0 4 0 (by decide) rfl rfl;simp only [] at n1 n2 n3;go_wp2
   exact UD (v:=U5 #[.agg s.v.cells,U1 U2 0]) (by simp [results,results87,go_sem,a0,a1,a2,a3,a4,Qp.cells,n1]) rfl ⟨_,⟨by rw [HE.out],_,by rw [HE.out];exact X4.mk' E6 HV,rfl⟩,(((((((HT.set 0 0 rfl 5 _).set 2 0 rfl 0 _).set 2 0 rfl 1 _).set 2 0 rfl 2 _).set 2 0 rfl 3 _).set 2 0 rfl 4 _).p [0,1]).eq rfl⟩
end
end
end Go.Proofs.YtcneeepdclgdcaaGreat
