import Derived.Test.YtcneeepdclgdcaaGreatCO16
import Derived.Test.YtcneeepdclgdcaaGreatCO4
import Derived.Test.YtcneeepdclgdcaaGreatCO5
import Derived.Test.YtcneeepdclgdcaaGreatCO14
set_option maxRecDepth 100000
set_option maxHeartbeats 4000000
namespace Go.Proofs.YtcneeepdclgdcaaGreat
set_option linter.unusedVariables false
set_option linter.unusedSimpArgs false
open Go.Proofs.Tryz
section
open Go.RowKit Go.Shelf
structure Q4 where
 pos:Int
 next:Int
 status:Int
 filled:Bool
def Qx:Q4:=⟨0,0,0,false⟩
def Jc.zero:Jc:=⟨0,Qn.zero⟩
def Qo.at (r:Qo) (pos:Int):Nat:=(pos % (r.slots.length:Int)).toNat
def Qo.slot (r:Qo) (pos:Int):Jc:=r.slots.getD (r.at pos) Jc.zero
def qak (r:Qo) (t:Q4):Q4:={ t with pos:=r.tail,next:=1 }
def Jm (r:Qo) (t:Q4):Q4 :=
 if 2*t.pos<(r.slot t.pos).seq then { t with next:=0 } else if (r.slot t.pos).seq<2*t.pos then { t with status:=1 } else { t with next:=2 }
def qo (r:Qo) (t:Q4):Qo × Q4 :=
 if r.tail=t.pos then ({ r with tail:=t.pos+1 },{ t with next:=0,status:=2 }) else (r,{ t with next:=0 })
def stepT (r:Qo) (t:Q4):Qo × Q4 :=
 if t.status≠0 then (r,t) else if t.next=0 then (r,qak r t) else if t.next=1 then (r,Jm r t) else qo r t
def Xi (r:Qo) (t:Q4) (v:Qn):Qo × Q4 × Int :=
 if t.status=2∧t.filled=false then ({ r with slots:=r.slots.set (r.at t.pos) ⟨2*t.pos+1,v⟩ },{ t with filled:=true },0) else (r,t,7)
def Qo.ready (r:Qo):Bool:=(r.slot r.head).seq == 2*r.head+1
def J0 (r:Qo):Qo × Qn × Int :=
 if r.ready=true then ({ r with slots:=r.slots.set (r.at r.head) ⟨2*(r.head+r.slots.length),Qn.zero⟩,head:=r.head+1 },(r.slot r.head).v,0) else (r,Qn.zero,6)
structure Yp (r:Qo):Prop where
 n0:1≤r.slots.length
 n1:r.slots.length≤64
 t0:0≤r.tail
 t1:r.tail≤1099511627776
 h0:0≤r.head
 h1:r.head≤1099511627776
structure zg (t:Q4):Prop where
 p0:0≤t.pos
 p1:t.pos≤1099511627776
 nx:t.next=0∨t.next=1∨t.next=2
 st:t.status=0∨t.status=1∨t.status=2
theorem qkk {r:Qo} {t:Q4} (hr:Yp r) (ht:zg t):zg (stepT r t).2:=by
 unfold stepT qak Jm qo;have h1:=hr.t0;have h2:=hr.t1;split
 ·exact ht
 ·split
  ·exact ⟨h1,h2,.inr (.inl rfl),ht.st⟩
  ·split
   ·split
    ·exact ⟨ht.p0,ht.p1,.inl rfl,ht.st⟩
    ·split
     ·exact ⟨ht.p0,ht.p1,ht.nx,.inr (.inl rfl)⟩
     ·exact ⟨ht.p0,ht.p1,.inr (.inr rfl),ht.st⟩
   ·split
    ·exact ⟨ht.p0,ht.p1,.inl rfl,.inr (.inr rfl)⟩
    ·exact ⟨ht.p0,ht.p1,.inl rfl,ht.st⟩
def Qn.cells (t:Qn):Array Value:=#[.int .u64 t.id,.int .i64 t.slot,.int .u64 t.gen,.int .u64 t.dl,.int .u64 t.per]
def Zv (rb:Nat) (t:Q4):Array Value:=#[Qd rb,.int .i64 t.pos,.int .i64 t.next,.int .i64 t.status,.bool t.filled]
def Qv (tb rb:Nat) (t:Q4):List Blk:=[cl tb 343 (Zv rb t)]
structure J6 (sb:Nat) (r:Qo) (C:Array Value):Prop where
 size:C.size=6
 sl:C[0]?=some (.slice (some ⟨sb,0,none⟩) r.slots.length r.slots.length)
 tail:cellAt C 1 (.int .i64 r.tail)
 head:C[5]?=some (.int .i64 r.head)
structure Zd (l:List Jc) (D:Array Value):Prop where
 size:D.size=l.length*9
 at_:∀ i s,l[i]?=some s→qde D i s
theorem Q6.open {rb:Nat} {r:Qo} {g:List Blk} (h:Q6 rb r g):∃ sb C D,g=[cl rb 249 C,cl sb 251 D]∧J6 sb r C∧Zd r.slots D:=by
 obtain ⟨sb,C,D,rfl,h0,h1,h2,h3,h4,h5⟩:=h;exact ⟨sb,C,D,rfl,⟨h0,h1,h2,h3⟩,⟨h4,h5⟩⟩
theorem Q6.mk' {rb sb:Nat} {r:Qo} {C D:Array Value} (h:J6 sb r C) (hd:Zd r.slots D):Q6 rb r [cl rb 249 C,cl sb 251 D] :=
 ⟨sb,C,D,rfl,h.size,h.sl,h.tail,h.head,hd.size,hd.at_⟩
theorem J6.tailR {sb:Nat} {r:Qo} {C C':Array Value} (h:J6 sb r C) {x:Int} (rc:Q5 C 1 (.int .i64 x) C'):J6 sb { r with tail:=x } C' :=
 ⟨rc.size.trans h.size,(rc.other 0 (by omega)).trans h.sl,rc.cell,(rc.other 5 (by omega)).trans h.head⟩
theorem J6.headR {sb:Nat} {r:Qo} {C:Array Value} (h:J6 sb r C) (x:Int):J6 sb { r with head:=x } (C.setIfInBounds 5 (.int .i64 x)):=by
 obtain ⟨hs,hsl,⟨h0,l,t,u,h1,h2,h3⟩,hh⟩:=h;exact ⟨by simpa using hs,(Qb (by omega)).trans hsl,⟨(Qb (by omega)).trans h0,l,t,u,(Qb (by omega)).trans h1,(Qb (by omega)).trans h2,(Qb (by omega)).trans h3⟩,Q1 hh⟩
theorem J6.withSlots {sb:Nat} {r:Qo} {C:Array Value} (h:J6 sb r C) {l:List Jc} (hl:l.length=r.slots.length):J6 sb { r with slots:=l } C :=
 ⟨h.size,by have:=h.sl;simpa [hl] using this,h.tail,h.head⟩
theorem Zd.re {l:List Jc} {D D':Array Value} {k:Nat} {x:Int} {s:Jc} (h:Zd l D) (hk:l[k]?=some s) (rc:Q5 D (k*9) (.int .i64 x) D'):Zd (l.set k { s with seq:=x }) D':=by
 refine ⟨by rw [List.length_set];exact rc.size.trans h.size,fun i s' hs=>?_⟩
 rw [List.getElem?_set] at hs;by_cases e:k=i
 ·subst e
  rw [if_pos rfl,if_pos (List.getElem?_eq_some_iff.1 hk).1] at hs;cases hs
  obtain ⟨_,b0,b1,b2,b3,b4⟩:=h.at_ k s hk;exact ⟨rc.cell,(rc.other _ (by omega)).trans b0,(rc.other _ (by omega)).trans b1,(rc.other _ (by omega)).trans b2,(rc.other _ (by omega)).trans b3,(rc.other _ (by omega)).trans b4⟩
 ·rw [if_neg e] at hs
  obtain ⟨a,b0,b1,b2,b3,b4⟩:=h.at_ i s' hs;exact ⟨rc.cellOther a (by omega),(rc.other _ (by omega)).trans b0,(rc.other _ (by omega)).trans b1,(rc.other _ (by omega)).trans b2,(rc.other _ (by omega)).trans b3,(rc.other _ (by omega)).trans b4⟩
theorem Zd.same {l:List Jc} {D D':Array Value} {k:Nat} {s:Jc} (h:Zd l D) (hk:l[k]?=some s) (rc:Q5 D (k*9) (.int .i64 s.seq) D'):Zd l D':=by
 have:=h.re hk rc;have e:l.set k { s with seq:=s.seq }=l:=qe hk;exact e ▸ this
def Zl (D:Array Value) (o:Nat) (v:Qn):Array Value:=((((D.setIfInBounds o (.int .u64 v.id)).setIfInBounds (o+1) (.int .i64 v.slot)).setIfInBounds (o+2) (.int .u64 v.gen)).setIfInBounds (o+3) (.int .u64 v.dl)).setIfInBounds (o+4) (.int .u64 v.per)
theorem Qr {D:Array Value} {o j:Nat} {v:Qn} (h:j<o∨o+5≤j):(Zl D o v)[j]?=D[j]?:=by
 unfold Zl;rw [Qb (by omega),Qb (by omega),Qb (by omega),Qb (by omega),Qb (by omega)]
theorem qga {D:Array Value} {o:Nat} {u v:Qn} (h:qha D o u):qha (Zl D o v) o v:=by
 obtain ⟨b0,b1,b2,b3,b4⟩:=h;unfold Zl;refine ⟨?_,?_,?_,?_,?_⟩
 ·rw [Qb (by omega),Qb (by omega),Qb (by omega),Qb (by omega)];exact Q1 b0
 ·rw [Qb (by omega),Qb (by omega),Qb (by omega)];exact Q1 (by rw [Qb (by omega)];exact b1)
 ·rw [Qb (by omega),Qb (by omega)];exact Q1 (by rw [Qb (by omega),Qb (by omega)];exact b2)
 ·rw [Qb (by omega)];exact Q1 (by rw [Qb (by omega),Qb (by omega),Qb (by omega)];exact b3)
 ·exact Q1 (by rw [Qb (by omega),Qb (by omega),Qb (by omega),Qb (by omega)];exact b4)
theorem Zd.putV {l:List Jc} {D:Array Value} {k:Nat} {s:Jc} (h:Zd l D) (hk:l[k]?=some s) (v:Qn):Zd (l.set k { s with v:=v }) (Zl D (k*9+4) v):=by
 refine ⟨by rw [List.length_set];unfold Zl;simpa using h.size,fun i s' hs=>?_⟩
 rw [List.getElem?_set] at hs;by_cases e:k=i
 ·subst e
  rw [if_pos rfl,if_pos (List.getElem?_eq_some_iff.1 hk).1] at hs;cases hs
  obtain ⟨⟨a0,l,t,u,a1,a2,a3⟩,b⟩:=h.at_ k s hk;exact ⟨⟨(Qr (by omega)).trans a0,l,t,u,(Qr (by omega)).trans a1,(Qr (by omega)).trans a2,(Qr (by omega)).trans a3⟩,qga b⟩
 ·rw [if_neg e] at hs
  obtain ⟨⟨a0,l,t,u,a1,a2,a3⟩,b0,b1,b2,b3,b4⟩:=h.at_ i s' hs;exact ⟨⟨(Qr (by omega)).trans a0,l,t,u,(Qr (by omega)).trans a1,(Qr (by omega)).trans a2,(Qr (by omega)).trans a3⟩,(Qr (by omega)).trans b0,(Qr (by omega)).trans b1,(Qr (by omega)).trans b2,(Qr (by omega)).trans b3,(Qr (by omega)).trans b4⟩
theorem zc {r:Qo} (h:1≤r.slots.length) (pos:Int):r.slots[r.at pos]?=some (r.slot pos)∧r.at pos<r.slots.length∧((r.at pos:Nat):Int)=pos % (r.slots.length:Int):=by
 have x0:0≤pos % (r.slots.length:Int):=Int.emod_nonneg _ (by omega);have x1:pos % (r.slots.length:Int)<r.slots.length:=Int.emod_lt_of_pos _ (by omega);have hl:r.at pos<r.slots.length:=by unfold Qo.at;omega
 refine ⟨?_,hl,by unfold Qo.at;omega⟩
 unfold Qo.slot;rw [List.getD_eq_getElem?_getD,List.getElem?_eq_getElem hl];rfl
section
variable {rb sb tb:Nat} {r:Qo} {t:Q4} {C D:Array Value} {g:List Blk}
theorem qu (hc:J6 sb r C) (hr:Yp r) (pos:Int) (h0:0≤pos) (h1:pos≤1099511627776):Qi prog 148 #[Qd rb,.int .i64 pos] [[cl rb 249 C]] (.pointer (some ⟨sb,r.at pos*9,none⟩)):=by
 obtain ⟨ha,hal,hav⟩:=zc hr.n0 pos;obtain ⟨k,hk⟩:∃ k,r.at pos=k:=⟨_,rfl⟩;have HK:=Vh hk;rw [hk] at hav hal;refine GO fun w HT=>?_
 have c0:=(HT.out.cell 0 0 rfl 0).trans hc.sl;have hn0:=hr.n0;generalize r.slots.length=n at *;have hz:((n:Int) == 0)=false:=beq_eq_false_iff_ne.2 (by omega);have hm0:0≤pos % (n:Int):=by omega
 have hm1:pos % (n:Int)<n:=by omega
 have hm2:(pos % (n:Int)).toNat=k:=by omega
 clear hc hr hk ha;go_enter func148,ntmps148
 go_wp2
 go_quiet ((fail))
 have HT:=Vh (HT.out.drewN nq);go_wp2
 go_ret
 exact ⟨by rw [HK.out];rfl,_,rfl⟩
theorem qfi (hg:Q6 rb r g):Qa prog 251 #[Qd tb] [Qv tb rb t,g] fun e gs=>e=.returned (.tuple #[])∧∃ g',Q6 rb r g'∧gs=[Qv tb rb (qak r t),g']:=by
 obtain ⟨sb,C,D,rfl,hC,hD⟩:=hg.open;refine GO fun w HT=>?_
 have HC:=Vh hC;have HD:=Vh hD;clear hC hD hg;simp only [Qv] at HT ⊢;have HT:=Vh (HT.out.eq (H':=[[cl tb 343 (Zv rb t)],[cl rb 249 C],[cl sb 251 D]]) rfl);have t0:=HT.out.cell 0 0 rfl 0;simp only [Zv,GE2] at t0;go_enter func251,ntmps251
 go_wp2_with fail
 refine (Qa.use (qb8 (Xf rb 1 _ C r.tail HC.out.tail)) (HT.out) [1] rfl rfl).mono ?_
 rintro e w1 ⟨gs,⟨rfl,C1,hr,rfl⟩,Ta⟩;simp only [PU] at Ta;obtain ⟨t1,t2⟩:=Ce2 (Ta.cell 0 0 rfl) 1 2;obtain ⟨f1,f2⟩:=Ce2 (Ta.free 0 0 rfl) 1 2;have HC1:=Vh (HC.out.tailR hr);clear hr;simp only [Zv,GE3] at t1 t2;have HT:=Vh Ta;clear Ta;go_wp2
 refine bodyPost_end (results_none rfl _ _ _) rfl ⟨_,⟨rfl,_,Q6.mk' HC1.out HD.out,rfl⟩,(((HT.out.set 0 0 rfl 1 _).set 0 0 rfl 2 _).eq rfl)⟩
theorem qdr (hg:Q6 rb r g) (hr:Yp r) (ht:zg t):Qa prog 252 #[Qd tb] [Qv tb rb t,g] fun e gs=>e=.returned (.tuple #[])∧∃ g',Q6 rb r g'∧gs=[Qv tb rb (Jm r t),g']:=by
 obtain ⟨sb,C,D,rfl,hC,hD⟩:=hg.open;obtain ⟨ha,hal,hav⟩:=zc hr.n0 t.pos;refine GO fun w HT=>?_
 have HC:=Vh hC;have HD:=Vh hD;have HA:=Vh (qu (rb:=rb) hC hr t.pos ht.p0 ht.p1);simp only [Qv] at HT ⊢;have HT:=Vh (HT.out.eq (H':=[[cl tb 343 (Zv rb t)],[cl rb 249 C],[cl sb 251 D]]) rfl);have HS:=Vh (hD.at_ _ _ ha).1;have HW:=Vh (show Jm r t=if 2*t.pos<(r.slot t.pos).seq then { t with next:=0 } else if (r.slot t.pos).seq<2*t.pos then { t with status:=1 } else { t with next:=2 } from rfl);have HK:=Vh ha;generalize r.slot t.pos=s at *;generalize r.at t.pos=k at *;have p0:=ht.p0;have p1:=ht.p1;obtain ⟨pos,nx,st,fi⟩:=t;simp only at HA HW p0 p1;obtain ⟨t0,t1⟩:=Ce2 (HT.out.cell 0 0 rfl) 0 1;simp only [Zv,GE3] at t0 t1;clear hC hD hg ha hav ht hr;by_cases h1:2*pos<s.seq
 ·have HW2:=Vh (HW.out.trans (if_pos h1))
  go_enter func252,ntmps252
  go_upto_region 0 with fail
  refine Qc 11 (by kernel_rfl) (by kernel_rfl) ?_
  simp only [TD4]
  repeat (go_big_quiet_step ((first | (go_at_call 148;with_reducible exact Qi.quiet (HA.out) HT.out _ [1] rfl rfl))))
  refine wpQuiet_nil (QE fun nq=>?_)
  have HT:=Vh (HT.out.drewN nq);go_wp2_with fail
  refine (Qa.use (qb8 (Xf sb (k*9) _ D s.seq HS.out)) (HT.out) [2] rfl rfl).mono ?_
  rintro e w1 ⟨gs,⟨rfl,D1,hr,rfl⟩,Ta⟩;simp only [PU] at Ta;obtain ⟨t1,t2⟩:=Ce2 (Ta.cell 0 0 rfl) 1 2;have f2:=Ta.free 0 0 rfl 2;have HD1:=Vh (HD.out.same HK.out hr);simp only [Zv,GE3] at t1 t2;have HT:=Vh Ta;clear Ta hr;go_wp2_with fail
  refine ⟨rfl,?_⟩
  go_wp2
  refine bodyPost_end (results_none rfl _ _ _) rfl ⟨_,⟨rfl,_,Q6.mk' HC.out HD1.out,rfl⟩,((HT.out.set 0 0 rfl 2 _).eq (by rw [HW2.out];rfl))⟩
 ·by_cases h2:s.seq<2*pos
  ·have HW2:=Vh ((HW.out.trans (if_neg h1)).trans (if_pos h2))
   go_enter func252,ntmps252
   go_upto_region 0 with fail
   refine Qc 11 (by kernel_rfl) (by kernel_rfl) ?_
   simp only [TD4]
   repeat (go_big_quiet_step ((first | (go_at_call 148;with_reducible exact Qi.quiet (HA.out) HT.out _ [1] rfl rfl))))
   refine wpQuiet_nil (QE fun nq=>?_)
   have HT:=Vh (HT.out.drewN nq);go_wp2_with fail
   refine (Qa.use (qb8 (Xf sb (k*9) _ D s.seq HS.out)) (HT.out) [2] rfl rfl).mono ?_
   rintro e w1 ⟨gs,⟨rfl,D1,hr,rfl⟩,Ta⟩;simp only [PU] at Ta;obtain ⟨t1,t2⟩:=Ce2 (Ta.cell 0 0 rfl) 1 3;have f2:=Ta.free 0 0 rfl 3;have HD1:=Vh (HD.out.same HK.out hr);simp only [Zv,GE3] at t1 t2;have HT:=Vh Ta;clear Ta hr;go_wp2_with fail
   refine ⟨rfl,?_⟩
   go_wp2
   refine bodyPost_end (results_none rfl _ _ _) rfl ⟨_,⟨rfl,_,Q6.mk' HC.out HD1.out,rfl⟩,((HT.out.set 0 0 rfl 3 _).eq (by rw [HW2.out];rfl))⟩
  ·have HW2:=Vh ((HW.out.trans (if_neg h1)).trans (if_neg h2))
   go_enter func252,ntmps252
   go_upto_region 0 with fail
   refine Qc 11 (by kernel_rfl) (by kernel_rfl) ?_
   simp only [TD4]
   repeat (go_big_quiet_step ((first | (go_at_call 148;with_reducible exact Qi.quiet (HA.out) HT.out _ [1] rfl rfl))))
   refine wpQuiet_nil (QE fun nq=>?_)
   have HT:=Vh (HT.out.drewN nq);go_wp2_with fail
   refine (Qa.use (qb8 (Xf sb (k*9) _ D s.seq HS.out)) (HT.out) [2] rfl rfl).mono ?_
   rintro e w1 ⟨gs,⟨rfl,D1,hr,rfl⟩,Ta⟩;simp only [PU] at Ta;obtain ⟨t1,t2⟩:=Ce2 (Ta.cell 0 0 rfl) 1 2;have f2:=Ta.free 0 0 rfl 2;have HD1:=Vh (HD.out.same HK.out hr);simp only [Zv,GE3] at t1 t2;have HT:=Vh Ta;clear Ta hr;go_wp2_with fail
   refine ⟨rfl,?_⟩
   go_wp2
   refine bodyPost_end (results_none rfl _ _ _) rfl ⟨_,⟨rfl,_,Q6.mk' HC.out HD1.out,rfl⟩,((HT.out.set 0 0 rfl 2 _).eq (by rw [HW2.out];rfl))⟩
theorem qfu (hg:Q6 rb r g) (ht:zg t):Qa prog 253 #[Qd tb] [Qv tb rb t,g] fun e gs=>e=.returned (.tuple #[])∧∃ g',Q6 rb (qo r t).1 g'∧gs=[Qv tb rb (qo r t).2,g']:=by
 obtain ⟨sb,C,D,rfl,hC,hD⟩:=hg.open;refine GO fun w HT=>?_
 have HC:=Vh hC;have HD:=Vh hD;simp only [Qv] at HT ⊢;have HT:=Vh (HT.out.eq (H':=[[cl tb 343 (Zv rb t)],[cl rb 249 C],[cl sb 251 D]]) rfl);have p0:=ht.p0;have p1:=ht.p1;obtain ⟨pos,nx,st,fi⟩:=t;simp only at p0 p1;obtain ⟨t0,t1,t2⟩:=Ce3 (HT.out.cell 0 0 rfl) 0 1 2;have f2:=HT.out.free 0 0 rfl 2;simp only [Zv,GE3] at t0 t1 t2;clear hC hD hg ht;by_cases h1:r.tail=pos
 ·have HW:=Vh (show qo r ⟨pos,nx,st,fi⟩=({ r with tail:=pos+1 },⟨pos,0,2,fi⟩) from if_pos h1)
  have HSW:=Vh (Z0 rb 1 249 C r.tail pos (pos+1) HC.out.tail);have HB:=Vh (show (Value.bool (decide (r.tail=pos)))=.bool true∧(if r.tail=pos then pos+1 else r.tail)=pos+1 from ⟨by rw [decide_eq_true h1],if_pos h1⟩);rw [HB.out.1,HB.out.2] at HSW;clear h1;go_enter func253,ntmps253
  go_wp2_with fail
  have HT:=Vh (HT.out.set 0 0 rfl 2 (.int .i64 0));refine Qc 15 (by kernel_rfl) (by kernel_rfl) ?_
  simp only [TD4]
  repeat (go_big_quiet_step ((fail)))
  refine wpQuiet_nil (QE fun nq=>?_)
  have HT:=Vh (HT.out.drewN nq);go_wp2_with fail
  refine (Qa.use (qb8 HSW.out) (HT.out) [1] rfl rfl).mono ?_
  rintro e w1 ⟨gs,⟨rfl,C1,hr,rfl⟩,Ta⟩;simp only [PU] at Ta;have HC1:=Vh (HC.out.tailR hr);have t3:=Ta.cell 0 0 rfl 3;have f3:=Ta.free 0 0 rfl 3;have HT:=Vh Ta;clear Ta hr;go_wp2_with fail
  refine ⟨rfl,?_⟩
  go_wp2
  refine bodyPost_end (results_none rfl _ _ _) rfl ⟨_,⟨rfl,_,by rw [HW.out];exact Q6.mk' HC1.out HD.out,rfl⟩,((HT.out.set 0 0 rfl 3 _).eq (by rw [HW.out];rfl))⟩
 ·have HW:=Vh (show qo r ⟨pos,nx,st,fi⟩=(r,⟨pos,0,st,fi⟩) from if_neg h1)
  have HSW:=Vh (Z0 rb 1 249 C r.tail pos (pos+1) HC.out.tail);have HB:=Vh (show (Value.bool (decide (r.tail=pos)))=.bool false∧(if r.tail=pos then pos+1 else r.tail)=r.tail from ⟨by rw [decide_eq_false h1],if_neg h1⟩);rw [HB.out.1,HB.out.2] at HSW;clear h1;go_enter func253,ntmps253
  go_wp2_with fail
  have HT:=Vh (HT.out.set 0 0 rfl 2 (.int .i64 0));refine Qc 15 (by kernel_rfl) (by kernel_rfl) ?_
  simp only [TD4]
  repeat (go_big_quiet_step ((fail)))
  refine wpQuiet_nil (QE fun nq=>?_)
  have HT:=Vh (HT.out.drewN nq);go_wp2_with fail
  refine (Qa.use (qb8 HSW.out) (HT.out) [1] rfl rfl).mono ?_
  rintro e w1 ⟨gs,⟨rfl,C1,hr,rfl⟩,Ta⟩;simp only [PU] at Ta;have HC1:=Vh (HC.out.tailR hr);have HT:=Vh Ta;clear Ta hr;go_wp2_with fail
  refine ⟨rfl,?_⟩
  go_wp2
  refine bodyPost_end (results_none rfl _ _ _) rfl ⟨_,⟨rfl,_,by rw [HW.out];exact Q6.mk' HC1.out HD.out,rfl⟩,(HT.out.eq (by rw [HW.out];rfl))⟩
end
def X4 (b rb lb wb:Nat):List Blk:=[cl b 238 #[Qd rb,Qd lb,Qd wb]]
theorem qj (b rb lb wb:Nat):Qa prog 86 #[Qd b] [X4 b rb lb wb] fun e gs=>e=.returned (.agg #[Qd rb,Qd lb,Qd wb])∧gs=[X4 b rb lb wb]:=by
 refine GO fun w HT=>?_
 simp only [X4] at HT ⊢;obtain ⟨c0,c1,c2⟩:=Ce3 (HT.out.cell 0 0 rfl) 0 1 2;have hlt:=HT.out.lt 0 0 rfl;simp only [GE3] at c0 c1 c2 hlt;go_enter func86,ntmps86
 go_wp2
 exact bodyPost_ret (v:=.agg #[Qd rb,Qd lb,Qd wb]) (by simp [results,results86,go_sem]) rfl ⟨_,⟨rfl,rfl⟩,HT.out.alloc0 _⟩
theorem zn (a b c:Value) (w:World):(Instr.field 159 (.agg #[a,b,c]) 0).run prog w=.ok a w∧(Instr.field 159 (.agg #[a,b,c]) 1).run prog w=.ok b w∧(Instr.field 159 (.agg #[a,b,c]) 2).run prog w=.ok c w:=⟨by kernel_rfl,by kernel_rfl,by kernel_rfl⟩
section
variable {rb sb tb:Nat} {r:Qo} {t:Q4} {C D:Array Value} {g:List Blk}
theorem qd3 (rb:Nat):Qa prog 217 #[Qd rb] [] fun e gs=>∃ tb,e=.returned (Qd tb)∧gs=[Qv tb rb Qx]:=by
 refine GO fun w HT=>?_
 go_enter func217,ntmps217
 go_wp2
 go_ret
 exact ⟨_,⟨_,rfl,rfl⟩,HT.out.alloc rfl _ _⟩
theorem qfj (hg:Q6 rb r g) (hr:Yp r) (ht:zg t):Qa prog 218 #[Qd tb] [Qv tb rb t,g] fun e gs =>
 e=.returned (.int .i64 (stepT r t).2.status)∧∃ g',Q6 rb (stepT r t).1 g'∧gs=[Qv tb rb (stepT r t).2,g']:=by
 refine GO fun w HT=>?_
 have HL:=Vh (qfi (tb:=tb) (t:=t) hg);have HWE:=Vh (qdr (tb:=tb) (t:=t) hg hr ht);have HTK:=Vh (qfu (tb:=tb) (t:=t) hg ht);have HG:=Vh hg;have hst:t.status=0∨t.status≠0:=by omega
 have hnx:=ht.nx;have HW0:=Vh (show t.status≠0→stepT r t=(r,t) from fun h=>if_pos h);have HW1:=Vh (show t.status=0→t.next=0→stepT r t=(r,qak r t) from fun h h1=>(if_neg (by omega)).trans (if_pos h1));have HW2:=Vh (show t.status=0→t.next=1→stepT r t=(r,Jm r t) from fun h h1=>(if_neg (by omega)).trans ((if_neg (by omega)).trans (if_pos h1)));have HW3:=Vh (show t.status=0→t.next=2→stepT r t=qo r t from fun h h1=>(if_neg (by omega)).trans ((if_neg (by omega)).trans (if_neg (by omega))));obtain ⟨t2,t3⟩:=Ce2 (HT.out.cell 0 0 rfl) 2 3;simp only [Zv,GE3] at t2 t3;have lt:=HT.out.lt 0 0 rfl;simp only [] at lt;clear hg hr ht;rcases hst with hst | hst
 ·rcases hnx with hnx | hnx | hnx
  ·have HS:=Vh (HW1.out hst hnx)
   rw [hst] at t3;rw [hnx] at t2;clear hst hnx;go_enter func218,ntmps218
   go_wp2_with fail
   refine (Qa.use (HL.out) (HT.out.put rfl _) [0,1] rfl rfl).mono ?_
   rintro e w1 ⟨gs,⟨rfl,g',hg',rfl⟩,Ta⟩;simp only [PU] at Ta;have t3:=Ta.cell 0 0 rfl 3;simp only [Zv,GE3] at t3;have HT:=Vh Ta;clear Ta;go_wp2
   go_ret
   exact ⟨_,⟨by rw [HS.out];rfl,g',by rw [HS.out];exact hg',rfl⟩,(HT.out.pick [0,1] rfl).eq (by rw [HS.out];rfl)⟩
  ·have HS:=Vh (HW2.out hst hnx)
   rw [hst] at t3;rw [hnx] at t2;clear hst hnx;go_enter func218,ntmps218
   go_wp2_with fail
   refine (Qa.use (HWE.out) (HT.out.put rfl _) [0,1] rfl rfl).mono ?_
   rintro e w1 ⟨gs,⟨rfl,g',hg',rfl⟩,Ta⟩;simp only [PU] at Ta;have t3:=Ta.cell 0 0 rfl 3;simp only [Zv,GE3] at t3;have HT:=Vh Ta;clear Ta;go_wp2
   go_ret
   exact ⟨_,⟨by rw [HS.out];rfl,g',by rw [HS.out];exact hg',rfl⟩,(HT.out.pick [0,1] rfl).eq (by rw [HS.out];rfl)⟩
  ·have HS:=Vh (HW3.out hst hnx)
   rw [hst] at t3;rw [hnx] at t2;clear hst hnx;go_enter func218,ntmps218
   go_wp2_with fail
   refine (Qa.use (HTK.out) (HT.out.put rfl _) [0,1] rfl rfl).mono ?_
   rintro e w1 ⟨gs,⟨rfl,g',hg',rfl⟩,Ta⟩;simp only [PU] at Ta;have t3:=Ta.cell 0 0 rfl 3;simp only [Zv,GE3] at t3;have HT:=Vh Ta;clear Ta;go_wp2
   go_ret
   exact ⟨_,⟨by rw [HS.out];rfl,g',by rw [HS.out];exact hg',rfl⟩,(HT.out.pick [0,1] rfl).eq (by rw [HS.out];rfl)⟩
 ·have HS:=Vh (HW0.out hst)
  have hb:(t.status == 0)=false:=beq_eq_false_iff_ne.2 hst;clear hst hnx;go_enter func218,ntmps218
  go_wp2
  go_ret
  exact ⟨_,⟨by rw [HS.out];rfl,g,by rw [HS.out];exact HG.out,rfl⟩,((HT.out.put rfl _).pick [0,1] rfl).eq (by rw [HS.out];rfl)⟩
theorem qe5 (b o:Nat) (T:TypeId) (C:Array Value) (y x:Int) (hc:cellAt C o (.int .i64 y)) :
 Qa prog 149 #[.pointer (some ⟨b,o,none⟩),.int .i64 x] [[cl b T C]] fun e gs=>e=.returned (.tuple #[])∧gs=[[cl b T (C.setIfInBounds o (.int .i64 x))]]:=qfg b o T C _ x hc.1
theorem Zd.fill {l:List Jc} {D:Array Value} {k:Nat} {s:Jc} (h:Zd l D) (hk:l[k]?=some s) (v:Qn) (n:Int):Zd (l.set k ⟨n,v⟩) ((Zl D (k*9+4) v).setIfInBounds (k*9) (.int .i64 n)):=by
 have h1:=h.putV hk v;have hk1:(l.set k { s with v:=v })[k]?=some { s with v:=v }:=by rw [List.getElem?_set,if_pos rfl,if_pos (List.getElem?_eq_some_iff.1 hk).1]
 obtain ⟨⟨a0,l0,t0,u0,a1,a2,a3⟩,b⟩:=h1.at_ k _ hk1;refine ⟨?_,fun i s' hs=>?_⟩
 ·rw [Array.size_setIfInBounds,h1.size];simp
 ·rw [List.getElem?_set] at hs
  by_cases e:k=i
  ·subst e
   rw [if_pos rfl,if_pos (List.getElem?_eq_some_iff.1 hk).1] at hs;cases hs
   obtain ⟨b0,b1,b2,b3,b4⟩:=b;exact ⟨⟨Q1 a0,l0,t0,u0,(Qb (by omega)).trans a1,(Qb (by omega)).trans a2,(Qb (by omega)).trans a3⟩,(Qb (by omega)).trans b0,(Qb (by omega)).trans b1,(Qb (by omega)).trans b2,(Qb (by omega)).trans b3,(Qb (by omega)).trans b4⟩
  ·rw [if_neg e] at hs
   have hs1:(l.set k { s with v:=v })[i]?=some s':=by rw [List.getElem?_set,if_neg e];exact hs
   obtain ⟨⟨a0,l0,t0,u0,a1,a2,a3⟩,b0,b1,b2,b3,b4⟩:=h1.at_ i s' hs1;exact ⟨⟨(Qb (by omega)).trans a0,l0,t0,u0,(Qb (by omega)).trans a1,(Qb (by omega)).trans a2,(Qb (by omega)).trans a3⟩,(Qb (by omega)).trans b0,(Qb (by omega)).trans b1,(Qb (by omega)).trans b2,(Qb (by omega)).trans b3,(Qb (by omega)).trans b4⟩
theorem qcl (v:Qn) (hg:Q6 rb r g) (hr:Yp r) (ht:zg t) (hh:t.status=2∧t.filled=false):Qa prog 256 #[Qd tb,.agg v.cells] [Qv tb rb t,g] fun e gs =>
 e=.returned (.int .i64 0)∧∃ g',Q6 rb { r with slots:=r.slots.set (r.at t.pos) ⟨2*t.pos+1,v⟩ } g'∧gs=[Qv tb rb { t with filled:=true },g']:=by
 obtain ⟨sb,C,D,rfl,hC,hD⟩:=hg.open;obtain ⟨ha,hal,hav⟩:=zc hr.n0 t.pos;refine GO fun w HT=>?_
 have HC:=Vh hC;have HD:=Vh hD;have HA:=Vh (qu (rb:=rb) hC hr t.pos ht.p0 ht.p1);simp only [Qv] at HT ⊢;have HT:=Vh (HT.out.eq (H':=[[cl tb 343 (Zv rb t)],[cl rb 249 C],[cl sb 251 D]]) rfl);have HV:=Vh (hD.fill ha v (2*t.pos+1));have HCS:=Vh (hC.withSlots (l:=r.slots.set (r.at t.pos) ⟨2*t.pos+1,v⟩) (List.length_set ..));have hcell:=(hD.at_ _ _ ha).1;generalize r.slot t.pos=s at *;generalize r.at t.pos=k at *;have p0:=ht.p0;have p1:=ht.p1;obtain ⟨e0,e1,e2,e3,e4⟩:=(hD.at_ _ _ ha).2;obtain ⟨pos,nx,st,fi⟩:=t;simp only at HA HV HCS p0 p1 hh;obtain ⟨rfl,rfl⟩:=hh
 have HP:=Vh (show cellAt (Zl D (k*9+4) v) (k*9) (.int .i64 s.seq) from by
  obtain ⟨a0,l0,t0,u0,a1,a2,a3⟩:=hcell
  exact ⟨(Qr (by omega)).trans a0,l0,t0,u0,(Qr (by omega)).trans a1,(Qr (by omega)).trans a2,(Qr (by omega)).trans a3⟩)
 have HE:=Vh (And.intro e0 (And.intro e1 (And.intro e2 (And.intro e3 e4))));have lt:=HT.out.lt 0 0 rfl;simp only [] at lt;obtain ⟨t0,t1,t3,t4⟩:=Ce4 (HT.out.cell 0 0 rfl) 0 1 3 4;have f4:=HT.out.free 0 0 rfl 4;simp only [Zv,GE3] at t0 t1 t3 t4;clear hC hD hg ha hav ht hr hal e0 e1 e2 e3 e4 hcell;simp only [Qn.cells];go_enter func256,ntmps256
 go_wp2
 have HT:=Vh ((HT.out.set 0 0 rfl 4 (.bool true)).alloc (k:=w.heap.size) (by simp) 40 #[.int .u64 v.id,.int .i64 v.slot,.int .u64 v.gen,.int .u64 v.dl,.int .u64 v.per]);clear t0 t1 t3 t4 f4 lt;generalize World.alloc _ _=w1 at HT ⊢;simp only [List.set_cons_zero,List.cons_append,List.nil_append] at HT;obtain ⟨t0,t1⟩:=Ce2 (HT.out.cell 0 0 rfl) 0 1;obtain ⟨b0,b1,b2,b3,b4⟩:=Ce5 (HT.out.cell 3 0 rfl) 0 1 2 3 4;simp only [Zv,GE3] at t0 t1 b0 b1 b2 b3 b4;have d0:=(HT.out.cell 2 0 rfl (k*9+4)).trans HE.out.1;have d1:=(HT.out.cell 2 0 rfl (k*9+4+1)).trans HE.out.2.1;have d2:=(HT.out.cell 2 0 rfl (k*9+4+2)).trans HE.out.2.2.1;have d3:=(HT.out.cell 2 0 rfl (k*9+4+3)).trans HE.out.2.2.2.1;have d4:=(HT.out.cell 2 0 rfl (k*9+4+4)).trans HE.out.2.2.2.2;have g0:=HT.out.free 2 0 rfl (k*9+4);have g1:=HT.out.free 2 0 rfl (k*9+4+1);have g2:=HT.out.free 2 0 rfl (k*9+4+2);have g3:=HT.out.free 2 0 rfl (k*9+4+3);have g4:=HT.out.free 2 0 rfl (k*9+4+4);have n1:=HT.out.ne 0 0 2 0 (by decide) rfl rfl;simp only [] at n1;go_quiet ((first | (go_at_call 148;with_reducible exact Qi.quiet (HA.out) HT.out _ [1] rfl rfl)))
 have HT:=Vh (HT.out.drewN nq);go_wp2
 have HT:=Vh ((((((HT.out.set 2 0 rfl (k*9+4) (.int .u64 v.id)).set 2 0 rfl (k*9+4+1) (.int .i64 v.slot)).set 2 0 rfl (k*9+4+2) (.int .u64 v.gen)).set 2 0 rfl (k*9+4+3) (.int .u64 v.dl)).set 2 0 rfl (k*9+4+4) (.int .u64 v.per)).eq (H':=[[cl tb 343 (Zv rb ⟨pos,nx,2,true⟩)],[cl rb 249 C],[cl sb 251 (Zl D (k*9+4) v)],[cl w.heap.size 40 #[.int .u64 v.id,.int .i64 v.slot,.int .u64 v.gen,.int .u64 v.dl,.int .u64 v.per]]]) rfl);clear t0 t1 b0 b1 b2 b3 b4 d0 d1 d2 d3 d4 g0 g1 g2 g3 g4 n1;generalize World.setCell _ _ _=w2 at HT ⊢;have t1:=HT.out.cell 0 0 rfl 1;simp only [Zv,GE3] at t1;refine Qc 9 (by kernel_rfl) (by kernel_rfl) ?_
 simp only [TD4]
 repeat (go_big_quiet_step ((fail)))
 refine wpQuiet_nil (QE fun nq=>?_)
 have HT:=Vh (HT.out.drewN nq);go_wp2_with fail
 refine Qa.run (qe5 _ _ _ _ _ _ HP.out) (HT.out) [2] ?_
 rintro e w1 gs ⟨rfl,rfl⟩ HT;simp only [PU] at HT;go_wp2_with fail
 refine ⟨rfl,?_⟩
 go_wp2
 go_ret
 exact ⟨_,⟨rfl,_,Q6.mk' HCS.out HV.out,rfl⟩,(HT.out.pick [0,1,2] rfl).eq rfl⟩
theorem qdi (v:Qn) (hh:¬ (t.status=2∧t.filled=false)):Qa prog 256 #[Qd tb,.agg v.cells] [Qv tb rb t] fun e gs=>e=.returned (.int .i64 7)∧gs=[Qv tb rb t]:=by
 refine GO fun w HT=>?_
 have lt:=HT.out.lt 0 0 rfl;simp only [] at lt;obtain ⟨t3,t4⟩:=Ce2 (HT.out.cell 0 0 rfl) 3 4;simp only [Zv,GE3] at t3 t4;simp only [Qn.cells];by_cases h:t.status=2
 ·have hf:t.filled=true:=by
   cases hf:t.filled
   ·exact absurd ⟨h,hf⟩ hh
   ·rfl
  rw [h] at t3;rw [hf] at t4;clear h hf hh;go_enter func256,ntmps256
  go_wp2
  go_ret
  exact ⟨_,⟨rfl,rfl⟩,HT.out.alloc0 _⟩
 ·have hb:(t.status != 2)=true:=bne_iff_ne.2 h
  have hb':(t.status == 2)=false:=beq_eq_false_iff_ne.2 h;clear h hh;go_enter func256,ntmps256
  go_wp2
  go_ret
  exact ⟨_,⟨rfl,rfl⟩,HT.out.alloc0 _⟩
theorem qfs (v:Qn) (hg:Q6 rb r g) (hr:Yp r) (ht:zg t):Qa prog 256 #[Qd tb,.agg v.cells] [Qv tb rb t,g] fun e gs =>
 e=.returned (.int .i64 (Xi r t v).2.2)∧∃ g',Q6 rb (Xi r t v).1 g'∧gs=[Qv tb rb (Xi r t v).2.1,g']:=by
 by_cases hh:t.status=2∧t.filled=false
 ·have e:Xi r t v=({ r with slots:=r.slots.set (r.at t.pos) ⟨2*t.pos+1,v⟩ },{ t with filled:=true },0):=if_pos hh
  rw [e];exact qcl v hg hr ht hh
 ·have e:Xi r t v=(r,t,7):=if_neg hh
  rw [e];intro w hw;refine (Qa.use (qdi v hh) (TG.refl hw) [0] rfl rfl).mono ?_
  rintro e w' ⟨gs,⟨he,rfl⟩,T⟩;exact ⟨_,⟨he,g,hg,rfl⟩,T⟩
end
section
variable {rb sb:Nat} {r:Qo} {C D:Array Value} {g:List Blk}
theorem qdv (hg:Q6 rb r g) (hr:Yp r):Qa prog 147 #[Qd rb] [g] fun e gs=>e=.returned (.bool r.ready)∧∃ g',Q6 rb r g'∧gs=[g']:=by
 obtain ⟨sb,C,D,rfl,hC,hD⟩:=hg.open;obtain ⟨ha,hal,hav⟩:=zc hr.n0 r.head;refine GO fun w HT=>?_
 have HT:=Vh (HT.out.eq (H':=[[cl rb 249 C],[cl sb 251 D]]) rfl);have HA:=Vh (show ∀ C',J6 sb r C'→_ from fun C' hC'=>(qu (rb:=rb) hC' hr r.head hr.h0 hr.h1).does);have HS:=Vh (show ∀ D',Zd r.slots D'→cellAt D' (r.at r.head*9) (.int .i64 (r.slot r.head).seq) from fun D' h=>(h.at_ _ _ ha).1);have HK:=Vh ha;have h0:=hr.h0;have h1:=hr.h1;have HR:=Vh (show r.ready=((r.slot r.head).seq == 2*r.head+1) from rfl);have HC:=Vh hC;have HD:=Vh hD;clear hg hr hC hD ha hal hav;go_enter func147,ntmps147
 go_wp2_with fail
 obtain ⟨ι,W,hW0,hend,hin⟩:∃ (ι:Type) (W:ι→World),(∃ i,World.drew _=W i)∧(∀ i,∃ Cx Dx,(J6 sb r Cx∧Zd r.slots Dx)∧TG [[cl rb 249 C,cl sb 251 D]] w [[cl rb 249 Cx],[cl sb 251 Dx]] (W i))∧(∀ w',(∃ Cx Dx,(J6 sb r Cx∧Zd r.slots Dx)∧TG [[cl rb 249 C,cl sb 251 D]] w [[cl rb 249 Cx],[cl sb 251 Dx]] w')→∃ i,w'=W i):=⟨{w' // ∃ Cx Dx,(J6 sb r Cx∧Zd r.slots Dx)∧TG [[cl rb 249 C,cl sb 251 D]] w [[cl rb 249 Cx],[cl sb 251 Dx]] w'},Subtype.val,⟨⟨_,C,D,⟨HC.out,HD.out⟩,HT.out.drew⟩,rfl⟩,fun i=>i.2,fun w' h=>⟨⟨w',h⟩,rfl⟩⟩;have hne:Nonempty ι:=hW0.elim fun i _=>⟨i⟩
 have q5:∀ i,(W i).cell? ⟨rb,5,none⟩=some (.int .i64 r.head):=fun i=>by obtain ⟨_,_,h,T⟩:=hend i;exact (T.cell 0 0 rfl 5).trans h.1.head
 have m1:∀ i,Calls prog 148 #[Qd rb,.int .i64 r.head] (W i) fun e w2=>e=.returned (.pointer (some ⟨sb,r.at r.head*9,none⟩))∧∃ j,w2=W j:=fun i=>by
  obtain ⟨Cx,Dx,h,T⟩:=hend i;refine (Qa.use (HA.out _ h.1) T [0] rfl rfl).mono ?_
  rintro e w2 ⟨gs,⟨rfl,rfl⟩,T2⟩;exact ⟨rfl,hin _ ⟨Cx,Dx,h,T2⟩⟩
 have m2:∀ i,Calls prog 88 #[.pointer (some ⟨sb,r.at r.head*9,none⟩)] (W i) fun e w2=>e=.returned (.int .i64 (r.slot r.head).seq)∧∃ j,w2=W j:=fun i=>by
  obtain ⟨Cx,Dx,h,T⟩:=hend i;refine (Qa.use (qb8 (Xf sb (r.at r.head*9) _ Dx _ (HS.out _ h.2))) T [1] rfl rfl).mono ?_
  rintro e w2 ⟨gs,⟨rfl,D1,hr1,rfl⟩,T2⟩;exact ⟨rfl,hin _ ⟨Cx,D1,⟨h.1,h.2.same HK.out hr1⟩,T2⟩⟩
 refine qbx W (by kernel_rfl) (by kernel_rfl) hW0 ?_
 repeat (go_big_quiet_step ((first | (go_at_call 148;with_reducible exact m1 _) | (go_at_call 88;with_reducible exact m2 _))))
 refine wpQuiet_nil ?_
 intro _ hw;obtain ⟨iq,hw2⟩:=hw;subst hw2;obtain ⟨Cx,Dx,h,T⟩:=hend iq;have HT:=Vh T;generalize W iq=w1 at HT ⊢;clear T hend hin hW0 hne;have HH:=Vh h;clear h;go_wp2
 go_ret
 exact ⟨_,⟨by rw [HR.out];rfl,_,Q6.mk' HH.out.1 HH.out.2,rfl⟩,HT.out.eq rfl⟩
theorem qic (hg:Q6 rb r g) (hr:Yp r):Qa prog 87 #[Qd rb] [g] fun e gs=>e=.returned (.tuple #[.agg (J0 r).2.1.cells,.int .i64 (J0 r).2.2])∧∃ g',Q6 rb (J0 r).1 g'∧gs=[g']:=by
 have hrd:=qdv hg hr;cases hb:r.ready with
 | false =>
   have HE:=Vh (show J0 r=(r,Qn.zero,6) from if_neg (by rw [hb];decide));rw [hb] at hrd;refine GO fun w HT=>?_
   have HR:=Vh hrd;clear hg hr hrd hb;go_enter func87,ntmps87
   go_wp2_with fail
   have HT:=Vh ((HT.out.alloc (k:=w.heap.size) rfl 40 Qn.zero.cells).alloc (k:=w.heap.size+1) (by simp) 40 Qn.zero.cells);go_wp2_with fail
   refine (Qa.use (HR.out) (HT.out) [0] rfl rfl).mono ?_
   rintro e w1 ⟨gs,⟨rfl,g1,hg1,rfl⟩,Ta⟩;simp only [PU] at Ta;have HG:=Vh hg1;clear hg1;have HT:=Vh Ta;clear Ta;obtain ⟨a0,a1,a2,a3,a4⟩:=Ce5 (HT.out.cell 1 0 rfl) 0 1 2 3 4;obtain ⟨fa0,fa1,fa2,fa3,fa4⟩:=Ce5 (HT.out.free 1 0 rfl) 0 1 2 3 4;simp only [Qn.cells,Qn.zero,GE3] at a0 a1 a2 a3 a4;obtain ⟨b0,b1,b2,b3,b4⟩:=Ce5 (HT.out.cell 2 0 rfl) 0 1 2 3 4;obtain ⟨fb0,fb1,fb2,fb3,fb4⟩:=Ce5 (HT.out.free 2 0 rfl) 0 1 2 3 4;simp only [Qn.cells,Qn.zero,GE3] at b0 b1 b2 b3 b4;go_wp2
   exact bodyPost_ret (v:=.tuple #[.agg Qn.zero.cells,.int .i64 6]) (by simp [results,results87,go_sem,a0,a1,a2,a3,a4,Qn.cells,Qn.zero]) rfl ⟨_,⟨by rw [HE.out],g1,by rw [HE.out];exact HG.out,rfl⟩,((((((HT.out.set 1 0 rfl 0 _).set 1 0 rfl 1 _).set 1 0 rfl 2 _).set 1 0 rfl 3 _).set 1 0 rfl 4 _).pick [0] rfl)⟩
 | true =>
   have HE:=Vh (show J0 r=({ r with slots:=r.slots.set (r.at r.head) ⟨2*(r.head+r.slots.length),Qn.zero⟩,head:=r.head+1 },(r.slot r.head).v,0) from if_pos hb);rw [hb] at hrd;refine GO fun w HT=>?_
   have HR:=Vh hrd;have HRB:=Vh hr;clear hg hr hrd hb;go_enter func87,ntmps87
   go_wp2_with fail
   have HT:=Vh ((HT.out.alloc (k:=w.heap.size) rfl 40 Qn.zero.cells).alloc (k:=w.heap.size+1) (by simp) 40 Qn.zero.cells);go_wp2_with fail
   refine Qa.run (HR.out) (HT.out) [0] ?_
   rintro e w1 gs ⟨rfl,g1,hg1,rfl⟩ HT;simp only [PU] at HT;obtain ⟨sb,C,D,rfl,hC,hD⟩:=hg1.open;have HT:=Vh (HT.out.sum (H':=[[cl rb 249 C],[cl sb 251 D],[cl w.heap.size 40 Qn.zero.cells],[cl (w.heap.size+1) 40 Qn.zero.cells]]));obtain ⟨ha,hal,hav⟩:=zc HRB.out.n0 r.head;have h0:=HRB.out.h0;have h1:=HRB.out.h1;have hn0:=HRB.out.n0;have hn1:=HRB.out.n1;have HC:=Vh hC;have HD:=Vh hD;have HA:=Vh (qu (rb:=rb) hC HRB.out r.head h0 h1);have HV:=Vh (hD.fill ha Qn.zero (2*(r.head+r.slots.length)));have HCS:=Vh ((hC.withSlots (l:=r.slots.set (r.at r.head) ⟨2*(r.head+r.slots.length),Qn.zero⟩) (List.length_set ..)).headR (r.head+1));have hcell:=(hD.at_ _ _ ha).1;obtain ⟨e0,e1,e2,e3,e4⟩:=(hD.at_ _ _ ha).2;generalize r.slot r.head=s at *;generalize r.at r.head=k at *
   have HP:=Vh (show cellAt (Zl D (k*9+4) Qn.zero) (k*9) (.int .i64 s.seq) from by
    obtain ⟨a0,l0,t0,u0,a1,a2,a3⟩:=hcell
    exact ⟨(Qr (by omega)).trans a0,l0,t0,u0,(Qr (by omega)).trans a1,(Qr (by omega)).trans a2,(Qr (by omega)).trans a3⟩)
   have HEE:=Vh (And.intro e0 (And.intro e1 (And.intro e2 (And.intro e3 e4))));have c5:=(HT.out.cell 0 0 rfl 5).trans hC.head;clear hg1 hC hD ha hal hav e0 e1 e2 e3 e4 hcell;go_wp2_with fail
   refine (Qi.use (HA.out) (HT.out) [0] rfl rfl).mono ?_
   rintro e w1 ⟨rfl,mq,rfl⟩;have HT:=Vh (HT.out.drewN mq);generalize World.drewN _ _=wq at HT ⊢;clear c5;obtain ⟨z0,z1,z2,z3,z4⟩:=Ce5 (HT.out.cell 3 0 rfl) 0 1 2 3 4;simp only [Qn.cells,Qn.zero,GE3] at z0 z1 z2 z3 z4;have d0:=(HT.out.cell 1 0 rfl (k*9+4)).trans HEE.out.1;have d1:=(HT.out.cell 1 0 rfl (k*9+4+1)).trans HEE.out.2.1;have d2:=(HT.out.cell 1 0 rfl (k*9+4+2)).trans HEE.out.2.2.1;have d3:=(HT.out.cell 1 0 rfl (k*9+4+3)).trans HEE.out.2.2.2.1;have d4:=(HT.out.cell 1 0 rfl (k*9+4+4)).trans HEE.out.2.2.2.2;have g0:=HT.out.free 1 0 rfl (k*9+4);have g1:=HT.out.free 1 0 rfl (k*9+4+1);have g2:=HT.out.free 1 0 rfl (k*9+4+2);have g3:=HT.out.free 1 0 rfl (k*9+4+3);have g4:=HT.out.free 1 0 rfl (k*9+4+4);have lt1:=HT.out.lt 1 0 rfl;have lt3:=HT.out.lt 3 0 rfl;simp only [] at lt1 lt3;go_wp2
   have HT:=Vh (((((((HT.out.set 1 0 rfl (k*9+4) (.int .u64 0)).set 1 0 rfl (k*9+4+1) (.int .i64 0)).set 1 0 rfl (k*9+4+2) (.int .u64 0)).set 1 0 rfl (k*9+4+3) (.int .u64 0)).set 1 0 rfl (k*9+4+4) (.int .u64 0)).alloc (k:=wq.heap.size) (by simp) 40 s.v.cells).eq (H':=[[cl rb 249 C],[cl sb 251 (Zl D (k*9+4) Qn.zero)],[cl w.heap.size 40 Qn.zero.cells],[cl (w.heap.size+1) 40 Qn.zero.cells],[cl wq.heap.size 40 s.v.cells]]) rfl);simp only [Qn.cells] at HT;clear z0 z1 z2 z3 z4 d0 d1 d2 d3 d4 g0 g1 g2 g3 g4 lt1 lt3;generalize World.alloc _ _=w2 at HT ⊢;have c5:=(HT.out.cell 0 0 rfl 5).trans HC.out.head;have c0:=(HT.out.cell 0 0 rfl 0).trans HC.out.sl;refine Qc 14 (by kernel_rfl) (by kernel_rfl) ?_
   simp only [TD4]
   repeat (go_big_quiet_step ((fail)))
   refine wpQuiet_nil (QE fun nq=>?_)
   have HT:=Vh (HT.out.drewN nq);go_wp2_with fail
   refine Qa.run (qe5 _ _ _ _ _ _ HP.out) (HT.out) [1] ?_
   rintro e w1 gs ⟨rfl,rfl⟩ HT;simp only [PU] at HT;go_wp2_with fail
   refine ⟨rfl,?_⟩
   have HT:=Vh (HT.out.eq (H':=[[cl rb 249 C],[cl sb 251 ((Zl D (k*9+4) Qn.zero).setIfInBounds (k*9) (.int .i64 (2*(r.head+r.slots.length))))],[cl w.heap.size 40 Qn.zero.cells],[cl (w.heap.size+1) 40 Qn.zero.cells],[cl wq.heap.size 40 s.v.cells]]) rfl);clear c5 c0;have c5:=(HT.out.cell 0 0 rfl 5).trans HC.out.head;have f5:=HT.out.free 0 0 rfl 5;obtain ⟨a0,a1,a2,a3,a4⟩:=Ce5 (HT.out.cell 2 0 rfl) 0 1 2 3 4;obtain ⟨fa0,fa1,fa2,fa3,fa4⟩:=Ce5 (HT.out.free 2 0 rfl) 0 1 2 3 4;simp only [Qn.cells,Qn.zero,GE3] at a0 a1 a2 a3 a4;obtain ⟨b0,b1,b2,b3,b4⟩:=Ce5 (HT.out.cell 4 0 rfl) 0 1 2 3 4;simp only [Qn.cells,GE3] at b0 b1 b2 b3 b4;have n1:=HT.out.ne 0 0 2 0 (by decide) rfl rfl;have n2:=HT.out.ne 0 0 4 0 (by decide) rfl rfl;have n3:=HT.out.ne 2 0 4 0 (by decide) rfl rfl;simp only [] at n1 n2 n3;go_wp2
   exact bodyPost_ret (v:=.tuple #[.agg s.v.cells,.int .i64 0]) (by simp [results,results87,go_sem,a0,a1,a2,a3,a4,Qn.cells,n1]) rfl ⟨_,⟨by rw [HE.out],_,by rw [HE.out];exact Q6.mk' HCS.out HV.out,rfl⟩,(((((((HT.out.set 0 0 rfl 5 _).set 2 0 rfl 0 _).set 2 0 rfl 1 _).set 2 0 rfl 2 _).set 2 0 rfl 3 _).set 2 0 rfl 4 _).pick [0,1] rfl).eq rfl⟩
end
end
end Go.Proofs.YtcneeepdclgdcaaGreat
