import Derived.Test.YtcneeepdclgdcaaGreatCO29
import Derived.Test.YtcneeepdclgdcaaGreatCO23
set_option maxRecDepth 100000
set_option maxHeartbeats 4000000
namespace Go.Proofs.YtcneeepdclgdcaaGreat
set_option linter.unusedVariables false
set_option linter.unusedSimpArgs false
open Go.Proofs.Tryz
section
open Go.RowKit Go.Shelf
theorem qe9 {x:Qk} {i:Nat} {a:Qy} (h:x.shs[i]?=some a):Xy x i=a.ring.tail:=by
 unfold Xy;rw [List.getD_eq_getElem?_getD,h];rfl
section
variable {N:Nat} {k:Ql} {x:Qk} {M:Int}
theorem qkr {q:Req} (h:k.rq=some q) (hn:q.next=0):Xp (.at none .asks) k x=315:=by
 show qbc k x=_
 unfold qbc;rw [h];simp only [hn];rfl
theorem ql6 {q:Req} (h:k.rq=some q) (hn:q.next=1):Xp (.at none .asks) k x=314+(if x.slab.count=q.saw then 0 else 2):=by
 show qbc k x=_
 unfold qbc;rw [h];simp only [hn];rfl
theorem qkb {q:Req} (h:k.rq=some q) (hn:q.next=2):Xp (.at none .asks) k x=293+Zn x.slab.recs x.slab.recs.length q.slot.toNat:=by
 show qbc k x=_
 unfold qbc;rw [h];simp only [hn];rfl
theorem qj2 {i:Nat} {t:Q4} (h:k.tk=some (i,t)) (hn:t.next=0):Xp (.at none .queues) k x=244:=by
 show qdn k x=_
 unfold qdn;rw [h];simp only [hn];rfl
theorem qh6 (hc:Xo N x) (hk:Xk N k x) (hf:qgp (.at none .asks) k) (hn:x.slab.recs.length≤12) (hg:Y3 M x.slab.recs) (hM:M<4294967295) (hfr:1≤Xw (.at none .asks) k→∃ r∈x.slab.recs,Xz r=false):Qz (.at none .asks) k x (Xq .asks (k,x)):=by
 have hs:=hc.slab;obtain ⟨q,hq⟩:=Option.isSome_iff_exists.1 hf.1;have hst:=hf.2 q hq;have hqo:=hk.rq q hq;have e:Xq .asks (k,x)=Zp (k,x) q:=by show (match k.rq with | none=>_ | some q=>_)=_;rw [hq]
 have hp:Xw (.at none .asks) k=if q.next=2 then 1 else 0:=by show qfz k.rq=_;rw [hq];rfl
 rw [e];by_cases hn0:q.next=0
 ·have er:Q3 x.slab q=(x.slab,Yu x.slab q):=by unfold Q3;rw [if_neg (by omega),if_pos hn0]
  have hcost:=qkr (x:=x) hq hn0;unfold Zp;simp only [er];unfold Yu;split
  ·exact Qz.calm rfl rfl (by rw [hcost];show (2:Int)+1≤315;decide)
  ·simp only [hst,if_neg (show ¬ (0:Int)=1 by decide),if_neg (show ¬ (0:Int)=2 by decide)]
   refine Qz.calm rfl rfl ?_
   rw [hcost];rw [ql6 (q:={ q with saw:=x.slab.count,next:=1,st:=0 }) rfl rfl,if_pos rfl];decide
 ·by_cases hn1:q.next=1
  ·have er:Q3 x.slab q=Jn x.slab q:=by unfold Q3;rw [if_neg (by omega),if_neg hn0,if_pos hn1]
   have hcost:=ql6 (x:=x) hq hn1;unfold Zp;simp only [er];unfold Jn;split
   ·next hsaw =>
    simp only [hst,if_neg (show ¬ (0:Int)=1 by decide),if_neg (show ¬ (0:Int)=2 by decide)];refine Qz.count rfl rfl ?_
    rw [hcost,if_pos hsaw];have hb:=Z2 x.slab.recs x.slab.recs.length q.slot.toNat;rw [qkb (q:={ q with next:=2,st:=0 }) rfl rfl]
    show 293+Zn x.slab.recs x.slab.recs.length q.slot.toNat+9≤314+0
    omega
   ·next hsaw =>
    simp only [hst,if_neg (show ¬ (0:Int)=1 by decide),if_neg (show ¬ (0:Int)=2 by decide)];refine Qz.calm rfl rfl ?_
    rw [hcost,if_neg hsaw];rw [qkr (q:={ q with next:=0,st:=0 }) rfl rfl];decide
  ·have hn2:q.next=2:=by have:=hqo.next;omega
   have hcost:=qkb (x:=x) hq hn2;have er:Q3 x.slab q=Jd x.slab q:=by unfold Q3;rw [if_neg (by omega),if_neg hn0,if_neg hn1]
   have hfree:=hfr (by rw [hp,if_pos hn2];decide);unfold Zp;simp only [er];obtain ⟨j,hj⟩:=Int.eq_ofNat_of_zero_le hqo.slot0;have hjl:j<x.slab.recs.length:=by have:=hqo.slot1;omega
   have hr:=List.getElem?_eq_getElem hjl;generalize x.slab.recs[j]=r at hr;have hro:=hs.recs r (List.mem_of_getElem? hr);have hgd:x.slab.recs.getD q.slot.toNat Rec.zero=r:=by rw [hj,Int.toNat_natCast];exact qa hr
   have hb:=Z2 x.slab.recs x.slab.recs.length q.slot.toNat;unfold Jd;simp only [hgd];split
   ·next hz =>
    simp only [if_neg (show ¬ (2:Int)=1 by decide)];rw [if_pos trivial];refine Qz.take ?_ rfl rfl ?_
    ·show (x.slab.recs.set _ _).length=_;rw [List.length_set]
    ·rw [hcost]
     rw [qj2 (t:=Qx) rfl rfl];omega
   ·next hz =>
    have hbz:Xz r=true:=by
     cases hbb:Xz r with
     | true=>rfl
     | false=>exact absurd (qhq hro (decide (0<q.p)) hbb (hg r (List.mem_of_getElem? hr)) hM) hz
    have hd:=qgw (rs:=x.slab.recs) (i:=j) (by rw [Nat.mod_eq_of_lt hjl,qa hr];exact hbz) hfree;simp only [hst,if_neg (show ¬ (0:Int)=1 by decide),if_neg (show ¬ (0:Int)=2 by decide)];refine Qz.calm rfl rfl ?_
    rw [hcost];rw [qkb (q:={ q with slot:=(q.slot+1) % (x.slab.recs.length:Int),st:=0 }) rfl hn2]
    show 293+Zn x.slab.recs x.slab.recs.length ((q.slot+1) % (x.slab.recs.length:Int)).toNat+1≤_
    have hm:Zn x.slab.recs x.slab.recs.length ((q.slot+1) % (x.slab.recs.length:Int)).toNat=Zn x.slab.recs x.slab.recs.length (j+1):=by
     apply qcs
     rw [hj,show ((j:Int)+1) % (x.slab.recs.length:Int)=(((j+1) % x.slab.recs.length:Nat):Int) by rw [Int.natCast_emod];rfl,Int.toNat_natCast,Nat.mod_mod]
    rw [hm,hj,Int.toNat_natCast];omega
theorem qdh {r:Qo} {t:Q4} (hR:Yw r) (h:r.tail=t.pos):¬ 2*t.pos<(r.slot t.pos).seq:=by
 rw [← h];have h1:=hR.ht;rcases Int.lt_or_le r.tail (r.head+r.slots.length) with hl | hl
 ·rcases hR.sq r.tail h1 hl with h2 | ⟨h2,_⟩ <;> omega
 ·have e:r.tail=r.head+r.slots.length:=by have:=hR.tn;omega
  have hsl:r.slot r.tail=r.slot r.head:=by
   unfold Qo.slot Qo.at;rw [e,Int.add_emod_right]
  have hn:=hR.n1;rw [hsl];rcases hR.sq r.head (by omega) (by omega) with h2 | ⟨_,h2⟩ <;> omega
def ze (tl:Int) (t:Q4):Int:=if t.next=0 then 244 else if t.next=1 then 243+(if tl=t.pos then 0 else 3) else 242+(if tl=t.pos then 0 else 3)
theorem qii {i:Nat} {t:Q4} (h:k.tk=some (i,t)):Xp (.at none .queues) k x=ze (Xy x i) t:=by
 show qdn k x=_
 unfold qdn;rw [h];rfl
inductive qy (r r':Qo) (t t':Q4):Prop where
 | go (h1:t'.status=0) (h2:r'.tail=r.tail) (h3:r'.head=r.head) (h4:ze r.tail t'+1≤ze r.tail t):qy r r' t t'
 | full (h1:t'.status=1) (h2:r'.tail=r.tail) (h3:r'.head=r.head) (h4:242≤ze r.tail t):qy r r' t t'
 | took (h1:t'.status=2) (h2:r'.tail=r.tail+1) (h3:r'.head=r.head) (h4:242≤ze r.tail t):qy r r' t t'
theorem qhc {r:Qo} {t:Q4} (hR:Yw r) (hst:t.status=0) (hnx:t.next=0∨t.next=1∨t.next=2):qy r (stepT r t).1 t (stepT r t).2:=by
 unfold stepT;rw [if_neg (by omega)];rcases hnx with hn | hn | hn
 ·rw [if_pos hn]
  refine .go hst rfl rfl ?_
  unfold ze;rw [if_pos hn]
  show (if (1:Int)=0 then (244:Int) else if (1:Int)=1 then 243+(if r.tail=r.tail then 0 else 3) else 242+(if r.tail=r.tail then 0 else 3))+1≤244
  rw [if_neg (by decide),if_pos rfl,if_pos rfl];decide
 ·rw [if_neg (by omega),if_pos hn]
  have hco:ze r.tail t=243+(if r.tail=t.pos then 0 else 3):=by unfold ze;rw [if_neg (by omega),if_pos hn]
  unfold Jm;split
  ·next hw =>
   refine .go hst rfl rfl ?_
   rw [hco,if_neg (fun h=>qdh hR h hw)]
   show (if (0:Int)=0 then (244:Int) else if (0:Int)=1 then 243+(if r.tail=t.pos then 0 else 3) else 242+(if r.tail=t.pos then 0 else 3))+1≤243+3
   rw [if_pos rfl];decide
  ·split
   ·exact .full rfl rfl rfl (by rw [hco];split <;> decide)
   ·refine .go hst rfl rfl ?_
    rw [hco]
    show (if (2:Int)=0 then (244:Int) else if (2:Int)=1 then 243+(if r.tail=t.pos then 0 else 3) else 242+(if r.tail=t.pos then 0 else 3))+1≤_
    rw [if_neg (by decide),if_neg (by decide)];split <;> decide
 ·rw [if_neg (by omega),if_neg (by omega)]
  have hco:ze r.tail t=242+(if r.tail=t.pos then 0 else 3):=by unfold ze;rw [if_neg (by omega),if_neg (by omega)]
  unfold qo;split
  ·next he=>exact .took rfl (by show t.pos+1=_;omega) rfl (by rw [hco,if_pos he];decide)
  ·next he =>
   refine .go hst rfl rfl ?_
   rw [hco,if_neg he]
   show (if (0:Int)=0 then (244:Int) else if (0:Int)=1 then 243+(if r.tail=t.pos then 0 else 3) else 242+(if r.tail=t.pos then 0 else 3))+1≤242+3
   rw [if_pos rfl];decide
theorem qdw (hc:Xo N x) (hk:Xk N k x) (h2:qam (.at none .queues) k) (hR:∀ s∈x.shs,Yw s.ring):Qz (.at none .queues) k x (Xq .queues (k,x)):=by
 obtain ⟨i,t,ht,hst,hfl⟩:=(show ∃ i t,k.tk=some (i,t)∧t.status=0∧t.filled=false from h2);have hi:=(hk.tk i t ht).2;have hto:=(hk.tk i t ht).1;have hs:=List.getElem?_eq_getElem hi;have hRI:=hR x.shs[i] (List.getElem_mem hi)
 have e:Xq .queues (k,x)=Q8 (k,x) i t x.shs[i]:=by
  show (match k.tk with | none=>_ | some (i,t)=>_)=_
  rw [ht];simp only [hs]
 rw [e];generalize x.shs[i]=a at hs hRI;have hcost:=qii (x:=x) ht;rw [qe9 hs] at hcost;have hst:=qhc hRI hst hto.nx;unfold Q8;simp only [];generalize stepT a.ring t=p at hst;obtain ⟨r',t'⟩:=p;have hsh:(x.shs.set i { a with ring:=r' })[i]?=some { a with ring:=r' }:=by rw [List.getElem?_set,if_pos rfl,if_pos hi]
 cases hst with
 | go a1 a2 a3 a4 =>
   have a1:t'.status=0:=a1;rw [if_pos a1];refine Qz.ring hs rfl rfl a2 a3 ?_
   rw [hcost,qii (i:=i) (t:=t') rfl];rw [qe9 (x:={ x with shs:=x.shs.set i { a with ring:=r' } }) hsh]
   show ze r'.tail t'+1≤_
   rw [show r'.tail=a.ring.tail from a2];exact a4
 | full a1 a2 a3 a4 =>
   have a1:t'.status=1:=a1;rw [if_neg (show ¬ t'.status=0 by omega)];split
   ·exact Qz.ring hs rfl rfl a2 a3 (by rw [hcost];exact Int.le_trans (by show (2:Int)+1≤242;decide) a4)
   ·exact Qz.ring hs rfl rfl a2 a3 (by rw [hcost];exact Int.le_trans (by show (20:Int)+1≤242;decide) a4)
 | took a1 a2 a3 a4 =>
   have a1:t'.status=2:=a1;rw [if_neg (show ¬ t'.status=0 by omega),if_neg (show ¬ (t'.status=1∧k.kind=3) from fun h=>by omega),if_neg (show ¬ t'.status=1 by omega)];split
   ·exact Qz.tail hs rfl rfl a2 a3 (by rw [hcost];exact Int.le_trans (by show (13:Int)+229≤242;decide) a4)
   ·exact Qz.tail hs rfl rfl a2 a3 (by rw [hcost];exact Int.le_trans (by show (12:Int)+229≤242;decide) a4)
end
section
variable {N:Nat} {k:Ql} {x:Qk} {M:Int}
theorem qd (k:Ql) (x:Qk):Xp (.at none .tries) k x=(if k.kind=3 then 12 else 28)+st2 (Yn x.slab k.slot k.saw k.event):=rfl
theorem zm (hs:Xm x.slab) (ev e:Int) (h0:0≤k.slot) {r:Rec} (hr:x.slab.recs[k.slot.toNat]?=some r) (he:stW r.w=e) (h1:1≤ev) (h2:ev≤10)
 (ht:∀ ag,(toW e ev ag).2.2=true∧(toW e ev ag).2.1=0) (hne:e≠0):Xz r=true∧∃ b,(Z9 k.slot ev x.slab).1.recs=x.slab.recs.set k.slot.toNat b∧(Z9 k.slot ev x.slab).1.count=x.slab.count:=by
 have hro:=hs.recs r (List.mem_of_getElem? hr);refine ⟨?_,?_⟩
 ·unfold Xz
  rw [decide_eq_false (by omega)];rfl
 obtain ⟨j,hj⟩:=Int.eq_ofNat_of_zero_le h0;rw [hj,Int.toNat_natCast] at hr;obtain ⟨w',hn,hst⟩:=qhz (p:=decide (0<r.p)) hro h1 h2 (by rw [he];exact (ht _).1) (by rw [he];exact (ht _).2)
 have e1:(Z9 k.slot ev x.slab).1={ x.slab with recs:=x.slab.recs.set j { r with w:=w' } }:=by
  show (x.slab.try k.slot (x.slab.word k.slot) ev).1=_
  rw [hj,qim hr hn]
 exact ⟨{ r with w:=w' },by rw [e1,hj,Int.toNat_natCast],by rw [e1]⟩
theorem Yi (r:Qo) (t:Q4) (v:Qn):(Xi r t v).1.tail=r.tail∧(Xi r t v).1.head=r.head:=by
 unfold Xi;split <;> exact ⟨rfl,rfl⟩
theorem qf6 (hc:Xo N x) (h1:3≤k.kind∧k.kind≤5):Qz (.at none .tries) k x (Xq .tries (k,x)):=by
 have hs:=hc.slab
 have e:Xq .tries (k,x)=(if (Xc (k,x)).2≠0 then (if k.kind=3 then (.at none .again,(Xc (k,x)).1) else (.at none .looks,(Xc (k,x)).1)) else if k.kind=3 then (.at none .fills,Zi { ev0 with kind:=6,id:=k.id,gen:=(Xc (k,x)).1.1.gen,dl:=k.cdl } (okC (Xc (k,x)).1.1,(Xc (k,x)).1.2))
  else if k.kind=5 then (.row1 .ends1,Zi { ev0 with kind:=8,id:=k.id,gen:=(Xc (k,x)).1.1.gen } (okC (Xc (k,x)).1.1,(Xc (k,x)).1.2))
  else (.thn (.row2 .tries1 .drop) .ends,Zi { ev0 with kind:=7,id:=k.id,gen:=(Xc (k,x)).1.1.gen } (okC (Xc (k,x)).1.1,(Xc (k,x)).1.2))):=rfl
 have hco:=qd k x;rcases Yv hs k.slot k.saw k.event with ⟨t1,t2⟩ | ⟨t1,j,r,w',t2,t3,t4,t5,t6,t7,t8⟩
 ·rw [e,if_pos (show (Xc (k,x)).2≠0 from t1)]
  have ho:Yn x.slab k.slot k.saw k.event=false:=by unfold Yn;simpa using t1
  rw [ho] at hco;split
  ·next h3 =>
   rw [if_pos h3] at hco;exact Qz.calm t2 rfl (by rw [hco];show (13:Int)+1≤12+2;decide)
  ·next h3 =>
   rw [if_neg h3] at hco;refine Qz.calm t2 rfl ?_
   rw [hco]
   show (if k.kind=3 then (245:Int) else 29)+1≤28+2
   rw [if_neg h3];decide
 ·have hst:=qbe t5 (show k.event=6∨k.event=7∨k.event=8 by
   have hev:k.event=if k.kind=4 then 6 else if k.kind=5 then 7 else 8:=rfl
   rw [hev]
   split <;> first | exact .inl rfl | (split <;> first | exact .inr (.inl rfl) | exact .inr (.inr rfl))) t6
  have ho:Yn x.slab k.slot k.saw k.event=true:=by unfold Yn;rw [t1];rfl
  rw [ho] at hco
  have hb:Xz r=true:=by
   unfold Xz;rw [decide_eq_false (by omega)];rfl
  have hsl:(Xc (k,x)).1.2.slab={ x.slab with recs:=x.slab.recs.set j { r with w:=w' } }:=t7;have hr1:(Xc (k,x)).1.2.slab.recs=x.slab.recs.set j { r with w:=w' }:=by rw [hsl]
  have hr2:(Xc (k,x)).1.2.slab.count=x.slab.count:=by rw [hsl]
  rw [e,if_neg (show ¬ (Xc (k,x)).2≠0 from fun h=>h t1)];split
  ·next h3 =>
   rw [if_pos h3] at hco;exact Qz.word j r _ t3 hb hr1 hr2 rfl (by rw [hco];show (3:Int)+9≤12+0;decide)
  ·next h3 =>
   rw [if_neg h3] at hco;split
   ·exact Qz.word j r _ t3 hb hr1 hr2 rfl (by rw [hco];show (1:Int)+9≤28+0;decide)
   ·exact Qz.word j r _ t3 hb hr1 hr2 rfl (by rw [hco];show (19:Int)+9≤28+0;decide)
theorem qix (hc:Xo N x) (hk:Xk N k x) (m:MC) (hf:qgp (.at none m) k) (h1:qgb (.at none m) k) (h2:qam (.at none m) k) (hO:∀ j e,qcw (.at none m) k=some (j,e)→∃ r,x.slab.recs[j]?=some r∧stW r.w=e) (hR:∀ s∈x.shs,Yw s.ring) (hn:x.slab.recs.length≤12) (hg:Y3 M x.slab.recs) (hM:M<4294967295) (hfr:1≤Xw (.at none m) k→∃ r∈x.slab.recs,Xz r=false):Qz (.at none m) k x (Xq m (k,x)):=by
 have hs:=hc.slab;cases m with
 | right =>
   show Qz _ k x (if qdm k then (.row1 .ends1,Qf 1 (k,x)) else (.at none .enter,(k,x)))
   split
   ·exact Qz.calm rfl rfl (by show (1:Int)+1≤318;decide)
   ·exact Qz.calm rfl rfl (by show (317:Int)+1≤318;decide)
 | enter=>exact Qz.calm rfl rfl (by show (316:Int)+1≤317;decide)
 | gate =>
   show Qz _ k x (if x.f.closed=true then (Q2 k,Qf 3 (k,x)) else if k.kind=1∨k.kind=2 then (.at none .asks,({ k with rq:=some ⟨k.period,0,0,0,0,0⟩ },x)) else (.at none .looks,(k,x)))
   split
   ·exact Qz.calm rfl rfl (Int.le_trans (Int.add_le_add_right (zo k _ _) 1) (by show (2:Int)+1≤316;decide))
   ·split
    ·refine Qz.calm rfl rfl ?_
     rw [qkr (q:=⟨k.period,0,0,0,0,0⟩) rfl rfl]
     show (315:Int)+1≤316;decide
    ·refine Qz.calm rfl rfl ?_
     show (if k.kind=3 then (245:Int) else 29)+1≤316
     split <;> decide
 | asks=>exact qh6 hc hk hf hn hg hM hfr
 | queues=>exact qdw hc hk h2 hR
 | submits =>
   obtain ⟨r,hr,he⟩:=hO _ _ rfl;obtain ⟨hb,b,h3,h4⟩:=zm hs 2 1 hk.slot hr he (by decide) (by decide) (fun _=>⟨rfl,rfl⟩) (by decide);exact Qz.word _ r b hr hb h3 h4 rfl (by show (3:Int)+9≤12;decide)
 | fills =>
   obtain ⟨i,t,s,a1,a2,a3,a4,a5,a6⟩:=qw hk (Ze (k,x)) h2;have e:Xq .fills (k,x)=(Xj,(okC (Xh (Ze (k,x)) (k,x)).1,(Xh (Ze (k,x)) (k,x)).2)):=rfl;rw [e,a5];exact Qz.ring a4 rfl rfl (Yi _ _ _).1 (Yi _ _ _).2 (by show (2:Int)+1≤3;decide)
 | looks =>
   have h1:3≤k.kind∧k.kind≤5:=h1;obtain ⟨l1,l2⟩:=Jt k x.slab;have hl2:(Qp (k,x)).1.1.kind=k.kind:=l2;have hco:Xp (.at none .looks) k x=if k.kind=3 then 245 else 29:=rfl
   show Qz _ k x (if (Qp (k,x)).2=0 then (if k.kind=3 then (.at none .queues,({ (Qp (k,x)).1.1 with tk:=some (Zk (Qp (k,x)).1.1.slot x,Qx) },x)) else (.at none .tries,(Qp (k,x)).1)) else if (Qp (k,x)).2=1 then (Q2 k,Qf 1 (Qp (k,x)).1) else (Q2 k,Qf 0 (Qp (k,x)).1))
   split
   ·next hl =>
    split
    ·next h3 =>
     rw [if_pos h3] at hco;refine Qz.calm rfl rfl ?_
     rw [hco,qj2 (t:=Qx) rfl rfl];decide
    ·next h3 =>
     rw [if_neg h3] at hco;refine Qz.calm rfl rfl ?_
     rw [hco,qd];rw [show Yn (Qp (k,x)).1.2.slab (Qp (k,x)).1.1.slot (Qp (k,x)).1.1.saw (Qp (k,x)).1.1.event=true from look_ok hl,hl2,if_neg h3];decide
   ·have h29:(29:Int)≤Xp (.at none .looks) k x:=by rw [hco];split <;> decide
    split
    ·exact Qz.calm rfl rfl (Int.le_trans (Int.add_le_add_right (zo k _ _) 1) (Int.le_trans (by decide) h29))
    ·exact Qz.calm rfl rfl (Int.le_trans (Int.add_le_add_right (zo k _ _) 1) (Int.le_trans (by decide) h29))
 | again =>
   have h1:k.kind=3:=h1;obtain ⟨l1,l2⟩:=Jt k x.slab;have hl2:(Qp (k,x)).1.1.kind=k.kind:=l2
   show Qz _ k x (if (Qp (k,x)).2=0 then (.at none .tries,(Qp (k,x)).1) else (.thn (.row1 .again1) .leaves,Qf 0 (Qp (k,x)).1))
   split
   ·next hl =>
    refine Qz.calm rfl rfl ?_
    rw [qd];rw [show Yn (Qp (k,x)).1.2.slab (Qp (k,x)).1.1.slot (Qp (k,x)).1.1.saw (Qp (k,x)).1.1.event=true from look_ok hl,hl2,if_pos h1]
    show (12:Int)+0+1≤13;decide
   ·exact Qz.calm rfl rfl (by show (3:Int)+1≤13;decide)
 | tries=>exact qf6 hc h1
 | ends=>exact hf.elim
 | leaves=>exact hf.elim
theorem qjp {s:SC} (hj:JC N s (k,x)) (h1:qgb s k) (h2:qam s k) (hs:s≠.nil) (hO:∀ j e,qcw s k=some (j,e)→∃ r,x.slab.recs[j]?=some r∧stW r.w=e) (hR:∀ s∈x.shs,Yw s.ring) (hn:x.slab.recs.length≤12) (hg:Y3 M x.slab.recs) (hM:M<4294967295) (hp:Xw s k≤x.slab.count) (hfr:s=.at none .asks→1≤Xw s k→∃ r∈x.slab.recs,Xz r=false):Qz s k x (Xn s (k,x)):=by
 obtain ⟨hc,hk,hf⟩:=hj;simp only at hc hk hf;have hdr:1≤x.slab.count→x.slab.drop.1.recs=x.slab.recs:=fun h=>by unfold Qg.drop;split <;> rfl
 match s,hf,h1,h2,hO,hs,hp,hfr with
 | .nil,_,_,_,_,hs,_,_=>exact absurd rfl hs
 | .at none m,hf,h1,h2,hO,_,_,hfr =>
   exact qix hc hk m hf h1 h2 hO hR hn hg hM (fun h=>by
    cases m with
    | asks=>exact hfr rfl h
    | _=>exact absurd h (by show ¬ (1:Int)≤0;decide))
 | .row1 .ends1,_,_,_,_,_,_,_=>exact Qz.calm rfl rfl (by show (0:Int)+1≤1;decide)
 | .thn (.row1 .leaves1) .ends,_,_,_,_,_,_,_=>exact Qz.calm rfl rfl (by show (1:Int)+1≤2;decide)
 | .thn (.row2 .undo .drop) .leaves,_,_,_,hO,_,_,_ =>
   obtain ⟨r,hr,he⟩:=hO _ _ rfl;obtain ⟨hb,b,h3,h4⟩:=zm hc.slab 9 1 hk.slot hr he (by decide) (by decide) (fun _=>⟨rfl,rfl⟩) (by decide);exact Qz.word _ r b hr hb h3 h4 rfl (by show (11:Int)+9≤20;decide)
 | .thn (.row1 .drop) .leaves,_,_,_,_,_,hp,_=>exact Qz.count (hdr hp) rfl (by show (2:Int)+9≤11;decide)
 | .thn (.row1 .again1) .leaves,_,h1,h2,_,_,_,_ =>
   obtain ⟨i,t,s,a1,a2,a3,a4,a5,a6⟩:=qw hk { Qn.zero with slot:=-1 } h2;have e:Xn (.thn (.row1 .again1) .leaves) (k,x)=(Xj,Xh { Qn.zero with slot:=-1 } (k,x)):=rfl;rw [e,a5];exact Qz.ring a4 rfl rfl (Yi _ _ _).1 (Yi _ _ _).2 (by show (2:Int)+1≤3;decide)
 | .thn (.row2 .tries1 .drop) .ends,_,_,_,hO,_,_,_ =>
   obtain ⟨r,hr,he⟩:=hO _ _ rfl;obtain ⟨hb,b,h3,h4⟩:=zm hc.slab 10 5 hk.slot hr he (by decide) (by decide) (fun _=>⟨rfl,rfl⟩) (by decide);exact Qz.word _ r b hr hb h3 h4 rfl (by show (10:Int)+9≤19;decide)
 | .thn (.row1 .drop) .ends,_,_,_,_,_,hp,_=>exact Qz.count (hdr hp) rfl (by show (1:Int)+9≤10;decide)
end
def ordW (s:Int):Int:=if s=0 then 6 else if s=6 then 5 else s
def zx (w:Int):Int:=16*X0 w+2*ordW (stW w)+(if Xl w=true then 1 else 0)
theorem qip {w e w':Int} {p:Bool} (h0:0≤w) (h1:w<18446744073709551616) (hk:okW w=true) (h:Qs w e p=(w',0)):zx w<zx w':=by
 have hb:=qap w h0 hk;rcases Zf w e p h0 h1 hk with ⟨_,h2⟩ | ⟨_,h2,h3,h4,_,h6,h7,h8,_⟩
 ·rw [h] at h2;simp only at h2;omega
 ·rw [h] at h6 h7 h8
  simp only at h6 h7 h8;unfold zx;rw [h6,h7,h8];obtain ⟨hs0,hs6,_,_⟩:=hb;clear h h6 h7 h8 h0 h1 hk;generalize stW w=s at *;generalize X0 w=g at *;generalize Xl w=l at *;have hs:s=0∨s=1∨s=2∨s=3∨s=4∨s=5∨s=6:=by omega
  have he:e=1∨e=2∨e=3∨e=4∨e=5∨e=6∨e=7∨e=8∨e=9∨e=10:=by omega
  clear hs0 hs6 h2 h3;revert h4
  rcases hs with rfl | rfl | rfl | rfl | rfl | rfl | rfl <;> rcases he with rfl | rfl | rfl | rfl | rfl | rfl | rfl | rfl | rfl | rfl <;> cases l <;> cases p <;> simp [toW,qdf,ordW] <;> omega
inductive J7 (rs rs':List Rec):Prop where
 | same (h:rs'=rs):J7 rs rs'
 | take (j:Nat) (r:Rec) (w' q:Int) (p:Bool) (hr:rs[j]?=some r) (ho:Zy r) (hn:Qs r.w 1 p=(w',0)) (h:rs'=rs.set j ⟨w',r.g+1,q⟩):J7 rs rs'
 | turn (j:Nat) (r:Rec) (w' ev:Int) (p:Bool) (hr:rs[j]?=some r) (ho:Zy r) (he:ev≠1) (hn:Qs r.w ev p=(w',0)) (h:rs'=rs.set j { r with w:=w' }):J7 rs rs'
theorem qe4 {s:Qg} (hs:Xm s) (k old ev:Int) (he:ev≠1):J7 s.recs (s.try k old ev).1.recs:=by
 rcases Yv hs k old ev with ⟨_,h⟩ | ⟨_,j,r,w',_,h2,_,h4,h5,h6,_⟩
 ·exact .same (by rw [h])
 ·exact .turn j r w' ev _ h2 h4 he h5 (by rw [h6])
theorem J7.at {rs rs':List Rec} (h:J7 rs rs') {j:Nat} {r:Rec} (hr:rs[j]?=some r):∃ r',rs'[j]?=some r' ∧
 (r'=r∨(zx r.w<zx r'.w∧((r'.g=r.g+1∧stW r.w=0∧stW r'.w=1)∨(r'.g=r.g∧Zy r∧∃ ev p,ev≠1∧Qs r.w ev p=(r'.w,0))))):=by
 have hset:∀ (i:Nat) (a b:Rec),rs[i]?=some a→(zx a.w<zx b.w∧((b.g=a.g+1∧stW a.w=0∧stW b.w=1)∨(b.g=a.g∧Zy a∧∃ ev p,ev≠1∧Qs a.w ev p=(b.w,0)))) →
  ∃ r',(rs.set i b)[j]?=some r'∧(r'=r∨(zx r.w<zx r'.w∧((r'.g=r.g+1∧stW r.w=0∧stW r'.w=1)∨(r'.g=r.g∧Zy r∧∃ ev p,ev≠1∧Qs r.w ev p=(r'.w,0))))):=fun i a b ha hb=>by
  by_cases e:j=i
  ·subst e
   rw [hr] at ha;cases ha;exact ⟨b,get_set_same hr,.inr hb⟩
  ·exact ⟨r,Z3 hr e,.inl rfl⟩
 cases h with
 | same h=>exact ⟨r,by rw [h];exact hr,.inl rfl⟩
 | take i a w' q p ha ho hn h =>
   subst h;obtain ⟨_,_,g3,g4⟩:=qbw ho hn;have g3:(stW a.w == 0)=true:=g3;exact hset i a _ ha ⟨qip ho.w0 ho.w1 ho.ok hn,.inl ⟨rfl,by simpa using g3,g4⟩⟩
 | turn i a w' ev p ha ho he hn h =>
   subst h;exact hset i a _ ha ⟨qip ho.w0 ho.w1 ho.ok hn,.inr ⟨rfl,ho,ev,p,he,hn⟩⟩
def qke (id:Int) (rs:List Rec):Prop:=∃ r,rs[(id % 64).toNat]?=some r∧id / 64≤r.g
def qf3 (id:Int) (rs:List Rec):Prop:=∃ r,rs[(id % 64).toNat]?=some r∧(id / 64<r.g∨(r.g=id / 64∧(stW r.w=5∨stW r.w=0)))
def qka (id slot saw:Int) (rs:List Rec):Prop:=slot=id % 64∧∃ r,rs[(id % 64).toNat]?=some r∧zx saw≤zx r.w∧(r.w=saw→r.g=id / 64)
section
variable {rs rs':List Rec} {id slot saw:Int}
theorem qke.ch (h:qke id rs) (c:J7 rs rs'):qke id rs':=by
 obtain ⟨r,h1,h2⟩:=h;obtain ⟨r',g1,g2⟩:=c.at h1;refine ⟨r',g1,?_⟩
 rcases g2 with rfl | ⟨_,⟨g3,_⟩ | ⟨g3,_⟩⟩ <;> omega
theorem qf3.ch (h:qf3 id rs) (c:J7 rs rs'):qf3 id rs':=by
 obtain ⟨r,h1,h2⟩:=h;obtain ⟨r',g1,g2⟩:=c.at h1;refine ⟨r',g1,?_⟩
 rcases g2 with rfl | ⟨_,⟨g3,_⟩ | ⟨g3,go,ev,p,g4,g5⟩⟩
 ·exact h2
 ·left;omega
 ·rcases h2 with h2 | ⟨h2,h3⟩
  ·left;omega
  ·right
   refine ⟨by omega,.inr ?_⟩
   obtain ⟨e1,e2,e3,e4⟩:=qbw go g5;have he:ev=1∨ev=2∨ev=3∨ev=4∨ev=5∨ev=6∨ev=7∨ev=8∨ev=9∨ev=10:=by omega
   rw [e4];revert e3
   generalize (p && !Xl r.w)=ag;rcases h3 with h3 | h3 <;> rw [h3] <;> rcases he with rfl | rfl | rfl | rfl | rfl | rfl | rfl | rfl | rfl | rfl <;> first | exact absurd rfl g4 | (cases ag <;> decide)
theorem qka.ch (h:qka id slot saw rs) (c:J7 rs rs'):qka id slot saw rs':=by
 obtain ⟨h0,r,h1,h2,h3⟩:=h;obtain ⟨r',g1,g2⟩:=c.at h1;refine ⟨h0,r',g1,?_⟩
 rcases g2 with rfl | ⟨g3,_⟩
 ·exact ⟨h2,h3⟩
 ·exact ⟨by omega,fun e=>by rw [e] at g3;omega⟩
end
def qi1:SC→Nat
 | .at none .right=>0
 | .at none .enter=>0
 | .at none .gate=>0
 | .at none .queues=>1
 | .at none .submits=>1
 | .at none .fills=>1
 | .at none .tries=>2
 | _=>3
structure qb2 (s:SC) (k:Ql) (rs:List Rec):Prop where
 giv:∀ q,k.rq=some q→q.st=2→qke q.id rs
 idq:k.kind≤2→∀ q,k.rq=some q→q.st=2→k.id=q.id
 st2:k.kind≤2→qi1 s=1→∃ q,k.rq=some q∧q.st=2
 okq:k.ok=true→k.err=0∧k.aid=k.id∧(k.kind≤2→∃ q,k.rq=some q∧q.st=2∧k.aid=q.id)
 nok:k.ok=false→k.aid=0
 saw:qi1 s=2→qka k.id k.slot k.saw rs
 ng:qi1 s=0→k.ok=false
 dead:k.ok=true→k.kind=4→qf3 k.aid rs
structure qbr (k:Ql) (x:Qk) (r:SC × ZC):Prop where
 ch:J7 x.slab.recs r.2.2.slab.recs
 own:qb2 r.1 r.2.1 r.2.2.slab.recs
 giv:∀ q',r.2.1.rq=some q'→q'.st=2→(∃ q,k.rq=some q∧q.st=2∧q.id=q'.id)∨∃ r0,x.slab.recs[(q'.id % 64).toNat]?=some r0∧r0.g<q'.id / 64
 dead:r.2.1.ok=true→r.2.1.kind=4→(k.ok=true∧k.aid=r.2.1.aid)∨∃ r0,x.slab.recs[(r.2.1.aid % 64).toNat]?=some r0∧r0.g=r.2.1.aid / 64∧(stW r0.w=2∨stW r0.w=3∨stW r0.w=4)
section
variable {N:Nat} {s s':SC} {k k':Ql} {x x':Qk} {rs rs':List Rec}
theorem qb2.ch (h:qb2 s k rs) (c:J7 rs rs'):qb2 s k rs' :=
 ⟨fun q a b=>(h.giv q a b).ch c,h.idq,h.st2,h.okq,h.nok,fun a=>(h.saw a).ch c,h.ng,fun a b=>(h.dead a b).ch c⟩
theorem qbr.calm (h:qb2 s k x.slab.recs) (c:J7 x.slab.recs x'.slab.recs) (hq:k'.rq=k.rq) (hk:k'.kind=k.kind) (hi:k'.id=k.id) (ho:(k'.ok=false∧k'.aid=0)∨(k'.ok=k.ok∧k'.aid=k.aid∧k'.err=k.err))
 (hst:k.kind≤2→qi1 s'=1→∃ q,k.rq=some q∧q.st=2) (hs:qi1 s'=2→qka k'.id k'.slot k'.saw x'.slab.recs) (hn:qi1 s'=0→k'.ok=false):qbr k x (s',(k',x')) where
 ch:=c
 own:=by
  refine ⟨fun q a b=>(h.giv q (hq ▸ a) b).ch c,fun a q b d=>?_,fun a b=>?_,fun a=>?_,fun a=>?_,hs,hn,fun a b=>?_⟩
  ·show k'.id=_;rw [hi];exact h.idq (hk ▸ a) q (hq ▸ b) d
  ·obtain ⟨q,e,f⟩:=hst (hk ▸ a) b;exact ⟨q,by show k'.rq=_;rw [hq,e],f⟩
  ·rcases ho with ⟨ho,_⟩ | ⟨o1,o2,o3⟩
   ·rw [show k'.ok=true from a] at ho;cases ho
   ·obtain ⟨g1,g3,g2⟩:=h.okq (by rw [← o1];exact a)
    refine ⟨by show k'.err=0;rw [o3,g1],by show k'.aid=k'.id;rw [o2,hi,g3],fun b=>?_⟩
    obtain ⟨q,e,f,g⟩:=g2 (hk ▸ b);exact ⟨q,by show k'.rq=_;rw [hq,e],f,by show k'.aid=_;rw [o2,g]⟩
  ·rcases ho with ⟨_,ho⟩ | ⟨o1,o2,o3⟩
   ·exact ho
   ·show k'.aid=0;rw [o2];exact h.nok (by rw [← o1];exact a)
  ·rcases ho with ⟨ho,_⟩ | ⟨o1,o2,o3⟩
   ·rw [show k'.ok=true from a] at ho;cases ho
   ·show qf3 k'.aid _
    rw [o2];exact (h.dead (by rw [← o1];exact a) (hk ▸ b)).ch c
 giv q' a b:=.inl ⟨q',hq ▸ a,b,rfl⟩
 dead a b:=by
  rcases ho with ⟨ho,_⟩ | ⟨o1,o2,_⟩
  ·rw [show k'.ok=true from a] at ho;cases ho
  ·exact .inl ⟨by rw [← o1];exact a,o2.symm⟩
theorem qbr.calm3 (h:qb2 s k x.slab.recs) (h3:qi1 s'=3) (c:J7 x.slab.recs x'.slab.recs) (hq:k'.rq=k.rq) (hk:k'.kind=k.kind) (hi:k'.id=k.id) (ho:(k'.ok=false∧k'.aid=0)∨(k'.ok=k.ok∧k'.aid=k.aid∧k'.err=k.err)):qbr k x (s',(k',x')) :=
 .calm h c hq hk hi ho (fun _ a=>by rw [h3] at a;cases a) (fun a=>by rw [h3] at a;cases a) (fun a=>by rw [h3] at a;cases a)
theorem qb0 (k:Ql):qi1 (Q2 k)=3:=by
 unfold Q2 Xj;split <;> rfl
theorem qem {k:Ql} {s:Qg} (h:(lookW k s).2=0) (hid:0≤k.id):qka (lookW k s).1.id (lookW k s).1.slot (lookW k s).1.saw s.recs:=by
 unfold lookW at h ⊢;split at h
 ·next hne=>exact absurd h hne
 ·next hne =>
  rw [if_neg hne];split at h
  ·cases h
  ·next hm =>
   rw [if_neg hm];have hm:s.mine k.id=true:=by simpa using hm
   unfold Qg.mine at hm;simp only [Bool.and_eq_true,decide_eq_true_eq] at hm;obtain ⟨hkn,hg⟩:=hm;have hsl:s.slot k.id=k.id % 64:=by unfold Qg.slot;rw [if_pos hkn]
   obtain ⟨j,hj⟩:∃ j:Nat,k.id % 64=j:=Int.eq_ofNat_of_zero_le (by omega);have hjl:j<s.recs.length:=by have:=hkn.1;omega
   have hr:=List.getElem?_eq_getElem hjl;generalize s.recs[j]=r at hr;obtain ⟨a,b,c⟩:=qhm hr
   show qka k.id (s.slot k.id) (s.word (s.slot k.id)) s.recs
   rw [hsl];refine ⟨rfl,r,by rw [hj,Int.toNat_natCast];exact hr,?_,fun _=>?_⟩
   ·rw [hj,b];exact Int.le_refl _
   ·rw [hj,c] at hg;exact hg
theorem qa4 (k:Ql) (s:Qg):(lookW k s).1.rq=k.rq∧(lookW k s).1.kind=k.kind∧(lookW k s).1.id=k.id∧(lookW k s).1.ok=k.ok∧(lookW k s).1.aid=k.aid∧(lookW k s).1.err=k.err:=by
 unfold lookW;split
 ·exact ⟨rfl,rfl,rfl,rfl,rfl,rfl⟩
 ·split <;> exact ⟨rfl,rfl,rfl,rfl,rfl,rfl⟩
end
section
variable {N:Nat} {s:SC} {k:Ql} {x:Qk}
theorem qjn (hc:Xo N x) (hk:Xk N k x) (m:MC) (hf:qgp (.at none m) k) (h1:qgb (.at none m) k) (h:qb2 (.at none m) k x.slab.recs):qbr k x (Xq m (k,x)):=by
 have hs:=hc.slab;have hsame:∀ {rs:List Rec},J7 rs rs:=.same rfl;cases m with
 | ends=>exact hf.elim
 | leaves=>exact hf.elim
 | right =>
   show qbr k x (if qdm k then ((.row1 .ends1,Qf 1 (k,x)):SC × ZC) else (.at none .enter,(k,x)))
   split
   ·exact .calm3 h rfl hsame rfl rfl rfl (.inl ⟨rfl,rfl⟩)
   ·exact .calm h hsame rfl rfl rfl (.inr ⟨rfl,rfl,rfl⟩) (fun _ a=>by cases a) (fun a=>by cases a) (fun _=>h.ng rfl)
 | enter=>exact .calm h hsame rfl rfl rfl (.inr ⟨rfl,rfl,rfl⟩) (fun _ a=>by cases a) (fun a=>by cases a) (fun _=>h.ng rfl)
 | gate =>
   show qbr k x (if x.f.closed=true then ((Q2 k,Qf 3 (k,x)):SC × ZC) else if k.kind=1∨k.kind=2 then (.at none .asks,({ k with rq:=some ⟨k.period,0,0,0,0,0⟩ },x)) else (.at none .looks,(k,x)))
   have hno:k.ok=true→False:=fun a=>by rw [h.ng rfl] at a;cases a
   split
   ·exact .calm3 h (qb0 k) hsame rfl rfl rfl (.inl ⟨rfl,rfl⟩)
   ·split
    ·exact ⟨hsame,⟨fun q a b=>(by cases a;cases b),fun _ q a b=>(by cases a;cases b),fun _ a=>(by cases a),fun a=>(hno a).elim,h.nok,fun a=>(by cases a),fun a=>(by cases a),fun a=>(hno a).elim⟩,fun q a b=>(by cases a;cases b),fun a=>(hno a).elim⟩
    ·exact .calm3 h rfl hsame rfl rfl rfl (.inr ⟨rfl,rfl,rfl⟩)
 | asks =>
   obtain ⟨q,hq⟩:=Option.isSome_iff_exists.1 hf.1;have hst:=hf.2 q hq;have hqo:=hk.rq q hq;have hk12:k.kind=1∨k.kind=2:=h1;have e:Xq .asks (k,x)=Zp (k,x) q:=by show (match k.rq with | none=>_ | some q=>_)=_;rw [hq]
   have hno:k.ok=true→False:=fun a=>by
    obtain ⟨q2,e2,f2,_⟩:=(h.okq a).2.2 (by omega);rw [hq] at e2;cases e2;omega
   rw [e]
   -- what leaves the slab,and does not give a number
   have calm:∀ (s':Qg) (q':Req),Q3 x.slab q=(s',q')→s'.recs=x.slab.recs→q'.st≠2→qbr k x (Zp (k,x) q):=fun s' q' er hr hq'=>by
    unfold Zp;simp only [er];split
    ·exact ⟨.same hr,⟨fun q a b=>absurd b (by cases a;exact hq'),fun _ q a b=>absurd b (by cases a;exact hq'),fun _ a=>(by cases a),fun a=>(by cases a),fun _=>rfl,fun a=>(by cases a),fun a=>(by cases a),fun a=>(by cases a)⟩,fun q a b=>absurd b (by cases a;exact hq'),fun a=>(by cases a)⟩
    ·first | rw [if_neg hq'] | skip
     exact ⟨.same hr,⟨fun q a b=>absurd b (by cases a;exact hq'),fun _ q a b=>absurd b (by cases a;exact hq'),fun _ a=>(by cases a),fun a=>(hno a).elim,h.nok,fun a=>(by cases a),fun a=>(by cases a),fun a=>(hno a).elim⟩,fun q a b=>absurd b (by cases a;exact hq'),fun a=>(hno a).elim⟩
   by_cases hn0:q.next=0
   ·refine calm x.slab (Yu x.slab q) (by unfold Q3;rw [if_neg (by omega),if_pos hn0]) rfl ?_
    unfold Yu;split
    ·show (1:Int)≠2;decide
    ·show q.st≠2;omega
   ·by_cases hn1:q.next=1
    ·refine calm (Jn x.slab q).1 (Jn x.slab q).2 (by unfold Q3;rw [if_neg (by omega),if_neg hn0,if_pos hn1]) (by unfold Jn;split <;> rfl) ?_
     unfold Jn;split <;> (show q.st≠2;omega)
    ·have er:Q3 x.slab q=Jd x.slab q:=by unfold Q3;rw [if_neg (by omega),if_neg hn0,if_neg hn1]
     obtain ⟨j,hj⟩:=Int.eq_ofNat_of_zero_le hqo.slot0;have hjl:j<x.slab.recs.length:=by have:=hqo.slot1;omega
     have hr:=List.getElem?_eq_getElem hjl;generalize x.slab.recs[j]=r at hr;have hro:=hs.recs r (List.mem_of_getElem? hr);have hn64:=hs.n1;have hgd:x.slab.recs.getD q.slot.toNat Rec.zero=r:=by rw [hj,Int.toNat_natCast];exact qa hr
     by_cases hz:(Qs r.w 1 (decide (0<q.p))).2=0
     ·have hnx:Qs r.w 1 (decide (0<q.p))=((Qs r.w 1 (decide (0<q.p))).1,0):=Prod.ext rfl hz
      have es:Q3 x.slab q=({ x.slab with recs:=x.slab.recs.set j ⟨(Qs r.w 1 (decide (0<q.p))).1,r.g+1,q.p⟩ },{ q with id:=(r.g+1)*64+q.slot,st:=2 }):=by
       rw [er];unfold Jd;simp only [hgd];rw [if_pos hz,hj,Int.toNat_natCast]
      generalize (Qs r.w 1 (decide (0<q.p))).1=w' at es hnx;have i1:((r.g+1)*64+q.slot) % 64=j:=by omega
      have i2:((r.g+1)*64+q.slot) / 64=r.g+1:=by omega
      have hch:J7 x.slab.recs (x.slab.recs.set j ⟨w',r.g+1,q.p⟩):=.take j r w' q.p _ hr hro hnx rfl;unfold Zp;simp only [es];rw [if_neg (show ¬ (2:Int)=1 by decide),if_pos trivial];refine ⟨hch,⟨fun q' a b=>?_,fun _ q' a b=>?_,fun _ _=>⟨_,rfl,rfl⟩,fun a=>(hno a).elim,h.nok,fun a=>(by cases a),fun a=>(by cases a),fun a=>(hno a).elim⟩,fun q' a b=>.inr ?_,fun a=>(hno a).elim⟩
      ·cases a
       show qke ((r.g+1)*64+q.slot) (x.slab.recs.set j _)
       refine ⟨_,by rw [i1,Int.toNat_natCast];exact get_set_same hr,?_⟩
       rw [i2];exact Int.le_refl _
      ·cases a;rfl
      ·cases a
       refine ⟨r,?_,?_⟩
       ·show x.slab.recs[(((r.g+1)*64+q.slot) % 64).toNat]?=_
        rw [i1,Int.toNat_natCast];exact hr
       ·show r.g<((r.g+1)*64+q.slot) / 64
        rw [i2];omega
     ·refine calm x.slab { q with slot:=(q.slot+1) % x.slab.recs.length } ?_ rfl (by show q.st≠2;omega)
      rw [er];unfold Jd;simp only [hgd];rw [if_neg hz]
 | queues =>
   obtain ⟨t,ht⟩:=Option.isSome_iff_exists.1 (show k.tk.isSome=true from hf);obtain ⟨i,t⟩:=t;have hi:=(hk.tk i t ht).2;have hsh:=List.getElem?_eq_getElem hi
   have e:Xq .queues (k,x)=Q8 (k,x) i t x.shs[i]:=by
    show (match k.tk with | none=>_ | some (i,t)=>_)=_
    rw [ht];simp only [hsh]
   rw [e];have hq2:k.kind≤2→∃ q,k.rq=some q∧q.st=2:=fun a=>h.st2 a rfl
   unfold Q8;simp only [];split
   ·exact .calm h hsame rfl rfl rfl (.inr ⟨rfl,rfl,rfl⟩) (fun a _=>hq2 a) (fun a=>by cases a) (fun a=>by cases a)
   ·split
    ·exact .calm3 h rfl hsame rfl rfl rfl (.inl ⟨rfl,rfl⟩)
    ·split
     ·exact .calm3 h rfl hsame rfl rfl rfl (.inr ⟨rfl,rfl,rfl⟩)
     ·split
      ·exact .calm3 h rfl hsame rfl rfl rfl (.inr ⟨rfl,rfl,rfl⟩)
      ·exact .calm h hsame rfl rfl rfl (.inr ⟨rfl,rfl,rfl⟩) (fun a _=>hq2 a) (fun a=>by cases a) (fun a=>by cases a)
 | submits =>
   have hq2:k.kind≤2→∃ q,k.rq=some q∧q.st=2:=fun a=>h.st2 a rfl
   exact .calm h (qe4 hs k.slot (x.slab.word k.slot) 2 (by decide)) rfl rfl rfl (.inr ⟨rfl,rfl,rfl⟩) (fun a _=>hq2 a) (fun a=>by cases a) (fun a=>by cases a)
 | fills =>
   have e:(Xq .fills (k,x)).2.2.slab=x.slab∧(Xq .fills (k,x)).2.1.rq=k.rq∧(Xq .fills (k,x)).2.1.kind=k.kind∧(Xq .fills (k,x)).2.1.id=k.id∧(Xq .fills (k,x)).2.1.aid=k.id∧(Xq .fills (k,x)).2.1.err=0∧(Xq .fills (k,x)).2.1.ok=true:=by
    show (Xh (Ze (k,x)) (k,x)).2.slab=x.slab∧(okC (Xh (Ze (k,x)) (k,x)).1).rq=k.rq∧(okC (Xh (Ze (k,x)) (k,x)).1).kind=k.kind∧(okC (Xh (Ze (k,x)) (k,x)).1).id=k.id∧(okC (Xh (Ze (k,x)) (k,x)).1).aid=k.id∧(0:Int)=0∧true=true
    unfold Xh;split
    ·exact ⟨rfl,rfl,rfl,rfl,rfl,rfl,rfl⟩
    ·split <;> exact ⟨rfl,rfl,rfl,rfl,rfl,rfl,rfl⟩
   have e0:(Xq .fills (k,x)).1=Xj:=rfl;have h3:1≤k.kind∧k.kind≤3:=h1;generalize Xq .fills (k,x)=r at e e0;obtain ⟨s',k',x'⟩:=r;obtain ⟨e1,e2,e3,e4,e5,e6,e7⟩:=e;simp only at e0 e1 e2 e3 e4 e5 e6 e7;subst e0;refine ⟨.same (by show x'.slab.recs=_;rw [e1]),⟨fun q a b=>?_,fun a q b d=>?_,fun _ a=>(by cases a),fun _=>⟨e6,by show k'.aid=k'.id;rw [e5,e4],fun a=>?_⟩,fun a=>(by rw [show k'.ok=true from e7] at a;cases a),fun a=>(by cases a),fun a=>(by cases a),fun _ a=>(by have:k'.kind=4:=a;omega)⟩,fun q a b=>.inl ⟨q,e2 ▸ a,b,rfl⟩,fun _ a=>(by have:k'.kind=4:=a;omega)⟩
   ·show qke q.id x'.slab.recs
    rw [e1];exact h.giv q (e2 ▸ a) b
   ·show k'.id=_
    rw [e4];exact h.idq (e3 ▸ a) q (e2 ▸ b) d
   ·obtain ⟨q,f,g⟩:=h.st2 (e3 ▸ a) rfl
    exact ⟨q,by show k'.rq=_;rw [e2,f],g,by show k'.aid=_;rw [e5];exact h.idq (e3 ▸ a) q f g⟩
 | looks =>
   have e:Xq .looks (k,x)=(if (Qp (k,x)).2=0 then (if k.kind=3 then (.at none .queues,({ (Qp (k,x)).1.1 with tk:=some (Zk (Qp (k,x)).1.1.slot x,Qx) },x)) else (.at none .tries,(Qp (k,x)).1)) else if (Qp (k,x)).2=1 then (Q2 k,Qf 1 (Qp (k,x)).1) else (Q2 k,Qf 0 (Qp (k,x)).1)):=rfl;have hk3:3≤k.kind∧k.kind≤5:=h1;obtain ⟨l1,l2,l3,l4,l5,l6⟩:=qa4 k x.slab;rw [e];split
   ·next hl =>
    split
    ·exact .calm h hsame l1 l2 l3 (.inr ⟨l4,l5,l6⟩) (fun a=>by omega) (fun a=>by cases a) (fun a=>by cases a)
    ·exact .calm h hsame l1 l2 l3 (.inr ⟨l4,l5,l6⟩) (fun a=>by omega) (fun _=>qem hl hk.id.1) (fun a=>by cases a)
   ·split
    ·exact .calm3 h (qb0 k) hsame l1 l2 l3 (.inl ⟨rfl,rfl⟩)
    ·exact .calm3 h (qb0 k) hsame l1 l2 l3 (.inl ⟨rfl,rfl⟩)
 | again =>
   have e:Xq .again (k,x)=(if (Qp (k,x)).2=0 then (.at none .tries,(Qp (k,x)).1) else (.thn (.row1 .again1) .leaves,Qf 0 (Qp (k,x)).1)):=rfl;have hk3:k.kind=3:=h1;obtain ⟨l1,l2,l3,l4,l5,l6⟩:=qa4 k x.slab;rw [e];split
   ·next hl=>exact .calm h hsame l1 l2 l3 (.inr ⟨l4,l5,l6⟩) (fun a=>by omega) (fun _=>qem hl hk.id.1) (fun a=>by cases a)
   ·exact .calm3 h rfl hsame l1 l2 l3 (.inl ⟨rfl,rfl⟩)
 | tries =>
   have hk3:3≤k.kind∧k.kind≤5:=h1
   have e:Xq .tries (k,x)=(if (Xc (k,x)).2≠0 then (if k.kind=3 then (.at none .again,(Xc (k,x)).1) else (.at none .looks,(Xc (k,x)).1))
    else (if k.kind=3 then (.at none .fills,Zi { ev0 with kind:=6,id:=k.id,gen:=(Xc (k,x)).1.1.gen,dl:=k.cdl } (okC (Xc (k,x)).1.1,(Xc (k,x)).1.2))
    else if k.kind=5 then (.row1 .ends1,Zi { ev0 with kind:=8,id:=k.id,gen:=(Xc (k,x)).1.1.gen } (okC (Xc (k,x)).1.1,(Xc (k,x)).1.2))
    else (.thn (.row2 .tries1 .drop) .ends,Zi { ev0 with kind:=7,id:=k.id,gen:=(Xc (k,x)).1.1.gen } (okC (Xc (k,x)).1.1,(Xc (k,x)).1.2)))):=rfl
   have hev:k.event=if k.kind=4 then 6 else if k.kind=5 then 7 else 8:=rfl
   have hev1:k.event≠1:=by rw [hev];split <;> first | decide | (split <;> decide)
   have hch:=qe4 hs k.slot k.saw k.event hev1;have hsaw:=h.saw rfl;rcases Yv hs k.slot k.saw k.event with ⟨t1,t2⟩ | ⟨t1,j,r,w',t2,t3,t4,t5,t6,t7,t8⟩
   ·rw [e,if_pos (show (Xc (k,x)).2≠0 from t1)]
    split
    ·exact .calm3 h rfl hch rfl rfl rfl (.inr ⟨rfl,rfl,rfl⟩)
    ·exact .calm3 h rfl hch rfl rfl rfl (.inr ⟨rfl,rfl,rfl⟩)
   ·have hst:=qbe t5 (show k.event=6∨k.event=7∨k.event=8 by rw [hev];split <;> first | exact .inl rfl | (split <;> first | exact .inr (.inl rfl) | exact .inr (.inr rfl))) t6
    obtain ⟨s0,r0,s1,s2,s3⟩:=hsaw;have hj:(k.id % 64).toNat=j:=by rw [← s0,t2,Int.toNat_natCast]
    have hrr:r0=r:=by rw [hj,t3] at s1;exact (Option.some.inj s1).symm
    subst hrr;have hg:=s3 t4
    have hrec:(Xc (k,x)).1.2.slab.recs=x.slab.recs.set j { r0 with w:=w' }:=by
     show (x.slab.try k.slot k.saw k.event).1.recs=_
     rw [t7]
    rw [e,if_neg (show ¬ (Xc (k,x)).2≠0 from fun h=>h t1)];have hgiv:∀ {z:List Rec} q,J7 x.slab.recs z→k.rq=some q→q.st=2→qke q.id z:=fun q c a b=>(h.giv q a b).ch c
    split
    ·exact ⟨hch,⟨fun q a b=>hgiv q hch a b,fun a=>(by have:k.kind≤2:=a;omega),fun a=>(by have:k.kind≤2:=a;omega),fun _=>⟨rfl,rfl,fun a=>(by have:k.kind≤2:=a;omega)⟩,fun a=>(by cases a),fun a=>(by cases a),fun a=>(by cases a),fun _ a=>(by have:k.kind=4:=a;omega)⟩,fun q a b=>.inl ⟨q,a,b,rfl⟩,fun _ a=>(by have:k.kind=4:=a;omega)⟩
    ·split
     ·exact ⟨hch,⟨fun q a b=>hgiv q hch a b,fun a=>(by have:k.kind≤2:=a;omega),fun a=>(by have:k.kind≤2:=a;omega),fun _=>⟨rfl,rfl,fun a=>(by have:k.kind≤2:=a;omega)⟩,fun a=>(by cases a),fun a=>(by cases a),fun a=>(by cases a),fun _ a=>(by have:k.kind=4:=a;omega)⟩,fun q a b=>.inl ⟨q,a,b,rfl⟩,fun _ a=>(by have:k.kind=4:=a;omega)⟩
     ·next k3 k5 =>
      have k4:k.kind=4:=by omega
      refine ⟨hch,⟨fun q a b=>hgiv q hch a b,fun a=>(by have:k.kind≤2:=a;omega),fun a=>(by have:k.kind≤2:=a;omega),fun _=>⟨rfl,rfl,fun a=>(by have:k.kind≤2:=a;omega)⟩,fun a=>(by cases a),fun a=>(by cases a),fun a=>(by cases a),fun _ a=>?_⟩,fun q a b=>.inl ⟨q,a,b,rfl⟩,fun _ a=>.inr ⟨r0,s1,hg,hst.1⟩⟩
      show qf3 k.id (Xc (k,x)).1.2.slab.recs
      rw [hrec];exact ⟨{ r0 with w:=w' },by rw [hj];exact get_set_same t3,.inr ⟨hg,.inl (hst.2.2 (by rw [hev,if_pos k4]))⟩⟩
theorem qi5 {s:SC} (hj:JC N s (k,x)) (h1:qgb s k) (h:qb2 s k x.slab.recs):qbr k x (Xn s (k,x)):=by
 obtain ⟨hc,hk,hf⟩:=hj;simp only at hc hk hf;have hs:=hc.slab;have hdrop:x.slab.drop.1.recs=x.slab.recs:=by unfold Qg.drop;split <;> rfl
 match s,hf,h1,h with
 | .nil,_,_,h=>exact .calm3 h rfl (.same rfl) rfl rfl rfl (.inr ⟨rfl,rfl,rfl⟩)
 | .at none m,hf,h1,h=>exact qjn hc hk m hf h1 h
 | .row1 .ends1,_,_,h=>exact .calm3 h rfl (.same rfl) rfl rfl rfl (.inr ⟨rfl,rfl,rfl⟩)
 | .thn (.row1 .leaves1) .ends,_,_,h=>exact .calm3 h rfl (.same rfl) rfl rfl rfl (.inr ⟨rfl,rfl,rfl⟩)
 | .thn (.row2 .undo .drop) .leaves,_,_,h=>exact .calm3 h rfl (qe4 hs k.slot (x.slab.word k.slot) 9 (by decide)) rfl rfl rfl (.inl ⟨rfl,rfl⟩)
 | .thn (.row1 .drop) .leaves,_,_,h=>exact .calm3 h rfl (.same hdrop) rfl rfl rfl (.inr ⟨rfl,rfl,rfl⟩)
 | .thn (.row1 .again1) .leaves,_,_,h =>
   have e:∀ v,(Xh v (k,x)).2.slab=x.slab∧(Xh v (k,x)).1.rq=k.rq∧(Xh v (k,x)).1.kind=k.kind∧(Xh v (k,x)).1.id=k.id∧(Xh v (k,x)).1.ok=k.ok∧(Xh v (k,x)).1.aid=k.aid∧(Xh v (k,x)).1.err=k.err:=fun v=>by
    unfold Xh;split
    ·exact ⟨rfl,rfl,rfl,rfl,rfl,rfl,rfl⟩
    ·split <;> exact ⟨rfl,rfl,rfl,rfl,rfl,rfl,rfl⟩
   obtain ⟨e1,e2,e3,e4,e5,e6,e7⟩:=e { Qn.zero with slot:=-1 };exact .calm3 h rfl (.same (by show (Xh _ (k,x)).2.slab.recs=_;rw [e1])) e2 e3 e4 (.inr ⟨e5,e6,e7⟩)
 | .thn (.row2 .tries1 .drop) .ends,_,_,h=>exact .calm3 h rfl (qe4 hs k.slot (x.slab.word k.slot) 10 (by decide)) rfl rfl rfl (.inr ⟨rfl,rfl,rfl⟩)
 | .thn (.row1 .drop) .ends,_,_,h=>exact .calm3 h rfl (.same hdrop) rfl rfl rfl (.inr ⟨rfl,rfl,rfl⟩)
end
structure CJ where
 kb:Nat
 n:Int
 s:SC
 k:Ql
structure OI (N:Nat) (js:List CJ) (x:Qk):Prop where
 core:Xo N x
 job:∀ (a:Nat) (j:CJ),js[a]?=some j→Xk N j.k x∧qgp j.s j.k∧qgb j.s j.k∧qam j.s j.k∧qb2 j.s j.k x.slab.recs∧0≤j.n∧j.n≤N
 ins:x.f.inside=qk (js.map fun j=>q6 j.s j.k)
 rg:RgI (js.map fun j=>j.k.tk) x.rg
 cnt:x.slab.count=X8 x.slab.recs+qk (js.map fun j=>Xw j.s j.k)
 own:OwI (js.map fun j=>qcw j.s j.k) x.slab.recs
 gen:Y3 N x.slab.recs
 giv:∀ (a b:Nat) (ja jb:CJ) (q r:Req),js[a]?=some ja→js[b]?=some jb→ja.k.rq=some q→q.st=2→jb.k.rq=some r→r.st=2→q.id=r.id→a=b
 dead:∀ (a b:Nat) (ja jb:CJ),js[a]?=some ja→js[b]?=some jb→ja.k.ok=true→ja.k.kind=4→jb.k.ok=true→jb.k.kind=4→ja.k.aid=jb.k.aid→a=b
 cap:x.slab.recs.length≤12
section
variable {N:Nat} {js:List CJ} {x:Qk} {a:Nat} {j:CJ}
theorem qff {f:Prop} {k k':Ql} {x x':Qk} (e:qjx f k k' x x'):x'.shs.length=x.shs.length:=by
 cases e with
 | none h1 _=>rw [h1]
 | new h1 _ _ _ _=>rw [h1]
 | step i t s _ _ _ _ h1 _=>rw [h1,List.length_set]
 | fill i t s v _ _ _ _ _ h1 _=>rw [h1,List.length_set]
theorem qdo (s:SC) (k:Ql):0≤q6 s k:=qkj (.call s k)
theorem qb1 (s:SC) (k:Ql):0≤Xw s k:=qi8 (.call s k)
def CJ.step (j:CJ) (x:Qk):CJ:={ j with n:=j.n+1,s:=(Xn j.s (j.k,x)).1,k:=(Xn j.s (j.k,x)).2.1 }
def CJ.next (j:CJ) (x:Qk):Qk:=(Xn j.s (j.k,x)).2.2
theorem OI.jc (h:OI N js x) (ha:js[a]?=some j):JC N j.s (j.k,x):=⟨h.core,(h.job a j ha).1,(h.job a j ha).2.1⟩
theorem OI.step (h:OI N js x) (ha:js[a]?=some j):OI (N+1) (js.set a (j.step x)) (j.next x):=by
 have hj:=h.jc ha;obtain ⟨w1,w2,w3,w4,w5,w6,w7⟩:=h.job a j ha;have hin:q6 j.s j.k≤x.f.inside:=by rw [h.ins];exact Yd (f:=fun j:CJ=>q6 j.s j.k) (fun x=>qdo _ _) ha
 have hp:Xw j.s j.k≤x.slab.count:=by
  have:=Yd (f:=fun j:CJ=>Xw j.s j.k) (fun x=>qb1 _ _) ha;have:=h.cnt;omega
 have hO:∀ i e,qcw j.s j.k=some (i,e)→∃ r,x.slab.recs[i]?=some r∧stW r.w=e:=fun i e he=>(h.own.own a i e (by rw [zh ha,he])).2
 have g:=qig hj w3 w4 hin;have sl:=qjy hj w3 hO hp;have o:=qi5 hj w3 w5;have n:=hj.step;have hlen:(j.next x).slab.recs.length=x.slab.recs.length:=sl.le.len;have hshs:(j.next x).shs.length=x.shs.length:=qff g.eff;refine ⟨n.core,fun b jb hb=>?_,?_,?_,?_,?_,sl.gen N h.gen,fun b c jb jc q r hb hc e1 e2 e3 e4 e5=>?_,fun b c jb jc hb hc e1 e2 e3 e4 e5=>?_,by rw [hlen];exact h.cap⟩
 ·rcases Xb hb with ⟨_,rfl⟩ | ⟨_,hb⟩
  ·exact ⟨n.work,n.fit,g.fit,g.tk,o.own,by show 0≤j.n+1;omega,by show j.n+1≤_;omega⟩
  ·obtain ⟨v1,v2,v3,v4,v5,v6,v7⟩:=h.job b jb hb
   exact ⟨(v1.mono (by omega)).core hlen hshs,v2,v3,v4,v5.ch o.ch,v6,by omega⟩
 ·rw [qv (f:=fun j:CJ=>q6 j.s j.k) ha,← h.ins]
  have:=g.ins
  show (Xn j.s (j.k,x)).2.2.f.inside=x.f.inside - q6 j.s j.k+q6 (Xn j.s (j.k,x)).1 (Xn j.s (j.k,x)).2.1
  omega
 ·rw [qey]
  exact qhi h.rg (zh ha) w1 g.eff
 ·rw [qv (f:=fun j:CJ=>Xw j.s j.k) ha]
  have:=sl.cnt;have:=h.cnt
  show (Xn j.s (j.k,x)).2.2.slab.count=X8 (Xn j.s (j.k,x)).2.2.slab.recs+(qk (js.map fun j:CJ=>Xw j.s j.k) - Xw j.s j.k+Xw (Xn j.s (j.k,x)).1 (Xn j.s (j.k,x)).2.1)
  omega
 ·rw [qey]
  exact h.own.eff (zh ha) sl.eff
 ·-- numbers that were given
  have key:∀ (c:Nat) (jc:CJ) (r q':Req),js[c]?=some jc→jc.k.rq=some r→r.st=2→(j.step x).k.rq=some q'→q'.st=2→q'.id=r.id→a=c:=fun c jc r q' hc f1 f2 f3 f4 f5=>by
   rcases o.giv q' f3 f4 with ⟨q0,i1,i2,i3⟩ | ⟨r0,i1,i2⟩
   ·exact h.giv a c j jc q0 r ha hc i1 i2 f1 f2 (by rw [i3,f5])
   ·exfalso
    obtain ⟨r1,k1,k2⟩:=(h.job c jc hc).2.2.2.2.1.giv r f1 f2;rw [f5] at i1 i2;rw [i1] at k1;cases k1;omega
  rcases Xb hb with ⟨b1,b2⟩ | ⟨hne,hb2⟩
  ·rcases Xb hc with ⟨c1,c2⟩ | ⟨hne2,hc2⟩
   ·rw [b1,c1]
   ·rw [b1];subst b2;exact key c jc r q hc2 e3 e4 e1 e2 e5
  ·rcases Xb hc with ⟨c1,c2⟩ | ⟨hne2,hc2⟩
   ·rw [c1];subst c2;exact (key b jb q r hb2 e1 e2 e3 e4 e5.symm).symm
   ·exact h.giv b c jb jc q r hb2 hc2 e1 e2 e3 e4 e5
 ·-- numbers that were cancelled
  have key:∀ (c:Nat) (jc:CJ),js[c]?=some jc→jc.k.ok=true→jc.k.kind=4→(j.step x).k.ok=true→(j.step x).k.kind=4→(j.step x).k.aid=jc.k.aid→a=c:=fun c jc hc f1 f2 f3 f4 f5=>by
   have hk:(j.step x).k.kind=j.k.kind:=g.kind;rcases o.dead f3 f4 with ⟨i1,i2⟩ | ⟨r0,i1,i2,i3⟩
   ·exact h.dead a c j jc ha hc i1 (by rw [← hk];exact f4) f1 f2 (i2.trans f5)
   ·exfalso
    have f5:(Xn j.s (j.k,x)).2.1.aid=jc.k.aid:=f5;obtain ⟨r1,k1,k2⟩:=(h.job c jc hc).2.2.2.2.1.dead f1 f2;rw [f5] at i1 i2;rw [i1] at k1;cases k1;omega
  rcases Xb hb with ⟨b1,b2⟩ | ⟨hne,hb2⟩
  ·rcases Xb hc with ⟨c1,c2⟩ | ⟨hne2,hc2⟩
   ·rw [b1,c1]
   ·rw [b1];subst b2;exact key c jc hc2 e3 e4 e1 e2 e5
  ·rcases Xb hc with ⟨c1,c2⟩ | ⟨hne2,hc2⟩
   ·rw [c1];subst c2;exact (key b jb hb2 e1 e2 e3 e4 e5.symm).symm
   ·exact h.dead b c jb jc hb2 hc2 e1 e2 e3 e4 e5
theorem OI.keep (h:OI N js x) (ha:js[a]?=some j):(j.next x).slab.recs.length=x.slab.recs.length∧(j.next x).shs.length=x.shs.length:=by
 have hj:=h.jc ha;obtain ⟨w1,w2,w3,w4,_⟩:=h.job a j ha;have hin:q6 j.s j.k≤x.f.inside:=by rw [h.ins];exact Yd (f:=fun j:CJ=>q6 j.s j.k) (fun x=>qdo _ _) ha
 have hp:Xw j.s j.k≤x.slab.count:=by
  have:=Yd (f:=fun j:CJ=>Xw j.s j.k) (fun x=>qb1 _ _) ha;have:=h.cnt;omega
 have hO:∀ i e,qcw j.s j.k=some (i,e)→∃ r,x.slab.recs[i]?=some r∧stW r.w=e:=fun i e he=>(h.own.own a i e (by rw [zh ha,he])).2
 exact ⟨(qjy hj w3 hO hp).le.len,qff (qig hj w3 w4 hin).eff⟩
theorem OI.mono {M:Nat} (h:OI N js x) (hm:N≤M):OI M js x :=
 ⟨h.core.mono hm,fun b jb hb=>by
   obtain ⟨v1,v2,v3,v4,v5,v6,v7⟩:=h.job b jb hb
   exact ⟨v1.mono hm,v2,v3,v4,v5,v6,by omega⟩,h.ins,h.rg,h.cnt,h.own,fun r hr=>by have:=h.gen r hr;omega,h.giv,h.dead,h.cap⟩
theorem OI.begin (h:OI N js x) (th no:Int) (c:Q9) (kb:Nat) (h1:1≤c.kind) (h5:c.kind≤5) (c0:0≤c.id∧c.id<18446744073709551616) (c1:0≤c.dl∧c.dl<18446744073709551616) (c2:0≤c.per∧c.per<18446744073709551616) (E:EvS) :
 OI (N+1) (js++[⟨kb,0,Qu c.kind,Zj th no c⟩]) (Yj (Zj th no c) E x):=by
 have hfirst:Qu c.kind=.at none .right∧(c.kind=1∨c.kind=2)∨Qu c.kind=.at none .enter∧c.kind=3∨Qu c.kind=.at none .gate∧(c.kind=4∨c.kind=5):=by
  unfold Qu;split
  ·exact .inl ⟨rfl,by assumption⟩
  ·split
   ·exact .inr (.inl ⟨rfl,by assumption⟩)
   ·exact .inr (.inr ⟨rfl,by omega⟩)
 have hF:qgp (Qu c.kind) (Zj th no c)∧qgb (Qu c.kind) (Zj th no c)∧qam (Qu c.kind) (Zj th no c)∧q6 (Qu c.kind) (Zj th no c)=0∧Xw (Qu c.kind) (Zj th no c)=0∧qcw (Qu c.kind) (Zj th no c)=none∧qi1 (Qu c.kind)=0:=by
  have hfr:Jl (Zj th no c):=fun i t ht=>by cases ht
  rcases hfirst with ⟨e,e2⟩ | ⟨e,e2⟩ | ⟨e,e2⟩ <;> rw [e]
  ·exact ⟨trivial,e2,hfr,rfl,rfl,rfl,rfl⟩
  ·exact ⟨trivial,by show 1≤c.kind∧c.kind≤3;omega,hfr,rfl,rfl,rfl,rfl⟩
  ·refine ⟨trivial,⟨h1,h5⟩,hfr,?_,rfl,rfl,rfl⟩
   show (if c.kind≤3 then (1:Int) else 0)=0
   rw [if_neg (by omega)]
 obtain ⟨f1,f2,f3,f4,f5,f6,f7⟩:=hF;have hn:∀ (b:Nat) (jb:CJ),(js++[⟨kb,0,Qu c.kind,Zj th no c⟩])[b]?=some jb→(b<js.length∧js[b]?=some jb)∨(b=js.length∧jb=⟨kb,0,Qu c.kind,Zj th no c⟩):=fun b jb hb=>ql9 hb
 have hsl:=h.core.slab;refine ⟨Zg h.core E,fun b jb hb=>?_,?_,?_,?_,?_,fun r hr=>by have:=h.gen r hr;omega,fun b d jb jd q r hb hd e1 e2 e3 e4 e5=>?_,fun b d jb jd hb hd e1 e2 e3 e4 e5=>?_,h.cap⟩
 ·rcases hn b jb hb with ⟨_,hb⟩ | ⟨_,rfl⟩
  ·obtain ⟨v1,v2,v3,v4,v5,v6,v7⟩:=h.job b jb hb
   exact ⟨(v1.mono (by omega)).core rfl rfl,v2,v3,v4,v5,v6,by omega⟩
  ·refine ⟨⟨c1,c2,c0,by show (0:Int)≤0;decide,by show (0:Int)≤0∧(0:Int) < _∧okW 0=true;decide,fun q hq=>(by cases hq),fun i t ht=>(by cases ht)⟩,f1,f2,f3,?_,Int.le_refl _,by show (0:Int)≤_;omega⟩
   exact ⟨fun q hq=>(by cases hq),fun _ q hq=>(by cases hq),fun _ e=>(by rw [f7] at e;cases e),fun e=>(by cases e),fun _=>rfl,fun e=>(by rw [f7] at e;cases e),fun _=>rfl,fun e=>(by cases e)⟩
 ·rw [qew (f:=fun j:CJ=>q6 j.s j.k)]
  show x.f.inside=_+q6 (Qu c.kind) (Zj th no c)
  rw [f4,h.ins];omega
 ·rw [List.map_append]
  exact h.rg.snoc (fun i t e=>by cases e)
 ·rw [qew (f:=fun j:CJ=>Xw j.s j.k)]
  show x.slab.count=X8 x.slab.recs+(_+Xw (Qu c.kind) (Zj th no c))
  rw [f5,h.cnt];omega
 ·rw [List.map_append]
  show OwI (_++[qcw (Qu c.kind) (Zj th no c)]) _
  rw [f6];exact h.own.snoc
 ·rcases hn b jb hb with ⟨_,hb⟩ | ⟨_,rfl⟩
  ·rcases hn d jd hd with ⟨_,hd⟩ | ⟨_,rfl⟩
   ·exact h.giv b d jb jd q r hb hd e1 e2 e3 e4 e5
   ·cases e3
  ·cases e1
 ·rcases hn b jb hb with ⟨_,hb⟩ | ⟨_,rfl⟩
  ·rcases hn d jd hd with ⟨_,hd⟩ | ⟨_,rfl⟩
   ·exact h.dead b d jb jd hb hd e1 e2 e3 e4 e5
   ·cases e3
  ·cases e1
theorem OI.pop (h:OI N js x) {i:Nat} {s:Qy} (hs:x.shs[i]?=some s):OI (N+1) js { x with shs:=x.shs.set i { s with ring:=(J0 s.ring).1 } }:=by
 have hr:x.rg i=some s.ring:=by unfold Qk.rg;rw [hs];rfl
 have hrn:=h.core.ring s (List.mem_of_getElem? hs);by_cases hp:s.ring.ready=true
 ·obtain ⟨k1,k2,k3,k4,k5,k6⟩:=qlo (h.rg.ring i s.ring hr) hp
  have hsl:(J0 s.ring).1.slots.length=s.ring.slots.length:=by unfold J0;rw [if_pos hp];simp
  refine ⟨⟨h.core.slab,h.core.i0,by have:=h.core.i1;show x.f.inside≤_;omega,by have:=h.core.tr;show x.tr.length≤_;omega,by show 1≤(x.shs.set i _).length;rw [List.length_set];exact h.core.sh,qbd (h.core.rings (by omega)) ⟨by show 1≤(J0 s.ring).1.slots.length;rw [hsl];exact hrn.n0,by show (J0 s.ring).1.slots.length≤64;rw [hsl];exact hrn.n1,by show 0≤(J0 s.ring).1.tail;rw [k4];exact hrn.t0,by show (J0 s.ring).1.tail≤_;rw [k4];have:=hrn.t1;omega,by show 0≤(J0 s.ring).1.head;rw [k3];have:=hrn.h0;omega,by show (J0 s.ring).1.head≤_;rw [k3];have:=hrn.h1;omega⟩⟩,fun b jb hb=>?_,h.ins,?_,h.cnt,h.own,fun r hr=>by have:=h.gen r hr;omega,h.giv,h.dead,h.cap⟩
  ·obtain ⟨v1,v2,v3,v4,v5,v6,v7⟩:=h.job b jb hb
   exact ⟨(v1.mono (by omega)).core rfl (by show (x.shs.set i _).length=_;rw [List.length_set]),v2,v3,v4,v5,v6,by omega⟩
  ·rw [qhw hs rfl]
   exact h.rg.pop hr hp
 ·have e:(J0 s.ring).1=s.ring:=by unfold J0;rw [if_neg hp]
  have e2:x.shs.set i { s with ring:=(J0 s.ring).1 }=x.shs:=by
   rw [e];exact qg6 hs
  rw [e2];exact h.mono (by omega)
theorem oi0 {c:Cfg} (hk:c.ok=true) (hc:c.cap.toNat≤12):OI 0 [] (qfr c):=by
 obtain ⟨b1,b2,b3,b4,b5,b6⟩:=Cfg.bd hk;have hl:=qmr c hk;have hs:=sl0 c hk;refine ⟨qho hk,fun a j ha=>(by cases ha),rfl,hl.rg,hs.cnt,⟨fun a k e ha=>(by cases ha),fun a b k e f ha=>(by cases ha)⟩,hs.gen,fun a b ja jb q r ha=>(by cases ha),fun a b ja jb ha=>(by cases ha),?_⟩
 show (List.replicate c.cap.toNat Rec.zero).length≤12
 rw [List.length_replicate];exact hc
theorem qko {rs:List Rec} (h:X8 rs<rs.length):∃ r∈rs,Xz r=false:=by
 refine Classical.byContradiction fun hc=>?_
 have:X8 rs=rs.length:=List.countP_eq_length.2 fun r hr=>by
  cases hb:Xz r with
  | true=>rfl
  | false=>exact absurd ⟨r,hr,hb⟩ hc
 omega
theorem qfe (s:SC) (k:Ql) (x:Qk) (hn:x.slab.recs.length≤12):0≤Xp s k x∧Xp s k x≤400:=by
 unfold Xp;split
 case h_9=>have:=qgr (Yn x.slab k.slot k.saw k.event);split <;> omega
 case h_12=>split <;> omega
 case h_13 =>
  unfold qdn;split
  ·omega
  ·split
   ·omega
   ·split <;> split <;> omega
 case h_14 =>
  unfold qbc;split
  ·omega
  ·have:=Z2 x.slab.recs x.slab.recs.length
   rename_i q _
   have:=this q.slot.toNat;split
   ·omega
   ·split
    ·split <;> omega
    ·omega
 all_goals omega
theorem qkg {f:Prop} {k k':Ql} {x x':Qk} (e:qjx f k k' x x'):qgo x≤qgo x':=by
 cases e with
 | none h1 _=>rw [Jv h1];exact Int.le_refl _
 | new h1 _ _ _ _=>rw [Jv h1];exact Int.le_refl _
 | step i t s _ _ _ hs h1 _ =>
   rw [qb5 hs h1];obtain ⟨a,b⟩:=qia s.ring t
   show _≤_ - (s.ring.tail - s.ring.head)+((stepT s.ring t).1.tail - (stepT s.ring t).1.head)
   omega
 | fill i t s v _ _ _ hs _ h1 _ =>
   rw [qb5 hs h1];obtain ⟨a,b⟩:=qgy s.ring t v
   show _≤_ - (s.ring.tail - s.ring.head)+((Xi s.ring t v).1.tail - (Xi s.ring t v).1.head)
   omega
theorem OI.cost (h:OI N js x) (ha:js[a]?=some j) (hs:j.s≠.nil) (hN:N<1000000):Xp (j.step x).s (j.step x).k (j.next x)+1≤Xp j.s j.k x:=by
 have hj:=h.jc ha;obtain ⟨w1,w2,w3,w4,w5,_⟩:=h.job a j ha;have hin:q6 j.s j.k≤x.f.inside:=by rw [h.ins];exact Yd (f:=fun j:CJ=>q6 j.s j.k) (fun x=>qdo _ _) ha
 have hp:Xw j.s j.k≤x.slab.count - X8 x.slab.recs:=by
  have:=Yd (f:=fun j:CJ=>Xw j.s j.k) (fun x=>qb1 _ _) ha;have:=h.cnt;omega
 have hO:∀ i e,qcw j.s j.k=some (i,e)→∃ r,x.slab.recs[i]?=some r∧stW r.w=e:=fun i e he=>(h.own.own a i e (by rw [zh ha,he])).2
 have g:=qig hj w3 w4 hin
 have hR:∀ s∈x.shs,Yw s.ring:=fun s hs=>by
  obtain ⟨i,hi⟩:=List.mem_iff_getElem?.1 hs;exact h.rg.ring i s.ring (by unfold Qk.rg;rw [hi];rfl)
 obtain ⟨c,hst,hc⟩:=qjp (M:=N) hj w3 w4 hs hO hR h.cap h.gen (by omega) (by omega) (fun _ h1=>qko (by have:=h.core.slab.c1;omega));have hc0:0≤c:=(qmu hst h.cap .nil j.k).2;have he:=qkg g.eff;have hc:Xp (Xn j.s (j.k,x)).1 (Xn j.s (j.k,x)).2.1 (Xn j.s (j.k,x)).2.2+1+4*c+216*(qgo (Xn j.s (j.k,x)).2.2 - qgo x)≤Xp j.s j.k x:=hc
 show Xp (Xn j.s (j.k,x)).1 (Xn j.s (j.k,x)).2.1 (Xn j.s (j.k,x)).2.2+1≤_
 omega
end
def qd8 (L:Lay) (js:List CJ) (g:List Blk):Prop:=qcg (fun (j:CJ) g=>Ya L j.kb j.s j.n j.k g) js g
def X9 (js:List CJ):List Value:=js.map fun j=>Qd j.kb
section
variable {L:Lay} {N:Nat} {js:List CJ} {x:Qk} {gJ gF g:List Blk} {a:Nat} {j:CJ} {kb:Nat} {s:SC} {n:Int} {k:Ql}
theorem qh1 {s:SC} (h:s≠.nil):s.isNil=false:=by cases s with
 | nil=>exact absurd rfl h
 | _=>rfl
theorem qis (hj:qd8 L js gJ) (hx:Qh L x gF) (h:OI N js x) (ha:js[a]?=some j) (hs:j.s≠.nil) (hN:N<999998) :
 Qa prog 16 #[Qd j.kb] [gJ,gF] fun e gs=>∃ gJ' gF',e=.returned (.bool true)∧qd8 L (js.set a (j.step x)) gJ'∧Qh L (j.next x) gF'∧gs=[gJ',gF']:=by
 have hjc:=h.jc ha;obtain ⟨_,_,_,_,_,n0,n1⟩:=h.job a j ha;refine (qbk (rest:=[gF]) (R:=fun e a' rest'=>e=.returned (.bool true)∧a'=j.step x∧∃ gz,Qh L (j.next x) gz∧rest'=[gz]) hj ha (fun ga hga=>(qek hga hx (hjc.pre (by omega)) (qh1 hs) ⟨n0,by omega⟩).mono ?_)).mono ?_
 ·rintro e gs ⟨g',gF',rfl,h1,h2,rfl⟩
  exact ⟨_,g',[gF'],⟨rfl,rfl,gF',h2,rfl⟩,h1,rfl⟩
 ·rintro e gs ⟨a',g',rest',⟨rfl,rfl,gz,h1,rfl⟩,h2,rfl⟩
  exact ⟨g',gz,rfl,h2,h1,rfl⟩
theorem Y5 (hj:qd8 L js gJ) (hx:Qh L x gF) (ha:js[a]?=some j) (hs:j.s=.nil) :
 Qa prog 16 #[Qd j.kb] [gJ,gF] fun e gs=>∃ gJ' gF',e=.returned (.bool false)∧qd8 L js gJ'∧Qh L x gF'∧gs=[gJ',gF']:=by
 refine (qbk (rest:=[gF]) (R:=fun e a' rest'=>e=.returned (.bool false)∧a'=j∧∃ gz,Qh L x gz∧rest'=[gz]) hj ha (fun ga hga=>(qh (hs ▸ hga) hx).mono ?_)).mono ?_
 ·rintro e gs ⟨rfl,g',gF',h1,h2,rfl⟩
  exact ⟨_,g',[gF'],⟨rfl,rfl,gF',h2,rfl⟩,hs ▸ h1,rfl⟩
 ·rintro e gs ⟨a',g',rest',⟨rfl,rfl,gz,h1,rfl⟩,h2,rfl⟩
  rw [Ym ha] at h2;exact ⟨g',gz,rfl,h2,h1,rfl⟩
theorem qe2 (hj:qd8 L js gJ) (ha:js[a]?=some j) (hs:j.s=.nil) :
 Qa prog 21 #[Qd j.kb] [gJ] fun e gs=>∃ gJ',e=.returned (.tuple #[.agg (qfq j.k.err j.k.ok j.k.aid j.k.agen),.int .i64 0])∧qd8 L js gJ'∧gs=[gJ']:=by
 refine (qbk (rest:=[]) (R:=fun e a' rest'=>e=.returned (.tuple #[.agg (qfq j.k.err j.k.ok j.k.aid j.k.agen),.int .i64 0])∧a'=j∧rest'=[]) hj ha (fun ga hga=>(qaz hga (by rw [hs];rfl)).mono ?_)).mono ?_
 ·rintro e gs ⟨rfl,rfl⟩
  exact ⟨_,ga,[],⟨rfl,rfl,rfl⟩,hga,rfl⟩
 ·rintro e gs ⟨a',g',rest',⟨rfl,rfl,rfl⟩,h2,rfl⟩
  rw [Ym ha] at h2;exact ⟨g',rfl,h2,rfl⟩
theorem qjh (hc:Ya L kb s n k g):Qa prog 22 #[Qd kb] [g] fun e gs =>
 e=.returned (.agg #[.int .i64 k.kind,.int .u64 k.cid,.int .u64 k.cdl,.int .u64 k.cper])∧gs=[g]:=by
 obtain ⟨pb,m,d,gst,gK,hs,⟨rv,tv,gq,gt,hr,ht,rfl⟩,rfl⟩:=hc;refine GO fun w HT=>?_
 have HT:=Vh (HT.out.sum (H':=[Qm kb L.fb (Qd pb) rv tv k,Cli.progB pb m d n,gst,gq,gt]));obtain ⟨k3,k4,k5,k6⟩:=Ce4 (HT.out.cell 0 0 rfl) 3 4 5 6;simp only [Qj,GE3] at k3 k4 k5 k6;have lt:=HT.out.lt 0 0 rfl;simp only [] at lt;clear hs hr ht;go_enter func22,ntmps22
 go_wp2
 exact bodyPost_ret (v:=.agg #[_,_,_,_]) (by simp [results,results22,go_sem,k3,k4,k5,k6]) rfl ⟨_,⟨rfl,rfl⟩,(HT.out.alloc0 _).sum⟩
theorem qlt (hj:qd8 L js gJ) (ha:js[a]?=some j) :
 Qa prog 22 #[Qd j.kb] [gJ] fun e gs=>∃ gJ',e=.returned (.agg #[.int .i64 j.k.kind,.int .u64 j.k.cid,.int .u64 j.k.cdl,.int .u64 j.k.cper])∧qd8 L js gJ'∧gs=[gJ']:=by
 refine (qbk (rest:=[]) (R:=fun e a' rest'=>e=.returned (.agg #[.int .i64 j.k.kind,.int .u64 j.k.cid,.int .u64 j.k.cdl,.int .u64 j.k.cper])∧a'=j∧rest'=[]) hj ha (fun ga hga=>(qjh hga).mono ?_)).mono ?_
 ·rintro e gs ⟨rfl,rfl⟩
  exact ⟨_,ga,[],⟨rfl,rfl,rfl⟩,hga,rfl⟩
 ·rintro e gs ⟨a',g',rest',⟨rfl,rfl,rfl⟩,h2,rfl⟩
  rw [Ym ha] at h2;exact ⟨g',rfl,h2,rfl⟩
end
end
end Go.Proofs.YtcneeepdclgdcaaGreat
