import Derived.Test.YtcneeepdclgdcaaGreatPF34
import Derived.Test.YtcneeepdclgdcaaGreatPF33
import Derived.Test.YtcneeepdclgdcaaGreatPF12
set_option maxRecDepth 100000
set_option maxHeartbeats 4000000
namespace Go.Proofs.YtcneeepdclgdcaaGreat
open _root_.List renaming mem_of_getElem?->WK,getD_eq_getElem?_getD->WM,mem_or_eq_of_mem_set->WQ,eq_of_mem_replicate->WR,getElem?_eq_some_iff->WS,replicate->WT,getElem?_eq_getElem->WV,mem_iff_getElem?->WW,length_map->WX,eq_nil_of_length_eq_zero->WY,mem_cons_self->XA,getElem?_map->XB,getElem?_append_left->XC,mem_map->XD,mem_cons_of_mem->XF,map_append->XI
open _root_.Int renaming toNat_natCast->WL,eq_ofNat_of_zero_le->WO,le_refl->WZ
open _root_.Classical renaming byContradiction->WN
open _root_.Option renaming map_eq_some_iff->WU,isSome_iff_exists->XE,getD_some->XG
open _root_.Bool renaming and_eq_true->XH
set_option linter.all false
section
open Go.RowKit Go.Shelf
section
variable {N:Nat} {S:SvS}
theorem EU {α:Type} {l:List α} {b:Nat} {x y:α} (h:(l++[x])[b]?=some y):(b<l.length/\l[b]?=some y)\/(b=l.length/\y=x):=by
 rcases Nat.lt_or_ge b l.length with hl | hl
 ·rw [XC hl] at h;exact .inl ⟨hl,h⟩
 ·rw [List.getElem?_append_right hl] at h
  have hb:b - l.length<1:=by have:=(WS.1 h).1;simpa using this
  have e:b - l.length=0:=by omega
  rw [e] at h;cases h
  exact .inr ⟨by omega,rfl⟩
theorem q1y (z:ZF) (th no:Int) (c:Q4) (h1:1<=c.kind) (h7:c.kind<=7):FQ z (Xs th no c)/\kC (Xs th no c)=0/\(Xs th no c).tk=none:=by
 have hfree:mf (ku th no c):=fun i t h=>by cases h
 unfold Xs;split
 ·exact ⟨trivial,rfl,rfl⟩
 ·split
  ·exact ⟨trivial,rfl,rfl⟩
  ·unfold q7
   split
   ·exact ⟨⟨by show c.kind=1\/c.kind=2;assumption,hfree⟩,rfl,rfl⟩
   ·split
    ·exact ⟨⟨by show 1<=c.kind/\c.kind<=3;omega,hfree⟩,rfl,rfl⟩
    ·exact ⟨⟨by show 1<=c.kind/\c.kind<=5;omega,hfree⟩,by show (if c.kind<=3 then (1:Int) else 0)=0;rw [if_neg (by omega)],rfl⟩
theorem q01 (hn:dV N S) (h:qz S) {th:Int} {c:Q4} (ho:Nu S th c) (kb:Nat):qz (S.dB kb th c):=by
 obtain ⟨g1,g2,g3⟩:=q1y (S.dB kb th c).z th (S.all.length+1) c ho.k1 ho.k7;have h0:=ho.Vx;have h1:=ho.Vy;refine ⟨fun a j ha=>?_,?_,?_,fun i hi=>?_,h.busy,fun a j ha hd=>?_,h.aL⟩
 ·rcases EU ha with ⟨_,ha⟩ | ⟨_,rfl⟩
  ·have:=h.go a j ha
   revert this
   cases j.w with
   | call s k=>exact id
   | turn s k=>exact fun e=>ED (x:=S.z.x) (x':=qL (xW th (S.all.length+1) c) S.z.x) (uC.same rfl) e
   | dL s k=>exact id
  ·exact g1
 ·show S.z.x.f.inside=Jr ((S.all++[_]).map fun j:J2=>kC j.w)
  rw [M5,<- h.ins]
  show _=_+kC (Xs th (S.all.length+1) c)
  rw [g2];omega
 ·show iY ((S.all++[_]).map fun j:J2=>j.w.tk) S.z.x.rg
  rw [XI]
  exact h.rg.snoc (fun i t e=>by
   have e:(Xs th (S.all.length+1) c).tk=some (i,t):=e
   rw [g3] at e;cases e)
 ·obtain ⟨a,j,s,k,a1,a2,a3,a4⟩:=h.who i hi
  exact ⟨a,j,s,k,by show (S.all++[_])[a]?=_;rw [XC (WS.1 a1).1];exact a1,a2,a3,a4⟩
 ·rcases EU ha with ⟨hl,ha⟩ | ⟨rfl,_⟩
  ·obtain ⟨i,hi⟩:=h.own a j ha hd
   refine ⟨i,xn hi (fun e=>?_)⟩
   subst e;have hb:=ho.busy;unfold SvS.dA at hb;rw [WM,hi] at hb;simp only [XG] at hb;have:S.ah a=j:=by unfold SvS.ah;rw [WM,ha];rfl
   rw [this,hd] at hb;cases hb
  ·exact ⟨th.toNat,by show (S.own.set th.toNat _)[th.toNat]?=_;rw [List.getElem?_set,if_pos rfl,if_pos (by omega)]⟩
theorem qxy {n:Nat} (h:1<=n):qc3 (Jj n):=by
 have hl:(Jj n).slots.length=n:=by simp [Jj]
 refine ⟨by rw [hl];exact h,WZ _,WZ _,by rw [hl];show (0:Int)<=0+n;omega,fun p a b=>?_⟩
 have a:0<=p:=a;have b:p<0+((Jj n).slots.length:Int):=b;rw [hl] at b;refine .inl ?_
 obtain ⟨k,rfl⟩:=WO a;have hk:k<n:=by omega
 have e:(Jj n).at k=k:=by
  unfold Qx.at;rw [hl,Int.emod_eq_of_lt (by omega) (by omega)];exact WL k
 unfold Qx.slot;rw [e];unfold Jj;rw [WM,XB,List.getElem?_range hk];rfl
theorem zbp (c:Cfg) (hk:c.ok=true):qz (uP c):=by
 obtain ⟨b1,b2,b3,b4,b5,b6⟩:=Cfg.bd hk;have hsh:∀ i s,(uP c).z.x.au[i]?=some s->s=Qp c.ring.toNat:=fun i s h=>WR (WK h)
 refine ⟨fun a j ha=>(by cases ha),rfl,⟨fun i r hr=>?_,fun a i t r ha=>(by cases ha),fun a b i t u ha=>(by cases ha),fun i r p hr a1 a2=>?_⟩,fun i hi=>absurd ?_ hi,?_,fun a j ha=>(by cases ha),?_⟩
 ·obtain ⟨s,hs,rfl⟩:=WU.1 hr
  rw [hsh i s hs];exact qxy (by omega)
 ·obtain ⟨s,hs,rfl⟩:=WU.1 hr
  rw [hsh i s hs] at a1 a2;have a1:0<=p:=a1;have a2:p<0:=a2;omega
 ·show ((WT c.sh.toNat (Qp c.ring.toNat)).getD i (Qp 1)).who=0
  rw [WM];cases hh:(WT c.sh.toNat (Qp c.ring.toNat))[i]? with
  | none=>rfl
  | some s =>
    have:=WR (WK hh);subst this;rfl
 ·show (0:Int)=Jr ((WT c.wk.toNat (⟨0,Jy,0,rY⟩:dz)).map fun c=>(c.k.holds.length:Int))
  rw [Bp];intro x hx;rw [WR hx];rfl
 ·show 1<=(WT _ _).length
  rw [List.length_replicate];omega
theorem Nn:∀ {l:List (Option Nat)} {a i k:Nat},l[i]?=some (some k)->(a+i,Th.eH k)∈rX a l
 | none::l,a,0,k,h=>by cases h
 | some b::l,a,0,k,h=>by cases h;exact XA
 | none::l,a,i+1,k,h=>by
   have:=Nn (l:=l) (a:=a+1) (i:=i) (k:=k) h;rw [show a+1+i=a+(i+1) by omega] at this;exact this
 | some b::l,a,i+1,k,h=>by
   have:=Nn (l:=l) (a:=a+1) (i:=i) (k:=k) h;rw [show a+1+i=a+(i+1) by omega] at this;exact XF _ this
theorem Vr:∀ {l:List dz} {a i j:Nat},j<l.length->(a+j,Th.fQ (i+j))∈pq a i l
 | c::l,a,i,0,h=>XA
 | c::l,a,i,j+1,h=>by
   have:=Vr (l:=l) (a:=a+1) (i:=i+1) (j:=j) (by simpa using h);rw [show a+1+j=a+(j+1) by omega,show i+1+j=i+(j+1) by omega] at this;exact XF _ this
theorem qvh {z:ZT} {X:ST} {i:Nat} (hX:ky X z.k z.x i):mO (.thn X (.ae i)) z=false->(∃ d,X=.at (some .lock) (.dI d))\/(∃ n d,X=.thn (.at (some (.ready i)) (.bK n)) (.af d)):=by
 match X,hX with
 | .at (some .lock) (.dI d),_=>exact fun _=>.inl ⟨d,rfl⟩
 | .at none (.bX d),_=>intro hm;cases hm
 | .thn (.ai (.bH d)) (.aM e),_=>intro hm;cases hm
 | .thn (.at (some (.ready j)) (.bK n)) (.af d),hX =>
   obtain ⟨_,_,rfl,_,_⟩:=hX;exact fun _=>.inr ⟨n,d,rfl⟩
 | .thn (.thn (.at none .bz) (.ax n)) (.af d),_=>intro hm;cases hm
 | .thn (.thn (.at none .aH) (.ax n)) (.af d),_=>intro hm;cases hm
 | .thn (.thn G (.aD d n)) .ay,hX =>
   obtain ⟨_,_,_,_,hG⟩:=hX;intro hm
   match G,hG,hm with
   | .at none .looks,_,hm=>cases hm
   | .at none .bE,_,hm=>cases hm
   | .thn (.ai (.put _)) .bB,_,hm=>cases hm
   | .at none .behind,_,hm=>cases hm
   | .at none (.aV next),_,hm=>cases hm
   | .at none .aS,_,hm=>cases hm
   | .aP .rel .drop,_,hm=>cases hm
   | .ai .drop,_,hm=>cases hm
 | .ai .unlock,_=>intro hm;cases hm
theorem qz1 {z:ZT} {s:ST} (hf:rM s z.k z.x) (hd:s≠.nil):mO s z=false->∃ X i,s=.thn X (.ae i)/\z.k.s=some i/\i<z.x.au.length/\((∃ d,X=.at (some .lock) (.dI d))\/(∃ n d,X=.thn (.at (some (.ready i)) (.bK n)) (.af d))):=by
 match s,hf with
 | .nil,_=>exact absurd rfl hd
 | .at none .enter,_=>intro hm;cases hm
 | .at none .gate,_=>intro hm;cases hm
 | .at none .tick,_=>intro hm;cases hm
 | .aP .leave1 .answer,_=>intro hm;cases hm
 | .ai .answer,_=>intro hm;cases hm
 | .thn X (.ae i),hf =>
   obtain ⟨h1,h2,_,h4⟩:=hf;exact fun hm=>⟨X,i,rfl,h1,h2,qvh h4 hm⟩
theorem q1a {z:ZS} {s:SS} (hf:xY s z.k) (hd:s≠.nil):uG s z=false->s=.at (some .inside) .bQ\/s=.at (some .idle) .cK:=by
 match s,hf with
 | .nil,_=>exact absurd rfl hd
 | .at none .shuts,_=>intro hm;cases hm
 | .at (some .inside) .bQ,_=>exact fun _=>.inl rfl
 | .at (some .idle) .cK,_=>exact fun _=>.inr rfl
 | .ai .aR,_=>intro hm;cases hm
 | .thn (.ai .dE) .waits,_=>intro hm;cases hm
 | .thn (.at none (.bJ i)) (.az j),_=>intro hm;cases hm
 | .thn (.at none (.aB i)) (.az j),_=>intro hm;cases hm
 | .thn (.aP (.release _) .drop) (.az j),_=>intro hm;cases hm
 | .thn (.ai .drop) (.az j),_=>intro hm;cases hm
theorem qzf (hn:dV N S) (h:qz S) (hs:∀ t∈S.iH,t.2.may S=false):(∀ (a:Nat) (j:J2),S.all[a]?=some j->j.w.done=true)/\(∀ c∈S.aL,c.k.holds=[])/\S.z.p.ch=[]/\S.z.p.sp=[]:=by
 have zB:∀ (a:Nat) (j:J2),S.all[a]?=some j->j.w.done=false->j.w.may S.z=false:=fun a j ha hd=>by
  obtain ⟨i,hi⟩:=h.own a j ha hd;have:=hs _ (List.mem_append_left _ (Nn (a:=0) hi));have e:S.ah a=j:=by unfold SvS.ah;rw [WM,ha];rfl
  rw [<- e];exact this
 have nP:∀ (a:Nat) (j:J2) s k,S.all[a]?=some j->j.w=.call s k->s=.nil:=fun a j s k ha hj=>by
  refine WN fun hne=>?_
  have hd:s.isNil=false:=by cases s with
   | nil=>exact absurd rfl hne
   | _=>rfl
  have:=zB a j ha (by rw [hj];exact hd);rw [hj] at this;have:(!s.isNil)=false:=this;rw [hd] at this;cases this
 have hwk:∀ (i:Nat) (c:dz),S.aL[i]?=some c->c.may S.z=false:=fun i c hc=>by
  have hl:=(WS.1 hc).1;have:=hs _ (List.mem_append_right _ (Vr (a:=S.own.length) (i:=0) hl));have e:S.aO (0+i)=c:=by unfold SvS.aO;rw [Nat.zero_add,WM,hc];rfl
  rw [<- e];exact this
 have sZ:∀ c∈S.aL,c.k.holds=[]/\¬ (0<(S.z.p.ch.length:Int)+S.z.p.sp.length):=fun c hc=>by
  obtain ⟨i,hi⟩:=WW.1 hc;have hm:=hwk i c hi;obtain ⟨wb,s,n,k⟩:=c;rcases (hn.aL _ hc).fit with ⟨h1,h2⟩ | ⟨h1,h2⟩
  ·obtain rfl:s=Jy:=h1
   have hm:decide (0<(S.z.p.ch.length:Int)+S.z.p.sp.length)=false:=hm;exact ⟨h2,by simpa using hm⟩
  ·obtain rfl:s=.thn (.ai .jy) .takes:=h1
   cases hm
 obtain ⟨c0,hc0⟩:∃ c,c∈S.aL:=by
  have:=h.aL;cases hcr:S.aL with
  | nil=>rw [hcr] at this;simp at this
  | cons c l=>exact ⟨c,XA⟩
 have tq:=(sZ c0 hc0).2;have hch:S.z.p.ch=[]:=WY (by omega);have hsp:S.z.p.sp=[]:=WY (by omega)
 have Dq:S.z.x.f.busy=0:=by
  rw [h.busy];exact Bp (fun c hc=>by rw [(sZ c hc).1];rfl)
 -- no turn waits
 have tJ:∀ (a:Nat) (j:J2) s k,S.all[a]?=some j->j.w=.turn s k->s=.nil:=fun a j s k ha hj=>by
  refine WN fun hne=>?_
  have hd:s.isNil=false:=by cases s with
   | nil=>exact absurd rfl hne
   | _=>rfl
  have hm:=zB a j ha (by rw [hj];exact hd);have hgo:=h.go a j ha;have hw:=M7 hn h ha hj hd;obtain ⟨hjn,_,_⟩:=hn.fe _ (WK ha);rw [hj] at hm hgo hjn;have hf:=hjn.fit;have hth:=hjn.wk.th;have hm:mO s ⟨k,S.z.x,S.z.ws,S.z.p⟩=false:=hm;obtain ⟨X,i,rfl,hks,hil,hor⟩:=qz1 (z:=⟨k,S.z.x,S.z.ws,S.z.p⟩) hf hne hm;rcases hor with ⟨d,rfl⟩ | ⟨n,d,rfl⟩
  ·have h0:∀ j,(S.z.x.au.getD j (Qp 1)).who=0:=fun j=>WN fun e=>(hw j e).1
   have hm:(decide (0<=k.th) && ((S.z.x.au.getD (k.s.getD 0) (Qp 1)).who == 0))=false:=hm;rw [h0] at hm;simp [hth] at hm
  ·have hil:i<S.z.x.au.length:=hil
   have hm:(S.z.x.au.getD i (Qp 1)).ring.ready=false:=hm;obtain ⟨hn1,hp⟩:=(show 1<=n/\rV n i S.z.x from hgo);have hget:S.z.x.au[i]?=some (S.z.x.au[i]):=WV hil;have hrg:S.z.x.rg i=some (S.z.x.au[i]).ring:=by unfold Qi.rg;rw [hget];rfl
   rw [WM,hget] at hm;simp only [XG] at hm;have aW:=hp _ hrg;rcases h.rg.uZ i _ _ hrg (WZ _) (by omega) with e | ⟨b,t,hb,hc,_⟩
   ·have:((S.z.x.au[i]).ring.ready)=true:=by unfold Qx.ready;rw [e];simp
    rw [this] at hm;cases hm
   ·rw [XB] at hb
    obtain ⟨jb,hjb,htk⟩:=WU.1 hb;cases hwb:jb.w with
    | call s2 k2 =>
      rw [hwb] at htk;have htk:k2.tk=some (i,t):=htk;have hnil:=nP b jb s2 k2 hjb hwb;subst hnil;have hg2:=h.go b jb hjb;rw [hwb] at hg2;exact (show mf k2 from hg2.2) i t htk hc
    | turn s2 k2=>rw [hwb] at htk;cases htk
    | dL s2 k2=>rw [hwb] at htk;cases htk
 have hins:S.z.x.f.inside=0:=by
  rw [h.ins];refine Bp (fun j hj=>?_)
  obtain ⟨a,ha⟩:=WW.1 hj;cases hw:j.w with
  | call s k=>rw [nP a j s k ha hw];rfl
  | turn s k=>rw [tJ a j s k ha hw];rfl
  | dL s k=>rfl
 refine ⟨fun a j ha=>?_,fun c hc=>(sZ c hc).1,hch,hsp⟩
 cases hw:j.w with
 | call s k=>rw [nP a j s k ha hw];rfl
 | turn s k=>rw [tJ a j s k ha hw];rfl
 | dL s k =>
   refine WN fun hne=>?_
   have hne':¬ (s.isNil=true):=hne;have hd:s.isNil=false:=by simpa using hne'
   have hm:=zB a j ha (by rw [hw];exact hd);have hgo:=h.go a j ha;obtain ⟨hjn,_,_⟩:=hn.fe _ (WK ha);rw [hw] at hm hgo hjn;have hm:uG s ⟨k,S.z.x,S.z.p⟩=false:=hm;have hf:=hjn.fit;rcases q1a (z:=⟨k,S.z.x,S.z.p⟩) hf (fun e=>by rw [e] at hd;cases hd) hm with rfl | rfl
   ·have hm:(S.z.x.f.inside == 0)=false:=hm
    rw [hins] at hm;cases hm
   ·have hm:(S.z.p.shut && decide (S.z.p.ch=[]) && (S.z.x.f.busy == 0))=false:=hm
    have hgo:S.z.p.shut=true:=hgo;rw [hgo,hch,Dq] at hm;cases hm
theorem goes (hn:dV N S) (h:qz S):S.idle=decide (S.bM.length=0):=by
 have hmem:S.bM.length=0↔∀ t∈S.iH,t.2.may S=false:=by
  unfold SvS.bM;rw [WX,List.length_eq_zero_iff,List.filter_eq_nil_iff];exact ⟨fun e t ht=>by simpa using e t ht,fun e t ht=>by simp [e t ht]⟩
 by_cases hs:∀ t∈S.iH,t.2.may S=false
 ·rw [decide_eq_true (hmem.2 hs)]
  obtain ⟨h1,h2,h3,h4⟩:=qzf hn h hs
  have hb:S.aX=false:=by
   unfold SvS.aX;rw [List.any_eq_false];intro o ho;cases o with
   | none=>simp [xA]
   | some a =>
     have:=h1 a _ (Xj (hn.own a ho));simp [xA,this]
  unfold SvS.idle Y6 Zj;rw [hb,h3,h4];simp only [Bool.not_false,Bool.true_and,List.length_nil,XH,decide_eq_true_eq];exact ⟨List.all_eq_true.2 fun c hc=>by rw [h2 c hc];rfl,by decide⟩
 ·have hne:¬ S.bM.length=0:=fun e=>hs (hmem.1 e)
  rw [decide_eq_false hne];refine WN fun hi=>hs (fun t ht=>?_)
  have hi:S.idle=true:=by simpa using hi
  unfold SvS.idle Y6 at hi;simp only [XH,Bool.not_eq_true',decide_eq_true_eq] at hi;obtain ⟨hb,hh,hp⟩:=hi;rcases List.mem_append.1 ht with ht | ht
  ·obtain ⟨k,e1,e2,_⟩:=E5 _ _ _ ht
   rw [e1]
   have hd:(S.ah k).w.done=true:=by
    unfold SvS.aX at hb;have:=List.any_eq_false.1 hb _ e2;simpa [xA] using this
   cases hm:Th.may S (.eH k) with
   | false=>rfl
   | true=>have:=Zi (show (S.ah k).w.may S.z=true from hm);rw [hd] at this;cases this
  ·obtain ⟨j,e1,_,e3⟩:=Bu _ _ _ _ ht
   rw [e1];have hc:=Jp (S:=S) (a:=0+j) (by omega);have hcn:=hn.aL _ (WK hc);have hho:=List.all_eq_true.1 hh _ (WK hc)
   show (S.aO (0+j)).may S.z=false
   generalize S.aO (0+j)=c at hcn hho;obtain ⟨wb,s,n,k⟩:=c;rcases hcn.fit with ⟨h1,h2⟩ | ⟨h1,h2⟩
   ·obtain rfl:s=Jy:=h1
    show decide (0<(S.z.p.ch.length:Int)+S.z.p.sp.length)=false
    simp only [decide_eq_false_iff_not];omega
   ·have h2:k.holds.length=1:=h2
    have hho:k.holds.isEmpty=true:=hho;rw [List.isEmpty_iff] at hho;rw [hho] at h2;cases h2
end
theorem q29 {N:Nat} {S:SvS} (hn:dV N S):dV N S.bare:=by
 refine ⟨hn.eY,fun j hj=>?_,fun c hc=>?_,fun k hk=>?_,hn.ol,?_,?_,fun a j ha ht hd=>?_⟩
 ·obtain ⟨j0,h0,rfl⟩:=XD.1 hj
  exact hn.fe j0 h0
 ·obtain ⟨c0,h0,rfl⟩:=XD.1 hc
  have:=hn.aL c0 h0;exact ⟨this.fit,this.worked,this.n⟩
 ·show k<(S.all.map J2.bare).length
  rw [WX];exact hn.own k hk
 ·show (S.aL.map dz.bare).length<=1000
  rw [WX];exact hn.cl
 ·show (S.all.map J2.bare).length<=N
  rw [WX];exact hn.al
 ·have ha:(S.all.map J2.bare)[a]?=some j:=ha
  rw [XB] at ha;obtain ⟨j0,h0,rfl⟩:=WU.1 ha;exact hn.turn a j0 h0 ht hd
theorem zbn {N:Nat} {L:Lay} {sb:Nat} {B:SvS} {g:List ak} (h:jW N L sb B g):dV N B:=by
 obtain ⟨S,rfl,hn,_⟩:=h;exact q29 hn
section
variable {N:Nat} {B:SvS}
theorem qtz (hn:dV N B) (h:qz B) (kb:Nat) (th:Int) (c:Q4):qz (B.cr kb th c):=by
 unfold SvS.cr;split
 ·next e=>exact q01 hn h (GL e) kb
 ·exact h
end
abbrev oq:Type:=Option (Nat × Int)
structure sI (O:List oq) (rs:List Rec):Prop where
 own:∀ (a k:Nat) (e:Int),O[a]?=some (some (k,e))->(e=1\/e=5\/e=6)/\∃ r,rs[k]?=some r/\bA r.w=e
 uniq:∀ (a b k:Nat) (e f:Int),O[a]?=some (some (k,e))->O[b]?=some (some (k,f))->a=b
inductive Ef (o o':oq) (rs rs':List Rec):Prop where
 | calm (h:rs'=rs) (h2:o'=o\/o'=none):Ef o o' rs rs'
 | other (k:Nat) (r r':Rec) (hr:rs[k]?=some r) (hs:bA r.w≠1/\bA r.w≠5/\bA r.w≠6) (h:rs'=rs.set k r') (h1:o'=none\/∃ e,o'=some (k,e)/\bA r'.w=e/\(e=1\/e=5\/e=6)):Ef o o' rs rs'
 | mine (k:Nat) (e:Int) (r':Rec) (h0:o=some (k,e)) (h:rs'=rs.set k r') (h1:o'=none):Ef o o' rs rs'
theorem sI.vk {O:List oq} {rs rs':List Rec} {a:Nat} {o o':oq} (h:sI O rs) (ha:O[a]?=some o) (e:Ef o o' rs rs'):sI (O.set a o') rs':=by
 cases e with
 | calm hr h2 =>
   subst hr;refine ⟨fun b k e hb=>?_,fun b c k e f hb hc=>?_⟩
   ·rcases Jl hb with ⟨_,e1⟩ | ⟨_,hB⟩
    ·rcases h2 with h2 | h2
     ·rw [h2] at e1;exact h.own a k e (by rw [ha,e1])
     ·rw [h2] at e1;cases e1
    ·exact h.own b k e hB
   ·have hold:∀ d e,(O.set a o')[d]?=some (some (k,e))->O[d]?=some (some (k,e)):=fun d e hd=>by
     rcases Jl hd with ⟨rfl,e1⟩ | ⟨_,hD⟩
     ·rcases h2 with h2 | h2
      ·rw [h2] at e1;rw [ha,e1]
      ·rw [h2] at e1;cases e1
     ·exact hD
    exact h.uniq b c k e f (hold _ _ hb) (hold _ _ hc)
 | other k r r' hr hs hrs h1 =>
   have hfree:∀ d e,O[d]?=some (some (k,e))->False:=fun d e hd=>by
    obtain ⟨h5,r2,h6,h7⟩:=h.own d k e hd;rw [hr] at h6;cases h6;omega
   subst hrs;refine ⟨fun b k2 e hb=>?_,fun b c k2 e f hb hc=>?_⟩
   ·rcases Jl hb with ⟨_,e1⟩ | ⟨_,hB⟩
    ·rcases h1 with h1 | ⟨e2,h1,h3,h4⟩
     ·rw [h1] at e1;cases e1
     ·rw [h1] at e1;cases e1
      exact ⟨h4,r',get_set_same hr,h3⟩
    ·obtain ⟨h5,r2,h6,h7⟩:=h.own b k2 e hB
     exact ⟨h5,r2,xn h6 (fun e3=>by subst e3;exact hfree b e hB),h7⟩
   ·rcases Jl hb with ⟨rfl,e1⟩ | ⟨_,hB⟩
    ·rcases Jl hc with ⟨rfl,_⟩ | ⟨_,hC⟩
     ·rfl
     ·rcases h1 with h1 | ⟨e2,h1,_⟩
      ·rw [h1] at e1;cases e1
      ·rw [h1] at e1;cases e1
       exact (hfree c f hC).elim
    ·rcases Jl hc with ⟨rfl,e1⟩ | ⟨_,hC⟩
     ·rcases h1 with h1 | ⟨e2,h1,_⟩
      ·rw [h1] at e1;cases e1
      ·rw [h1] at e1;cases e1
       exact (hfree b e hB).elim
     ·exact h.uniq b c k2 e f hB hC
 | mine k e r' h0 hrs h1 =>
   subst h1 hrs h0;refine ⟨fun b k2 e2 hb=>?_,fun b c k2 e2 f hb hc=>?_⟩
   ·rcases Jl hb with ⟨_,e1⟩ | ⟨hne,hB⟩
    ·cases e1
    ·obtain ⟨h5,r2,h6,h7⟩:=h.own b k2 e2 hB
     exact ⟨h5,r2,xn h6 (fun e3=>hne (by subst e3;exact h.uniq b a k2 e2 e hB ha)),h7⟩
   ·rcases Jl hb with ⟨_,e1⟩ | ⟨_,hB⟩
    ·cases e1
    ·rcases Jl hc with ⟨_,e1⟩ | ⟨_,hC⟩
     ·cases e1
     ·exact h.uniq b c k2 e2 f hB hC
theorem sI.snoc {O:List oq} {rs:List Rec} (h:sI O rs):sI (O++[none]) rs:=by
 have hg:∀ (b:Nat) x,(O++[none])[b]?=some (some x)->O[b]?=some (some x):=fun b x hb=>by
  rcases EU hb with ⟨_,hb⟩ | ⟨_,e⟩
  ·exact hb
  ·cases e
 exact ⟨fun a k e ha=>h.own a k e (hg _ _ ha),fun a b k e f ha hb=>h.uniq a b k e f (hg _ _ ha) (hg _ _ hb)⟩
theorem Z6 {s:Qj} (hs:Xc s) (k old ev:Int):((s.try k old ev).2.2≠0/\(s.try k old ev).1=s) \/
 ((s.try k old ev).2.2=0/\∃ (j:Nat) (r:Rec) (w':Int),k=j/\s.recs[j]?=some r/\r.w=old/\nY r/\Xo r.w ev (decide (0<r.p))=(w',0)/\(s.try k old ev).1={ s with recs:=s.recs.set j { r with w:=w' } }/\(s.try k old ev).2.1=w'):=by
 unfold Qj.try;split
 ·next hh =>
  obtain ⟨j,rfl⟩:=Qj.eP hh;obtain ⟨r,h1,h2⟩:=Qj.fC hh;rw [h2];simp only [];split
  ·next hne=>exact .inl ⟨hne,rfl⟩
  ·next he =>
   split
   ·next hw =>
    refine .inr ⟨rfl,j,r,(Xo old ev (decide (0<r.p))).1,rfl,h1,hw,hs.recs r (WK h1),?_,rfl,rfl⟩
    rw [hw];exact Prod.ext rfl (by simpa using he)
   ·exact .inl ⟨by show (10:Int)≠0;decide,rfl⟩
 ·exact .inl ⟨by show (4:Int)≠0;decide,rfl⟩
theorem BN {r:Rec} (hr:nY r) {ev w':Int} {p:Bool} (h:Xo r.w ev p=(w',0)):1<=ev/\ev<=10/\(toW (bA r.w) ev (p && !Xk r.w)).2.2=true/\bA w'=(toW (bA r.w) ev (p && !Xk r.w)).1:=by
 rcases Yz r.w ev p hr.w0 hr.w1 hr.ok with ⟨_,h2⟩ | ⟨h1,h2,h3,h4,h5,h6,_⟩
 ·rw [h] at h2;simp only at h2;omega
 ·rw [h] at h6
  exact ⟨h2,h3,h4,h6⟩
theorem Ey {l:List Rec} {k:Nat} {x r:Rec} (h:l[k]?=some x) (hx:bA x.w≠0) (hr:bA r.w≠0):Ja (l.set k r)=Ja l:=by
 have:=M3 r h;rw [Gz hx,Gz hr] at this;simp at this
 omega
theorem Mg {l:List Rec} {k:Nat} {x r:Rec} (h:l[k]?=some x) (hx:bA x.w≠0) (hr:bA r.w=0):(Ja (l.set k r):Int)=Ja l - 1:=by
 have:=M3 r h;rw [Gz hx,RA hr] at this;simp at this
 omega
theorem qz4 {l:List Rec} {k:Nat} {x r:Rec} (h:l[k]?=some x) (hx:bA x.w=0) (hr:bA r.w≠0):(Ja (l.set k r):Int)=Ja l+1:=by
 have:=M3 r h;rw [RA hx,Gz hr] at this;simp at this
 omega
theorem q7m {s ev:Int} {ag:Bool} (h0:0<=s) (h6:s<=6) (he:ev=6\/ev=7\/ev=8) (h:(toW s ev ag).2.2=true):(s=2\/s=3\/s=4)/\(toW s ev ag).1≠0/\(ev=6->(toW s ev ag).1=5):=by
 have hs:s=0\/s=1\/s=2\/s=3\/s=4\/s=5\/s=6:=by omega
 revert h
 rcases hs with rfl | rfl | rfl | rfl | rfl | rfl | rfl <;> rcases he with rfl | rfl | rfl <;> cases ag <;> decide
theorem GQ {r:Rec} (hr:nY r) {ev w':Int} {p:Bool} (he:ev=6\/ev=7\/ev=8) (h:Xo r.w ev p=(w',0)):(bA r.w=2\/bA r.w=3\/bA r.w=4)/\bA w'≠0/\(ev=6->bA w'=5):=by
 obtain ⟨_,_,g3,g4⟩:=BN hr h;have hb:=uH r.w hr.w0 hr.ok;obtain ⟨a,b,c⟩:=q7m hb.1 hb.2.1 he g3;rw [g4];exact ⟨a,b,c⟩
def lD (M:Int) (rs:List Rec):Prop:=∀ r∈rs,X7 r.w<=M
theorem zl {rs:List Rec} {k:Nat} {r r':Rec} {ev:Int} {p:Bool} (hr:rs[k]?=some r) (ho:nY r) (hn:Xo r.w ev p=(r'.w,0)):∀ M,lD M rs->lD (M+1) (rs.set k r'):=by
 intro M h q hq;rcases WQ hq with hq | rfl
 ·have:=h q hq;omega
 ·have h0:=h r (WK hr)
  have hb:=uH r.w ho.w0 ho.ok;rcases Yz r.w ev p ho.w0 ho.w1 ho.ok with ⟨_,h2⟩ | ⟨h1,h2,h3,h4,h5,h6,h7,_⟩
  ·rw [hn] at h2;simp only at h2;omega
  ·rw [hn] at h7
   have hf:=E6 (bA r.w) ev (p && !Xk r.w) hb.1 hb.2.1;have:=hf.2.2.2;simp only at h7;omega
theorem Bw {rs rs':List Rec} (h:rs'=rs):∀ M,lD M rs->lD (M+1) rs':=by
 intro M hM q hq;rw [h] at hq;have:=hM q hq;omega
structure kM (rs rs':List Rec):Prop where
 len:rs'.length=rs.length
 at_:∀ (k:Nat) (r':Rec),rs'[k]?=some r'->∃ r,rs[k]?=some r/\X7 r.w<=X7 r'.w/\(X7 r'.w=X7 r.w->r'.p=r.p)
theorem kM.refl (rs:List Rec):kM rs rs:=⟨rfl,fun k r h=>⟨r,h,WZ _,fun _=>rfl⟩⟩
theorem EF {rs rs':List Rec} (h:rs'=rs):kM rs rs':=by rw [h];exact kM.refl rs
theorem z7 {rs:List Rec} {k:Nat} {r r':Rec} {ev:Int} {p:Bool} (hr:rs[k]?=some r) (ho:nY r) (hn:Xo r.w ev p=(r'.w,0)) (hp:r'.p=r.p\/ev=1):kM rs (rs.set k r'):=by
 refine ⟨List.length_set,fun j q hq=>?_⟩
 rcases Jl hq with ⟨rfl,rfl⟩ | ⟨_,hQ⟩
 ·have hb:=uH r.w ho.w0 ho.ok
  rcases Yz r.w ev p ho.w0 ho.w1 ho.ok with ⟨_,h2⟩ | ⟨h1,h2,h3,h4,h5,h6,h7,_⟩
  ·rw [hn] at h2;simp only at h2;omega
  ·rw [hn] at h7
   have hf:=E6 (bA r.w) ev (p && !Xk r.w) hb.1 hb.2.1;have hf0:=hf.2.2.1;simp only at h7;refine ⟨r,hr,by omega,fun e=>?_⟩
   rcases hp with hp | rfl
   ·exact hp
   ·have:(toW (bA r.w) 1 (p && !Xk r.w)).2.1=1:=rfl
    omega
 ·exact ⟨q,hQ,WZ _,fun _=>rfl⟩
def uM:SC->Qt->oq
 | .at none .bu,k=>if k.kind=3 then none else some (k.slot.toNat,1)
 | .at none .bW,k=>some (k.slot.toNat,1)
 | .thn (.aP .eG .drop) .leaves,k=>some (k.slot.toNat,1)
 | .thn (.aP .bN .drop) .ends,k=>some (k.slot.toNat,5)
 | _,_=>none
def Ce:Option ik->Int
 | some q=>if q.next=2 then 1 else 0
 | none=>0
def z8:SC->Qt->Int
 | .at none .asks,k=>Ce k.rq
 | .thn (.ai .drop) _,_=>1
 | _,_=>0
structure Xb (o o':oq) (s s':Qj) (d:Int):Prop where
 cnt:s'.count - Ja s'.recs=s.count - Ja s.recs+d
 vk:Ef o o' s.recs s'.recs
 gen:∀ M,lD M s.recs->lD (M+1) s'.recs
 le:kM s.recs s'.recs
theorem Xb.same {o o':oq} {s s':Qj} {d:Int} (h:s'=s) (hd:d=0) (ho:o'=o\/o'=none):Xb o o' s s' d:=by
 subst h hd;exact ⟨by omega,.calm rfl ho,Bw rfl,EF rfl⟩
theorem Nr {s:Qj} {j:Nat} {r:Rec} (h:s.recs[j]?=some r):s.has (j:Int)/\s.word (j:Int)=r.w/\s.recs.getD (j:Int).toNat Rec.zero=r:=by
 have hl:=(WS.1 h).1;have hh:s.has (j:Int):=⟨by omega,by omega⟩;have hg:s.recs.getD (j:Int).toNat Rec.zero=r:=by rw [WL];exact EE h
 refine ⟨hh,?_,hg⟩
 unfold Qj.word;rw [if_pos hh,hg]
theorem BP {s:Qj} {j:Nat} {r:Rec} (h:s.recs[j]?=some r) {ev w':Int} (hn:Xo r.w ev (decide (0<r.p))=(w',0)):(s.try j (s.word j) ev)=({ s with recs:=s.recs.set j { r with w:=w' } },w',0):=by
 obtain ⟨a,b,c⟩:=Nr h;unfold Qj.try;rw [if_pos a,b];simp only [c,hn];simp
theorem BM {r:Rec} (hr:nY r) {ev:Int} {p:Bool} (h1:1<=ev) (h2:ev<=10) (ht:(toW (bA r.w) ev (p && !Xk r.w)).2.2=true) (hg:(toW (bA r.w) ev (p && !Xk r.w)).2.1=0):∃ w',Xo r.w ev p=(w',0)/\bA w'=(toW (bA r.w) ev (p && !Xk r.w)).1:=by
 have hb:=uH r.w hr.w0 hr.ok;rcases Yz r.w ev p hr.w0 hr.w1 hr.ok with ⟨h3,h4⟩ | ⟨h3,_,_,_,_,h6,_⟩
 ·exfalso
  unfold Xo at h4;simp only [hr.ok] at h4;rw [if_neg (by simp),if_neg (by omega)] at h4;simp only [ht,hg] at h4;rw [if_neg (by simp),if_neg (by omega)] at h4;simp at h4
 ·exact ⟨_,Prod.ext rfl h3,h6⟩
section
variable {N:Nat} {k:Qt} {x:Qi}
theorem Mw (hs:Xc x.aa) (ev e:Int) {o:oq} {d:Int} (ho:o=some (k.slot.toNat,e)) (h0:0<=k.slot) {r:Rec} (hr:x.aa.recs[k.slot.toNat]?=some r) (he:bA r.w=e) (h1:1<=ev) (h2:ev<=10)
 (ht:∀ ag,(toW e ev ag).2.2=true/\(toW e ev ag).2.1=0) (hne:e≠0) (hd:∀ ag,d=if (toW e ev ag).1=0 then 1 else 0):Xb o none x.aa (r9 k.slot ev x.aa).1 d:=by
 have hro:=hs.recs r (WK hr);obtain ⟨j,hj⟩:=WO h0;rw [hj,WL] at hr ho;obtain ⟨w',hn,hst⟩:=BM (p:=decide (0<r.p)) hro h1 h2 (by rw [he];exact (ht _).1) (by rw [he];exact (ht _).2)
 have e1:(r9 k.slot ev x.aa).1={ x.aa with recs:=x.aa.recs.set j { r with w:=w' } }:=by
  show (x.aa.try k.slot (x.aa.word k.slot) ev).1=_
  rw [hj,BP hr hn]
 rw [e1];rw [he] at hst;refine ⟨?_,.mine j e { r with w:=w' } ho rfl rfl,zl (r':={ r with w:=w' }) hr hro hn,z7 (r':={ r with w:=w' }) hr hro hn (.inl rfl)⟩
 show x.aa.count - (Ja (x.aa.recs.set j { r with w:=w' }):Int)=_
 rw [hd (decide (0<r.p) && !Xk r.w)];split
 ·next hz=>rw [Mg hr (by omega) (by show bA w'=0;omega)];omega
 ·next hz=>rw [Ey hr (by omega) (by show bA w'≠0;omega)];omega
theorem q9f (hc:Zg N x) (hk:Zm N k x) (m:MC) (hf:uL (.at none m) k) (h1:xe (.at none m) k) (hO:∀ j e,uM (.at none m) k=some (j,e)->∃ r,x.aa.recs[j]?=some r/\bA r.w=e) :
 Xb (uM (.at none m) k) (uM (Jk m (k,x)).1 (Jk m (k,x)).2.1) x.aa (Jk m (k,x)).2.2.aa (z8 (Jk m (k,x)).1 (Jk m (k,x)).2.1 - z8 (.at none m) k):=by
 have iO:∀ (k2:Qt),uM (Zl k) k2=none/\z8 (Zl k) k2=0:=fun k2=>by unfold Zl;split <;> exact ⟨rfl,rfl⟩
 have hs:=hc.aa;cases m with
 | right =>
   show Xb none (uM (if mR k then ((.ai .aR,Qo 1 (k,x)):SC × ZC) else (.at none .enter,(k,x))).1 (if mR k then ((.ai .aR,Qo 1 (k,x)):SC × ZC) else (.at none .enter,(k,x))).2.1) _ (if mR k then ((.ai .aR,Qo 1 (k,x)):SC × ZC) else (.at none .enter,(k,x))).2.2.aa (z8 (if mR k then ((.ai .aR,Qo 1 (k,x)):SC × ZC) else (.at none .enter,(k,x))).1 (if mR k then ((.ai .aR,Qo 1 (k,x)):SC × ZC) else (.at none .enter,(k,x))).2.1 - 0)
   split <;> exact Xb.same rfl rfl (.inl rfl)
 | enter=>exact Xb.same rfl rfl (.inl rfl)
 | gate =>
   obtain ⟨r,hr⟩:∃ r,Jk .gate (k,x)=r:=⟨_,rfl⟩;have e:Jk .gate (k,x)=if x.f.closed=true then (Zl k,Qo 3 (k,x)) else if k.kind=1\/k.kind=2 then (.at none .asks,({ k with rq:=some ⟨k.period,0,0,0,0,0⟩ },x)) else (.at none .looks,(k,x)):=rfl
   rw [e];split
   ·exact Xb.same rfl (by show z8 (Zl k) _ - 0=0;rw [(iO _).2];rfl) (.inr (iO _).1)
   ·split <;> exact Xb.same rfl rfl (.inl rfl)
 | asks =>
   have hk3:k.kind≠3:=by have h1:k.kind=1\/k.kind=2:=h1;omega
   obtain ⟨q,hq⟩:=XE.1 hf.1;have hst:=hf.2 q hq;have hqo:=hk.rq q hq;have e:Jk .asks (k,x)=ql (k,x) q:=by show (match k.rq with | none=>_ | some q=>_)=_;rw [hq]
   have hp:z8 (.at none .asks) k=if q.next=2 then 1 else 0:=by show Ce k.rq=_;rw [hq];rfl
   rw [e,hp]
   show Xb none _ _ _ _
   by_cases hn0:q.next=0
   ·have er:Zf x.aa q=(x.aa,rF x.aa q):=by unfold Zf;rw [if_neg (by omega),if_pos hn0]
    unfold ql;simp only [er];rw [if_neg (show ¬ q.next=2 by omega)];unfold rF;split
    ·exact Xb.same rfl rfl (.inl rfl)
    ·simp only [hst]
     exact Xb.same rfl rfl (.inl rfl)
   ·by_cases hn1:q.next=1
    ·have er:Zf x.aa q=qH x.aa q:=by unfold Zf;rw [if_neg (by omega),if_neg hn0,if_pos hn1]
     unfold ql;simp only [er];rw [if_neg (show ¬ q.next=2 by omega)];unfold qH;split
     ·simp only [hst]
      exact ⟨by show x.aa.count+1 - (Ja x.aa.recs:Int)=x.aa.count - Ja x.aa.recs+(1 - 0);omega,.calm rfl (.inl rfl),Bw rfl,EF rfl⟩
     ·simp only [hst]
      exact Xb.same rfl rfl (.inl rfl)
    ·have hn2:q.next=2:=by have:=hqo.next;omega
     have er:Zf x.aa q=om x.aa q:=by unfold Zf;rw [if_neg (by omega),if_neg hn0,if_neg hn1]
     unfold ql;simp only [er];rw [if_pos hn2];obtain ⟨j,hj⟩:=WO hqo.gX;have hjl:j<x.aa.recs.length:=by have:=hqo.iw;omega
     have hr:=WV hjl;generalize x.aa.recs[j]=r at hr;have hro:=hs.recs r (WK hr);have hn64:=hs.n1;have hgd:x.aa.recs.getD q.slot.toNat Rec.zero=r:=by rw [hj,WL];exact EE hr
     unfold om;simp only [hgd];split
     ·next hz =>
      have hnx:Xo r.w 1 (decide (0<q.p))=((Xo r.w 1 (decide (0<q.p))).1,0):=Prod.ext rfl hz;obtain ⟨_,_,g3,g4⟩:=BN hro hnx;have g3:(bA r.w == 0)=true:=g3;have g4:bA (Xo r.w 1 (decide (0<q.p))).1=1:=g4;have hz0:bA r.w=0:=by simpa using g3
      generalize (Xo r.w 1 (decide (0<q.p))).1=w' at g4 hnx;have hid:((r.g+1)*64+q.slot) % 64=j:=by have:=hqo.gX;omega
      simp only [if_neg (show ¬ (2:Int)=1 by decide),if_pos (show (2:Int)=2 from rfl)];refine ⟨?_,.other j r ⟨w',r.g+1,q.p⟩ hr (by omega) (by rw [hj];rfl) (.inr ⟨1,?_,g4,.inl rfl⟩),?_,?_⟩
      ·show x.aa.count - (Ja (x.aa.recs.set q.slot.toNat ⟨w',r.g+1,q.p⟩):Int)=_
       rw [hj,WL,qz4 hr hz0 (by show bA w'≠0;omega)]
       show _=_+(0 - 1)
       omega
      ·show (if k.kind=3 then none else some ((((r.g+1)*64+q.slot) % 64).toNat,(1:Int)))=_
       rw [if_neg hk3,hid,WL]
      ·show ∀ M,lD M x.aa.recs->lD (M+1) (x.aa.recs.set q.slot.toNat ⟨w',r.g+1,q.p⟩)
       rw [hj,WL];exact zl (r':=⟨w',r.g+1,q.p⟩) hr hro hnx
      ·show kM x.aa.recs (x.aa.recs.set q.slot.toNat ⟨w',r.g+1,q.p⟩)
       rw [hj,WL];exact z7 (r':=⟨w',r.g+1,q.p⟩) hr hro hnx (.inr rfl)
     ·simp only [hst]
      exact Xb.same rfl (by show Ce (some _) - 1=0;simp [Ce,hn2]) (.inl rfl)
 | bu =>
   obtain ⟨t,ht⟩:=XE.1 (show k.tk.isSome=true from hf);obtain ⟨i,t⟩:=t;have hi:=(hk.tk i t ht).2;have hsh:=WV hi
   have e:Jk .bu (k,x)=X8 (k,x) i t x.au[i]:=by
    show (match k.tk with | none=>_ | some (i,t)=>_)=_
    rw [ht];simp only [hsh]
   rw [e];unfold X8;simp only [];split
   ·exact Xb.same rfl rfl (.inl rfl)
   ·split
    ·exact Xb.same rfl rfl (.inr rfl)
    ·split
     ·next hn1 h2 =>
      refine Xb.same rfl rfl (.inl ?_)
      show some (k.slot.toNat,(1:Int))=if k.kind=3 then none else some (k.slot.toNat,1)
      rw [if_neg (fun h=>hn1 ⟨h2,h⟩)]
     ·split
      ·exact Xb.same rfl rfl (.inr rfl)
      ·next h3 =>
       refine Xb.same rfl rfl (.inl ?_)
       show some (k.slot.toNat,(1:Int))=if k.kind=3 then none else some (k.slot.toNat,1)
       rw [if_neg h3]
 | bW =>
   obtain ⟨r,hr,he⟩:=hO _ _ rfl;exact Mw hs 2 1 rfl hk.slot hr he (by decide) (by decide) (fun _=>⟨rfl,rfl⟩) (by decide) (fun _=>rfl)
 | fills =>
   have e:(Jk .fills (k,x)).2.2.aa=x.aa:=by
    show (Yn (qt (k,x)) (k,x)).2.aa=x.aa
    unfold Yn;split
    ·rfl
    ·split <;> rfl
   exact Xb.same e rfl (.inl rfl)
 | looks =>
   have e:Jk .looks (k,x)=(if (Q0 (k,x)).2=0 then (if k.kind=3 then (.at none .bu,({ (Q0 (k,x)).1.1 with tk:=some (kQ (Q0 (k,x)).1.1.slot x,X6) },x)) else (.at none .tries,(Q0 (k,x)).1)) else if (Q0 (k,x)).2=1 then (Zl k,Qo 1 (Q0 (k,x)).1) else (Zl k,Qo 0 (Q0 (k,x)).1)):=rfl;rw [e];split
   ·split
    ·next h3 =>
     refine Xb.same rfl rfl (.inl ?_)
     show (if (Q0 (k,x)).1.1.kind=3 then none else _)=none
     rw [if_pos ((q2h (k,x)).2.1.trans h3)]
    ·exact Xb.same rfl rfl (.inl rfl)
   ·split
    ·exact Xb.same rfl (by show z8 (Zl k) _ - 0=0;rw [(iO _).2];rfl) (.inr (iO _).1)
    ·exact Xb.same rfl (by show z8 (Zl k) _ - 0=0;rw [(iO _).2];rfl) (.inr (iO _).1)
 | again =>
   have e:Jk .again (k,x)=(if (Q0 (k,x)).2=0 then (.at none .tries,(Q0 (k,x)).1) else (.thn (.ai .bC) .leaves,Qo 0 (Q0 (k,x)).1)):=rfl;rw [e];split <;> exact Xb.same rfl rfl (.inl rfl)
 | tries =>
   have h1:3<=k.kind/\k.kind<=5:=h1
   have e:Jk .tries (k,x)=(if (Zo (k,x)).2≠0 then (if k.kind=3 then (.at none .again,(Zo (k,x)).1) else (.at none .looks,(Zo (k,x)).1)) else if k.kind=3 then (.at none .fills,qq { bO with kind:=6,id:=k.id,gen:=(Zo (k,x)).1.1.gen,dl:=k.j5 } (iV (Zo (k,x)).1.1,(Zo (k,x)).1.2))
    else if k.kind=5 then (.ai .aR,qq { bO with kind:=8,id:=k.id,gen:=(Zo (k,x)).1.1.gen } (iV (Zo (k,x)).1.1,(Zo (k,x)).1.2))
    else (.thn (.aP .bN .drop) .ends,qq { bO with kind:=7,id:=k.id,gen:=(Zo (k,x)).1.1.gen } (iV (Zo (k,x)).1.1,(Zo (k,x)).1.2))):=rfl
   have hev:k.event=if k.kind=4 then 6 else if k.kind=5 then 7 else 8:=rfl
   rcases Z6 hs k.slot k.aA k.event with ⟨t1,t2⟩ | ⟨t1,j,r,w',t2,t3,t4,t5,t6,t7,t8⟩
   ·rw [e,if_pos (show (Zo (k,x)).2≠0 from t1)]
    split
    ·exact Xb.same t2 rfl (.inl rfl)
    ·exact Xb.same t2 rfl (.inl rfl)
   ·have hst:=GQ t5 (show k.event=6\/k.event=7\/k.event=8 by rw [hev];split <;> first | exact .inl rfl | (split <;> first | exact .inr (.inl rfl) | exact .inr (.inr rfl))) t6
    have hsl:(Zo (k,x)).1.2.aa={ x.aa with recs:=x.aa.recs.set j { r with w:=w' } }:=t7
    have hcnt:∀ d:Int,d=0->({ x.aa with recs:=x.aa.recs.set j { r with w:=w' } }:Qj).count - Ja ({ x.aa with recs:=x.aa.recs.set j { r with w:=w' } }:Qj).recs=x.aa.count - Ja x.aa.recs+d:=fun d hd=>by
     show x.aa.count - (Ja (x.aa.recs.set j { r with w:=w' }):Int)=_
     rw [Ey t3 (by omega) (by show bA w'≠0;exact hst.2.1)];omega
    have hne:bA r.w≠1/\bA r.w≠5/\bA r.w≠6:=by omega
    rw [e,if_neg (show ¬ (Zo (k,x)).2≠0 from fun h=>h t1)]
    have fin:∀ (o':oq) (z:Qi),z.aa=(Zo (k,x)).1.2.aa->(o'=none\/∃ e,o'=some (j,e)/\bA w'=e/\(e=1\/e=5\/e=6))->Xb none o' x.aa z.aa 0:=fun o' z hz ho=>by
     rw [hz,hsl];exact ⟨hcnt 0 rfl,.other j r { r with w:=w' } t3 hne rfl ho,zl (r':={ r with w:=w' }) t3 t5 t6,z7 (r':={ r with w:=w' }) t3 t5 t6 (.inl rfl)⟩
    split
    ·exact fin _ _ rfl (.inl rfl)
    ·split
     ·exact fin _ _ rfl (.inl rfl)
     ·next k3 k5 =>
      have k4:k.kind=4:=by omega
      refine fin _ _ rfl (.inr ⟨5,?_,hst.2.2 (by rw [hev,if_pos k4]),.inr (.inl rfl)⟩)
      show some (k.slot.toNat,(5:Int))=_
      rw [t2,WL]
 | ends=>exact hf.elim
 | leaves=>exact hf.elim
theorem Pp {s:SC} (hj:JC N s (k,x)) (h1:xe s k) (hO:∀ j e,uM s k=some (j,e)->∃ r,x.aa.recs[j]?=some r/\bA r.w=e) (hp:z8 s k<=x.aa.count) :
 Xb (uM s k) (uM (J5 s (k,x)).1 (J5 s (k,x)).2.1) x.aa (J5 s (k,x)).2.2.aa (z8 (J5 s (k,x)).1 (J5 s (k,x)).2.1 - z8 s k):=by
 obtain ⟨hc,hk,hf⟩:=hj;simp only at hc hk hf;have hs:=hc.aa
 have hdrop:1<=x.aa.count->Xb none none x.aa x.aa.drop.1 (-1):=fun h=>by
  unfold Qj.drop;rw [if_pos (by omega)];exact ⟨by show x.aa.count - 1 - (Ja x.aa.recs:Int)=_;omega,.calm rfl (.inl rfl),Bw rfl,EF rfl⟩
 match s,hf,h1,hO,hp with
 | .nil,_,_,_,_=>exact Xb.same rfl rfl (.inl rfl)
 | .at none m,hf,h1,hO,_=>exact q9f hc hk m hf h1 hO
 | .ai .aR,_,_,_,_=>exact Xb.same rfl rfl (.inl rfl)
 | .thn (.ai .bL) .ends,_,_,_,_=>exact Xb.same rfl rfl (.inl rfl)
 | .thn (.aP .eG .drop) .leaves,_,_,hO,_ =>
   obtain ⟨r,hr,he⟩:=hO _ _ rfl;exact Mw hs 9 1 rfl hk.slot hr he (by decide) (by decide) (fun _=>⟨rfl,rfl⟩) (by decide) (fun _=>rfl)
 | .thn (.ai .drop) .leaves,_,_,_,hp=>exact hdrop hp
 | .thn (.ai .bC) .leaves,_,_,_,_ =>
   have e:(J5 (.thn (.ai .bC) .leaves) (k,x)).2.2.aa=x.aa:=by
    show (Yn _ (k,x)).2.aa=x.aa
    unfold Yn;split
    ·rfl
    ·split <;> rfl
   exact Xb.same e rfl (.inl rfl)
 | .thn (.aP .bN .drop) .ends,_,_,hO,_ =>
   obtain ⟨r,hr,he⟩:=hO _ _ rfl;exact Mw hs 10 5 rfl hk.slot hr he (by decide) (by decide) (fun _=>⟨rfl,rfl⟩) (by decide) (fun _=>rfl)
 | .thn (.ai .drop) .ends,_,_,_,hp=>exact hdrop hp
end
def Bg:ST->Xd->oq
 | .aP .rel .drop,k=>some (k.t.slot.toNat,6)
 | _,_=>none
def yz:ST->Int
 | .ai .drop=>1
 | _=>0
def Oc:ST->Xd->Prop
 | .at none .aS,k=>bA k.aA=4
 | _,_=>True
def uI:ST->ST
 | .thn (.thn (.thn G (.aD _ _)) .ay) (.ae _)=>G
 | _=>.nil
def vI (s:ST) (k:Xd):oq:=Bg (uI s) k
def oQ (s:ST):Int:=yz (uI s)
def zV (s:ST) (k:Xd):Prop:=Oc (uI s) k
section
variable {z:ZT}
theorem ML (hs:Xc z.x.aa) (ev:Int) (he:ev=3\/ev=4\/ev=5):Xb none none z.x.aa (Qk ev z).1.x.aa 0:=by
 show Xb none none z.x.aa (z.x.aa.try z.k.t.slot z.k.aA ev).1 0
 rcases Z6 hs z.k.t.slot z.k.aA ev with ⟨t1,t2⟩ | ⟨t1,j,r,w',t2,t3,t4,t5,t6,t7,t8⟩
 ·exact Xb.same t2 rfl (.inl rfl)
 ·obtain ⟨_,_,g3,g4⟩:=BN t5 t6
  have hb:=uH r.w t5.w0 t5.ok
  have hst:(bA r.w=2\/bA r.w=3\/bA r.w=4)/\bA w'≠0:=by
   rw [g4];generalize bA r.w=s at *;generalize (decide (0<r.p) && !Xk r.w)=ag at *;have h0:=hb.1;have h6:=hb.2.1;have hs:s=0\/s=1\/s=2\/s=3\/s=4\/s=5\/s=6:=by omega
   clear g4 hb h0 h6 t5 t6 t8;revert g3
   rcases hs with rfl | rfl | rfl | rfl | rfl | rfl | rfl <;> rcases he with rfl | rfl | rfl <;> cases ag <;> decide
  rw [t7];refine ⟨?_,.other j r { r with w:=w' } t3 (by omega) rfl (.inl rfl),zl (r':={ r with w:=w' }) t3 t5 t6,z7 (r':={ r with w:=w' }) t3 t5 t6 (.inl rfl)⟩
  show z.x.aa.count - (Ja (z.x.aa.recs.set j { r with w:=w' }):Int)=_
  rw [Ey t3 (by omega) (by show bA w'≠0;exact hst.2)];omega
theorem qw2 (hs:Xc z.x.aa) (h4:bA z.k.aA=4):((Qk 9 z).2=true->Xb none (some (z.k.t.slot.toNat,6)) z.x.aa (Qk 9 z).1.x.aa 0)/\((Qk 9 z).2≠true->(Qk 9 z).1.x.aa=z.x.aa):=by
 rcases Z6 hs z.k.t.slot z.k.aA 9 with ⟨t1,t2⟩ | ⟨t1,j,r,w',t2,t3,t4,t5,t6,t7,t8⟩
 ·refine ⟨fun h=>absurd ?_ t1,fun _=>t2⟩
  have h:((z.x.aa.try z.k.t.slot z.k.aA 9).2.2 == 0)=true:=h;simpa using h
 ·refine ⟨fun _=>?_,fun h=>absurd (show ((z.x.aa.try z.k.t.slot z.k.aA 9).2.2 == 0)=true by simpa using t1) h⟩
  obtain ⟨_,_,g3,g4⟩:=BN t5 t6;have h4:bA r.w=4:=by rw [t4];exact h4
  rw [h4] at g4;have g4:bA w'=6:=g4
  show Xb none _ z.x.aa (z.x.aa.try z.k.t.slot z.k.aA 9).1 0
  rw [t7];refine ⟨?_,.other j r { r with w:=w' } t3 (by omega) rfl (.inr ⟨6,by rw [t2,WL],g4,.inr (.inr rfl)⟩),zl (r':={ r with w:=w' }) t3 t5 t6,z7 (r':={ r with w:=w' }) t3 t5 t6 (.inl rfl)⟩
  show z.x.aa.count - (Ja (z.x.aa.recs.set j { r with w:=w' }):Int)=_
  rw [Ey t3 (by omega) (by show bA w'≠0;omega)];omega
structure A9 (G:ST) (z:ZT) (r:ST × ZT):Prop where
 sl:Xb (Bg G z.k) (Bg r.1 r.2.k) z.x.aa r.2.x.aa (yz r.1 - yz G)
 fin:Oc r.1 r.2.k
theorem gSl {G:ST} (hs:Xc z.x.aa) (hG:oo G z.k):Oc G z.k->(∀ j e,Bg G z.k=some (j,e)->∃ r,z.x.aa.recs[j]?=some r/\bA r.w=e)->yz G<=z.x.aa.count->A9 G z (St.run runT Q3 G z):=by
 match G,hG with
 | .at none .looks,hG =>
   intro hf hO hp
   show A9 _ z ((if (Qr 3 z).2=true then (.at none .bE,(Qr 3 z).1) else (.nil,(Qr 3 z).1)):ST × ZT)
   split <;> exact ⟨Xb.same rfl rfl (.inl rfl),trivial⟩
 | .at none .bE,hG =>
   intro hf hO hp;have h:=ML hs 4 (.inr (.inl rfl))
   show A9 _ z ((if (Qk 4 z).2=true then (.thn (.ai (.put ⟨z.k.t.id,z.k.t.gen,z.k.t.dl,z.k.now⟩)) .bB,(Qk 4 z).1.note { bO with kind:=5,id:=z.k.t.id,gen:=z.k.t.gen,dl:=z.k.t.dl,tick:=z.k.now }) else (.at none .looks,(Qk 4 z).1)):ST × ZT)
   split
   ·exact ⟨h,trivial⟩
   ·exact ⟨h,trivial⟩
 | .thn (.ai (.put f)) .bB,hG =>
   intro hf hO hp;exact ⟨Xb.same rfl rfl (.inl rfl),trivial⟩
 | .at none .behind,hG =>
   intro hf hO hp
   show A9 _ z ((if bA (z.x.aa.word z.k.t.slot)≠4\/X7 (z.x.aa.word z.k.t.slot)≠z.k.t.gen then (St.nil,({ z with k:={ z.k with aA:=z.x.aa.word z.k.t.slot } }:ZT))
    else if 0<z.k.t.per/\Xk (z.x.aa.word z.k.t.slot)=false/\z.k.t.dl+z.k.t.per<18446744073709551616 then (.at none (.aV (z.k.t.dl+z.k.t.per)),{ z with k:={ z.k with aA:=z.x.aa.word z.k.t.slot } }) else (.at none .aS,{ z with k:={ z.k with aA:=z.x.aa.word z.k.t.slot } })):ST × ZT)
   split
   ·exact ⟨Xb.same rfl rfl (.inl rfl),trivial⟩
   ·next h =>
    split
    ·exact ⟨Xb.same rfl rfl (.inl rfl),trivial⟩
    ·exact ⟨Xb.same rfl rfl (.inl rfl),by show bA (z.x.aa.word z.k.t.slot)=4;omega⟩
 | .at none (.aV next),hG =>
   intro hf hO hp;have h:=ML hs 5 (.inr (.inr rfl))
   show A9 _ z ((if (Qk 5 z).2=true then (.nil,jk { (Qk 5 z).1 with k:={ z.k with t:={ z.k.t with gen:=z.k.t.gen+1,dl:=next } } }) else (.at none .behind,(Qk 5 z).1)):ST × ZT)
   split
   ·exact ⟨h,trivial⟩
   ·exact ⟨h,trivial⟩
 | .at none .aS,hG =>
   intro hf hO hp;obtain ⟨h1,h2⟩:=qw2 hs (show bA z.k.aA=4 from hf)
   show A9 _ z ((if (Qk 9 z).2=true then (.aP .rel .drop,if 0<z.k.t.per/\Xk z.k.aA=false then (Qk 9 z).1.note { bO with kind:=14,id:=z.k.t.id,gen:=z.k.t.gen } else (Qk 9 z).1) else (.at none .behind,(Qk 9 z).1)):ST × ZT)
   split
   ·next h =>
    have h1:=h1 h;refine ⟨?_,trivial⟩
    show Xb none (some ((if _ then _ else _:ZT).k.t.slot.toNat,6)) _ (if _ then _ else _:ZT).x.aa 0
    split <;> exact h1
   ·next h=>exact ⟨Xb.same (h2 h) rfl (.inl rfl),trivial⟩
 | .aP .rel .drop,hG =>
   intro hf hO hp;have hsl:0<=z.k.t.slot:=hG;obtain ⟨r,hr,he⟩:=hO _ _ rfl;have hro:=hs.recs r (WK hr);obtain ⟨j,hj⟩:=WO hsl;rw [hj,WL] at hr;obtain ⟨w',hn,hst⟩:=BM (ev:=10) (p:=decide (0<r.p)) hro (by decide) (by decide) (by rw [he];rfl) (by rw [he];rfl);have hst:bA w'=0:=by rw [he] at hst;exact hst
   have e1:(Q3 .rel z).x.aa={ z.x.aa with recs:=z.x.aa.recs.set j { r with w:=w' } }:=by
    show (z.x.aa.try z.k.t.slot (z.x.aa.word z.k.t.slot) 10).1=_
    rw [hj,BP hr hn]
   refine ⟨?_,trivial⟩
   show Xb (some (z.k.t.slot.toNat,6)) none z.x.aa (Q3 .rel z).x.aa (1 - 0)
   rw [e1];refine ⟨?_,.mine j 6 { r with w:=w' } (by rw [hj,WL]) rfl rfl,zl (r':={ r with w:=w' }) hr hro hn,z7 (r':={ r with w:=w' }) hr hro hn (.inl rfl)⟩
   show z.x.aa.count - (Ja (z.x.aa.recs.set j { r with w:=w' }):Int)=_
   rw [Mg hr (by omega) (by show bA w'=0;exact hst)];omega
 | .ai .drop,hG =>
   intro hf hO hp;refine ⟨?_,trivial⟩
   show Xb none none z.x.aa z.x.aa.drop.1 (0 - 1)
   have hp:1<=z.x.aa.count:=hp;unfold Qj.drop;rw [if_pos (by omega)];exact ⟨by show z.x.aa.count - 1 - (Ja z.x.aa.recs:Int)=_;omega,.calm rfl (.inl rfl),Bw rfl,EF rfl⟩
end
structure jg (s:ST) (z:ZT) (r:ST × ZT):Prop where
 sl:Xb (vI s z.k) (vI r.1 r.2.k) z.x.aa r.2.x.aa (oQ r.1 - oQ s)
 fin:zV r.1 r.2.k
def vK (s:ST):Prop:=(∀ k,vI s k=none)/\oQ s=0/\∀ k,zV s k
theorem clean_nil {s:ST} (h:uI s=.nil):vK s:=by
 unfold vK vI oQ zV;rw [h];exact ⟨fun _=>rfl,rfl,fun _=>trivial⟩
theorem qo3 {s:ST} (h:uI s=.at none .looks):vK s:=by
 unfold vK vI oQ zV;rw [h];exact ⟨fun _=>rfl,rfl,fun _=>trivial⟩
theorem UM (Y:ST) (m:MT) (i:Nat) (h:m≠.ay):uI (.thn (.thn Y m) (.ae i))=.nil:=by
 unfold uI;split
 ·next h'=>cases h';exact absurd rfl h
 ·rfl
section
variable {z:ZT}
theorem jg.clean {s:ST} {r:ST × ZT} (h1:vK s) (h2:vK r.1) (h3:r.2.x.aa=z.x.aa):jg s z r:=by
 refine ⟨?_,h2.2.2 _⟩
 rw [h1.1,h2.1,h1.2.1,h2.2.1];exact Xb.same h3 rfl (.inl rfl)
theorem jg.tried {s:ST} {r:ST × ZT} (h1:vK s) (h2:vK r.1) (h3:Xb none none z.x.aa r.2.x.aa 0):jg s z r:=by
 refine ⟨?_,h2.2.2 _⟩
 rw [h1.1,h2.1,h1.2.1,h2.2.1];exact h3
theorem QZ (i:Nat) (z:ZT):vK (Q7 i z).1/\(Q7 i z).2.x.aa=z.x.aa:=by
 unfold Q7;split <;> exact ⟨clean_nil rfl,rfl⟩
theorem Lv (n:Int) (d i:Nat) (z':ZT):vK (Qd runT (Qd runT (Q2 n z') (.af d) z').1 (.ae i) (Qd runT (Q2 n z') (.af d) z').2).1/\(Qd runT (Qd runT (Q2 n z') (.af d) z').1 (.ae i) (Qd runT (Q2 n z') (.af d) z').2).2.x.aa=z'.x.aa:=by
 by_cases h:n<=0
 ·rw [G9 h];exact ⟨clean_nil rfl,rfl⟩
 ·rw [Br h];exact ⟨clean_nil rfl,rfl⟩
theorem q7t {X:ST} {i:Nat} (hs:Xc z.x.aa) (hX:ky X z.k z.x i):zV (.thn X (.ae i)) z.k->(∀ j e,vI (.thn X (.ae i)) z.k=some (j,e)->∃ r,z.x.aa.recs[j]?=some r/\bA r.w=e)->oQ (.thn X (.ae i))<=z.x.aa.count->jg (.thn X (.ae i)) z (Qw (.thn X (.ae i)) z):=by
 match X,hX with
 | .at (some .lock) (.dI d),_=>exact fun _ _ _=>jg.clean (clean_nil rfl) (clean_nil rfl) rfl
 | .at none (.bX d),_ =>
   intro _ _ _;have e:Qw (.thn (.at none (.bX d)) (.ae i)) z=Qd runT ((if z.aU.ring.tail - z.aU.ring.head<=0 then J1 d z else (.thn (Q2 (z.aU.ring.tail - z.aU.ring.head) z) (.af d),z)):ST × ZT).1 (.ae i) ((if z.aU.ring.tail - z.aU.ring.head<=0 then J1 d z else (.thn (Q2 (z.aU.ring.tail - z.aU.ring.head) z) (.af d),z)):ST × ZT).2:=rfl;rw [e];split
   ·exact jg.clean (clean_nil rfl) (clean_nil rfl) rfl
   ·exact jg.clean (clean_nil rfl) (clean_nil (UM _ _ _ (by intro h;cases h))) rfl
 | .thn (.ai (.bH d)) (.aM e),_ =>
   intro _ _ _;have e2:Qw (.thn (.thn (.ai (.bH d)) (.aM e)) (.ae i)) z=Qd runT (runT (.aM e) (Q3 (.bH d) z)).1 (.ae i) (runT (.aM e) (Q3 (.bH d) z)).2:=rfl;rw [e2];have hsl:(Q3 (.bH d) z).x.aa=z.x.aa:=rfl;generalize Q3 (.bH d) z=w at hsl;have e3:runT (.aM e) w=(match w.k.due[0]? with | none=>((.ai .unlock,w):ST × ZT) | some _=>(.thn (Qm e 0 w).1 .ay,(Qm e 0 w).2)):=rfl;rw [e3];cases hd:w.k.due[0]? with
   | none=>exact jg.clean (clean_nil rfl) (clean_nil rfl) hsl
   | some t =>
     have hf:Qm e 0 w=(.thn (.at none .looks) (.aD e 0),{ w with k:={ w.k with t:=t } }):=by unfold Qm;rw [hd]
     rw [hf];exact jg.clean (clean_nil rfl) (qo3 rfl) hsl
 | .thn (.at (some (.ready j)) (.bK n)) (.af d),_ =>
   intro _ _ _;obtain ⟨z',hz'⟩:∃ z':ZT,{ (z.cZ { z.aU with ring:=(J4 z.aU.ring).1 }) with k:={ z.k with t:=(J4 z.aU.ring).2.1 } }=z':=⟨_,rfl⟩;have hsl:z'.x.aa=z.x.aa:=by rw [<- hz'];rfl
   have e:Qw (.thn (.thn (.at (some (.ready j)) (.bK n)) (.af d)) (.ae i)) z=Qd runT (Qd runT (if z'.k.t.slot<0 then (Q2 (n - 1) z',z') else ((.thn (.at none .bz) (.ax n),z'):ST × ZT)).1 (.af d) (if z'.k.t.slot<0 then (Q2 (n - 1) z',z') else ((.thn (.at none .bz) (.ax n),z'):ST × ZT)).2).1 (.ae i) (Qd runT (if z'.k.t.slot<0 then (Q2 (n - 1) z',z') else ((.thn (.at none .bz) (.ax n),z'):ST × ZT)).1 (.af d) (if z'.k.t.slot<0 then (Q2 (n - 1) z',z') else ((.thn (.at none .bz) (.ax n),z'):ST × ZT)).2).2:=by rw [<- hz'];rfl
   rw [e];split
   ·obtain ⟨a,b⟩:=Lv (n - 1) d i z'
    exact jg.clean (clean_nil rfl) a (b.trans hsl)
   ·exact jg.clean (clean_nil rfl) (clean_nil rfl) hsl
 | .thn (.thn (.at none .bz) (.ax n)) (.af d),_ =>
   intro _ _ _;have e1:runT .bz z=((if (Qr 2 z).2=true then (.at none .aH,(Qr 2 z).1) else (.nil,(Qr 2 z).1)):ST × ZT):=rfl;obtain ⟨r,hr⟩:∃ r,runT .bz z=r:=⟨_,rfl⟩;have e:Qw (.thn (.thn (.thn (.at none .bz) (.ax n)) (.af d)) (.ae i)) z=Qd runT (Qd runT (Qd runT r.1 (.ax n) r.2).1 (.af d) (Qd runT r.1 (.ax n) r.2).2).1 (.ae i) (Qd runT (Qd runT r.1 (.ax n) r.2).1 (.af d) (Qd runT r.1 (.ax n) r.2).2).2:=by rw [<- hr];rfl
   have hcase:(r.1=.nil\/r.1=.at none .aH)/\r.2.x.aa=z.x.aa:=by
    rw [<- hr,e1];split
    ·exact ⟨.inr rfl,rfl⟩
    ·exact ⟨.inl rfl,rfl⟩
   rw [e];obtain ⟨r1,r2⟩:=r;obtain ⟨hc | hc,hsl⟩:=hcase
   ·obtain rfl:r1=.nil:=hc
    obtain ⟨a,b⟩:=Lv (n - 1) d i r2;exact jg.clean (clean_nil rfl) a (b.trans hsl)
   ·obtain rfl:r1=.at none .aH:=hc
    exact jg.clean (clean_nil rfl) (clean_nil rfl) hsl
 | .thn (.thn (.at none .aH) (.ax n)) (.af d),_ =>
   intro _ _ _;have h:=ML hs 3 (.inl rfl);have e1:runT .aH z=((if (Qk 3 z).2=true then (.nil,jk (Qk 3 z).1) else (Qv (Qk 3 z).1,(Qk 3 z).1)):ST × ZT):=rfl;obtain ⟨r,hr⟩:∃ r,runT .aH z=r:=⟨_,rfl⟩;have e:Qw (.thn (.thn (.thn (.at none .aH) (.ax n)) (.af d)) (.ae i)) z=Qd runT (Qd runT (Qd runT r.1 (.ax n) r.2).1 (.af d) (Qd runT r.1 (.ax n) r.2).2).1 (.ae i) (Qd runT (Qd runT r.1 (.ax n) r.2).1 (.af d) (Qd runT r.1 (.ax n) r.2).2).2:=by rw [<- hr];rfl
   have hcase:(r.1=.nil\/r.1=.at none .bz)/\Xb none none z.x.aa r.2.x.aa 0:=by
    rw [<- hr,e1];split
    ·exact ⟨.inl rfl,h⟩
    ·refine ⟨?_,h⟩
     show Qv _=_\/Qv _=_
     unfold Qv;split
     ·exact .inl rfl
     ·exact .inr rfl
   rw [e];obtain ⟨r1,r2⟩:=r;obtain ⟨hc | hc,hsl⟩:=hcase
   ·obtain rfl:r1=.nil:=hc
    obtain ⟨a,b⟩:=Lv (n - 1) d i r2;refine jg.tried (clean_nil rfl) a ?_
    show Xb none none _ (Qd runT (Qd runT (Q2 (n - 1) r2) (.af d) r2).1 (.ae i) (Qd runT (Q2 (n - 1) r2) (.af d) r2).2).2.x.aa 0
    rw [b];exact hsl
   ·obtain rfl:r1=.at none .bz:=hc
    exact jg.tried (clean_nil rfl) (clean_nil rfl) hsl
 | .thn (.thn G (.aD d n)) .ay,hX =>
   obtain ⟨_,_,_,_,hG⟩:=hX;intro hf hO hp;have g:=gSl hs hG hf hO hp;obtain ⟨r,hr⟩:∃ r,St.run runT Q3 G z=r:=⟨_,rfl⟩;rw [hr] at g;have e:Qw (.thn (.thn (.thn G (.aD d n)) .ay) (.ae i)) z=Qd runT (Qd runT (Qd runT r.1 (.aD d n) r.2).1 .ay (Qd runT r.1 (.aD d n) r.2).2).1 (.ae i) (Qd runT (Qd runT r.1 (.aD d n) r.2).1 .ay (Qd runT r.1 (.aD d n) r.2).2).2:=by rw [<- hr];rfl
   rw [e];obtain ⟨G',z'⟩:=r;by_cases hn:G'=.nil
   ·subst hn
    have g1:Xb (Bg G z.k) none z.x.aa z'.x.aa (0 - yz G):=g.sl
    show jg _ z (Qd runT (Qd runT (Qm d (n+1) z').1 .ay (Qm d (n+1) z').2).1 (.ae i) (Qd runT (Qm d (n+1) z').1 .ay (Qm d (n+1) z').2).2)
    cases hd:z'.k.due[n+1]? with
    | none =>
      have hfi:Qm d (n+1) z'=(.nil,z'):=by unfold Qm;rw [hd]
      rw [hfi];exact ⟨g1,trivial⟩
    | some t =>
      have hfi:Qm d (n+1) z'=(.thn (.at none .looks) (.aD d (n+1)),{ z' with k:={ z'.k with t:=t } }):=by unfold Qm;rw [hd]
      rw [hfi];exact ⟨g1,trivial⟩
   ·rw [Xt hn,Xt (by intro e;cases e),Xt (by intro e;cases e)]
    exact ⟨g.sl,g.fin⟩
 | .ai .unlock,_ =>
   intro _ _ _;obtain ⟨a,b⟩:=QZ (i+1) (z.cZ { z.aU with who:=0 });have e:Qw (.thn (.ai .unlock) (.ae i)) z=Q7 (i+1) (z.cZ { z.aU with who:=0 }):=rfl;rw [e];exact jg.clean (clean_nil rfl) a b
theorem NB {s:ST} (hs:Xc z.x.aa) (h:rM s z.k z.x):zV s z.k->(∀ j e,vI s z.k=some (j,e)->∃ r,z.x.aa.recs[j]?=some r/\bA r.w=e)->oQ s<=z.x.aa.count->jg s z (Qw s z):=by
 match s,h with
 | .nil,_=>exact fun _ _ _=>jg.clean (clean_nil rfl) (clean_nil rfl) rfl
 | .at none .enter,_=>exact fun _ _ _=>jg.clean (clean_nil rfl) (clean_nil rfl) rfl
 | .at none .gate,_ =>
   intro _ _ _
   show jg _ z ((if z.x.f.closed=true then Yr 3 z else (.at none .tick,z)):ST × ZT)
   split <;> exact jg.clean (clean_nil rfl) (clean_nil rfl) rfl
 | .at none .tick,_ =>
   intro _ _ _;obtain ⟨a,b⟩:=QZ 0 (({ z with x:={ z.x with f:={ z.x.f with now:=z.x.f.now+1 } },k:={ z.k with now:=z.x.f.now+1 } }:ZT).note { bO with kind:=11,tick:=z.x.f.now+1 });exact jg.clean (clean_nil rfl) a b
 | .aP .leave1 .answer,_=>exact fun _ _ _=>jg.clean (clean_nil rfl) (clean_nil rfl) rfl
 | .ai .answer,_=>exact fun _ _ _=>jg.clean (clean_nil rfl) (clean_nil rfl) rfl
 | .thn X (.ae i),h =>
   obtain ⟨_,_,_,hX⟩:=h;exact q7t hs hX
end
def yf:SS->oq
 | .thn (.aP (.release i) .drop) (.az _)=>some (i.toNat,5)
 | _=>none
def uJ:SS->Int
 | .thn (.ai .drop) (.az _)=>1
 | _=>0
def Em:SS->Yv->Prop
 | .thn (.at none (.aB _)) (.az _),k=>bA k.aA=2\/bA k.aA=3
 | .thn (.aP (.release i) .drop) (.az _),_=>0<=i
 | _,_=>True
structure O7 (s:SS) (z:ZS) (r:SS × ZS):Prop where
 sl:Xb (yf s) (yf r.1) z.x.aa r.2.x.aa (uJ r.1 - uJ s)
 fin:Em r.1 r.2.k
section
variable {z:ZS}
theorem zu (i:Int) (z:ZS):yf (Zv i z)=none/\uJ (Zv i z)=0/\∀ k,Em (Zv i z) k:=by
 unfold Zv uf;split <;> exact ⟨rfl,rfl,fun _=>trivial⟩
theorem KD {s:SS} (hs:Xc z.x.aa) (hf:xY s z.k):Em s z.k->(∀ j e,yf s=some (j,e)->∃ r,z.x.aa.recs[j]?=some r/\bA r.w=e)->uJ s<=z.x.aa.count->O7 s z (stepS s z):=by
 have hsl:∀ (i:Int) (w:ZS) (o:oq) (d:Int),Xb o none z.x.aa w.x.aa d->Xb o (yf (Zv i w)) z.x.aa w.x.aa (uJ (Zv i w) - (-d)):=fun i w o d h=>by
  obtain ⟨a,b,_⟩:=zu i w;rw [a,b];have:(0 - -d:Int)=d:=by omega
  rw [this];exact h
 match s,hf with
 | .nil,_=>exact fun _ _ _=>⟨Xb.same rfl rfl (.inl rfl),trivial⟩
 | .at none .shuts,_ =>
   intro _ _ _
   show O7 _ z ((if z.x.f.closed=true then (.ai .aR,{ (z.note { bO with kind:=9,err:=3 }) with k:={ z.k with err:=3,ok:=false,fB:=false } }) else (.at (some .inside) .bQ,({ z with x:={ z.x with f:={ z.x.f with closed:=true } } }:ZS).note { bO with kind:=10 })):SS × ZS)
   split <;> exact ⟨Xb.same rfl rfl (.inl rfl),trivial⟩
 | .at (some .inside) .bQ,_ =>
   intro _ _ _;obtain ⟨a,b,c⟩:=zu 0 z;have e:stepS (.at (some .inside) .bQ) z=(Zv 0 z,z):=rfl;rw [e];exact ⟨Xb.same rfl (by show uJ (Zv 0 z) - 0=0;rw [b];rfl) (.inr a),c _⟩
 | .at (some .idle) .cK,_=>exact fun _ _ _=>⟨Xb.same rfl rfl (.inl rfl),trivial⟩
 | .ai .aR,_=>exact fun _ _ _=>⟨Xb.same rfl rfl (.inl rfl),trivial⟩
 | .thn (.ai .dE) .waits,_=>exact fun _ _ _=>⟨Xb.same rfl rfl (.inl rfl),trivial⟩
 | .thn (.at none (.bJ i)) (.az j),_ =>
   intro _ _ _;by_cases h:bA (z.x.aa.word i)=2\/bA (z.x.aa.word i)=3
   ·have e:stepS (.thn (.at none (.bJ i)) (.az j)) z=(.thn (.at none (.aB i)) (.az j),Yb i z):=by
     show Qd Xu (if bA (z.x.aa.word i)=2\/bA (z.x.aa.word i)=3 then ((.at none (.aB i),Yb i z):SS × ZS) else (.nil,Yb i z)).1 (.az j) (if bA (z.x.aa.word i)=2\/bA (z.x.aa.word i)=3 then ((.at none (.aB i),Yb i z):SS × ZS) else (.nil,Yb i z)).2=_
     rw [if_pos h];rfl
    rw [e];exact ⟨Xb.same rfl rfl (.inl rfl),h⟩
   ·have e:stepS (.thn (.at none (.bJ i)) (.az j)) z=(Zv (j+1) (Yb i z),Yb i z):=by
     show Qd Xu (if bA (z.x.aa.word i)=2\/bA (z.x.aa.word i)=3 then ((.at none (.aB i),Yb i z):SS × ZS) else (.nil,Yb i z)).1 (.az j) (if bA (z.x.aa.word i)=2\/bA (z.x.aa.word i)=3 then ((.at none (.aB i),Yb i z):SS × ZS) else (.nil,Yb i z)).2=_
     rw [if_neg h];rfl
    rw [e];obtain ⟨a,b,c⟩:=zu (j+1) (Yb i z);exact ⟨Xb.same rfl (by show uJ (Zv (j+1) (Yb i z)) - 0=0;rw [b];rfl) (.inr a),c _⟩
 | .thn (.at none (.aB i)) (.az j),hf =>
   intro hfin _ _;have pU:bA z.k.aA=2\/bA z.k.aA=3:=hfin;rcases Z6 hs i z.k.aA 6 with ⟨t1,t2⟩ | ⟨t1,b,r,w',t2,t3,t4,t5,t6,t7,t8⟩
   ·have e:stepS (.thn (.at none (.aB i)) (.az j)) z=(.thn (uf i) (.az j),{ z with x:={ z.x with aa:=(z.x.aa.try i z.k.aA 6).1 } }):=by
     show Qd Xu (Xu (.aB i) z).1 (.az j) (Xu (.aB i) z).2=_
     have e1:Xu (.aB i) z=(uf i,{ z with x:={ z.x with aa:=(z.x.aa.try i z.k.aA 6).1 } }):=by
      dsimp only [Xu];rw [if_pos t1]
     rw [e1];rfl
    rw [e];exact ⟨Xb.same t2 rfl (.inl rfl),trivial⟩
   ·obtain ⟨z',e,hz⟩:∃ z',stepS (.thn (.at none (.aB i)) (.az j)) z=(.thn (.aP (.release i) .drop) (.az j),z')/\z'.x.aa=(z.x.aa.try i z.k.aA 6).1:=by
     refine ⟨(Xu (.aB i) z).2,?_,?_⟩
     ·show Qd Xu (Xu (.aB i) z).1 (.az j) (Xu (.aB i) z).2=_
      have e1:(Xu (.aB i) z).1=.aP (.release i) .drop:=by dsimp only [Xu];rw [if_neg (fun h=>h t1)]
      rw [e1];rfl
     ·dsimp only [Xu];rw [if_neg (fun h=>h t1)];rfl
    rw [e];obtain ⟨g1,g2,g3⟩:=GQ t5 (.inl rfl) t6;refine ⟨?_,by show 0<=i;omega⟩
    show Xb none (some (i.toNat,5)) z.x.aa z'.x.aa (0 - 0)
    rw [hz,t7];refine ⟨?_,.other b r { r with w:=w' } t3 (by omega) rfl (.inr ⟨5,by rw [t2,WL],g3 rfl,.inr (.inl rfl)⟩),zl (r':={ r with w:=w' }) t3 t5 t6,z7 (r':={ r with w:=w' }) t3 t5 t6 (.inl rfl)⟩
    show z.x.aa.count - (Ja (z.x.aa.recs.set b { r with w:=w' }):Int)=_
    rw [Ey t3 (by omega) (by show bA w'≠0;exact g2)];omega
 | .thn (.aP (.release i) .drop) (.az j),_ =>
   intro hfin hO _;have hi:0<=i:=hfin;obtain ⟨r,hr,he⟩:=hO _ _ rfl;have hro:=hs.recs r (WK hr);obtain ⟨b,rfl⟩:=WO hi;rw [WL] at hr;obtain ⟨w',hn,hst⟩:=BM (ev:=10) (p:=decide (0<r.p)) hro (by decide) (by decide) (by rw [he];rfl) (by rw [he];rfl);have hst:bA w'=0:=by rw [he] at hst;exact hst
   refine ⟨?_,trivial⟩
   show Xb (some ((b:Int).toNat,5)) none z.x.aa (z.x.aa.try b (z.x.aa.word b) 10).1 (1 - 0)
   rw [BP hr hn];refine ⟨?_,.mine b 5 { r with w:=w' } (by rw [WL]) rfl rfl,zl (r':={ r with w:=w' }) hr hro hn,z7 (r':={ r with w:=w' }) hr hro hn (.inl rfl)⟩
   show z.x.aa.count - (Ja (z.x.aa.recs.set b { r with w:=w' }):Int)=_
   rw [Mg hr (by omega) (by show bA w'=0;exact hst)];omega
 | .thn (.ai .drop) (.az j),_ =>
   intro _ _ hp;have hp:1<=z.x.aa.count:=hp;have e:stepS (.thn (.ai .drop) (.az j)) z=(Zv (j+1) (Ya .drop z),Ya .drop z):=rfl;rw [e];obtain ⟨a,b,c⟩:=zu (j+1) (Ya .drop z);refine ⟨?_,c _⟩
   show Xb none (yf (Zv (j+1) (Ya .drop z))) z.x.aa z.x.aa.drop.1 (uJ (Zv (j+1) (Ya .drop z)) - 1)
   rw [a,b];unfold Qj.drop;rw [if_pos (by omega)];exact ⟨by show z.x.aa.count - 1 - (Ja z.x.aa.recs:Int)=_;omega,.calm rfl (.inl rfl),Bw rfl,EF rfl⟩
end
def uN:Wk->oq
 | .call s k=>uM s k
 | .turn s k=>vI s k
 | .dL s _=>yf s
def lI:Wk->Int
 | .call s k=>z8 s k
 | .turn s _=>oQ s
 | .dL s _=>uJ s
def Od:Wk->Prop
 | .call _ _=>True
 | .turn s k=>zV s k
 | .dL s k=>Em s k
theorem GX (w:Wk):0<=lI w:=by
 cases w with
 | call s k =>
   show 0<=z8 s k
   unfold z8;split
   ·unfold Ce;split
    ·split <;> decide
    ·decide
   ·decide
   ·decide
 | turn s k=>show 0<=yz (uI s);unfold yz;split <;> decide
 | dL s k=>show 0<=uJ s;unfold uJ;split <;> decide
structure pJ (N:Nat) (S:SvS):Prop where
 cnt:S.z.x.aa.count=Ja S.z.x.aa.recs+Jr (S.all.map fun j=>lI j.w)
 own:sI (S.all.map fun j=>uN j.w) S.z.x.aa.recs
 fin:∀ (a:Nat) (j:J2),S.all[a]?=some j->Od j.w
 gen:lD N S.z.x.aa.recs
section
variable {N:Nat} {S:SvS}
theorem q96 (h:pJ N S) {a:Nat} {j:J2} (ha:S.all[a]?=some j) (n':Int) {w':Wk} {z':ZF} (h1:Xb (uN j.w) (uN w') S.z.x.aa z'.x.aa (lI w' - lI j.w)) (h2:Od w'):pJ (N+1) { S with all:=S.all.set a ⟨j.kb,n',w'⟩,z:=z' }:=by
 refine ⟨?_,?_,fun b jb hb=>?_,h1.gen N h.gen⟩
 ·show z'.x.aa.count=Ja z'.x.aa.recs+Jr ((S.all.set a ⟨j.kb,n',w'⟩).map fun j:J2=>lI j.w)
  rw [qp (f:=fun j:J2=>lI j.w) ha]
  show _=_+(_ - lI j.w+lI w')
  have:=h.cnt;have:=h1.cnt;omega
 ·show sI ((S.all.set a ⟨j.kb,n',w'⟩).map fun j:J2=>uN j.w) z'.x.aa.recs
  rw [Uj];exact h.own.vk (yj ha) h1.vk
 ·rcases B5 hb with ⟨_,rfl⟩ | ⟨hne,hb⟩
  ·exact h2
  ·exact h.fin b jb hb
theorem q99 (hn:dV N S) (hl:qz S) (h:pJ N S) {t:Th} (ht:t.here S) (hm:t.may S=true):pJ (N+1) (t.step S):=by
 cases t with
 | eH a =>
   have ha:=Xj ht;have hm:(S.ah a).w.may S.z=true:=hm;obtain ⟨hjn,_,_⟩:=hn.fe _ (WK ha);have hO:∀ j e,uN (S.ah a).w=some (j,e)->∃ r,S.z.x.aa.recs[j]?=some r/\bA r.w=e:=fun j e hj=>(h.own.own a j e (by rw [yj ha,hj])).2
   have hp:lI (S.ah a).w<=S.z.x.aa.count:=by
    have:=z6 (f:=fun j:J2=>lI j.w) (fun x=>GX x.w) ha;have:=h.cnt;omega
   have hfin:=h.fin a _ ha;have hgo:=hl.go a _ ha;have hs:=hn.eY.zn.core.aa;refine q96 h ha _ ?_ ?_
   ·cases hw:(S.ah a).w with
    | call s k =>
      rw [hw] at hjn hO hp hgo;exact Pp ⟨hn.eY.zn.core,hjn.wk,hjn.fit⟩ hgo.1 hO hp
    | turn s k =>
      rw [hw] at hjn hO hp hfin;exact (NB (z:=⟨k,S.z.x,S.z.ws,S.z.p⟩) hs hjn.fit hfin hO hp).sl
    | dL s k =>
      rw [hw] at hjn hO hp hfin;exact (KD (z:=⟨k,S.z.x,S.z.p⟩) hs hjn.fit hfin hO hp).sl
   ·cases hw:(S.ah a).w with
    | call s k=>trivial
    | turn s k =>
      rw [hw] at hjn hO hp hfin;exact (NB (z:=⟨k,S.z.x,S.z.ws,S.z.p⟩) hs hjn.fit hfin hO hp).fin
    | dL s k =>
      rw [hw] at hjn hO hp hfin;exact (KD (z:=⟨k,S.z.x,S.z.p⟩) hs hjn.fit hfin hO hp).fin
 | fQ i =>
   have hc:=Jp ht;have hcn:=hn.aL _ (WK hc)
   show pJ (N+1) { S with aL:=S.aL.set i ((S.aO i).step S.z).1,z:=((S.aO i).step S.z).2 }
   have e:((S.aO i).step S.z).2.x.aa=S.z.x.aa:=by
    generalize S.aO i=c at hcn;obtain ⟨wb,s,n,k⟩:=c;rcases hcn.fit with ⟨h1,_⟩ | ⟨h1,_⟩
    ·obtain rfl:s=Jy:=h1
     rfl
    ·obtain rfl:s=.thn (.ai .jy) .takes:=h1
     rfl
   exact ⟨by show ((S.aO i).step S.z).2.x.aa.count=Ja ((S.aO i).step S.z).2.x.aa.recs+_;rw [e];exact h.cnt,by show sI _ ((S.aO i).step S.z).2.x.aa.recs;rw [e];exact h.own,h.fin,by show lD _ ((S.aO i).step S.z).2.x.aa.recs;rw [e];exact Bw rfl _ h.gen⟩
theorem pJ.mono {M:Nat} (h:pJ N S) (hm:N<=M):pJ M S:=⟨h.cnt,h.own,h.fin,fun r hr=>by have:=h.gen r hr;omega⟩
theorem q1z (th no:Int) (c:Q4):uN (Xs th no c)=none/\lI (Xs th no c)=0/\Od (Xs th no c):=by
 unfold Xs;split
 ·exact ⟨rfl,rfl,trivial⟩
 ·split
  ·exact ⟨rfl,rfl,trivial⟩
  ·unfold q7
   split
   ·exact ⟨rfl,rfl,trivial⟩
   ·split <;> exact ⟨rfl,rfl,trivial⟩
theorem q05 (h:pJ N S) (th:Int) (c:Q4) (kb:Nat):pJ N (S.dB kb th c):=by
 obtain ⟨g1,g2,g3⟩:=q1z th (S.all.length+1) c;refine ⟨?_,?_,fun a j ha=>?_,h.gen⟩
 ·show S.z.x.aa.count=Ja S.z.x.aa.recs+Jr ((S.all++[_]).map fun j:J2=>lI j.w)
  rw [M5,h.cnt]
  show _=_+(_+lI (Xs th (S.all.length+1) c))
  rw [g2];omega
 ·show sI ((S.all++[_]).map fun j:J2=>uN j.w) S.z.x.aa.recs
  rw [XI]
  show sI (_++[uN (Xs th (S.all.length+1) c)]) _
  rw [g1];exact h.own.snoc
 ·rcases EU ha with ⟨_,ha⟩ | ⟨_,rfl⟩
  ·exact h.fin a j ha
  ·exact g3
theorem sl0 (c:Cfg) (hk:c.ok=true):pJ 0 (uP c):=by
 refine ⟨?_,⟨fun a k e ha=>(by cases ha),fun a b k e f ha=>(by cases ha)⟩,fun a j ha=>(by cases ha),fun r hr=>by
  rw [WR (show r∈WT c.cap.toNat Rec.zero from hr)]
  decide⟩
 show (0:Int)=Ja (WT c.cap.toNat Rec.zero)+0
 have:Ja (WT c.cap.toNat Rec.zero)=0:=by
  unfold Ja;rw [List.countP_eq_zero];intro r hr;rw [WR hr];decide
 rw [this];rfl
end
def jd (rs:List Rec) (t:Qn):Prop:=∀ r,0<=t.slot->rs[t.slot.toNat]?=some r->t.gen<=X7 r.w/\(X7 r.w=t.gen->r.p=t.per)
theorem jd.le {rs rs':List Rec} {t:Qn} (h:jd rs t) (hl:kM rs rs'):jd rs' t:=by
 intro r' h0 hr;obtain ⟨r,h1,h2,h3⟩:=hl.at_ _ r' hr;obtain ⟨h4,h5⟩:=h r h0 h1;exact ⟨by omega,fun e=>by rw [h3 (by omega),h5 (by omega)]⟩
def xZ (rs:List Rec):Prop:=∀ r∈rs,0<=X7 r.w/\(X7 r.w=0->r.p=0)
theorem xZ.le {rs rs':List Rec} (h:xZ rs) (hl:kM rs rs'):xZ rs':=by
 intro r' hr';obtain ⟨k,hk⟩:=WW.1 hr';obtain ⟨r,h1,h2,h3⟩:=hl.at_ k r' hk;obtain ⟨h4,h5⟩:=h r (WK h1);exact ⟨by omega,fun e=>by rw [h3 (by omega),h5 (by omega)]⟩
theorem xZ.zero {rs:List Rec} (h:xZ rs):jd rs Qn.zero:=by
 intro r _ hr;obtain ⟨a,b⟩:=h r (WK hr);exact ⟨a,b⟩
structure Yk (rs:List Rec) (au:List Qs) (ws:List Qg):Prop where
 g0:xZ rs
 ring:∀ s∈au,∀ e∈s.ring.slots,jd rs e.v
 wh:∀ w∈ws,fU (fun e=>jd rs e.v) w
theorem fU.imp {P Q:gI->Prop} {w:Qg} (h:fU P w) (hi:∀ e,P e->Q e):fU Q w:=⟨fun l hl s hs e he=>hi e (h.1 l hl s hs e he),fun e he=>hi e (h.2 e he)⟩
theorem Yk.le {rs rs':List Rec} {au:List Qs} {ws:List Qg} (h:Yk rs au ws) (hl:kM rs rs'):Yk rs' au ws :=
 ⟨h.g0.le hl,fun s hs e he=>(h.ring s hs e he).le hl,fun w hw=>(h.wh w hw).imp fun e he=>jd.le he hl⟩
structure jO (z:ZT):Prop where
 all:Yk z.x.aa.recs z.x.au z.ws
 t:jd z.x.aa.recs z.k.t
 due:∀ t∈z.k.due,jd z.x.aa.recs t
theorem Yk.uQ {rs:List Rec} {au:List Qs} {ws:List Qg} (h:Yk rs au ws) {i:Nat} {s:Qs} (hs:∀ e∈s.ring.slots,jd rs e.v):Yk rs (au.set i s) ws :=
 ⟨h.g0,fun a ha e he=>by
   rcases WQ ha with ha | rfl
   ·exact h.ring a ha e he
   ·exact hs e he,h.wh⟩
theorem Yk.setW {rs:List Rec} {au:List Qs} {ws:List Qg} (h:Yk rs au ws) {i:Nat} {w:Qg} (hw:fU (fun e=>jd rs e.v) w):Yk rs au (ws.set i w) :=
 ⟨h.g0,h.ring,fun a ha=>by
   rcases WQ ha with ha | rfl
   ·exact h.wh a ha
   ·exact hw⟩
theorem Yk.aU {z:ZT} (h:Yk z.x.aa.recs z.x.au z.ws):∀ e∈z.aU.ring.slots,jd z.x.aa.recs e.v:=by
 intro e he;unfold ZT.aU at he;rw [WM] at he;cases hs:z.x.au[z.sh]? with
 | none =>
   rw [hs] at he;have he:e∈(Jj 1).slots:=he;unfold Jj at he;obtain ⟨i,_,rfl⟩:=XD.1 he;exact h.g0.zero
 | some s=>rw [hs] at he;exact h.ring s (WK hs) e he
theorem Yk.y7 {z:ZT} (h:Yk z.x.aa.recs z.x.au z.ws):fU (fun e=>jd z.x.aa.recs e.v) z.wh:=by
 unfold ZT.wh;rw [WM];cases hs:z.ws[z.sh]? with
 | none=>exact ⟨fun l hl=>(by cases hl),fun e he=>(by cases he)⟩
 | some w=>exact h.wh w (WK hs)
section
variable {z:ZT}
theorem jO.lX (h:jO z) {k:Xd} (ht:k.t=z.k.t) (hd:k.due=z.k.due):jO { z with k:=k }:=⟨h.all,by show jd _ k.t;rw [ht];exact h.t,by show ∀ t∈k.due,_;rw [hd];exact h.due⟩
theorem jO.note (h:jO z) (E:EvS):jO (z.note E):=⟨h.all,h.t,h.due⟩
theorem jO.aa (h:jO z) {s:Qj} (hl:kM z.x.aa.recs s.recs):jO { z with x:={ z.x with aa:=s } } :=
 ⟨h.all.le hl,h.t.le hl,fun t ht=>(h.due t ht).le hl⟩
theorem jO.EZ (h:jO z) {t:Qn} (ht:jd z.x.aa.recs t):jO { z with k:={ z.k with t:=t } }:=⟨h.all,ht,h.due⟩
theorem jO.arm (h:jO z):jO (jk z) :=
 (⟨h.all.setW (fU.place h.all.y7 (show jd z.x.aa.recs (mQ z.wh z.k.t).v from h.t)),h.t,h.due⟩:jO { z with ws:=z.ws.set z.sh (z.wh.place (mQ z.wh z.k.t)) }).note _
theorem q3k (hs:Xc z.x.aa) (ev:Int):kM z.x.aa.recs (Qk ev z).1.x.aa.recs:=by
 show kM z.x.aa.recs (z.x.aa.try z.k.t.slot z.k.aA ev).1.recs
 rcases Z6 hs z.k.t.slot z.k.aA ev with ⟨t1,t2⟩ | ⟨t1,j,r,w',t2,t3,t4,t5,t6,t7,t8⟩
 ·rw [t2];exact kM.refl _
 ·rw [t7];exact z7 (r':={ r with w:=w' }) t3 t5 t6 (.inl rfl)
theorem jO.tried (h:jO z) (hs:Xc z.x.aa) (ev:Int):jO (Qk ev z).1:=h.aa (q3k hs ev)
theorem jO.fires (h:jO z) (d i:Nat):jO (Qm d i z).2:=by
 unfold Qm;split
 ·exact h
 ·next t ht=>exact h.EZ (h.due t (WK ht))
theorem qui (r:Qx):(∀ e∈(J4 r).1.slots,e∈r.slots\/e.v=Qn.zero)/\((∃ e∈r.slots,(J4 r).2.1=e.v)\/(J4 r).2.1=Qn.zero):=by
 unfold J4;split
 ·refine ⟨fun e he=>?_,?_⟩
  ·rcases WQ he with he | rfl
   ·exact .inl he
   ·exact .inr rfl
  ·show (∃ e∈r.slots,(r.slot r.head).v=e.v)\/(r.slot r.head).v=Qn.zero
   unfold Qx.slot;rw [WM];cases hg:r.slots[r.at r.head]? with
   | none=>exact .inr rfl
   | some e=>exact .inl ⟨e,WK hg,rfl⟩
 ·exact ⟨fun e he=>.inl he,.inr rfl⟩
end
structure PZ (z:ZT):Prop where
 ok:Xc z.x.aa
 p:jO z
def GV:MT->Prop
 | .aV _=>False
 | _=>True
section
variable {z:ZT}
theorem PZ.tried (h:PZ z) (ev:Int):PZ (Qk ev z).1:=⟨(ui h.ok _ _ _).1,h.p.tried h.ok ev⟩
theorem PZ.note (h:PZ z) (E:EvS):PZ (z.note E):=⟨h.ok,h.p.note E⟩
theorem PZ.lX (h:PZ z) {k:Xd} (ht:k.t=z.k.t) (hd:k.due=z.k.due):PZ { z with k:=k }:=⟨h.ok,h.p.lX ht hd⟩
theorem PZ.fires (h:PZ z) (d i:Nat):PZ (Qm d i z).2:=⟨by unfold Qm;split <;> exact h.ok,h.p.fires d i⟩
theorem PZ.lM (h:PZ z) (i:Nat):PZ (Q7 i z).2:=by
 unfold Q7;split
 ·exact ⟨h.ok,⟨h.p.all,h.p.t,fun t ht=>by cases ht⟩⟩
 ·exact h.lX rfl rfl
theorem PZ.cZ (h:PZ z) {s:Qs} (hs:∀ e∈s.ring.slots,jd z.x.aa.recs e.v):PZ (z.cZ s):=⟨h.ok,⟨h.p.all.uQ hs,h.p.t,h.p.due⟩⟩
theorem PZ.run (m:MT) (h:PZ z) (hm:GV m):PZ (runT m z).2:=by
 cases m with
 | aV n=>exact hm.elim
 | enter=>exact ⟨h.ok,⟨h.p.all,h.p.t,h.p.due⟩⟩
 | gate =>
   show PZ ((if z.x.f.closed=true then Yr 3 z else (.at none .tick,z)):ST × ZT).2
   split
   ·exact (h.note _).lX rfl rfl
   ·exact h
 | tick =>
   have h1:PZ (({ z with x:={ z.x with f:={ z.x.f with now:=z.x.f.now+1 } },k:={ z.k with now:=z.x.f.now+1 } }:ZT).note { bO with kind:=11,tick:=z.x.f.now+1 }):=⟨h.ok,⟨h.p.all,h.p.t,h.p.due⟩⟩;exact h1.lM 0
 | ae i=>exact h.lM (i+1)
 | dI d=>exact h.cZ (s:={ z.aU with who:=ow z.aU.who z.k.th,turns:=nC z.aU.who z.aU.turns }) h.p.all.aU
 | bX d =>
   show PZ ((if z.aU.ring.tail - z.aU.ring.head<=0 then J1 d z else (.thn (Q2 (z.aU.ring.tail - z.aU.ring.head) z) (.af d),z)):ST × ZT).2
   split <;> exact h
 | af d=>exact h
 | aM d =>
   show PZ ((match z.k.due[0]? with | none=>(.ai .unlock,z) | some _=>(.thn (Qm d 0 z).1 .ay,(Qm d 0 z).2)):ST × ZT).2
   split
   ·exact h
   ·exact h.fires d 0
 | ay=>exact h
 | bK n =>
   obtain ⟨a,b⟩:=qui z.aU.ring
   have h1:PZ ({ (z.cZ { z.aU with ring:=(J4 z.aU.ring).1 }) with k:={ z.k with t:=(J4 z.aU.ring).2.1 } }:ZT):=by
    have h2:=h.cZ (s:={ z.aU with ring:=(J4 z.aU.ring).1 }) (fun e he=>by
     rcases a e he with he | he
     ·exact h.p.all.aU e he
     ·rw [he];exact h.p.all.g0.zero)
    refine ⟨h2.ok,h2.p.EZ ?_⟩
    show jd z.x.aa.recs (J4 z.aU.ring).2.1
    rcases b with ⟨e,he,e2⟩ | e2
    ·rw [e2];exact h.p.all.aU e he
    ·rw [e2];exact h.p.all.g0.zero
   show PZ ((if _ then _ else _):ST × ZT).2
   split <;> exact h1
 | ax n=>exact h
 | bz =>
   show PZ ((if (Qr 2 z).2=true then (.at none .aH,(Qr 2 z).1) else (.nil,(Qr 2 z).1)):ST × ZT).2
   split <;> exact h.lX rfl rfl
 | aH =>
   show PZ ((if (Qk 3 z).2=true then (.nil,jk (Qk 3 z).1) else (Qv (Qk 3 z).1,(Qk 3 z).1)):ST × ZT).2
   split
   ·exact ⟨(h.tried 3).ok,(h.tried 3).p.arm⟩
   ·exact h.tried 3
 | aD d i=>exact h.fires d (i+1)
 | looks =>
   show PZ ((if (Qr 3 z).2=true then (.at none .bE,(Qr 3 z).1) else (.nil,(Qr 3 z).1)):ST × ZT).2
   split <;> exact h.lX rfl rfl
 | bE =>
   show PZ ((if (Qk 4 z).2=true then (.thn (.ai (.put ⟨z.k.t.id,z.k.t.gen,z.k.t.dl,z.k.now⟩)) .bB,(Qk 4 z).1.note { bO with kind:=5,id:=z.k.t.id,gen:=z.k.t.gen,dl:=z.k.t.dl,tick:=z.k.now }) else (.at none .looks,(Qk 4 z).1)):ST × ZT).2
   split
   ·exact (h.tried 4).note _
   ·exact h.tried 4
 | bB=>exact h
 | behind =>
   show PZ ((if bA (z.x.aa.word z.k.t.slot)≠4\/X7 (z.x.aa.word z.k.t.slot)≠z.k.t.gen then (St.nil,({ z with k:={ z.k with aA:=z.x.aa.word z.k.t.slot } }:ZT))
    else if 0<z.k.t.per/\Xk (z.x.aa.word z.k.t.slot)=false/\z.k.t.dl+z.k.t.per<18446744073709551616 then (.at none (.aV (z.k.t.dl+z.k.t.per)),{ z with k:={ z.k with aA:=z.x.aa.word z.k.t.slot } }) else (.at none .aS,{ z with k:={ z.k with aA:=z.x.aa.word z.k.t.slot } })):ST × ZT).2
   split
   ·exact h.lX rfl rfl
   ·split <;> exact h.lX rfl rfl
 | aS =>
   show PZ ((if (Qk 9 z).2=true then (.aP .rel .drop,if 0<z.k.t.per/\Xk z.k.aA=false then (Qk 9 z).1.note { bO with kind:=14,id:=z.k.t.id,gen:=z.k.t.gen } else (Qk 9 z).1) else (.at none .behind,(Qk 9 z).1)):ST × ZT).2
   split
   ·show PZ (if _ then _ else _)
    split
    ·exact (h.tried 9).note _
    ·exact h.tried 9
   ·exact h.tried 9
theorem PZ.EX (h:PZ z) (next:Int) (hg:X7 z.k.aA=z.k.t.gen):PZ (runT (.aV next) z).2:=by
 show PZ ((if (Qk 5 z).2=true then (.nil,jk { (Qk 5 z).1 with k:={ z.k with t:={ z.k.t with gen:=z.k.t.gen+1,dl:=next } } }) else (.at none .behind,(Qk 5 z).1)):ST × ZT).2
 split
 ·next hb =>
  have ht:=h.tried 5
  have hp:jd (Qk 5 z).1.x.aa.recs { z.k.t with gen:=z.k.t.gen+1,dl:=next }:=by
   rcases Z6 h.ok z.k.t.slot z.k.aA 5 with ⟨t1,_⟩ | ⟨t1,j,r,w',t2,t3,t4,t5,t6,t7,t8⟩
   ·exact absurd (show (z.x.aa.try z.k.t.slot z.k.aA 5).2.2=0 by have hb:((z.x.aa.try z.k.t.slot z.k.aA 5).2.2 == 0)=true:=hb;simpa using hb) t1
   ·intro q h0 hq
    have hq:(z.x.aa.try z.k.t.slot z.k.aA 5).1.recs[z.k.t.slot.toNat]?=some q:=hq;rw [t7,t2,WL] at hq;have hq:(z.x.aa.recs.set j { r with w:=w' })[j]?=some q:=hq;rw [get_set_same t3] at hq;cases hq
    obtain ⟨a,b⟩:=h.p.t r h0 (by rw [t2,WL];exact t3);have hgr:X7 r.w=z.k.t.gen:=by rw [t4];exact hg
    have hgw:X7 w'=X7 r.w+1:=by
     have hb:=uH r.w t5.w0 t5.ok;rcases Yz r.w 5 (decide (0<r.p)) t5.w0 t5.w1 t5.ok with ⟨_,h2⟩ | ⟨_,_,_,_,_,_,h7,_⟩
     ·rw [t6] at h2;simp only at h2;omega
     ·rw [t6] at h7;exact h7
    exact ⟨by show z.k.t.gen+1<=X7 w';omega,fun _=>b hgr⟩
  have h2:PZ ({ (Qk 5 z).1 with k:={ z.k with t:={ z.k.t with gen:=z.k.t.gen+1,dl:=next } } }:ZT):=⟨ht.ok,⟨ht.p.all,hp,ht.p.due⟩⟩;exact ⟨h2.ok,h2.p.arm⟩
 ·exact h.tried 5
theorem PZ.act (a:AT) (h:PZ z):PZ (Q3 a z):=by
 cases a with
 | leave1=>exact ⟨h.ok,⟨h.p.all,h.p.t,h.p.due⟩⟩
 | answer=>exact h.note _
 | unlock=>exact h.cZ (s:={ z.aU with who:=0 }) h.p.all.aU
 | bH d =>
   obtain ⟨a,b⟩:=fU.fO h.p.all.y7;refine ⟨h.ok,⟨h.p.all.setW a,h.p.t,fun t ht=>?_⟩⟩
   obtain ⟨e,he,rfl⟩:=XD.1 ht;exact b e he
 | put f=>exact ⟨h.ok,⟨h.p.all,h.p.t,h.p.due⟩⟩
 | rel =>
   refine ⟨(ui h.ok _ _ _).1,h.p.aa (s:=(z.x.aa.try z.k.t.slot (z.x.aa.word z.k.t.slot) 10).1) ?_⟩
   rcases Z6 h.ok z.k.t.slot (z.x.aa.word z.k.t.slot) 10 with ⟨t1,t2⟩ | ⟨t1,j,r,w',t2,t3,t4,t5,t6,t7,t8⟩
   ·rw [t2];exact kM.refl _
   ·rw [t7];exact z7 (r':={ r with w:=w' }) t3 t5 t6 (.inl rfl)
 | drop =>
   refine ⟨(EA h.ok).1,h.p.aa (s:=z.x.aa.drop.1) ?_⟩
   unfold Qj.drop;split <;> exact kM.refl _
end
theorem PZ.steps (s:ST) {z:ZT} (h:PZ z) (hs:s.allM GV (fun _=>True)):PZ (St.run runT Q3 s z).2 :=
 St.tQ (Y:=YT) (R:=fun z z'=>PZ z->PZ z') (fun _=>id) (fun _ _ _ a b h=>b (a h)) (fun m z hm h=>h.run m hm) (fun a z _ h=>h.act a) s z hs h
def Bi:ST->Xd->Prop
 | .at none (.aV _),k=>bA k.aA=4/\X7 k.aA=k.t.gen/\0<k.t.per/\Xk k.aA=false
 | .at none .aS,k=>bA k.aA=4/\X7 k.aA=k.t.gen
 | _,_=>True
def En (s:ST) (k:Xd):Prop:=Bi (uI s) k
def Da (s:ST):Prop:=uI s=.nil\/uI s=.at none .looks
section
variable {z:ZT}
theorem Tk (i:Nat) (z:ZT):Da (Q7 i z).1:=by
 unfold Q7;split <;> exact .inl rfl
theorem MY (n:Int) (d i:Nat) (z':ZT):Da (Qd runT (Qd runT (Q2 n z') (.af d) z').1 (.ae i) (Qd runT (Q2 n z') (.af d) z').2).1:=by
 by_cases h:n<=0
 ·rw [G9 h];exact .inl rfl
 ·rw [Br h];exact .inl rfl
def QD (s:ST) (z:ZT):Prop:=Da (Qw s z).1\/∃ G d n i,s=.thn (.thn (.thn G (.aD d n)) .ay) (.ae i)/\(St.run runT Q3 G z).1≠.nil /\
 Qw s z=(.thn (.thn (.thn (St.run runT Q3 G z).1 (.aD d n)) .ay) (.ae i),(St.run runT Q3 G z).2)
theorem qzz {X:ST} {i:Nat} (hX:ky X z.k z.x i):QD (.thn X (.ae i)) z:=by
 match X,hX with
 | .at (some .lock) (.dI d),_=>exact .inl (.inl rfl)
 | .at none (.bX d),_ =>
   refine .inl ?_
   have e:Qw (.thn (.at none (.bX d)) (.ae i)) z=Qd runT ((if z.aU.ring.tail - z.aU.ring.head<=0 then J1 d z else (.thn (Q2 (z.aU.ring.tail - z.aU.ring.head) z) (.af d),z)):ST × ZT).1 (.ae i) ((if z.aU.ring.tail - z.aU.ring.head<=0 then J1 d z else (.thn (Q2 (z.aU.ring.tail - z.aU.ring.head) z) (.af d),z)):ST × ZT).2:=rfl;rw [e];split
   ·exact .inl rfl
   ·exact .inl (UM _ _ _ (by intro h;cases h))
 | .thn (.ai (.bH d)) (.aM e),_ =>
   refine .inl ?_
   have e2:Qw (.thn (.thn (.ai (.bH d)) (.aM e)) (.ae i)) z=Qd runT (runT (.aM e) (Q3 (.bH d) z)).1 (.ae i) (runT (.aM e) (Q3 (.bH d) z)).2:=rfl;rw [e2];generalize Q3 (.bH d) z=w;have e3:runT (.aM e) w=(match w.k.due[0]? with | none=>((.ai .unlock,w):ST × ZT) | some _=>(.thn (Qm e 0 w).1 .ay,(Qm e 0 w).2)):=rfl;rw [e3];cases hd:w.k.due[0]? with
   | none=>exact .inl rfl
   | some t =>
     have hf:Qm e 0 w=(.thn (.at none .looks) (.aD e 0),{ w with k:={ w.k with t:=t } }):=by unfold Qm;rw [hd]
     rw [hf];exact .inr rfl
 | .thn (.at (some (.ready j)) (.bK n)) (.af d),_ =>
   refine .inl ?_
   obtain ⟨z',hz'⟩:∃ z':ZT,{ (z.cZ { z.aU with ring:=(J4 z.aU.ring).1 }) with k:={ z.k with t:=(J4 z.aU.ring).2.1 } }=z':=⟨_,rfl⟩;have e:Qw (.thn (.thn (.at (some (.ready j)) (.bK n)) (.af d)) (.ae i)) z=Qd runT (Qd runT (if z'.k.t.slot<0 then (Q2 (n - 1) z',z') else ((.thn (.at none .bz) (.ax n),z'):ST × ZT)).1 (.af d) (if z'.k.t.slot<0 then (Q2 (n - 1) z',z') else ((.thn (.at none .bz) (.ax n),z'):ST × ZT)).2).1 (.ae i) (Qd runT (if z'.k.t.slot<0 then (Q2 (n - 1) z',z') else ((.thn (.at none .bz) (.ax n),z'):ST × ZT)).1 (.af d) (if z'.k.t.slot<0 then (Q2 (n - 1) z',z') else ((.thn (.at none .bz) (.ax n),z'):ST × ZT)).2).2:=by rw [<- hz'];rfl
   rw [e];split
   ·exact MY (n - 1) d i z'
   ·exact .inl rfl
 | .thn (.thn (.at none .bz) (.ax n)) (.af d),_ =>
   refine .inl ?_
   have e1:runT .bz z=((if (Qr 2 z).2=true then (.at none .aH,(Qr 2 z).1) else (.nil,(Qr 2 z).1)):ST × ZT):=rfl;obtain ⟨r,hr⟩:∃ r,runT .bz z=r:=⟨_,rfl⟩;have e:Qw (.thn (.thn (.thn (.at none .bz) (.ax n)) (.af d)) (.ae i)) z=Qd runT (Qd runT (Qd runT r.1 (.ax n) r.2).1 (.af d) (Qd runT r.1 (.ax n) r.2).2).1 (.ae i) (Qd runT (Qd runT r.1 (.ax n) r.2).1 (.af d) (Qd runT r.1 (.ax n) r.2).2).2:=by rw [<- hr];rfl
   have hcase:r.1=.nil\/r.1=.at none .aH:=by
    rw [<- hr,e1];split
    ·exact .inr rfl
    ·exact .inl rfl
   rw [e];obtain ⟨r1,r2⟩:=r;rcases hcase with hc | hc
   ·obtain rfl:r1=.nil:=hc
    exact MY (n - 1) d i r2
   ·obtain rfl:r1=.at none .aH:=hc
    exact .inl rfl
 | .thn (.thn (.at none .aH) (.ax n)) (.af d),_ =>
   refine .inl ?_
   have e1:runT .aH z=((if (Qk 3 z).2=true then (.nil,jk (Qk 3 z).1) else (Qv (Qk 3 z).1,(Qk 3 z).1)):ST × ZT):=rfl;obtain ⟨r,hr⟩:∃ r,runT .aH z=r:=⟨_,rfl⟩;have e:Qw (.thn (.thn (.thn (.at none .aH) (.ax n)) (.af d)) (.ae i)) z=Qd runT (Qd runT (Qd runT r.1 (.ax n) r.2).1 (.af d) (Qd runT r.1 (.ax n) r.2).2).1 (.ae i) (Qd runT (Qd runT r.1 (.ax n) r.2).1 (.af d) (Qd runT r.1 (.ax n) r.2).2).2:=by rw [<- hr];rfl
   have hcase:r.1=.nil\/r.1=.at none .bz:=by
    rw [<- hr,e1];split
    ·exact .inl rfl
    ·show Qv _=_\/Qv _=_
     unfold Qv;split
     ·exact .inl rfl
     ·exact .inr rfl
   rw [e];obtain ⟨r1,r2⟩:=r;rcases hcase with hc | hc
   ·obtain rfl:r1=.nil:=hc
    exact MY (n - 1) d i r2
   ·obtain rfl:r1=.at none .bz:=hc
    exact .inl rfl
 | .thn (.thn G (.aD d n)) .ay,hX =>
   obtain ⟨r,hr⟩:∃ r,St.run runT Q3 G z=r:=⟨_,rfl⟩;have e:Qw (.thn (.thn (.thn G (.aD d n)) .ay) (.ae i)) z=Qd runT (Qd runT (Qd runT r.1 (.aD d n) r.2).1 .ay (Qd runT r.1 (.aD d n) r.2).2).1 (.ae i) (Qd runT (Qd runT r.1 (.aD d n) r.2).1 .ay (Qd runT r.1 (.aD d n) r.2).2).2:=by rw [<- hr];rfl
   by_cases hn:r.1=.nil
   ·refine .inl ?_
    rw [e];obtain ⟨G',z'⟩:=r;obtain rfl:G'=.nil:=hn
    show Da (Qd runT (Qd runT (Qm d (n+1) z').1 .ay (Qm d (n+1) z').2).1 (.ae i) (Qd runT (Qm d (n+1) z').1 .ay (Qm d (n+1) z').2).2).1
    cases hd:z'.k.due[n+1]? with
    | none =>
      have hfi:Qm d (n+1) z'=(.nil,z'):=by unfold Qm;rw [hd]
      rw [hfi];exact .inl rfl
    | some t =>
      have hfi:Qm d (n+1) z'=(.thn (.at none .looks) (.aD d (n+1)),{ z' with k:={ z'.k with t:=t } }):=by unfold Qm;rw [hd]
      rw [hfi];exact .inr rfl
   ·refine .inr ⟨G,d,n,i,rfl,by rw [hr];exact hn,?_⟩
    rw [e,hr];obtain ⟨G',z'⟩:=r;rw [Xt hn,Xt (by intro e;cases e),Xt (by intro e;cases e)]
 | .ai .unlock,_ =>
   have e:Qw (.thn (.ai .unlock) (.ae i)) z=Q7 (i+1) (z.cZ { z.aU with who:=0 }):=rfl;exact .inl (by rw [e];exact Tk _ _)
theorem q3m {s:ST} (h:rM s z.k z.x):QD s z:=by
 match s,h with
 | .nil,_=>exact .inl (.inl rfl)
 | .at none .enter,_=>exact .inl (.inl rfl)
 | .at none .gate,_ =>
   refine .inl ?_
   show Da ((if z.x.f.closed=true then Yr 3 z else (.at none .tick,z)):ST × ZT).1
   split <;> exact .inl rfl
 | .at none .tick,_=>exact .inl (Tk 0 _)
 | .aP .leave1 .answer,_=>exact .inl (.inl rfl)
 | .ai .answer,_=>exact .inl (.inl rfl)
 | .thn X (.ae i),h =>
   obtain ⟨_,_,_,hX⟩:=h;exact qzz hX
theorem JX {G:ST} (hG:oo G z.k):Bi (St.run runT Q3 G z).1 (St.run runT Q3 G z).2.k:=by
 match G,hG with
 | .at none .looks,_ =>
   show Bi ((if (Qr 3 z).2=true then (.at none .bE,(Qr 3 z).1) else (.nil,(Qr 3 z).1)):ST × ZT).1 _
   split <;> trivial
 | .at none .bE,_ =>
   show Bi ((if (Qk 4 z).2=true then (.thn (.ai (.put ⟨z.k.t.id,z.k.t.gen,z.k.t.dl,z.k.now⟩)) .bB,(Qk 4 z).1.note { bO with kind:=5,id:=z.k.t.id,gen:=z.k.t.gen,dl:=z.k.t.dl,tick:=z.k.now }) else (.at none .looks,(Qk 4 z).1)):ST × ZT).1 _
   split <;> trivial
 | .thn (.ai (.put f)) .bB,_=>trivial
 | .at none .behind,_ =>
   have e:St.run runT Q3 (.at none .behind) z=((if bA (z.x.aa.word z.k.t.slot)≠4\/X7 (z.x.aa.word z.k.t.slot)≠z.k.t.gen then (St.nil,({ z with k:={ z.k with aA:=z.x.aa.word z.k.t.slot } }:ZT))
    else if 0<z.k.t.per/\Xk (z.x.aa.word z.k.t.slot)=false/\z.k.t.dl+z.k.t.per<18446744073709551616 then (.at none (.aV (z.k.t.dl+z.k.t.per)),{ z with k:={ z.k with aA:=z.x.aa.word z.k.t.slot } }) else (.at none .aS,{ z with k:={ z.k with aA:=z.x.aa.word z.k.t.slot } })):ST × ZT):=rfl
   rw [e];split
   ·trivial
   ·next h =>
    have h4:bA (z.x.aa.word z.k.t.slot)=4/\X7 (z.x.aa.word z.k.t.slot)=z.k.t.gen:=by
     refine ⟨?_,?_⟩
     ·exact WN fun e=>h (.inl e)
     ·exact WN fun e=>h (.inr e)
    split
    ·next h2=>exact ⟨h4.1,h4.2,h2.1,h2.2.1⟩
    ·exact h4
 | .at none (.aV next),_ =>
   show Bi ((if (Qk 5 z).2=true then (.nil,jk { (Qk 5 z).1 with k:={ z.k with t:={ z.k.t with gen:=z.k.t.gen+1,dl:=next } } }) else (.at none .behind,(Qk 5 z).1)):ST × ZT).1 _
   split <;> trivial
 | .at none .aS,_ =>
   show Bi ((if (Qk 9 z).2=true then (.aP .rel .drop,if 0<z.k.t.per/\Xk z.k.aA=false then (Qk 9 z).1.note { bO with kind:=14,id:=z.k.t.id,gen:=z.k.t.gen } else (Qk 9 z).1) else (.at none .behind,(Qk 9 z).1)):ST × ZT).1 _
   split <;> trivial
 | .aP .rel .drop,_=>trivial
 | .ai .drop,_=>trivial
theorem q7s {s:ST} (h:rM s z.k z.x):En (Qw s z).1 (Qw s z).2.k:=by
 rcases q3m h with hc | ⟨G,d,n,i,rfl,_,e⟩
 ·unfold En
  rcases hc with hc | hc <;> rw [hc] <;> trivial
 ·rw [e]
  obtain ⟨_,_,_,hX⟩:=h;obtain ⟨_,_,_,_,hG⟩:=hX;exact JX hG
end
section
variable {z:ZT}
theorem PZ.thn {s:ST} {m:MT} (h1:PZ (St.run runT Q3 s z).2) (hm:GV m):PZ (St.run runT Q3 (.thn s m) z).2 :=
 qqh (R:=fun z z'=>PZ z->PZ z') (fun _=>id) (fun z h=>h.run m hm) _ _ h1
theorem q10 {G:ST} {k:Xd} (h:oo G k):(∃ n,G=.at none (.aV n))\/G.allM GV (fun _=>True):=by
 match G,h with
 | .at none .looks,_=>exact .inr trivial
 | .at none .bE,_=>exact .inr trivial
 | .thn (.ai (.put _)) .bB,_=>exact .inr ⟨trivial,trivial⟩
 | .at none .behind,_=>exact .inr trivial
 | .at none (.aV next),_=>exact .inl ⟨next,rfl⟩
 | .at none .aS,_=>exact .inr trivial
 | .aP .rel .drop,_=>exact .inr trivial
 | .ai .drop,_=>exact .inr trivial
theorem q7r {X:ST} {i:Nat} (hX:ky X z.k z.x i) (h:PZ z):En (.thn X (.ae i)) z.k->PZ (St.run runT Q3 X z).2:=by
 match X,hX with
 | .at (some .lock) (.dI d),_=>exact fun _=>PZ.steps _ h trivial
 | .at none (.bX d),_=>exact fun _=>PZ.steps _ h trivial
 | .thn (.ai (.bH d)) (.aM e),_=>exact fun _=>PZ.steps _ h ⟨trivial,trivial⟩
 | .thn (.at (some (.ready j)) (.bK n)) (.af d),_=>exact fun _=>PZ.steps _ h ⟨trivial,trivial⟩
 | .thn (.thn (.at none .bz) (.ax n)) (.af d),_=>exact fun _=>PZ.steps _ h ⟨⟨trivial,trivial⟩,trivial⟩
 | .thn (.thn (.at none .aH) (.ax n)) (.af d),_=>exact fun _=>PZ.steps _ h ⟨⟨trivial,trivial⟩,trivial⟩
 | .thn (.thn G (.aD d n)) .ay,hX =>
   obtain ⟨_,_,_,_,hG⟩:=hX;intro hs;rcases q10 hG with ⟨m,rfl⟩ | ha
   ·have hs:bA z.k.aA=4/\X7 z.k.aA=z.k.t.gen/\0<z.k.t.per/\Xk z.k.aA=false:=hs
    exact PZ.thn (PZ.thn (h.EX m hs.2.1) trivial) trivial
   ·exact PZ.steps _ h ⟨⟨ha,trivial⟩,trivial⟩
 | .ai .unlock,_=>exact fun _=>PZ.steps _ h trivial
theorem zar {s:ST} (hf:rM s z.k z.x) (h:PZ z):En s z.k->PZ (Qw s z).2:=by
 match s,hf with
 | .nil,_=>exact fun _=>h
 | .at none .enter,_=>exact fun _=>PZ.steps _ h trivial
 | .at none .gate,_=>exact fun _=>PZ.steps _ h trivial
 | .at none .tick,_=>exact fun _=>PZ.steps _ h trivial
 | .aP .leave1 .answer,_=>exact fun _=>PZ.steps _ h trivial
 | .ai .answer,_=>exact fun _=>PZ.steps _ h trivial
 | .thn X (.ae i),hf =>
   obtain ⟨_,_,_,hX⟩:=hf;exact fun hs=>PZ.thn (q7r hX h hs) trivial
end
def rR:SC->Qt->List Rec->Prop
 | .at none .fills,k,rs=>∀ r,rs[k.slot.toNat]?=some r->k.gen<=X7 r.w
 | _,_,_=>True
theorem rR.le {s:SC} {k:Qt} {rs rs':List Rec} (h:rR s k rs) (hl:kM rs rs'):rR s k rs':=by
 revert h
 unfold rR;split
 ·intro h r' hr
  obtain ⟨r,h1,h2,_⟩:=hl.at_ _ r' hr;have:=h r h1;omega
 ·exact fun _=>trivial
theorem Vu {s:Qj} (hs:Xc s) {k old ev:Int} (h0:0<=k) {r:Rec} (hr:(s.try k old ev).1.recs[k.toNat]?=some r):X7 (s.try k old ev).2.1=X7 r.w:=by
 rcases Z6 hs k old ev with ⟨t1,t2⟩ | ⟨t1,j,q,w',t2,t3,t4,t5,t6,t7,t8⟩
 ·rw [t2] at hr
  obtain ⟨j,rfl⟩:=WO h0;rw [WL] at hr;obtain ⟨a,b,c⟩:=Nr hr;unfold Qj.try at t1 |-;rw [if_pos a] at t1 |-;simp only [c] at t1 |-;split
  ·rfl
  ·next hne =>
   rw [if_neg hne] at t1;split
   ·next he=>rw [if_pos he] at t1;exact absurd rfl t1
   ·rfl
 ·rw [t7,t2,WL] at hr
  have hr:(s.recs.set j { q with w:=w' })[j]?=some r:=hr;rw [get_set_same t3] at hr;cases hr
  rw [t8]
section
variable {N:Nat} {k:Qt} {x:Qi}
theorem q3f (hs:Xc x.aa) (h0:0<=k.slot) (hg:rR (.at none .fills) k x.aa.recs):jd x.aa.recs (qt (k,x)):=by
 intro r _ hr;have hr:x.aa.recs[k.slot.toNat]?=some r:=hr;refine ⟨hg r hr,fun _=>?_⟩
 obtain ⟨j,hj⟩:=WO h0;rw [hj,WL] at hr;obtain ⟨a,b,c⟩:=Nr hr
 show r.p=x.aa.period k.slot
 unfold Qj.period;rw [hj,if_pos a,c]
theorem qwm {s:SC} {ws:List Qg} (hc:Zg N x) (hk:Zm N k x) {r:SC × ZC} (e:wZ (s=.at none .fills) k r.2.1 x r.2.2) (hl:kM x.aa.recs r.2.2.aa.recs) (ht:Yk x.aa.recs x.au ws) (hg:rR s k x.aa.recs):Yk r.2.2.aa.recs r.2.2.au ws:=by
 have h1:=ht.le hl;have hold:∀ {i:Nat} {sh:Qs},x.au[i]?=some sh->∀ e∈sh.ring.slots,jd r.2.2.aa.recs e.v:=fun hs e he=>(ht.ring _ (WK hs) e he).le hl
 cases e with
 | none a b=>rw [a];exact h1
 | new a h0 i hi b=>rw [a];exact h1
 | step i t sh h0 hst hf hs a b =>
   rw [a];refine h1.uQ (fun e he=>hold hs e ?_)
   have:(stepT sh.ring t).1.slots=sh.ring.slots:=by
    unfold stepT rG qE oU;split
    ·rfl
    ·split
     ·rfl
     ·split
      ·rfl
      ·split <;> rfl
   rw [<- this];exact he
 | fill i t sh v h0 hst hf hs hv a b =>
   rw [a];refine h1.uQ (fun e he=>?_)
   have he:e∈(Zn sh.ring t v).1.slots:=he;unfold Zn at he;rw [if_pos ⟨hst,hf⟩] at he;rcases WQ he with he | rfl
   ·exact hold hs e he
   ·show jd _ v
    rcases hv with ⟨rfl,hs⟩ | hv
    ·subst hs
     exact (q3f hc.aa hk.slot hg).le hl
    ·intro q hq;omega
end
end
end Go.Proofs.YtcneeepdclgdcaaGreat
