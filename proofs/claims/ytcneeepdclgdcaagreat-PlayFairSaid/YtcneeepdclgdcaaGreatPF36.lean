import Derived.Test.YtcneeepdclgdcaaGreatPF35
set_option maxRecDepth 100000
set_option maxHeartbeats 4000000
namespace Go.Proofs.YtcneeepdclgdcaaGreat
open _root_.List renaming getD_eq_getElem?_getD->WK,mem_of_getElem?->WL,getElem?_eq_getElem->WM,length_set->WS,getElem?_set->WV,getElem?_eq_some_iff->WW,length_singleton->WX,getElem?_set_ne->WY,length_append->WZ,getElem_mem->XA,length_map->XC
open _root_.Int renaming toNat_natCast->WN,le_trans->WO,eq_ofNat_of_zero_le->WR,le_refl->WU
open _root_.Decidable renaming byContradiction->WQ
open _root_.Option renaming isSome_iff_exists->WT
open _root_.Bool renaming and_eq_true->XB
open _root_.Nat renaming add_assoc->XD
set_option linter.all false
section
open Go.RowKit Go.Shelf
section
variable {N:Nat} {k:Qt} {x:Qi}
theorem q6j (hc:Zg N x) (hk:Zm N k x) (m:MC) (hf:uL (.at none m) k):rR (Jk m (k,x)).1 (Jk m (k,x)).2.1 (Jk m (k,x)).2.2.aa.recs:=by
 have iO:∀ (k2:Qt) rs,rR (Zl k) k2 rs:=fun k2 rs=>by unfold Zl;split <;> trivial
 cases m with
 | right =>
   show rR ((if mR k then (.ai .aR,Qo 1 (k,x)) else (.at none .enter,(k,x))):SC × ZC).1 _ _
   split <;> trivial
 | enter=>trivial
 | gate =>
   have e:Jk .gate (k,x)=if x.f.closed=true then (Zl k,Qo 3 (k,x)) else if k.kind=1\/k.kind=2 then (.at none .asks,({ k with rq:=some ⟨k.period,0,0,0,0,0⟩ },x)) else (.at none .looks,(k,x)):=rfl
   rw [e];split
   ·exact iO _ _
   ·split <;> trivial
 | asks =>
   obtain ⟨q,hq⟩:=WT.1 hf.1;have e:Jk .asks (k,x)=ql (k,x) q:=by show (match k.rq with | none=>_ | some q=>_)=_;rw [hq]
   rw [e];unfold ql;simp only [];split
   ·trivial
   ·split <;> trivial
 | bu =>
   obtain ⟨t,ht⟩:=WT.1 (show k.tk.isSome=true from hf);obtain ⟨i,t⟩:=t;have hi:=(hk.tk i t ht).2;have hsh:=WM hi
   have e:Jk .bu (k,x)=X8 (k,x) i t x.au[i]:=by
    show (match k.tk with | none=>_ | some (i,t)=>_)=_
    rw [ht];simp only [hsh]
   rw [e];unfold X8;simp only [];split
   ·trivial
   ·split
    ·trivial
    ·split
     ·trivial
     ·split <;> trivial
 | bW =>
   intro r hr;exact Int.le_of_eq (Vu (k:=k.slot) (old:=x.aa.word k.slot) (ev:=2) hc.aa hk.slot hr)
 | fills=>trivial
 | looks =>
   have e:Jk .looks (k,x)=(if (Q0 (k,x)).2=0 then (if k.kind=3 then (.at none .bu,({ (Q0 (k,x)).1.1 with tk:=some (kQ (Q0 (k,x)).1.1.slot x,X6) },x)) else (.at none .tries,(Q0 (k,x)).1)) else if (Q0 (k,x)).2=1 then (Zl k,Qo 1 (Q0 (k,x)).1) else (Zl k,Qo 0 (Q0 (k,x)).1)):=rfl;rw [e];split
   ·split <;> trivial
   ·split <;> exact iO _ _
 | again =>
   have e:Jk .again (k,x)=(if (Q0 (k,x)).2=0 then (.at none .tries,(Q0 (k,x)).1) else (.thn (.ai .bC) .leaves,Qo 0 (Q0 (k,x)).1)):=rfl;rw [e];split <;> trivial
 | tries =>
   have e:Jk .tries (k,x)=(if (Zo (k,x)).2≠0 then (if k.kind=3 then (.at none .again,(Zo (k,x)).1) else (.at none .looks,(Zo (k,x)).1)) else if k.kind=3 then (.at none .fills,qq { bO with kind:=6,id:=k.id,gen:=(Zo (k,x)).1.1.gen,dl:=k.j5 } (iV (Zo (k,x)).1.1,(Zo (k,x)).1.2))
    else if k.kind=5 then (.ai .aR,qq { bO with kind:=8,id:=k.id,gen:=(Zo (k,x)).1.1.gen } (iV (Zo (k,x)).1.1,(Zo (k,x)).1.2))
    else (.thn (.aP .bN .drop) .ends,qq { bO with kind:=7,id:=k.id,gen:=(Zo (k,x)).1.1.gen } (iV (Zo (k,x)).1.1,(Zo (k,x)).1.2))):=rfl
   rw [e];split
   ·split <;> trivial
   ·split
    ·intro r hr
     exact Int.le_of_eq (Vu (k:=k.slot) (old:=k.aA) (ev:=k.event) hc.aa hk.slot hr)
    ·split <;> trivial
 | ends=>exact hf.elim
 | leaves=>exact hf.elim
theorem q5g {s:SC} (hj:JC N s (k,x)):rR (J5 s (k,x)).1 (J5 s (k,x)).2.1 (J5 s (k,x)).2.2.aa.recs:=by
 obtain ⟨hc,hk,hf⟩:=hj;simp only at hc hk hf
 match s,hf with
 | .nil,_=>trivial
 | .at none m,hf=>exact q6j hc hk m hf
 | .ai .aR,_=>trivial
 | .thn (.ai .bL) .ends,_=>trivial
 | .thn (.aP .eG .drop) .leaves,_=>trivial
 | .thn (.ai .drop) .leaves,_=>trivial
 | .thn (.ai .bC) .leaves,_=>trivial
 | .thn (.aP .bN .drop) .ends,_=>trivial
 | .thn (.ai .drop) .ends,_=>trivial
end
def BX (rs:List Rec):Wk->Prop
 | .call s k=>rR s k rs
 | .turn s k=>jd rs k.t/\(∀ t∈k.due,jd rs t)/\En s k
 | .dL _ _=>True
theorem BX.le {rs rs':List Rec} {w:Wk} (h:BX rs w) (hl:kM rs rs'):BX rs' w:=by
 cases w with
 | call s k=>exact rR.le h hl
 | turn s k=>exact ⟨h.1.le hl,fun t ht=>(h.2.1 t ht).le hl,h.2.2⟩
 | dL s k=>trivial
structure TI (S:SvS):Prop where
 all:Yk S.z.x.aa.recs S.z.x.au S.z.ws
 eH:∀ (a:Nat) (j:J2),S.all[a]?=some j->BX S.z.x.aa.recs j.w
section
variable {N:Nat} {S:SvS}
theorem NF (h:TI S) {a:Nat} {j:J2} (n':Int) {w':Wk} {z':ZF} (hl:kM S.z.x.aa.recs z'.x.aa.recs) (h1:Yk z'.x.aa.recs z'.x.au z'.ws) (h2:BX z'.x.aa.recs w'):TI { S with all:=S.all.set a ⟨j.kb,n',w'⟩,z:=z' }:=by
 refine ⟨h1,fun b jb hb=>?_⟩
 rcases B5 hb with ⟨_,rfl⟩ | ⟨_,hb⟩
 ·exact h2
 ·exact (h.eH b jb hb).le hl
theorem zaa (hn:dV N S) (hl:qz S) (hs:pJ N S) (h:TI S) {t:Th} (ht:t.here S) (hm:t.may S=true):TI (t.step S):=by
 cases t with
 | eH a =>
   have ha:=Xj ht;have hm:(S.ah a).w.may S.z=true:=hm;obtain ⟨hjn,_,_⟩:=hn.fe _ (WL ha);have hO:∀ j e,uN (S.ah a).w=some (j,e)->∃ r,S.z.x.aa.recs[j]?=some r/\bA r.w=e:=fun j e hj=>(hs.own.own a j e (by rw [yj ha,hj])).2
   have hp:lI (S.ah a).w<=S.z.x.aa.count:=by
    have:=z6 (f:=fun j:J2=>lI j.w) (fun x=>GX x.w) ha;have:=hs.cnt;omega
   have hfin:=hs.fin a _ ha;have hgo:=hl.go a _ ha;have rf:=h.eH a _ ha;have jL:kC (S.ah a).w<=S.z.x.f.inside:=by rw [hl.ins];exact z6 (f:=fun j:J2=>kC j.w) (fun x=>Hm x.w) ha
   have hsl:=hn.eY.zn.core.aa
   show TI { S with all:=S.all.set a ⟨(S.ah a).kb,(S.ah a).n+1,((S.ah a).w.step S.z).1⟩,z:=((S.ah a).w.step S.z).2 }
   cases hw:(S.ah a).w with
   | call s k =>
     rw [hw] at hjn hO hp hgo rf jL;have hjc:JC N s (k,S.z.x):=⟨hn.eY.zn.core,hjn.wk,hjn.fit⟩;have g:=Nw hjc hgo.1 hgo.2 jL;have q:=Pp hjc hgo.1 hO hp;exact NF h _ q.le (qwm hn.eY.zn.core hjn.wk g.vk q.le h.all rf) (q5g hjc)
   | turn s k =>
     rw [hw] at hjn hO hp hfin rf;have q:=NB (z:=⟨k,S.z.x,S.z.ws,S.z.p⟩) hsl hjn.fit hfin hO hp;have hpz:PZ ⟨k,S.z.x,S.z.ws,S.z.p⟩:=⟨hsl,⟨h.all,rf.1,rf.2.1⟩⟩;have p:=zar hjn.fit hpz rf.2.2;exact NF h _ q.sl.le p.p.all ⟨p.p.t,p.p.due,q7s (z:=⟨k,S.z.x,S.z.ws,S.z.p⟩) hjn.fit⟩
   | dL s k =>
     rw [hw] at hjn hO hp hfin;have q:=KD (z:=⟨k,S.z.x,S.z.p⟩) hsl hjn.fit hfin hO hp;have c:=Hr s ⟨k,S.z.x,S.z.p⟩;refine NF h _ q.sl.le ?_ trivial
     have h2:=h.all.le q.sl.le
     show Yk _ (stepS s ⟨k,S.z.x,S.z.p⟩).2.x.au S.z.ws
     rw [c.au];exact h2
 | fQ i =>
   have hc:=Jp ht;have hcn:=hn.aL _ (WL hc)
   show TI { S with aL:=S.aL.set i ((S.aO i).step S.z).1,z:=((S.aO i).step S.z).2 }
   generalize S.aO i=c at hcn;obtain ⟨wb,s,n,k⟩:=c;rcases hcn.fit with ⟨h1,_⟩ | ⟨h1,_⟩
   ·obtain rfl:s=Jy:=h1
    exact ⟨h.all,h.eH⟩
   ·obtain rfl:s=.thn (.ai .jy) .takes:=h1
    exact ⟨h.all,h.eH⟩
end
def st2 (b:Bool):Int:=if b=true then 0 else 2
theorem vM (b:Bool):0<=st2 b/\st2 b<=2:=by cases b <;> decide
def Zk (s:Qj) (k old ev:Int):Bool:=(s.try k old ev).2.2 == 0
def qo (rs:List Rec):Nat->Nat->Int
 | 0,_=>0
 | f+1,i=>if aX (rs.getD (i % rs.length) Rec.zero)=true then 1+qo rs f (i+1) else 0
theorem zZ (rs:List Rec):∀ f i,0<=qo rs f i/\qo rs f i<=f
 | 0,_=>⟨WU _,WU _⟩
 | f+1,i=>by
   have:=zZ rs f (i+1);unfold qo;split <;> omega
theorem Sz (rs:List Rec):∀ (f i j:Nat),i % rs.length=j % rs.length->qo rs f i=qo rs f j
 | 0,_,_,_=>rfl
 | f+1,i,j,h=>by
   unfold qo;rw [h,Sz rs f (i+1) (j+1) (by rw [Nat.add_mod i,Nat.add_mod j,h])]
theorem RI (rs:List Rec):∀ (f i:Nat),(∃ j,j<f/\aX (rs.getD ((i+j) % rs.length) Rec.zero)=false)->qo rs (f+1) i=qo rs f i
 | 0,i,⟨j,h,_⟩=>absurd h (Nat.not_lt_zero j)
 | f+1,i,⟨j,h1,h2⟩=>by
   show (if aX (rs.getD (i % rs.length) Rec.zero)=true then 1+qo rs (f+1) (i+1) else 0)=(if aX (rs.getD (i % rs.length) Rec.zero)=true then 1+qo rs f (i+1) else 0)
   split
   ·next hb =>
    cases j with
    | zero=>rw [Nat.add_zero,hb] at h2;cases h2
    | succ j=>rw [RI rs f (i+1) ⟨j,by omega,by rw [show i+1+j=i+(j+1) by omega];exact h2⟩]
   ·rfl
theorem qwx {rs:List Rec} {i:Nat} (hb:aX (rs.getD (i % rs.length) Rec.zero)=true) (hf:∃ r∈rs,aX r=false):qo rs rs.length (i+1)+1<=qo rs rs.length i:=by
 obtain ⟨r,hr,hfr⟩:=hf;obtain ⟨k,hk⟩:=List.mem_iff_getElem?.1 hr;have hkl:=(WW.1 hk).1;obtain ⟨n,hn⟩:∃ n,rs.length=n+1:=⟨rs.length - 1,by omega⟩;have hkd:rs.getD k Rec.zero=r:=EE hk;have hne:i % rs.length≠k:=fun e=>by rw [e,hkd,hfr] at hb;cases hb
 have hex:∃ j,j<n/\aX (rs.getD ((i+1+j) % rs.length) Rec.zero)=false:=by
  have hi:=Nat.mod_lt i (show 0<rs.length by omega)
  have hmod:∀ j,(i+1+j) % rs.length=(i % rs.length+1+j) % rs.length:=fun j=>by
   rw [XD,XD,Nat.mod_add_mod]
  generalize i % rs.length=a at hne hi hmod;rcases Nat.lt_or_ge a k with h | h
  ·refine ⟨k - a - 1,by omega,?_⟩
   rw [hmod,show a+1+(k - a - 1)=k by omega,Nat.mod_eq_of_lt hkl,hkd];exact hfr
  ·refine ⟨k+rs.length - a - 1,by omega,?_⟩
   rw [hmod,show a+1+(k+rs.length - a - 1)=k+rs.length by omega,Nat.add_mod_right,Nat.mod_eq_of_lt hkl,hkd];exact hfr
 have hm:=RI rs n (i+1) hex;rw [hn] at hb |-
 have e:qo rs (n+1) i=1+qo rs n (i+1):=by
  show (if aX (rs.getD (i % rs.length) Rec.zero)=true then _ else _)=_
  rw [hn,if_pos hb]
 rw [e,hm];omega
theorem S7 {rs rs':List Rec} (hl:rs'.length=rs.length) (h:∀ i,aX (rs'.getD i Rec.zero)=true->aX (rs.getD i Rec.zero)=true):∀ f i,qo rs' f i<=qo rs f i
 | 0,_=>WU _
 | f+1,i=>by
   have h1:=S7 hl h f (i+1);have h2:=(zZ rs f (i+1)).1;unfold qo;rw [hl];have h3:=h (i % rs.length);split
   ·next hb=>rw [if_pos (h3 hb)];omega
   ·split <;> omega
def Jz (x:Qi) (i:Nat):Int:=(x.au.getD i (Qp 1)).ring.tail
def Aj (k:Qt) (x:Qi):Int:=match k.tk with
 | none=>0
 | some (i,t)=>if t.next=0 then 244 else if t.next=1 then 243+(if Jz x i=t.pos then 0 else 3) else 242+(if Jz x i=t.pos then 0 else 3)
def xB (k:Qt) (x:Qi):Int:=match k.rq with
 | none=>0
 | some q=>if q.next=0 then 315 else if q.next=1 then 314+(if x.aa.count=q.aA then 0 else 2) else 293+qo x.aa.recs x.aa.recs.length q.slot.toNat
def J0:SC->Qt->Qi->Int
 | .ai .aR,_,_=>1
 | .thn (.ai .bL) .ends,_,_=>2
 | .at none .fills,_,_=>3
 | .at none .bW,_,_=>12
 | .thn (.ai .drop) .leaves,_,_=>11
 | .thn (.aP .eG .drop) .leaves,_,_=>20
 | .thn (.ai .bC) .leaves,_,_=>3
 | .at none .again,_,_=>13
 | .at none .tries,k,x=>(if k.kind=3 then 12 else 28)+st2 (Zk x.aa k.slot k.aA k.event)
 | .thn (.ai .drop) .ends,_,_=>10
 | .thn (.aP .bN .drop) .ends,_,_=>19
 | .at none .looks,k,_=>if k.kind=3 then 245 else 29
 | .at none .bu,k,x=>Aj k x
 | .at none .asks,k,x=>xB k x
 | .at none .gate,_,_=>316
 | .at none .enter,_,_=>317
 | .at none .right,_,_=>318
 | _,_,_=>0
inductive kz (x x':Qi):Int->Prop where
 | calm (h1:x'.aa=x.aa) (h2:∀ i,Jz x' i=Jz x i):kz x x' 0
 | count (h1:x'.aa.recs=x.aa.recs) (h2:∀ i,Jz x' i=Jz x i):kz x x' 2
 | tail (h1:x'.aa=x.aa):kz x x' 3
 | word (j:Nat) (r r':Rec) (hr:x.aa.recs[j]?=some r) (hb:aX r=true) (h1:x'.aa.recs=x.aa.recs.set j r') (hc:x'.aa.count=x.aa.count) (h2:∀ i,Jz x' i=Jz x i):kz x x' 2
 | take (h1:x'.aa.recs.length=x.aa.recs.length) (hc:x'.aa.count=x.aa.count) (h2:∀ i,Jz x' i=Jz x i):kz x x' 12
theorem KH {x x':Qi} {c:Int} (h:kz x x' c) (hn:x.aa.recs.length<=12) (s:SC) (k:Qt):J0 s k x'<=J0 s k x+c/\0<=c:=by
 have hc0:0<=c:=by cases h <;> decide
 refine ⟨?_,hc0⟩
 unfold J0;split
 case h_9 =>
  have b1:=vM (Zk x'.aa k.slot k.aA k.event);have b2:=vM (Zk x.aa k.slot k.aA k.event);cases h with
  | calm h1 h2=>rw [h1];omega
  | count h1 h2=>omega
  | tail h1=>rw [h1];omega
  | word j r r' hr hb h1 hc h2=>omega
  | take h1 hc h2=>omega
 case h_13 =>
  unfold Aj;split
  ·omega
  ·next i t _ =>
   have ht:(∀ i,Jz x' i=Jz x i)\/c=3:=by
    cases h with
    | calm h1 h2=>exact .inl h2
    | count h1 h2=>exact .inl h2
    | tail h1=>exact .inr rfl
    | word j r r' hr hb h1 hc h2=>exact .inl h2
    | take h1 hc h2=>exact .inl h2
   split
   ·omega
   ·split
    ·rcases ht with ht | ht
     ·rw [ht];omega
     ·split <;> split <;> omega
    ·rcases ht with ht | ht
     ·rw [ht];omega
     ·split <;> split <;> omega
 case h_14 =>
  unfold xB;split
  ·omega
  ·next q _ =>
   have hb:=zZ x.aa.recs x.aa.recs.length q.slot.toNat;have hb':=zZ x'.aa.recs x'.aa.recs.length q.slot.toNat;split
   ·omega
   ·split
    ·cases h with
     | calm h1 h2=>rw [h1];omega
     | count h1 h2=>split <;> split <;> omega
     | tail h1=>rw [h1];omega
     | word j r r' hr hb h1 hc h2=>rw [hc];omega
     | take h1 hc h2=>rw [hc];omega
    ·cases h with
     | calm h1 h2=>rw [h1];omega
     | count h1 h2=>rw [h1];omega
     | tail h1=>rw [h1];omega
     | word j r r' hr hbb h1 hc h2 =>
       have hm:=S7 (rs:=x.aa.recs) (rs':=x'.aa.recs) (by rw [h1,WS]) (fun i hi=>by
        rw [h1,WK,WV] at hi;rw [WK];split at hi
        ·next e=>subst e;rw [hr];exact hbb
        ·exact hi) x.aa.recs.length q.slot.toNat
       have hlen:x'.aa.recs.length=x.aa.recs.length:=by rw [h1,WS]
       rw [hlen];omega
     | take h1 hc h2=>omega
 all_goals omega
def Y7 (x:Qi):Int:=Jr (x.au.map fun s:Qs=>s.ring.tail - s.ring.head)
def Xr (s:SC) (k:Qt) (x:Qi) (r:SC × ZC):Prop :=
 ∃ c,kz x r.2.2 c/\J0 r.1 r.2.1 r.2.2+1+4*c+216*(Y7 r.2.2 - Y7 x)<=J0 s k x
section
variable {N:Nat} {k:Qt} {x:Qi} {s:SC} {r:SC × ZC}
theorem zj {x x':Qi} (h:x'.au=x.au):Y7 x'=Y7 x:=by unfold Y7;rw [h]
theorem Jo {x x':Qi} (h:x'.au=x.au) (i:Nat):Jz x' i=Jz x i:=by unfold Jz;rw [h]
theorem Xr.calm (h1:r.2.2.aa=x.aa) (h2:r.2.2.au=x.au) (h3:J0 r.1 r.2.1 r.2.2+1<=J0 s k x):Xr s k x r :=
 ⟨0,.calm h1 (Jo h2),by rw [zj h2];omega⟩
theorem Xr.count (h1:r.2.2.aa.recs=x.aa.recs) (h2:r.2.2.au=x.au) (h3:J0 r.1 r.2.1 r.2.2+9<=J0 s k x):Xr s k x r :=
 ⟨2,.count h1 (Jo h2),by rw [zj h2];omega⟩
theorem Xr.word (j:Nat) (a b:Rec) (hr:x.aa.recs[j]?=some a) (hb:aX a=true) (h1:r.2.2.aa.recs=x.aa.recs.set j b) (hc:r.2.2.aa.count=x.aa.count) (h2:r.2.2.au=x.au) (h3:J0 r.1 r.2.1 r.2.2+9<=J0 s k x):Xr s k x r :=
 ⟨2,.word j a b hr hb h1 hc (Jo h2),by rw [zj h2];omega⟩
theorem Xr.take (h1:r.2.2.aa.recs.length=x.aa.recs.length) (hc:r.2.2.aa.count=x.aa.count) (h2:r.2.2.au=x.au) (h3:J0 r.1 r.2.1 r.2.2+49<=J0 s k x):Xr s k x r :=
 ⟨12,.take h1 hc (Jo h2),by rw [zj h2];omega⟩
theorem MP {x x':Qi} {i:Nat} {a b:Qs} (hs:x.au[i]?=some a) (h2:x'.au=x.au.set i b):Y7 x'=Y7 x - (a.ring.tail - a.ring.head)+(b.ring.tail - b.ring.head):=by
 unfold Y7;rw [h2,qp (f:=fun s:Qs=>s.ring.tail - s.ring.head) hs]
theorem q3d {x x':Qi} {i:Nat} {a b:Qs} (hs:x.au[i]?=some a) (h2:x'.au=x.au.set i b) (ht:b.ring.tail=a.ring.tail) (n:Nat):Jz x' n=Jz x n:=by
 unfold Jz;rw [h2,WK,WK,WV];have hi:=(WW.1 hs).1;split
 ·next e=>subst e;rw [hs];exact ht
 ·rfl
theorem Xr.ring {i:Nat} {a b:Qs} (hs:x.au[i]?=some a) (h1:r.2.2.aa=x.aa) (h2:r.2.2.au=x.au.set i b) (ht:b.ring.tail=a.ring.tail) (hh:b.ring.head=a.ring.head) (h3:J0 r.1 r.2.1 r.2.2+1<=J0 s k x):Xr s k x r :=
 ⟨0,.calm h1 (q3d hs h2 ht),by rw [MP hs h2,ht,hh];omega⟩
theorem Xr.tail {i:Nat} {a b:Qs} (hs:x.au[i]?=some a) (h1:r.2.2.aa=x.aa) (h2:r.2.2.au=x.au.set i b) (ht:b.ring.tail=a.ring.tail+1) (hh:b.ring.head=a.ring.head) (h3:J0 r.1 r.2.1 r.2.2+229<=J0 s k x):Xr s k x r :=
 ⟨3,.tail h1,by rw [MP hs h2,ht,hh];omega⟩
theorem Ma (k k':Qt) (x':Qi):J0 (Zl k) k' x'<=2:=by
 unfold Zl;split
 ·show (1:Int)<=2;decide
 ·show (2:Int)<=2;decide
theorem q2n {s:Qj} {id:Int} (h:s.fK id=0):s.has (s.slot id):=by
 unfold Qj.fK at h;split at h
 ·next hk =>
  unfold Qj.slot;rw [if_pos hk];exact ⟨Int.emod_nonneg _ (by decide),hk.1⟩
 ·cases h
theorem look_ok {s:Qj} (h:(lookW k s).2=0):Zk s (lookW k s).1.slot (lookW k s).1.aA (lookW k s).1.event=true:=by
 unfold lookW at h |-;split at h
 ·next h1=>exact absurd h h1
 ·next h1 =>
  have h1:s.fK k.id=0:=Decidable.of_not_not h1;have hh:=q2n h1;rw [if_neg (fun e=>e h1)];split at h
  ·cases h
  ·next h2 =>
   rw [if_neg h2];have e1:s.word (s.slot k.id)=(s.recs.getD (s.slot k.id).toNat Rec.zero).w:=by unfold Qj.word;rw [if_pos hh]
   have e2:s.period (s.slot k.id)=(s.recs.getD (s.slot k.id).toNat Rec.zero).p:=by unfold Qj.period;rw [if_pos hh]
   have h:(Xo (s.word (s.slot k.id)) k.event (decide (0<s.period (s.slot k.id)))).2=0:=h
   show Zk s (s.slot k.id) (s.word (s.slot k.id)) k.event=true
   unfold Zk Qj.try;rw [if_pos hh];dsimp only
   rw [e2] at h;rw [if_neg (fun e=>e h),if_pos e1.symm];rfl
theorem qw6 {r:Rec} (hr:nY r) (p:Bool) (h:aX r=false) {M:Int} (hg:X7 r.w<=M) (hM:M<4294967295):(Xo r.w 1 p).2=0:=by
 have hz:bA r.w=0:=by
  unfold aX at h;simpa using h
 unfold Xo;rw [if_neg (by rw [hr.ok];decide),if_neg (by omega)];dsimp only
 rw [hz];rw [if_neg (show ¬ (toW 0 1 (p && !Xk r.w)).2.2=false by show ¬ ((0:Int) == 0)=false;decide)];rw [if_neg (show ¬ 4294967295<X7 r.w+(toW 0 1 (p && !Xk r.w)).2.1 by show ¬ 4294967295<X7 r.w+1;omega)]
end
theorem Ur {x:Qi} {i:Nat} {a:Qs} (h:x.au[i]?=some a):Jz x i=a.ring.tail:=by
 unfold Jz;rw [WK,h];rfl
section
variable {N:Nat} {k:Qt} {x:Qi} {M:Int}
theorem K6 {q:ik} (h:k.rq=some q) (hn:q.next=0):J0 (.at none .asks) k x=315:=by
 show xB k x=_
 unfold xB;rw [h];simp only [hn];rfl
theorem QF {q:ik} (h:k.rq=some q) (hn:q.next=1):J0 (.at none .asks) k x=314+(if x.aa.count=q.aA then 0 else 2):=by
 show xB k x=_
 unfold xB;rw [h];simp only [hn];rfl
theorem K7 {q:ik} (h:k.rq=some q) (hn:q.next=2):J0 (.at none .asks) k x=293+qo x.aa.recs x.aa.recs.length q.slot.toNat:=by
 show xB k x=_
 unfold xB;rw [h];simp only [hn];rfl
theorem P8 {i:Nat} {t:Xv} (h:k.tk=some (i,t)) (hn:t.next=0):J0 (.at none .bu) k x=244:=by
 show Aj k x=_
 unfold Aj;rw [h];simp only [hn];rfl
theorem qv9 (hc:Zg N x) (hk:Zm N k x) (hf:uL (.at none .asks) k) (hn:x.aa.recs.length<=12) (hg:lD M x.aa.recs) (hM:M<4294967295) (hfr:1<=z8 (.at none .asks) k->∃ r∈x.aa.recs,aX r=false):Xr (.at none .asks) k x (Jk .asks (k,x)):=by
 have hs:=hc.aa;obtain ⟨q,hq⟩:=WT.1 hf.1;have hst:=hf.2 q hq;have hqo:=hk.rq q hq;have e:Jk .asks (k,x)=ql (k,x) q:=by show (match k.rq with | none=>_ | some q=>_)=_;rw [hq]
 have hp:z8 (.at none .asks) k=if q.next=2 then 1 else 0:=by show Ce k.rq=_;rw [hq];rfl
 rw [e];by_cases hn0:q.next=0
 ·have er:Zf x.aa q=(x.aa,rF x.aa q):=by unfold Zf;rw [if_neg (by omega),if_pos hn0]
  have eZ:=K6 (x:=x) hq hn0;unfold ql;simp only [er];unfold rF;split
  ·exact Xr.calm rfl rfl (by rw [eZ];show (2:Int)+1<=315;decide)
  ·simp only [hst,if_neg (show ¬ (0:Int)=1 by decide),if_neg (show ¬ (0:Int)=2 by decide)]
   refine Xr.calm rfl rfl ?_
   rw [eZ];rw [QF (q:={ q with aA:=x.aa.count,next:=1,st:=0 }) rfl rfl,if_pos rfl];decide
 ·by_cases hn1:q.next=1
  ·have er:Zf x.aa q=qH x.aa q:=by unfold Zf;rw [if_neg (by omega),if_neg hn0,if_pos hn1]
   have eZ:=QF (x:=x) hq hn1;unfold ql;simp only [er];unfold qH;split
   ·next pU =>
    simp only [hst,if_neg (show ¬ (0:Int)=1 by decide),if_neg (show ¬ (0:Int)=2 by decide)];refine Xr.count rfl rfl ?_
    rw [eZ,if_pos pU];have hb:=zZ x.aa.recs x.aa.recs.length q.slot.toNat;rw [K7 (q:={ q with next:=2,st:=0 }) rfl rfl]
    show 293+qo x.aa.recs x.aa.recs.length q.slot.toNat+9<=314+0
    omega
   ·next pU =>
    simp only [hst,if_neg (show ¬ (0:Int)=1 by decide),if_neg (show ¬ (0:Int)=2 by decide)];refine Xr.calm rfl rfl ?_
    rw [eZ,if_neg pU];rw [K6 (q:={ q with next:=0,st:=0 }) rfl rfl];decide
  ·have hn2:q.next=2:=by have:=hqo.next;omega
   have eZ:=K7 (x:=x) hq hn2;have er:Zf x.aa q=om x.aa q:=by unfold Zf;rw [if_neg (by omega),if_neg hn0,if_neg hn1]
   have hfree:=hfr (by rw [hp,if_pos hn2];decide);unfold ql;simp only [er];obtain ⟨j,hj⟩:=WR hqo.gX;have hjl:j<x.aa.recs.length:=by have:=hqo.iw;omega
   have hr:=WM hjl;generalize x.aa.recs[j]=r at hr;have hro:=hs.recs r (WL hr);have hgd:x.aa.recs.getD q.slot.toNat Rec.zero=r:=by rw [hj,WN];exact EE hr
   have hb:=zZ x.aa.recs x.aa.recs.length q.slot.toNat;unfold om;simp only [hgd];split
   ·next hz =>
    simp only [if_neg (show ¬ (2:Int)=1 by decide)];rw [if_pos trivial];refine Xr.take ?_ rfl rfl ?_
    ·show (x.aa.recs.set _ _).length=_;rw [WS]
    ·rw [eZ]
     rw [P8 (t:=X6) rfl rfl];omega
   ·next hz =>
    have hbz:aX r=true:=by
     cases hbb:aX r with
     | true=>rfl
     | false=>exact absurd (qw6 hro (decide (0<q.p)) hbb (hg r (WL hr)) hM) hz
    have hd:=qwx (rs:=x.aa.recs) (i:=j) (by rw [Nat.mod_eq_of_lt hjl,EE hr];exact hbz) hfree;simp only [hst,if_neg (show ¬ (0:Int)=1 by decide),if_neg (show ¬ (0:Int)=2 by decide)];refine Xr.calm rfl rfl ?_
    rw [eZ];rw [K7 (q:={ q with slot:=(q.slot+1) % (x.aa.recs.length:Int),st:=0 }) rfl hn2]
    show 293+qo x.aa.recs x.aa.recs.length ((q.slot+1) % (x.aa.recs.length:Int)).toNat+1<=_
    have hm:qo x.aa.recs x.aa.recs.length ((q.slot+1) % (x.aa.recs.length:Int)).toNat=qo x.aa.recs x.aa.recs.length (j+1):=by
     apply Sz
     rw [hj,show ((j:Int)+1) % (x.aa.recs.length:Int)=(((j+1) % x.aa.recs.length:Nat):Int) by rw [Int.natCast_emod];rfl,WN,Nat.mod_mod]
    rw [hm,hj,WN];omega
theorem qqq {r:Qx} {t:Xv} (hR:qc3 r) (h:r.tail=t.pos):¬ 2*t.pos<(r.slot t.pos).seq:=by
 rw [<- h];have h1:=hR.ht;rcases Int.lt_or_le r.tail (r.head+r.slots.length) with hl | hl
 ·rcases hR.sq r.tail h1 hl with h2 | ⟨h2,_⟩ <;> omega
 ·have e:r.tail=r.head+r.slots.length:=by have:=hR.tn;omega
  have hsl:r.slot r.tail=r.slot r.head:=by
   unfold Qx.slot Qx.at;rw [e,Int.add_emod_right]
  have hn:=hR.n1;rw [hsl];rcases hR.sq r.head (by omega) (by omega) with h2 | ⟨_,h2⟩ <;> omega
def uu (tl:Int) (t:Xv):Int:=if t.next=0 then 244 else if t.next=1 then 243+(if tl=t.pos then 0 else 3) else 242+(if tl=t.pos then 0 else 3)
theorem Vb {i:Nat} {t:Xv} (h:k.tk=some (i,t)):J0 (.at none .bu) k x=uu (Jz x i) t:=by
 show Aj k x=_
 unfold Aj;rw [h];rfl
inductive GJ (r r':Qx) (t t':Xv):Prop where
 | go (h1:t'.status=0) (h2:r'.tail=r.tail) (h3:r'.head=r.head) (h4:uu r.tail t'+1<=uu r.tail t):GJ r r' t t'
 | full (h1:t'.status=1) (h2:r'.tail=r.tail) (h3:r'.head=r.head) (h4:242<=uu r.tail t):GJ r r' t t'
 | took (h1:t'.status=2) (h2:r'.tail=r.tail+1) (h3:r'.head=r.head) (h4:242<=uu r.tail t):GJ r r' t t'
theorem qzc {r:Qx} {t:Xv} (hR:qc3 r) (hst:t.status=0) (hnx:t.next=0\/t.next=1\/t.next=2):GJ r (stepT r t).1 t (stepT r t).2:=by
 unfold stepT;rw [if_neg (by omega)];rcases hnx with hn | hn | hn
 ·rw [if_pos hn]
  refine .go hst rfl rfl ?_
  unfold uu;rw [if_pos hn]
  show (if (1:Int)=0 then (244:Int) else if (1:Int)=1 then 243+(if r.tail=r.tail then 0 else 3) else 242+(if r.tail=r.tail then 0 else 3))+1<=244
  rw [if_neg (by decide),if_pos rfl,if_pos rfl];decide
 ·rw [if_neg (by omega),if_pos hn]
  have hco:uu r.tail t=243+(if r.tail=t.pos then 0 else 3):=by unfold uu;rw [if_neg (by omega),if_pos hn]
  unfold qE;split
  ·next hw =>
   refine .go hst rfl rfl ?_
   rw [hco,if_neg (fun h=>qqq hR h hw)]
   show (if (0:Int)=0 then (244:Int) else if (0:Int)=1 then 243+(if r.tail=t.pos then 0 else 3) else 242+(if r.tail=t.pos then 0 else 3))+1<=243+3
   rw [if_pos rfl];decide
  ·split
   ·exact .full rfl rfl rfl (by rw [hco];split <;> decide)
   ·refine .go hst rfl rfl ?_
    rw [hco]
    show (if (2:Int)=0 then (244:Int) else if (2:Int)=1 then 243+(if r.tail=t.pos then 0 else 3) else 242+(if r.tail=t.pos then 0 else 3))+1<=_
    rw [if_neg (by decide),if_neg (by decide)];split <;> decide
 ·rw [if_neg (by omega),if_neg (by omega)]
  have hco:uu r.tail t=242+(if r.tail=t.pos then 0 else 3):=by unfold uu;rw [if_neg (by omega),if_neg (by omega)]
  unfold oU;split
  ·next he=>exact .took rfl (by show t.pos+1=_;omega) rfl (by rw [hco,if_pos he];decide)
  ·next he =>
   refine .go hst rfl rfl ?_
   rw [hco,if_neg he]
   show (if (0:Int)=0 then (244:Int) else if (0:Int)=1 then 243+(if r.tail=t.pos then 0 else 3) else 242+(if r.tail=t.pos then 0 else 3))+1<=242+3
   rw [if_pos rfl];decide
theorem qp4 (hc:Zg N x) (hk:Zm N k x) (h2:yo (.at none .bu) k) (hR:∀ s∈x.au,qc3 s.ring):Xr (.at none .bu) k x (Jk .bu (k,x)):=by
 obtain ⟨i,t,ht,hst,hfl⟩:=(show ∃ i t,k.tk=some (i,t)/\t.status=0/\t.filled=false from h2);have hi:=(hk.tk i t ht).2;have hto:=(hk.tk i t ht).1;have hs:=WM hi;have OL:=hR x.au[i] (XA hi)
 have e:Jk .bu (k,x)=X8 (k,x) i t x.au[i]:=by
  show (match k.tk with | none=>_ | some (i,t)=>_)=_
  rw [ht];simp only [hs]
 rw [e];generalize x.au[i]=a at hs OL;have eZ:=Vb (x:=x) ht;rw [Ur hs] at eZ;have hst:=qzc OL hst hto.nx;unfold X8;simp only [];generalize stepT a.ring t=p at hst;obtain ⟨r',t'⟩:=p;have hsh:(x.au.set i { a with ring:=r' })[i]?=some { a with ring:=r' }:=by rw [WV,if_pos rfl,if_pos hi]
 cases hst with
 | go a1 a2 a3 a4 =>
   have a1:t'.status=0:=a1;rw [if_pos a1];refine Xr.ring hs rfl rfl a2 a3 ?_
   rw [eZ,Vb (i:=i) (t:=t') rfl];rw [Ur (x:={ x with au:=x.au.set i { a with ring:=r' } }) hsh]
   show uu r'.tail t'+1<=_
   rw [show r'.tail=a.ring.tail from a2];exact a4
 | full a1 a2 a3 a4 =>
   have a1:t'.status=1:=a1;rw [if_neg (show ¬ t'.status=0 by omega)];split
   ·exact Xr.ring hs rfl rfl a2 a3 (by rw [eZ];exact WO (by show (2:Int)+1<=242;decide) a4)
   ·exact Xr.ring hs rfl rfl a2 a3 (by rw [eZ];exact WO (by show (20:Int)+1<=242;decide) a4)
 | took a1 a2 a3 a4 =>
   have a1:t'.status=2:=a1;rw [if_neg (show ¬ t'.status=0 by omega),if_neg (show ¬ (t'.status=1/\k.kind=3) from fun h=>by omega),if_neg (show ¬ t'.status=1 by omega)];split
   ·exact Xr.tail hs rfl rfl a2 a3 (by rw [eZ];exact WO (by show (13:Int)+229<=242;decide) a4)
   ·exact Xr.tail hs rfl rfl a2 a3 (by rw [eZ];exact WO (by show (12:Int)+229<=242;decide) a4)
end
section
variable {N:Nat} {k:Qt} {x:Qi} {M:Int}
theorem Lt (k:Qt) (x:Qi):J0 (.at none .tries) k x=(if k.kind=3 then 12 else 28)+st2 (Zk x.aa k.slot k.aA k.event):=rfl
theorem LV (hs:Xc x.aa) (ev e:Int) (h0:0<=k.slot) {r:Rec} (hr:x.aa.recs[k.slot.toNat]?=some r) (he:bA r.w=e) (h1:1<=ev) (h2:ev<=10)
 (ht:∀ ag,(toW e ev ag).2.2=true/\(toW e ev ag).2.1=0) (hne:e≠0):aX r=true/\∃ b,(r9 k.slot ev x.aa).1.recs=x.aa.recs.set k.slot.toNat b/\(r9 k.slot ev x.aa).1.count=x.aa.count:=by
 have hro:=hs.recs r (WL hr);refine ⟨?_,?_⟩
 ·unfold aX
  rw [decide_eq_false (by omega)];rfl
 obtain ⟨j,hj⟩:=WR h0;rw [hj,WN] at hr;obtain ⟨w',hn,hst⟩:=BM (p:=decide (0<r.p)) hro h1 h2 (by rw [he];exact (ht _).1) (by rw [he];exact (ht _).2)
 have e1:(r9 k.slot ev x.aa).1={ x.aa with recs:=x.aa.recs.set j { r with w:=w' } }:=by
  show (x.aa.try k.slot (x.aa.word k.slot) ev).1=_
  rw [hj,BP hr hn]
 exact ⟨{ r with w:=w' },by rw [e1,hj,WN],by rw [e1]⟩
theorem G7 (r:Qx) (t:Xv) (v:Qn):(Zn r t v).1.tail=r.tail/\(Zn r t v).1.head=r.head:=by
 unfold Zn;split <;> exact ⟨rfl,rfl⟩
theorem qvf (hc:Zg N x) (h1:3<=k.kind/\k.kind<=5):Xr (.at none .tries) k x (Jk .tries (k,x)):=by
 have hs:=hc.aa
 have e:Jk .tries (k,x)=(if (Zo (k,x)).2≠0 then (if k.kind=3 then (.at none .again,(Zo (k,x)).1) else (.at none .looks,(Zo (k,x)).1)) else if k.kind=3 then (.at none .fills,qq { bO with kind:=6,id:=k.id,gen:=(Zo (k,x)).1.1.gen,dl:=k.j5 } (iV (Zo (k,x)).1.1,(Zo (k,x)).1.2))
  else if k.kind=5 then (.ai .aR,qq { bO with kind:=8,id:=k.id,gen:=(Zo (k,x)).1.1.gen } (iV (Zo (k,x)).1.1,(Zo (k,x)).1.2))
  else (.thn (.aP .bN .drop) .ends,qq { bO with kind:=7,id:=k.id,gen:=(Zo (k,x)).1.1.gen } (iV (Zo (k,x)).1.1,(Zo (k,x)).1.2))):=rfl
 have hco:=Lt k x;rcases Z6 hs k.slot k.aA k.event with ⟨t1,t2⟩ | ⟨t1,j,r,w',t2,t3,t4,t5,t6,t7,t8⟩
 ·rw [e,if_pos (show (Zo (k,x)).2≠0 from t1)]
  have ho:Zk x.aa k.slot k.aA k.event=false:=by unfold Zk;simpa using t1
  rw [ho] at hco;split
  ·next h3 =>
   rw [if_pos h3] at hco;exact Xr.calm t2 rfl (by rw [hco];show (13:Int)+1<=12+2;decide)
  ·next h3 =>
   rw [if_neg h3] at hco;refine Xr.calm t2 rfl ?_
   rw [hco]
   show (if k.kind=3 then (245:Int) else 29)+1<=28+2
   rw [if_neg h3];decide
 ·have hst:=GQ t5 (show k.event=6\/k.event=7\/k.event=8 by
   have hev:k.event=if k.kind=4 then 6 else if k.kind=5 then 7 else 8:=rfl
   rw [hev]
   split <;> first | exact .inl rfl | (split <;> first | exact .inr (.inl rfl) | exact .inr (.inr rfl))) t6
  have ho:Zk x.aa k.slot k.aA k.event=true:=by unfold Zk;rw [t1];rfl
  rw [ho] at hco
  have hb:aX r=true:=by
   unfold aX;rw [decide_eq_false (by omega)];rfl
  have hsl:(Zo (k,x)).1.2.aa={ x.aa with recs:=x.aa.recs.set j { r with w:=w' } }:=t7;have hr1:(Zo (k,x)).1.2.aa.recs=x.aa.recs.set j { r with w:=w' }:=by rw [hsl]
  have hr2:(Zo (k,x)).1.2.aa.count=x.aa.count:=by rw [hsl]
  rw [e,if_neg (show ¬ (Zo (k,x)).2≠0 from fun h=>h t1)];split
  ·next h3 =>
   rw [if_pos h3] at hco;exact Xr.word j r _ t3 hb hr1 hr2 rfl (by rw [hco];show (3:Int)+9<=12+0;decide)
  ·next h3 =>
   rw [if_neg h3] at hco;split
   ·exact Xr.word j r _ t3 hb hr1 hr2 rfl (by rw [hco];show (1:Int)+9<=28+0;decide)
   ·exact Xr.word j r _ t3 hb hr1 hr2 rfl (by rw [hco];show (19:Int)+9<=28+0;decide)
theorem q2m (hc:Zg N x) (hk:Zm N k x) (m:MC) (hf:uL (.at none m) k) (h1:xe (.at none m) k) (h2:yo (.at none m) k) (hO:∀ j e,uM (.at none m) k=some (j,e)->∃ r,x.aa.recs[j]?=some r/\bA r.w=e) (hR:∀ s∈x.au,qc3 s.ring) (hn:x.aa.recs.length<=12) (hg:lD M x.aa.recs) (hM:M<4294967295) (hfr:1<=z8 (.at none m) k->∃ r∈x.aa.recs,aX r=false):Xr (.at none m) k x (Jk m (k,x)):=by
 have hs:=hc.aa;cases m with
 | right =>
   show Xr _ k x (if mR k then (.ai .aR,Qo 1 (k,x)) else (.at none .enter,(k,x)))
   split
   ·exact Xr.calm rfl rfl (by show (1:Int)+1<=318;decide)
   ·exact Xr.calm rfl rfl (by show (317:Int)+1<=318;decide)
 | enter=>exact Xr.calm rfl rfl (by show (316:Int)+1<=317;decide)
 | gate =>
   show Xr _ k x (if x.f.closed=true then (Zl k,Qo 3 (k,x)) else if k.kind=1\/k.kind=2 then (.at none .asks,({ k with rq:=some ⟨k.period,0,0,0,0,0⟩ },x)) else (.at none .looks,(k,x)))
   split
   ·exact Xr.calm rfl rfl (WO (Int.add_le_add_right (Ma k _ _) 1) (by show (2:Int)+1<=316;decide))
   ·split
    ·refine Xr.calm rfl rfl ?_
     rw [K6 (q:=⟨k.period,0,0,0,0,0⟩) rfl rfl]
     show (315:Int)+1<=316;decide
    ·refine Xr.calm rfl rfl ?_
     show (if k.kind=3 then (245:Int) else 29)+1<=316
     split <;> decide
 | asks=>exact qv9 hc hk hf hn hg hM hfr
 | bu=>exact qp4 hc hk h2 hR
 | bW =>
   obtain ⟨r,hr,he⟩:=hO _ _ rfl;obtain ⟨hb,b,h3,h4⟩:=LV hs 2 1 hk.slot hr he (by decide) (by decide) (fun _=>⟨rfl,rfl⟩) (by decide);exact Xr.word _ r b hr hb h3 h4 rfl (by show (3:Int)+9<=12;decide)
 | fills =>
   obtain ⟨i,t,s,a1,a2,a3,a4,a5,a6⟩:=GM hk (qt (k,x)) h2;have e:Jk .fills (k,x)=(Ji,(iV (Yn (qt (k,x)) (k,x)).1,(Yn (qt (k,x)) (k,x)).2)):=rfl;rw [e,a5];exact Xr.ring a4 rfl rfl (G7 _ _ _).1 (G7 _ _ _).2 (by show (2:Int)+1<=3;decide)
 | looks =>
   have h1:3<=k.kind/\k.kind<=5:=h1;obtain ⟨l1,l2⟩:=Bz k x.aa;have hl2:(Q0 (k,x)).1.1.kind=k.kind:=l2;have hco:J0 (.at none .looks) k x=if k.kind=3 then 245 else 29:=rfl
   show Xr _ k x (if (Q0 (k,x)).2=0 then (if k.kind=3 then (.at none .bu,({ (Q0 (k,x)).1.1 with tk:=some (kQ (Q0 (k,x)).1.1.slot x,X6) },x)) else (.at none .tries,(Q0 (k,x)).1)) else if (Q0 (k,x)).2=1 then (Zl k,Qo 1 (Q0 (k,x)).1) else (Zl k,Qo 0 (Q0 (k,x)).1))
   split
   ·next hl =>
    split
    ·next h3 =>
     rw [if_pos h3] at hco;refine Xr.calm rfl rfl ?_
     rw [hco,P8 (t:=X6) rfl rfl];decide
    ·next h3 =>
     rw [if_neg h3] at hco;refine Xr.calm rfl rfl ?_
     rw [hco,Lt];rw [show Zk (Q0 (k,x)).1.2.aa (Q0 (k,x)).1.1.slot (Q0 (k,x)).1.1.aA (Q0 (k,x)).1.1.event=true from look_ok hl,hl2,if_neg h3];decide
   ·have OG:(29:Int)<=J0 (.at none .looks) k x:=by rw [hco];split <;> decide
    split
    ·exact Xr.calm rfl rfl (WO (Int.add_le_add_right (Ma k _ _) 1) (WO (by decide) OG))
    ·exact Xr.calm rfl rfl (WO (Int.add_le_add_right (Ma k _ _) 1) (WO (by decide) OG))
 | again =>
   have h1:k.kind=3:=h1;obtain ⟨l1,l2⟩:=Bz k x.aa;have hl2:(Q0 (k,x)).1.1.kind=k.kind:=l2
   show Xr _ k x (if (Q0 (k,x)).2=0 then (.at none .tries,(Q0 (k,x)).1) else (.thn (.ai .bC) .leaves,Qo 0 (Q0 (k,x)).1))
   split
   ·next hl =>
    refine Xr.calm rfl rfl ?_
    rw [Lt];rw [show Zk (Q0 (k,x)).1.2.aa (Q0 (k,x)).1.1.slot (Q0 (k,x)).1.1.aA (Q0 (k,x)).1.1.event=true from look_ok hl,hl2,if_pos h1]
    show (12:Int)+0+1<=13;decide
   ·exact Xr.calm rfl rfl (by show (3:Int)+1<=13;decide)
 | tries=>exact qvf hc h1
 | ends=>exact hf.elim
 | leaves=>exact hf.elim
theorem q0z {s:SC} (hj:JC N s (k,x)) (h1:xe s k) (h2:yo s k) (hs:s≠.nil) (hO:∀ j e,uM s k=some (j,e)->∃ r,x.aa.recs[j]?=some r/\bA r.w=e) (hR:∀ s∈x.au,qc3 s.ring) (hn:x.aa.recs.length<=12) (hg:lD M x.aa.recs) (hM:M<4294967295) (hp:z8 s k<=x.aa.count) (hfr:s=.at none .asks->1<=z8 s k->∃ r∈x.aa.recs,aX r=false):Xr s k x (J5 s (k,x)):=by
 obtain ⟨hc,hk,hf⟩:=hj;simp only at hc hk hf;have hdr:1<=x.aa.count->x.aa.drop.1.recs=x.aa.recs:=fun h=>by unfold Qj.drop;split <;> rfl
 match s,hf,h1,h2,hO,hs,hp,hfr with
 | .nil,_,_,_,_,hs,_,_=>exact absurd rfl hs
 | .at none m,hf,h1,h2,hO,_,_,hfr =>
   exact q2m hc hk m hf h1 h2 hO hR hn hg hM (fun h=>by
    cases m with
    | asks=>exact hfr rfl h
    | _=>exact absurd h (by show ¬ (1:Int)<=0;decide))
 | .ai .aR,_,_,_,_,_,_,_=>exact Xr.calm rfl rfl (by show (0:Int)+1<=1;decide)
 | .thn (.ai .bL) .ends,_,_,_,_,_,_,_=>exact Xr.calm rfl rfl (by show (1:Int)+1<=2;decide)
 | .thn (.aP .eG .drop) .leaves,_,_,_,hO,_,_,_ =>
   obtain ⟨r,hr,he⟩:=hO _ _ rfl;obtain ⟨hb,b,h3,h4⟩:=LV hc.aa 9 1 hk.slot hr he (by decide) (by decide) (fun _=>⟨rfl,rfl⟩) (by decide);exact Xr.word _ r b hr hb h3 h4 rfl (by show (11:Int)+9<=20;decide)
 | .thn (.ai .drop) .leaves,_,_,_,_,_,hp,_=>exact Xr.count (hdr hp) rfl (by show (2:Int)+9<=11;decide)
 | .thn (.ai .bC) .leaves,_,h1,h2,_,_,_,_ =>
   obtain ⟨i,t,s,a1,a2,a3,a4,a5,a6⟩:=GM hk { Qn.zero with slot:=-1 } h2;have e:J5 (.thn (.ai .bC) .leaves) (k,x)=(Ji,Yn { Qn.zero with slot:=-1 } (k,x)):=rfl;rw [e,a5];exact Xr.ring a4 rfl rfl (G7 _ _ _).1 (G7 _ _ _).2 (by show (2:Int)+1<=3;decide)
 | .thn (.aP .bN .drop) .ends,_,_,_,hO,_,_,_ =>
   obtain ⟨r,hr,he⟩:=hO _ _ rfl;obtain ⟨hb,b,h3,h4⟩:=LV hc.aa 10 5 hk.slot hr he (by decide) (by decide) (fun _=>⟨rfl,rfl⟩) (by decide);exact Xr.word _ r b hr hb h3 h4 rfl (by show (10:Int)+9<=19;decide)
 | .thn (.ai .drop) .ends,_,_,_,_,_,hp,_=>exact Xr.count (hdr hp) rfl (by show (1:Int)+9<=10;decide)
end
def fP (z:ZT) (ev:Int):Bool:=Zk z.x.aa z.k.t.slot z.k.aA ev
def kN:ST->ZT->Int
 | .at none .looks,_=>41
 | .at none .bE,z=>40+st2 (fP z 4)
 | .thn (.ai (.put _)) .bB,_=>31
 | .at none .behind,_=>28
 | .at none (.aV _),z=>27+st2 (fP z 5)
 | .at none .aS,z=>27+st2 (fP z 9)
 | .aP .rel .drop,_=>18
 | .ai .drop,_=>9
 | _,_=>0
def aF (p:Qz):Int:=p.ch.length+p.sp.length
theorem TJ (p:Qz) (f:Xm):aF (p.put f).1<=aF p+1:=by
 unfold Qz.put aF;split
 ·show (p.ch.length:Int)+p.sp.length<=p.ch.length+p.sp.length+1;omega
 ·split
  ·simp only [WZ,WX];omega
  ·simp only [WZ,WX];omega
structure qd (G:ST) (z:ZT) (r:ST × ZT):Prop where
 au:r.2.x.au=z.x.au
 JN:∃ c,kz z.x r.2.x c/\kN r.1 r.2+1+4*c+2*(aF r.2.p - aF z.p)<=kN G z
section
variable {z:ZT} {M:Int} {G:ST} {r:ST × ZT}
theorem qd.calm (h1:r.2.x.aa=z.x.aa) (h2:r.2.x.au=z.x.au) (h4:r.2.p=z.p) (h3:kN r.1 r.2+1<=kN G z):qd G z r :=
 ⟨h2,0,.calm h1 (Jo h2),by rw [h4];omega⟩
theorem qd.count (h1:r.2.x.aa.recs=z.x.aa.recs) (h2:r.2.x.au=z.x.au) (h4:r.2.p=z.p) (h3:kN r.1 r.2+9<=kN G z):qd G z r :=
 ⟨h2,2,.count h1 (Jo h2),by rw [h4];omega⟩
theorem qd.word (j:Nat) (a b:Rec) (hr:z.x.aa.recs[j]?=some a) (hb:aX a=true) (h1:r.2.x.aa.recs=z.x.aa.recs.set j b) (hc:r.2.x.aa.count=z.x.aa.count) (h2:r.2.x.au=z.x.au) (h4:r.2.p=z.p) (h3:kN r.1 r.2+9<=kN G z):qd G z r :=
 ⟨h2,2,.word j a b hr hb h1 hc (Jo h2),by rw [h4];omega⟩
theorem BO {s:Qj} (hs:Xc s) {k ev:Int} (h0:bA (s.word k)≠0) (h1:1<=ev) (h2:ev<=10) (ht:(toW (bA (s.word k)) ev (decide (0<s.period k) && !Xk (s.word k))).2.2=true) (hg:X7 (s.word k)+(toW (bA (s.word k)) ev (decide (0<s.period k) && !Xk (s.word k))).2.1<=4294967295):Zk s k (s.word k) ev=true:=by
 have hh:s.has k:=WQ fun h=>h0 (by unfold Qj.word;rw [if_neg h];decide)
 obtain ⟨j,rfl⟩:=Qj.eP hh;obtain ⟨r,hr,hgd⟩:=Qj.fC hh;have hro:=hs.recs r (WL hr);have e1:s.word j=r.w:=by unfold Qj.word;rw [if_pos hh,hgd]
 have e2:s.period j=r.p:=by unfold Qj.period;rw [if_pos hh,hgd]
 rw [e1,e2] at ht hg;rw [e1]
 have hn:(Xo r.w ev (decide (0<r.p))).2=0:=by
  unfold Xo;rw [if_neg (by rw [hro.ok];decide),if_neg (by omega)];dsimp only
  rw [if_neg (by rw [ht];decide),if_neg (by omega)]
 unfold Zk Qj.try;rw [if_pos hh];dsimp only
 rw [hgd,if_neg (fun h=>h hn),if_pos rfl];rfl
theorem LC (hs:Xc z.x.aa) (ev:Int) (he:ev=4\/ev=5\/ev=9):((Qk ev z).2=true/\fP z ev=true/\∃ (j:Nat) (a b:Rec),z.x.aa.recs[j]?=some a/\aX a=true/\(Qk ev z).1.x.aa.recs=z.x.aa.recs.set j b/\(Qk ev z).1.x.aa.count=z.x.aa.count) \/
 ((Qk ev z).2=false/\fP z ev=false/\(Qk ev z).1.x.aa=z.x.aa):=by
 rcases Z6 hs z.k.t.slot z.k.aA ev with ⟨t1,t2⟩ | ⟨t1,j,r,w',t2,t3,t4,t5,t6,t7,t8⟩
 ·have hf:((z.x.aa.try z.k.t.slot z.k.aA ev).2.2 == 0)=false:=by simpa using t1
  exact .inr ⟨hf,hf,t2⟩
 ·have hf:((z.x.aa.try z.k.t.slot z.k.aA ev).2.2 == 0)=true:=by rw [t1];rfl
  refine .inl ⟨hf,hf,j,r,{ r with w:=w' },t3,?_,?_,?_⟩
  ·obtain ⟨_,_,g3,_⟩:=BN t5 t6
   cases hb:aX r with
   | true=>rfl
   | false =>
     have hz:bA r.w=0:=by unfold aX at hb;simpa using hb
     rw [hz] at g3;exfalso
     revert g3
     generalize (decide (0<r.p) && !Xk r.w)=ag;rcases he with rfl | rfl | rfl <;> cases ag <;> decide
  ·show (z.x.aa.try z.k.t.slot z.k.aA ev).1.recs=_;rw [t7]
  ·show (z.x.aa.try z.k.t.slot z.k.aA ev).1.count=_;rw [t7]
end
section
variable {z:ZT} {M:Int} {G:ST}
theorem Hl {s:Qj} (hg:lD M s.recs) (hM:0<=M) (k:Int):X7 (s.word k)<=M:=by
 unfold Qj.word;split
 ·next hh =>
  obtain ⟨j,rfl⟩:=Qj.eP hh;obtain ⟨r,hr,hgd⟩:=Qj.fC hh;rw [hgd];exact hg r (WL hr)
 ·rw [show X7 0=0 by decide];exact hM
theorem zbj (hs:Xc z.x.aa) (hG:oo G z.k) (hO:∀ j e,Bg G z.k=some (j,e)->∃ r,z.x.aa.recs[j]?=some r/\bA r.w=e) (hp:yz G<=z.x.aa.count) (hP:jd z.x.aa.recs z.k.t) (hg:lD M z.x.aa.recs) (hM:0<=M/\M<4294967295):qd G z (St.run runT Q3 G z):=by
 match G,hG,hO,hp with
 | .at none .looks,_,_,_ =>
   show qd _ z ((if (Qr 3 z).2=true then (.at none .bE,(Qr 3 z).1) else (.nil,(Qr 3 z).1)):ST × ZT)
   split
   ·next h =>
    refine qd.calm rfl rfl rfl ?_
    have h:(bA (z.x.aa.word z.k.t.slot) == 3 && X7 (z.x.aa.word z.k.t.slot) == z.k.t.gen && z.x.aa.mine z.k.t.id)=true:=h;simp only [XB,beq_iff_eq] at h
    have ho:fP (Qr 3 z).1 4=true:=by
     show Zk z.x.aa z.k.t.slot (z.x.aa.word z.k.t.slot) 4=true
     have hgw:=Hl hg hM.1 z.k.t.slot
     exact BO hs (by rw [h.1.1];decide) (by decide) (by decide) (by rw [h.1.1];rfl) (by
      rw [h.1.1];show X7 (z.x.aa.word z.k.t.slot)+0<=4294967295;omega)
    show 40+st2 (fP (Qr 3 z).1 4)+1<=41
    rw [ho];decide
   ·exact qd.calm rfl rfl rfl (by show (0:Int)+1<=41;decide)
 | .at none .bE,_,_,_ =>
   show qd _ z ((if (Qk 4 z).2=true then (.thn (.ai (.put ⟨z.k.t.id,z.k.t.gen,z.k.t.dl,z.k.now⟩)) .bB,(Qk 4 z).1.note { bO with kind:=5,id:=z.k.t.id,gen:=z.k.t.gen,dl:=z.k.t.dl,tick:=z.k.now })
   else (.at none .looks,(Qk 4 z).1)):ST × ZT)
   rcases LC hs 4 (.inl rfl) with ⟨t1,t2,j,a,b,t3,t4,t5,t6⟩ | ⟨t1,t2,t3⟩
   ·rw [if_pos t1]
    exact qd.word j a b t3 t4 t5 t6 rfl rfl (by show (31:Int)+9<=40+st2 (fP z 4);rw [t2];decide)
   ·rw [if_neg (by rw [t1];decide)]
    exact qd.calm t3 rfl rfl (by show (41:Int)+1<=40+st2 (fP z 4);rw [t2];decide)
 | .thn (.ai (.put f)) .bB,_,_,_ =>
   refine ⟨rfl,0,.calm rfl (fun _=>rfl),?_⟩
   have:=TJ z.p f
   show (28:Int)+1+4*0+2*(aF (z.p.put f).1 - aF z.p)<=31
   omega
 | .at none .behind,_,_,_ =>
   obtain ⟨w,hw⟩:∃ w,z.x.aa.word z.k.t.slot=w:=⟨_,rfl⟩
   have e:St.run runT Q3 (.at none .behind) z=(if bA w≠4\/X7 w≠z.k.t.gen then ((.nil,{ z with k:={ z.k with aA:=w } }):ST × ZT)
    else if 0<z.k.t.per/\Xk w=false/\z.k.t.dl+z.k.t.per<18446744073709551616 then (.at none (.aV (z.k.t.dl+z.k.t.per)),{ z with k:={ z.k with aA:=w } })
    else (.at none .aS,{ z with k:={ z.k with aA:=w } })):=by rw [<- hw];rfl
   rw [e];split
   ·exact qd.calm rfl rfl rfl (by show (0:Int)+1<=28;decide)
   ·next h =>
    have h4:bA w=4:=WQ fun h'=>h (.inl h')
    have hgn:X7 w=z.k.t.gen:=WQ fun h'=>h (.inr h')
    have hgw:=Hl hg hM.1 z.k.t.slot;rw [hw] at hgw;split
    ·next h5 =>
     refine qd.calm rfl rfl rfl ?_
     have iP:0<z.x.aa.period z.k.t.slot:=by
      have hh:z.x.aa.has z.k.t.slot:=WQ fun h'=>by
       unfold Qj.word at hw;rw [if_neg h'] at hw;rw [<- hw] at h4;revert h4;decide
      obtain ⟨j,hj⟩:=Qj.eP hh;rw [hj] at hh;obtain ⟨r,hr,hgd⟩:=Qj.fC hh;have hwr:r.w=w:=by rw [<- hw,hj];unfold Qj.word;rw [if_pos hh,hgd]
      have hpr:=(hP r (by omega) (by rw [hj,WN];exact hr)).2 (by rw [hwr];exact hgn);rw [hj];unfold Qj.period;rw [if_pos hh,hgd,hpr];exact h5.1
     have ho:fP { z with k:={ z.k with aA:=w } } 5=true:=by
      show Zk z.x.aa z.k.t.slot w 5=true
      rw [<- hw];exact BO hs (by rw [hw];omega) (by decide) (by decide) (by rw [hw,h4,h5.2.1,decide_eq_true iP];rfl) (by rw [hw];show X7 w+1<=4294967295;omega)
     show 27+st2 (fP { z with k:={ z.k with aA:=w } } 5)+1<=28
     rw [ho];decide
    ·refine qd.calm rfl rfl rfl ?_
     have ho:fP { z with k:={ z.k with aA:=w } } 9=true:=by
      show Zk z.x.aa z.k.t.slot w 9=true
      rw [<- hw];exact BO hs (by rw [hw];omega) (by decide) (by decide) (by rw [hw,h4];rfl) (by rw [hw,h4];show X7 w+0<=4294967295;omega)
     show 27+st2 (fP { z with k:={ z.k with aA:=w } } 9)+1<=28
     rw [ho];decide
 | .at none (.aV next),_,_,_ =>
   show qd _ z ((if (Qk 5 z).2=true then (.nil,jk { (Qk 5 z).1 with k:={ z.k with t:={ z.k.t with gen:=z.k.t.gen+1,dl:=next } } }) else (.at none .behind,(Qk 5 z).1)):ST × ZT)
   rcases LC hs 5 (.inr (.inl rfl)) with ⟨t1,t2,j,a,b,t3,t4,t5,t6⟩ | ⟨t1,t2,t3⟩
   ·rw [if_pos t1]
    exact qd.word j a b t3 t4 t5 t6 rfl rfl (by show (0:Int)+9<=27+st2 (fP z 5);rw [t2];decide)
   ·rw [if_neg (by rw [t1];decide)]
    exact qd.calm t3 rfl rfl (by show (28:Int)+1<=27+st2 (fP z 5);rw [t2];decide)
 | .at none .aS,_,_,_ =>
   show qd _ z ((if (Qk 9 z).2=true then (.aP .rel .drop,if 0<z.k.t.per/\Xk z.k.aA=false then (Qk 9 z).1.note { bO with kind:=14,id:=z.k.t.id,gen:=z.k.t.gen } else (Qk 9 z).1)
   else (.at none .behind,(Qk 9 z).1)):ST × ZT)
   rcases LC hs 9 (.inr (.inr rfl)) with ⟨t1,t2,j,a,b,t3,t4,t5,t6⟩ | ⟨t1,t2,t3⟩
   ·rw [if_pos t1]
    split
    ·exact qd.word j a b t3 t4 t5 t6 rfl rfl (by show (18:Int)+9<=27+st2 (fP z 9);rw [t2];decide)
    ·exact qd.word j a b t3 t4 t5 t6 rfl rfl (by show (18:Int)+9<=27+st2 (fP z 9);rw [t2];decide)
   ·rw [if_neg (by rw [t1];decide)]
    exact qd.calm t3 rfl rfl (by show (28:Int)+1<=27+st2 (fP z 9);rw [t2];decide)
 | .aP .rel .drop,hG,hO,_ =>
   have h0:0<=z.k.t.slot:=hG;obtain ⟨r,hr,he⟩:=hO _ _ rfl;have hro:=hs.recs r (WL hr);obtain ⟨j,hj⟩:=WR h0;rw [hj,WN] at hr;obtain ⟨w',hn,hst⟩:=BM (p:=decide (0<r.p)) (ev:=10) hro (by decide) (by decide) (by rw [he];rfl) (by rw [he];rfl)
   have e1:(z.x.aa.try z.k.t.slot (z.x.aa.word z.k.t.slot) 10).1={ z.x.aa with recs:=z.x.aa.recs.set j { r with w:=w' } }:=by
    rw [hj,BP hr hn]
   have e2:(St.run runT Q3 (.aP .rel .drop) z).2.x.aa={ z.x.aa with recs:=z.x.aa.recs.set j { r with w:=w' } }:=e1;exact qd.word j r { r with w:=w' } hr (by unfold aX;rw [decide_eq_false (by omega)];rfl) (by rw [e2]) (by rw [e2]) rfl rfl (by show (9:Int)+9<=18;decide)
 | .ai .drop,_,_,hp =>
   exact qd.count (by show z.x.aa.drop.1.recs=_;unfold Qj.drop;split <;> rfl) rfl rfl (by show (0:Int)+9<=9;decide)
end
theorem BG {x x':Qi} {c:Int} (h:kz x x' c) (k old ev:Int):0<=c/\st2 (Zk x'.aa k old ev)<=st2 (Zk x.aa k old ev)+c:=by
 have b1:=vM (Zk x'.aa k old ev);have b2:=vM (Zk x.aa k old ev);cases h with
 | calm h1 h2=>rw [h1];exact ⟨by decide,by omega⟩
 | count h1 h2=>exact ⟨by decide,by omega⟩
 | tail h1=>rw [h1];exact ⟨by decide,by omega⟩
 | word j r r' hr hb h1 hc h2=>exact ⟨by decide,by omega⟩
 | take h1 hc h2=>exact ⟨by decide,by omega⟩
theorem zbx {z z':ZT} {c:Int} (h:kz z.x z'.x c) (hk:z'.k=z.k) (G:ST):kN G z'<=kN G z+c:=by
 have a4:=BG h z.k.t.slot z.k.aA 4;have a5:=BG h z.k.t.slot z.k.aA 5;have a9:=BG h z.k.t.slot z.k.aA 9;have e4:fP z' 4=Zk z'.x.aa z.k.t.slot z.k.aA 4:=by unfold fP;rw [hk]
 have e5:fP z' 5=Zk z'.x.aa z.k.t.slot z.k.aA 5:=by unfold fP;rw [hk]
 have e9:fP z' 9=Zk z'.x.aa z.k.t.slot z.k.aA 9:=by unfold fP;rw [hk]
 rw [<- e4] at a4;rw [<- e5] at a5;rw [<- e9] at a9;have f4:fP z 4=Zk z.x.aa z.k.t.slot z.k.aA 4:=rfl;have f5:fP z 5=Zk z.x.aa z.k.t.slot z.k.aA 5:=rfl;have f9:fP z 9=Zk z.x.aa z.k.t.slot z.k.aA 9:=rfl;rw [<- f4] at a4;rw [<- f5] at a5;rw [<- f9] at a9;unfold kN;split <;> omega
def Zb (cap i:Int):Int:=if cap<=i then 3 else 28*(cap - i)+3
def q6:SS->ZS->Int
 | .at none .shuts,z=>Zb z.x.f.cfg.cap 0+2
 | .at (some .inside) .bQ,z=>Zb z.x.f.cfg.cap 0+1
 | .at (some .idle) .cK,_=>2
 | .ai .aR,_=>1
 | .thn (.ai .dE) .waits,_=>3
 | .thn (.at none (.bJ _)) (.az j),z=>28+Zb z.x.f.cfg.cap (j+1)
 | .thn (.at none (.aB i)) (.az j),z=>27+st2 (Zk z.x.aa i z.k.aA 6)+Zb z.x.f.cfg.cap (j+1)
 | .thn (.aP (.release _) .drop) (.az j),z=>18+Zb z.x.f.cfg.cap (j+1)
 | .thn (.ai .drop) (.az j),z=>9+Zb z.x.f.cfg.cap (j+1)
 | _,_=>0
theorem Ve (cap i:Int):3<=Zb cap i:=by unfold Zb;split <;> omega
theorem L8 (i:Int) (z:ZS):q6 (Zv i z) z=Zb z.x.f.cfg.cap i:=by
 unfold Zv;split
 ·next h=>show (3:Int)=_;unfold Zb;rw [if_pos h]
 ·next h =>
  show 28+Zb z.x.f.cfg.cap (i+1)=_
  unfold Zb;rw [if_neg h];split <;> omega
structure kK (s:SS) (z:ZS) (r:SS × ZS):Prop where
 au:r.2.x.au=z.x.au
 p:aF r.2.p=aF z.p
 JN:∃ c,kz z.x r.2.x c/\q6 r.1 r.2+1+4*c<=q6 s z
section
variable {z:ZS} {M:Int} {s:SS} {r:SS × ZS}
theorem kK.calm (h1:r.2.x.aa=z.x.aa) (h2:r.2.x.au=z.x.au) (h4:aF r.2.p=aF z.p) (h3:q6 r.1 r.2+1<=q6 s z):kK s z r :=
 ⟨h2,h4,0,.calm h1 (Jo h2),by omega⟩
theorem kK.count (h1:r.2.x.aa.recs=z.x.aa.recs) (h2:r.2.x.au=z.x.au) (h4:aF r.2.p=aF z.p) (h3:q6 r.1 r.2+9<=q6 s z):kK s z r :=
 ⟨h2,h4,2,.count h1 (Jo h2),by omega⟩
theorem kK.word (j:Nat) (a b:Rec) (hr:z.x.aa.recs[j]?=some a) (hb:aX a=true) (h1:r.2.x.aa.recs=z.x.aa.recs.set j b) (hc:r.2.x.aa.count=z.x.aa.count) (h2:r.2.x.au=z.x.au) (h4:aF r.2.p=aF z.p) (h3:q6 r.1 r.2+9<=q6 s z):kK s z r :=
 ⟨h2,h4,2,.word j a b hr hb h1 hc (Jo h2),by omega⟩
theorem q5p (hs:Xc z.x.aa) (hf:xY s z.k) (hn:s≠.nil) (hfin:Em s z.k) (hO:∀ j e,yf s=some (j,e)->∃ r,z.x.aa.recs[j]?=some r/\bA r.w=e) (hg:lD M z.x.aa.recs) (hM:0<=M/\M<4294967295):kK s z (stepS s z):=by
 match s,hf with
 | .nil,_=>exact absurd rfl hn
 | .at none .shuts,_ =>
   have:=Ve z.x.f.cfg.cap 0
   show kK _ z ((if z.x.f.closed=true then (.ai .aR,{ (z.note { bO with kind:=9,err:=3 }) with k:={ z.k with err:=3,ok:=false,fB:=false } }) else (.at (some .inside) .bQ,({ z with x:={ z.x with f:={ z.x.f with closed:=true } } }:ZS).note { bO with kind:=10 })):SS × ZS)
   split
   ·exact kK.calm rfl rfl rfl (by show (1:Int)+1<=Zb z.x.f.cfg.cap 0+2;omega)
   ·exact kK.calm rfl rfl rfl (by show Zb z.x.f.cfg.cap 0+1+1<=Zb z.x.f.cfg.cap 0+2;omega)
 | .at (some .inside) .bQ,_ =>
   have e:stepS (.at (some .inside) .bQ) z=(Zv 0 z,z):=rfl;rw [e];exact kK.calm rfl rfl rfl (by rw [L8];show _<=Zb z.x.f.cfg.cap 0+1;omega)
 | .at (some .idle) .cK,_=>exact kK.calm rfl rfl rfl (by show (1:Int)+1<=2;decide)
 | .ai .aR,_=>exact kK.calm rfl rfl rfl (by show (0:Int)+1<=1;decide)
 | .thn (.ai .dE) .waits,_=>exact kK.calm rfl rfl rfl (by show (2:Int)+1<=3;decide)
 | .thn (.at none (.bJ i)) (.az j),_ =>
   by_cases h:bA (z.x.aa.word i)=2\/bA (z.x.aa.word i)=3
   ·have e:stepS (.thn (.at none (.bJ i)) (.az j)) z=(.thn (.at none (.aB i)) (.az j),Yb i z):=by
     show Qd Xu (if bA (z.x.aa.word i)=2\/bA (z.x.aa.word i)=3 then ((.at none (.aB i),Yb i z):SS × ZS) else (.nil,Yb i z)).1 (.az j) (if bA (z.x.aa.word i)=2\/bA (z.x.aa.word i)=3 then ((.at none (.aB i),Yb i z):SS × ZS) else (.nil,Yb i z)).2=_
     rw [if_pos h];rfl
    rw [e];have hgw:=Hl hg hM.1 i
    have ho:Zk z.x.aa i (z.x.aa.word i) 6=true:=by
     rcases h with h | h
     ·exact BO hs (by omega) (by decide) (by decide) (by rw [h];rfl) (by rw [h];show X7 (z.x.aa.word i)+0<=4294967295;omega)
     ·exact BO hs (by omega) (by decide) (by decide) (by rw [h];rfl) (by rw [h];show X7 (z.x.aa.word i)+0<=4294967295;omega)
    refine kK.calm rfl rfl rfl ?_
    show 27+st2 (Zk z.x.aa i (z.x.aa.word i) 6)+Zb z.x.f.cfg.cap (j+1)+1<=28+Zb z.x.f.cfg.cap (j+1)
    rw [ho]
    show 27+0+Zb z.x.f.cfg.cap (j+1)+1<=28+Zb z.x.f.cfg.cap (j+1)
    omega
   ·have e:stepS (.thn (.at none (.bJ i)) (.az j)) z=(Zv (j+1) (Yb i z),Yb i z):=by
     show Qd Xu (if bA (z.x.aa.word i)=2\/bA (z.x.aa.word i)=3 then ((.at none (.aB i),Yb i z):SS × ZS) else (.nil,Yb i z)).1 (.az j) (if bA (z.x.aa.word i)=2\/bA (z.x.aa.word i)=3 then ((.at none (.aB i),Yb i z):SS × ZS) else (.nil,Yb i z)).2=_
     rw [if_neg h];rfl
    rw [e];exact kK.calm rfl rfl rfl (by rw [L8];show Zb z.x.f.cfg.cap (j+1)+1<=28+Zb z.x.f.cfg.cap (j+1);omega)
 | .thn (.at none (.aB i)) (.az j),hf =>
   have pU:bA z.k.aA=2\/bA z.k.aA=3:=hfin;have hco:q6 (.thn (.at none (.aB i)) (.az j)) z=27+st2 (Zk z.x.aa i z.k.aA 6)+Zb z.x.f.cfg.cap (j+1):=rfl;rcases Z6 hs i z.k.aA 6 with ⟨t1,t2⟩ | ⟨t1,b,r,w',t2,t3,t4,t5,t6,t7,t8⟩
   ·have e:stepS (.thn (.at none (.aB i)) (.az j)) z=(.thn (uf i) (.az j),{ z with x:={ z.x with aa:=(z.x.aa.try i z.k.aA 6).1 } }):=by
     show Qd Xu (Xu (.aB i) z).1 (.az j) (Xu (.aB i) z).2=_
     have e1:Xu (.aB i) z=(uf i,{ z with x:={ z.x with aa:=(z.x.aa.try i z.k.aA 6).1 } }):=by
      dsimp only [Xu];rw [if_pos t1]
     rw [e1];rfl
    rw [e];have ho:Zk z.x.aa i z.k.aA 6=false:=by unfold Zk;simpa using t1
    refine kK.calm t2 rfl rfl ?_
    rw [hco,ho]
    show 28+Zb z.x.f.cfg.cap (j+1)+1<=27+2+Zb z.x.f.cfg.cap (j+1)
    omega
   ·obtain ⟨z',e,hz,h2,h3,h4⟩:∃ z',stepS (.thn (.at none (.aB i)) (.az j)) z=(.thn (.aP (.release i) .drop) (.az j),z')/\z'.x.aa=(z.x.aa.try i z.k.aA 6).1/\z'.x.au=z.x.au/\z'.p=z.p/\z'.x.f.cfg.cap=z.x.f.cfg.cap:=by
     refine ⟨(Xu (.aB i) z).2,?_,?_⟩
     ·show Qd Xu (Xu (.aB i) z).1 (.az j) (Xu (.aB i) z).2=_
      have e1:(Xu (.aB i) z).1=.aP (.release i) .drop:=by dsimp only [Xu];rw [if_neg (fun h=>h t1)]
      rw [e1];rfl
     ·dsimp only [Xu];rw [if_neg (fun h=>h t1)];exact ⟨rfl,rfl,rfl,rfl⟩
    rw [e];have ho:Zk z.x.aa i z.k.aA 6=true:=by unfold Zk;rw [t1];rfl
    obtain ⟨g1,g2,g3⟩:=GQ t5 (.inl rfl) t6;refine kK.word b r { r with w:=w' } t3 (by unfold aX;rw [decide_eq_false (by omega)];rfl) (by show z'.x.aa.recs=_;rw [hz,t7]) (by show z'.x.aa.count=_;rw [hz,t7]) h2 (by show aF z'.p=_;rw [h3]) ?_
    rw [hco,ho]
    show 18+Zb z'.x.f.cfg.cap (j+1)+9<=27+0+Zb z.x.f.cfg.cap (j+1)
    rw [h4];omega
 | .thn (.aP (.release i) .drop) (.az j),_ =>
   have hi:0<=i:=hfin;obtain ⟨r,hr,he⟩:=hO _ _ rfl;have hro:=hs.recs r (WL hr);obtain ⟨b,rfl⟩:=WR hi;rw [WN] at hr;obtain ⟨w',hn,hst⟩:=BM (ev:=10) (p:=decide (0<r.p)) hro (by decide) (by decide) (by rw [he];rfl) (by rw [he];rfl)
   have e2:(stepS (.thn (.aP (.release (b:Int)) .drop) (.az j)) z).2.x.aa={ z.x.aa with recs:=z.x.aa.recs.set b { r with w:=w' } }:=by
    show (z.x.aa.try b (z.x.aa.word b) 10).1=_
    rw [BP hr hn]
   refine kK.word b r { r with w:=w' } hr (by unfold aX;rw [decide_eq_false (by omega)];rfl) (by rw [e2]) (by rw [e2]) rfl rfl ?_
   show 9+Zb z.x.f.cfg.cap (j+1)+9<=18+Zb z.x.f.cfg.cap (j+1)
   omega
 | .thn (.ai .drop) (.az j),_ =>
   have e:stepS (.thn (.ai .drop) (.az j)) z=(Zv (j+1) (Ya .drop z),Ya .drop z):=rfl;rw [e];refine kK.count (by show z.x.aa.drop.1.recs=_;unfold Qj.drop;split <;> rfl) rfl rfl ?_
   rw [L8]
   show Zb z.x.f.cfg.cap (j+1)+9<=9+Zb z.x.f.cfg.cap (j+1)
   omega
theorem zbz {z z':ZS} {c:Int} (h:kz z.x z'.x c) (hk:z'.k=z.k) (hcap:z'.x.f.cfg.cap=z.x.f.cfg.cap) (s:SS):q6 s z'<=q6 s z+c:=by
 have h0:=(BG h 0 0 0).1;unfold q6;split
 case h_7 i j=>rw [hk,hcap];have:=(BG h i z.k.aA 6).2;omega
 all_goals first | (rw [hcap];omega) | omega
end
def kP:ST->ZT->Int
 | .at none .bz,_=>215
 | .at none .aH,z=>214+st2 (fP z 3)
 | _,_=>0
section
variable {z:ZT} {M:Int}
theorem zap (hs:Xc z.x.aa):((Qk 3 z).2=true/\fP z 3=true/\∃ (j:Nat) (a b:Rec),z.x.aa.recs[j]?=some a/\aX a=true/\(Qk 3 z).1.x.aa.recs=z.x.aa.recs.set j b/\(Qk 3 z).1.x.aa.count=z.x.aa.count) \/
 ((Qk 3 z).2=false/\fP z 3=false/\(Qk 3 z).1.x.aa=z.x.aa):=by
 rcases Z6 hs z.k.t.slot z.k.aA 3 with ⟨t1,t2⟩ | ⟨t1,j,r,w',t2,t3,t4,t5,t6,t7,t8⟩
 ·have hf:((z.x.aa.try z.k.t.slot z.k.aA 3).2.2 == 0)=false:=by simpa using t1
  exact .inr ⟨hf,hf,t2⟩
 ·have hf:((z.x.aa.try z.k.t.slot z.k.aA 3).2.2 == 0)=true:=by rw [t1];rfl
  refine .inl ⟨hf,hf,j,r,{ r with w:=w' },t3,?_,?_,?_⟩
  ·obtain ⟨_,_,g3,_⟩:=BN t5 t6
   cases hb:aX r with
   | true=>rfl
   | false =>
     have hz:bA r.w=0:=by unfold aX at hb;simpa using hb
     rw [hz] at g3;exfalso
     revert g3
     generalize (decide (0<r.p) && !Xk r.w)=ag;cases ag <;> decide
  ·show (z.x.aa.try z.k.t.slot z.k.aA 3).1.recs=_;rw [t7]
  ·show (z.x.aa.try z.k.t.slot z.k.aA 3).1.count=_;rw [t7]
theorem qyk (hs:Xc z.x.aa) (hg:lD M z.x.aa.recs) (hM:0<=M/\M<4294967295):(runT .bz z).2.x=z.x/\(runT .bz z).2.p=z.p/\(runT .bz z).2.ws=z.ws/\((runT .bz z).1=.nil\/(runT .bz z).1=.at none .aH)/\kP (runT .bz z).1 (runT .bz z).2+1<=215:=by
 have e:runT .bz z=if (Qr 2 z).2=true then ((.at none .aH,(Qr 2 z).1):ST × ZT) else (.nil,(Qr 2 z).1):=rfl
 rw [e];split
 ·next h =>
  have h:(bA (z.x.aa.word z.k.t.slot) == 2 && X7 (z.x.aa.word z.k.t.slot) == z.k.t.gen && z.x.aa.mine z.k.t.id)=true:=h;simp only [XB,beq_iff_eq] at h
  have ho:fP (Qr 2 z).1 3=true:=by
   show Zk z.x.aa z.k.t.slot (z.x.aa.word z.k.t.slot) 3=true
   have hgw:=Hl hg hM.1 z.k.t.slot
   exact BO hs (by rw [h.1.1];decide) (by decide) (by decide) (by rw [h.1.1];rfl) (by
    rw [h.1.1];show X7 (z.x.aa.word z.k.t.slot)+0<=4294967295;omega)
  refine ⟨rfl,rfl,rfl,.inr rfl,?_⟩
  show 214+st2 (fP (Qr 2 z).1 3)+1<=215
  rw [ho];decide
 ·exact ⟨rfl,rfl,rfl,.inl rfl,by show (0:Int)+1<=215;decide⟩
theorem qun (hs:Xc z.x.aa):∃ c,kz z.x (runT .aH z).2.x c/\(runT .aH z).2.x.au=z.x.au/\(runT .aH z).2.p=z.p /\
 (((runT .aH z).1=.nil/\205+1+4*c<=kP (.at none .aH) z)\/(((runT .aH z).1=.nil\/(runT .aH z).1=.at none .bz)/\(runT .aH z).2.ws=z.ws/\c=0/\kP (runT .aH z).1 (runT .aH z).2+1<=kP (.at none .aH) z)):=by
 have hco:kP (.at none .aH) z=214+st2 (fP z 3):=rfl;have e:runT .aH z=if (Qk 3 z).2=true then ((.nil,jk (Qk 3 z).1):ST × ZT) else (Qv (Qk 3 z).1,(Qk 3 z).1):=rfl
 rw [e];rcases zap hs with ⟨t1,t2,j,a,b,t3,t4,t5,t6⟩ | ⟨t1,t2,t3⟩
 ·rw [if_pos t1]
  exact ⟨2,.word j a b t3 t4 t5 t6 (fun _=>rfl),rfl,rfl,.inl ⟨rfl,by rw [hco,t2];decide⟩⟩
 ·rw [if_neg (by rw [t1];decide)]
  refine ⟨0,.calm t3 (fun _=>rfl),rfl,rfl,.inr ⟨?_,rfl,rfl,?_⟩⟩
  ·show Qv _=_\/Qv _=_
   unfold Qv;split
   ·exact .inl rfl
   ·exact .inr rfl
  ·rw [hco,t2]
   show kP (Qv (Qk 3 z).1) (Qk 3 z).1+1<=214+2
   unfold Qv;split
   ·show (0:Int)+1<=214+2;decide
   ·show (215:Int)+1<=214+2;decide
end
theorem zby {z z':ZT} {c:Int} (h:kz z.x z'.x c) (hk:z'.k=z.k) (P:ST):kP P z'<=kP P z+c:=by
 obtain ⟨h0,a3⟩:=BG h z.k.t.slot z.k.aA 3;have e3:fP z' 3=Zk z'.x.aa z.k.t.slot z.k.aA 3:=by unfold fP;rw [hk]
 have f3:fP z 3=Zk z.x.aa z.k.t.slot z.k.aA 3:=rfl;rw [<- e3,<- f3] at a3;unfold kP;split <;> omega
def Qu (ws:List Qg) (i:Nat):Int:=zv (ws.getD i ⟨0,[],[]⟩)
def vF (ws:List Qg):Nat->Nat->Int
 | 0,_=>2
 | n+1,j=>4+41*Qu ws j+vF ws n (j+1)
def Qy (z:ZT) (j:Nat):Int:=vF z.ws (z.x.au.length - j) j
def Ca:ST->ZT->Nat->Int
 | .at (some .lock) (.dI _),z,i=>4+41*Qu z.ws i
 | .at none (.bX _),z,i=>3+41*Qu z.ws i
 | .thn (.ai (.bH _)) (.aM _),z,i=>2+41*Qu z.ws i
 | .thn (.at (some (.ready _)) (.bK _)) (.af _),z,i=>2+41*Qu z.ws i
 | .thn (.thn P (.ax _)) (.af _),z,i=>2+41*Qu z.ws i+kP P z
 | .thn (.thn G (.aD _ n)) .ay,z,_=>kN G z+41*((z.k.due.length:Int) - (n+1))+1
 | .ai .unlock,_,_=>1
 | _,_,_=>0
def Yf:ST->ZT->Int
 | .at none .enter,z=>3+Qy z 0
 | .at none .gate,z=>2+Qy z 0
 | .at none .tick,z=>1+Qy z 0
 | .aP .leave1 .answer,_=>2
 | .ai .answer,_=>1
 | .thn X (.ae i),z=>Ca X z i+Qy z (i+1)
 | _,_=>0
def zbe:ST->Int
 | .at none .bz=>1
 | .at none .aH=>2
 | _=>0
def KF:ST->Xd->Int
 | .thn (.thn P (.ax _)) (.af _),_=>zbe P
 | .thn (.thn _ (.aD _ n)) .ay,k=>3*((k.due.length:Int) - n)
 | _,_=>0
def zy:ST->Xd->Int
 | .thn X (.ae _),k=>KF X k
 | _,_=>0
def dn (ws:List Qg):Int:=Jr (ws.map fun w=>(zv w:Int))
def lC (s:ST) (z:ZT) (r:ST × ZT):Prop :=
 (∃ c,kz z.x r.2.x c/\Yf r.1 r.2+1+4*c+216*(Y7 r.2.x - Y7 z.x)+2*(aF r.2.p - aF z.p)<=Yf s z)/\3*dn r.2.ws+zy r.1 r.2.k<=3*dn z.ws+zy s z.k+1
theorem Ns {ws:List Qg} {i:Nat} {w:Qg} (h:i<ws.length):dn (ws.set i w)=dn ws - Qu ws i+zv w:=by
 have:=qp (f:=fun w:Qg=>(zv w:Int)) (y:=w) (WM h);unfold dn Qu;rw [this,WK,WM h];rfl
theorem Mh (ws:List Qg) (i:Nat):0<=Qu ws i:=Int.natCast_nonneg _
theorem TD (ws:List Qg):∀ n j,2<=vF ws n j
 | 0,_=>WU _
 | n+1,j=>by
   have:=TD ws n (j+1);have:=Mh ws j
   show 2<=4+41*Qu ws j+vF ws n (j+1)
   omega
theorem Sd {ws rZ:List Qg}:∀ (n j:Nat),(∀ k,j<=k->Qu rZ k=Qu ws k)->vF rZ n j=vF ws n j
 | 0,_,_=>rfl
 | n+1,j,h=>by
   have:=Sd n (j+1) (fun k hk=>h k (by omega))
   show 4+41*Qu rZ j+vF rZ n (j+1)=4+41*Qu ws j+vF ws n (j+1)
   rw [this,h j (Nat.le_refl _)]
section
variable {z z':ZT} {N:Nat} {M:Int} {i:Nat}
theorem Yh {j:Nat} (h:z'.x.au.length=z.x.au.length) (hw:∀ k,j<=k->Qu z'.ws k=Qu z.ws k):Qy z' j=Qy z j:=by
 unfold Qy;rw [h];exact Sd _ _ hw
theorem Uo {j:Nat} (h:j<z.x.au.length):Qy z j=4+41*Qu z.ws j+Qy z (j+1):=by
 unfold Qy;rw [show z.x.au.length - j=(z.x.au.length - (j+1))+1 by omega];rfl
theorem GD (z:ZT) (j:Nat):2<=Qy z j:=TD _ _ _
theorem LD {ws:List Qg} {i k:Nat} {w:Qg} (h:k≠i):Qu (ws.set i w) k=Qu ws k:=by
 unfold Qu;rw [WK,WK,WY (fun e=>h e.symm)]
theorem q0b {ws:List Qg} {i:Nat} {w:Qg} (h:i<ws.length):Qu (ws.set i w) i=zv w:=by
 unfold Qu;rw [WK,List.getElem?_set_self h];rfl
def QA (z:ZT) (r:ST × ZT):Prop:=r.2.k.due=z.k.due/\r.2.k.s=z.k.s/\(∀ k,k≠z.sh->Qu r.2.ws k=Qu z.ws k)/\(dn r.2.ws=dn z.ws\/(r.1=.nil/\dn r.2.ws=dn z.ws+1))
theorem zbk {G:ST} (hG:oo G z.k) (hwl:z.sh<z.ws.length) (hsh:z.wh.Sh):QA z (St.run runT Q3 G z):=by
 match G,hG with
 | .at none .looks,_ =>
   show QA z (if (Qr 3 z).2=true then ((.at none .bE,(Qr 3 z).1):ST × ZT) else (.nil,(Qr 3 z).1))
   split <;> exact ⟨rfl,rfl,fun _ _=>rfl,.inl rfl⟩
 | .at none .bE,_ =>
   have e:St.run runT Q3 (.at none .bE) z=(if (Qk 4 z).2=true then ((.thn (.ai (.put ⟨z.k.t.id,z.k.t.gen,z.k.t.dl,z.k.now⟩)) .bB,(Qk 4 z).1.note { bO with kind:=5,id:=z.k.t.id,gen:=z.k.t.gen,dl:=z.k.t.dl,tick:=z.k.now }):ST × ZT) else (.at none .looks,(Qk 4 z).1)):=rfl;rw [e];split <;> exact ⟨rfl,rfl,fun _ _=>rfl,.inl rfl⟩
 | .thn (.ai (.put f)) .bB,_=>exact ⟨rfl,rfl,fun _ _=>rfl,.inl rfl⟩
 | .at none .behind,_ =>
   have e:St.run runT Q3 (.at none .behind) z=((if bA (z.x.aa.word z.k.t.slot)≠4\/X7 (z.x.aa.word z.k.t.slot)≠z.k.t.gen then (St.nil,({ z with k:={ z.k with aA:=z.x.aa.word z.k.t.slot } }:ZT))
    else if 0<z.k.t.per/\Xk (z.x.aa.word z.k.t.slot)=false/\z.k.t.dl+z.k.t.per<18446744073709551616 then (.at none (.aV (z.k.t.dl+z.k.t.per)),{ z with k:={ z.k with aA:=z.x.aa.word z.k.t.slot } }) else (.at none .aS,{ z with k:={ z.k with aA:=z.x.aa.word z.k.t.slot } })):ST × ZT):=rfl
   rw [e];split
   ·exact ⟨rfl,rfl,fun _ _=>rfl,.inl rfl⟩
   ·split <;> exact ⟨rfl,rfl,fun _ _=>rfl,.inl rfl⟩
 | .at none (.aV next),_ =>
   have e:St.run runT Q3 (.at none (.aV next)) z=(if (Qk 5 z).2=true then ((.nil,jk { (Qk 5 z).1 with k:={ z.k with t:={ z.k.t with gen:=z.k.t.gen+1,dl:=next } } }):ST × ZT) else (.at none .behind,(Qk 5 z).1)):=rfl;rw [e];split
   ·refine ⟨rfl,rfl,fun k hk=>LD hk,.inr ⟨rfl,?_⟩⟩
    show dn (z.ws.set z.sh (z.wh.place _))=_
    rw [Ns hwl,qx hsh]
    show dn z.ws - (zv z.wh:Int)+((zv z.wh+1:Nat):Int)=_
    omega
   ·exact ⟨rfl,rfl,fun _ _=>rfl,.inl rfl⟩
 | .at none .aS,_ =>
   have e:St.run runT Q3 (.at none .aS) z=(if (Qk 9 z).2=true then ((.aP .rel .drop,if 0<z.k.t.per/\Xk z.k.aA=false then (Qk 9 z).1.note { bO with kind:=14,id:=z.k.t.id,gen:=z.k.t.gen } else (Qk 9 z).1):ST × ZT) else (.at none .behind,(Qk 9 z).1)):=rfl;rw [e];split
   ·dsimp only
    split <;> exact ⟨rfl,rfl,fun _ _=>rfl,.inl rfl⟩
   ·exact ⟨rfl,rfl,fun _ _=>rfl,.inl rfl⟩
 | .aP .rel .drop,_=>exact ⟨rfl,rfl,fun _ _=>rfl,.inl rfl⟩
 | .ai .drop,_=>exact ⟨rfl,rfl,fun _ _=>rfl,.inl rfl⟩
theorem zt (j:Nat) (z:ZT):Yf (Q7 j z).1 (Q7 j z).2<=Qy z j/\(Q7 j z).2.x=z.x/\(Q7 j z).2.p=z.p/\(Q7 j z).2.ws=z.ws/\zy (Q7 j z).1 (Q7 j z).2.k=0:=by
 unfold Q7;split
 ·next h =>
  refine ⟨?_,rfl,rfl,rfl,rfl⟩
  show 4+41*Qu z.ws j+Qy z (j+1)<=Qy z j
  rw [Uo h];exact WU _
 ·exact ⟨GD z j,rfl,rfl,rfl,rfl⟩
theorem SF {x x':Qi} (h1:x'.aa=x.aa) (h2:x'.au=x.au):kz x x' 0/\Y7 x'=Y7 x:=⟨.calm h1 (Jo h2),zj h2⟩
theorem Nl {x x':Qi} {s s':Qs} (hs:x.au[i]?=some s) (h1:x'.aa=x.aa) (h2:x'.au=x.au.set i s') (ht:s'.ring.tail=s.ring.tail):kz x x' 0/\Y7 x'=Y7 x+s.ring.head - s'.ring.head:=by
 refine ⟨.calm h1 fun k=>?_,?_⟩
 ·unfold Jz
  rw [h2];by_cases e:k=i
  ·subst e
   rw [WK,WK,get_set_same hs,hs];exact ht
  ·rw [WK,WK,WY (fun e'=>e e'.symm)]
 ·rw [MP hs h2,ht];omega
end
section
variable {z:ZT} {N:Nat} {M:Int} {i:Nat}
theorem lC.calm {s:ST} {r:ST × ZT} (h1:r.2.x.aa=z.x.aa) (h2:r.2.x.au=z.x.au) (h4:r.2.p=z.p) (h3:Yf r.1 r.2+1<=Yf s z) (h5:3*dn r.2.ws+zy r.1 r.2.k<=3*dn z.ws+zy s z.k+1):lC s z r:=by
 obtain ⟨a,b⟩:=SF h1 h2;exact ⟨⟨0,a,by rw [b,h4];omega⟩,h5⟩
theorem qtd {s s':ST} {k k':Xd} {ws rZ:List Qg} (h:dn rZ=dn ws) (h2:zy s' k'<=zy s k+1):3*dn rZ+zy s' k'<=3*dn ws+zy s k+1:=by omega
theorem Zc {s s':ST} {k k':Xd} {ws rZ:List Qg} (h:rZ=ws) (h2:zy s' k'<=zy s k+1):3*dn rZ+zy s' k'<=3*dn ws+zy s k+1:=by rw [h];omega
theorem Md {n:Int} {d:Nat} {r:ST × ZT} {z':ZT} (hr:r=Qd runT (Qd runT (Q2 n z') (.af d) z').1 (.ae i) (Qd runT (Q2 n z') (.af d) z').2):Yf r.1 r.2=2+41*Qu z'.ws i+Qy z' (i+1)/\r.2=z'/\zy r.1 r.2.k=0:=by
 subst hr;by_cases h:n<=0
 ·rw [G9 h];exact ⟨rfl,rfl,rfl⟩
 ·rw [Br h];exact ⟨rfl,rfl,rfl⟩
theorem qzy {X:ST} (hb:TB N z) (hs:z.k.s=some i) (hi:i<z.x.au.length) (hX:ky X z.k z.x i) (hm:mO X z=true)
 (hO:∀ j e,vI (.thn X (.ae i)) z.k=some (j,e)->∃ r,z.x.aa.recs[j]?=some r/\bA r.w=e) (hp:oQ (.thn X (.ae i))<=z.x.aa.count) (hP:jd z.x.aa.recs z.k.t) (hg:lD M z.x.aa.recs) (hM:0<=M/\M<4294967295) :
 lC (.thn X (.ae i)) z (Qw (.thn X (.ae i)) z):=by
 have hsl:=hb.core.aa;obtain ⟨hget,hsh⟩:=Nk hs hi;have hwl:i<z.ws.length:=by rw [hb.rest.wl];exact hi
 have wU:z.wh.Sh:=by
  have:z.wh=z.ws.getD i ⟨0,[],[]⟩:=by unfold ZT.wh;rw [hsh]
  rw [this,WK,WM hwl];exact (hb.rest.kE _ (XA hwl)).sh
 have OY:(zv z.wh:Int)=Qu z.ws i:=by unfold Qu ZT.wh;rw [hsh]
 have hw0:=Mh z.ws i
 match X,hX,hm,hO,hp with
 | .at (some .lock) (.dI d),_,_,_,_ =>
   have e:Qw (.thn (.at (some .lock) (.dI d)) (.ae i)) z=(.thn (.at none (.bX d)) (.ae i),z.cZ { z.aU with who:=ow z.aU.who z.k.th,turns:=nC z.aU.who z.aU.turns }):=rfl;rw [e];obtain ⟨a,b⟩:=Nl (x:=z.x) (x':=(z.cZ { z.aU with who:=ow z.aU.who z.k.th,turns:=nC z.aU.who z.aU.turns }).x) (s':={ z.aU with who:=ow z.aU.who z.k.th,turns:=nC z.aU.who z.aU.turns }) hget rfl (by rw [<- hsh];rfl) rfl;refine ⟨⟨0,a,?_⟩,Zc rfl (by show (0:Int)<=0+1;decide)⟩
   rw [b];have hr:Qy (z.cZ { z.aU with who:=ow z.aU.who z.k.th,turns:=nC z.aU.who z.aU.turns }) (i+1)=Qy z (i+1):=Yh (by show (z.x.au.set _ _).length=_;rw [WS]) (fun _ _=>rfl)
   show 3+41*Qu z.ws i+Qy _ (i+1)+1+4*0+216*_+2*(aF z.p - aF z.p)<=4+41*Qu z.ws i+Qy z (i+1)
   rw [hr]
   show _+216*(Y7 z.x+z.aU.ring.head - z.aU.ring.head - Y7 z.x)+_<=_
   omega
 | .at none (.bX d),_,_,_,_ =>
   have e:Qw (.thn (.at none (.bX d)) (.ae i)) z=Qd runT ((if z.aU.ring.tail - z.aU.ring.head<=0 then J1 d z else (.thn (Q2 (z.aU.ring.tail - z.aU.ring.head) z) (.af d),z)):ST × ZT).1 (.ae i) ((if z.aU.ring.tail - z.aU.ring.head<=0 then J1 d z else (.thn (Q2 (z.aU.ring.tail - z.aU.ring.head) z) (.af d),z)):ST × ZT).2:=rfl;rw [e];split
   ·refine lC.calm rfl rfl rfl ?_ (Zc rfl (by show (0:Int)<=0+1;decide))
    show 2+41*Qu z.ws i+Qy z (i+1)+1<=3+41*Qu z.ws i+Qy z (i+1)
    omega
   ·next h =>
    rw [Br h];refine lC.calm rfl rfl rfl ?_ (Zc rfl (by show (0:Int)<=0+1;decide))
    show 2+41*Qu z.ws i+Qy z (i+1)+1<=3+41*Qu z.ws i+Qy z (i+1)
    omega
 | .thn (.ai (.bH d)) (.aM e),_,_,_,_ =>
   have e2:Qw (.thn (.thn (.ai (.bH d)) (.aM e)) (.ae i)) z=Qd runT (runT (.aM e) (Q3 (.bH d) z)).1 (.ae i) (runT (.aM e) (Q3 (.bH d) z)).2:=rfl;rw [e2];obtain ⟨f1,f2,f3⟩:=LH wU;obtain ⟨w,hw⟩:∃ w,Q3 (.bH d) z=w:=⟨_,rfl⟩;have w1:w.x=z.x:=by rw [<- hw];rfl
   have w2:w.p=z.p:=by rw [<- hw];rfl
   have w3:w.k.due=z.wh.fO.2.map gI.v:=by rw [<- hw];rfl
   have w4:Qy w (i+1)=Qy z (i+1):=Yh (by rw [w1]) (fun k hk=>by rw [<- hw];show Qu (z.ws.set z.sh _) k=_;rw [hsh];exact LD (by omega))
   have w6:dn w.ws=dn z.ws - z.wh.fO.2.length:=by
    rw [<- hw]
    show dn (z.ws.set z.sh z.wh.fO.1)=_
    rw [hsh,Ns hwl,<- OY];omega
   rw [hw];have e3:runT (.aM e) w=(match w.k.due[0]? with | none=>((.ai .unlock,w):ST × ZT) | some _=>(.thn (Qm e 0 w).1 .ay,(Qm e 0 w).2)):=rfl;rw [e3];cases hd:w.k.due[0]? with
   | none =>
     refine lC.calm (by rw [<- w1];rfl) (by rw [<- w1];rfl) (by rw [<- w2];rfl) ?_ (by show 3*dn w.ws+0<=3*dn z.ws+0+1;omega)
     show 1+Qy w (i+1)+1<=2+41*Qu z.ws i+Qy z (i+1)
     omega
   | some t =>
     have hf:Qm e 0 w=(.thn (.at none .looks) (.aD e 0),{ w with k:={ w.k with t:=t } }):=by unfold Qm;rw [hd]
     dsimp only
     rw [hf];refine lC.calm (by rw [<- w1];rfl) (by rw [<- w1];rfl) (by rw [<- w2];rfl) ?_ (by show 3*dn w.ws+3*((w.k.due.length:Int) - (0:Nat))<=3*dn z.ws+0+1;rw [w3,XC];omega)
     have w5:Qy { w with k:={ w.k with t:=t } } (i+1)=Qy w (i+1):=rfl
     show 41+41*((w.k.due.length:Int) - ((0:Nat)+1))+1+Qy { w with k:={ w.k with t:=t } } (i+1)+1<=2+41*Qu z.ws i+Qy z (i+1)
     rw [w5,w3,XC];omega
 | .thn (.at (some (.ready j)) (.bK n)) (.af d),hX,hm,_,_ =>
   have hj:j=i:=hX.2.2.1
   have hrd:z.aU.ring.ready=true:=by
    have:(z.x.au.getD j (Qp 1)).ring.ready=true:=hm;rw [hj,WK,hget] at this;exact this
   obtain ⟨z',hz'⟩:∃ z':ZT,{ (z.cZ { z.aU with ring:=(J4 z.aU.ring).1 }) with k:={ z.k with t:=(J4 z.aU.ring).2.1 } }=z':=⟨_,rfl⟩;have e:Qw (.thn (.thn (.at (some (.ready j)) (.bK n)) (.af d)) (.ae i)) z=Qd runT (Qd runT (if z'.k.t.slot<0 then (Q2 (n - 1) z',z') else ((.thn (.at none .bz) (.ax n),z'):ST × ZT)).1 (.af d) (if z'.k.t.slot<0 then (Q2 (n - 1) z',z') else ((.thn (.at none .bz) (.ax n),z'):ST × ZT)).2).1 (.ae i) (Qd runT (if z'.k.t.slot<0 then (Q2 (n - 1) z',z') else ((.thn (.at none .bz) (.ax n),z'):ST × ZT)).1 (.af d) (if z'.k.t.slot<0 then (Q2 (n - 1) z',z') else ((.thn (.at none .bz) (.ax n),z'):ST × ZT)).2).2:=by rw [<- hz'];rfl
   have p1:(J4 z.aU.ring).1.tail=z.aU.ring.tail/\(J4 z.aU.ring).1.head=z.aU.ring.head+1:=by
    unfold J4;rw [if_pos hrd];exact ⟨rfl,rfl⟩
   obtain ⟨a,b⟩:=Nl (x:=z.x) (x':=z'.x) (s':={ z.aU with ring:=(J4 z.aU.ring).1 }) hget (by rw [<- hz'];rfl) (by rw [<- hz',<- hsh];rfl) p1.1;have b:Y7 z'.x=Y7 z.x - 1:=by rw [b];show _+z.aU.ring.head - (J4 z.aU.ring).1.head=_;rw [p1.2];omega
   have c1:z'.p=z.p:=by rw [<- hz'];rfl
   have c2:z'.ws=z.ws:=by rw [<- hz'];rfl
   have c3:Qy z' (i+1)=Qy z (i+1):=Yh (by rw [<- hz'];show (z.x.au.set _ _).length=_;rw [WS]) (fun _ _=>by rw [c2]);have hold:Yf (.thn (.thn (.at (some (.ready j)) (.bK n)) (.af d)) (.ae i)) z=2+41*Qu z.ws i+Qy z (i+1):=rfl;rw [e];split
   ·obtain ⟨q1,q2,q3⟩:=Md (i:=i) (d:=d) (n:=n - 1) (z':=z') rfl
    refine ⟨⟨0,by rw [q2];exact a,?_⟩,Zc (by rw [q2,c2]) (by rw [q3];show (0:Int)<=0+1;decide)⟩
    rw [q1,q2,b,c1,c2,c3,hold];omega
   ·refine ⟨⟨0,a,?_⟩,Zc c2 (by show (1:Int)<=0+1;decide)⟩
    show 2+41*Qu z'.ws i+215+Qy z' (i+1)+1+4*0+216*(Y7 z'.x - Y7 z.x)+2*(aF z'.p - aF z.p)<=_
    rw [b,c1,c2,c3,hold];omega
 | .thn (.thn (.at none .bz) (.ax n)) (.af d),_,_,_,_ =>
   obtain ⟨g1,g2,g3,g4,g5⟩:=qyk hsl hg hM;obtain ⟨r,hr⟩:∃ r,runT .bz z=r:=⟨_,rfl⟩;have e:Qw (.thn (.thn (.thn (.at none .bz) (.ax n)) (.af d)) (.ae i)) z=Qd runT (Qd runT (Qd runT r.1 (.ax n) r.2).1 (.af d) (Qd runT r.1 (.ax n) r.2).2).1 (.ae i) (Qd runT (Qd runT r.1 (.ax n) r.2).1 (.af d) (Qd runT r.1 (.ax n) r.2).2).2:=by rw [<- hr];rfl
   have hold:Yf (.thn (.thn (.thn (.at none .bz) (.ax n)) (.af d)) (.ae i)) z=2+41*Qu z.ws i+215+Qy z (i+1):=rfl;rw [hr] at g1 g2 g3 g4 g5;have c3:Qy r.2 (i+1)=Qy z (i+1):=Yh (by rw [g1]) (fun _ _=>by rw [g3]);rw [e];obtain ⟨r1,r2⟩:=r;simp only at g1 g2 g3 g4 g5 c3;rcases g4 with hc | hc
   ·obtain rfl:r1=.nil:=hc
    obtain ⟨q1,q2,q3⟩:=Md (i:=i) (d:=d) (n:=n - 1) (z':=r2) rfl
    refine lC.calm ?_ ?_ ?_ ?_ (Zc (by show (Qd runT (Qd runT (Q2 (n - 1) r2) (.af d) r2).1 (.ae i) (Qd runT (Q2 (n - 1) r2) (.af d) r2).2).2.ws=_;rw [q2,g3]) (by
     show zy (Qd runT (Qd runT (Q2 (n - 1) r2) (.af d) r2).1 (.ae i) (Qd runT (Q2 (n - 1) r2) (.af d) r2).2).1 (Qd runT (Qd runT (Q2 (n - 1) r2) (.af d) r2).1 (.ae i) (Qd runT (Q2 (n - 1) r2) (.af d) r2).2).2.k<=1+1
     rw [q3];decide))
    ·show (Qd runT (Qd runT (Q2 (n - 1) r2) (.af d) r2).1 (.ae i) (Qd runT (Q2 (n - 1) r2) (.af d) r2).2).2.x.aa=_;rw [q2,g1]
    ·show (Qd runT (Qd runT (Q2 (n - 1) r2) (.af d) r2).1 (.ae i) (Qd runT (Q2 (n - 1) r2) (.af d) r2).2).2.x.au=_;rw [q2,g1]
    ·show (Qd runT (Qd runT (Q2 (n - 1) r2) (.af d) r2).1 (.ae i) (Qd runT (Q2 (n - 1) r2) (.af d) r2).2).2.p=_;rw [q2,g2]
    ·show Yf (Qd runT (Qd runT (Q2 (n - 1) r2) (.af d) r2).1 (.ae i) (Qd runT (Q2 (n - 1) r2) (.af d) r2).2).1 (Qd runT (Qd runT (Q2 (n - 1) r2) (.af d) r2).1 (.ae i) (Qd runT (Q2 (n - 1) r2) (.af d) r2).2).2+1<=_
     rw [q1,hold,g3,c3];omega
   ·obtain rfl:r1=.at none .aH:=hc
    refine lC.calm (by show r2.x.aa=_;rw [g1]) (by show r2.x.au=_;rw [g1]) (by show r2.p=_;rw [g2]) ?_ (Zc g3 (by show (2:Int)<=1+1;decide))
    show 2+41*Qu r2.ws i+kP (.at none .aH) r2+Qy r2 (i+1)+1<=_
    rw [hold,g3,c3];omega
 | .thn (.thn (.at none .aH) (.ax n)) (.af d),_,_,_,_ =>
   obtain ⟨c,g1,g2,g3,g4⟩:=qun (z:=z) hsl;obtain ⟨r,hr⟩:∃ r,runT .aH z=r:=⟨_,rfl⟩;have e:Qw (.thn (.thn (.thn (.at none .aH) (.ax n)) (.af d)) (.ae i)) z=Qd runT (Qd runT (Qd runT r.1 (.ax n) r.2).1 (.af d) (Qd runT r.1 (.ax n) r.2).2).1 (.ae i) (Qd runT (Qd runT r.1 (.ax n) r.2).1 (.af d) (Qd runT r.1 (.ax n) r.2).2).2:=by rw [<- hr];rfl
   have hold:Yf (.thn (.thn (.thn (.at none .aH) (.ax n)) (.af d)) (.ae i)) z=2+41*Qu z.ws i+kP (.at none .aH) z+Qy z (i+1):=rfl;have e1:runT .aH z=if (Qk 3 z).2=true then ((.nil,jk (Qk 3 z).1):ST × ZT) else (Qv (Qk 3 z).1,(Qk 3 z).1):=rfl
   have hws:Qu (runT .aH z).2.ws i<=Qu z.ws i+1/\(∀ k,k≠i->Qu (runT .aH z).2.ws k=Qu z.ws k)/\dn (runT .aH z).2.ws<=dn z.ws+1:=by
    rw [e1];split
    ·refine ⟨?_,fun k hk=>?_,?_⟩
     ·show Qu (z.ws.set z.sh (z.wh.place _)) i<=_
      rw [hsh,q0b hwl,qx wU];omega
     ·show Qu (z.ws.set z.sh (z.wh.place _)) k=_
      rw [hsh];exact LD hk
     ·show dn (z.ws.set z.sh (z.wh.place _))<=_
      rw [hsh,Ns hwl,qx wU,<- OY];omega
    ·exact ⟨by show Qu z.ws i<=_;omega,fun _ _=>rfl,by show dn z.ws<=_;omega⟩
   rw [hr] at g1 g2 g3 g4 hws;have c3:Qy r.2 (i+1)=Qy z (i+1):=Yh (by rw [g2]) (fun k hk=>hws.2.1 k (by omega));rw [e];obtain ⟨r1,r2⟩:=r;simp only at g1 g2 g3 g4 hws c3;have he:Y7 r2.x=Y7 z.x:=zj g2
   have hnil:r1=.nil->41*Qu r2.ws i+1+4*c<=41*Qu z.ws i+kP (.at none .aH) z->lC (.thn (.thn (.thn (.at none .aH) (.ax n)) (.af d)) (.ae i)) z (Qd runT (Qd runT (Qd runT r1 (.ax n) r2).1 (.af d) (Qd runT r1 (.ax n) r2).2).1 (.ae i) (Qd runT (Qd runT r1 (.ax n) r2).1 (.af d) (Qd runT r1 (.ax n) r2).2).2):=fun hc hle=>by
    subst hc;obtain ⟨q1,q2,q3⟩:=Md (i:=i) (d:=d) (n:=n - 1) (z':=r2) rfl
    refine And.intro ?_ (by
     show 3*dn (Qd runT (Qd runT (Q2 (n - 1) r2) (.af d) r2).1 (.ae i) (Qd runT (Q2 (n - 1) r2) (.af d) r2).2).2.ws+zy (Qd runT (Qd runT (Q2 (n - 1) r2) (.af d) r2).1 (.ae i) (Qd runT (Q2 (n - 1) r2) (.af d) r2).2).1 (Qd runT (Qd runT (Q2 (n - 1) r2) (.af d) r2).1 (.ae i) (Qd runT (Q2 (n - 1) r2) (.af d) r2).2).2.k<=3*dn z.ws+2+1
     rw [q3,q2];have:=hws.2.2;omega)
    show ∃ c,kz z.x (Qd runT (Qd runT (Q2 (n - 1) r2) (.af d) r2).1 (.ae i) (Qd runT (Q2 (n - 1) r2) (.af d) r2).2).2.x c/\Yf (Qd runT (Qd runT (Q2 (n - 1) r2) (.af d) r2).1 (.ae i) (Qd runT (Q2 (n - 1) r2) (.af d) r2).2).1 (Qd runT (Qd runT (Q2 (n - 1) r2) (.af d) r2).1 (.ae i) (Qd runT (Q2 (n - 1) r2) (.af d) r2).2).2+1+4*c+216*(Y7 (Qd runT (Qd runT (Q2 (n - 1) r2) (.af d) r2).1 (.ae i) (Qd runT (Q2 (n - 1) r2) (.af d) r2).2).2.x - Y7 z.x)+2*(aF (Qd runT (Qd runT (Q2 (n - 1) r2) (.af d) r2).1 (.ae i) (Qd runT (Q2 (n - 1) r2) (.af d) r2).2).2.p - aF z.p)<=_
    refine ⟨c,by rw [q2];exact g1,?_⟩
    rw [q1,q2,he,g3,hold,c3];omega
   rcases g4 with ⟨h1,h2⟩ | ⟨h1,h2,h3,h4⟩
   ·exact hnil h1 (by have:=hws.1;omega)
   ·subst h3
    rcases h1 with h1 | h1
    ·refine hnil h1 ?_
     rw [h1] at h4;have h4:(0:Int)+1<=kP (.at none .aH) z:=h4;rw [h2];omega
    ·subst h1
     refine ⟨⟨0,g1,?_⟩,Zc h2 (by show (1:Int)<=2+1;decide)⟩
     show 2+41*Qu r2.ws i+kP (.at none .bz) r2+Qy r2 (i+1)+1+4*0+216*(Y7 r2.x - Y7 z.x)+2*(aF r2.p - aF z.p)<=_
     rw [he,g3,hold,c3,h2];omega
 | .thn (.thn G (.aD d n)) .ay,hX,_,hO,hp =>
   obtain ⟨_,_,_,hnl,hG⟩:=hX;obtain ⟨g1,c,g2,g3⟩:=zbj hsl hG hO hp hP hg hM;obtain ⟨k1,k2,k3,k4⟩:=zbk hG (by rw [hsh];exact hwl) wU;obtain ⟨r,hr⟩:∃ r,St.run runT Q3 G z=r:=⟨_,rfl⟩;have e:Qw (.thn (.thn (.thn G (.aD d n)) .ay) (.ae i)) z=Qd runT (Qd runT (Qd runT r.1 (.aD d n) r.2).1 .ay (Qd runT r.1 (.aD d n) r.2).2).1 (.ae i) (Qd runT (Qd runT r.1 (.aD d n) r.2).1 .ay (Qd runT r.1 (.aD d n) r.2).2).2:=by rw [<- hr];rfl
   have hold:Yf (.thn (.thn (.thn G (.aD d n)) .ay) (.ae i)) z=kN G z+41*((z.k.due.length:Int) - (n+1))+1+Qy z (i+1):=rfl;rw [hr] at g1 g2 g3 k1 k2 k3 k4;have he:=zj g1;have c3:Qy r.2 (i+1)=Qy z (i+1):=Yh (by rw [g1]) (fun k hk=>k3 k (by omega));by_cases hn:r.1=.nil
   ·rw [e]
    obtain ⟨G',z'⟩:=r;obtain rfl:G'=.nil:=hn;simp only at g1 g2 g3 k1 k2 k3 k4 he c3;have k4:dn z'.ws<=dn z.ws+1:=by rcases k4 with h | h <;> omega
    have g3:(0:Int)+1+4*c+2*(aF z'.p - aF z.p)<=kN G z:=g3
    show lC _ z (Qd runT (Qd runT (Qm d (n+1) z').1 .ay (Qm d (n+1) z').2).1 (.ae i) (Qd runT (Qm d (n+1) z').1 .ay (Qm d (n+1) z').2).2)
    cases hd:z'.k.due[n+1]? with
    | none =>
      have hfi:Qm d (n+1) z'=(.nil,z'):=by unfold Qm;rw [hd]
      rw [hfi];refine ⟨⟨c,g2,?_⟩,by show 3*dn z'.ws+0<=3*dn z.ws+3*((z.k.due.length:Int) - n)+1;omega⟩
      show 1+Qy z' (i+1)+1+4*c+216*(Y7 z'.x - Y7 z.x)+2*(aF z'.p - aF z.p)<=_
      rw [hold,he,c3];omega
    | some t =>
      have hfi:Qm d (n+1) z'=(.thn (.at none .looks) (.aD d (n+1)),{ z' with k:={ z'.k with t:=t } }):=by unfold Qm;rw [hd]
      rw [hfi];refine ⟨⟨c,g2,?_⟩,by show 3*dn z'.ws+3*((z'.k.due.length:Int) - (n+1:Nat))<=3*dn z.ws+3*((z.k.due.length:Int) - n)+1;rw [k1];omega⟩
      have c5:Qy { z' with k:={ z'.k with t:=t } } (i+1)=Qy z' (i+1):=rfl
      show 41+41*((z'.k.due.length:Int) - ((n+1:Nat)+1))+1+Qy { z' with k:={ z'.k with t:=t } } (i+1)+1+4*c+216*(Y7 z'.x - Y7 z.x)+2*(aF z'.p - aF z.p)<=_
      rw [hold,he,c5,c3,k1];omega
   ·rw [e]
    obtain ⟨G',z'⟩:=r;simp only at g1 g2 g3 k1 k2 k3 k4 he c3 hn;have k4:dn z'.ws=dn z.ws:=by rcases k4 with h | h;exact h;exact absurd h.1 hn
    rw [Xt hn,Xt (by intro e;cases e),Xt (by intro e;cases e)];refine ⟨⟨c,g2,?_⟩,qtd k4 (by show 3*((z'.k.due.length:Int) - n)<=3*((z.k.due.length:Int) - n)+1;rw [k1];omega)⟩
    show kN G' z'+41*((z'.k.due.length:Int) - (n+1))+1+Qy z' (i+1)+1+4*c+216*(Y7 z'.x - Y7 z.x)+2*(aF z'.p - aF z.p)<=_
    rw [hold,he,c3,k1];omega
 | .ai .unlock,_,_,_,_ =>
   have e:Qw (.thn (.ai .unlock) (.ae i)) z=Q7 (i+1) (z.cZ { z.aU with who:=0 }):=rfl;rw [e];obtain ⟨s1,s2,s3,s4,s5⟩:=zt (i+1) (z.cZ { z.aU with who:=0 });obtain ⟨a,b⟩:=Nl (x:=z.x) (x':=(z.cZ { z.aU with who:=0 }).x) (s':={ z.aU with who:=0 }) hget rfl (by rw [<- hsh];rfl) rfl;have hr:Qy (z.cZ { z.aU with who:=0 }) (i+1)=Qy z (i+1):=Yh (by show (z.x.au.set _ _).length=_;rw [WS]) (fun _ _=>rfl);refine ⟨⟨0,by rw [s2];exact a,?_⟩,Zc s4 (by rw [s5];show (0:Int)<=0+1;decide)⟩
   rw [s2,s3,b]
   show _+216*(Y7 z.x+z.aU.ring.head - z.aU.ring.head - Y7 z.x)+2*(aF z.p - aF z.p)<=1+Qy z (i+1)
   omega
theorem U5 {s:ST} (hb:TB N z) (hf:rM s z.k z.x) (hm:mO s z=true) (hd:s≠.nil)
 (hO:∀ j e,vI s z.k=some (j,e)->∃ r,z.x.aa.recs[j]?=some r/\bA r.w=e) (hp:oQ s<=z.x.aa.count) (hP:jd z.x.aa.recs z.k.t) (hg:lD M z.x.aa.recs) (hM:0<=M/\M<4294967295):lC s z (Qw s z):=by
 match s,hf,hm,hO,hp with
 | .nil,_,_,_,_=>exact absurd rfl hd
 | .at none .enter,_,_,_,_=>exact lC.calm rfl rfl rfl (by show 2+Qy z 0+1<=3+Qy z 0;omega) (Zc rfl (by show (0:Int)<=0+1;decide))
 | .at none .gate,_,_,_,_ =>
   show lC _ z ((if z.x.f.closed=true then Yr 3 z else (.at none .tick,z)):ST × ZT)
   split
   ·exact lC.calm rfl rfl rfl (by have:=GD z 0;show (2:Int)+1<=2+Qy z 0;omega) (Zc rfl (by show (0:Int)<=0+1;decide))
   ·exact lC.calm rfl rfl rfl (by show 1+Qy z 0+1<=2+Qy z 0;omega) (Zc rfl (by show (0:Int)<=0+1;decide))
 | .at none .tick,_,_,_,_ =>
   obtain ⟨z1,hz1⟩:∃ z1:ZT,({ z with x:={ z.x with f:={ z.x.f with now:=z.x.f.now+1 } },k:={ z.k with now:=z.x.f.now+1 } }:ZT).note { bO with kind:=11,tick:=z.x.f.now+1 }=z1:=⟨_,rfl⟩;have e:Qw (.at none .tick) z=Q7 0 z1:=by rw [<- hz1];rfl
   obtain ⟨s1,s2,s3,s4,s5⟩:=zt 0 z1;rw [e];refine lC.calm (by rw [s2,<- hz1];rfl) (by rw [s2,<- hz1];rfl) (by rw [s3,<- hz1];rfl) ?_ (Zc (by rw [s4,<- hz1];rfl) (by rw [s5];show (0:Int)<=0+1;decide))
   have:Qy z1 0=Qy z 0:=by rw [<- hz1];rfl
   show _+1<=1+Qy z 0
   omega
 | .aP .leave1 .answer,_,_,_,_=>exact lC.calm rfl rfl rfl (by show (1:Int)+1<=2;decide) (Zc rfl (by show (0:Int)<=0+1;decide))
 | .ai .answer,_,_,_,_=>exact lC.calm rfl rfl rfl (by show (0:Int)+1<=1;decide) (Zc rfl (by show (0:Int)<=0+1;decide))
 | .thn X (.ae i),h,hm,hO,hp =>
   obtain ⟨h1,h2,_,hX⟩:=h;exact qzy hb h1 h2 hX hm hO hp hP hg hM
theorem zb0 {z z':ZT} {c:Int} (h:kz z.x z'.x c) (hk:z'.k=z.k) (hw:z'.ws=z.ws) (hl:z'.x.au.length=z.x.au.length) (s:ST):Yf s z'<=Yf s z+c/\0<=c:=by
 have hc0:0<=c:=by cases h <;> decide
 refine ⟨?_,hc0⟩
 have hr:∀ j,Qy z' j=Qy z j:=fun j=>Yh hl (fun _ _=>by rw [hw])
 unfold Yf;split
 case h_6 =>
  rename_i X i
  rw [hr];have hg:=fun G=>zbx h hk G
  have hp:=fun P=>zby h hk P
  have:Ca X z' i<=Ca X z i+c:=by
   unfold Ca;split
   case h_5=>rename_i P _ _;have:=hp P;rw [hw];omega
   case h_6=>rename_i G _ _;have:=hg G;rw [hk];omega
   all_goals (try rw [hw]);omega
  omega
 all_goals (try rw [hr]);omega
end
end
end Go.Proofs.YtcneeepdclgdcaaGreat
