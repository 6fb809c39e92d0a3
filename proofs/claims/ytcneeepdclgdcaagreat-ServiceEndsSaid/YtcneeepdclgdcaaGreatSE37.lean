import Derived.Test.YtcneeepdclgdcaaGreatSE36
set_option maxRecDepth 100000
set_option maxHeartbeats 4000000
namespace Go.Proofs.YtcneeepdclgdcaaGreat
open _root_.List renaming mem_of_getElem?->U1,getD_eq_getElem?_getD->U3,mem_or_eq_of_mem_set->U6,getElem?_eq_getElem->U8,getElem?_set->U9,getElem?_eq_some_iff->UB,eq_of_mem_replicate->UC,length_set->UD,replicate->UE,mem_iff_getElem?->UF,length_singleton->UG,length_append->UH,mem_map->UK
open _root_.Int renaming toNat_natCast->U2,eq_ofNat_of_zero_le->U4,le_trans->U5,le_refl->UI
open _root_.Option renaming isSome_iff_exists->U7
open _root_.Classical renaming byContradiction->UA
open _root_.Nat renaming add_assoc->UJ
set_option linter.all false
section
open Go.RowKit Go.Shelf
def Ai:ST->Xi->nY
 | .aO .rel .drop,k=>some (k.t.slot.toNat,6)
 | _,_=>none
def xG:ST->Int
 | .aj .drop=>1
 | _=>0
def IZ:ST->Xi->Prop
 | .at none .aQ,k=>bB k.aB=4
 | _,_=>True
def tJ:ST->ST
 | .thn (.thn (.thn G (.aF _ _)) .ay) (.ae _)=>G
 | _=>.nil
def uO (s:ST) (k:Xi):nY:=Ai (tJ s) k
def oJ (s:ST):Int:=xG (tJ s)
def yL (s:ST) (k:Xi):Prop:=IZ (tJ s) k
section
variable {z:ZT}
theorem KR (hs:Xh z.x.aa) (ev:Int) (he:ev=3\/ev=4\/ev=5):Xf none none z.x.aa (Qk ev z).1.x.aa 0:=by
 show Xf none none z.x.aa (z.x.aa.try z.k.t.slot z.k.aB ev).1 0
 rcases Z7 hs z.k.t.slot z.k.aB ev with ⟨t1,t2⟩ | ⟨t1,j,r,w',t2,t3,t4,t5,t6,t7,t8⟩
 ·exact Xf.same t2 rfl (.inl rfl)
 ·obtain ⟨_,_,g3,g4⟩:=AX t5 t6
  have hb:=sS r.w t5.w0 t5.ok
  have hst:(bB r.w=2\/bB r.w=3\/bB r.w=4)/\bB w'≠0:=by
   rw [g4];generalize bB r.w=s at *;generalize (decide (0<r.p) && !Xr r.w)=ag at *;have h0:=hb.1;have h6:=hb.2.1;have hs:s=0\/s=1\/s=2\/s=3\/s=4\/s=5\/s=6:=by omega
   clear g4 hb h0 h6 t5 t6 t8;revert g3
   rcases hs with rfl | rfl | rfl | rfl | rfl | rfl | rfl <;> rcases he with rfl | rfl | rfl <;> cases ag <;> decide
  rw [t7];refine ⟨?_,.other j r { r with w:=w' } t3 (by omega) rfl (.inl rfl),zk (r':={ r with w:=w' }) t3 t5 t6,zz (r':={ r with w:=w' }) t3 t5 t6 (.inl rfl)⟩
  show z.x.aa.count - (Ja (z.x.aa.recs.set j { r with w:=w' }):Int)=_
  rw [Dn t3 (by omega) (by show bB w'≠0;exact hst.2)];omega
theorem qvy (hs:Xh z.x.aa) (h4:bB z.k.aB=4):((Qk 9 z).2=true->Xf none (some (z.k.t.slot.toNat,6)) z.x.aa (Qk 9 z).1.x.aa 0)/\((Qk 9 z).2≠true->(Qk 9 z).1.x.aa=z.x.aa):=by
 rcases Z7 hs z.k.t.slot z.k.aB 9 with ⟨t1,t2⟩ | ⟨t1,j,r,w',t2,t3,t4,t5,t6,t7,t8⟩
 ·refine ⟨fun h=>absurd ?_ t1,fun _=>t2⟩
  have h:((z.x.aa.try z.k.t.slot z.k.aB 9).2.2 == 0)=true:=h;simpa using h
 ·refine ⟨fun _=>?_,fun h=>absurd (show ((z.x.aa.try z.k.t.slot z.k.aB 9).2.2 == 0)=true by simpa using t1) h⟩
  obtain ⟨_,_,g3,g4⟩:=AX t5 t6;have h4:bB r.w=4:=by rw [t4];exact h4
  rw [h4] at g4;have g4:bB w'=6:=g4
  show Xf none _ z.x.aa (z.x.aa.try z.k.t.slot z.k.aB 9).1 0
  rw [t7];refine ⟨?_,.other j r { r with w:=w' } t3 (by omega) rfl (.inr ⟨6,by rw [t2,U2],g4,.inr (.inr rfl)⟩),zk (r':={ r with w:=w' }) t3 t5 t6,zz (r':={ r with w:=w' }) t3 t5 t6 (.inl rfl)⟩
  show z.x.aa.count - (Ja (z.x.aa.recs.set j { r with w:=w' }):Int)=_
  rw [Dn t3 (by omega) (by show bB w'≠0;omega)];omega
structure zN (G:ST) (z:ZT) (r:ST × ZT):Prop where
 sl:Xf (Ai G z.k) (Ai r.1 r.2.k) z.x.aa r.2.x.aa (xG r.1 - xG G)
 fin:IZ r.1 r.2.k
theorem gSl {G:ST} (hs:Xh z.x.aa) (hG:nX G z.k):IZ G z.k->(∀ j e,Ai G z.k=some (j,e)->∃ r,z.x.aa.recs[j]?=some r/\bB r.w=e)->xG G<=z.x.aa.count->zN G z (St.run runT Q6 G z):=by
 match G,hG with
 | .at none .looks,hG =>
   intro hf hO hp
   show zN _ z ((if (Qs 3 z).2=true then (.at none .bE,(Qs 3 z).1) else (.nil,(Qs 3 z).1)):ST × ZT)
   split <;> exact ⟨Xf.same rfl rfl (.inl rfl),trivial⟩
 | .at none .bE,hG =>
   intro hf hO hp;have h:=KR hs 4 (.inr (.inl rfl))
   show zN _ z ((if (Qk 4 z).2=true then (.thn (.aj (.put ⟨z.k.t.id,z.k.t.gen,z.k.t.dl,z.k.now⟩)) .bD,(Qk 4 z).1.note { bL with kind:=5,id:=z.k.t.id,gen:=z.k.t.gen,dl:=z.k.t.dl,tick:=z.k.now }) else (.at none .looks,(Qk 4 z).1)):ST × ZT)
   split
   ·exact ⟨h,trivial⟩
   ·exact ⟨h,trivial⟩
 | .thn (.aj (.put f)) .bD,hG =>
   intro hf hO hp;exact ⟨Xf.same rfl rfl (.inl rfl),trivial⟩
 | .at none .behind,hG =>
   intro hf hO hp
   show zN _ z ((if bB (z.x.aa.word z.k.t.slot)≠4\/Xv (z.x.aa.word z.k.t.slot)≠z.k.t.gen then (St.nil,({ z with k:={ z.k with aB:=z.x.aa.word z.k.t.slot } }:ZT))
    else if 0<z.k.t.per/\Xr (z.x.aa.word z.k.t.slot)=false/\z.k.t.dl+z.k.t.per<18446744073709551616 then (.at none (.aY (z.k.t.dl+z.k.t.per)),{ z with k:={ z.k with aB:=z.x.aa.word z.k.t.slot } }) else (.at none .aQ,{ z with k:={ z.k with aB:=z.x.aa.word z.k.t.slot } })):ST × ZT)
   split
   ·exact ⟨Xf.same rfl rfl (.inl rfl),trivial⟩
   ·next h =>
    split
    ·exact ⟨Xf.same rfl rfl (.inl rfl),trivial⟩
    ·exact ⟨Xf.same rfl rfl (.inl rfl),by show bB (z.x.aa.word z.k.t.slot)=4;omega⟩
 | .at none (.aY next),hG =>
   intro hf hO hp;have h:=KR hs 5 (.inr (.inr rfl))
   show zN _ z ((if (Qk 5 z).2=true then (.nil,jy { (Qk 5 z).1 with k:={ z.k with t:={ z.k.t with gen:=z.k.t.gen+1,dl:=next } } }) else (.at none .behind,(Qk 5 z).1)):ST × ZT)
   split
   ·exact ⟨h,trivial⟩
   ·exact ⟨h,trivial⟩
 | .at none .aQ,hG =>
   intro hf hO hp;obtain ⟨h1,h2⟩:=qvy hs (show bB z.k.aB=4 from hf)
   show zN _ z ((if (Qk 9 z).2=true then (.aO .rel .drop,if 0<z.k.t.per/\Xr z.k.aB=false then (Qk 9 z).1.note { bL with kind:=14,id:=z.k.t.id,gen:=z.k.t.gen } else (Qk 9 z).1) else (.at none .behind,(Qk 9 z).1)):ST × ZT)
   split
   ·next h =>
    have h1:=h1 h;refine ⟨?_,trivial⟩
    show Xf none (some ((if _ then _ else _:ZT).k.t.slot.toNat,6)) _ (if _ then _ else _:ZT).x.aa 0
    split <;> exact h1
   ·next h=>exact ⟨Xf.same (h2 h) rfl (.inl rfl),trivial⟩
 | .aO .rel .drop,hG =>
   intro hf hO hp;have hsl:0<=z.k.t.slot:=hG;obtain ⟨r,hr,he⟩:=hO _ _ rfl;have hro:=hs.recs r (U1 hr);obtain ⟨j,hj⟩:=U4 hsl;rw [hj,U2] at hr;obtain ⟨w',hn,hst⟩:=AV (ev:=10) (p:=decide (0<r.p)) hro (by decide) (by decide) (by rw [he];rfl) (by rw [he];rfl);have hst:bB w'=0:=by rw [he] at hst;exact hst
   have e1:(Q6 .rel z).x.aa={ z.x.aa with recs:=z.x.aa.recs.set j { r with w:=w' } }:=by
    show (z.x.aa.try z.k.t.slot (z.x.aa.word z.k.t.slot) 10).1=_
    rw [hj,AL hr hn]
   refine ⟨?_,trivial⟩
   show Xf (some (z.k.t.slot.toNat,6)) none z.x.aa (Q6 .rel z).x.aa (1 - 0)
   rw [e1];refine ⟨?_,.mine j 6 { r with w:=w' } (by rw [hj,U2]) rfl rfl,zk (r':={ r with w:=w' }) hr hro hn,zz (r':={ r with w:=w' }) hr hro hn (.inl rfl)⟩
   show z.x.aa.count - (Ja (z.x.aa.recs.set j { r with w:=w' }):Int)=_
   rw [KD hr (by omega) (by show bB w'=0;exact hst)];omega
 | .aj .drop,hG =>
   intro hf hO hp;refine ⟨?_,trivial⟩
   show Xf none none z.x.aa z.x.aa.drop.1 (0 - 1)
   have hp:1<=z.x.aa.count:=hp;unfold Qj.drop;rw [if_pos (by omega)];exact ⟨by show z.x.aa.count - 1 - (Ja z.x.aa.recs:Int)=_;omega,.calm rfl (.inl rfl),Av rfl,Dz rfl⟩
end
structure jv (s:ST) (z:ZT) (r:ST × ZT):Prop where
 sl:Xf (uO s z.k) (uO r.1 r.2.k) z.x.aa r.2.x.aa (oJ r.1 - oJ s)
 fin:yL r.1 r.2.k
def uF (s:ST):Prop:=(∀ k,uO s k=none)/\oJ s=0/\∀ k,yL s k
theorem clean_nil {s:ST} (h:tJ s=.nil):uF s:=by
 unfold uF uO oJ yL;rw [h];exact ⟨fun _=>rfl,rfl,fun _=>trivial⟩
theorem qog {s:ST} (h:tJ s=.at none .looks):uF s:=by
 unfold uF uO oJ yL;rw [h];exact ⟨fun _=>rfl,rfl,fun _=>trivial⟩
theorem SE (Y:ST) (m:MT) (i:Nat) (h:m≠.ay):tJ (.thn (.thn Y m) (.ae i))=.nil:=by
 unfold tJ;split
 ·next h'=>cases h';exact absurd rfl h
 ·rfl
section
variable {z:ZT}
theorem jv.clean {s:ST} {r:ST × ZT} (h1:uF s) (h2:uF r.1) (h3:r.2.x.aa=z.x.aa):jv s z r:=by
 refine ⟨?_,h2.2.2 _⟩
 rw [h1.1,h2.1,h1.2.1,h2.2.1];exact Xf.same h3 rfl (.inl rfl)
theorem jv.tried {s:ST} {r:ST × ZT} (h1:uF s) (h2:uF r.1) (h3:Xf none none z.x.aa r.2.x.aa 0):jv s z r:=by
 refine ⟨?_,h2.2.2 _⟩
 rw [h1.1,h2.1,h1.2.1,h2.2.1];exact h3
theorem OE (i:Nat) (z:ZT):uF (Xa i z).1/\(Xa i z).2.x.aa=z.x.aa:=by
 unfold Xa;split <;> exact ⟨clean_nil rfl,rfl⟩
theorem Kk (n:Int) (d i:Nat) (z':ZT):uF (Qe runT (Qe runT (Q5 n z') (.ai d) z').1 (.ae i) (Qe runT (Q5 n z') (.ai d) z').2).1/\(Qe runT (Qe runT (Q5 n z') (.ai d) z').1 (.ae i) (Qe runT (Q5 n z') (.ai d) z').2).2.x.aa=z'.x.aa:=by
 by_cases h:n<=0
 ·rw [FD h];exact ⟨clean_nil rfl,rfl⟩
 ·rw [Ap h];exact ⟨clean_nil rfl,rfl⟩
theorem q5x {X:ST} {i:Nat} (hs:Xh z.x.aa) (hX:kG X z.k z.x i):yL (.thn X (.ae i)) z.k->(∀ j e,uO (.thn X (.ae i)) z.k=some (j,e)->∃ r,z.x.aa.recs[j]?=some r/\bB r.w=e)->oJ (.thn X (.ae i))<=z.x.aa.count->jv (.thn X (.ae i)) z (Qy (.thn X (.ae i)) z):=by
 match X,hX with
 | .at (some .lock) (.dH d),_=>exact fun _ _ _=>jv.clean (clean_nil rfl) (clean_nil rfl) rfl
 | .at none (.bX d),_ =>
   intro _ _ _;have e:Qy (.thn (.at none (.bX d)) (.ae i)) z=Qe runT ((if z.aW.ring.tail - z.aW.ring.head<=0 then J0 d z else (.thn (Q5 (z.aW.ring.tail - z.aW.ring.head) z) (.ai d),z)):ST × ZT).1 (.ae i) ((if z.aW.ring.tail - z.aW.ring.head<=0 then J0 d z else (.thn (Q5 (z.aW.ring.tail - z.aW.ring.head) z) (.ai d),z)):ST × ZT).2:=rfl;rw [e];split
   ·exact jv.clean (clean_nil rfl) (clean_nil rfl) rfl
   ·exact jv.clean (clean_nil rfl) (clean_nil (SE _ _ _ (by intro h;cases h))) rfl
 | .thn (.aj (.bG d)) (.aL e),_ =>
   intro _ _ _;have e2:Qy (.thn (.thn (.aj (.bG d)) (.aL e)) (.ae i)) z=Qe runT (runT (.aL e) (Q6 (.bG d) z)).1 (.ae i) (runT (.aL e) (Q6 (.bG d) z)).2:=rfl;rw [e2];have hsl:(Q6 (.bG d) z).x.aa=z.x.aa:=rfl;generalize Q6 (.bG d) z=w at hsl;have e3:runT (.aL e) w=(match w.k.due[0]? with | none=>((.aj .unlock,w):ST × ZT) | some _=>(.thn (Qo e 0 w).1 .ay,(Qo e 0 w).2)):=rfl;rw [e3];cases hd:w.k.due[0]? with
   | none=>exact jv.clean (clean_nil rfl) (clean_nil rfl) hsl
   | some t =>
     have hf:Qo e 0 w=(.thn (.at none .looks) (.aF e 0),{ w with k:={ w.k with t:=t } }):=by unfold Qo;rw [hd]
     rw [hf];exact jv.clean (clean_nil rfl) (qog rfl) hsl
 | .thn (.at (some (.ready j)) (.bI n)) (.ai d),_ =>
   intro _ _ _;obtain ⟨z',hz'⟩:∃ z':ZT,{ (z.dh { z.aW with ring:=(J3 z.aW.ring).1 }) with k:={ z.k with t:=(J3 z.aW.ring).2.1 } }=z':=⟨_,rfl⟩;have hsl:z'.x.aa=z.x.aa:=by rw [<- hz'];rfl
   have e:Qy (.thn (.thn (.at (some (.ready j)) (.bI n)) (.ai d)) (.ae i)) z=Qe runT (Qe runT (if z'.k.t.slot<0 then (Q5 (n - 1) z',z') else ((.thn (.at none .bA) (.ax n),z'):ST × ZT)).1 (.ai d) (if z'.k.t.slot<0 then (Q5 (n - 1) z',z') else ((.thn (.at none .bA) (.ax n),z'):ST × ZT)).2).1 (.ae i) (Qe runT (if z'.k.t.slot<0 then (Q5 (n - 1) z',z') else ((.thn (.at none .bA) (.ax n),z'):ST × ZT)).1 (.ai d) (if z'.k.t.slot<0 then (Q5 (n - 1) z',z') else ((.thn (.at none .bA) (.ax n),z'):ST × ZT)).2).2:=by rw [<- hz'];rfl
   rw [e];split
   ·obtain ⟨a,b⟩:=Kk (n - 1) d i z'
    exact jv.clean (clean_nil rfl) a (b.trans hsl)
   ·exact jv.clean (clean_nil rfl) (clean_nil rfl) hsl
 | .thn (.thn (.at none .bA) (.ax n)) (.ai d),_ =>
   intro _ _ _;have e1:runT .bA z=((if (Qs 2 z).2=true then (.at none .aI,(Qs 2 z).1) else (.nil,(Qs 2 z).1)):ST × ZT):=rfl;obtain ⟨r,hr⟩:∃ r,runT .bA z=r:=⟨_,rfl⟩;have e:Qy (.thn (.thn (.thn (.at none .bA) (.ax n)) (.ai d)) (.ae i)) z=Qe runT (Qe runT (Qe runT r.1 (.ax n) r.2).1 (.ai d) (Qe runT r.1 (.ax n) r.2).2).1 (.ae i) (Qe runT (Qe runT r.1 (.ax n) r.2).1 (.ai d) (Qe runT r.1 (.ax n) r.2).2).2:=by rw [<- hr];rfl
   have hcase:(r.1=.nil\/r.1=.at none .aI)/\r.2.x.aa=z.x.aa:=by
    rw [<- hr,e1];split
    ·exact ⟨.inr rfl,rfl⟩
    ·exact ⟨.inl rfl,rfl⟩
   rw [e];obtain ⟨r1,r2⟩:=r;obtain ⟨hc | hc,hsl⟩:=hcase
   ·obtain rfl:r1=.nil:=hc
    obtain ⟨a,b⟩:=Kk (n - 1) d i r2;exact jv.clean (clean_nil rfl) a (b.trans hsl)
   ·obtain rfl:r1=.at none .aI:=hc
    exact jv.clean (clean_nil rfl) (clean_nil rfl) hsl
 | .thn (.thn (.at none .aI) (.ax n)) (.ai d),_ =>
   intro _ _ _;have h:=KR hs 3 (.inl rfl);have e1:runT .aI z=((if (Qk 3 z).2=true then (.nil,jy (Qk 3 z).1) else (Qx (Qk 3 z).1,(Qk 3 z).1)):ST × ZT):=rfl;obtain ⟨r,hr⟩:∃ r,runT .aI z=r:=⟨_,rfl⟩;have e:Qy (.thn (.thn (.thn (.at none .aI) (.ax n)) (.ai d)) (.ae i)) z=Qe runT (Qe runT (Qe runT r.1 (.ax n) r.2).1 (.ai d) (Qe runT r.1 (.ax n) r.2).2).1 (.ae i) (Qe runT (Qe runT r.1 (.ax n) r.2).1 (.ai d) (Qe runT r.1 (.ax n) r.2).2).2:=by rw [<- hr];rfl
   have hcase:(r.1=.nil\/r.1=.at none .bA)/\Xf none none z.x.aa r.2.x.aa 0:=by
    rw [<- hr,e1];split
    ·exact ⟨.inl rfl,h⟩
    ·refine ⟨?_,h⟩
     show Qx _=_\/Qx _=_
     unfold Qx;split
     ·exact .inl rfl
     ·exact .inr rfl
   rw [e];obtain ⟨r1,r2⟩:=r;obtain ⟨hc | hc,hsl⟩:=hcase
   ·obtain rfl:r1=.nil:=hc
    obtain ⟨a,b⟩:=Kk (n - 1) d i r2;refine jv.tried (clean_nil rfl) a ?_
    show Xf none none _ (Qe runT (Qe runT (Q5 (n - 1) r2) (.ai d) r2).1 (.ae i) (Qe runT (Q5 (n - 1) r2) (.ai d) r2).2).2.x.aa 0
    rw [b];exact hsl
   ·obtain rfl:r1=.at none .bA:=hc
    exact jv.tried (clean_nil rfl) (clean_nil rfl) hsl
 | .thn (.thn G (.aF d n)) .ay,hX =>
   obtain ⟨_,_,_,_,hG⟩:=hX;intro hf hO hp;have g:=gSl hs hG hf hO hp;obtain ⟨r,hr⟩:∃ r,St.run runT Q6 G z=r:=⟨_,rfl⟩;rw [hr] at g;have e:Qy (.thn (.thn (.thn G (.aF d n)) .ay) (.ae i)) z=Qe runT (Qe runT (Qe runT r.1 (.aF d n) r.2).1 .ay (Qe runT r.1 (.aF d n) r.2).2).1 (.ae i) (Qe runT (Qe runT r.1 (.aF d n) r.2).1 .ay (Qe runT r.1 (.aF d n) r.2).2).2:=by rw [<- hr];rfl
   rw [e];obtain ⟨G',z'⟩:=r;by_cases hn:G'=.nil
   ·subst hn
    have g1:Xf (Ai G z.k) none z.x.aa z'.x.aa (0 - xG G):=g.sl
    show jv _ z (Qe runT (Qe runT (Qo d (n+1) z').1 .ay (Qo d (n+1) z').2).1 (.ae i) (Qe runT (Qo d (n+1) z').1 .ay (Qo d (n+1) z').2).2)
    cases hd:z'.k.due[n+1]? with
    | none =>
      have hfi:Qo d (n+1) z'=(.nil,z'):=by unfold Qo;rw [hd]
      rw [hfi];exact ⟨g1,trivial⟩
    | some t =>
      have hfi:Qo d (n+1) z'=(.thn (.at none .looks) (.aF d (n+1)),{ z' with k:={ z'.k with t:=t } }):=by unfold Qo;rw [hd]
      rw [hfi];exact ⟨g1,trivial⟩
   ·rw [Xx hn,Xx (by intro e;cases e),Xx (by intro e;cases e)]
    exact ⟨g.sl,g.fin⟩
 | .aj .unlock,_ =>
   intro _ _ _;obtain ⟨a,b⟩:=OE (i+1) (z.dh { z.aW with who:=0 });have e:Qy (.thn (.aj .unlock) (.ae i)) z=Xa (i+1) (z.dh { z.aW with who:=0 }):=rfl;rw [e];exact jv.clean (clean_nil rfl) a b
theorem Mc {s:ST} (hs:Xh z.x.aa) (h:qT s z.k z.x):yL s z.k->(∀ j e,uO s z.k=some (j,e)->∃ r,z.x.aa.recs[j]?=some r/\bB r.w=e)->oJ s<=z.x.aa.count->jv s z (Qy s z):=by
 match s,h with
 | .nil,_=>exact fun _ _ _=>jv.clean (clean_nil rfl) (clean_nil rfl) rfl
 | .at none .enter,_=>exact fun _ _ _=>jv.clean (clean_nil rfl) (clean_nil rfl) rfl
 | .at none .gate,_ =>
   intro _ _ _
   show jv _ z ((if z.x.f.closed=true then Ys 3 z else (.at none .tick,z)):ST × ZT)
   split <;> exact jv.clean (clean_nil rfl) (clean_nil rfl) rfl
 | .at none .tick,_ =>
   intro _ _ _;obtain ⟨a,b⟩:=OE 0 (({ z with x:={ z.x with f:={ z.x.f with now:=z.x.f.now+1 } },k:={ z.k with now:=z.x.f.now+1 } }:ZT).note { bL with kind:=11,tick:=z.x.f.now+1 });exact jv.clean (clean_nil rfl) a b
 | .aO .leave1 .answer,_=>exact fun _ _ _=>jv.clean (clean_nil rfl) (clean_nil rfl) rfl
 | .aj .answer,_=>exact fun _ _ _=>jv.clean (clean_nil rfl) (clean_nil rfl) rfl
 | .thn X (.ae i),h =>
   obtain ⟨_,_,_,hX⟩:=h;exact q5x hs hX
end
def xx:SS->nY
 | .thn (.aO (.release i) .drop) (.aA _)=>some (i.toNat,5)
 | _=>none
def tK:SS->Int
 | .thn (.aj .drop) (.aA _)=>1
 | _=>0
def Da:SS->Yw->Prop
 | .thn (.at none (.aC _)) (.aA _),k=>bB k.aB=2\/bB k.aB=3
 | .thn (.aO (.release i) .drop) (.aA _),_=>0<=i
 | _,_=>True
structure MK (s:SS) (z:ZS) (r:SS × ZS):Prop where
 sl:Xf (xx s) (xx r.1) z.x.aa r.2.x.aa (tK r.1 - tK s)
 fin:Da r.1 r.2.k
section
variable {z:ZS}
theorem zr (i:Int) (z:ZS):xx (Zz i z)=none/\tK (Zz i z)=0/\∀ k,Da (Zz i z) k:=by
 unfold Zz sP;split <;> exact ⟨rfl,rfl,fun _=>trivial⟩
theorem I8 {s:SS} (hs:Xh z.x.aa) (hf:xk s z.k):Da s z.k->(∀ j e,xx s=some (j,e)->∃ r,z.x.aa.recs[j]?=some r/\bB r.w=e)->tK s<=z.x.aa.count->MK s z (stepS s z):=by
 have hsl:∀ (i:Int) (w:ZS) (o:nY) (d:Int),Xf o none z.x.aa w.x.aa d->Xf o (xx (Zz i w)) z.x.aa w.x.aa (tK (Zz i w) - (-d)):=fun i w o d h=>by
  obtain ⟨a,b,_⟩:=zr i w;rw [a,b];have:(0 - -d:Int)=d:=by omega
  rw [this];exact h
 match s,hf with
 | .nil,_=>exact fun _ _ _=>⟨Xf.same rfl rfl (.inl rfl),trivial⟩
 | .at none .shuts,_ =>
   intro _ _ _
   show MK _ z ((if z.x.f.closed=true then (.aj .aS,{ (z.note { bL with kind:=9,err:=3 }) with k:={ z.k with err:=3,ok:=false,fq:=false } }) else (.at (some .inside) .bO,({ z with x:={ z.x with f:={ z.x.f with closed:=true } } }:ZS).note { bL with kind:=10 })):SS × ZS)
   split <;> exact ⟨Xf.same rfl rfl (.inl rfl),trivial⟩
 | .at (some .inside) .bO,_ =>
   intro _ _ _;obtain ⟨a,b,c⟩:=zr 0 z;have e:stepS (.at (some .inside) .bO) z=(Zz 0 z,z):=rfl;rw [e];exact ⟨Xf.same rfl (by show tK (Zz 0 z) - 0=0;rw [b];rfl) (.inr a),c _⟩
 | .at (some .idle) .cO,_=>exact fun _ _ _=>⟨Xf.same rfl rfl (.inl rfl),trivial⟩
 | .aj .aS,_=>exact fun _ _ _=>⟨Xf.same rfl rfl (.inl rfl),trivial⟩
 | .thn (.aj .dC) .waits,_=>exact fun _ _ _=>⟨Xf.same rfl rfl (.inl rfl),trivial⟩
 | .thn (.at none (.bH i)) (.aA j),_ =>
   intro _ _ _;by_cases h:bB (z.x.aa.word i)=2\/bB (z.x.aa.word i)=3
   ·have e:stepS (.thn (.at none (.bH i)) (.aA j)) z=(.thn (.at none (.aC i)) (.aA j),Yd i z):=by
     show Qe Xy (if bB (z.x.aa.word i)=2\/bB (z.x.aa.word i)=3 then ((.at none (.aC i),Yd i z):SS × ZS) else (.nil,Yd i z)).1 (.aA j) (if bB (z.x.aa.word i)=2\/bB (z.x.aa.word i)=3 then ((.at none (.aC i),Yd i z):SS × ZS) else (.nil,Yd i z)).2=_
     rw [if_pos h];rfl
    rw [e];exact ⟨Xf.same rfl rfl (.inl rfl),h⟩
   ·have e:stepS (.thn (.at none (.bH i)) (.aA j)) z=(Zz (j+1) (Yd i z),Yd i z):=by
     show Qe Xy (if bB (z.x.aa.word i)=2\/bB (z.x.aa.word i)=3 then ((.at none (.aC i),Yd i z):SS × ZS) else (.nil,Yd i z)).1 (.aA j) (if bB (z.x.aa.word i)=2\/bB (z.x.aa.word i)=3 then ((.at none (.aC i),Yd i z):SS × ZS) else (.nil,Yd i z)).2=_
     rw [if_neg h];rfl
    rw [e];obtain ⟨a,b,c⟩:=zr (j+1) (Yd i z);exact ⟨Xf.same rfl (by show tK (Zz (j+1) (Yd i z)) - 0=0;rw [b];rfl) (.inr a),c _⟩
 | .thn (.at none (.aC i)) (.aA j),hf =>
   intro hfin _ _;have pJ:bB z.k.aB=2\/bB z.k.aB=3:=hfin;rcases Z7 hs i z.k.aB 6 with ⟨t1,t2⟩ | ⟨t1,b,r,w',t2,t3,t4,t5,t6,t7,t8⟩
   ·have e:stepS (.thn (.at none (.aC i)) (.aA j)) z=(.thn (sP i) (.aA j),{ z with x:={ z.x with aa:=(z.x.aa.try i z.k.aB 6).1 } }):=by
     show Qe Xy (Xy (.aC i) z).1 (.aA j) (Xy (.aC i) z).2=_
     have e1:Xy (.aC i) z=(sP i,{ z with x:={ z.x with aa:=(z.x.aa.try i z.k.aB 6).1 } }):=by
      dsimp only [Xy];rw [if_pos t1]
     rw [e1];rfl
    rw [e];exact ⟨Xf.same t2 rfl (.inl rfl),trivial⟩
   ·obtain ⟨z',e,hz⟩:∃ z',stepS (.thn (.at none (.aC i)) (.aA j)) z=(.thn (.aO (.release i) .drop) (.aA j),z')/\z'.x.aa=(z.x.aa.try i z.k.aB 6).1:=by
     refine ⟨(Xy (.aC i) z).2,?_,?_⟩
     ·show Qe Xy (Xy (.aC i) z).1 (.aA j) (Xy (.aC i) z).2=_
      have e1:(Xy (.aC i) z).1=.aO (.release i) .drop:=by dsimp only [Xy];rw [if_neg (fun h=>h t1)]
      rw [e1];rfl
     ·dsimp only [Xy];rw [if_neg (fun h=>h t1)];rfl
    rw [e];obtain ⟨g1,g2,g3⟩:=FT t5 (.inl rfl) t6;refine ⟨?_,by show 0<=i;omega⟩
    show Xf none (some (i.toNat,5)) z.x.aa z'.x.aa (0 - 0)
    rw [hz,t7];refine ⟨?_,.other b r { r with w:=w' } t3 (by omega) rfl (.inr ⟨5,by rw [t2,U2],g3 rfl,.inr (.inl rfl)⟩),zk (r':={ r with w:=w' }) t3 t5 t6,zz (r':={ r with w:=w' }) t3 t5 t6 (.inl rfl)⟩
    show z.x.aa.count - (Ja (z.x.aa.recs.set b { r with w:=w' }):Int)=_
    rw [Dn t3 (by omega) (by show bB w'≠0;exact g2)];omega
 | .thn (.aO (.release i) .drop) (.aA j),_ =>
   intro hfin hO _;have hi:0<=i:=hfin;obtain ⟨r,hr,he⟩:=hO _ _ rfl;have hro:=hs.recs r (U1 hr);obtain ⟨b,rfl⟩:=U4 hi;rw [U2] at hr;obtain ⟨w',hn,hst⟩:=AV (ev:=10) (p:=decide (0<r.p)) hro (by decide) (by decide) (by rw [he];rfl) (by rw [he];rfl);have hst:bB w'=0:=by rw [he] at hst;exact hst
   refine ⟨?_,trivial⟩
   show Xf (some ((b:Int).toNat,5)) none z.x.aa (z.x.aa.try b (z.x.aa.word b) 10).1 (1 - 0)
   rw [AL hr hn];refine ⟨?_,.mine b 5 { r with w:=w' } (by rw [U2]) rfl rfl,zk (r':={ r with w:=w' }) hr hro hn,zz (r':={ r with w:=w' }) hr hro hn (.inl rfl)⟩
   show z.x.aa.count - (Ja (z.x.aa.recs.set b { r with w:=w' }):Int)=_
   rw [KD hr (by omega) (by show bB w'=0;exact hst)];omega
 | .thn (.aj .drop) (.aA j),_ =>
   intro _ _ hp;have hp:1<=z.x.aa.count:=hp;have e:stepS (.thn (.aj .drop) (.aA j)) z=(Zz (j+1) (Yc .drop z),Yc .drop z):=rfl;rw [e];obtain ⟨a,b,c⟩:=zr (j+1) (Yc .drop z);refine ⟨?_,c _⟩
   show Xf none (xx (Zz (j+1) (Yc .drop z))) z.x.aa z.x.aa.drop.1 (tK (Zz (j+1) (Yc .drop z)) - 1)
   rw [a,b];unfold Qj.drop;rw [if_pos (by omega)];exact ⟨by show z.x.aa.count - 1 - (Ja z.x.aa.recs:Int)=_;omega,.calm rfl (.inl rfl),Av rfl,Dz rfl⟩
end
def tV:Wk->nY
 | .call s k=>tT s k
 | .turn s k=>uO s k
 | .dM s _=>xx s
def lH:Wk->Int
 | .call s k=>z5 s k
 | .turn s _=>oJ s
 | .dM s _=>tK s
def JD:Wk->Prop
 | .call _ _=>True
 | .turn s k=>yL s k
 | .dM s k=>Da s k
theorem FI (w:Wk):0<=lH w:=by
 cases w with
 | call s k =>
   show 0<=z5 s k
   unfold z5;split
   ·unfold Bn;split
    ·split <;> decide
    ·decide
   ·decide
   ·decide
 | turn s k=>show 0<=xG (tJ s);unfold xG;split <;> decide
 | dM s k=>show 0<=tK s;unfold tK;split <;> decide
structure oW (N:Nat) (S:SvS):Prop where
 cnt:S.z.x.aa.count=Ja S.z.x.aa.recs+Jq (S.all.map fun j=>lH j.w)
 own:rE (S.all.map fun j=>tV j.w) S.z.x.aa.recs
 fin:∀ (a:Nat) (j:Jw),S.all[a]?=some j->JD j.w
 gen:lC N S.z.x.aa.recs
section
variable {N:Nat} {S:SvS}
theorem q76 (h:oW N S) {a:Nat} {j:Jw} (ha:S.all[a]?=some j) (n':Int) {w':Wk} {z':ZF} (h1:Xf (tV j.w) (tV w') S.z.x.aa z'.x.aa (lH w' - lH j.w)) (h2:JD w'):oW (N+1) { S with all:=S.all.set a ⟨j.kb,n',w'⟩,z:=z' }:=by
 refine ⟨?_,?_,fun b jb hb=>?_,h1.gen N h.gen⟩
 ·show z'.x.aa.count=Ja z'.x.aa.recs+Jq ((S.all.set a ⟨j.kb,n',w'⟩).map fun j:Jw=>lH j.w)
  rw [qp (f:=fun j:Jw=>lH j.w) ha]
  show _=_+(_ - lH j.w+lH w')
  have:=h.cnt;have:=h1.cnt;omega
 ·show rE ((S.all.set a ⟨j.kb,n',w'⟩).map fun j:Jw=>tV j.w) z'.x.aa.recs
  rw [RI];exact h.own.uA (x9 ha) h1.uA
 ·rcases Ay hb with ⟨_,rfl⟩ | ⟨hne,hb⟩
  ·exact h2
  ·exact h.fin b jb hb
theorem q79 (hn:dN N S) (hl:qz S) (h:oW N S) {t:Th} (ht:t.here S) (hm:t.may S=true):oW (N+1) (t.step S):=by
 cases t with
 | eY a =>
   have ha:=Xd ht;have hm:(S.af a).w.may S.z=true:=hm;obtain ⟨hjn,_,_⟩:=hn.eT _ (U1 ha);have hO:∀ j e,tV (S.af a).w=some (j,e)->∃ r,S.z.x.aa.recs[j]?=some r/\bB r.w=e:=fun j e hj=>(h.own.own a j e (by rw [x9 ha,hj])).2
   have hp:lH (S.af a).w<=S.z.x.aa.count:=by
    have:=zy (f:=fun j:Jw=>lH j.w) (fun x=>FI x.w) ha;have:=h.cnt;omega
   have hfin:=h.fin a _ ha;have hgo:=hl.go a _ ha;have hs:=hn.eF.zn.core.aa;refine q76 h ha _ ?_ ?_
   ·cases hw:(S.af a).w with
    | call s k =>
      rw [hw] at hjn hO hp hgo;exact NH ⟨hn.eF.zn.core,hjn.wk,hjn.fit⟩ hgo.1 hO hp
    | turn s k =>
      rw [hw] at hjn hO hp hfin;exact (Mc (z:=⟨k,S.z.x,S.z.ws,S.z.p⟩) hs hjn.fit hfin hO hp).sl
    | dM s k =>
      rw [hw] at hjn hO hp hfin;exact (I8 (z:=⟨k,S.z.x,S.z.p⟩) hs hjn.fit hfin hO hp).sl
   ·cases hw:(S.af a).w with
    | call s k=>trivial
    | turn s k =>
      rw [hw] at hjn hO hp hfin;exact (Mc (z:=⟨k,S.z.x,S.z.ws,S.z.p⟩) hs hjn.fit hfin hO hp).fin
    | dM s k =>
      rw [hw] at hjn hO hp hfin;exact (I8 (z:=⟨k,S.z.x,S.z.p⟩) hs hjn.fit hfin hO hp).fin
 | gY i =>
   have hc:=Jo ht;have hcn:=hn.aP _ (U1 hc)
   show oW (N+1) { S with aP:=S.aP.set i ((S.aM i).step S.z).1,z:=((S.aM i).step S.z).2 }
   have e:((S.aM i).step S.z).2.x.aa=S.z.x.aa:=by
    generalize S.aM i=c at hcn;obtain ⟨wb,s,n,k⟩:=c;rcases hcn.fit with ⟨h1,_⟩ | ⟨h1,_⟩
    ·obtain rfl:s=J2:=h1
     rfl
    ·obtain rfl:s=.thn (.aj .jD) .takes:=h1
     rfl
   exact ⟨by show ((S.aM i).step S.z).2.x.aa.count=Ja ((S.aM i).step S.z).2.x.aa.recs+_;rw [e];exact h.cnt,by show rE _ ((S.aM i).step S.z).2.x.aa.recs;rw [e];exact h.own,h.fin,by show lC _ ((S.aM i).step S.z).2.x.aa.recs;rw [e];exact Av rfl _ h.gen⟩
theorem oW.mono {M:Nat} (h:oW N S) (hm:N<=M):oW M S:=⟨h.cnt,h.own,h.fin,fun r hr=>by have:=h.gen r hr;omega⟩
theorem q0e (th no:Int) (c:Q0):tV (Xw th no c)=none/\lH (Xw th no c)=0/\JD (Xw th no c):=by
 unfold Xw;split
 ·exact ⟨rfl,rfl,trivial⟩
 ·split
  ·exact ⟨rfl,rfl,trivial⟩
  ·unfold Yp
   split
   ·exact ⟨rfl,rfl,trivial⟩
   ·split <;> exact ⟨rfl,rfl,trivial⟩
theorem qzk (h:oW N S) (th:Int) (c:Q0) (kb:Nat):oW N (S.eD kb th c):=by
 obtain ⟨g1,g2,g3⟩:=q0e th (S.all.length+1) c;refine ⟨?_,?_,fun a j ha=>?_,h.gen⟩
 ·show S.z.x.aa.count=Ja S.z.x.aa.recs+Jq ((S.all++[_]).map fun j:Jw=>lH j.w)
  rw [KY,h.cnt]
  show _=_+(_+lH (Xw th (S.all.length+1) c))
  rw [g2];omega
 ·show rE ((S.all++[_]).map fun j:Jw=>tV j.w) S.z.x.aa.recs
  rw [List.map_append]
  show rE (_++[tV (Xw th (S.all.length+1) c)]) _
  rw [g1];exact h.own.snoc
 ·rcases DY ha with ⟨_,ha⟩ | ⟨_,rfl⟩
  ·exact h.fin a j ha
  ·exact g3
theorem sl0 (c:Cfg) (hk:c.ok=true):oW 0 (nk c):=by
 refine ⟨?_,⟨fun a k e ha=>(by cases ha),fun a b k e f ha=>(by cases ha)⟩,fun a j ha=>(by cases ha),fun r hr=>by
  rw [UC (show r∈UE c.cap.toNat Rec.zero from hr)]
  decide⟩
 show (0:Int)=Ja (UE c.cap.toNat Rec.zero)+0
 have:Ja (UE c.cap.toNat Rec.zero)=0:=by
  unfold Ja;rw [List.countP_eq_zero];intro r hr;rw [UC hr];decide
 rw [this];rfl
end
def jr (rs:List Rec) (t:Qp):Prop:=∀ r,0<=t.slot->rs[t.slot.toNat]?=some r->t.gen<=Xv r.w/\(Xv r.w=t.gen->r.p=t.per)
theorem jr.le {rs rs':List Rec} {t:Qp} (h:jr rs t) (hl:kR rs rs'):jr rs' t:=by
 intro r' h0 hr;obtain ⟨r,h1,h2,h3⟩:=hl.at_ _ r' hr;obtain ⟨h4,h5⟩:=h r h0 h1;exact ⟨by omega,fun e=>by rw [h3 (by omega),h5 (by omega)]⟩
def xm (rs:List Rec):Prop:=∀ r∈rs,0<=Xv r.w/\(Xv r.w=0->r.p=0)
theorem xm.le {rs rs':List Rec} (h:xm rs) (hl:kR rs rs'):xm rs':=by
 intro r' hr';obtain ⟨k,hk⟩:=UF.1 hr';obtain ⟨r,h1,h2,h3⟩:=hl.at_ k r' hk;obtain ⟨h4,h5⟩:=h r (U1 h1);exact ⟨by omega,fun e=>by rw [h3 (by omega),h5 (by omega)]⟩
theorem xm.zero {rs:List Rec} (h:xm rs):jr rs Qp.zero:=by
 intro r _ hr;obtain ⟨a,b⟩:=h r (U1 hr);exact ⟨a,b⟩
structure Ym (rs:List Rec) (au:List Qu) (ws:List Qg):Prop where
 g0:xm rs
 ring:∀ s∈au,∀ e∈s.ring.slots,jr rs e.v
 wh:∀ w∈ws,fQ (fun e=>jr rs e.v) w
theorem fQ.imp {P Q:gU->Prop} {w:Qg} (h:fQ P w) (hi:∀ e,P e->Q e):fQ Q w:=⟨fun l hl s hs e he=>hi e (h.1 l hl s hs e he),fun e he=>hi e (h.2 e he)⟩
theorem Ym.le {rs rs':List Rec} {au:List Qu} {ws:List Qg} (h:Ym rs au ws) (hl:kR rs rs'):Ym rs' au ws :=
 ⟨h.g0.le hl,fun s hs e he=>(h.ring s hs e he).le hl,fun w hw=>(h.wh w hw).imp fun e he=>jr.le he hl⟩
structure jY (z:ZT):Prop where
 all:Ym z.x.aa.recs z.x.au z.ws
 t:jr z.x.aa.recs z.k.t
 due:∀ t∈z.k.due,jr z.x.aa.recs t
theorem Ym.tY {rs:List Rec} {au:List Qu} {ws:List Qg} (h:Ym rs au ws) {i:Nat} {s:Qu} (hs:∀ e∈s.ring.slots,jr rs e.v):Ym rs (au.set i s) ws :=
 ⟨h.g0,fun a ha e he=>by
   rcases U6 ha with ha | rfl
   ·exact h.ring a ha e he
   ·exact hs e he,h.wh⟩
theorem Ym.setW {rs:List Rec} {au:List Qu} {ws:List Qg} (h:Ym rs au ws) {i:Nat} {w:Qg} (hw:fQ (fun e=>jr rs e.v) w):Ym rs au (ws.set i w) :=
 ⟨h.g0,h.ring,fun a ha=>by
   rcases U6 ha with ha | rfl
   ·exact h.wh a ha
   ·exact hw⟩
theorem Ym.aW {z:ZT} (h:Ym z.x.aa.recs z.x.au z.ws):∀ e∈z.aW.ring.slots,jr z.x.aa.recs e.v:=by
 intro e he;unfold ZT.aW at he;rw [U3] at he;cases hs:z.x.au[z.sh]? with
 | none =>
   rw [hs] at he;have he:e∈(Jj 1).slots:=he;unfold Jj at he;obtain ⟨i,_,rfl⟩:=UK.1 he;exact h.g0.zero
 | some s=>rw [hs] at he;exact h.ring s (U1 hs) e he
theorem Ym.xK {z:ZT} (h:Ym z.x.aa.recs z.x.au z.ws):fQ (fun e=>jr z.x.aa.recs e.v) z.wh:=by
 unfold ZT.wh;rw [U3];cases hs:z.ws[z.sh]? with
 | none=>exact ⟨fun l hl=>(by cases hl),fun e he=>(by cases he)⟩
 | some w=>exact h.wh w (U1 hs)
section
variable {z:ZT}
theorem jY.lV (h:jY z) {k:Xi} (ht:k.t=z.k.t) (hd:k.due=z.k.due):jY { z with k:=k }:=⟨h.all,by show jr _ k.t;rw [ht];exact h.t,by show ∀ t∈k.due,_;rw [hd];exact h.due⟩
theorem jY.note (h:jY z) (E:EvS):jY (z.note E):=⟨h.all,h.t,h.due⟩
theorem jY.aa (h:jY z) {s:Qj} (hl:kR z.x.aa.recs s.recs):jY { z with x:={ z.x with aa:=s } } :=
 ⟨h.all.le hl,h.t.le hl,fun t ht=>(h.due t ht).le hl⟩
theorem jY.Eb (h:jY z) {t:Qp} (ht:jr z.x.aa.recs t):jY { z with k:={ z.k with t:=t } }:=⟨h.all,ht,h.due⟩
theorem jY.arm (h:jY z):jY (jy z) :=
 (⟨h.all.setW (fQ.place h.all.xK (show jr z.x.aa.recs (mO z.wh z.k.t).v from h.t)),h.t,h.due⟩:jY { z with ws:=z.ws.set z.sh (z.wh.place (mO z.wh z.k.t)) }).note _
theorem q1y (hs:Xh z.x.aa) (ev:Int):kR z.x.aa.recs (Qk ev z).1.x.aa.recs:=by
 show kR z.x.aa.recs (z.x.aa.try z.k.t.slot z.k.aB ev).1.recs
 rcases Z7 hs z.k.t.slot z.k.aB ev with ⟨t1,t2⟩ | ⟨t1,j,r,w',t2,t3,t4,t5,t6,t7,t8⟩
 ·rw [t2];exact kR.refl _
 ·rw [t7];exact zz (r':={ r with w:=w' }) t3 t5 t6 (.inl rfl)
theorem jY.tried (h:jY z) (hs:Xh z.x.aa) (ev:Int):jY (Qk ev z).1:=h.aa (q1y hs ev)
theorem jY.fires (h:jY z) (d i:Nat):jY (Qo d i z).2:=by
 unfold Qo;split
 ·exact h
 ·next t ht=>exact h.Eb (h.due t (U1 ht))
theorem qtj (r:Qz):(∀ e∈(J3 r).1.slots,e∈r.slots\/e.v=Qp.zero)/\((∃ e∈r.slots,(J3 r).2.1=e.v)\/(J3 r).2.1=Qp.zero):=by
 unfold J3;split
 ·refine ⟨fun e he=>?_,?_⟩
  ·rcases U6 he with he | rfl
   ·exact .inl he
   ·exact .inr rfl
  ·show (∃ e∈r.slots,(r.slot r.head).v=e.v)\/(r.slot r.head).v=Qp.zero
   unfold Qz.slot;rw [U3];cases hg:r.slots[r.at r.head]? with
   | none=>exact .inr rfl
   | some e=>exact .inl ⟨e,U1 hg,rfl⟩
 ·exact ⟨fun e he=>.inl he,.inr rfl⟩
end
structure PZ (z:ZT):Prop where
 ok:Xh z.x.aa
 p:jY z
def FH:MT->Prop
 | .aY _=>False
 | _=>True
section
variable {z:ZT}
theorem PZ.tried (h:PZ z) (ev:Int):PZ (Qk ev z).1:=⟨(sK h.ok _ _ _).1,h.p.tried h.ok ev⟩
theorem PZ.note (h:PZ z) (E:EvS):PZ (z.note E):=⟨h.ok,h.p.note E⟩
theorem PZ.lV (h:PZ z) {k:Xi} (ht:k.t=z.k.t) (hd:k.due=z.k.due):PZ { z with k:=k }:=⟨h.ok,h.p.lV ht hd⟩
theorem PZ.fires (h:PZ z) (d i:Nat):PZ (Qo d i z).2:=⟨by unfold Qo;split <;> exact h.ok,h.p.fires d i⟩
theorem PZ.lM (h:PZ z) (i:Nat):PZ (Xa i z).2:=by
 unfold Xa;split
 ·exact ⟨h.ok,⟨h.p.all,h.p.t,fun t ht=>by cases ht⟩⟩
 ·exact h.lV rfl rfl
theorem PZ.dh (h:PZ z) {s:Qu} (hs:∀ e∈s.ring.slots,jr z.x.aa.recs e.v):PZ (z.dh s):=⟨h.ok,⟨h.p.all.tY hs,h.p.t,h.p.due⟩⟩
theorem PZ.run (m:MT) (h:PZ z) (hm:FH m):PZ (runT m z).2:=by
 cases m with
 | aY n=>exact hm.elim
 | enter=>exact ⟨h.ok,⟨h.p.all,h.p.t,h.p.due⟩⟩
 | gate =>
   show PZ ((if z.x.f.closed=true then Ys 3 z else (.at none .tick,z)):ST × ZT).2
   split
   ·exact (h.note _).lV rfl rfl
   ·exact h
 | tick =>
   have h1:PZ (({ z with x:={ z.x with f:={ z.x.f with now:=z.x.f.now+1 } },k:={ z.k with now:=z.x.f.now+1 } }:ZT).note { bL with kind:=11,tick:=z.x.f.now+1 }):=⟨h.ok,⟨h.p.all,h.p.t,h.p.due⟩⟩;exact h1.lM 0
 | ae i=>exact h.lM (i+1)
 | dH d=>exact h.dh (s:={ z.aW with who:=og z.aW.who z.k.th,turns:=nz z.aW.who z.aW.turns }) h.p.all.aW
 | bX d =>
   show PZ ((if z.aW.ring.tail - z.aW.ring.head<=0 then J0 d z else (.thn (Q5 (z.aW.ring.tail - z.aW.ring.head) z) (.ai d),z)):ST × ZT).2
   split <;> exact h
 | ai d=>exact h
 | aL d =>
   show PZ ((match z.k.due[0]? with | none=>(.aj .unlock,z) | some _=>(.thn (Qo d 0 z).1 .ay,(Qo d 0 z).2)):ST × ZT).2
   split
   ·exact h
   ·exact h.fires d 0
 | ay=>exact h
 | bI n =>
   obtain ⟨a,b⟩:=qtj z.aW.ring
   have h1:PZ ({ (z.dh { z.aW with ring:=(J3 z.aW.ring).1 }) with k:={ z.k with t:=(J3 z.aW.ring).2.1 } }:ZT):=by
    have h2:=h.dh (s:={ z.aW with ring:=(J3 z.aW.ring).1 }) (fun e he=>by
     rcases a e he with he | he
     ·exact h.p.all.aW e he
     ·rw [he];exact h.p.all.g0.zero)
    refine ⟨h2.ok,h2.p.Eb ?_⟩
    show jr z.x.aa.recs (J3 z.aW.ring).2.1
    rcases b with ⟨e,he,e2⟩ | e2
    ·rw [e2];exact h.p.all.aW e he
    ·rw [e2];exact h.p.all.g0.zero
   show PZ ((if _ then _ else _):ST × ZT).2
   split <;> exact h1
 | ax n=>exact h
 | bA =>
   show PZ ((if (Qs 2 z).2=true then (.at none .aI,(Qs 2 z).1) else (.nil,(Qs 2 z).1)):ST × ZT).2
   split <;> exact h.lV rfl rfl
 | aI =>
   show PZ ((if (Qk 3 z).2=true then (.nil,jy (Qk 3 z).1) else (Qx (Qk 3 z).1,(Qk 3 z).1)):ST × ZT).2
   split
   ·exact ⟨(h.tried 3).ok,(h.tried 3).p.arm⟩
   ·exact h.tried 3
 | aF d i=>exact h.fires d (i+1)
 | looks =>
   show PZ ((if (Qs 3 z).2=true then (.at none .bE,(Qs 3 z).1) else (.nil,(Qs 3 z).1)):ST × ZT).2
   split <;> exact h.lV rfl rfl
 | bE =>
   show PZ ((if (Qk 4 z).2=true then (.thn (.aj (.put ⟨z.k.t.id,z.k.t.gen,z.k.t.dl,z.k.now⟩)) .bD,(Qk 4 z).1.note { bL with kind:=5,id:=z.k.t.id,gen:=z.k.t.gen,dl:=z.k.t.dl,tick:=z.k.now }) else (.at none .looks,(Qk 4 z).1)):ST × ZT).2
   split
   ·exact (h.tried 4).note _
   ·exact h.tried 4
 | bD=>exact h
 | behind =>
   show PZ ((if bB (z.x.aa.word z.k.t.slot)≠4\/Xv (z.x.aa.word z.k.t.slot)≠z.k.t.gen then (St.nil,({ z with k:={ z.k with aB:=z.x.aa.word z.k.t.slot } }:ZT))
    else if 0<z.k.t.per/\Xr (z.x.aa.word z.k.t.slot)=false/\z.k.t.dl+z.k.t.per<18446744073709551616 then (.at none (.aY (z.k.t.dl+z.k.t.per)),{ z with k:={ z.k with aB:=z.x.aa.word z.k.t.slot } }) else (.at none .aQ,{ z with k:={ z.k with aB:=z.x.aa.word z.k.t.slot } })):ST × ZT).2
   split
   ·exact h.lV rfl rfl
   ·split <;> exact h.lV rfl rfl
 | aQ =>
   show PZ ((if (Qk 9 z).2=true then (.aO .rel .drop,if 0<z.k.t.per/\Xr z.k.aB=false then (Qk 9 z).1.note { bL with kind:=14,id:=z.k.t.id,gen:=z.k.t.gen } else (Qk 9 z).1) else (.at none .behind,(Qk 9 z).1)):ST × ZT).2
   split
   ·show PZ (if _ then _ else _)
    split
    ·exact (h.tried 9).note _
    ·exact h.tried 9
   ·exact h.tried 9
theorem PZ.DZ (h:PZ z) (next:Int) (hg:Xv z.k.aB=z.k.t.gen):PZ (runT (.aY next) z).2:=by
 show PZ ((if (Qk 5 z).2=true then (.nil,jy { (Qk 5 z).1 with k:={ z.k with t:={ z.k.t with gen:=z.k.t.gen+1,dl:=next } } }) else (.at none .behind,(Qk 5 z).1)):ST × ZT).2
 split
 ·next hb =>
  have ht:=h.tried 5
  have hp:jr (Qk 5 z).1.x.aa.recs { z.k.t with gen:=z.k.t.gen+1,dl:=next }:=by
   rcases Z7 h.ok z.k.t.slot z.k.aB 5 with ⟨t1,_⟩ | ⟨t1,j,r,w',t2,t3,t4,t5,t6,t7,t8⟩
   ·exact absurd (show (z.x.aa.try z.k.t.slot z.k.aB 5).2.2=0 by have hb:((z.x.aa.try z.k.t.slot z.k.aB 5).2.2 == 0)=true:=hb;simpa using hb) t1
   ·intro q h0 hq
    have hq:(z.x.aa.try z.k.t.slot z.k.aB 5).1.recs[z.k.t.slot.toNat]?=some q:=hq;rw [t7,t2,U2] at hq;have hq:(z.x.aa.recs.set j { r with w:=w' })[j]?=some q:=hq;rw [get_set_same t3] at hq;cases hq
    obtain ⟨a,b⟩:=h.p.t r h0 (by rw [t2,U2];exact t3);have hgr:Xv r.w=z.k.t.gen:=by rw [t4];exact hg
    have hgw:Xv w'=Xv r.w+1:=by
     have hb:=sS r.w t5.w0 t5.ok;rcases Y1 r.w 5 (decide (0<r.p)) t5.w0 t5.w1 t5.ok with ⟨_,h2⟩ | ⟨_,_,_,_,_,_,h7,_⟩
     ·rw [t6] at h2;simp only at h2;omega
     ·rw [t6] at h7;exact h7
    exact ⟨by show z.k.t.gen+1<=Xv w';omega,fun _=>b hgr⟩
  have h2:PZ ({ (Qk 5 z).1 with k:={ z.k with t:={ z.k.t with gen:=z.k.t.gen+1,dl:=next } } }:ZT):=⟨ht.ok,⟨ht.p.all,hp,ht.p.due⟩⟩;exact ⟨h2.ok,h2.p.arm⟩
 ·exact h.tried 5
theorem PZ.act (a:AT) (h:PZ z):PZ (Q6 a z):=by
 cases a with
 | leave1=>exact ⟨h.ok,⟨h.p.all,h.p.t,h.p.due⟩⟩
 | answer=>exact h.note _
 | unlock=>exact h.dh (s:={ z.aW with who:=0 }) h.p.all.aW
 | bG d =>
   obtain ⟨a,b⟩:=fQ.fH h.p.all.xK;refine ⟨h.ok,⟨h.p.all.setW a,h.p.t,fun t ht=>?_⟩⟩
   obtain ⟨e,he,rfl⟩:=UK.1 ht;exact b e he
 | put f=>exact ⟨h.ok,⟨h.p.all,h.p.t,h.p.due⟩⟩
 | rel =>
   refine ⟨(sK h.ok _ _ _).1,h.p.aa (s:=(z.x.aa.try z.k.t.slot (z.x.aa.word z.k.t.slot) 10).1) ?_⟩
   rcases Z7 h.ok z.k.t.slot (z.x.aa.word z.k.t.slot) 10 with ⟨t1,t2⟩ | ⟨t1,j,r,w',t2,t3,t4,t5,t6,t7,t8⟩
   ·rw [t2];exact kR.refl _
   ·rw [t7];exact zz (r':={ r with w:=w' }) t3 t5 t6 (.inl rfl)
 | drop =>
   refine ⟨(D5 h.ok).1,h.p.aa (s:=z.x.aa.drop.1) ?_⟩
   unfold Qj.drop;split <;> exact kR.refl _
end
theorem PZ.steps (s:ST) {z:ZT} (h:PZ z) (hs:s.allM FH (fun _=>True)):PZ (St.run runT Q6 s z).2 :=
 St.su (Y:=YT) (R:=fun z z'=>PZ z->PZ z') (fun _=>id) (fun _ _ _ a b h=>b (a h)) (fun m z hm h=>h.run m hm) (fun a z _ h=>h.act a) s z hs h
def Ak:ST->Xi->Prop
 | .at none (.aY _),k=>bB k.aB=4/\Xv k.aB=k.t.gen/\0<k.t.per/\Xr k.aB=false
 | .at none .aQ,k=>bB k.aB=4/\Xv k.aB=k.t.gen
 | _,_=>True
def Dg (s:ST) (k:Xi):Prop:=Ak (tJ s) k
def Ca (s:ST):Prop:=tJ s=.nil\/tJ s=.at none .looks
section
variable {z:ZT}
theorem QD (i:Nat) (z:ZT):Ca (Xa i z).1:=by
 unfold Xa;split <;> exact .inl rfl
theorem LA (n:Int) (d i:Nat) (z':ZT):Ca (Qe runT (Qe runT (Q5 n z') (.ai d) z').1 (.ae i) (Qe runT (Q5 n z') (.ai d) z').2).1:=by
 by_cases h:n<=0
 ·rw [FD h];exact .inl rfl
 ·rw [Ap h];exact .inl rfl
def Oe (s:ST) (z:ZT):Prop:=Ca (Qy s z).1\/∃ G d n i,s=.thn (.thn (.thn G (.aF d n)) .ay) (.ae i)/\(St.run runT Q6 G z).1≠.nil /\
 Qy s z=(.thn (.thn (.thn (St.run runT Q6 G z).1 (.aF d n)) .ay) (.ae i),(St.run runT Q6 G z).2)
theorem qyh {X:ST} {i:Nat} (hX:kG X z.k z.x i):Oe (.thn X (.ae i)) z:=by
 match X,hX with
 | .at (some .lock) (.dH d),_=>exact .inl (.inl rfl)
 | .at none (.bX d),_ =>
   refine .inl ?_
   have e:Qy (.thn (.at none (.bX d)) (.ae i)) z=Qe runT ((if z.aW.ring.tail - z.aW.ring.head<=0 then J0 d z else (.thn (Q5 (z.aW.ring.tail - z.aW.ring.head) z) (.ai d),z)):ST × ZT).1 (.ae i) ((if z.aW.ring.tail - z.aW.ring.head<=0 then J0 d z else (.thn (Q5 (z.aW.ring.tail - z.aW.ring.head) z) (.ai d),z)):ST × ZT).2:=rfl;rw [e];split
   ·exact .inl rfl
   ·exact .inl (SE _ _ _ (by intro h;cases h))
 | .thn (.aj (.bG d)) (.aL e),_ =>
   refine .inl ?_
   have e2:Qy (.thn (.thn (.aj (.bG d)) (.aL e)) (.ae i)) z=Qe runT (runT (.aL e) (Q6 (.bG d) z)).1 (.ae i) (runT (.aL e) (Q6 (.bG d) z)).2:=rfl;rw [e2];generalize Q6 (.bG d) z=w;have e3:runT (.aL e) w=(match w.k.due[0]? with | none=>((.aj .unlock,w):ST × ZT) | some _=>(.thn (Qo e 0 w).1 .ay,(Qo e 0 w).2)):=rfl;rw [e3];cases hd:w.k.due[0]? with
   | none=>exact .inl rfl
   | some t =>
     have hf:Qo e 0 w=(.thn (.at none .looks) (.aF e 0),{ w with k:={ w.k with t:=t } }):=by unfold Qo;rw [hd]
     rw [hf];exact .inr rfl
 | .thn (.at (some (.ready j)) (.bI n)) (.ai d),_ =>
   refine .inl ?_
   obtain ⟨z',hz'⟩:∃ z':ZT,{ (z.dh { z.aW with ring:=(J3 z.aW.ring).1 }) with k:={ z.k with t:=(J3 z.aW.ring).2.1 } }=z':=⟨_,rfl⟩;have e:Qy (.thn (.thn (.at (some (.ready j)) (.bI n)) (.ai d)) (.ae i)) z=Qe runT (Qe runT (if z'.k.t.slot<0 then (Q5 (n - 1) z',z') else ((.thn (.at none .bA) (.ax n),z'):ST × ZT)).1 (.ai d) (if z'.k.t.slot<0 then (Q5 (n - 1) z',z') else ((.thn (.at none .bA) (.ax n),z'):ST × ZT)).2).1 (.ae i) (Qe runT (if z'.k.t.slot<0 then (Q5 (n - 1) z',z') else ((.thn (.at none .bA) (.ax n),z'):ST × ZT)).1 (.ai d) (if z'.k.t.slot<0 then (Q5 (n - 1) z',z') else ((.thn (.at none .bA) (.ax n),z'):ST × ZT)).2).2:=by rw [<- hz'];rfl
   rw [e];split
   ·exact LA (n - 1) d i z'
   ·exact .inl rfl
 | .thn (.thn (.at none .bA) (.ax n)) (.ai d),_ =>
   refine .inl ?_
   have e1:runT .bA z=((if (Qs 2 z).2=true then (.at none .aI,(Qs 2 z).1) else (.nil,(Qs 2 z).1)):ST × ZT):=rfl;obtain ⟨r,hr⟩:∃ r,runT .bA z=r:=⟨_,rfl⟩;have e:Qy (.thn (.thn (.thn (.at none .bA) (.ax n)) (.ai d)) (.ae i)) z=Qe runT (Qe runT (Qe runT r.1 (.ax n) r.2).1 (.ai d) (Qe runT r.1 (.ax n) r.2).2).1 (.ae i) (Qe runT (Qe runT r.1 (.ax n) r.2).1 (.ai d) (Qe runT r.1 (.ax n) r.2).2).2:=by rw [<- hr];rfl
   have hcase:r.1=.nil\/r.1=.at none .aI:=by
    rw [<- hr,e1];split
    ·exact .inr rfl
    ·exact .inl rfl
   rw [e];obtain ⟨r1,r2⟩:=r;rcases hcase with hc | hc
   ·obtain rfl:r1=.nil:=hc
    exact LA (n - 1) d i r2
   ·obtain rfl:r1=.at none .aI:=hc
    exact .inl rfl
 | .thn (.thn (.at none .aI) (.ax n)) (.ai d),_ =>
   refine .inl ?_
   have e1:runT .aI z=((if (Qk 3 z).2=true then (.nil,jy (Qk 3 z).1) else (Qx (Qk 3 z).1,(Qk 3 z).1)):ST × ZT):=rfl;obtain ⟨r,hr⟩:∃ r,runT .aI z=r:=⟨_,rfl⟩;have e:Qy (.thn (.thn (.thn (.at none .aI) (.ax n)) (.ai d)) (.ae i)) z=Qe runT (Qe runT (Qe runT r.1 (.ax n) r.2).1 (.ai d) (Qe runT r.1 (.ax n) r.2).2).1 (.ae i) (Qe runT (Qe runT r.1 (.ax n) r.2).1 (.ai d) (Qe runT r.1 (.ax n) r.2).2).2:=by rw [<- hr];rfl
   have hcase:r.1=.nil\/r.1=.at none .bA:=by
    rw [<- hr,e1];split
    ·exact .inl rfl
    ·show Qx _=_\/Qx _=_
     unfold Qx;split
     ·exact .inl rfl
     ·exact .inr rfl
   rw [e];obtain ⟨r1,r2⟩:=r;rcases hcase with hc | hc
   ·obtain rfl:r1=.nil:=hc
    exact LA (n - 1) d i r2
   ·obtain rfl:r1=.at none .bA:=hc
    exact .inl rfl
 | .thn (.thn G (.aF d n)) .ay,hX =>
   obtain ⟨r,hr⟩:∃ r,St.run runT Q6 G z=r:=⟨_,rfl⟩;have e:Qy (.thn (.thn (.thn G (.aF d n)) .ay) (.ae i)) z=Qe runT (Qe runT (Qe runT r.1 (.aF d n) r.2).1 .ay (Qe runT r.1 (.aF d n) r.2).2).1 (.ae i) (Qe runT (Qe runT r.1 (.aF d n) r.2).1 .ay (Qe runT r.1 (.aF d n) r.2).2).2:=by rw [<- hr];rfl
   by_cases hn:r.1=.nil
   ·refine .inl ?_
    rw [e];obtain ⟨G',z'⟩:=r;obtain rfl:G'=.nil:=hn
    show Ca (Qe runT (Qe runT (Qo d (n+1) z').1 .ay (Qo d (n+1) z').2).1 (.ae i) (Qe runT (Qo d (n+1) z').1 .ay (Qo d (n+1) z').2).2).1
    cases hd:z'.k.due[n+1]? with
    | none =>
      have hfi:Qo d (n+1) z'=(.nil,z'):=by unfold Qo;rw [hd]
      rw [hfi];exact .inl rfl
    | some t =>
      have hfi:Qo d (n+1) z'=(.thn (.at none .looks) (.aF d (n+1)),{ z' with k:={ z'.k with t:=t } }):=by unfold Qo;rw [hd]
      rw [hfi];exact .inr rfl
   ·refine .inr ⟨G,d,n,i,rfl,by rw [hr];exact hn,?_⟩
    rw [e,hr];obtain ⟨G',z'⟩:=r;rw [Xx hn,Xx (by intro e;cases e),Xx (by intro e;cases e)]
 | .aj .unlock,_ =>
   have e:Qy (.thn (.aj .unlock) (.ae i)) z=Xa (i+1) (z.dh { z.aW with who:=0 }):=rfl;exact .inl (by rw [e];exact QD _ _)
theorem q10 {s:ST} (h:qT s z.k z.x):Oe s z:=by
 match s,h with
 | .nil,_=>exact .inl (.inl rfl)
 | .at none .enter,_=>exact .inl (.inl rfl)
 | .at none .gate,_ =>
   refine .inl ?_
   show Ca ((if z.x.f.closed=true then Ys 3 z else (.at none .tick,z)):ST × ZT).1
   split <;> exact .inl rfl
 | .at none .tick,_=>exact .inl (QD 0 _)
 | .aO .leave1 .answer,_=>exact .inl (.inl rfl)
 | .aj .answer,_=>exact .inl (.inl rfl)
 | .thn X (.ae i),h =>
   obtain ⟨_,_,_,hX⟩:=h;exact qyh hX
theorem Ia {G:ST} (hG:nX G z.k):Ak (St.run runT Q6 G z).1 (St.run runT Q6 G z).2.k:=by
 match G,hG with
 | .at none .looks,_ =>
   show Ak ((if (Qs 3 z).2=true then (.at none .bE,(Qs 3 z).1) else (.nil,(Qs 3 z).1)):ST × ZT).1 _
   split <;> trivial
 | .at none .bE,_ =>
   show Ak ((if (Qk 4 z).2=true then (.thn (.aj (.put ⟨z.k.t.id,z.k.t.gen,z.k.t.dl,z.k.now⟩)) .bD,(Qk 4 z).1.note { bL with kind:=5,id:=z.k.t.id,gen:=z.k.t.gen,dl:=z.k.t.dl,tick:=z.k.now }) else (.at none .looks,(Qk 4 z).1)):ST × ZT).1 _
   split <;> trivial
 | .thn (.aj (.put f)) .bD,_=>trivial
 | .at none .behind,_ =>
   have e:St.run runT Q6 (.at none .behind) z=((if bB (z.x.aa.word z.k.t.slot)≠4\/Xv (z.x.aa.word z.k.t.slot)≠z.k.t.gen then (St.nil,({ z with k:={ z.k with aB:=z.x.aa.word z.k.t.slot } }:ZT))
    else if 0<z.k.t.per/\Xr (z.x.aa.word z.k.t.slot)=false/\z.k.t.dl+z.k.t.per<18446744073709551616 then (.at none (.aY (z.k.t.dl+z.k.t.per)),{ z with k:={ z.k with aB:=z.x.aa.word z.k.t.slot } }) else (.at none .aQ,{ z with k:={ z.k with aB:=z.x.aa.word z.k.t.slot } })):ST × ZT):=rfl
   rw [e];split
   ·trivial
   ·next h =>
    have h4:bB (z.x.aa.word z.k.t.slot)=4/\Xv (z.x.aa.word z.k.t.slot)=z.k.t.gen:=by
     refine ⟨?_,?_⟩
     ·exact UA fun e=>h (.inl e)
     ·exact UA fun e=>h (.inr e)
    split
    ·next h2=>exact ⟨h4.1,h4.2,h2.1,h2.2.1⟩
    ·exact h4
 | .at none (.aY next),_ =>
   show Ak ((if (Qk 5 z).2=true then (.nil,jy { (Qk 5 z).1 with k:={ z.k with t:={ z.k.t with gen:=z.k.t.gen+1,dl:=next } } }) else (.at none .behind,(Qk 5 z).1)):ST × ZT).1 _
   split <;> trivial
 | .at none .aQ,_ =>
   show Ak ((if (Qk 9 z).2=true then (.aO .rel .drop,if 0<z.k.t.per/\Xr z.k.aB=false then (Qk 9 z).1.note { bL with kind:=14,id:=z.k.t.id,gen:=z.k.t.gen } else (Qk 9 z).1) else (.at none .behind,(Qk 9 z).1)):ST × ZT).1 _
   split <;> trivial
 | .aO .rel .drop,_=>trivial
 | .aj .drop,_=>trivial
theorem q5w {s:ST} (h:qT s z.k z.x):Dg (Qy s z).1 (Qy s z).2.k:=by
 rcases q10 h with hc | ⟨G,d,n,i,rfl,_,e⟩
 ·unfold Dg
  rcases hc with hc | hc <;> rw [hc] <;> trivial
 ·rw [e]
  obtain ⟨_,_,_,hX⟩:=h;obtain ⟨_,_,_,_,hG⟩:=hX;exact Ia hG
end
section
variable {z:ZT}
theorem PZ.thn {s:ST} {m:MT} (h1:PZ (St.run runT Q6 s z).2) (hm:FH m):PZ (St.run runT Q6 (.thn s m) z).2 :=
 qpq (R:=fun z z'=>PZ z->PZ z') (fun _=>id) (fun z h=>h.run m hm) _ _ h1
theorem q0f {G:ST} {k:Xi} (h:nX G k):(∃ n,G=.at none (.aY n))\/G.allM FH (fun _=>True):=by
 match G,h with
 | .at none .looks,_=>exact .inr trivial
 | .at none .bE,_=>exact .inr trivial
 | .thn (.aj (.put _)) .bD,_=>exact .inr ⟨trivial,trivial⟩
 | .at none .behind,_=>exact .inr trivial
 | .at none (.aY next),_=>exact .inl ⟨next,rfl⟩
 | .at none .aQ,_=>exact .inr trivial
 | .aO .rel .drop,_=>exact .inr trivial
 | .aj .drop,_=>exact .inr trivial
theorem q5v {X:ST} {i:Nat} (hX:kG X z.k z.x i) (h:PZ z):Dg (.thn X (.ae i)) z.k->PZ (St.run runT Q6 X z).2:=by
 match X,hX with
 | .at (some .lock) (.dH d),_=>exact fun _=>PZ.steps _ h trivial
 | .at none (.bX d),_=>exact fun _=>PZ.steps _ h trivial
 | .thn (.aj (.bG d)) (.aL e),_=>exact fun _=>PZ.steps _ h ⟨trivial,trivial⟩
 | .thn (.at (some (.ready j)) (.bI n)) (.ai d),_=>exact fun _=>PZ.steps _ h ⟨trivial,trivial⟩
 | .thn (.thn (.at none .bA) (.ax n)) (.ai d),_=>exact fun _=>PZ.steps _ h ⟨⟨trivial,trivial⟩,trivial⟩
 | .thn (.thn (.at none .aI) (.ax n)) (.ai d),_=>exact fun _=>PZ.steps _ h ⟨⟨trivial,trivial⟩,trivial⟩
 | .thn (.thn G (.aF d n)) .ay,hX =>
   obtain ⟨_,_,_,_,hG⟩:=hX;intro hs;rcases q0f hG with ⟨m,rfl⟩ | ha
   ·have hs:bB z.k.aB=4/\Xv z.k.aB=z.k.t.gen/\0<z.k.t.per/\Xr z.k.aB=false:=hs
    exact PZ.thn (PZ.thn (h.DZ m hs.2.1) trivial) trivial
   ·exact PZ.steps _ h ⟨⟨ha,trivial⟩,trivial⟩
 | .aj .unlock,_=>exact fun _=>PZ.steps _ h trivial
theorem q8s {s:ST} (hf:qT s z.k z.x) (h:PZ z):Dg s z.k->PZ (Qy s z).2:=by
 match s,hf with
 | .nil,_=>exact fun _=>h
 | .at none .enter,_=>exact fun _=>PZ.steps _ h trivial
 | .at none .gate,_=>exact fun _=>PZ.steps _ h trivial
 | .at none .tick,_=>exact fun _=>PZ.steps _ h trivial
 | .aO .leave1 .answer,_=>exact fun _=>PZ.steps _ h trivial
 | .aj .answer,_=>exact fun _=>PZ.steps _ h trivial
 | .thn X (.ae i),hf =>
   obtain ⟨_,_,_,hX⟩:=hf;exact fun hs=>PZ.thn (q5v hX h hs) trivial
end
def qW:SC->Qv->List Rec->Prop
 | .at none .fills,k,rs=>∀ r,rs[k.slot.toNat]?=some r->k.gen<=Xv r.w
 | _,_,_=>True
theorem qW.le {s:SC} {k:Qv} {rs rs':List Rec} (h:qW s k rs) (hl:kR rs rs'):qW s k rs':=by
 revert h
 unfold qW;split
 ·intro h r' hr
  obtain ⟨r,h1,h2,_⟩:=hl.at_ _ r' hr;have:=h r h1;omega
 ·exact fun _=>trivial
theorem Tm {s:Qj} (hs:Xh s) {k old ev:Int} (h0:0<=k) {r:Rec} (hr:(s.try k old ev).1.recs[k.toNat]?=some r):Xv (s.try k old ev).2.1=Xv r.w:=by
 rcases Z7 hs k old ev with ⟨t1,t2⟩ | ⟨t1,j,q,w',t2,t3,t4,t5,t6,t7,t8⟩
 ·rw [t2] at hr
  obtain ⟨j,rfl⟩:=U4 h0;rw [U2] at hr;obtain ⟨a,b,c⟩:=LJ hr;unfold Qj.try at t1 |-;rw [if_pos a] at t1 |-;simp only [c] at t1 |-;split
  ·rfl
  ·next hne =>
   rw [if_neg hne] at t1;split
   ·next he=>rw [if_pos he] at t1;exact absurd rfl t1
   ·rfl
 ·rw [t7,t2,U2] at hr
  have hr:(s.recs.set j { q with w:=w' })[j]?=some r:=hr;rw [get_set_same t3] at hr;cases hr
  rw [t8]
section
variable {N:Nat} {k:Qv} {x:Qi}
theorem q1t (hs:Xh x.aa) (h0:0<=k.slot) (hg:qW (.at none .fills) k x.aa.recs):jr x.aa.recs (qr (k,x)):=by
 intro r _ hr;have hr:x.aa.recs[k.slot.toNat]?=some r:=hr;refine ⟨hg r hr,fun _=>?_⟩
 obtain ⟨j,hj⟩:=U4 h0;rw [hj,U2] at hr;obtain ⟨a,b,c⟩:=LJ hr
 show r.p=x.aa.period k.slot
 unfold Qj.period;rw [hj,if_pos a,c]
theorem qvl {s:SC} {ws:List Qg} (hc:Zi N x) (hk:Zn N k x) {r:SC × ZC} (e:wI (s=.at none .fills) k r.2.1 x r.2.2) (hl:kR x.aa.recs r.2.2.aa.recs) (ht:Ym x.aa.recs x.au ws) (hg:qW s k x.aa.recs):Ym r.2.2.aa.recs r.2.2.au ws:=by
 have h1:=ht.le hl;have hold:∀ {i:Nat} {sh:Qu},x.au[i]?=some sh->∀ e∈sh.ring.slots,jr r.2.2.aa.recs e.v:=fun hs e he=>(ht.ring _ (U1 hs) e he).le hl
 cases e with
 | none a b=>rw [a];exact h1
 | new a h0 i hi b=>rw [a];exact h1
 | step i t sh h0 hst hf hs a b =>
   rw [a];refine h1.tY (fun e he=>hold hs e ?_)
   have:(stepT sh.ring t).1.slots=sh.ring.slots:=by
    unfold stepT qP pV o9;split
    ·rfl
    ·split
     ·rfl
     ·split
      ·rfl
      ·split <;> rfl
   rw [<- this];exact he
 | fill i t sh v h0 hst hf hs hv a b =>
   rw [a];refine h1.tY (fun e he=>?_)
   have he:e∈(Zp sh.ring t v).1.slots:=he;unfold Zp at he;rw [if_pos ⟨hst,hf⟩] at he;rcases U6 he with he | rfl
   ·exact hold hs e he
   ·show jr _ v
    rcases hv with ⟨rfl,hs⟩ | hv
    ·subst hs
     exact (q1t hc.aa hk.slot hg).le hl
    ·intro q hq;omega
end
section
variable {N:Nat} {k:Qv} {x:Qi}
theorem q4n (hc:Zi N x) (hk:Zn N k x) (m:MC) (hf:tN (.at none m) k):qW (J1 m (k,x)).1 (J1 m (k,x)).2.1 (J1 m (k,x)).2.2.aa.recs:=by
 have ja:∀ (k2:Qv) rs,qW (X2 k) k2 rs:=fun k2 rs=>by unfold X2;split <;> trivial
 cases m with
 | right =>
   show qW ((if mP k then (.aj .aS,Ql 1 (k,x)) else (.at none .enter,(k,x))):SC × ZC).1 _ _
   split <;> trivial
 | enter=>trivial
 | gate =>
   have e:J1 .gate (k,x)=if x.f.closed=true then (X2 k,Ql 3 (k,x)) else if k.kind=1\/k.kind=2 then (.at none .asks,({ k with rq:=some ⟨k.period,0,0,0,0,0⟩ },x)) else (.at none .looks,(k,x)):=rfl
   rw [e];split
   ·exact ja _ _
   ·split <;> trivial
 | asks =>
   obtain ⟨q,hq⟩:=U7.1 hf.1;have e:J1 .asks (k,x)=q7 (k,x) q:=by show (match k.rq with | none=>_ | some q=>_)=_;rw [hq]
   rw [e];unfold q7;simp only [];split
   ·trivial
   ·split <;> trivial
 | aX =>
   obtain ⟨t,ht⟩:=U7.1 (show k.tk.isSome=true from hf);obtain ⟨i,t⟩:=t;have hi:=(hk.tk i t ht).2;have hsh:=U8 hi
   have e:J1 .aX (k,x)=Ze (k,x) i t x.au[i]:=by
    show (match k.tk with | none=>_ | some (i,t)=>_)=_
    rw [ht];simp only [hsh]
   rw [e];unfold Ze;simp only [];split
   ·trivial
   ·split
    ·trivial
    ·split
     ·trivial
     ·split <;> trivial
 | bU =>
   intro r hr;exact Int.le_of_eq (Tm (k:=k.slot) (old:=x.aa.word k.slot) (ev:=2) hc.aa hk.slot hr)
 | fills=>trivial
 | looks =>
   have e:J1 .looks (k,x)=(if (Q4 (k,x)).2=0 then (if k.kind=3 then (.at none .aX,({ (Q4 (k,x)).1.1 with tk:=some (qi (Q4 (k,x)).1.1.slot x,Xp) },x)) else (.at none .tries,(Q4 (k,x)).1)) else if (Q4 (k,x)).2=1 then (X2 k,Ql 1 (Q4 (k,x)).1) else (X2 k,Ql 0 (Q4 (k,x)).1)):=rfl;rw [e];split
   ·split <;> trivial
   ·split <;> exact ja _ _
 | again =>
   have e:J1 .again (k,x)=(if (Q4 (k,x)).2=0 then (.at none .tries,(Q4 (k,x)).1) else (.thn (.aj .bC) .leaves,Ql 0 (Q4 (k,x)).1)):=rfl;rw [e];split <;> trivial
 | tries =>
   have e:J1 .tries (k,x)=(if (Zr (k,x)).2≠0 then (if k.kind=3 then (.at none .again,(Zr (k,x)).1) else (.at none .looks,(Zr (k,x)).1)) else if k.kind=3 then (.at none .fills,qc { bL with kind:=6,id:=k.id,gen:=(Zr (k,x)).1.1.gen,dl:=k.jJ } (iQ (Zr (k,x)).1.1,(Zr (k,x)).1.2))
    else if k.kind=5 then (.aj .aS,qc { bL with kind:=8,id:=k.id,gen:=(Zr (k,x)).1.1.gen } (iQ (Zr (k,x)).1.1,(Zr (k,x)).1.2))
    else (.thn (.aO .bK .drop) .ends,qc { bL with kind:=7,id:=k.id,gen:=(Zr (k,x)).1.1.gen } (iQ (Zr (k,x)).1.1,(Zr (k,x)).1.2))):=rfl
   rw [e];split
   ·split <;> trivial
   ·split
    ·intro r hr
     exact Int.le_of_eq (Tm (k:=k.slot) (old:=k.aB) (ev:=k.event) hc.aa hk.slot hr)
    ·split <;> trivial
 | ends=>exact hf.elim
 | leaves=>exact hf.elim
theorem q3q {s:SC} (hj:JC N s (k,x)):qW (J5 s (k,x)).1 (J5 s (k,x)).2.1 (J5 s (k,x)).2.2.aa.recs:=by
 obtain ⟨hc,hk,hf⟩:=hj;simp only at hc hk hf
 match s,hf with
 | .nil,_=>trivial
 | .at none m,hf=>exact q4n hc hk m hf
 | .aj .aS,_=>trivial
 | .thn (.aj .bJ) .ends,_=>trivial
 | .thn (.aO .eB .drop) .leaves,_=>trivial
 | .thn (.aj .drop) .leaves,_=>trivial
 | .thn (.aj .bC) .leaves,_=>trivial
 | .thn (.aO .bK .drop) .ends,_=>trivial
 | .thn (.aj .drop) .ends,_=>trivial
end
def Bg (rs:List Rec):Wk->Prop
 | .call s k=>qW s k rs
 | .turn s k=>jr rs k.t/\(∀ t∈k.due,jr rs t)/\Dg s k
 | .dM _ _=>True
theorem Bg.le {rs rs':List Rec} {w:Wk} (h:Bg rs w) (hl:kR rs rs'):Bg rs' w:=by
 cases w with
 | call s k=>exact qW.le h hl
 | turn s k=>exact ⟨h.1.le hl,fun t ht=>(h.2.1 t ht).le hl,h.2.2⟩
 | dM s k=>trivial
structure TI (S:SvS):Prop where
 all:Ym S.z.x.aa.recs S.z.x.au S.z.ws
 eY:∀ (a:Nat) (j:Jw),S.all[a]?=some j->Bg S.z.x.aa.recs j.w
section
variable {N:Nat} {S:SvS}
theorem Mb (h:TI S) {a:Nat} {j:Jw} (n':Int) {w':Wk} {z':ZF} (hl:kR S.z.x.aa.recs z'.x.aa.recs) (h1:Ym z'.x.aa.recs z'.x.au z'.ws) (h2:Bg z'.x.aa.recs w'):TI { S with all:=S.all.set a ⟨j.kb,n',w'⟩,z:=z' }:=by
 refine ⟨h1,fun b jb hb=>?_⟩
 rcases Ay hb with ⟨_,rfl⟩ | ⟨_,hb⟩
 ·exact h2
 ·exact (h.eY b jb hb).le hl
theorem q8a (hn:dN N S) (hl:qz S) (hs:oW N S) (h:TI S) {t:Th} (ht:t.here S) (hm:t.may S=true):TI (t.step S):=by
 cases t with
 | eY a =>
   have ha:=Xd ht;have hm:(S.af a).w.may S.z=true:=hm;obtain ⟨hjn,_,_⟩:=hn.eT _ (U1 ha);have hO:∀ j e,tV (S.af a).w=some (j,e)->∃ r,S.z.x.aa.recs[j]?=some r/\bB r.w=e:=fun j e hj=>(hs.own.own a j e (by rw [x9 ha,hj])).2
   have hp:lH (S.af a).w<=S.z.x.aa.count:=by
    have:=zy (f:=fun j:Jw=>lH j.w) (fun x=>FI x.w) ha;have:=hs.cnt;omega
   have hfin:=hs.fin a _ ha;have hgo:=hl.go a _ ha;have qK:=h.eY a _ ha;have jV:kJ (S.af a).w<=S.z.x.f.inside:=by rw [hl.ins];exact zy (f:=fun j:Jw=>kJ j.w) (fun x=>FY x.w) ha
   have hsl:=hn.eF.zn.core.aa
   show TI { S with all:=S.all.set a ⟨(S.af a).kb,(S.af a).n+1,((S.af a).w.step S.z).1⟩,z:=((S.af a).w.step S.z).2 }
   cases hw:(S.af a).w with
   | call s k =>
     rw [hw] at hjn hO hp hgo qK jV;have hjc:JC N s (k,S.z.x):=⟨hn.eF.zn.core,hjn.wk,hjn.fit⟩;have g:=LQ hjc hgo.1 hgo.2 jV;have q:=NH hjc hgo.1 hO hp;exact Mb h _ q.le (qvl hn.eF.zn.core hjn.wk g.uA q.le h.all qK) (q3q hjc)
   | turn s k =>
     rw [hw] at hjn hO hp hfin qK;have q:=Mc (z:=⟨k,S.z.x,S.z.ws,S.z.p⟩) hsl hjn.fit hfin hO hp;have hpz:PZ ⟨k,S.z.x,S.z.ws,S.z.p⟩:=⟨hsl,⟨h.all,qK.1,qK.2.1⟩⟩;have p:=q8s hjn.fit hpz qK.2.2;exact Mb h _ q.sl.le p.p.all ⟨p.p.t,p.p.due,q5w (z:=⟨k,S.z.x,S.z.ws,S.z.p⟩) hjn.fit⟩
   | dM s k =>
     rw [hw] at hjn hO hp hfin;have q:=I8 (z:=⟨k,S.z.x,S.z.p⟩) hsl hjn.fit hfin hO hp;have c:=FX s ⟨k,S.z.x,S.z.p⟩;refine Mb h _ q.sl.le ?_ trivial
     have h2:=h.all.le q.sl.le
     show Ym _ (stepS s ⟨k,S.z.x,S.z.p⟩).2.x.au S.z.ws
     rw [c.au];exact h2
 | gY i =>
   have hc:=Jo ht;have hcn:=hn.aP _ (U1 hc)
   show TI { S with aP:=S.aP.set i ((S.aM i).step S.z).1,z:=((S.aM i).step S.z).2 }
   generalize S.aM i=c at hcn;obtain ⟨wb,s,n,k⟩:=c;rcases hcn.fit with ⟨h1,_⟩ | ⟨h1,_⟩
   ·obtain rfl:s=J2:=h1
    exact ⟨h.all,h.eY⟩
   ·obtain rfl:s=.thn (.aj .jD) .takes:=h1
    exact ⟨h.all,h.eY⟩
end
def st2 (b:Bool):Int:=if b=true then 0 else 2
theorem uH (b:Bool):0<=st2 b/\st2 b<=2:=by cases b <;> decide
def Zl (s:Qj) (k old ev:Int):Bool:=(s.try k old ev).2.2 == 0
def qo (rs:List Rec):Nat->Nat->Int
 | 0,_=>0
 | f+1,i=>if aZ (rs.getD (i % rs.length) Rec.zero)=true then 1+qo rs f (i+1) else 0
theorem yP (rs:List Rec):∀ f i,0<=qo rs f i/\qo rs f i<=f
 | 0,_=>⟨UI _,UI _⟩
 | f+1,i=>by
   have:=yP rs f (i+1);unfold qo;split <;> omega
theorem QB (rs:List Rec):∀ (f i j:Nat),i % rs.length=j % rs.length->qo rs f i=qo rs f j
 | 0,_,_,_=>rfl
 | f+1,i,j,h=>by
   unfold qo;rw [h,QB rs f (i+1) (j+1) (by rw [Nat.add_mod i,Nat.add_mod j,h])]
theorem OX (rs:List Rec):∀ (f i:Nat),(∃ j,j<f/\aZ (rs.getD ((i+j) % rs.length) Rec.zero)=false)->qo rs (f+1) i=qo rs f i
 | 0,i,⟨j,h,_⟩=>absurd h (Nat.not_lt_zero j)
 | f+1,i,⟨j,h1,h2⟩=>by
   show (if aZ (rs.getD (i % rs.length) Rec.zero)=true then 1+qo rs (f+1) (i+1) else 0)=(if aZ (rs.getD (i % rs.length) Rec.zero)=true then 1+qo rs f (i+1) else 0)
   split
   ·next hb =>
    cases j with
    | zero=>rw [Nat.add_zero,hb] at h2;cases h2
    | succ j=>rw [OX rs f (i+1) ⟨j,by omega,by rw [show i+1+j=i+(j+1) by omega];exact h2⟩]
   ·rfl
theorem qvv {rs:List Rec} {i:Nat} (hb:aZ (rs.getD (i % rs.length) Rec.zero)=true) (hf:∃ r∈rs,aZ r=false):qo rs rs.length (i+1)+1<=qo rs rs.length i:=by
 obtain ⟨r,hr,hfr⟩:=hf;obtain ⟨k,hk⟩:=UF.1 hr;have hkl:=(UB.1 hk).1;obtain ⟨n,hn⟩:∃ n,rs.length=n+1:=⟨rs.length - 1,by omega⟩;have hkd:rs.getD k Rec.zero=r:=D8 hk;have hne:i % rs.length≠k:=fun e=>by rw [e,hkd,hfr] at hb;cases hb
 have hex:∃ j,j<n/\aZ (rs.getD ((i+1+j) % rs.length) Rec.zero)=false:=by
  have hi:=Nat.mod_lt i (show 0<rs.length by omega)
  have hmod:∀ j,(i+1+j) % rs.length=(i % rs.length+1+j) % rs.length:=fun j=>by
   rw [UJ,UJ,Nat.mod_add_mod]
  generalize i % rs.length=a at hne hi hmod;rcases Nat.lt_or_ge a k with h | h
  ·refine ⟨k - a - 1,by omega,?_⟩
   rw [hmod,show a+1+(k - a - 1)=k by omega,Nat.mod_eq_of_lt hkl,hkd];exact hfr
  ·refine ⟨k+rs.length - a - 1,by omega,?_⟩
   rw [hmod,show a+1+(k+rs.length - a - 1)=k+rs.length by omega,Nat.add_mod_right,Nat.mod_eq_of_lt hkl,hkd];exact hfr
 have hm:=OX rs n (i+1) hex;rw [hn] at hb |-
 have e:qo rs (n+1) i=1+qo rs n (i+1):=by
  show (if aZ (rs.getD (i % rs.length) Rec.zero)=true then _ else _)=_
  rw [hn,if_pos hb]
 rw [e,hm];omega
theorem QC {rs rs':List Rec} (hl:rs'.length=rs.length) (h:∀ i,aZ (rs'.getD i Rec.zero)=true->aZ (rs.getD i Rec.zero)=true):∀ f i,qo rs' f i<=qo rs f i
 | 0,_=>UI _
 | f+1,i=>by
   have h1:=QC hl h f (i+1);have h2:=(yP rs f (i+1)).1;unfold qo;rw [hl];have h3:=h (i % rs.length);split
   ·next hb=>rw [if_pos (h3 hb)];omega
   ·split <;> omega
def Jy (x:Qi) (i:Nat):Int:=(x.au.getD i (Qr 1)).ring.tail
def zD (k:Qv) (x:Qi):Int:=match k.tk with
 | none=>0
 | some (i,t)=>if t.next=0 then 244 else if t.next=1 then 243+(if Jy x i=t.pos then 0 else 3) else 242+(if Jy x i=t.pos then 0 else 3)
def wD (k:Qv) (x:Qi):Int:=match k.rq with
 | none=>0
 | some q=>if q.next=0 then 315 else if q.next=1 then 314+(if x.aa.count=q.aB then 0 else 2) else 293+qo x.aa.recs x.aa.recs.length q.slot.toNat
def Jz:SC->Qv->Qi->Int
 | .aj .aS,_,_=>1
 | .thn (.aj .bJ) .ends,_,_=>2
 | .at none .fills,_,_=>3
 | .at none .bU,_,_=>12
 | .thn (.aj .drop) .leaves,_,_=>11
 | .thn (.aO .eB .drop) .leaves,_,_=>20
 | .thn (.aj .bC) .leaves,_,_=>3
 | .at none .again,_,_=>13
 | .at none .tries,k,x=>(if k.kind=3 then 12 else 28)+st2 (Zl x.aa k.slot k.aB k.event)
 | .thn (.aj .drop) .ends,_,_=>10
 | .thn (.aO .bK .drop) .ends,_,_=>19
 | .at none .looks,k,_=>if k.kind=3 then 245 else 29
 | .at none .aX,k,x=>zD k x
 | .at none .asks,k,x=>wD k x
 | .at none .gate,_,_=>316
 | .at none .enter,_,_=>317
 | .at none .right,_,_=>318
 | _,_,_=>0
inductive kH (x x':Qi):Int->Prop where
 | calm (h1:x'.aa=x.aa) (h2:∀ i,Jy x' i=Jy x i):kH x x' 0
 | count (h1:x'.aa.recs=x.aa.recs) (h2:∀ i,Jy x' i=Jy x i):kH x x' 2
 | tail (h1:x'.aa=x.aa):kH x x' 3
 | word (j:Nat) (r r':Rec) (hr:x.aa.recs[j]?=some r) (hb:aZ r=true) (h1:x'.aa.recs=x.aa.recs.set j r') (hc:x'.aa.count=x.aa.count) (h2:∀ i,Jy x' i=Jy x i):kH x x' 2
 | take (h1:x'.aa.recs.length=x.aa.recs.length) (hc:x'.aa.count=x.aa.count) (h2:∀ i,Jy x' i=Jy x i):kH x x' 12
theorem IX {x x':Qi} {c:Int} (h:kH x x' c) (hn:x.aa.recs.length<=12) (s:SC) (k:Qv):Jz s k x'<=Jz s k x+c/\0<=c:=by
 have hc0:0<=c:=by cases h <;> decide
 refine ⟨?_,hc0⟩
 unfold Jz;split
 case h_9 =>
  have b1:=uH (Zl x'.aa k.slot k.aB k.event);have b2:=uH (Zl x.aa k.slot k.aB k.event);cases h with
  | calm h1 h2=>rw [h1];omega
  | count h1 h2=>omega
  | tail h1=>rw [h1];omega
  | word j r r' hr hb h1 hc h2=>omega
  | take h1 hc h2=>omega
 case h_13 =>
  unfold zD;split
  ·omega
  ·next i t _ =>
   have ht:(∀ i,Jy x' i=Jy x i)\/c=3:=by
    cases h with
    | calm h1 h2=>exact .inl h2
    | count h1 h2=>exact .inl h2
    | tail h1=>exact .inr rfl
    | word j r r' hr hb h1 hc h2=>exact .inl h2
    | take h1 hc h2=>exact .inl h2
   split
   ·omega
   ·split
    ·rcases ht with ht | ht
     ·rw [ht];omega
     ·split <;> split <;> omega
    ·rcases ht with ht | ht
     ·rw [ht];omega
     ·split <;> split <;> omega
 case h_14 =>
  unfold wD;split
  ·omega
  ·next q _ =>
   have hb:=yP x.aa.recs x.aa.recs.length q.slot.toNat;have hb':=yP x'.aa.recs x'.aa.recs.length q.slot.toNat;split
   ·omega
   ·split
    ·cases h with
     | calm h1 h2=>rw [h1];omega
     | count h1 h2=>split <;> split <;> omega
     | tail h1=>rw [h1];omega
     | word j r r' hr hb h1 hc h2=>rw [hc];omega
     | take h1 hc h2=>rw [hc];omega
    ·cases h with
     | calm h1 h2=>rw [h1];omega
     | count h1 h2=>rw [h1];omega
     | tail h1=>rw [h1];omega
     | word j r r' hr hbb h1 hc h2 =>
       have hm:=QC (rs:=x.aa.recs) (rs':=x'.aa.recs) (by rw [h1,UD]) (fun i hi=>by
        rw [h1,U3,U9] at hi;rw [U3];split at hi
        ·next e=>subst e;rw [hr];exact hbb
        ·exact hi) x.aa.recs.length q.slot.toNat
       have hlen:x'.aa.recs.length=x.aa.recs.length:=by rw [h1,UD]
       rw [hlen];omega
     | take h1 hc h2=>omega
 all_goals omega
def Y9 (x:Qi):Int:=Jq (x.au.map fun s:Qu=>s.ring.tail - s.ring.head)
def Xt (s:SC) (k:Qv) (x:Qi) (r:SC × ZC):Prop :=
 ∃ c,kH x r.2.2 c/\Jz r.1 r.2.1 r.2.2+1+4*c+216*(Y9 r.2.2 - Y9 x)<=Jz s k x
section
variable {N:Nat} {k:Qv} {x:Qi} {s:SC} {r:SC × ZC}
theorem zi {x x':Qi} (h:x'.au=x.au):Y9 x'=Y9 x:=by unfold Y9;rw [h]
theorem Jn {x x':Qi} (h:x'.au=x.au) (i:Nat):Jy x' i=Jy x i:=by unfold Jy;rw [h]
theorem Xt.calm (h1:r.2.2.aa=x.aa) (h2:r.2.2.au=x.au) (h3:Jz r.1 r.2.1 r.2.2+1<=Jz s k x):Xt s k x r :=
 ⟨0,.calm h1 (Jn h2),by rw [zi h2];omega⟩
theorem Xt.count (h1:r.2.2.aa.recs=x.aa.recs) (h2:r.2.2.au=x.au) (h3:Jz r.1 r.2.1 r.2.2+9<=Jz s k x):Xt s k x r :=
 ⟨2,.count h1 (Jn h2),by rw [zi h2];omega⟩
theorem Xt.word (j:Nat) (a b:Rec) (hr:x.aa.recs[j]?=some a) (hb:aZ a=true) (h1:r.2.2.aa.recs=x.aa.recs.set j b) (hc:r.2.2.aa.count=x.aa.count) (h2:r.2.2.au=x.au) (h3:Jz r.1 r.2.1 r.2.2+9<=Jz s k x):Xt s k x r :=
 ⟨2,.word j a b hr hb h1 hc (Jn h2),by rw [zi h2];omega⟩
theorem Xt.take (h1:r.2.2.aa.recs.length=x.aa.recs.length) (hc:r.2.2.aa.count=x.aa.count) (h2:r.2.2.au=x.au) (h3:Jz r.1 r.2.1 r.2.2+49<=Jz s k x):Xt s k x r :=
 ⟨12,.take h1 hc (Jn h2),by rw [zi h2];omega⟩
theorem Lx {x x':Qi} {i:Nat} {a b:Qu} (hs:x.au[i]?=some a) (h2:x'.au=x.au.set i b):Y9 x'=Y9 x - (a.ring.tail - a.ring.head)+(b.ring.tail - b.ring.head):=by
 unfold Y9;rw [h2,qp (f:=fun s:Qu=>s.ring.tail - s.ring.head) hs]
theorem q1r {x x':Qi} {i:Nat} {a b:Qu} (hs:x.au[i]?=some a) (h2:x'.au=x.au.set i b) (ht:b.ring.tail=a.ring.tail) (n:Nat):Jy x' n=Jy x n:=by
 unfold Jy;rw [h2,U3,U3,U9];have hi:=(UB.1 hs).1;split
 ·next e=>subst e;rw [hs];exact ht
 ·rfl
theorem Xt.ring {i:Nat} {a b:Qu} (hs:x.au[i]?=some a) (h1:r.2.2.aa=x.aa) (h2:r.2.2.au=x.au.set i b) (ht:b.ring.tail=a.ring.tail) (hh:b.ring.head=a.ring.head) (h3:Jz r.1 r.2.1 r.2.2+1<=Jz s k x):Xt s k x r :=
 ⟨0,.calm h1 (q1r hs h2 ht),by rw [Lx hs h2,ht,hh];omega⟩
theorem Xt.tail {i:Nat} {a b:Qu} (hs:x.au[i]?=some a) (h1:r.2.2.aa=x.aa) (h2:r.2.2.au=x.au.set i b) (ht:b.ring.tail=a.ring.tail+1) (hh:b.ring.head=a.ring.head) (h3:Jz r.1 r.2.1 r.2.2+229<=Jz s k x):Xt s k x r :=
 ⟨3,.tail h1,by rw [Lx hs h2,ht,hh];omega⟩
theorem Kr (k k':Qv) (x':Qi):Jz (X2 k) k' x'<=2:=by
 unfold X2;split
 ·show (1:Int)<=2;decide
 ·show (2:Int)<=2;decide
theorem q02 {s:Qj} {id:Int} (h:s.fE id=0):s.has (s.slot id):=by
 unfold Qj.fE at h;split at h
 ·next hk =>
  unfold Qj.slot;rw [if_pos hk];exact ⟨Int.emod_nonneg _ (by decide),hk.1⟩
 ·cases h
theorem look_ok {s:Qj} (h:(lookW k s).2=0):Zl s (lookW k s).1.slot (lookW k s).1.aB (lookW k s).1.event=true:=by
 unfold lookW at h |-;split at h
 ·next h1=>exact absurd h h1
 ·next h1 =>
  have h1:s.fE k.id=0:=Decidable.of_not_not h1;have hh:=q02 h1;rw [if_neg (fun e=>e h1)];split at h
  ·cases h
  ·next h2 =>
   rw [if_neg h2];have e1:s.word (s.slot k.id)=(s.recs.getD (s.slot k.id).toNat Rec.zero).w:=by unfold Qj.word;rw [if_pos hh]
   have e2:s.period (s.slot k.id)=(s.recs.getD (s.slot k.id).toNat Rec.zero).p:=by unfold Qj.period;rw [if_pos hh]
   have h:(Xs (s.word (s.slot k.id)) k.event (decide (0<s.period (s.slot k.id)))).2=0:=h
   show Zl s (s.slot k.id) (s.word (s.slot k.id)) k.event=true
   unfold Zl Qj.try;rw [if_pos hh];dsimp only
   rw [e2] at h;rw [if_neg (fun e=>e h),if_pos e1.symm];rfl
theorem qv2 {r:Rec} (hr:nV r) (p:Bool) (h:aZ r=false) {M:Int} (hg:Xv r.w<=M) (hM:M<4294967295):(Xs r.w 1 p).2=0:=by
 have hz:bB r.w=0:=by
  unfold aZ at h;simpa using h
 unfold Xs;rw [if_neg (by rw [hr.ok];decide),if_neg (by omega)];dsimp only
 rw [hz];rw [if_neg (show ¬ (toW 0 1 (p && !Xr r.w)).2.2=false by show ¬ ((0:Int) == 0)=false;decide)];rw [if_neg (show ¬ 4294967295<Xv r.w+(toW 0 1 (p && !Xr r.w)).2.1 by show ¬ 4294967295<Xv r.w+1;omega)]
end
theorem RP {x:Qi} {i:Nat} {a:Qu} (h:x.au[i]?=some a):Jy x i=a.ring.tail:=by
 unfold Jy;rw [U3,h];rfl
section
variable {N:Nat} {k:Qv} {x:Qi} {M:Int}
theorem IB {q:iC} (h:k.rq=some q) (hn:q.next=0):Jz (.at none .asks) k x=315:=by
 show wD k x=_
 unfold wD;rw [h];simp only [hn];rfl
theorem Og {q:iC} (h:k.rq=some q) (hn:q.next=1):Jz (.at none .asks) k x=314+(if x.aa.count=q.aB then 0 else 2):=by
 show wD k x=_
 unfold wD;rw [h];simp only [hn];rfl
theorem IC {q:iC} (h:k.rq=some q) (hn:q.next=2):Jz (.at none .asks) k x=293+qo x.aa.recs x.aa.recs.length q.slot.toNat:=by
 show wD k x=_
 unfold wD;rw [h];simp only [hn];rfl
theorem NN {i:Nat} {t:Xz} (h:k.tk=some (i,t)) (hn:t.next=0):Jz (.at none .aX) k x=244:=by
 show zD k x=_
 unfold zD;rw [h];simp only [hn];rfl
theorem qu8 (hc:Zi N x) (hk:Zn N k x) (hf:tN (.at none .asks) k) (hn:x.aa.recs.length<=12) (hg:lC M x.aa.recs) (hM:M<4294967295) (hfr:1<=z5 (.at none .asks) k->∃ r∈x.aa.recs,aZ r=false):Xt (.at none .asks) k x (J1 .asks (k,x)):=by
 have hs:=hc.aa;obtain ⟨q,hq⟩:=U7.1 hf.1;have hst:=hf.2 q hq;have hqo:=hk.rq q hq;have e:J1 .asks (k,x)=q7 (k,x) q:=by show (match k.rq with | none=>_ | some q=>_)=_;rw [hq]
 have hp:z5 (.at none .asks) k=if q.next=2 then 1 else 0:=by show Bn k.rq=_;rw [hq];rfl
 rw [e];by_cases hn0:q.next=0
 ·have er:Za x.aa q=(x.aa,qO x.aa q):=by unfold Za;rw [if_neg (by omega),if_pos hn0]
  have eQ:=IB (x:=x) hq hn0;unfold q7;simp only [er];unfold qO;split
  ·exact Xt.calm rfl rfl (by rw [eQ];show (2:Int)+1<=315;decide)
  ·simp only [hst,if_neg (show ¬ (0:Int)=1 by decide),if_neg (show ¬ (0:Int)=2 by decide)]
   refine Xt.calm rfl rfl ?_
   rw [eQ];rw [Og (q:={ q with aB:=x.aa.count,next:=1,st:=0 }) rfl rfl,if_pos rfl];decide
 ·by_cases hn1:q.next=1
  ·have er:Za x.aa q=pY x.aa q:=by unfold Za;rw [if_neg (by omega),if_neg hn0,if_pos hn1]
   have eQ:=Og (x:=x) hq hn1;unfold q7;simp only [er];unfold pY;split
   ·next pJ =>
    simp only [hst,if_neg (show ¬ (0:Int)=1 by decide),if_neg (show ¬ (0:Int)=2 by decide)];refine Xt.count rfl rfl ?_
    rw [eQ,if_pos pJ];have hb:=yP x.aa.recs x.aa.recs.length q.slot.toNat;rw [IC (q:={ q with next:=2,st:=0 }) rfl rfl]
    show 293+qo x.aa.recs x.aa.recs.length q.slot.toNat+9<=314+0
    omega
   ·next pJ =>
    simp only [hst,if_neg (show ¬ (0:Int)=1 by decide),if_neg (show ¬ (0:Int)=2 by decide)];refine Xt.calm rfl rfl ?_
    rw [eQ,if_neg pJ];rw [IB (q:={ q with next:=0,st:=0 }) rfl rfl];decide
  ·have hn2:q.next=2:=by have:=hqo.next;omega
   have eQ:=IC (x:=x) hq hn2;have er:Za x.aa q=qc6 x.aa q:=by unfold Za;rw [if_neg (by omega),if_neg hn0,if_neg hn1]
   have hfree:=hfr (by rw [hp,if_pos hn2];decide);unfold q7;simp only [er];obtain ⟨j,hj⟩:=U4 hqo.ig;have hjl:j<x.aa.recs.length:=by have:=hqo.iG;omega
   have hr:=U8 hjl;generalize x.aa.recs[j]=r at hr;have hro:=hs.recs r (U1 hr);have hgd:x.aa.recs.getD q.slot.toNat Rec.zero=r:=by rw [hj,U2];exact D8 hr
   have hb:=yP x.aa.recs x.aa.recs.length q.slot.toNat;unfold qc6;simp only [hgd];split
   ·next hz =>
    simp only [if_neg (show ¬ (2:Int)=1 by decide)];rw [if_pos trivial];refine Xt.take ?_ rfl rfl ?_
    ·show (x.aa.recs.set _ _).length=_;rw [UD]
    ·rw [eQ]
     rw [NN (t:=Xp) rfl rfl];omega
   ·next hz =>
    have hbz:aZ r=true:=by
     cases hbb:aZ r with
     | true=>rfl
     | false=>exact absurd (qv2 hro (decide (0<q.p)) hbb (hg r (U1 hr)) hM) hz
    have hd:=qvv (rs:=x.aa.recs) (i:=j) (by rw [Nat.mod_eq_of_lt hjl,D8 hr];exact hbz) hfree;simp only [hst,if_neg (show ¬ (0:Int)=1 by decide),if_neg (show ¬ (0:Int)=2 by decide)];refine Xt.calm rfl rfl ?_
    rw [eQ];rw [IC (q:={ q with slot:=(q.slot+1) % (x.aa.recs.length:Int),st:=0 }) rfl hn2]
    show 293+qo x.aa.recs x.aa.recs.length ((q.slot+1) % (x.aa.recs.length:Int)).toNat+1<=_
    have hm:qo x.aa.recs x.aa.recs.length ((q.slot+1) % (x.aa.recs.length:Int)).toNat=qo x.aa.recs x.aa.recs.length (j+1):=by
     apply QB
     rw [hj,show ((j:Int)+1) % (x.aa.recs.length:Int)=(((j+1) % x.aa.recs.length:Nat):Int) by rw [Int.natCast_emod];rfl,U2,Nat.mod_mod]
    rw [hm,hj,U2];omega
theorem qpy {r:Qz} {t:Xz} (hR:mY r) (h:r.tail=t.pos):¬ 2*t.pos<(r.slot t.pos).seq:=by
 rw [<- h];have h1:=hR.ht;rcases Int.lt_or_le r.tail (r.head+r.slots.length) with hl | hl
 ·rcases hR.sq r.tail h1 hl with h2 | ⟨h2,_⟩ <;> omega
 ·have e:r.tail=r.head+r.slots.length:=by have:=hR.tn;omega
  have hsl:r.slot r.tail=r.slot r.head:=by
   unfold Qz.slot Qz.at;rw [e,Int.add_emod_right]
  have hn:=hR.n1;rw [hsl];rcases hR.sq r.head (by omega) (by omega) with h2 | ⟨_,h2⟩ <;> omega
def tC (tl:Int) (t:Xz):Int:=if t.next=0 then 244 else if t.next=1 then 243+(if tl=t.pos then 0 else 3) else 242+(if tl=t.pos then 0 else 3)
theorem S8 {i:Nat} {t:Xz} (h:k.tk=some (i,t)):Jz (.at none .aX) k x=tC (Jy x i) t:=by
 show zD k x=_
 unfold zD;rw [h];rfl
inductive FP (r r':Qz) (t t':Xz):Prop where
 | go (h1:t'.status=0) (h2:r'.tail=r.tail) (h3:r'.head=r.head) (h4:tC r.tail t'+1<=tC r.tail t):FP r r' t t'
 | full (h1:t'.status=1) (h2:r'.tail=r.tail) (h3:r'.head=r.head) (h4:242<=tC r.tail t):FP r r' t t'
 | took (h1:t'.status=2) (h2:r'.tail=r.tail+1) (h3:r'.head=r.head) (h4:242<=tC r.tail t):FP r r' t t'
theorem qxx {r:Qz} {t:Xz} (hR:mY r) (hst:t.status=0) (hnx:t.next=0\/t.next=1\/t.next=2):FP r (stepT r t).1 t (stepT r t).2:=by
 unfold stepT;rw [if_neg (by omega)];rcases hnx with hn | hn | hn
 ·rw [if_pos hn]
  refine .go hst rfl rfl ?_
  unfold tC;rw [if_pos hn]
  show (if (1:Int)=0 then (244:Int) else if (1:Int)=1 then 243+(if r.tail=r.tail then 0 else 3) else 242+(if r.tail=r.tail then 0 else 3))+1<=244
  rw [if_neg (by decide),if_pos rfl,if_pos rfl];decide
 ·rw [if_neg (by omega),if_pos hn]
  have hco:tC r.tail t=243+(if r.tail=t.pos then 0 else 3):=by unfold tC;rw [if_neg (by omega),if_pos hn]
  unfold pV;split
  ·next hw =>
   refine .go hst rfl rfl ?_
   rw [hco,if_neg (fun h=>qpy hR h hw)]
   show (if (0:Int)=0 then (244:Int) else if (0:Int)=1 then 243+(if r.tail=t.pos then 0 else 3) else 242+(if r.tail=t.pos then 0 else 3))+1<=243+3
   rw [if_pos rfl];decide
  ·split
   ·exact .full rfl rfl rfl (by rw [hco];split <;> decide)
   ·refine .go hst rfl rfl ?_
    rw [hco]
    show (if (2:Int)=0 then (244:Int) else if (2:Int)=1 then 243+(if r.tail=t.pos then 0 else 3) else 242+(if r.tail=t.pos then 0 else 3))+1<=_
    rw [if_neg (by decide),if_neg (by decide)];split <;> decide
 ·rw [if_neg (by omega),if_neg (by omega)]
  have hco:tC r.tail t=242+(if r.tail=t.pos then 0 else 3):=by unfold tC;rw [if_neg (by omega),if_neg (by omega)]
  unfold o9;split
  ·next he=>exact .took rfl (by show t.pos+1=_;omega) rfl (by rw [hco,if_pos he];decide)
  ·next he =>
   refine .go hst rfl rfl ?_
   rw [hco,if_neg he]
   show (if (0:Int)=0 then (244:Int) else if (0:Int)=1 then 243+(if r.tail=t.pos then 0 else 3) else 242+(if r.tail=t.pos then 0 else 3))+1<=242+3
   rw [if_pos rfl];decide
theorem qpf (hc:Zi N x) (hk:Zn N k x) (h2:xC (.at none .aX) k) (hR:∀ s∈x.au,mY s.ring):Xt (.at none .aX) k x (J1 .aX (k,x)):=by
 obtain ⟨i,t,ht,hst,hfl⟩:=(show ∃ i t,k.tk=some (i,t)/\t.status=0/\t.filled=false from h2);have hi:=(hk.tk i t ht).2;have hto:=(hk.tk i t ht).1;have hs:=U8 hi;have Ni:=hR x.au[i] (List.getElem_mem hi)
 have e:J1 .aX (k,x)=Ze (k,x) i t x.au[i]:=by
  show (match k.tk with | none=>_ | some (i,t)=>_)=_
  rw [ht];simp only [hs]
 rw [e];generalize x.au[i]=a at hs Ni;have eQ:=S8 (x:=x) ht;rw [RP hs] at eQ;have hst:=qxx Ni hst hto.nx;unfold Ze;simp only [];generalize stepT a.ring t=p at hst;obtain ⟨r',t'⟩:=p;have hsh:(x.au.set i { a with ring:=r' })[i]?=some { a with ring:=r' }:=by rw [U9,if_pos rfl,if_pos hi]
 cases hst with
 | go a1 a2 a3 a4 =>
   have a1:t'.status=0:=a1;rw [if_pos a1];refine Xt.ring hs rfl rfl a2 a3 ?_
   rw [eQ,S8 (i:=i) (t:=t') rfl];rw [RP (x:={ x with au:=x.au.set i { a with ring:=r' } }) hsh]
   show tC r'.tail t'+1<=_
   rw [show r'.tail=a.ring.tail from a2];exact a4
 | full a1 a2 a3 a4 =>
   have a1:t'.status=1:=a1;rw [if_neg (show ¬ t'.status=0 by omega)];split
   ·exact Xt.ring hs rfl rfl a2 a3 (by rw [eQ];exact U5 (by show (2:Int)+1<=242;decide) a4)
   ·exact Xt.ring hs rfl rfl a2 a3 (by rw [eQ];exact U5 (by show (20:Int)+1<=242;decide) a4)
 | took a1 a2 a3 a4 =>
   have a1:t'.status=2:=a1;rw [if_neg (show ¬ t'.status=0 by omega),if_neg (show ¬ (t'.status=1/\k.kind=3) from fun h=>by omega),if_neg (show ¬ t'.status=1 by omega)];split
   ·exact Xt.tail hs rfl rfl a2 a3 (by rw [eQ];exact U5 (by show (13:Int)+229<=242;decide) a4)
   ·exact Xt.tail hs rfl rfl a2 a3 (by rw [eQ];exact U5 (by show (12:Int)+229<=242;decide) a4)
end
section
variable {N:Nat} {k:Qv} {x:Qi} {M:Int}
theorem Kb (k:Qv) (x:Qi):Jz (.at none .tries) k x=(if k.kind=3 then 12 else 28)+st2 (Zl x.aa k.slot k.aB k.event):=rfl
theorem Kz (hs:Xh x.aa) (ev e:Int) (h0:0<=k.slot) {r:Rec} (hr:x.aa.recs[k.slot.toNat]?=some r) (he:bB r.w=e) (h1:1<=ev) (h2:ev<=10)
 (ht:∀ ag,(toW e ev ag).2.2=true/\(toW e ev ag).2.1=0) (hne:e≠0):aZ r=true/\∃ b,(qM k.slot ev x.aa).1.recs=x.aa.recs.set k.slot.toNat b/\(qM k.slot ev x.aa).1.count=x.aa.count:=by
 have hro:=hs.recs r (U1 hr);refine ⟨?_,?_⟩
 ·unfold aZ
  rw [decide_eq_false (by omega)];rfl
 obtain ⟨j,hj⟩:=U4 h0;rw [hj,U2] at hr;obtain ⟨w',hn,hst⟩:=AV (p:=decide (0<r.p)) hro h1 h2 (by rw [he];exact (ht _).1) (by rw [he];exact (ht _).2)
 have e1:(qM k.slot ev x.aa).1={ x.aa with recs:=x.aa.recs.set j { r with w:=w' } }:=by
  show (x.aa.try k.slot (x.aa.word k.slot) ev).1=_
  rw [hj,AL hr hn]
 exact ⟨{ r with w:=w' },by rw [e1,hj,U2],by rw [e1]⟩
theorem F7 (r:Qz) (t:Xz) (v:Qp):(Zp r t v).1.tail=r.tail/\(Zp r t v).1.head=r.head:=by
 unfold Zp;split <;> exact ⟨rfl,rfl⟩
theorem qug (hc:Zi N x) (h1:3<=k.kind/\k.kind<=5):Xt (.at none .tries) k x (J1 .tries (k,x)):=by
 have hs:=hc.aa
 have e:J1 .tries (k,x)=(if (Zr (k,x)).2≠0 then (if k.kind=3 then (.at none .again,(Zr (k,x)).1) else (.at none .looks,(Zr (k,x)).1)) else if k.kind=3 then (.at none .fills,qc { bL with kind:=6,id:=k.id,gen:=(Zr (k,x)).1.1.gen,dl:=k.jJ } (iQ (Zr (k,x)).1.1,(Zr (k,x)).1.2))
  else if k.kind=5 then (.aj .aS,qc { bL with kind:=8,id:=k.id,gen:=(Zr (k,x)).1.1.gen } (iQ (Zr (k,x)).1.1,(Zr (k,x)).1.2))
  else (.thn (.aO .bK .drop) .ends,qc { bL with kind:=7,id:=k.id,gen:=(Zr (k,x)).1.1.gen } (iQ (Zr (k,x)).1.1,(Zr (k,x)).1.2))):=rfl
 have hco:=Kb k x;rcases Z7 hs k.slot k.aB k.event with ⟨t1,t2⟩ | ⟨t1,j,r,w',t2,t3,t4,t5,t6,t7,t8⟩
 ·rw [e,if_pos (show (Zr (k,x)).2≠0 from t1)]
  have ho:Zl x.aa k.slot k.aB k.event=false:=by unfold Zl;simpa using t1
  rw [ho] at hco;split
  ·next h3 =>
   rw [if_pos h3] at hco;exact Xt.calm t2 rfl (by rw [hco];show (13:Int)+1<=12+2;decide)
  ·next h3 =>
   rw [if_neg h3] at hco;refine Xt.calm t2 rfl ?_
   rw [hco]
   show (if k.kind=3 then (245:Int) else 29)+1<=28+2
   rw [if_neg h3];decide
 ·have hst:=FT t5 (show k.event=6\/k.event=7\/k.event=8 by
   have hev:k.event=if k.kind=4 then 6 else if k.kind=5 then 7 else 8:=rfl
   rw [hev]
   split <;> first | exact .inl rfl | (split <;> first | exact .inr (.inl rfl) | exact .inr (.inr rfl))) t6
  have ho:Zl x.aa k.slot k.aB k.event=true:=by unfold Zl;rw [t1];rfl
  rw [ho] at hco
  have hb:aZ r=true:=by
   unfold aZ;rw [decide_eq_false (by omega)];rfl
  have hsl:(Zr (k,x)).1.2.aa={ x.aa with recs:=x.aa.recs.set j { r with w:=w' } }:=t7;have hr1:(Zr (k,x)).1.2.aa.recs=x.aa.recs.set j { r with w:=w' }:=by rw [hsl]
  have hr2:(Zr (k,x)).1.2.aa.count=x.aa.count:=by rw [hsl]
  rw [e,if_neg (show ¬ (Zr (k,x)).2≠0 from fun h=>h t1)];split
  ·next h3 =>
   rw [if_pos h3] at hco;exact Xt.word j r _ t3 hb hr1 hr2 rfl (by rw [hco];show (3:Int)+9<=12+0;decide)
  ·next h3 =>
   rw [if_neg h3] at hco;split
   ·exact Xt.word j r _ t3 hb hr1 hr2 rfl (by rw [hco];show (1:Int)+9<=28+0;decide)
   ·exact Xt.word j r _ t3 hb hr1 hr2 rfl (by rw [hco];show (19:Int)+9<=28+0;decide)
theorem q01 (hc:Zi N x) (hk:Zn N k x) (m:MC) (hf:tN (.at none m) k) (h1:vR (.at none m) k) (h2:xC (.at none m) k) (hO:∀ j e,tT (.at none m) k=some (j,e)->∃ r,x.aa.recs[j]?=some r/\bB r.w=e) (hR:∀ s∈x.au,mY s.ring) (hn:x.aa.recs.length<=12) (hg:lC M x.aa.recs) (hM:M<4294967295) (hfr:1<=z5 (.at none m) k->∃ r∈x.aa.recs,aZ r=false):Xt (.at none m) k x (J1 m (k,x)):=by
 have hs:=hc.aa;cases m with
 | right =>
   show Xt _ k x (if mP k then (.aj .aS,Ql 1 (k,x)) else (.at none .enter,(k,x)))
   split
   ·exact Xt.calm rfl rfl (by show (1:Int)+1<=318;decide)
   ·exact Xt.calm rfl rfl (by show (317:Int)+1<=318;decide)
 | enter=>exact Xt.calm rfl rfl (by show (316:Int)+1<=317;decide)
 | gate =>
   show Xt _ k x (if x.f.closed=true then (X2 k,Ql 3 (k,x)) else if k.kind=1\/k.kind=2 then (.at none .asks,({ k with rq:=some ⟨k.period,0,0,0,0,0⟩ },x)) else (.at none .looks,(k,x)))
   split
   ·exact Xt.calm rfl rfl (U5 (Int.add_le_add_right (Kr k _ _) 1) (by show (2:Int)+1<=316;decide))
   ·split
    ·refine Xt.calm rfl rfl ?_
     rw [IB (q:=⟨k.period,0,0,0,0,0⟩) rfl rfl]
     show (315:Int)+1<=316;decide
    ·refine Xt.calm rfl rfl ?_
     show (if k.kind=3 then (245:Int) else 29)+1<=316
     split <;> decide
 | asks=>exact qu8 hc hk hf hn hg hM hfr
 | aX=>exact qpf hc hk h2 hR
 | bU =>
   obtain ⟨r,hr,he⟩:=hO _ _ rfl;obtain ⟨hb,b,h3,h4⟩:=Kz hs 2 1 hk.slot hr he (by decide) (by decide) (fun _=>⟨rfl,rfl⟩) (by decide);exact Xt.word _ r b hr hb h3 h4 rfl (by show (3:Int)+9<=12;decide)
 | fills =>
   obtain ⟨i,t,s,a1,a2,a3,a4,a5,a6⟩:=FQ hk (qr (k,x)) h2;have e:J1 .fills (k,x)=(Ji,(iQ (Yo (qr (k,x)) (k,x)).1,(Yo (qr (k,x)) (k,x)).2)):=rfl;rw [e,a5];exact Xt.ring a4 rfl rfl (F7 _ _ _).1 (F7 _ _ _).2 (by show (2:Int)+1<=3;decide)
 | looks =>
   have h1:3<=k.kind/\k.kind<=5:=h1;obtain ⟨l1,l2⟩:=Aw k x.aa;have hl2:(Q4 (k,x)).1.1.kind=k.kind:=l2;have hco:Jz (.at none .looks) k x=if k.kind=3 then 245 else 29:=rfl
   show Xt _ k x (if (Q4 (k,x)).2=0 then (if k.kind=3 then (.at none .aX,({ (Q4 (k,x)).1.1 with tk:=some (qi (Q4 (k,x)).1.1.slot x,Xp) },x)) else (.at none .tries,(Q4 (k,x)).1)) else if (Q4 (k,x)).2=1 then (X2 k,Ql 1 (Q4 (k,x)).1) else (X2 k,Ql 0 (Q4 (k,x)).1))
   split
   ·next hl =>
    split
    ·next h3 =>
     rw [if_pos h3] at hco;refine Xt.calm rfl rfl ?_
     rw [hco,NN (t:=Xp) rfl rfl];decide
    ·next h3 =>
     rw [if_neg h3] at hco;refine Xt.calm rfl rfl ?_
     rw [hco,Kb];rw [show Zl (Q4 (k,x)).1.2.aa (Q4 (k,x)).1.1.slot (Q4 (k,x)).1.1.aB (Q4 (k,x)).1.1.event=true from look_ok hl,hl2,if_neg h3];decide
   ·have Na:(29:Int)<=Jz (.at none .looks) k x:=by rw [hco];split <;> decide
    split
    ·exact Xt.calm rfl rfl (U5 (Int.add_le_add_right (Kr k _ _) 1) (U5 (by decide) Na))
    ·exact Xt.calm rfl rfl (U5 (Int.add_le_add_right (Kr k _ _) 1) (U5 (by decide) Na))
 | again =>
   have h1:k.kind=3:=h1;obtain ⟨l1,l2⟩:=Aw k x.aa;have hl2:(Q4 (k,x)).1.1.kind=k.kind:=l2
   show Xt _ k x (if (Q4 (k,x)).2=0 then (.at none .tries,(Q4 (k,x)).1) else (.thn (.aj .bC) .leaves,Ql 0 (Q4 (k,x)).1))
   split
   ·next hl =>
    refine Xt.calm rfl rfl ?_
    rw [Kb];rw [show Zl (Q4 (k,x)).1.2.aa (Q4 (k,x)).1.1.slot (Q4 (k,x)).1.1.aB (Q4 (k,x)).1.1.event=true from look_ok hl,hl2,if_pos h1]
    show (12:Int)+0+1<=13;decide
   ·exact Xt.calm rfl rfl (by show (3:Int)+1<=13;decide)
 | tries=>exact qug hc h1
 | ends=>exact hf.elim
 | leaves=>exact hf.elim
theorem qzf {s:SC} (hj:JC N s (k,x)) (h1:vR s k) (h2:xC s k) (hs:s≠.nil) (hO:∀ j e,tT s k=some (j,e)->∃ r,x.aa.recs[j]?=some r/\bB r.w=e) (hR:∀ s∈x.au,mY s.ring) (hn:x.aa.recs.length<=12) (hg:lC M x.aa.recs) (hM:M<4294967295) (hp:z5 s k<=x.aa.count) (hfr:s=.at none .asks->1<=z5 s k->∃ r∈x.aa.recs,aZ r=false):Xt s k x (J5 s (k,x)):=by
 obtain ⟨hc,hk,hf⟩:=hj;simp only at hc hk hf;have hdr:1<=x.aa.count->x.aa.drop.1.recs=x.aa.recs:=fun h=>by unfold Qj.drop;split <;> rfl
 match s,hf,h1,h2,hO,hs,hp,hfr with
 | .nil,_,_,_,_,hs,_,_=>exact absurd rfl hs
 | .at none m,hf,h1,h2,hO,_,_,hfr =>
   exact q01 hc hk m hf h1 h2 hO hR hn hg hM (fun h=>by
    cases m with
    | asks=>exact hfr rfl h
    | _=>exact absurd h (by show ¬ (1:Int)<=0;decide))
 | .aj .aS,_,_,_,_,_,_,_=>exact Xt.calm rfl rfl (by show (0:Int)+1<=1;decide)
 | .thn (.aj .bJ) .ends,_,_,_,_,_,_,_=>exact Xt.calm rfl rfl (by show (1:Int)+1<=2;decide)
 | .thn (.aO .eB .drop) .leaves,_,_,_,hO,_,_,_ =>
   obtain ⟨r,hr,he⟩:=hO _ _ rfl;obtain ⟨hb,b,h3,h4⟩:=Kz hc.aa 9 1 hk.slot hr he (by decide) (by decide) (fun _=>⟨rfl,rfl⟩) (by decide);exact Xt.word _ r b hr hb h3 h4 rfl (by show (11:Int)+9<=20;decide)
 | .thn (.aj .drop) .leaves,_,_,_,_,_,hp,_=>exact Xt.count (hdr hp) rfl (by show (2:Int)+9<=11;decide)
 | .thn (.aj .bC) .leaves,_,h1,h2,_,_,_,_ =>
   obtain ⟨i,t,s,a1,a2,a3,a4,a5,a6⟩:=FQ hk { Qp.zero with slot:=-1 } h2;have e:J5 (.thn (.aj .bC) .leaves) (k,x)=(Ji,Yo { Qp.zero with slot:=-1 } (k,x)):=rfl;rw [e,a5];exact Xt.ring a4 rfl rfl (F7 _ _ _).1 (F7 _ _ _).2 (by show (2:Int)+1<=3;decide)
 | .thn (.aO .bK .drop) .ends,_,_,_,hO,_,_,_ =>
   obtain ⟨r,hr,he⟩:=hO _ _ rfl;obtain ⟨hb,b,h3,h4⟩:=Kz hc.aa 10 5 hk.slot hr he (by decide) (by decide) (fun _=>⟨rfl,rfl⟩) (by decide);exact Xt.word _ r b hr hb h3 h4 rfl (by show (10:Int)+9<=19;decide)
 | .thn (.aj .drop) .ends,_,_,_,_,_,hp,_=>exact Xt.count (hdr hp) rfl (by show (1:Int)+9<=10;decide)
end
def fI (z:ZT) (ev:Int):Bool:=Zl z.x.aa z.k.t.slot z.k.aB ev
def kS:ST->ZT->Int
 | .at none .looks,_=>41
 | .at none .bE,z=>40+st2 (fI z 4)
 | .thn (.aj (.put _)) .bD,_=>31
 | .at none .behind,_=>28
 | .at none (.aY _),z=>27+st2 (fI z 5)
 | .at none .aQ,z=>27+st2 (fI z 9)
 | .aO .rel .drop,_=>18
 | .aj .drop,_=>9
 | _,_=>0
def aG (p:Q2):Int:=p.ch.length+p.sp.length
theorem Ro (p:Q2) (f:Xj):aG (p.put f).1<=aG p+1:=by
 unfold Q2.put aG;split
 ·show (p.ch.length:Int)+p.sp.length<=p.ch.length+p.sp.length+1;omega
 ·split
  ·simp only [UH,UG];omega
  ·simp only [UH,UG];omega
structure qh (G:ST) (z:ZT) (r:ST × ZT):Prop where
 au:r.2.x.au=z.x.au
 Hy:∃ c,kH z.x r.2.x c/\kS r.1 r.2+1+4*c+2*(aG r.2.p - aG z.p)<=kS G z
section
variable {z:ZT} {M:Int} {G:ST} {r:ST × ZT}
theorem qh.calm (h1:r.2.x.aa=z.x.aa) (h2:r.2.x.au=z.x.au) (h4:r.2.p=z.p) (h3:kS r.1 r.2+1<=kS G z):qh G z r :=
 ⟨h2,0,.calm h1 (Jn h2),by rw [h4];omega⟩
theorem qh.count (h1:r.2.x.aa.recs=z.x.aa.recs) (h2:r.2.x.au=z.x.au) (h4:r.2.p=z.p) (h3:kS r.1 r.2+9<=kS G z):qh G z r :=
 ⟨h2,2,.count h1 (Jn h2),by rw [h4];omega⟩
theorem qh.word (j:Nat) (a b:Rec) (hr:z.x.aa.recs[j]?=some a) (hb:aZ a=true) (h1:r.2.x.aa.recs=z.x.aa.recs.set j b) (hc:r.2.x.aa.count=z.x.aa.count) (h2:r.2.x.au=z.x.au) (h4:r.2.p=z.p) (h3:kS r.1 r.2+9<=kS G z):qh G z r :=
 ⟨h2,2,.word j a b hr hb h1 hc (Jn h2),by rw [h4];omega⟩
theorem AZ {s:Qj} (hs:Xh s) {k ev:Int} (h0:bB (s.word k)≠0) (h1:1<=ev) (h2:ev<=10) (ht:(toW (bB (s.word k)) ev (decide (0<s.period k) && !Xr (s.word k))).2.2=true) (hg:Xv (s.word k)+(toW (bB (s.word k)) ev (decide (0<s.period k) && !Xr (s.word k))).2.1<=4294967295):Zl s k (s.word k) ev=true:=by
 have hh:s.has k:=Decidable.byContradiction fun h=>h0 (by unfold Qj.word;rw [if_neg h];decide)
 obtain ⟨j,rfl⟩:=Qj.eG hh;obtain ⟨r,hr,hgd⟩:=Qj.fu hh;have hro:=hs.recs r (U1 hr);have e1:s.word j=r.w:=by unfold Qj.word;rw [if_pos hh,hgd]
 have e2:s.period j=r.p:=by unfold Qj.period;rw [if_pos hh,hgd]
 rw [e1,e2] at ht hg;rw [e1]
 have hn:(Xs r.w ev (decide (0<r.p))).2=0:=by
  unfold Xs;rw [if_neg (by rw [hro.ok];decide),if_neg (by omega)];dsimp only
  rw [if_neg (by rw [ht];decide),if_neg (by omega)]
 unfold Zl Qj.try;rw [if_pos hh];dsimp only
 rw [hgd,if_neg (fun h=>h hn),if_pos rfl];rfl
theorem JW (hs:Xh z.x.aa) (ev:Int) (he:ev=4\/ev=5\/ev=9):((Qk ev z).2=true/\fI z ev=true/\∃ (j:Nat) (a b:Rec),z.x.aa.recs[j]?=some a/\aZ a=true/\(Qk ev z).1.x.aa.recs=z.x.aa.recs.set j b/\(Qk ev z).1.x.aa.count=z.x.aa.count) \/
 ((Qk ev z).2=false/\fI z ev=false/\(Qk ev z).1.x.aa=z.x.aa):=by
 rcases Z7 hs z.k.t.slot z.k.aB ev with ⟨t1,t2⟩ | ⟨t1,j,r,w',t2,t3,t4,t5,t6,t7,t8⟩
 ·have hf:((z.x.aa.try z.k.t.slot z.k.aB ev).2.2 == 0)=false:=by simpa using t1
  exact .inr ⟨hf,hf,t2⟩
 ·have hf:((z.x.aa.try z.k.t.slot z.k.aB ev).2.2 == 0)=true:=by rw [t1];rfl
  refine .inl ⟨hf,hf,j,r,{ r with w:=w' },t3,?_,?_,?_⟩
  ·obtain ⟨_,_,g3,_⟩:=AX t5 t6
   cases hb:aZ r with
   | true=>rfl
   | false =>
     have hz:bB r.w=0:=by unfold aZ at hb;simpa using hb
     rw [hz] at g3;exfalso
     revert g3
     generalize (decide (0<r.p) && !Xr r.w)=ag;rcases he with rfl | rfl | rfl <;> cases ag <;> decide
  ·show (z.x.aa.try z.k.t.slot z.k.aB ev).1.recs=_;rw [t7]
  ·show (z.x.aa.try z.k.t.slot z.k.aB ev).1.count=_;rw [t7]
end
end
end Go.Proofs.YtcneeepdclgdcaaGreat
