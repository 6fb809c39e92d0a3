import Derived.Test.YtcneeepdclgdcaaGreatSE34
import Derived.Test.YtcneeepdclgdcaaGreatSE17
import Derived.Test.YtcneeepdclgdcaaGreatSE33
import Derived.Test.YtcneeepdclgdcaaGreatSE25
set_option maxRecDepth 100000
set_option maxHeartbeats 4000000
namespace Go.Proofs.YtcneeepdclgdcaaGreat
open Go.IntKind renaming i64->U1
open Go.Value renaming int->U2,tuple->UB,iface->Vw
open Go.Ending renaming returned->U3
open _root_.List renaming mem_of_getElem?->U4,getD_eq_getElem?_getD->U5,getElem?_map->U7,getElem?_eq_some_iff->U8,eq_of_mem_replicate->U9,length_map->UA,replicate->UC,length_replicate->UD,append_nil->UE,length_set->UF,getElem?_eq_getElem->UH,take_succ_eq_append_getElem->UI,getElem?_set->UJ,cons_append->UK,nil_append->UL,length_append->UM,getElem?_cons_zero->UN,length_cons->UQ,length_nil->US,flatten_append->UU,perm_iff_count->UW,set_cons_zero->UX,set_cons_succ->UY,getElem?_append_right->UZ,flatten_cons->V6,count_append->V7,mem_or_eq_of_mem_set->V8,mem_of_find?_eq_some->V9,getElem?_append_left->Va,take_length->Vb,flatten_nil->Ve,map_set->Vf,count_cons->Vi,count_nil->Vk,getElem?_eq_none->Vl,mem_cons_of_mem->Vo,append_toArray->Vp,map_map->Vq,size_toArray->Vs,push_toArray->Vt,length->Vv,map_append->Vx,mem_append->Vy,mem_map->VB
open _root_.Int renaming le_refl->U6
open _root_.Classical renaming byContradiction->UG
open _root_.Nat renaming zero_le->UO,le_refl->Vj,le_trans->Vz
open Go.Oper renaming semAt_some->UR
open _root_.Option.some renaming inj->UT,injEq->Vu
open Go renaming callFunc->Vd,bodyPost_ret->Vr
open _root_.And renaming intro->Vg
open _root_.Array renaming replicate_succ->Vm,replicate_zero->Vn
open _root_.Exists renaming intro->VC
open Go.World renaming alloc->VD
set_option linter.all false
open Go.Proofs.Tryz
section
open Go.RowKit Go.Shelf
def Ag:ST->Int
 | .nil=>0
 | .at none .enter=>0
 | .aj .answer=>0
 | _=>1
def DW:ST->Prop
 | .at none (.bX _)=>True
 | .aj .unlock=>True
 | .thn _ (.aL _)=>True
 | .thn _ (.ai _)=>True
 | .thn _ .ay=>True
 | _=>False
def Fj:ST->Prop
 | .thn X (.ae _)=>DW X
 | _=>False
def qZ (n:Int) (i:Nat) (x:Qi):Prop:=∀ r,x.rg i=some r->n<=r.tail - r.head
def qD:ST->Qi->Prop
 | .thn (.thn (.at (some (.ready _)) (.bI n)) (.ai _)) (.ae i),x=>1<=n/\qZ n i x
 | .thn (.thn (.thn _ (.ax n)) (.ai _)) (.ae i),x=>qZ (n - 1) i x
 | _,_=>True
theorem PN (Y:ST) (i:Nat) (x:Qi):qD (.thn (.thn Y .ay) (.ae i)) x:=by
 unfold qD;split
 ·rename_i h;cases h
 ·rename_i h;cases h
 ·trivial
def yJ (s:ST) (k:Xi) (x:Qi):Prop:=∀ j,(x.au.getD j (Qr 1)).who≠0->Fj s/\k.s=some j
structure xM (s:ST) (z:ZT) (r:ST × ZT):Prop where
 ins:r.2.x.f.inside=z.x.f.inside+Ag r.1 - Ag s
 rings:r.2.x.rg=z.x.rg\/∃ i q,z.x.rg i=some q/\q.ready=true/\r.2.x.rg=lK z.x.rg i (J3 q).1
 fit:qD r.1 r.2.x
 who:yJ r.1 r.2.k r.2.x
section
variable {s:ST} {z:ZT}
theorem JU {M A Y α:Type} {runM:M->α->St M A Y × α} {m:M} {z:α}:Qe runM (.nil:St M A Y) m z=runM m z:=rfl
theorem Xx {M A Y α:Type} {runM:M->α->St M A Y × α} {m:M} {z:α} {s:St M A Y} (h:s≠.nil):Qe runM s m z=(.thn s m,z):=by
 cases s <;> first | rfl | exact absurd rfl h
theorem FB {X X':ST} {i:Nat} {z z':ZT} (hw:yJ (.thn X (.ae i)) z.k z.x) (hr:(St.run runT Q6 X z)=(X',z')) (hn:X'≠.nil) (hl:DW X') (hc:z'.x.f.inside=z.x.f.inside) (hwho:vZ z.x z'.x) (hs:z'.k.s=z.k.s)
 (hrg:z'.x.rg=z.x.rg\/∃ i q,z.x.rg i=some q/\q.ready=true/\z'.x.rg=lK z.x.rg i (J3 q).1) (hf:qD (.thn X' (.ae i)) z'.x):xM (.thn X (.ae i)) z (Qy (.thn X (.ae i)) z):=by
 have e:Qy (.thn X (.ae i)) z=(.thn X' (.ae i),z'):=by
  show Qe runT (St.run runT Q6 X z).1 (.ae i) (St.run runT Q6 X z).2=_
  rw [hr];exact Xx hn
 rw [e];refine ⟨by rw [hc];show _=_+1 - 1;omega,hrg,hf,fun j hj=>⟨hl,?_⟩⟩
 have:=(hw j (by rw [<- hwho j];exact hj)).2;rw [hs];exact this
theorem AP {X X':ST} {i:Nat} {z z':ZT} (hw:yJ (.thn X (.ae i)) z.k z.x) (hr:(St.run runT Q6 X z)=(X',z')) (hn:X'≠.nil) (hl:DW X') (hc:Z4 z z') (hf:qD (.thn X' (.ae i)) z'.x):xM (.thn X (.ae i)) z (Qy (.thn X (.ae i)) z) :=
 FB hw hr hn hl hc.inside hc.who hc.s (.inl hc.rg) hf
theorem LC {z:ZT} {i:Nat} (hs:z.k.s=some i) (hi:i<z.x.au.length):z.x.au[i]?=some z.aW/\z.sh=i:=by
 have e:z.sh=i:=by unfold ZT.sh;rw [hs];rfl
 refine ⟨?_,e⟩
 unfold ZT.aW;rw [e,U5,UH hi];rfl
theorem NQ {z:ZT} {i:Nat} (hs:z.k.s=some i) (hi:i<z.x.au.length):z.x.rg i=some z.aW.ring:=by
 unfold Qi.rg;rw [(LC hs hi).1];rfl
theorem Ap {n:Int} {z:ZT} (h:¬ n<=0):Q5 n z=.at (some (.ready z.sh)) (.bI n):=if_neg h
theorem FD {n:Int} {z:ZT} (h:n<=0):Q5 n z=.nil:=if_pos h
theorem Lm {X:ST} {i:Nat} {d:Nat} {n:Int} {z z':ZT} (hw:yJ (.thn X (.ae i)) z.k z.x) (hr:(St.run runT Q6 X z)=Qe runT (Q5 n z') (.ai d) z') (hc:z'.x.f.inside=z.x.f.inside) (hwho:vZ z.x z'.x) (hs:z'.k.s=z.k.s)
 (hrg:z'.x.rg=z.x.rg\/∃ i q,z.x.rg i=some q/\q.ready=true/\z'.x.rg=lK z.x.rg i (J3 q).1) (hp:qZ n i z'.x):xM (.thn X (.ae i)) z (Qy (.thn X (.ae i)) z):=by
 by_cases h:n<=0
 ·rw [FD h] at hr
  exact FB hw hr (by intro e;cases e) trivial hc hwho hs hrg trivial
 ·rw [Ap h,Xx (by intro e;cases e)] at hr
  exact FB hw hr (by intro e;cases e) trivial hc hwho hs hrg ⟨by omega,hp⟩
theorem KC {l:List Qu} {i j:Nat} {s d:Qu} (h:j≠i):(l.set i s).getD j d=l.getD j d:=by
 rw [U5,U5,UJ,if_neg (fun e=>h e.symm)]
theorem RQ {l:List Qu} {i:Nat} {s d:Qu} (h:i<l.length):(l.set i s).getD i d=s:=by
 rw [U5,UJ,if_pos rfl,if_pos h];rfl
theorem SY {x x':Qi} {i:Nat} {s s':Qu} (hs:x.au[i]?=some s) (e:s'.ring=s.ring) (h:x'.au=x.au.set i s'):x'.rg=x.rg:=by
 funext n
 unfold Qi.rg;rw [h,UJ];split
 ·rename_i en
  subst en;rw [if_pos (U8.1 hs).1,hs];simp [e]
 ·rfl
theorem q5t {X:ST} {i:Nat} (hs:z.k.s=some i) (hil:i<z.x.au.length) (hX:kG X z.k z.x i) (hring:∀ i r,z.x.rg i=some r->mY r) :
 (mM (.thn X (.ae i)) z=true)->qD (.thn X (.ae i)) z.x->yJ (.thn X (.ae i)) z.k z.x->xM (.thn X (.ae i)) z (Qy (.thn X (.ae i)) z):=by
 obtain ⟨hget,hsh⟩:=LC hs hil
 match X,hX with
 | .at (some .lock) (.dH d),hX =>
   intro hm hf hw;have h0:∀ j,(z.x.au.getD j (Qr 1)).who=0:=fun j=>UG fun e=>(hw j e).1
   have hr:St.run runT Q6 (.at (some .lock) (.dH d)) z=(.at none (.bX d),z.dh { z.aW with who:=og z.aW.who z.k.th,turns:=nz z.aW.who z.aW.turns }):=rfl;have e:Qy (.thn (.at (some .lock) (.dH d)) (.ae i)) z=(.thn (.at none (.bX d)) (.ae i),z.dh { z.aW with who:=og z.aW.who z.k.th,turns:=nz z.aW.who z.aW.turns }):=rfl;rw [e];refine ⟨by show z.x.f.inside=z.x.f.inside+1 - 1;omega,.inl ?_,trivial,fun j hj=>⟨trivial,?_⟩⟩
   ·exact SY (i:=z.sh) (s:=z.aW) (by rw [hsh];exact hget) (by rfl) rfl
   ·by_cases hji:j=i
    ·rw [hji];exact hs
    ·exfalso
     apply hj
     show ((z.x.au.set z.sh _).getD j (Qr 1)).who=0
     rw [hsh,KC hji];exact h0 j
 | .at none (.bX d),hX =>
   intro hm hf hw;by_cases ht:z.aW.ring.tail - z.aW.ring.head<=0
   ·have hr:St.run runT Q6 (.at none (.bX d)) z=(.thn (.aj (.bG d)) (.aL d),z):=if_pos ht
    exact AP hw hr (by intro e;cases e) trivial (Z4.refl z) trivial
   ·have hr:St.run runT Q6 (.at none (.bX d)) z=(.thn (Q5 (z.aW.ring.tail - z.aW.ring.head) z) (.ai d),z):=if_neg ht
    rw [Ap ht] at hr;refine AP hw hr (by intro e;cases e) trivial (Z4.refl z) ⟨by omega,fun r hrr=>?_⟩
    rw [NQ hs hil] at hrr;cases hrr
    exact U6 _
 | .thn (.aj (.bG d)) (.aL e),hX =>
   intro hm hf hw;have hc:=Po (.thn (.aj (.bG d)) (.aL e)) z ⟨trivial,trivial⟩;obtain ⟨r,hr⟩:∃ r,St.run runT Q6 (.thn (.aj (.bG d)) (.aL e)) z=r:=⟨_,rfl⟩;have hr':=hr;rw [hr] at hc;have e2:r=runT (.aL e) (Q6 (.bG d) z):=hr.symm
   have hn:r.1≠.nil/\DW r.1/\∀ x,qD (.thn r.1 (.ae i)) x:=by
    rw [e2];generalize Q6 (.bG d) z=w;have e3:runT (.aL e) w=(match w.k.due[0]? with | none=>((.aj .unlock,w):ST × ZT) | some _=>(.thn (Qo e 0 w).1 .ay,(Qo e 0 w).2)):=rfl;rw [e3];cases w.k.due[0]? with
    | none=>exact ⟨(by intro e;cases e),trivial,fun _=>trivial⟩
    | some t=>exact ⟨(by intro e;cases e),trivial,fun _=>PN _ _ _⟩
   exact AP hw (X':=r.1) (z':=r.2) hr hn.1 hn.2.1 hc (hn.2.2 _)
 | .thn (.at (some (.ready j)) (.bI n)) (.ai d),hX =>
   intro hm hf hw;obtain ⟨_,_,rfl,hn0,_⟩:=hX
   have hrd:z.aW.ring.ready=true:=by
    have hm:(z.x.au.getD j (Qr 1)).ring.ready=true:=hm;unfold ZT.aW;rw [hsh];exact hm
   obtain ⟨hn1,hp⟩:=(show 1<=n/\qZ n j z.x from hf);have hrg:=NQ hs hil;obtain ⟨_,_,k3,k4,_,_⟩:=Oq (hring j _ hrg) hrd;obtain ⟨z',hz'⟩:∃ z':ZT,{ (z.dh { z.aW with ring:=(J3 z.aW.ring).1 }) with k:={ z.k with t:=(J3 z.aW.ring).2.1 } }=z':=⟨_,rfl⟩
   have hrr:z'.x.rg=lK z.x.rg j (J3 z.aW.ring).1:=by
    rw [<- hz'];exact yU (x:=z.x) (s:=z.aW) hget (by rw [<- hsh];rfl)
   have hpn:qZ (n - 1) j z'.x:=fun r hr=>by
    rw [hrr,qw5] at hr;cases hr
    have:=hp _ hrg;rw [k3,k4];omega
   have hin:z'.x.f.inside=z.x.f.inside:=by rw [<- hz'];rfl
   have hss:z'.k.s=z.k.s:=by rw [<- hz']
   have hwho:vZ z.x z'.x:=fun i'=>by
    rw [<- hz']
    show ((z.x.au.set z.sh _).getD i' (Qr 1)).who=_
    rw [hsh];by_cases e:i'=j
    ·rw [e,RQ hil]
     show z.aW.who=_
     unfold ZT.aW;rw [hsh]
    ·rw [KC e]
   have hrun:St.run runT Q6 (.thn (.at (some (.ready j)) (.bI n)) (.ai d)) z=Qe runT (if z'.k.t.slot<0 then (Q5 (n - 1) z',z') else ((.thn (.at none .bA) (.ax n),z'):ST × ZT)).1 (.ai d) (if z'.k.t.slot<0 then (Q5 (n - 1) z',z') else ((.thn (.at none .bA) (.ax n),z'):ST × ZT)).2:=by rw [<- hz'];rfl
   have hor:z'.x.rg=z.x.rg\/∃ i q,z.x.rg i=some q/\q.ready=true/\z'.x.rg=lK z.x.rg i (J3 q).1:=.inr ⟨j,_,hrg,hrd,hrr⟩;by_cases hsl:z'.k.t.slot<0
   ·rw [if_pos hsl] at hrun
    exact Lm hw hrun hin hwho hss hor hpn
   ·rw [if_neg hsl] at hrun
    rw [Xx (by intro e;cases e)] at hrun;exact FB hw hrun (by intro e;cases e) trivial hin hwho hss hor hpn
 | .thn (.thn (.at none .bA) (.ax n)) (.ai d),hX =>
   intro hm hf hw;have hf:qZ (n - 1) i z.x:=hf;have hc:=KN .bA z trivial;have e1:runT .bA z=(if (Qs 2 z).2=true then (.at none .aI,(Qs 2 z).1) else (.nil,(Qs 2 z).1)):=rfl;obtain ⟨z',hz'⟩:∃ z',(runT .bA z).2=z':=⟨_,rfl⟩;rw [hz'] at hc;have hp:qZ (n - 1) i z'.x:=fun r hr=>hf r (by rw [<- hc.rg];exact hr)
   have hrun:St.run runT Q6 (.thn (.thn (.at none .bA) (.ax n)) (.ai d)) z=Qe runT (Qe runT (runT .bA z).1 (.ax n) z').1 (.ai d) (Qe runT (runT .bA z).1 (.ax n) z').2:=by rw [<- hz'];rfl
   by_cases hl:(Qs 2 z).2=true
   ·rw [e1,if_pos hl,Xx (by intro e;cases e),Xx (by intro e;cases e)] at hrun
    exact AP hw hrun (by intro e;cases e) trivial hc hp
   ·rw [e1,if_neg hl,JU] at hrun
    exact Lm hw hrun hc.inside hc.who hc.s (.inl hc.rg) hp
 | .thn (.thn (.at none .aI) (.ax n)) (.ai d),hX =>
   intro hm hf hw;have hf:qZ (n - 1) i z.x:=hf;have hc:=KN .aI z trivial;obtain ⟨z',hz'⟩:∃ z',(runT .aI z).2=z':=⟨_,rfl⟩;rw [hz'] at hc;have hp:qZ (n - 1) i z'.x:=fun r hr=>hf r (by rw [<- hc.rg];exact hr)
   have hrun:St.run runT Q6 (.thn (.thn (.at none .aI) (.ax n)) (.ai d)) z=Qe runT (Qe runT (runT .aI z).1 (.ax n) z').1 (.ai d) (Qe runT (runT .aI z).1 (.ax n) z').2:=by rw [<- hz'];rfl
   have hcase:(runT .aI z).1=.nil\/(runT .aI z).1=.at none .bA:=by
    show ((if (Qk 3 z).2=true then (.nil,jy (Qk 3 z).1) else (Qx (Qk 3 z).1,(Qk 3 z).1)):ST × ZT).1=_\/((if (Qk 3 z).2=true then (.nil,jy (Qk 3 z).1) else (Qx (Qk 3 z).1,(Qk 3 z).1)):ST × ZT).1=_
    split
    ·exact .inl rfl
    ·show Qx _=_\/Qx _=_
     unfold Qx;split
     ·exact .inl rfl
     ·exact .inr rfl
   rcases hcase with hl | hl
   ·rw [hl,JU] at hrun
    exact Lm hw hrun hc.inside hc.who hc.s (.inl hc.rg) hp
   ·rw [hl,Xx (by intro e;cases e),Xx (by intro e;cases e)] at hrun
    exact AP hw hrun (by intro e;cases e) trivial hc hp
 | .thn (.thn G (.aF d n)) .ay,hX =>
   intro hm hf hw;obtain ⟨_,_,_,_,hG⟩:=hX
   have hall:G.allM II IG:=by
    match G,hG with
    | .at none .looks,_=>trivial
    | .at none .bE,_=>trivial
    | .thn (.aj (.put _)) .bD,_=>exact ⟨trivial,trivial⟩
    | .at none .behind,_=>trivial
    | .at none (.aY next),_=>trivial
    | .at none .aQ,_=>trivial
    | .aO .rel .drop,_=>trivial
    | .aj .drop,_=>trivial
   have hc:=Po (.thn (.thn G (.aF d n)) .ay) z ⟨⟨hall,trivial⟩,trivial⟩;obtain ⟨r,hr⟩:∃ r,St.run runT Q6 (.thn (.thn G (.aF d n)) .ay) z=r:=⟨_,rfl⟩;rw [hr] at hc;have e2:r=Qe runT (St.run runT Q6 (.thn G (.aF d n)) z).1 .ay (St.run runT Q6 (.thn G (.aF d n)) z).2:=hr.symm
   have hn:r.1≠.nil/\DW r.1/\∀ x,qD (.thn r.1 (.ae i)) x:=by
    rw [e2];by_cases e:(St.run runT Q6 (.thn G (.aF d n)) z).1=.nil
    ·rw [e,JU]
     exact ⟨(by intro e;cases e),trivial,fun _=>trivial⟩
    ·rw [Xx e]
     exact ⟨(by intro e;cases e),trivial,fun _=>PN _ _ _⟩
   exact AP hw (X':=r.1) (z':=r.2) hr hn.1 hn.2.1 hc (hn.2.2 _)
 | .aj .unlock,hX =>
   intro hm hf hw;have e:Qy (.thn (.aj .unlock) (.ae i)) z=Xa (i+1) (z.dh { z.aW with who:=0 }):=rfl;rw [e]
   have hz0:∀ j,((z.dh { z.aW with who:=0 }).x.au.getD j (Qr 1)).who=0:=fun j=>by
    show ((z.x.au.set z.sh _).getD j (Qr 1)).who=0
    rw [hsh];by_cases hji:j=i
    ·rw [hji,RQ hil]
    ·rw [KC hji]
     refine UG fun hne=>?_
     have:=(hw j hne).2;rw [hs] at this;cases this
     exact hji rfl
   have hrg:(z.dh { z.aW with who:=0 }).x.rg=z.x.rg:=SY (i:=z.sh) (s:=z.aW) (by rw [hsh];exact hget) (by rfl) rfl;generalize hz':z.dh { z.aW with who:=0 }=z' at hz0 hrg |-;have hin:z'.x.f.inside=z.x.f.inside:=by rw [<- hz'];rfl
   unfold Xa;split
   ·exact ⟨by show z'.x.f.inside=z.x.f.inside+1 - 1;omega,.inl hrg,trivial,fun j hj=>absurd (hz0 j) hj⟩
   ·exact ⟨by show z'.x.f.inside=z.x.f.inside+1 - 1;omega,.inl hrg,trivial,fun j hj=>absurd (hz0 j) hj⟩
theorem q22 {N:Nat} (hb:TB N z) (h:qT s z.k z.x) (hm:mM s z=true) (hf:qD s z.x) (hi:Ag s<=z.x.f.inside) (hw:yJ s z.k z.x) (hring:∀ i r,z.x.rg i=some r->mY r):xM s z (Qy s z):=by
 have h0:(¬ Fj s)->∀ j,(z.x.au.getD j (Qr 1)).who=0:=fun hl j=>UG fun e=>hl (hw j e).1
 match s,h,hm,hf,hi,hw with
 | .nil,_,hm,_,_,_=>exact absurd hm (by simp [mM,St.may])
 | .at none .enter,_,_,_,_,_ =>
   have h0:=h0 (fun e=>e);exact ⟨by show z.x.f.inside+1=z.x.f.inside+1 - 0;omega,.inl rfl,trivial,fun j hj=>absurd (h0 j) hj⟩
 | .at none .gate,_,_,_,_,_ =>
   have h0:=h0 (fun e=>e)
   show xM _ z ((if z.x.f.closed=true then Ys 3 z else (.at none .tick,z)):ST × ZT)
   split
   ·exact ⟨by show z.x.f.inside=z.x.f.inside+1 - 1;omega,.inl rfl,trivial,fun j hj=>absurd (h0 j) hj⟩
   ·exact ⟨by show z.x.f.inside=z.x.f.inside+1 - 1;omega,.inl rfl,trivial,fun j hj=>absurd (h0 j) hj⟩
 | .at none .tick,_,_,_,_,_ =>
   have h0:=h0 (fun e=>e)
   show xM _ z (Xa 0 (({ z with x:={ z.x with f:={ z.x.f with now:=z.x.f.now+1 } },k:={ z.k with now:=z.x.f.now+1 } }:ZT).note { bL with kind:=11,tick:=z.x.f.now+1 }))
   unfold Xa;split
   ·exact ⟨by show z.x.f.inside=z.x.f.inside+1 - 1;omega,.inl rfl,trivial,fun j hj=>absurd (h0 j) hj⟩
   ·exact ⟨by show z.x.f.inside=z.x.f.inside+1 - 1;omega,.inl rfl,trivial,fun j hj=>absurd (h0 j) hj⟩
 | .aO .leave1 .answer,_,_,_,hi,_ =>
   have h0:=h0 (fun e=>e);have hi:(1:Int)<=z.x.f.inside:=hi;refine ⟨?_,.inl rfl,trivial,fun j hj=>absurd (h0 j) hj⟩
   show Z5 z.x.f.inside=z.x.f.inside+0 - 1
   unfold Z5;rw [if_neg (by omega)];omega
 | .aj .answer,_,_,_,_,_ =>
   have h0:=h0 (fun e=>e);exact ⟨by show z.x.f.inside=z.x.f.inside+0 - 0;omega,.inl rfl,trivial,fun j hj=>absurd (h0 j) hj⟩
 | .thn X (.ae i),h,hm,hf,hi,hw =>
   obtain ⟨hs,hil,_,hX⟩:=h;exact q5t hs hil hX hring hm hf hw
end
end
section
open Go.RowKit Go.Shelf
attribute [local go_sem] UR
def oN (j:Jw):Value:=.iface j.w.ty (Qb j.kb)
structure Y6 (L:Lay) (sb:Nat) (S:SvS) (vo va vc:Value) (go ga gc:List ak):Prop where
 o:Q3 205 1 vo S.own.length (S.os.map kF) go
 a:Q3 205 1 va S.all.length (S.all.map oN) ga
 c:Q3 269 1 vc S.aP.length (S.ps.map Qb) gc
structure kI (L:Lay) (S:SvS) (gJ gW gZ:List ak):Prop where
 j:Jb L S.all gJ
 w:kU L S.aP gW
 z:eZ L S.z gZ
def jL (L:Lay) (sb:Nat) (S:SvS) (g:List ak):Prop :=
 ∃ vo va vc go ga gc gJ gW gZ,Y6 L sb S vo va vc go ga gc/\kI L S gJ gW gZ/\g=Xg sb L.fb vo va vc++(go++(ga++(gc++(gJ++(gW++gZ)))))
def SvS.bZ (S:SvS):List Nat:=(S.iH.filter fun t=>t.2.may S).map Prod.fst
def SvS.dA (S:SvS) (k:Nat):List Nat:=((S.iH.take k).filter fun t=>t.2.may S).map Prod.fst
def zC (l:List Nat):List Value:=l.map fun n=>U2 U1 (n:Nat)
theorem qs4 (S:SvS):S.dA S.iH.length=S.bZ:=by unfold SvS.dA SvS.bZ;rw [Vb]
theorem qo5 {S:SvS} {k:Nat} {t:Nat × Th} (h:S.iH[k]?=some t):S.dA (k+1)=S.dA k++(if t.2.may S then [t.1] else []):=by
 obtain ⟨h1,h2⟩:=U8.1 h;unfold SvS.dA;rw [UI h1,h2,List.filter_append,Vx];cases hm:t.2.may S <;> simp [hm]
theorem qwl (S:SvS) (k:Nat):(S.dA k).length<=S.iH.length:=by
 unfold SvS.dA;rw [UA];exact Vz (List.length_filter_le _ _) (by rw [List.length_take];omega)
theorem KQ:∀ (l:List (Option Nat)) (a:Nat),(vT a l).length<=l.length
 | [],_=>Vj _
 | none::l,a=>Nat.le_succ_of_le (KQ l (a+1))
 | some k::l,a=>Nat.succ_le_succ (KQ l (a+1))
theorem Sc:∀ (l:List dz) (a i:Nat),(ry a i l).length=l.length
 | [],_,_=>rfl
 | c::l,a,i=>congrArg Nat.succ (Sc l (a+1) (i+1))
theorem Tk {N:Nat} {S:SvS} (h:dN N S):S.iH.length<=2000:=by
 have h1:=h.ol;have h2:=h.cl;have h3:=KQ S.own 0;have h4:=Sc S.aP S.own.length 0;unfold SvS.iH;rw [UM];omega
theorem Rb (sb:Nat):Qa prog 121 #[Qb sb] [] fun e gs=>∃ bx,e=U3 (.func (.func 168) #[] #[Qb bx])/\gs=[[cl bx 102 #[Qb sb]]]:=by
 refine GO fun w HT=>?_
 go_enter func121,ntmps121
 go_wp2
 go_ret
 exact ⟨_,⟨_,rfl,rfl⟩,(HT.alloc rfl _ _)⟩
theorem q5n (S:SvS) (t:Th) (b:Nat) (W:World):(method 523 (t.ty S) (Qb b) "May").run prog W=.ok (t.jR S,Qb b) W:=by
 cases t with
 | eY a=>show (method _ ((S.af a).w.ty) _ _).run _ _=.ok ((S.af a).w.jR,_) _;cases (S.af a).w <;> kernel_rfl
 | gY i=>kernel_rfl
theorem q1v (S:SvS) (t:Th) (b:Nat) (W:World):(method 523 (t.ty S) (Qb b) "Step").run prog W=.ok (t.fB S,Qb b) W:=by
 cases t with
 | eY a=>show (method _ ((S.af a).w.ty) _ _).run _ _=.ok ((S.af a).w.fB,_) _;cases (S.af a).w <;> kernel_rfl
 | gY i=>kernel_rfl
theorem q5m (S:SvS) (t:Th) (args:Array Value) (W:World):(Vd (t.jR S) args).run prog W=.ok (.enter (t.jR S) args) W:=by
 cases t with
 | eY a=>show (Vd (S.af a).w.jR _).run _ _=.ok (.enter (S.af a).w.jR _) _;cases (S.af a).w <;> kernel_rfl
 | gY i=>kernel_rfl
theorem q1u (S:SvS) (t:Th) (args:Array Value) (W:World):(Vd (t.fB S) args).run prog W=.ok (.enter (t.fB S) args) W:=by
 cases t with
 | eY a=>show (Vd (S.af a).w.fB _).run _ _=.ok (.enter (S.af a).w.fB _) _;cases (S.af a).w <;> kernel_rfl
 | gY i=>kernel_rfl
theorem q0m:(prog.info? 3).map (fun i=>(i.zero,i.size,i.bytes))=some (some (U2 U1 0),1,8):=by kernel_rfl
theorem SG {L:Lay} {sb:Nat} {S:SvS} {vo va vc:Value} {go ga gc:List ak} {N:Nat} (hn:dN N S) (hr:Y6 L sb S vo va vc go ga gc) (bx:Nat) :
 sU prog 168 #[Qb bx] (CS (S.iH.map (uf S)) (LP sb (Xg sb L.fb vo va vc) go gc) [[cl bx 102 #[Qb sb]]]) (0:Nat):=by
 rw [<- qv9];refine qnf bx sb L.fb ?_ ?_ ?_ ?_
 ·show Q3 _ 1 vo (S.own.map _).length _ go
  rw [UA];exact hr.o
 ·show Q3 _ 1 vc (S.aP.map _).length _ gc
  rw [UA];exact hr.c
 ·show (S.own.map _).length<=_
  rw [UA];exact hn.ol.2
 ·show (S.aP.map _).length<=_
  rw [UA];exact hn.cl
section
variable {L:Lay} {sb:Nat} {S:SvS} {N:Nat}
theorem q8g (hn:dN N S) (hN:N<999998) {vo va vc:Value} {go ga gc gJ gW gZ:List ak} (hr:Y6 L sb S vo va vc go ga gc) (hi:kI L S gJ gW gZ):Qa prog 59 #[Qb sb] [Xg sb L.fb vo va vc,go,ga,gc,gJ,gW,gZ] fun e gs =>
 ∃ v gl dP gM cu,e=U3 v/\Q3 3 1 v S.bZ.length (zC S.bZ) gl/\kI L S dP gM cu/\gs=[Xg sb L.fb vo va vc,go,ga,gc,dP,gM,cu,gl]:=by
 have HI:=Vh (show ∀ bx,_ from fun bx=>SG hn hr bx);have eg:=enters_of func168 (P:=prog) (by kernel_rfl) rfl;have uY:=Vh hn;have ji:=Vh hi;have htl:=Tk hn;refine GO fun w HT=>?_
 clear hr hi hn;refine Zo func59 rfl ?_
 simp only [ntmps59,Vs,UQ,US,Nat.reduceAdd,Nat.reduceSub,Vm,Vn,Vt,Vp,UL,UK];go_wp2_with fail
 obtain ⟨lb,hlb⟩:∃ lb,w.heap.size=lb:=⟨_,rfl⟩;have HT:=Vh (HT.out.alloc (k:=lb) hlb.symm 64 #[.slice none 0 0]);rw [hlb];clear hlb;go_wp2_with fail
 refine Qa.run (Rb sb) (HT) [] ?_
 rintro e w1 gs ⟨bx,rfl,rfl⟩ HT;simp only [PU] at HT;have T0:=HT.re (H':=[Xg sb L.fb vo va vc,go,ga,gc,gJ,gW,gZ,[cl lb 64 #[.slice none 0 0]],[]]++[[cl bx 102 #[Qb sb]]]) (by simp);go_wp2_with fail
 refine Aq (H0:=[Xg sb L.fb vo va vc,go,ga,gc,gJ,gW,gZ,[cl lb 64 #[.slice none 0 0]],[]]) (O0:=[[cl bx 102 #[Qb sb]]]) rfl eg (HI bx) ?hps T0 ?hO (fun (k:Nat) H=>∃ v gl iP iZ jT,H=[Xg sb L.fb vo va vc,go,ga,gc,iP,iZ,jT,[cl lb 64 #[v]],gl]/\kI L S iP iZ jT/\Q3 3 1 v (S.dA k).length (zC (S.dA k)) gl) (fun _ _ _=>False) ?h0 ?hT ?hbody ?hdone ?hstop
 case hps =>
  rintro s x G s' ⟨hx,_⟩;obtain ⟨t,_,rfl⟩:=VB.1 (U4 hx);rfl
 case hO=>exact rfl
 case h0=>exact ⟨_,[],gJ,gW,gZ,rfl,ji,(show Q3 3 1 (.slice none 0 0) 0 [] [] from X7 _ _)⟩
 case hT=>rintro s H K ⟨v,gl,iP,iZ,jT,rfl,_⟩;exact ⟨0,1,3,rfl,rfl,rfl,by simp,by simp,by simp⟩
 case hbody =>
  rintro (k:Nat) x G (k':Nat) H W ly ⟨v,gl,iP,iZ,jT,rfl,hi1,hr1⟩ ⟨hx,rfl,rfl⟩ hH;rw [U7] at hx
  obtain ⟨t,ht,rfl⟩:∃ t,S.iH[k]?=some t/\uf S t=x:=by
   cases h:S.iH[k]? with
   | none=>rw [h] at hx;cases hx
   | some t=>rw [h] at hx;exact ⟨t,rfl,by cases hx;rfl⟩
  obtain ⟨nt,t⟩:=t;have Ip:=qwl S k;have hms:=qo5 ht;have nP:=q9z uY (yR uY (U4 ht)) hi1.j hi1.w hi1.z hN;have hinv:=q5n S t;have nN:=q5m S t;obtain ⟨zG,hty⟩:∃ y,t.ty S=y:=⟨_,rfl⟩;obtain ⟨fV,fM⟩:∃ y,t.jR S=y:=⟨_,rfl⟩;obtain ⟨bV,hbv⟩:∃ y,t.b S=y:=⟨_,rfl⟩;unfold uf;simp only at hms nP |-;rw [hty,fM] at hinv;rw [fM] at nN;rw [hty,hbv];rw [fM,hbv] at nP;have HM:=Vh nP;have uX:=Vh hms;have HH:=Vh hH;have HR:=Vh hr1;obtain ⟨av,cap,hv⟩:=Q3.val hr1;subst hv;clear hH hr1 hi1 ht hx nP hms hty fM hbv;refine Zm (n:=9) ?_
  gi_wp2
  refine ⟨_,TG.refl HH,fun Wb hb=>?_⟩
  have HT:=Vh (TG.refl hb);clear hb HH;refine Zm (n:=9) ?_
  gi_wp2
  refine ⟨trivial,(JH (Qa.use HM HT [4,5,6] rfl rfl)).mono ?_⟩
  rintro e W1 ⟨gs,⟨kE,l5,rM,rfl,hj2,hw2,hz2,rfl⟩,Ta⟩;simp only [j3,UX,UY,UE] at Ta;have HI2:=Vh (show kI L S kE l5 rM from ⟨hj2,hw2,hz2⟩);cases hm:t.may S with
  | false =>
    rw [hm] at uX;have uX:=Vh (show S.dA (k+1)=S.dA k by rw [uX.out];exact UE _);have HT:=Vh Ta;clear Ta hj2 hw2 hz2 hinv nN;gi_wp2
    exact ⟨_,⟨_,gl,kE,l5,rM,rfl,HI2,by rw [uX.out];exact HR⟩,HT⟩
  | true =>
    rw [hm] at uX;have uX:=Vh (show S.dA (k+1)=S.dA k++[nt] from uX.out);have HT:=Vh Ta;have c0:=Ta.c 7 0 0;have f0:=Ta.f 7 0 0;simp only [bP] at c0;clear Ta hj2 hw2 hz2 hinv nN;obtain ⟨M,hM⟩:∃ M,(S.dA k).length=M:=⟨_,rfl⟩;rw [hM] at HT HR c0 Ip;have ho2:M+1<=maxLen:=by unfold maxLen;omega
    have ho3:(M+1)*8<=140737488355328:=by omega
    have ho4:M<=2000:=by omega
    gi_wp2_with (
     gi_at_builtin
     with_reducible refine Ju rfl (.tmp 12) (.tmp 14) 64 rfl 3 1 8 _ underlying64 q0m rfl (by decide) (HT.out.aT _) 8 rfl rfl HR.out rfl ⟨W1.heap.size,0,none⟩ 1 1 [U2 U1 (nt:Nat)] rfl rfl (Zy _ _ _) (by simp [Value.oneCell']) ho2 ho3 ?_;skip)
    ·intro v1 w2 g1 r1 T1
     have T1:=T1.eq (H':=[Xg sb L.fb vo va vc,go,ga,gc,kE,l5,rM,[cl lb 64 #[.slice av M cap]],g1]) rfl;have c1:=T1.c 7 0 0;have f1:=T1.f 7 0 0;obtain ⟨a1,di,hv1⟩:=Q3.val r1;subst hv1;have T1:=Vh T1;have r1:=Vh r1;simp only [bP] at c1;gi_wp2
     have e1:(S.dA (k+1)).length=M+1:=by rw [uX.out,UM,hM];rfl
     have e2:zC (S.dA (k+1))=zC (S.dA k)++[U2 U1 (nt:Nat)]:=by rw [uX.out];exact Vx ..
     exact ⟨[Xg sb L.fb vo va vc,go,ga,gc,kE,l5,rM,[cl lb 64 #[.slice a1 (M+1) di]],g1],⟨_,g1,kE,l5,rM,rfl,HI2,by rw [e1,e2];exact r1.out⟩,by rw [hM];exact (T1.set 7 0 rfl 0 (.slice a1 (M+1) di)).eq (by rfl)⟩
 case hdone =>
  rintro (k:Nat) H O' W D hf' ⟨v,gl,iP,iZ,jT,rfl,hi1,hr1⟩ hO hT
  have hf2:k=S.iH.length:=by
   have:k=(S.iH.map (uf S)).length:=hf';rwa [UA] at this
  subst hf2;rw [qs4] at hr1;have l8:O'=[[cl bx 102 #[Qb sb]]]:=hO;subst l8;have c0:=hT.c 7 0 0;simp only [bP] at c0;have HX:=Vh (Vg hi1 (Vg hr1 hT));obtain ⟨av,cap,hv⟩:=Q3.val hr1;subst hv;clear hi1 hr1 hT hf' hO;go_wp2
  obtain ⟨hi1,hr1,hT⟩:=HX.out;have T3:=hT.dE (.deferred none)
  have T4:TG [Xg sb L.fb vo va vc,go,ga,gc,gJ,gW,gZ] w ([Xg sb L.fb vo va vc,go,ga,gc,iP,iZ,jT,gl]++[[cl lb 64 #[.slice av S.bZ.length cap],cl bx 102 #[Qb sb],(D,.deferred none)]]) (W.putObj D (.deferred none)):=T3.re (by
   classical
   simp only [UU,V6,Ve,UE,UK,UL];refine UW.2 fun a=>?_
   simp only [V7,Vi,Vk]
   omega)
  exact J4 (v:=.slice av S.bZ.length cap) hT.has.last (by simp [results,results59,go_sem]) ⟨_,⟨_,gl,iP,iZ,jT,rfl,hr1,hi1,rfl⟩,T4.dropLast⟩
 case hstop=>intro s cd H O W D h;exact h.elim
end
end
section
open Go.RowKit Go.Shelf
attribute [local go_sem] UR
theorem Z3 {w:Wk} {z:ZF} (h:w.may z=true):w.done=false:=by
 cases w with
 | call s k =>
   have:(!s.isNil)=true:=h
   show s.isNil=false
   cases hs:s.isNil
   ·rfl
   ·rw [hs] at this;cases this
 | turn s k =>
   cases s with
   | nil=>cases h
   | _=>rfl
 | dM s k =>
   cases s with
   | nil=>cases h
   | _=>rfl
theorem qpo (w:Wk) (z:ZF):(w.step z).1.isTurn=w.isTurn:=by cases w <;> rfl
theorem q49 (w:Wk) (z:ZF):(w.step z).1.ty=w.ty:=by cases w <;> rfl
section
variable {S:SvS} {N:Nat} {t:Th}
theorem Ay {α:Type} {l:List α} {a b:Nat} {x y:α} (h:(l.set a x)[b]?=some y):(b=a/\y=x)\/(b≠a/\l[b]?=some y):=by
 rw [UJ] at h;split at h
 ·next hab =>
  split at h
  ·exact .inl ⟨hab.symm,(UT h).symm⟩
  ·cases h
 ·next hab=>exact .inr ⟨fun e=>hab e.symm,h⟩
theorem On (hn:dN N S) (ht:t.here S) (hN:N<999998) (hm:t.may S=true):dN (N+1) (t.step S):=by
 cases t with
 | eY a =>
   have hk:=Xd ht;obtain ⟨hjn,hn0,hn1⟩:=hn.eT _ (U4 hk);have hm':(S.af a).w.may S.z=true:=hm;have hnd:=Z3 hm';obtain ⟨h1,h2,h3,h4,h5⟩:=K4 hn.eF hjn hm' (by omega)
   refine ⟨h1,?_,fun c hc=>(hn.aP c hc).mono (by omega),fun k hk'=>by
    show k<(S.all.set a _).length
    rw [UF];exact hn.own k hk',hn.ol,hn.cl,by
    show (S.all.set a _).length<=_
    have:=hn.al
    rw [UF];omega,?_⟩
   ·intro j hj
    obtain ⟨b,hb⟩:=List.mem_iff_getElem?.1 hj;rcases Ay hb with ⟨_,rfl⟩ | ⟨hne,hb⟩
    ·exact ⟨h2,by show 0<=(S.af a).n+1;omega,by show (S.af a).n+1<=_;omega⟩
    ·obtain ⟨g1,g2,g3⟩:=hn.eT j (U4 hb)
     refine ⟨(g1.mono (M:=N+1) (by omega)).frame h3 (fun hjt=>?_),g2,by omega⟩
     cases hst:(S.af a).w.isTurn with
     | false=>exact .inl (h4 hst)
     | true =>
       right
       cases hd:j.w.done with
       | true=>rfl
       | false =>
         have e1:=hn.turn a _ hk hst hnd;have e2:=hn.turn b j hb hjt hd;rw [e1] at e2;cases e2
         exact absurd rfl hne
   ·intro b j hb hjt hd
    rcases Ay hb with ⟨rfl,rfl⟩ | ⟨hne,hb⟩
    ·exact hn.turn b _ hk (by rw [<- qpo (S.af b).w S.z];exact hjt) hnd
    ·exact hn.turn b j hb hjt hd
 | gY i =>
   have hk:=Jo ht;have hcn:=hn.aP _ (U4 hk);obtain ⟨_,h1,h2,h3,h4⟩:=OW hcn hn.eF hN
   refine ⟨h2,fun j hj=>?_,fun c hc=>?_,hn.own,hn.ol,by
    show (S.aP.set i _).length<=_
    rw [UF];exact hn.cl,by have:=hn.al;show S.all.length<=_;omega,hn.turn⟩
   ·obtain ⟨g1,g2,g3⟩:=hn.eT j hj
    exact ⟨(g1.mono (M:=N+1) (by omega)).frame h3 (fun _=>.inl h4),g2,by omega⟩
   ·rcases V8 hc with hc | rfl
    ·exact (hn.aP c hc).mono (by omega)
    ·exact h1
theorem OB {α β:Type} {f:α->β} {l:List α} {a:Nat} {x y:α} (h:l[a]?=some x) (hf:f y=f x):(l.set a y).map f=l.map f:=by
 rw [Vf,hf,<- Vf];obtain ⟨h1,h2⟩:=U8.1 h;rw [<- h2,List.set_getElem_self]
theorem F3 (ht:t.here S):(t.step S).all.map oN=S.all.map oN:=by
 cases t with
 | eY a =>
   refine OB (Xd ht) ?_
   unfold oN;simp only [q49]
 | gY i=>rfl
theorem q48 (ht:t.here S):(t.step S).os.map kF=S.os.map kF:=by
 unfold SvS.os;have ho:(t.step S).own=S.own:=by cases t <;> rfl
 rw [ho,Vq,Vq];refine List.map_congr_left fun o ho=>?_
 cases o with
 | none=>rfl
 | some b =>
   have h1:((t.step S).all.map oN)[b]?=(S.all.map oN)[b]?:=by rw [F3 ht]
   have hl:(t.step S).all.length=S.all.length:=by
    have:=congrArg Vv (F3 ht);simpa using this
   show Vw ((t.step S).af b).w.ty (Qb ((t.step S).af b).kb)=Vw (S.af b).w.ty (Qb (S.af b).kb)
   by_cases hb:b<S.all.length
   ·rw [U7,U7,Xd hb,Xd (S:=t.step S) (by omega)] at h1
    exact UT h1
   ·have e1:S.af b=xq:=by unfold SvS.af;rw [U5,Vl (by omega)];rfl
    have e2:(t.step S).af b=xq:=by unfold SvS.af;rw [U5,Vl (by omega)];rfl
    rw [e1,e2]
theorem Ti (ht:t.here S):(t.step S).ps=S.ps:=by
 cases t with
 | eY a=>rfl
 | gY i=>exact OB (Jo ht) rfl
theorem qxz {L:Lay} {sb:Nat} {vo va vc:Value} {go ga gc:List ak} (ht:t.here S) (h:Y6 L sb S vo va vc go ga gc):Y6 L sb (t.step S) vo va vc go ga gc:=by
 have h1:=congrArg Vv (F3 ht);have h2:=congrArg Vv (Ti ht);simp only [UA,SvS.ps] at h1 h2;have ho:(t.step S).own=S.own:=by cases t <;> rfl
 exact ⟨by rw [q48 ht,ho];exact h.o,by rw [F3 ht,h1];exact h.a,by rw [Ti ht,h2];exact h.c⟩
end
def SvS.fA (S:SvS) (at_:Int):Option (Nat × Th):=S.iH.find? fun t=>decide ((t.1:Int)=at_) && t.2.may S
def SvS.stepS (S:SvS) (at_:Int):SvS × Int :=
 if at_<0\/(S.own.length:Int)+S.aP.length<=at_ then (S,4)
 else match S.fA at_ with
  | some t=>(t.2.step S,0)
  | none=>(S,7)
theorem Sy {α:Type} {p:α->Bool}:∀ {l:List α} {k:Nat} {x:α},l[k]?=some x->(∀ y∈l.take k,p y=false)->p x=true->l.find? p=some x
 | [],_,_,h,_,_=>by cases h
 | a::l,0,x,h,_,hx=>by cases h;exact List.find?_cons_of_pos hx
 | a::l,k+1,x,h,hy,hx=>by
   rw [List.find?_cons_of_neg (by rw [hy a (by simp)];decide)];exact Sy (l:=l) (k:=k) h (fun y hy'=>hy y (by rw [List.take_succ_cons];exact Vo _ hy')) hx
theorem Tg {N:Nat} {S:SvS} (hn:dN N S) (hN:N<999998) (i:Int):dN (N+1) (S.stepS i).1:=by
 unfold SvS.stepS;split
 ·exact hn.mono (by omega)
 ·split
  ·next t ht =>
   have hp:=List.find?_some ht;have hm:=V9 ht;simp only [Bool.and_eq_true] at hp;exact On hn (yR hn hm) hN hp.2
  ·exact hn.mono (by omega)
end
section
open Go.RowKit Go.Shelf
def kJ:Wk->Int
 | .call s k=>uT s k
 | .turn s _=>Ag s
 | .dM _ _=>0
def zd:SS->Q2->Prop
 | .at (some .idle) _,p=>p.shut=true
 | _,_=>True
def EO (z:ZF):Wk->Prop
 | .call s k=>vR s k/\xC s k
 | .turn s k=>qD s z.x
 | .dM s k=>zd s z.p
def Jq (l:List Int):Int:=l.foldr (·+·) 0
structure qz (S:SvS):Prop where
 go:∀ (a:Nat) (j:Jw),S.all[a]?=some j->EO S.z j.w
 ins:S.z.x.f.inside=Jq (S.all.map fun j=>kJ j.w)
 rg:jk (S.all.map fun j=>j.w.tk) S.z.x.rg
 who:∀ i,(S.z.x.au.getD i (Qr 1)).who≠0->∃ (a:Nat) (j:Jw) (s:ST) (k:Xi),S.all[a]?=some j/\j.w=.turn s k/\Fj s/\k.s=some i
 busy:S.z.x.f.busy=Jq (S.aP.map fun c=>(c.k.holds.length:Int))
 own:∀ (a:Nat) (j:Jw),S.all[a]?=some j->j.w.done=false->∃ i:Nat,S.own[i]?=some (some a)
 aP:1<=S.aP.length
theorem qp {α:Type} {f:α->Int}:∀ {l:List α} {a:Nat} {x y:α},l[a]?=some x->Jq ((l.set a y).map f)=Jq (l.map f) - f x+f y
 | b::l,0,x,y,h=>by
   simp only [UN,Vu] at h;subst h
   show f y+Jq (l.map f)=f b+Jq (l.map f) - f b+f y
   omega
 | b::l,a+1,x,y,h=>by
   have:=qp (f:=f) (l:=l) (a:=a) (y:=y) h
   show f b+Jq ((l.set a y).map f)=f b+Jq (l.map f) - f x+f y
   rw [this];omega
theorem zy {α:Type} {f:α->Int}:∀ {l:List α} {a:Nat} {x:α},(∀ x,0<=f x)->l[a]?=some x->f x<=Jq (l.map f)
 | b::l,0,x,hf,h=>by
   simp only [UN,Vu] at h;subst h;have:0<=Jq (l.map f):=tZ l hf
   show f b<=f b+Jq (l.map f)
   omega
 | b::l,a+1,x,hf,h=>by
   have:=zy (f:=f) (l:=l) (a:=a) hf h;have:=hf b
   show f x<=f b+Jq (l.map f)
   omega
where tZ {α:Type} {f:α->Int}:∀ l:List α,(∀ x,0<=f x)->0<=Jq (l.map f)
 | [],_=>U6 _
 | b::l,hf=>by
   have:=tZ l hf;have:=hf b
   show 0<=f b+Jq (l.map f)
   omega
theorem qa {α:Type} {f:α->Int}:∀ {l:List α},(∀ x∈l,f x=0)->Jq (l.map f)=0
 | [],_=>rfl
 | b::l,h=>by
   have h1:=qa (f:=f) (l:=l) (fun x hx=>h x (Vo _ hx));have h2:=h b List.mem_cons_self
   show f b+Jq (l.map f)=0
   omega
theorem KY {α:Type} {f:α->Int} (l:List α) (x:α):Jq ((l++[x]).map f)=Jq (l.map f)+f x:=by
 induction l with
 | nil=>show f x+0=0+f x;omega
 | cons b l ih =>
   show f b+Jq ((l++[x]).map f)=f b+Jq (l.map f)+f x
   rw [ih];omega
theorem FY (w:Wk):0<=kJ w:=by
 cases w with
 | call s k=>show 0<=uT s k;unfold uT;split <;> first | exact U6 _ | (split <;> decide)
 | turn s k=>show 0<=Ag s;unfold Ag;split <;> decide
 | dM s k=>exact U6 _
def tq (x x':Qi):Prop:=∀ i r',x'.rg i=some r'->∃ r,x.rg i=some r/\r.tail - r.head<=r'.tail - r'.head
theorem tq.same {x x':Qi} (h:x'.rg=x.rg):tq x x':=fun i r' hr=>⟨r',by rw [<- h];exact hr,U6 _⟩
theorem S7 {x x':Qi} (h:tq x x') {n:Int} {i:Nat} (hp:qZ n i x):qZ n i x':=fun r' hr=>by
 obtain ⟨r,h1,h2⟩:=h i r' hr;have:=hp r h1;omega
theorem D7 {x x':Qi} (h:tq x x') {s:ST} (hf:qD s x):qD s x':=by
 revert hf
 unfold qD;split
 ·exact fun hf=>⟨hf.1,S7 h hf.2⟩
 ·exact fun hf=>S7 h hf
 ·exact fun _=>trivial
theorem qxw (r:Qz) (t:Xz):(stepT r t).1.head=r.head/\r.tail<=(stepT r t).1.tail:=by
 unfold stepT qP pV o9;split
 ·exact ⟨rfl,U6 _⟩
 ·split
  ·exact ⟨rfl,U6 _⟩
  ·split
   ·exact ⟨rfl,U6 _⟩
   ·split
    ·exact ⟨rfl,by show r.tail<=t.pos+1;omega⟩
    ·exact ⟨rfl,U6 _⟩
theorem qvw (r:Qz) (t:Xz) (v:Qp):(Zp r t v).1.head=r.head/\(Zp r t v).1.tail=r.tail:=by
 unfold Zp;split <;> exact ⟨rfl,rfl⟩
theorem qz6 {f:Prop} {k k':Qv} {x x':Qi} (e:wI f k k' x x'):tq x x':=by
 have hrg:∀ {i:Nat} {s:Qu},x.au[i]?=some s->x.rg i=some s.ring:=fun hs=>by unfold Qi.rg;rw [hs];rfl
 cases e with
 | none h1 h2=>exact tq.same (z6 h1)
 | new h1 h0 i hi h2=>exact tq.same (z6 h1)
 | step i t s h0 ht hf hs h1 h2 =>
   intro n r' hr;rw [yU hs h1] at hr;rcases Y2 hr with ⟨rfl,rfl⟩ | ⟨_,hr⟩
   ·have:=qxw s.ring t
    exact ⟨_,hrg hs,by omega⟩
   ·exact ⟨r',hr,U6 _⟩
 | fill i t s v h0 ht hf hs hv h1 h2 =>
   intro n r' hr;rw [yU hs h1] at hr;rcases Y2 hr with ⟨rfl,rfl⟩ | ⟨_,hr⟩
   ·have:=qvw s.ring t v
    exact ⟨_,hrg hs,by omega⟩
   ·exact ⟨r',hr,U6 _⟩
section
variable {N:Nat} {S:SvS}
theorem RI {α β:Type} (f:α->β) (l:List α) (a:Nat) (x:α):(l.set a x).map f=(l.map f).set a (f x):=Vf ..
theorem x9 {α β:Type} {f:α->β} {l:List α} {a:Nat} {x:α} (h:l[a]?=some x):(l.map f)[a]?=some (f x):=by rw [U7,h];rfl
theorem Lc (hn:dN N S) (h:qz S) {a:Nat} {j:Jw} {s:ST} {k:Xi} (ha:S.all[a]?=some j) (hj:j.w=.turn s k) (hd:s.isNil=false):yJ s k S.z.x:=by
 intro i hi;obtain ⟨b,jb,s2,k2,h1,h2,h3,h4⟩:=h.who i hi
 have hnil:s2.isNil=false:=by cases s2 with
  | nil=>exact h3.elim
  | _=>rfl
 have e1:=hn.turn a j ha (by rw [hj];rfl) (by rw [hj];exact hd);have e2:=hn.turn b jb h1 (by rw [h2];rfl) (by rw [h2];exact hnil);rw [e1] at e2;cases e2
 rw [ha] at h1;cases h1
 rw [hj] at h2;cases h2
 exact ⟨h3,h4⟩
theorem Lb (hn:dN N S) (h:qz S) {a:Nat} {j:Jw} (ha:S.all[a]?=some j) (hd:j.w.done=false) (n':Int) {w':Wk} {z':ZF}
 (h1:EO z' w') (h2:z'.x.f.inside=S.z.x.f.inside+kJ w' - kJ j.w) (h3:jk ((S.all.map fun j=>j.w.tk).set a w'.tk) z'.x.rg)
 (h4:∀ (b:Nat) (jb:Jw),b≠a->S.all[b]?=some jb->EO z' jb.w)
 (h5:∀ i,(z'.x.au.getD i (Qr 1)).who≠0->(∃ s k,w'=.turn s k/\Fj s/\k.s=some i)\/((S.z.x.au.getD i (Qr 1)).who≠0/\j.w.isTurn=false))
 (h6:z'.x.f.busy=S.z.x.f.busy):qz { S with all:=S.all.set a ⟨j.kb,n',w'⟩,z:=z' }:=by
 refine ⟨fun b jb hb=>?_,?_,?_,fun i hi=>?_,by rw [show ({ S with all:=S.all.set a ⟨j.kb,n',w'⟩,z:=z' }:SvS).z.x.f.busy=z'.x.f.busy from rfl,h6];exact h.busy,fun b jb hb hdb=>?_,h.aP⟩
 ·rcases Ay hb with ⟨_,rfl⟩ | ⟨hne,hb⟩
  ·exact h1
  ·exact h4 b jb hne hb
 ·show z'.x.f.inside=Jq ((S.all.set a ⟨j.kb,n',w'⟩).map fun j=>kJ j.w)
  rw [qp (f:=fun j:Jw=>kJ j.w) ha,h2,h.ins]
  show _+kJ w' - kJ j.w=_ - kJ j.w+kJ w'
  omega
 ·show jk ((S.all.set a ⟨j.kb,n',w'⟩).map fun j=>j.w.tk) z'.x.rg
  rw [RI];exact h3
 ·rcases h5 i hi with ⟨s,k,e1,e2,e3⟩ | ⟨hw,hit⟩
  ·exact ⟨a,_,s,k,get_set_same ha,e1,e2,e3⟩
  ·obtain ⟨b,jb,s2,k2,g1,g2,g3,g4⟩:=h.who i hw
   refine ⟨b,jb,s2,k2,vX g1 (fun e=>?_),g2,g3,g4⟩
   subst e;rw [ha] at g1;cases g1
   rw [g2] at hit;cases hit
 ·rcases Ay hb with ⟨rfl,_⟩ | ⟨hne,hb⟩
  ·exact h.own b j ha hd
  ·exact h.own b jb hb hdb
theorem qwd (hn:dN N S) (h:qz S) {a:Nat} {j:Jw} (ha:S.all[a]?=some j) {s:SC} {k:Qv} (hj:j.w=.call s k) (hd:s.isNil=false) (n':Int):qz { S with all:=S.all.set a ⟨j.kb,n',(j.w.step S.z).1⟩,z:=(j.w.step S.z).2 }:=by
 obtain ⟨hjn,_,_⟩:=hn.eT _ (U4 ha);have hgo:=h.go a j ha;have jV:kJ j.w<=S.z.x.f.inside:=by rw [h.ins];exact zy (f:=fun j:Jw=>kJ j.w) (fun x=>FY x.w) ha
 rw [hj] at hjn hgo jV;have hjc:JC N s (k,S.z.x):=⟨hn.eF.zn.core,hjn.wk,hjn.fit⟩;have g:=LQ hjc hgo.1 hgo.2 jV;obtain ⟨q1,_⟩:=Rs hjc hjn.gen;have hT:(S.all.map fun j=>j.w.tk)[a]?=some k.tk:=by rw [x9 ha,hj];rfl
 have hwin:=qz6 g.uA;refine Lb hn h ha (by rw [hj];exact hd) n' ?_ ?_ ?_ (fun b jb hne hb=>?_) (fun i hi=>?_) ?_
 ·rw [hj];exact ⟨g.fit,g.tk⟩
 ·rw [hj];exact g.ins
 ·rw [hj];exact qvj h.rg hT hjn.wk g.uA
 ·have:=h.go b jb hb
  rw [hj];revert this
  cases jb.w with
  | call s2 k2=>exact fun e=>e
  | turn s2 k2=>exact fun e=>D7 hwin e
  | dM s2 k2=>exact fun e=>e
 ·rw [hj] at hi |-
  exact .inr ⟨by rw [<- q1.who i];exact hi,rfl⟩
 ·rw [hj];exact q1.busy
theorem qwe (hn:dN N S) (h:qz S) {a:Nat} {j:Jw} (ha:S.all[a]?=some j) {s:ST} {k:Xi} (hj:j.w=.turn s k) (hm:j.w.may S.z=true) (n':Int):qz { S with all:=S.all.set a ⟨j.kb,n',(j.w.step S.z).1⟩,z:=(j.w.step S.z).2 }:=by
 have hd:=Z3 hm;obtain ⟨hjn,_,_⟩:=hn.eT _ (U4 ha);have hgo:=h.go a j ha;have jV:kJ j.w<=S.z.x.f.inside:=by rw [h.ins];exact zy (f:=fun j:Jw=>kJ j.w) (fun x=>FY x.w) ha
 rw [hj] at hjn hgo jV hm;have hd':s.isNil=false:=by rw [hj] at hd;exact hd
 have hb:TB N ⟨k,S.z.x,S.z.ws,S.z.p⟩:=⟨hn.eF.zn.core,hn.eF.zn.rest,hjn.wk,hn.eF.ws,hn.eF.iT⟩;have g:=q22 (s:=s) hb hjn.fit hm hgo jV (Lc hn h ha hj hd') h.rg.ring;have q:=Sf s ⟨k,S.z.x,S.z.ws,S.z.p⟩;have hT:(S.all.map fun j=>j.w.tk)[a]?=some none:=by rw [x9 ha,hj];rfl
 have Iq:jk ((S.all.map fun j=>j.w.tk).set a none) (Qy s ⟨k,S.z.x,S.z.ws,S.z.p⟩).2.x.rg:=by
  rw [LZ hT];rcases g.rings with e | ⟨i,r,e1,e2,e3⟩
  ·rw [e];exact h.rg
  ·rw [e3];exact h.rg.pop e1 e2
 refine Lb hn h ha hd n' ?_ ?_ ?_ (fun b jb hne hb=>?_) (fun i hi=>?_) ?_
 ·rw [hj];exact g.fit
 ·rw [hj];exact g.ins
 ·rw [hj];exact Iq
 ·have hg:=h.go b jb hb
  rw [hj];cases hw:jb.w with
  | call s2 k2=>rw [hw] at hg;exact hg
  | turn s2 k2 =>
    have hnil:s2=.nil:=by
     refine UG fun hne2=>?_
     have hd2:s2.isNil=false:=by cases s2 with
      | nil=>exact absurd rfl hne2
      | _=>rfl
     have e1:=hn.turn a j ha (by rw [hj];rfl) hd;have e2:=hn.turn b jb hb (by rw [hw];rfl) (by rw [hw];exact hd2);rw [e1] at e2;cases e2
     exact hne rfl
    subst hnil;trivial
  | dM s2 k2 =>
    rw [hw] at hg
    show zd s2 (Qy s ⟨k,S.z.x,S.z.ws,S.z.p⟩).2.p
    have hg:zd s2 S.z.p:=hg;revert hg
    unfold zd;split
    ·exact fun e=>by rw [q.shut];exact e
    ·exact fun _=>trivial
 ·rw [hj] at hi
  obtain ⟨e1,e2⟩:=g.who i hi;exact .inl ⟨_,_,by rw [hj];rfl,e1,e2⟩
 ·rw [hj];exact q.busy
structure Ob (z z':ZS):Prop where
 inside:z'.x.f.inside=z.x.f.inside
 shut:z.p.shut=true->z'.p.shut=true
theorem q3y (s:SS) (z:ZS):Ob z (stepS s z).2:=by
 refine St.keep (R:=Ob) (runM:=Xy) (bN:=Yc) (fun z=>⟨rfl,id⟩) (fun _ _ _ a b=>⟨b.inside.trans a.inside,fun e=>b.shut (a.shut e)⟩) (fun m z=>?_) (fun a z=>?_) s z
 ·cases m with
  | shuts=>dsimp only [Xy];split <;> exact ⟨rfl,id⟩
  | bO=>exact ⟨rfl,id⟩
  | aA i=>exact ⟨rfl,id⟩
  | waits=>exact ⟨rfl,id⟩
  | bH i=>dsimp only [Xy];split <;> exact ⟨rfl,id⟩
  | aC i=>dsimp only [Xy];split <;> exact ⟨rfl,id⟩
  | cO=>exact ⟨rfl,id⟩
 ·cases a with
  | dC=>exact ⟨rfl,fun _=>rfl⟩
  | _=>exact ⟨rfl,id⟩
theorem qe (i:Int) (z:ZS) (p:Q2):zd (Zz i z) p:=by
 unfold Zz sP;split <;> trivial
theorem qzs {s:SS} {z:ZS} (hf:xk s z.k) (hm:sQ s z=true):zd (stepS s z).1 (stepS s z).2.p:=by
 have vM:∀ (X:SS) (m:MS),(∀ z:ZS,zd (Xy m z).1 (Xy m z).2.p)->zd (Qe Xy (St.run Xy Yc X z).1 m (St.run Xy Yc X z).2).1 (Qe Xy (St.run Xy Yc X z).1 m (St.run Xy Yc X z).2).2.p:=by
  intro X m hmm;by_cases e:(St.run Xy Yc X z).1=.nil
  ·rw [e];exact hmm _
  ·rw [Xx e];trivial
 match s,hf,hm with
 | .nil,_,hm=>exact absurd hm (by simp [sQ,St.may])
 | .at none .shuts,_,_ =>
   show zd ((if z.x.f.closed=true then (.aj .aS,{ (z.note { bL with kind:=9,err:=3 }) with k:={ z.k with err:=3,ok:=false,fq:=false } }) else (.at (some .inside) .bO,({ z with x:={ z.x with f:={ z.x.f with closed:=true } } }:ZS).note { bL with kind:=10 })):SS × ZS).1 _
   split <;> trivial
 | .at (some .inside) .bO,_,_=>exact qe 0 z _
 | .at (some .idle) .cO,_,_=>trivial
 | .aj .aS,_,_=>trivial
 | .thn (.aj .dC) .waits,_,_=>exact rfl
 | .thn (.at none (.bH i)) (.aA j),_,_=>exact vM _ _ fun z=>qe _ z _
 | .thn (.at none (.aC i)) (.aA j),_,_=>exact vM _ _ fun z=>qe _ z _
 | .thn (.aO (.release _) .drop) (.aA j),_,_=>exact vM _ _ fun z=>qe _ z _
 | .thn (.aj .drop) (.aA j),_,_=>exact vM _ _ fun z=>qe _ z _
theorem q0r (hn:dN N S) (h:qz S) {a:Nat} {j:Jw} (ha:S.all[a]?=some j) {s:SS} {k:Yw} (hj:j.w=.dM s k) (hm:j.w.may S.z=true) (n':Int):qz { S with all:=S.all.set a ⟨j.kb,n',(j.w.step S.z).1⟩,z:=(j.w.step S.z).2 }:=by
 have hd:=Z3 hm;obtain ⟨hjn,_,_⟩:=hn.eT _ (U4 ha);rw [hj] at hjn hm;have q:=FX s ⟨k,S.z.x,S.z.p⟩;have c:=q3y s ⟨k,S.z.x,S.z.p⟩;have w:=qzs (s:=s) (z:=⟨k,S.z.x,S.z.p⟩) hjn.fit hm;have hT:(S.all.map fun j=>j.w.tk)[a]?=some none:=by rw [x9 ha,hj];rfl
 have hrg:(stepS s ⟨k,S.z.x,S.z.p⟩).2.x.rg=S.z.x.rg:=z6 q.au;refine Lb hn h ha hd n' ?_ ?_ ?_ (fun b jb hne hb=>?_) (fun i hi=>?_) ?_
 ·rw [hj];exact w
 ·rw [hj];show (stepS s ⟨k,S.z.x,S.z.p⟩).2.x.f.inside=S.z.x.f.inside+0 - 0;rw [c.inside];show S.z.x.f.inside=_;omega
 ·rw [hj]
  show jk ((S.all.map fun j=>j.w.tk).set a none) (stepS s ⟨k,S.z.x,S.z.p⟩).2.x.rg
  rw [LZ hT,hrg];exact h.rg
 ·have hg:=h.go b jb hb
  rw [hj];revert hg
  cases jb.w with
  | call s2 k2=>exact fun e=>e
  | turn s2 k2=>exact fun e=>D7 (tq.same hrg) e
  | dM s2 k2 =>
    show zd s2 S.z.p->zd s2 (stepS s ⟨k,S.z.x,S.z.p⟩).2.p
    unfold zd;split
    ·exact c.shut
    ·exact id
 ·rw [hj] at hi |-
  refine .inr ⟨?_,rfl⟩
  have e:(stepS s ⟨k,S.z.x,S.z.p⟩).2.x.au=S.z.x.au:=q.au;rw [<- e];exact hi
 ·rw [hj];exact q.busy
theorem q0s (hn:dN N S) (h:qz S) (hN:N<999998) {i:Nat} {c:dz} (hc:S.aP[i]?=some c):qz { S with aP:=S.aP.set i (c.step S.z).1,z:=(c.step S.z).2 }:=by
 have hcn:=hn.aP _ (U4 hc);obtain ⟨wb,s,n,k⟩:=c;have hb:=h.busy;have hge:(k.holds.length:Int)<=S.z.x.f.busy:=by rw [hb];exact zy (f:=fun c:dz=>(c.k.holds.length:Int)) (fun x=>by omega) hc
 have hsum:=fun y=>qp (f:=fun c:dz=>(c.k.holds.length:Int)) (y:=y) hc
 obtain ⟨t1,t2,t3,t4⟩:=SQ hn.eF.zn.rest.ch;rcases hcn.fit with ⟨h1,h2⟩ | ⟨h1,h2⟩
 ·obtain rfl:s=J2:=h1
  have h2:k.holds=[]:=h2;refine ⟨fun a j ha=>?_,h.ins,h.rg,h.who,?_,h.own,by show 1<=(S.aP.set i _).length;rw [UF];exact h.aP⟩
  ·have:=h.go a j ha
   revert this
   cases j.w with
   | call s2 k2=>exact fun e=>e
   | turn s2 k2=>exact fun e=>D7 (x:=S.z.x) (x':={ S.z.x with f:={ S.z.x.f with busy:=S.z.x.f.busy+1 } }) (tq.same rfl) e
   | dM s2 k2 =>
     show zd s2 S.z.p->zd s2 S.z.p.take.1
     unfold zd;split
     ·exact fun e=>by rw [t4];exact e
     ·exact id
  ·show S.z.x.f.busy+1=Jq ((S.aP.set i _).map _)
   rw [hsum,<- hb]
   show _=_ - (k.holds.length:Int)+((k.holds++[_]).length:Int)
   rw [h2];simp
 ·obtain rfl:s=.thn (.aj .jD) .takes:=h1
  have h2:k.holds.length=1:=h2;refine ⟨fun a j ha=>?_,h.ins,h.rg,h.who,?_,h.own,by show 1<=(S.aP.set i _).length;rw [UF];exact h.aP⟩
  ·have:=h.go a j ha
   revert this
   cases j.w with
   | call s2 k2=>exact fun e=>e
   | turn s2 k2=>exact fun e=>D7 (x:=S.z.x) (x':={ S.z.x with f:={ S.z.x.f with busy:=Z5 S.z.x.f.busy } }) (tq.same rfl) e
   | dM s2 k2=>exact fun e=>e
  show Z5 S.z.x.f.busy=Jq ((S.aP.set i _).map _)
  rw [hsum,<- hb]
  show _=_ - (k.holds.length:Int)+(([]:List Xj).length:Int)
  unfold Z5;rw [if_neg (by omega),h2];simp
theorem q1h (hn:dN N S) (h:qz S) {t:Th} (ht:t.here S) (hN:N<999998) (hm:t.may S=true):qz (t.step S):=by
 cases t with
 | eY a =>
   have ha:=Xd ht;have hm:(S.af a).w.may S.z=true:=hm;have hd:=Z3 hm;cases hw:(S.af a).w with
   | call s k=>exact qwd hn h ha hw (by rw [hw] at hd;exact hd) _
   | turn s k=>exact qwe hn h ha hw hm _
   | dM s k=>exact q0r hn h ha hw hm _
 | gY i=>exact q0s hn h hN (Jo ht)
end
end
section
open Go.RowKit Go.Shelf
attribute [local go_sem] UR
theorem QV {P:Program} {fn:Func} {R:Ending->World->Prop} {tmps:Array Value} {W:World} {v:Value} (hres:(results fn tmps).run P W=.ok v W) (hR:R (U3 v) W) :
 bodyPostM Fence.wide 0 P fn R .ret { tmps,defers:=[] } W:=⟨_,hres,hR⟩
theorem Ol {a b:Value}:(#[a]:Array Value).setIfInBounds 0 b=#[b]:=rfl
section
variable {L:Lay} {sb:Nat} {S:SvS} {N:Nat}
theorem q5d (hn:dN N S) (hN:N<999998) {vo va vc:Value} {go ga gc gJ gW gZ:List ak} (hr:Y6 L sb S vo va vc go ga gc) (hi:kI L S gJ gW gZ) (i:Int):Qa prog 117 #[Qb sb,U2 U1 i] [Xg sb L.fb vo va vc,go,ga,gc,gJ,gW,gZ] fun e gs =>
 ∃ dP gM cu,e=U3 (U2 U1 (S.stepS i).2)/\kI L (S.stepS i).1 dP gM cu/\gs=[Xg sb L.fb vo va vc,go,ga,gc,dP,gM,cu]:=by
 have HI:=Vh (show ∀ bx,_ from fun bx=>SG hn hr bx);have eg:=enters_of func168 (P:=prog) (by kernel_rfl) rfl;have uY:=Vh hn;have ji:=Vh hi;obtain ⟨iO,dG,rfl⟩:=Q3.val hr.o;obtain ⟨qI,j6,rfl⟩:=Q3.val hr.c;have hol:=hn.ol;have hcl:=hn.cl;refine GO fun w HT=>?_
 clear hr hi hn;refine Zo func117 rfl ?_
 simp only [ntmps117,Vs,UQ,US,Nat.reduceAdd,Nat.reduceSub,Vm,Vn,Vt,Vp,UL,UK];go_wp2_with fail
 obtain ⟨ab,hab⟩:∃ ab,w.heap.size=ab:=⟨_,rfl⟩;have HT:=Vh ((HT.alloc (k:=ab) hab.symm 3 #[U2 U1 i]).alloc (k:=ab+1) (by simp [hab]) 26 #[U2 U1 0]);rw [hab];clear hab;generalize VD (VD w _) _=wb at HT |-;obtain ⟨rb,hrb⟩:∃ rb,ab+1=rb:=⟨_,rfl⟩;rw [hrb] at HT |-;clear hrb;obtain ⟨h1,h3⟩:=HT.c2 0 0 1 3;simp only [Xg,az] at h1 h3;have a0:=HT.c 7 0 0;simp only [aN] at a0;have r0:=HT.c 8 0 0;have cr:=HT.f 8 0 0;simp only [aN] at r0;have eO:=HT.l 0 0;have nU:=HT.l 8 0;simp only [] at eO nU;have BI:=Vh (show S.stepS i=if i<0\/(S.own.length:Int)+S.aP.length<=i then (S,(4:Int)) else match S.fA i with | some t=>(t.2.step S,0) | none=>(S,7) from rfl);by_cases hi0:i<0
 ·have HS:=Vh (show S.stepS i=(S,4) from BI.out.trans (if_pos (.inl hi0)))
  go_quiet ((fail))
  have HT:=Vh (HT.out.drewN nq);go_wp2
  have T9:=HT.set 8 0 rfl 0 (U2 U1 4);have z0:=T9.c 8 0 0;simp only [bP,Ol] at z0;refine QV (v:=U2 U1 4) (by simp [results,results117,go_sem,z0]) ?_
  have HS2:=HS.out;rw [HS2]
  first | exact ⟨_,⟨gJ,gW,gZ,rfl,ji,rfl⟩,T9.p [0,1,2,3,4,5,6]⟩ | exact ⟨_,⟨rfl,gJ,gW,gZ,ji,rfl⟩,T9.p [0,1,2,3,4,5,6]⟩
 ·by_cases hi1:(S.own.length:Int)+S.aP.length<=i
  ·have HS:=Vh (show S.stepS i=(S,4) from BI.out.trans (if_pos (.inr hi1)))
   go_quiet ((fail))
   have HT:=Vh (HT.out.drewN nq);go_wp2
   have T9:=HT.set 8 0 rfl 0 (U2 U1 4);have z0:=T9.c 8 0 0;simp only [bP,Ol] at z0;refine QV (v:=U2 U1 4) (by simp [results,results117,go_sem,z0]) ?_
   have HS2:=HS.out;rw [HS2]
   first | exact ⟨_,⟨gJ,gW,gZ,rfl,ji,rfl⟩,T9.p [0,1,2,3,4,5,6]⟩ | exact ⟨_,⟨rfl,gJ,gW,gZ,ji,rfl⟩,T9.p [0,1,2,3,4,5,6]⟩
  ·have HS:=Vh (show S.stepS i=match S.fA i with | some t=>(t.2.step S,0) | none=>(S,7) from BI.out.trans (if_neg (by omega)))
   go_quiet ((fail))
   have HT:=Vh (HT.out.drewN nq);clear h1 h3 a0 r0 cr hi0 hi1;go_wp2_with fail
   refine Qa.run (Rb sb) (HT) [] ?_
   rintro e w1 gs ⟨bx,rfl,rfl⟩ HT;simp only [PU] at HT;obtain ⟨hd,hhd⟩:∃ hd,Xg sb L.fb (.slice iO S.own.length dG) va (.slice qI S.aP.length j6)=hd:=⟨_,rfl⟩;obtain ⟨vo,hvo⟩:∃ vo,Value.slice iO S.own.length dG=vo:=⟨_,rfl⟩;have T0:=HT.re (H':=[Xg sb L.fb (.slice iO S.own.length dG) va (.slice qI S.aP.length j6),go,ga,gc,gJ,gW,gZ,[cl ab 3 #[U2 U1 i]],[cl rb 26 #[U2 U1 0]]]++[[cl bx 102 #[Qb sb]]]) (by simp);rw [hhd] at HI T0;clear hvo;go_wp2_with fail
   refine Aq (H0:=[hd,go,ga,gc,gJ,gW,gZ,[cl ab 3 #[U2 U1 i]],[cl rb 26 #[U2 U1 0]]]) (O0:=[[cl bx 102 #[Qb sb]]]) rfl eg (HI bx) ?hps T0 ?hO
    (fun (k:Nat) H=>∃ iP iZ jT,H=[hd,go,ga,gc,iP,iZ,jT,[cl ab 3 #[U2 U1 i]],[cl rb 26 #[U2 U1 0]]]/\kI L S iP iZ jT/\∀ t∈S.iH.take k,(decide ((t.1:Int)=i) && t.2.may S)=false)
    (fun _ cd H=>cd=.ret/\∃ t iP iZ jT,S.fA i=some t/\H=[hd,go,ga,gc,iP,iZ,jT,[cl ab 3 #[U2 U1 i]],[cl rb 26 #[U2 U1 0]]]/\kI L (t.2.step S) iP iZ jT) ?h0 ?hT ?hbody ?hdone ?hstop
   case hps =>
    rintro s x G s' ⟨hx,_⟩;obtain ⟨t,_,rfl⟩:=VB.1 (U4 hx);rfl
   case hO=>exact rfl
   case h0=>exact ⟨gJ,gW,gZ,rfl,ji,fun t ht=>by cases ht⟩
   case hT=>rintro s H K ⟨iP,iZ,jT,rfl,_⟩;exact ⟨0,1,3,rfl,rfl,rfl,by simp,by simp,by simp⟩
   case hbody =>
    rintro (k:Nat) x G (k':Nat) H W ly ⟨iP,iZ,jT,rfl,hi1,hno⟩ ⟨hx,rfl,rfl⟩ hH;rw [U7] at hx
    obtain ⟨t,ht,rfl⟩:∃ t,S.iH[k]?=some t/\uf S t=x:=by
     cases h:S.iH[k]? with
     | none=>rw [h] at hx;cases hx
     | some t=>rw [h] at hx;exact ⟨t,rfl,by cases hx;rfl⟩
    have vL:=fun hm=>q8o uY (yR uY (U4 ht)) hi1.j hi1.w hi1.z hN hm
    have vK:=fun hm=>Mf uY (yR uY (U4 ht)) hi1.j hi1.w hi1.z hN hm
    have M6:=Vh ht;have oh:=Vh hno;have HI1:=Vh hi1;obtain ⟨nt,t⟩:=t;simp only at vL vK;have hinv:=q1v S t;have nN:=q1u S t;obtain ⟨zG,hty⟩:∃ y,t.ty S=y:=⟨_,rfl⟩;obtain ⟨fV,fM⟩:∃ y,t.fB S=y:=⟨_,rfl⟩;obtain ⟨bV,hbv⟩:∃ y,t.b S=y:=⟨_,rfl⟩;unfold uf;simp only;rw [hty,fM] at hinv;rw [fM] at nN;rw [hty,hbv];rw [fM,hbv] at vL vK;have GI:=Vh vL;have GG:=Vh vK;have HH:=Vh hH
    have dK:=Vh (show ∀ b,(decide ((nt:Int)=i) && t.may S)=b->b=false->∀ u∈S.iH.take (k+1),(decide ((u.1:Int)=i) && u.2.may S)=false from fun b h1 h2 u hu=>by
     obtain ⟨h3,h4⟩:=U8.1 M6;rw [UI h3,h4] at hu;rcases Vy.1 hu with hu | hu
     ·exact oh u hu
     ·obtain rfl:u=(nt,t):=by simpa using hu
      exact h1.trans h2)
    clear hH hi1 ht hx vL vK hno hty fM hbv;refine Zm (n:=9) ?_
    gi_wp2
    refine ⟨_,TG.refl HH,fun Wb hb=>?_⟩
    have HT:=Vh (TG.refl hb);have a0:=HT.c 7 0 0;have r0:=HT.c 8 0 0;have cr:=HT.f 8 0 0;have nU:=HT.l 8 0;simp only [bP] at a0 r0 nU;clear hb HH;refine Zm (n:=9) ?_
    by_cases hit:(nt:Int)=i
    ·have hb1:((nt:Int) == i)=true:=by simpa using hit
     cases hm:t.may S with
     | true =>
       have HST:=Vh (GI.out hm);have HPK:=Vh (show S.fA i=some (nt,t) from Sy M6 oh (by simp [hit,hm]));clear hm;gi_wp2
       refine ⟨trivial,(JH (Qa.use HST HT [4,5,6] rfl rfl)).mono ?_⟩
       rintro e W1 ⟨gs,⟨kE,l5,rM,rfl,hj2,hw2,hz2,rfl⟩,Ta⟩;simp only [j3,UX,UY,UE] at Ta;have HI2:=Vh (show kI L (t.step S) kE l5 rM from ⟨hj2,hw2,hz2⟩);have df:=Ta.f 8 0 0;have nS:=Ta.l 8 0;have r1:=Ta.c 8 0 0;simp only [bP] at r1 nS;have HT:=Vh Ta;clear Ta hj2 hw2 hz2 hinv nN a0 r0 cr nU;gi_wp2
       exact ⟨_,⟨rfl,(nt,t),kE,l5,rM,HPK,rfl,HI2⟩,(HT.set 8 0 rfl 0 (U2 U1 0)).eq (by rfl)⟩
     | false =>
       have HST:=Vh (GG.out hm);have hb2:(decide ((nt:Int)=i) && t.may S)=false:=by rw [hm,Bool.and_false]
       have xY:=Vh (dK.out _ hb2 rfl);clear hb2 hm;gi_wp2
       refine ⟨trivial,(JH (Qa.use HST HT [4,5,6] rfl rfl)).mono ?_⟩
       rintro e W1 ⟨gs,⟨kE,l5,rM,rfl,hj2,hw2,hz2,rfl⟩,Ta⟩;simp only [j3,UX,UY,UE] at Ta;have HI2:=Vh (show kI L S kE l5 rM from ⟨hj2,hw2,hz2⟩);have HT:=Vh Ta;clear Ta hj2 hw2 hz2 hinv nN a0 r0 cr nU;gi_wp2
       exact ⟨_,⟨kE,l5,rM,rfl,HI2,xY⟩,HT⟩
    ·have hb1:((nt:Int) == i)=false:=by simpa using hit
     have hb2:(decide ((nt:Int)=i) && t.may S)=false:=by rw [decide_eq_false hit];rfl
     have xY:=Vh (dK.out _ hb2 rfl);clear hb2;gi_wp2
     all_goals (refine ⟨fun _ _=>trivial,?_⟩)
     all_goals
      gi_wp2
      exact ⟨_,⟨iP,iZ,jT,rfl,HI1,xY⟩,HT⟩
   case hdone =>
    rintro (k:Nat) H O' W D hf' ⟨iP,iZ,jT,rfl,hi1,hno⟩ hO hT
    have hf2:k=S.iH.length:=by
     have:k=(S.iH.map (uf S)).length:=hf';rwa [UA] at this
    subst hf2;rw [Vb] at hno
    have HS2:=Vh (show S.stepS i=(S,7) from HS.out.trans (by
     have:S.fA i=none:=List.find?_eq_none.2 fun t ht=>by rw [hno t ht];decide
     rw [this]))
    have l8:O'=[[cl bx 102 #[Qb sb]]]:=hO;subst l8;have df:=hT.f 8 0 0;have nS:=hT.l 8 0;have r1:=hT.c 8 0 0;simp only [bP] at r1 nS;have HX:=Vh (Vg hi1 hT);clear hf' hi1 hno hT hO;go_wp2
    obtain ⟨hi1,hT⟩:=HX.out;have T2:=(hT.set 8 0 rfl 0 (U2 U1 7)).eq (H':=[hd,go,ga,gc,iP,iZ,jT,[cl ab 3 #[U2 U1 i]],[cl rb 26 #[U2 U1 7]]]++[[cl bx 102 #[Qb sb]]]++[[(D,.deferred (some []))]]) rfl;have T3:=T2.dE (.deferred none);have z0:=T3.c 8 0 0;simp only [bP] at z0;subst hhd
    have T4:TG [Xg sb L.fb (.slice iO S.own.length dG) va (.slice qI S.aP.length j6),go,ga,gc,gJ,gW,gZ] w ([Xg sb L.fb (.slice iO S.own.length dG) va (.slice qI S.aP.length j6),go,ga,gc,iP,iZ,jT]++[[cl ab 3 #[U2 U1 i],cl rb 26 #[U2 U1 7],cl bx 102 #[Qb sb],(D,.deferred none)]]) _:=T3.re (by
     classical
     simp only [UU,V6,Ve,UE,UK,UL];refine UW.2 fun a=>?_
     simp only [V7,Vi,Vk]
     try omega)
    exact J4 (v:=U2 U1 7) T2.has.last (by simp [results,results117,go_sem,z0]) ⟨_,⟨iP,iZ,jT,by rw [HS2.out],by rw [HS2.out];exact hi1,rfl⟩,T4.dropLast⟩
   case hstop =>
    rintro (s:Nat) cd H O W D ⟨rfl,t,iP,iZ,jT,hpk,rfl,hi1⟩ hT;have HS2:=Vh (show S.stepS i=(t.2.step S,0) from HS.out.trans (by rw [hpk]));have HX:=Vh (Vg hi1 hT);clear hpk hi1 hT;go_wp2
    obtain ⟨hi1,hT⟩:=HX.out;have T3:=hT.dE (.deferred none);have z0:=T3.c 8 0 0;simp only [bP] at z0;subst hhd
    have T4:TG [Xg sb L.fb (.slice iO S.own.length dG) va (.slice qI S.aP.length j6),go,ga,gc,gJ,gW,gZ] w ([Xg sb L.fb (.slice iO S.own.length dG) va (.slice qI S.aP.length j6),go,ga,gc,iP,iZ,jT]++[O.flatten++[cl ab 3 #[U2 U1 i],cl rb 26 #[U2 U1 0],(D,.deferred none)]]) _:=T3.re (by
     classical
     simp only [UU,V6,Ve,UE,UK,UL];refine UW.2 fun a=>?_
     simp only [V7,Vi,Vk]
     omega)
    exact J4 (v:=U2 U1 0) hT.has.last (by simp [results,results117,go_sem,z0]) ⟨_,⟨iP,iZ,jT,by rw [HS2.out],by rw [HS2.out];exact hi1,rfl⟩,T4.dropLast⟩
end
end
section
open Go.RowKit Go.Shelf
theorem NZ (a b c d e f g:List ak):([a,b,c,d,e,f,g]:GH).flatten=([a++(b++(c++(d++(e++(f++g)))))]:GH).flatten:=by simp
section
variable {L:Lay} {sb:Nat} {S:SvS} {N:Nat} {g:List ak}
theorem Oz (h:jL L sb S g) (hn:dN N S) (hN:N<999998):Qa prog 59 #[Qb sb] [g] fun e gs =>
 ∃ v gl g',e=U3 v/\Q3 3 1 v S.bZ.length (zC S.bZ) gl/\jL L sb S g'/\gs=[g',gl]:=by
 obtain ⟨vo,va,vc,go,ga,gc,gJ,gW,gZ,hr,hi,rfl⟩:=h;refine ((q8g hn hN hr hi).pre (NZ _ _ _ _ _ _ _)).post ?_
 rintro e gs ⟨v,gl,dP,gM,cu,rfl,h1,h2,rfl⟩;exact ⟨_,⟨v,gl,_,rfl,h1,⟨vo,va,vc,go,ga,gc,dP,gM,cu,hr,h2,rfl⟩,rfl⟩,by simp⟩
theorem qt6 {vo va vc:Value} {go ga gc:List ak} (hn:dN N S) (hr:Y6 L sb S vo va vc go ga gc) (i:Int):Y6 L sb (S.stepS i).1 vo va vc go ga gc:=by
 unfold SvS.stepS;split
 ·exact hr
 ·split
  ·next t ht=>exact qxz (yR hn (V9 ht)) hr
  ·exact hr
theorem q2z (h:jL L sb S g) (hn:dN N S) (hN:N<999998) (i:Int):Qa prog 117 #[Qb sb,U2 U1 i] [g] fun e gs =>
 ∃ g',e=U3 (U2 U1 (S.stepS i).2)/\jL L sb (S.stepS i).1 g'/\gs=[g']:=by
 obtain ⟨vo,va,vc,go,ga,gc,gJ,gW,gZ,hr,hi,rfl⟩:=h;refine ((q5d hn hN hr hi i).pre (NZ _ _ _ _ _ _ _)).post ?_
 rintro e gs ⟨dP,gM,cu,rfl,h2,rfl⟩;exact ⟨_,⟨_,rfl,⟨vo,va,vc,go,ga,gc,dP,gM,cu,qt6 hn hr i,h2,rfl⟩,rfl⟩,by simp⟩
def SvS.cK (S:SvS) (k:Int):Nat:=S.bZ.getD ((max 0 k) % (S.bZ.length:Int)).toNat 0
def SvS.dm (S:SvS) (k:Int):SvS × Int × Int:=if S.bZ.length=0 then (S,0,6) else ((S.stepS (S.cK k)).1,S.cK k,(S.stepS (S.cK k)).2)
theorem q4w (hn:dN N S) (hN:N<999998) (k:Int):dN (N+1) (S.dm k).1:=by
 unfold SvS.dm;split
 ·exact hn.mono (by omega)
 ·exact Tg hn hN _
theorem q8h (h:jL L sb S g) (hn:dN N S) (hN:N<999998) (k:Int):Qa prog 56 #[Qb sb,U2 U1 k] [g] fun e gs =>
 ∃ g',e=U3 (UB #[U2 U1 (S.dm k).2.1,U2 U1 (S.dm k).2.2])/\jL L sb (S.dm k).1 g'/\gs=[g']:=by
 have HM:=Vh (Oz h hn hN);have HST:=Vh (show ∀ i g',jL L sb S g'->_ from fun i g' h'=>q2z h' hn hN i);have hlen:S.bZ.length<=2000:=Vz (by unfold SvS.bZ;rw [UA];exact List.length_filter_le _ _) (Tk hn);refine GO fun w HT=>?_
 clear h hn;go_enter func56,ntmps56
 go_wp2_with fail
 refine Qa.run HM HT [0] ?_
 rintro e w1 gs ⟨v,gl,g1,rfl,hl,hs,rfl⟩ HT;simp only [PU] at HT;obtain ⟨av,cap,rfl⟩:=Q3.val hl;have HL:=Vh hl;have xX:=Vh hs;clear hl hs;by_cases h0:S.bZ.length=0
 ·have HP:=Vh (show S.dm k=(S,0,6) from if_pos h0)
  have hb:((S.bZ.length:Int) == 0)=true:=by rw [h0];rfl
  go_wp2
  go_ret2
  exact ⟨_,⟨g1,by rw [HP.out];rfl,by rw [HP.out];exact xX,rfl⟩,HT.p [0]⟩
 ·have HP:=Vh (show S.dm k=((S.stepS (S.cK k)).1,((S.cK k:Nat):Int),(S.stepS (S.cK k)).2) from if_neg h0)
  have hb:((S.bZ.length:Int) == 0)=false:=by simpa using h0
  have hn0:0<S.bZ.length:=by omega
  obtain ⟨m,hm⟩:∃ m:Nat,max 0 k=(m:Int):=⟨(max 0 k).toNat,by omega⟩
  have hat:S.bZ[m % S.bZ.length]?=some (S.cK k):=by
   unfold SvS.cK;rw [hm];have:(((m:Int) % (S.bZ.length:Int))).toNat=m % S.bZ.length:=by omega
   rw [this,U5,UH (Nat.mod_lt _ hn0)];rfl
  obtain ⟨rb,cp,hv,hcell⟩:=z7 HL HT 1 rfl (by simp) (k:=m % S.bZ.length) (x:=U2 U1 (S.cK k)) (by unfold zC;rw [U7,hat];rfl);obtain ⟨rfl,rfl⟩:av=some ⟨rb,0,none⟩/\cap=cp:=by cases hv;exact ⟨rfl,rfl⟩
  have hlt:m % S.bZ.length<S.bZ.length:=Nat.mod_lt _ hn0;obtain ⟨P,hP⟩:∃ P,S.cK k=P:=⟨_,rfl⟩;rw [hP] at hcell HP;obtain ⟨M,hM⟩:∃ M,S.bZ.length=M:=⟨_,rfl⟩;rw [hM] at hcell hlt hlen hn0 hb;have BI:=Vh (HST.out P g1 xX);clear hv hat HL HM h0 hP HST xX;rw [hM];go_wp2_with fail
  refine Qa.run BI HT [0] ?_
  rintro e w1 gs ⟨g2,rfl,hs2,rfl⟩ HT;simp only [PU] at HT;have HS2:=Vh hs2;clear hs2;go_wp2
  go_ret2
  exact ⟨_,⟨g2,by rw [HP.out];rfl,by rw [HP.out];exact HS2,rfl⟩,HT.p [0]⟩
end
end
section
open Go.RowKit Go.Shelf
attribute [local go_sem] UR
end
section
open Go.RowKit Go.Shelf
section
variable {L:Lay} {sb:Nat} {S:SvS} {N:Nat} {g gJ:List ak}
theorem qsp (hn:dN N S) (hN:N<999998) (hj:Jb L S.all gJ) {a:Nat} {j:Jw} (hk:S.all[a]?=some j):Qa prog j.w.il #[Qb j.kb] [gJ] fun e gs =>
 ∃ v gv dP,e=U3 (UB #[.agg (j.w.ans.cells v),U2 U1 j.w.ans.code])/\Q3 36 1 v j.w.ans.left.length (kX j.w.ans.left) gv/\Jb L S.all dP/\gs=[dP,gv]:=by
 refine (vW (rest:=[]) (R:=fun e a' bS=>a'=j/\∃ v gv,e=U3 (UB #[.agg (j.w.ans.cells v),U2 U1 j.w.ans.code])/\Q3 36 1 v j.w.ans.left.length (kX j.w.ans.left) gv/\bS=[gv]) hj hk (fun ga hga=>(qwa (z:=S.z) hga (hn.eT _ (U4 hk)).1 (by omega)).mono ?_)).mono ?_
 ·rintro e gs ⟨v,gv,h1,h2,rfl⟩
  exact ⟨j,ga,[gv],⟨rfl,v,gv,h1,h2,rfl⟩,hga,rfl⟩
 ·rintro e gs ⟨a',g',bS,⟨rfl,v,gv,h1,h2,rfl⟩,h3,rfl⟩
  rw [za hk] at h3;exact ⟨v,gv,g',h1,h2,h3,rfl⟩
theorem qyo (w:Wk) (b:Nat) (W:World):(method 523 w.ty (Qb b) "Answer").run prog W=.ok (w.il,Qb b) W:=by cases w <;> kernel_rfl
theorem qyn (w:Wk) (args:Array Value) (W:World):(Vd w.il args).run prog W=.ok (.enter w.il args) W:=by cases w <;> kernel_rfl
def wJ:oK:=⟨0,false,0,0,[],6⟩
def SvS.dw (S:SvS) (no:Int):oK:=if no<1\/(S.all.length:Int)<no then wJ else (S.af (no - 1).toNat).w.ans
theorem q5b (h:jL L sb S g):Qa prog 57 #[Qb sb] [g] fun e gs=>e=U3 (U2 U1 S.all.length)/\gs=[g]:=by
 obtain ⟨vo,va,vc,go,ga,gc,gJ,gW,gZ,hr,hi,rfl⟩:=h;obtain ⟨oZ,jl,rfl⟩:=Q3.val hr.a;refine GO fun w HT=>?_
 have HT:=Vh (HT.out.m [Xg sb L.fb vo (.slice oZ S.all.length jl) vc,go,ga,gc,gJ,gW,gZ]);obtain ⟨sv0,fZ,lN,lQ⟩:=HT.c4 0 0 0 1 2 3;simp only [Xg,az] at sv0 fZ lN lQ;have eO:=HT.l 0 0;simp only [] at eO;have HR:=Vh hr;have ji:=Vh hi;clear hr hi;go_enter func57,ntmps57
 go_wp2
 go_ret
 exact ⟨_,⟨rfl,rfl⟩,HT.sum⟩
theorem SF (h:jL L sb S g):Qa prog 60 #[Qb sb] [g] fun e gs=>e=U3 (Qb L.fb)/\gs=[g]:=by
 obtain ⟨vo,va,vc,go,ga,gc,gJ,gW,gZ,hr,hi,rfl⟩:=h;obtain ⟨oZ,jl,rfl⟩:=Q3.val hr.a;refine GO fun w HT=>?_
 have HT:=Vh (HT.out.m [Xg sb L.fb vo (.slice oZ S.all.length jl) vc,go,ga,gc,gJ,gW,gZ]);obtain ⟨sv0,fZ,lN,lQ⟩:=HT.c4 0 0 0 1 2 3;simp only [Xg,az] at sv0 fZ lN lQ;have eO:=HT.l 0 0;simp only [] at eO;have HR:=Vh hr;have ji:=Vh hi;clear hr hi;go_enter func60,ntmps60
 go_wp2
 go_ret
 exact ⟨_,⟨rfl,rfl⟩,HT.sum⟩
theorem q9s (h:jL L sb S g) (hn:dN N S) (hN:N<999998):Qa prog 116 #[Qb sb] [g] fun e gs=>∃ v gv g',e=U3 v/\Q3 63 4 v S.z.lg.length (fires S.z.lg) gv/\jL L sb S g'/\gs=[g',gv]:=by
 have HF:=Vh (SF h);have Io:=hn.eF.zn.lg;obtain ⟨vo,va,vc,go,ga,gc,gJ,gW,gZ,hr,hi,rfl⟩:=h;obtain ⟨gC,Aa,gP,gL,h1,h2,h3,h4,rfl⟩:=Zs hi.z;have HR:=Vh hr;have ji:=Vh hi;have HX:=Vh h1;have HLA:=Vh (q0u h4 (by omega));refine GO fun w HT=>?_
 clear hr hi h1 h2 h3 h4 hn Io;go_enter func116,ntmps116
 go_wp2_with fail
 refine Qa.run HF HT [0] ?_
 rintro e w1 gs ⟨rfl,rfl⟩ HT;simp only [PU] at HT;have HT:=Vh (HT.out.sum (H':=[Xg sb L.fb vo va vc++(go++(ga++(gc++(gJ++gW)))),gC,Aa++gP,gL]));go_wp2_with fail
 refine Qd.run (QA HX) HT [1] ?_
 rintro e wq rfl HT;go_wp2_with fail
 refine Qa.run HLA HT [3] ?_
 rintro e w1 gs ⟨v,gv,rfl,hv,rfl⟩ HT;simp only [PU] at HT;obtain ⟨av,cap,rfl⟩:=Q3.val hv;have HV:=Vh hv;clear hv;go_wp2
 go_ret
 exact ⟨_,⟨_,gv,_,rfl,HV,⟨vo,va,vc,go,ga,gc,gJ,gW,_,HR,ji,rfl⟩,rfl⟩,HT.sum⟩
theorem Sn {no:Int} {g':List ak} {w w':World} (hA:S.dw no=wJ) (h:jL L sb S g') (T:TG [g] w [g',[]] w') :
 ∃ gs',(∃ v gv g',U3 (UB #[.agg (wJ.cells (.slice none 0 0)),U2 U1 6])=U3 (UB #[.agg ((S.dw no).cells v),U2 U1 (S.dw no).code])/\Q3 36 1 v (S.dw no).left.length (kX (S.dw no).left) gv/\jL L sb S g'/\gs'=[g',gv])/\TG [g] w gs' w':=by
 rw [hA];exact ⟨_,⟨_,[],g',rfl,X7 _ _,h,rfl⟩,T⟩
theorem q1m (h:jL L sb S g) (hn:dN N S) (hN:N<999998) (no:Int):Qa prog 58 #[Qb sb,U2 U1 no] [g] fun e gs =>
 ∃ v gv g',e=U3 (UB #[.agg ((S.dw no).cells v),U2 U1 (S.dw no).code])/\Q3 36 1 v (S.dw no).left.length (kX (S.dw no).left) gv/\jL L sb S g'/\gs=[g',gv]:=by
 obtain ⟨vo,va,vc,go,ga,gc,gJ,gW,gZ,hr,hi,rfl⟩:=h;obtain ⟨oZ,jl,rfl⟩:=Q3.val hr.a;refine GO fun w HT=>?_
 have HT:=Vh (HT.out.m [Xg sb L.fb vo (.slice oZ S.all.length jl) vc,go,ga,gc,gJ,gW,gZ]);obtain ⟨sv0,fZ,lN,lQ⟩:=HT.c4 0 0 0 1 2 3;simp only [Xg,az] at sv0 fZ lN lQ;have eO:=HT.l 0 0;simp only [] at eO;have HR:=Vh hr;have ji:=Vh hi;have hal:=hn.al;by_cases h0:no<1
 ·have HA:=Vh (show S.dw no=wJ from if_pos (.inl h0))
  clear hr hi;go_enter func58,ntmps58
  go_wp2_with fail
  have HT2:=Vh (HT.out.a 51 #[U2 U1 0,.bool false,U2 .u64 0,U2 .u64 0,.slice none 0 0]);obtain ⟨r0,r1,r2,r3,r4⟩:=HT2.c5 7 0 0 1 2 3 4;simp only [aN] at r0 r1 r2 r3 r4
  exact Vr (v:=UB #[.agg (wJ.cells (.slice none 0 0)),U2 U1 6]) (by simp [results,results58,go_sem,r0,r1,r2,r3,r4,oK.cells,wJ]) rfl (by
   have hp:=Sn (S:=S) HA (⟨vo,_,vc,go,ga,gc,gJ,gW,gZ,HR,ji,rfl⟩:jL L sb S _) ((HT2.p [0,1,2,3,4,5,6]).sum)
   first | exact hp | (simp only [exists_and_left,exists_and_right,and_assoc] at hp |-;exact hp))
 ·by_cases h1:(S.all.length:Int)<no
  ·have HA:=Vh (show S.dw no=wJ from if_pos (.inr h1))
   clear hr hi;go_enter func58,ntmps58
   go_wp2_with fail
   have HT2:=Vh (HT.out.a 51 #[U2 U1 0,.bool false,U2 .u64 0,U2 .u64 0,.slice none 0 0]);obtain ⟨r0,r1,r2,r3,r4⟩:=HT2.c5 7 0 0 1 2 3 4;simp only [aN] at r0 r1 r2 r3 r4
   exact Vr (v:=UB #[.agg (wJ.cells (.slice none 0 0)),U2 U1 6]) (by simp [results,results58,go_sem,r0,r1,r2,r3,r4,oK.cells,wJ]) rfl (by
    have hp:=Sn (S:=S) HA (⟨vo,_,vc,go,ga,gc,gJ,gW,gZ,HR,ji,rfl⟩:jL L sb S _) ((HT2.p [0,1,2,3,4,5,6]).sum)
    first | exact hp | (simp only [exists_and_left,exists_and_right,and_assoc] at hp |-;exact hp))
  ·have HA:=Vh (show S.dw no=(S.af (no - 1).toNat).w.ans from if_neg (by omega))
   have hk:=Xd (S:=S) (a:=(no - 1).toNat) (by omega);obtain ⟨k,hkn⟩:∃ k:Nat,no=(k:Int)+1:=⟨(no - 1).toNat,by omega⟩;subst hkn;have e1:((k:Int)+1 - 1).toNat=k:=by omega
   rw [e1] at hk HA;have E9:=Vh (qsp hn hN hi.j hk);obtain ⟨rb,cp,hv,hcell⟩:=z7 hr.a HT 2 rfl (by simp) (k:=k) (x:=oN (S.af k)) (by rw [U7,hk];rfl);obtain ⟨rfl,rfl⟩:oZ=some ⟨rb,0,none⟩/\jl=cp:=by cases hv;exact ⟨rfl,rfl⟩
   have hkl:k<S.all.length:=by omega
   have bM:rb<w.heap.size:=by
    obtain ⟨b',c',cur,hv',hg',_⟩:=hr.a.open (by omega);cases hv'
    have:=HT.lt 2 0 (p:=(rb,.cells cur 205)) (by show ga[0]?=_;rw [hg'];rfl);exact this
   have q1:((k:Int)+1<1)=False:=eq_false (by omega);have q2:((S.all.length:Int)<(k:Int)+1)=False:=eq_false (by omega);have hmt:=qyo (S.af k).w;have hcl:=qyn (S.af k).w;unfold oN at hcell;obtain ⟨A,hA⟩:∃ A,(S.af k).w.ans=A:=⟨_,rfl⟩;obtain ⟨zG,hty⟩:∃ y,(S.af k).w.ty=y:=⟨_,rfl⟩;obtain ⟨fV,fM⟩:∃ y,(S.af k).w.il=y:=⟨_,rfl⟩;obtain ⟨bV,hbv⟩:∃ y,(S.af k).kb=y:=⟨_,rfl⟩;rw [hA] at HA E9;rw [hty,fM] at hmt;rw [fM] at hcl;rw [hty,hbv] at hcell;rw [fM,hbv] at E9;clear hr hi hv hk hA hty fM hbv hn h0 h1;go_enter func58,ntmps58
   simp only [oK.cells] at E9;go_wp2_with fail
   have HT2:=Vh (HT.out.a 51 #[U2 U1 0,.bool false,U2 .u64 0,U2 .u64 0,.slice none 0 0]);obtain ⟨ab,hab⟩:∃ ab,w.heap.size=ab:=⟨_,rfl⟩;rw [hab] at HT2;rw [hab];clear HT;have HT:=HT2;go_wp2_with fail
   refine Qa.run E9 HT [4] ?_
   rintro e w1 gs ⟨v,gv,kE,rfl,hv2,hj2,rfl⟩ HT;simp only [PU] at HT;obtain ⟨BS,cap2,rfl⟩:=Q3.val hv2;have HV:=Vh hv2;have HI2:=Vh (show kI L S kE gW gZ from ⟨hj2,ji.w,ji.z⟩);clear hv2 hj2 bM hcell;obtain ⟨r0,r1,r2,r3,r4⟩:=HT.c5 7 0 0 1 2 3 4;obtain ⟨cr,df,yh,yj,EN⟩:=HT.f5 7 0 0 1 2 3 4;simp only [aN] at r0 r1 r2 r3 r4;have nU:=HT.l 7 0;simp only [] at nU;go_wp2
   exact Vr (v:=UB #[.agg (A.cells (.slice BS A.left.length cap2)),U2 U1 A.code]) (by simp [results,results58,go_sem,r0,r1,r2,r3,r4,oK.cells]) rfl ⟨_,⟨_,gv,_,by rw [HA.out],by rw [HA.out];exact HV,⟨vo,_,vc,go,ga,gc,kE,gW,gZ,HR,HI2,rfl⟩,rfl⟩,((((((HT.set 7 0 rfl 0 _).set 7 0 rfl 1 _).set 7 0 rfl 2 _).set 7 0 rfl 3 _).set 7 0 rfl 4 _).p [0,1,2,3,4,5,6,8]).sum⟩
end
theorem DC (w:Wk) (b:Nat) (W:World):(method 523 w.ty (Qb b) "Done").run prog W=.ok (w.iD,Qb b) W:=by cases w <;> kernel_rfl
theorem D9 (w:Wk) (args:Array Value) (W:World):(Vd w.iD args).run prog W=.ok (.enter w.iD args) W:=by cases w <;> kernel_rfl
section
variable {L:Lay} {sb:Nat} {S:SvS} {N:Nat} {g gJ:List ak}
theorem Dy (hj:Jb L S.all gJ) {a:Nat} {j:Jw} (hk:S.all[a]?=some j):Qa prog j.w.iD #[Qb j.kb] [gJ] fun e gs=>∃ dP,e=U3 (.bool j.w.done)/\Jb L S.all dP/\gs=[dP]:=by
 refine (vW (rest:=[]) (R:=fun e a' bS=>a'=j/\e=U3 (.bool j.w.done)/\bS=[]) hj hk (fun ga hga=>(q4b hga).does.mono ?_)).mono ?_
 ·rintro e gs ⟨rfl,rfl⟩
  exact ⟨j,ga,[],⟨rfl,rfl,rfl⟩,hga,rfl⟩
 ·rintro e gs ⟨a',g',bS,⟨rfl,rfl,rfl⟩,h3,rfl⟩
  rw [za hk] at h3;exact ⟨g',rfl,h3,rfl⟩
theorem qsl:Qa prog 119 #[.nilIface] [gJ] fun e gs=>e=U3 (.bool false)/\gs=[gJ]:=by
 have hnq:=Az;refine GO fun w HT=>?_
 go_enter func119,ntmps119
 go_wp2
 all_goals (first | (go_ret;exact ⟨_,⟨rfl,rfl⟩,HT⟩) | (refine ⟨fun _ _=>trivial,?_⟩;go_wp2;go_ret;exact ⟨_,⟨rfl,rfl⟩,HT⟩))
theorem qsm (hj:Jb L S.all gJ) {a:Nat} {j:Jw} (hk:S.all[a]?=some j):Qa prog 119 #[.iface j.w.ty (Qb j.kb)] [gJ] fun e gs=>∃ dP,e=U3 (.bool (!j.w.done))/\Jb L S.all dP/\gs=[dP]:=by
 have HD:=Vh (Dy hj hk);have hnq:=AU j.w;have hmt:=DC j.w;have hcl:=D9 j.w;obtain ⟨d,hd⟩:∃ d,j.w.done=d:=⟨_,rfl⟩;obtain ⟨zG,hty⟩:∃ y,j.w.ty=y:=⟨_,rfl⟩;obtain ⟨fV,fM⟩:∃ y,j.w.iD=y:=⟨_,rfl⟩;rw [hd,fM] at HD;rw [hty,fM] at hmt;rw [hty] at hnq;rw [fM] at hcl;rw [hd,hty];refine GO fun w HT=>?_
 clear hj hk hd hty fM;go_enter func119,ntmps119
 go_wp2_with fail
 refine Qa.run HD HT [0] ?_
 rintro e w1 gs ⟨dP,rfl,hj',rfl⟩ HT;simp only [PU] at HT;have iN:=Vh hj';clear hj';go_wp2
 go_ret
 exact ⟨_,⟨dP,rfl,iN,rfl⟩,HT⟩
def wG (S:SvS):Option Nat->Bool
 | none=>false
 | some a=>!(S.af a).w.done
def SvS.aZ (S:SvS):Bool:=S.own.any (wG S)
theorem PR {S:SvS} {k:Nat} {o:Option Nat} (h:S.own[k]?=some o) (h1:(S.own.take k).any (wG S)=false) (h2:wG S o=false):(S.own.take (k+1)).any (wG S)=false:=by
 obtain ⟨a,b⟩:=U8.1 h;rw [UI a,List.any_append,h1,b];simp [h2]
theorem qzd {S:SvS} {k:Nat} {o:Option Nat} (h:S.own[k]?=some o) (h2:wG S o=true):S.aZ=true:=List.any_eq_true.2 ⟨o,U4 h,h2⟩
theorem q5c (hn:dN N S) (hj:Jb L S.all gJ) {vo:Value} {go:List ak} (hro:Q3 205 1 vo S.own.length (S.os.map kF) go):Qa prog 166 #[vo,.func (.func 119) #[] #[]] [gJ,go] fun e gs =>
 ∃ r dP,e=U3 (U2 U1 r)/\decide (0<=r)=S.aZ/\Jb L S.all dP/\gs=[dP,go]:=by
 obtain ⟨av,cap,rfl⟩:=Q3.val hro;have uY:=Vh hn;have lS:=Vh hro;have HJ:=Vh hj;have hol:=hn.ol;refine GO fun w HT=>?_
 clear hn hj hro;go_enter func166,ntmps166
 go_wp2_with fail
 go_loopw [8] (fun i wr=>∃ (k:Nat) (iP:List ak),k<=S.own.length/\i=U2 U1 k/\Jb L S.all iP/\(S.own.take k).any (wG S)=false/\TG [gJ,go] w [iP,go] wr) (fun i _=>S.own.length+1 - (intOf i).toNat)
 case atStart=>exact ⟨0,gJ,by omega,rfl,HJ,rfl,HT⟩
 case round =>
  obtain ⟨k,iP,hk,rfl,hj1,hno,T⟩:=hrel;clear HJ;by_cases hkl:k<S.own.length
  ·obtain ⟨o,ho⟩:∃ o,S.own[k]?=some o:=⟨_,UH hkl⟩
   obtain ⟨b,cp,hv,hb⟩:=z7 lS T 1 rfl (by simp) (k:=k) (x:=kF (o.map fun a=>((S.af a).w,(S.af a).kb))) (by unfold SvS.os;rw [U7,U7,ho];rfl);obtain ⟨rfl,rfl⟩:av=some ⟨b,0,none⟩/\cap=cp:=by cases hv;exact ⟨rfl,rfl⟩
   have HT:=Vh T;have HO:=Vh ho;have EB:=Vh hno;cases o with
   | none =>
     change _=some Value.nilIface at hb
     have HC:=Vh (qsl (gJ:=iP));have G6:=Vh hj1;clear hv T ho hno hj1;go_wp2_with fail
     refine Qa.run HC HT [0] ?_
     rintro e w1 gs ⟨rfl,rfl⟩ HT;simp only [PU] at HT;have xS:=Vh (PR HO EB rfl);clear hb;go_wp2
     first | go_roundw | refine ⟨?rel,?measure⟩ | ((repeat apply VC);refine ⟨⟨?rel,rfl⟩,?measure⟩)
     case rel=>exact ⟨k+1,iP,by omega,by go_num,G6,xS,HT⟩
     case measure=>simp [intOf];omega
   | some a =>
     have hka:=Xd (uY.own a (U4 ho));change _=some (Vw (S.af a).w.ty (Qb (S.af a).kb)) at hb
     have HC:=Vh (qsm hj1 hka);cases hd:(S.af a).w.done with
     | true =>
       rw [hd] at HC;have xS:=Vh (PR HO EB (show (!(S.af a).w.done)=false by rw [hd];rfl));clear hv T ho hno hj1 hka hd;go_wp2_with fail
       refine Qa.run HC HT [0] ?_
       rintro e w1 gs ⟨kE,rfl,hj2,rfl⟩ HT;simp only [PU] at HT;have HJ2:=Vh hj2;clear hb hj2;go_wp2
       first | go_roundw | refine ⟨?rel,?measure⟩ | ((repeat apply VC);refine ⟨⟨?rel,rfl⟩,?measure⟩)
       case rel=>exact ⟨k+1,kE,by omega,by go_num,HJ2,xS,HT⟩
       case measure=>simp [intOf];omega
     | false =>
       rw [hd] at HC;have HB:=Vh (qzd HO (show (!(S.af a).w.done)=true by rw [hd];rfl));clear hv T ho hno hj1 hka hd;go_wp2_with fail
       refine Qa.run HC HT [0] ?_
       rintro e w1 gs ⟨kE,rfl,hj2,rfl⟩ HT;simp only [PU] at HT;have HJ2:=Vh hj2;clear hb hj2;go_wp2
       go_ret
       exact ⟨_,⟨_,kE,rfl,by rw [HB.out];exact decide_eq_true (by omega),HJ2,rfl⟩,HT⟩
  ·obtain rfl:k=S.own.length:=by omega
   rw [Vb] at hno;have HB:=Vh (show S.aZ=false from hno);have G6:=Vh hj1;have HT:=Vh T;clear T hno hj1;go_wp2
   go_ret
   exact ⟨_,⟨_,iP,rfl,by rw [HB.out];rfl,G6,rfl⟩,HT⟩
theorem qt7 (hn:dN N S) (hj:Jb L S.all gJ) {vo:Value} {go:List ak} (hro:Q3 205 1 vo S.own.length (S.os.map kF) go):Qa prog 118 #[vo,.func (.func 119) #[] #[]] [gJ,go] fun e gs =>
 ∃ dP,e=U3 (.bool S.aZ)/\Jb L S.all dP/\gs=[dP,go]:=by
 have HI:=Vh (q5c hn hj hro);obtain ⟨av,cap,rfl⟩:=Q3.val hro;refine GO fun w HT=>?_
 clear hn hj hro;go_enter func118,ntmps118
 go_wp2_with fail
 refine Qa.run HI HT [0,1] ?_
 rintro e w1 gs ⟨r,dP,rfl,hb,hj',rfl⟩ HT;simp only [PU] at HT;have iN:=Vh hj';by_cases hr:0<=r
 ·have HB:=Vh (show S.aZ=true from hb.symm.trans (decide_eq_true hr))
  clear hb hj';go_wp2
  go_ret
  exact ⟨_,⟨dP,by rw [HB.out];rfl,iN,rfl⟩,HT⟩
 ·have HB:=Vh (show S.aZ=false from hb.symm.trans (decide_eq_false hr))
  clear hb hj';go_wp2
  go_ret
  exact ⟨_,⟨dP,by rw [HB.out];show U3 (.bool (decide (0<=r)))=_;rw [decide_eq_false (show ¬ (0<=r) by omega)],iN,rfl⟩,HT⟩
def SvS.idle (S:SvS):Bool:=!S.aZ && Y8 S.aP S.z.p
theorem q8e (h:jL L sb S g) (hn:dN N S) (hN:N<999998):Qa prog 55 #[Qb sb] [g] fun e gs=>∃ g',e=U3 (.bool S.idle)/\jL L sb S g'/\gs=[g']:=by
 obtain ⟨vo,va,vc,go,ga,gc,gJ,gW,gZ,hr,hi,rfl⟩:=h;obtain ⟨gC,Aa,gP,gL,h1,h2,h3,h4,rfl⟩:=Zs hi.z;have HC:=Vh (qt7 hn hi.j hr.o);have hcl:=hn.cl;have hrest:=hn.eF.zn.rest;have hroom:=hn.eF.room
 have HCI:=Vh (qz3 h1 h3 (by have:=hrest.ch;omega) (by have:=hrest.sp;omega) (v:=vc) (n:=S.aP.length) (gr:=gc) (l:=S.aP) (gW:=gW) (by have:=hr.c;unfold SvS.ps at this;rw [Vq] at this;exact this) hi.w hcl (fun z hz=>by
  rcases (hn.aP z hz).fit with ⟨_,h⟩ | ⟨_,h⟩
  ·rw [h];exact UO _
  ·omega))
 have HR:=Vh hr;have HX:=Vh (Vg h2 h4);have ji:=Vh hi;obtain ⟨iO,dG,rfl⟩:=Q3.val hr.o;obtain ⟨qI,j6,rfl⟩:=Q3.val hr.c;refine GO fun w HT=>?_
 have HT:=Vh (HT.out.m [Xg sb L.fb (.slice iO S.own.length dG) va (.slice qI S.aP.length j6),go,ga,gc,gJ,gW,gC,gP,Aa,gL]);obtain ⟨sv0,fZ,lN,lQ⟩:=HT.c4 0 0 0 1 2 3;simp only [Xg,az] at sv0 fZ lN lQ;have eO:=HT.l 0 0;simp only [] at eO;clear hr hi h1 h2 h3 h4 hn hrest hroom;go_enter func55,ntmps55
 go_wp2_with fail
 refine Qa.run HC HT [4,1] ?_
 rintro e w1 gs ⟨kE,rfl,hj2,rfl⟩ HT;simp only [PU] at HT;have HJ2:=Vh hj2;clear hj2 sv0 fZ lN lQ eO;obtain ⟨sv0,fZ,lN,lQ⟩:=HT.c4 0 0 0 1 2 3;simp only [Xg,az] at sv0 fZ lN lQ;have eO:=HT.l 0 0;simp only [] at eO;cases hb:S.aZ with
 | true =>
   have HB:=Vh (show S.idle=false from by unfold SvS.idle;rw [hb];rfl);clear hb;go_wp2_with fail
   go_quiet ((fail))
   have HT:=Vh (HT.out.drewN nq);go_wp2
   go_ret
   exact ⟨_,⟨_,by rw [HB.out];rfl,⟨_,_,_,go,ga,gc,kE,gW,_,HR,⟨HJ2,ji.w,ji.z⟩,rfl⟩,rfl⟩,HT.sum⟩
 | false =>
   have HB:=Vh (show S.idle=Y8 S.aP S.z.p from by unfold SvS.idle;rw [hb];rfl);clear hb;go_wp2_with fail
   refine Mx 11 ?_
   simp only [bY]
   repeat (go_big_quiet_step ((fail)))
   refine wpQuiet_nil (QT HT fun nq HT=>?_)
   go_wp2_with fail
   refine Qa.run HCI HT [5,3,6,7] ?_
   rintro e w1 gs ⟨l5,rfl,hw2,rfl⟩ HT;simp only [PU] at HT;have HW2:=Vh hw2;clear hw2;go_wp2_with fail
   refine ⟨rfl,?_⟩
   go_wp2
   go_ret
   exact ⟨_,⟨_,by rw [HB.out];rfl,⟨_,_,_,go,ga,gc,kE,l5,_,HR,⟨HJ2,HW2,ji.z⟩,rfl⟩,rfl⟩,HT.sum⟩
end
theorem OY {h H:GH} {w w':World} (T:TG h w H w') (i:Nat) {v:Value} {l:List Xj} {g:List ak} (hi:H.getD i []=g) (r:Q3 63 4 v l.length (fires l) g) {k:Nat} {f:Xj} (hk:l[k]?=some f) :
 ∃ b cap,v=.slice (some ⟨b,0,none⟩) l.length cap/\l.length<=cap/\cap<=maxLen/\∀ j,j<4->w'.cell? ⟨b,k*4+j,none⟩=f.vals[j]?:=by
 have hlt:=(U8.1 hk).1;obtain ⟨b,cap,cur,rfl,rfl,h1,h2,h3,h4⟩:=Q3.open r (by omega);exact ⟨b,cap,rfl,h1,h2,fun j hj=>(T.cell (b:=b) i 0 (by rw [hi];rfl) (k*4+j)).trans ((h4 (k*4+j) (by omega)).trans (Ar l k f j hk hj))⟩
theorem q44 {a b:Value} {l:List Xj} {gA gB:List ak} (ha:Q3 63 4 a l.length (fires l) gA) (hb:Q3 63 4 b l.length (fires l) gB) (hn:l.length<=1000000000):Qd prog 30 #[a,b] [gA,gB] (.bool true):=by
 obtain ⟨xa,ca,rfl⟩:=Q3.val ha;obtain ⟨xb,cb,rfl⟩:=Q3.val hb;intro w hw;have HT:=Vh (TG.refl hw);have HA:=Vh ha;have HB:=Vh hb;generalize hll:l.length=n at *;have HL:=Vh hll;clear hw ha hb hll;go_enter func30,ntmps30
 go_wp2
 go_loopw [5] (fun i wr=>∃ k m:Nat,k<=n/\i=U2 U1 k/\wr=w.drewN m) (fun i _=>n - (intOf i).toNat)
 case atStart=>exact ⟨0,0,UO _,rfl,rfl⟩
 case round =>
  obtain ⟨k,m,hk,rfl,rfl⟩:=hrel;by_cases hlt:k<n
  ·obtain ⟨f,hf⟩:∃ f,l[k]?=some f:=⟨_,UH (by rw [HL.out];exact hlt)⟩
   obtain ⟨ba,da,ea,a1,a2,c⟩:=OY HT 0 rfl (by rw [HL.out];exact HA) hf;obtain ⟨bb,db,eb,b1,b2,d⟩:=OY HT 1 rfl (by rw [HL.out];exact HB) hf;rw [HL.out] at ea eb a1 b1;cases ea
   cases eb
   have c0:=c 0 (by decide);have c1:=c 1 (by decide);have c2:=c 2 (by decide);have c3:=c 3 (by decide);have d0:=d 0 (by decide);have d1:=d 1 (by decide);have d2:=d 2 (by decide);have d3:=d 3 (by decide);simp only [Xj.vals,UN,List.getElem?_cons_succ] at c0 c1 c2 c3 d0 d1 d2 d3;rw [Nat.add_zero] at c0 d0;clear c d hf;go_wp2
   go_quiet (fail)
   go_wp2
   go_roundw
   case rel=>exact ⟨k+1,_,by omega,by go_num,rfl⟩
   case measure=>simp [intOf];omega
  ·go_wp2
   go_ret
   exact ⟨rfl,m,rfl⟩
theorem Re:Y3.lv=UC 4 (UC 64 []):=by rfl
theorem Sj (P:gU->Prop):fQ P Y3:=by
 refine ⟨fun l hl s hs e he=>?_,fun e he=>by cases he⟩
 rw [Re] at hl;rw [U9 hl] at hs;rw [U9 hs] at he;cases he
theorem q13:xA 0 Y3:=⟨⟨by decide,fun l hl=>by
 rw [Re] at hl
 rw [U9 hl,UD]⟩,by decide,by decide,Sj _⟩
theorem q93 (c:Cfg) (hk:c.ok=true):ZN 0 (wM c)/\I7 (wM c).ws/\(wM c).x.au.length<=4:=by
 obtain ⟨h1,h2,h3,h4,h5,h6⟩:=Cfg.bd hk;have hrep:∀ w∈(wM c).ws,w=Y3:=fun w hw=>U9 hw
 have hsh:∀ s∈(wM c).x.au,s=Qr c.ring.toNat:=fun s hs=>U9 hs
 refine ⟨⟨q32 hk,⟨⟨U6 0,U6 0⟩,⟨U6 0,U6 0⟩,?_,?_,fun w hw=>by rw [hrep w hw];exact q13,fun s hs e he=>?_,fun s hs=>by rw [hsh s hs];exact ⟨U6 0,U6 0⟩,UO _,UO _⟩,Vj _⟩,fun w hw=>by rw [hrep w hw];exact Sj _,?_⟩
 ·show c.cap=((UC c.cap.toNat Rec.zero).length:Int)
  rw [UD];omega
 ·show (UC _ _).length=(UC _ _).length
  rw [UD,UD]
 ·rw [hsh s hs] at he
  simp [Qr,Jj] at he
  obtain ⟨i,_,rfl⟩:=he;exact IY
 ·show (UC _ _).length<=4
  rw [UD];omega
def sv0 (c:Cfg) (ws:List dz):SvS:=⟨wM c,UC (c.jA.toNat+1) none,[],ws⟩
theorem q9r (c:Cfg) (hk:c.ok=true) {ws:List dz} (hl:ws.length=c.wk.toNat) (hw:∀ z∈ws,Ba z):dN 0 (sv0 c ws):=by
 obtain ⟨h1,h2,h3⟩:=q93 c hk;obtain ⟨b1,b2,b3,b4,b5,b6⟩:=Cfg.bd hk;refine ⟨⟨h1,h2,h3,?_⟩,(fun j hj=>by cases hj),fun z hz=>mK.new (hw z hz),fun k hk'=>?_,?_,?_,Vj _,(fun a j h=>by cases h)⟩
 ·show c.room.toNat<=1000
  omega
 ·have:=U9 hk'
  cases this
 ·show 1<=(UC _ _).length/\(UC _ _).length<=1000
  rw [UD];omega
 ·show ws.length<=1000
  omega
def Xw (th no:Int) (c:Q0):Wk:=if c.kind=7 then .turn firstT (qC th no) else if c.kind=6 then .dM Gg (oM th no) else .call (Yp c.kind) (fP th no c)
def xn (th no:Int) (c:Q0):EvS:=if c.kind=7 then ll (qC th no) { bL with kind:=1 } else if c.kind=6 then pq (oM th no) { bL with kind:=1 } else (fP th no c).ev { bL with kind:=1,id:=c.id,dl:=c.dl,per:=c.per }
def tQ (e:EvS) (x:Qi):Qi:={ x with tr:=x.tr++[e] }
def SvS.bQ (S:SvS) (i:Nat):Bool:=match S.own.getD i none with
 | some a=>!(S.af a).w.done
 | none=>false
def SvS.cZ (S:SvS) (th:Int) (c:Q0):Int :=
 if th<0\/(S.own.length:Int)<=th then 4
 else if decide (th=(S.own.length:Int) - 1)≠decide (c.kind=7) then 1
 else if S.bQ th.toNat=true/\1<=c.kind/\c.kind<=7 then 10
 else if c.kind<1\/7<c.kind then 1 else 0
def SvS.eD (S:SvS) (kb:Nat) (th:Int) (c:Q0):SvS :=
 { S with own:=S.own.set th.toNat (some S.all.length),all:=S.all++[⟨kb,0,Xw th (S.all.length+1) c⟩],z:={ S.z with x:=tQ (xn th (S.all.length+1) c) S.z.x } }
def SvS.dV (S:SvS) (kb:Nat) (th:Int) (c:Q0):SvS:=if S.cZ th c=0 then S.eD kb th c else S
def SvS.fJ (S:SvS) (th:Int) (c:Q0):Int:=if S.cZ th c=0 then S.all.length+1 else 0
structure LK (S:SvS) (th:Int) (c:Q0):Prop where
 Tq:0<=th
 Tt:th<S.own.length
 dr:(th=(S.own.length:Int) - 1)↔c.kind=7
 busy:S.bQ th.toNat=false
 k1:1<=c.kind
 k7:c.kind<=7
theorem KM {S:SvS} {th:Int} {c:Q0} (h:S.cZ th c=0):LK S th c:=by
 unfold SvS.cZ at h;split at h
 ·cases h
 ·next h1 =>
  split at h
  ·cases h
  ·next h2 =>
   split at h
   ·cases h
   ·next h3 =>
    split at h
    ·cases h
    ·next h4 =>
     refine ⟨by omega,by omega,?_,?_,by omega,by omega⟩
     ·have h2:=Decidable.not_not.1 h2
      exact decide_eq_decide.1 h2
     ·cases hb:S.bQ th.toNat with
      | false=>rfl
      | true=>exact absurd ⟨hb,by omega,by omega⟩ h3
theorem qwb {S:SvS} {l:List Jw} {a:Nat} (h:a<S.all.length):(S.all++l).getD a xq=S.af a:=by
 unfold SvS.af;rw [U5,Va h,<- U5]
theorem q0c {N:Nat} {th no:Int} {c:Q0} (hc:c.wf) {x:Qi} (h0:0<=th) (h1:th<=1000000):oL N (Xw th no c) x:=by
 unfold Xw;split
 ·refine ⟨⟨h0,⟨by show (0:Int)<=0;omega,by show (0:Int) < _;omega,by show okW 0=true;decide⟩,IY,UO _,(fun t ht=>by cases ht),fun i hi=>by cases hi⟩,.inr h1,h1⟩
 ·split
  ·exact ⟨⟨by show (0:Int)<=0;omega,by show (0:Int) < _;omega,by show okW 0=true;decide⟩,UO _,rfl⟩
  ·exact ⟨q7n hc th no _,qv1 _ _,⟨by show (0:Int)<=0;omega,by show (0:Int)<=_;omega⟩⟩
theorem q6u {N:Nat} {z:ZF} (h:lY N z) (e:EvS):lY (N+1) { z with x:=tQ e z.x }:=by
 have hr:=h.zn.rest.mono (M:=N+1) (by omega);exact ⟨⟨Fb h.zn.core _,⟨hr.now,hr.busy,hr.cap,hr.wl,hr.kK,hr.task,hr.turns,hr.ch,hr.sp⟩,by have:=h.zn.lg;show z.lg.length<=_;omega⟩,h.ws,h.iT,h.room⟩
theorem qor (th no:Int) (c:Q0):(Xw th no c).isTurn=decide (c.kind=7):=by
 unfold Xw;split
 ·next h=>simp [h,Wk.isTurn]
 ·next h =>
  split <;> simp [h,Wk.isTurn]
theorem q3s {N:Nat} {S:SvS} {th:Int} {c:Q0} (hn:dN N S) (ho:LK S th c) (hc:c.wf) (kb:Nat):dN (N+1) (S.eD kb th c):=by
 have hol:=hn.ol;have h0:=ho.Tq;have h1:=ho.Tt;obtain ⟨t,rfl⟩:∃ t:Nat,th=(t:Int):=⟨th.toNat,by omega⟩;have htn:((t:Int)).toNat=t:=by omega
 have hkg:Gi S.z.x (tQ (xn t (S.all.length+1) c) S.z.x):=⟨rfl,rfl⟩;refine ⟨q6u hn.eF _,fun j hj=>?_,fun c hc=>(hn.aP c hc).mono (by omega),fun k hk=>?_,?_,hn.cl,?_,fun a j ha hj hd=>?_⟩
 ·rcases Vy.1 hj with hj | hj
  ·obtain ⟨a1,a2,a3⟩:=hn.eT j hj
   exact ⟨(a1.mono (M:=N+1) (by omega)).frame hkg (fun _=>.inl fun _=>rfl),a2,by omega⟩
  ·rw [List.mem_singleton.1 hj]
   exact ⟨q0c hc h0 (by omega),U6 _,by show (0:Int)<=_;omega⟩
 ·show k<(S.all++[_]).length
  rw [UM];simp only [UQ,US];rcases V8 hk with hk | hk
  ·have:=hn.own k hk;omega
  ·cases hk;omega
 ·show 1<=(S.own.set _ _).length/\(S.own.set _ _).length<=1000
  rw [UF];exact hol
 ·show (S.all++[_]).length<=_
  have:=hn.al;rw [UM];simp only [UQ,US];omega
 ·have e1:(S.eD kb t c).own=S.own.set t (some S.all.length):=by
   show S.own.set ((t:Int)).toNat _=_
   rw [htn]
  rw [e1,UF,UJ];have ha':(S.all++[⟨kb,0,Xw t (S.all.length+1) c⟩])[a]?=some j:=ha;rcases Nat.lt_or_ge a S.all.length with hlt | hge
  ·rw [Va hlt] at ha'
   have hown:=hn.turn a j ha' hj hd;split
   ·next heq =>
    exfalso
    have hb:=ho.busy;rw [htn] at hb;unfold SvS.bQ at hb;rw [U5,heq,hown] at hb
    have hja:S.af a=j:=by
     have:=Xd hlt;rw [ha'] at this;exact (UT this).symm
    simp only [Option.getD_some,hja,hd] at hb;cases hb
   ·exact hown
  ·rw [UZ hge] at ha'
   obtain ⟨hz,rfl⟩:a - S.all.length=0/\j=⟨kb,0,Xw t (S.all.length+1) c⟩:=by
    cases h9:a - S.all.length with
    | zero=>rw [h9] at ha';exact ⟨rfl,(UT ha').symm⟩
    | succ m=>rw [h9] at ha';cases ha'
   have hk7:c.kind=7:=by
    have:(Xw (t:Int) (S.all.length+1) c).isTurn=true:=hj;rw [qor] at this;exact of_decide_eq_true this
   have htl:=ho.dr.2 hk7;have e2:t=S.own.length - 1:=by omega
   have e3:a=S.all.length:=by omega
   rw [if_pos e2,if_pos (by omega),e3]
theorem Sv {N:Nat} {S:SvS} (hn:dN N S) {c:Q0} (hc:c.wf) (kb:Nat) (th:Int):dN (N+1) (S.dV kb th c):=by
 unfold SvS.dV;split
 ·next h=>exact q3s hn (KM h) hc kb
 ·exact hn.mono (by omega)
theorem qzj {N:Nat} {S:SvS} {th:Int} {c:Q0} (hn:dN N S) (kb:Nat):(S.eD kb th c).os=S.os.set th.toNat (some (Xw th (S.all.length+1) c,kb)):=by
 show (S.own.set th.toNat (some S.all.length)).map _=(S.own.map _).set _ _
 rw [Vf]
 have e1:(Option.map (fun a=>(((S.eD kb th c).af a).w,((S.eD kb th c).af a).kb)) (some S.all.length))=some (Xw th (S.all.length+1) c,kb):=by
  have:(S.eD kb th c).af S.all.length=⟨kb,0,Xw th (S.all.length+1) c⟩:=by
   show (S.all++[_]).getD S.all.length xq=_
   rw [U5,UZ (Vj _),Nat.sub_self];rfl
  exact congrArg (fun j:Jw=>some (j.w,j.kb)) this
 rw [e1];congr 1
 refine List.map_congr_left fun o ho=>?_
 cases o with
 | none=>rfl
 | some a =>
   have:(S.eD kb th c).af a=S.af a:=qwb (hn.own a ho);exact congrArg (fun j:Jw=>some (j.w,j.kb)) this
end
end Go.Proofs.YtcneeepdclgdcaaGreat
