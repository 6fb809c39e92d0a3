import Derived.Test.YtcneeepdclgdcaaGreatSE37
import Derived.Test.YtcneeepdclgdcaaGreatSE36
set_option maxRecDepth 100000
set_option maxHeartbeats 4000000
namespace Go.Proofs.YtcneeepdclgdcaaGreat
open _root_.List renaming getD_eq_getElem?_getD->U1,mem_of_getElem?->U3,getElem?_eq_getElem->U6,eq_of_mem_replicate->U7,mem_iff_getElem?->U9,length_set->UB,length_cons->UC,replicate->UE,length_map->UF,mem_of_find?_eq_some->UH,length_nil->UJ,length_singleton->UL,length_replicate->UM,mem_cons_of_mem->UN,length_append->UO,mem_cons_self->UQ,getElem_mem->UR,nil_append->US,mem_map->UW
open Go.Value renaming int->U2
open _root_.Int renaming le_refl->U4,toNat_natCast->UG,eq_ofNat_of_zero_le->UI
open Go.IntKind renaming i64->U5,u64->U8
open _root_.Bool renaming and_eq_true->UA
open _root_.Decidable renaming byContradiction->UD
open _root_.Nat renaming zero_le->UK,le_refl->UY
open _root_.Option.some renaming inj->UT
open _root_.And renaming intro->UU
open _root_.Exists renaming intro->UX
set_option linter.all false
open Go.Proofs.Tryz
section
open Go.RowKit Go.Shelf
section
variable {z:ZT} {M:Int} {G:ST}
theorem FO {s:Qj} (hg:lC M s.recs) (hM:0<=M) (k:Int):Xv (s.word k)<=M:=by
 unfold Qj.word;split
 ·next hh =>
  obtain ⟨j,rfl⟩:=Qj.eG hh;obtain ⟨r,hr,hgd⟩:=Qj.fu hh;rw [hgd];exact hg r (U3 hr)
 ·rw [show Xv 0=0 by decide];exact hM
theorem q9b (hs:Xh z.x.aa) (hG:nX G z.k) (hO:∀ j e,Ai G z.k=some (j,e)->∃ r,z.x.aa.recs[j]?=some r/\bB r.w=e) (hp:xG G<=z.x.aa.count) (hP:jr z.x.aa.recs z.k.t) (hg:lC M z.x.aa.recs) (hM:0<=M/\M<4294967295):qh G z (St.run runT Q6 G z):=by
 match G,hG,hO,hp with
 | .at none .looks,_,_,_ =>
   show qh _ z ((if (Qs 3 z).2=true then (.at none .bE,(Qs 3 z).1) else (.nil,(Qs 3 z).1)):ST × ZT)
   split
   ·next h =>
    refine qh.calm rfl rfl rfl ?_
    have h:(bB (z.x.aa.word z.k.t.slot) == 3 && Xv (z.x.aa.word z.k.t.slot) == z.k.t.gen && z.x.aa.mine z.k.t.id)=true:=h;simp only [UA,beq_iff_eq] at h
    have ho:fI (Qs 3 z).1 4=true:=by
     show Zl z.x.aa z.k.t.slot (z.x.aa.word z.k.t.slot) 4=true
     have hgw:=FO hg hM.1 z.k.t.slot
     exact AZ hs (by rw [h.1.1];decide) (by decide) (by decide) (by rw [h.1.1];rfl) (by
      rw [h.1.1];show Xv (z.x.aa.word z.k.t.slot)+0<=4294967295;omega)
    show 40+st2 (fI (Qs 3 z).1 4)+1<=41
    rw [ho];decide
   ·exact qh.calm rfl rfl rfl (by show (0:Int)+1<=41;decide)
 | .at none .bE,_,_,_ =>
   show qh _ z ((if (Qk 4 z).2=true then (.thn (.aj (.put ⟨z.k.t.id,z.k.t.gen,z.k.t.dl,z.k.now⟩)) .bD,(Qk 4 z).1.note { bL with kind:=5,id:=z.k.t.id,gen:=z.k.t.gen,dl:=z.k.t.dl,tick:=z.k.now })
   else (.at none .looks,(Qk 4 z).1)):ST × ZT)
   rcases JW hs 4 (.inl rfl) with ⟨t1,t2,j,a,b,t3,t4,t5,t6⟩ | ⟨t1,t2,t3⟩
   ·rw [if_pos t1]
    exact qh.word j a b t3 t4 t5 t6 rfl rfl (by show (31:Int)+9<=40+st2 (fI z 4);rw [t2];decide)
   ·rw [if_neg (by rw [t1];decide)]
    exact qh.calm t3 rfl rfl (by show (41:Int)+1<=40+st2 (fI z 4);rw [t2];decide)
 | .thn (.aj (.put f)) .bD,_,_,_ =>
   refine ⟨rfl,0,.calm rfl (fun _=>rfl),?_⟩
   have:=Ro z.p f
   show (28:Int)+1+4*0+2*(aG (z.p.put f).1 - aG z.p)<=31
   omega
 | .at none .behind,_,_,_ =>
   obtain ⟨w,hw⟩:∃ w,z.x.aa.word z.k.t.slot=w:=⟨_,rfl⟩
   have e:St.run runT Q6 (.at none .behind) z=(if bB w≠4\/Xv w≠z.k.t.gen then ((.nil,{ z with k:={ z.k with aB:=w } }):ST × ZT)
    else if 0<z.k.t.per/\Xr w=false/\z.k.t.dl+z.k.t.per<18446744073709551616 then (.at none (.aY (z.k.t.dl+z.k.t.per)),{ z with k:={ z.k with aB:=w } })
    else (.at none .aQ,{ z with k:={ z.k with aB:=w } })):=by rw [<- hw];rfl
   rw [e];split
   ·exact qh.calm rfl rfl rfl (by show (0:Int)+1<=28;decide)
   ·next h =>
    have h4:bB w=4:=UD fun h'=>h (.inl h')
    have hgn:Xv w=z.k.t.gen:=UD fun h'=>h (.inr h')
    have hgw:=FO hg hM.1 z.k.t.slot;rw [hw] at hgw;split
    ·next h5 =>
     refine qh.calm rfl rfl rfl ?_
     have jB:0<z.x.aa.period z.k.t.slot:=by
      have hh:z.x.aa.has z.k.t.slot:=UD fun h'=>by
       unfold Qj.word at hw;rw [if_neg h'] at hw;rw [<- hw] at h4;revert h4;decide
      obtain ⟨j,hj⟩:=Qj.eG hh;rw [hj] at hh;obtain ⟨r,hr,hgd⟩:=Qj.fu hh;have hwr:r.w=w:=by rw [<- hw,hj];unfold Qj.word;rw [if_pos hh,hgd]
      have hpr:=(hP r (by omega) (by rw [hj,UG];exact hr)).2 (by rw [hwr];exact hgn);rw [hj];unfold Qj.period;rw [if_pos hh,hgd,hpr];exact h5.1
     have ho:fI { z with k:={ z.k with aB:=w } } 5=true:=by
      show Zl z.x.aa z.k.t.slot w 5=true
      rw [<- hw];exact AZ hs (by rw [hw];omega) (by decide) (by decide) (by rw [hw,h4,h5.2.1,decide_eq_true jB];rfl) (by rw [hw];show Xv w+1<=4294967295;omega)
     show 27+st2 (fI { z with k:={ z.k with aB:=w } } 5)+1<=28
     rw [ho];decide
    ·refine qh.calm rfl rfl rfl ?_
     have ho:fI { z with k:={ z.k with aB:=w } } 9=true:=by
      show Zl z.x.aa z.k.t.slot w 9=true
      rw [<- hw];exact AZ hs (by rw [hw];omega) (by decide) (by decide) (by rw [hw,h4];rfl) (by rw [hw,h4];show Xv w+0<=4294967295;omega)
     show 27+st2 (fI { z with k:={ z.k with aB:=w } } 9)+1<=28
     rw [ho];decide
 | .at none (.aY next),_,_,_ =>
   show qh _ z ((if (Qk 5 z).2=true then (.nil,jy { (Qk 5 z).1 with k:={ z.k with t:={ z.k.t with gen:=z.k.t.gen+1,dl:=next } } }) else (.at none .behind,(Qk 5 z).1)):ST × ZT)
   rcases JW hs 5 (.inr (.inl rfl)) with ⟨t1,t2,j,a,b,t3,t4,t5,t6⟩ | ⟨t1,t2,t3⟩
   ·rw [if_pos t1]
    exact qh.word j a b t3 t4 t5 t6 rfl rfl (by show (0:Int)+9<=27+st2 (fI z 5);rw [t2];decide)
   ·rw [if_neg (by rw [t1];decide)]
    exact qh.calm t3 rfl rfl (by show (28:Int)+1<=27+st2 (fI z 5);rw [t2];decide)
 | .at none .aQ,_,_,_ =>
   show qh _ z ((if (Qk 9 z).2=true then (.aO .rel .drop,if 0<z.k.t.per/\Xr z.k.aB=false then (Qk 9 z).1.note { bL with kind:=14,id:=z.k.t.id,gen:=z.k.t.gen } else (Qk 9 z).1)
   else (.at none .behind,(Qk 9 z).1)):ST × ZT)
   rcases JW hs 9 (.inr (.inr rfl)) with ⟨t1,t2,j,a,b,t3,t4,t5,t6⟩ | ⟨t1,t2,t3⟩
   ·rw [if_pos t1]
    split
    ·exact qh.word j a b t3 t4 t5 t6 rfl rfl (by show (18:Int)+9<=27+st2 (fI z 9);rw [t2];decide)
    ·exact qh.word j a b t3 t4 t5 t6 rfl rfl (by show (18:Int)+9<=27+st2 (fI z 9);rw [t2];decide)
   ·rw [if_neg (by rw [t1];decide)]
    exact qh.calm t3 rfl rfl (by show (28:Int)+1<=27+st2 (fI z 9);rw [t2];decide)
 | .aO .rel .drop,hG,hO,_ =>
   have h0:0<=z.k.t.slot:=hG;obtain ⟨r,hr,he⟩:=hO _ _ rfl;have hro:=hs.recs r (U3 hr);obtain ⟨j,hj⟩:=UI h0;rw [hj,UG] at hr;obtain ⟨w',hn,hst⟩:=AV (p:=decide (0<r.p)) (ev:=10) hro (by decide) (by decide) (by rw [he];rfl) (by rw [he];rfl)
   have e1:(z.x.aa.try z.k.t.slot (z.x.aa.word z.k.t.slot) 10).1={ z.x.aa with recs:=z.x.aa.recs.set j { r with w:=w' } }:=by
    rw [hj,AL hr hn]
   have e2:(St.run runT Q6 (.aO .rel .drop) z).2.x.aa={ z.x.aa with recs:=z.x.aa.recs.set j { r with w:=w' } }:=e1;exact qh.word j r { r with w:=w' } hr (by unfold aZ;rw [decide_eq_false (by omega)];rfl) (by rw [e2]) (by rw [e2]) rfl rfl (by show (9:Int)+9<=18;decide)
 | .aj .drop,_,_,hp =>
   exact qh.count (by show z.x.aa.drop.1.recs=_;unfold Qj.drop;split <;> rfl) rfl rfl (by show (0:Int)+9<=9;decide)
end
theorem AF {x x':Qi} {c:Int} (h:kH x x' c) (k old ev:Int):0<=c/\st2 (Zl x'.aa k old ev)<=st2 (Zl x.aa k old ev)+c:=by
 have b1:=uH (Zl x'.aa k old ev);have b2:=uH (Zl x.aa k old ev);cases h with
 | calm h1 h2=>rw [h1];exact ⟨by decide,by omega⟩
 | count h1 h2=>exact ⟨by decide,by omega⟩
 | tail h1=>rw [h1];exact ⟨by decide,by omega⟩
 | word j r r' hr hb h1 hc h2=>exact ⟨by decide,by omega⟩
 | take h1 hc h2=>exact ⟨by decide,by omega⟩
theorem q9n {z z':ZT} {c:Int} (h:kH z.x z'.x c) (hk:z'.k=z.k) (G:ST):kS G z'<=kS G z+c:=by
 have a4:=AF h z.k.t.slot z.k.aB 4;have a5:=AF h z.k.t.slot z.k.aB 5;have a9:=AF h z.k.t.slot z.k.aB 9;have e4:fI z' 4=Zl z'.x.aa z.k.t.slot z.k.aB 4:=by unfold fI;rw [hk]
 have e5:fI z' 5=Zl z'.x.aa z.k.t.slot z.k.aB 5:=by unfold fI;rw [hk]
 have e9:fI z' 9=Zl z'.x.aa z.k.t.slot z.k.aB 9:=by unfold fI;rw [hk]
 rw [<- e4] at a4;rw [<- e5] at a5;rw [<- e9] at a9;have f4:fI z 4=Zl z.x.aa z.k.t.slot z.k.aB 4:=rfl;have f5:fI z 5=Zl z.x.aa z.k.t.slot z.k.aB 5:=rfl;have f9:fI z 9=Zl z.x.aa z.k.t.slot z.k.aB 9:=rfl;rw [<- f4] at a4;rw [<- f5] at a5;rw [<- f9] at a9;unfold kS;split <;> omega
def X9 (cap i:Int):Int:=if cap<=i then 3 else 28*(cap - i)+3
def q8:SS->ZS->Int
 | .at none .shuts,z=>X9 z.x.f.cfg.cap 0+2
 | .at (some .inside) .bO,z=>X9 z.x.f.cfg.cap 0+1
 | .at (some .idle) .cO,_=>2
 | .aj .aS,_=>1
 | .thn (.aj .dC) .waits,_=>3
 | .thn (.at none (.bH _)) (.aA j),z=>28+X9 z.x.f.cfg.cap (j+1)
 | .thn (.at none (.aC i)) (.aA j),z=>27+st2 (Zl z.x.aa i z.k.aB 6)+X9 z.x.f.cfg.cap (j+1)
 | .thn (.aO (.release _) .drop) (.aA j),z=>18+X9 z.x.f.cfg.cap (j+1)
 | .thn (.aj .drop) (.aA j),z=>9+X9 z.x.f.cfg.cap (j+1)
 | _,_=>0
theorem SX (cap i:Int):3<=X9 cap i:=by unfold X9;split <;> omega
theorem JQ (i:Int) (z:ZS):q8 (Zz i z) z=X9 z.x.f.cfg.cap i:=by
 unfold Zz;split
 ·next h=>show (3:Int)=_;unfold X9;rw [if_pos h]
 ·next h =>
  show 28+X9 z.x.f.cfg.cap (i+1)=_
  unfold X9;rw [if_neg h];split <;> omega
structure kP (s:SS) (z:ZS) (r:SS × ZS):Prop where
 au:r.2.x.au=z.x.au
 p:aG r.2.p=aG z.p
 Hy:∃ c,kH z.x r.2.x c/\q8 r.1 r.2+1+4*c<=q8 s z
section
variable {z:ZS} {M:Int} {s:SS} {r:SS × ZS}
theorem kP.calm (h1:r.2.x.aa=z.x.aa) (h2:r.2.x.au=z.x.au) (h4:aG r.2.p=aG z.p) (h3:q8 r.1 r.2+1<=q8 s z):kP s z r :=
 ⟨h2,h4,0,.calm h1 (Jn h2),by omega⟩
theorem kP.count (h1:r.2.x.aa.recs=z.x.aa.recs) (h2:r.2.x.au=z.x.au) (h4:aG r.2.p=aG z.p) (h3:q8 r.1 r.2+9<=q8 s z):kP s z r :=
 ⟨h2,h4,2,.count h1 (Jn h2),by omega⟩
theorem kP.word (j:Nat) (a b:Rec) (hr:z.x.aa.recs[j]?=some a) (hb:aZ a=true) (h1:r.2.x.aa.recs=z.x.aa.recs.set j b) (hc:r.2.x.aa.count=z.x.aa.count) (h2:r.2.x.au=z.x.au) (h4:aG r.2.p=aG z.p) (h3:q8 r.1 r.2+9<=q8 s z):kP s z r :=
 ⟨h2,h4,2,.word j a b hr hb h1 hc (Jn h2),by omega⟩
theorem q3z (hs:Xh z.x.aa) (hf:xk s z.k) (hn:s≠.nil) (hfin:Da s z.k) (hO:∀ j e,xx s=some (j,e)->∃ r,z.x.aa.recs[j]?=some r/\bB r.w=e) (hg:lC M z.x.aa.recs) (hM:0<=M/\M<4294967295):kP s z (stepS s z):=by
 match s,hf with
 | .nil,_=>exact absurd rfl hn
 | .at none .shuts,_ =>
   have:=SX z.x.f.cfg.cap 0
   show kP _ z ((if z.x.f.closed=true then (.aj .aS,{ (z.note { bL with kind:=9,err:=3 }) with k:={ z.k with err:=3,ok:=false,fq:=false } }) else (.at (some .inside) .bO,({ z with x:={ z.x with f:={ z.x.f with closed:=true } } }:ZS).note { bL with kind:=10 })):SS × ZS)
   split
   ·exact kP.calm rfl rfl rfl (by show (1:Int)+1<=X9 z.x.f.cfg.cap 0+2;omega)
   ·exact kP.calm rfl rfl rfl (by show X9 z.x.f.cfg.cap 0+1+1<=X9 z.x.f.cfg.cap 0+2;omega)
 | .at (some .inside) .bO,_ =>
   have e:stepS (.at (some .inside) .bO) z=(Zz 0 z,z):=rfl;rw [e];exact kP.calm rfl rfl rfl (by rw [JQ];show _<=X9 z.x.f.cfg.cap 0+1;omega)
 | .at (some .idle) .cO,_=>exact kP.calm rfl rfl rfl (by show (1:Int)+1<=2;decide)
 | .aj .aS,_=>exact kP.calm rfl rfl rfl (by show (0:Int)+1<=1;decide)
 | .thn (.aj .dC) .waits,_=>exact kP.calm rfl rfl rfl (by show (2:Int)+1<=3;decide)
 | .thn (.at none (.bH i)) (.aA j),_ =>
   by_cases h:bB (z.x.aa.word i)=2\/bB (z.x.aa.word i)=3
   ·have e:stepS (.thn (.at none (.bH i)) (.aA j)) z=(.thn (.at none (.aC i)) (.aA j),Yd i z):=by
     show Qe Xy (if bB (z.x.aa.word i)=2\/bB (z.x.aa.word i)=3 then ((.at none (.aC i),Yd i z):SS × ZS) else (.nil,Yd i z)).1 (.aA j) (if bB (z.x.aa.word i)=2\/bB (z.x.aa.word i)=3 then ((.at none (.aC i),Yd i z):SS × ZS) else (.nil,Yd i z)).2=_
     rw [if_pos h];rfl
    rw [e];have hgw:=FO hg hM.1 i
    have ho:Zl z.x.aa i (z.x.aa.word i) 6=true:=by
     rcases h with h | h
     ·exact AZ hs (by omega) (by decide) (by decide) (by rw [h];rfl) (by rw [h];show Xv (z.x.aa.word i)+0<=4294967295;omega)
     ·exact AZ hs (by omega) (by decide) (by decide) (by rw [h];rfl) (by rw [h];show Xv (z.x.aa.word i)+0<=4294967295;omega)
    refine kP.calm rfl rfl rfl ?_
    show 27+st2 (Zl z.x.aa i (z.x.aa.word i) 6)+X9 z.x.f.cfg.cap (j+1)+1<=28+X9 z.x.f.cfg.cap (j+1)
    rw [ho]
    show 27+0+X9 z.x.f.cfg.cap (j+1)+1<=28+X9 z.x.f.cfg.cap (j+1)
    omega
   ·have e:stepS (.thn (.at none (.bH i)) (.aA j)) z=(Zz (j+1) (Yd i z),Yd i z):=by
     show Qe Xy (if bB (z.x.aa.word i)=2\/bB (z.x.aa.word i)=3 then ((.at none (.aC i),Yd i z):SS × ZS) else (.nil,Yd i z)).1 (.aA j) (if bB (z.x.aa.word i)=2\/bB (z.x.aa.word i)=3 then ((.at none (.aC i),Yd i z):SS × ZS) else (.nil,Yd i z)).2=_
     rw [if_neg h];rfl
    rw [e];exact kP.calm rfl rfl rfl (by rw [JQ];show X9 z.x.f.cfg.cap (j+1)+1<=28+X9 z.x.f.cfg.cap (j+1);omega)
 | .thn (.at none (.aC i)) (.aA j),hf =>
   have pJ:bB z.k.aB=2\/bB z.k.aB=3:=hfin;have hco:q8 (.thn (.at none (.aC i)) (.aA j)) z=27+st2 (Zl z.x.aa i z.k.aB 6)+X9 z.x.f.cfg.cap (j+1):=rfl;rcases Z7 hs i z.k.aB 6 with ⟨t1,t2⟩ | ⟨t1,b,r,w',t2,t3,t4,t5,t6,t7,t8⟩
   ·have e:stepS (.thn (.at none (.aC i)) (.aA j)) z=(.thn (sP i) (.aA j),{ z with x:={ z.x with aa:=(z.x.aa.try i z.k.aB 6).1 } }):=by
     show Qe Xy (Xy (.aC i) z).1 (.aA j) (Xy (.aC i) z).2=_
     have e1:Xy (.aC i) z=(sP i,{ z with x:={ z.x with aa:=(z.x.aa.try i z.k.aB 6).1 } }):=by
      dsimp only [Xy];rw [if_pos t1]
     rw [e1];rfl
    rw [e];have ho:Zl z.x.aa i z.k.aB 6=false:=by unfold Zl;simpa using t1
    refine kP.calm t2 rfl rfl ?_
    rw [hco,ho]
    show 28+X9 z.x.f.cfg.cap (j+1)+1<=27+2+X9 z.x.f.cfg.cap (j+1)
    omega
   ·obtain ⟨z',e,hz,h2,h3,h4⟩:∃ z',stepS (.thn (.at none (.aC i)) (.aA j)) z=(.thn (.aO (.release i) .drop) (.aA j),z')/\z'.x.aa=(z.x.aa.try i z.k.aB 6).1/\z'.x.au=z.x.au/\z'.p=z.p/\z'.x.f.cfg.cap=z.x.f.cfg.cap:=by
     refine ⟨(Xy (.aC i) z).2,?_,?_⟩
     ·show Qe Xy (Xy (.aC i) z).1 (.aA j) (Xy (.aC i) z).2=_
      have e1:(Xy (.aC i) z).1=.aO (.release i) .drop:=by dsimp only [Xy];rw [if_neg (fun h=>h t1)]
      rw [e1];rfl
     ·dsimp only [Xy];rw [if_neg (fun h=>h t1)];exact ⟨rfl,rfl,rfl,rfl⟩
    rw [e];have ho:Zl z.x.aa i z.k.aB 6=true:=by unfold Zl;rw [t1];rfl
    obtain ⟨g1,g2,g3⟩:=FT t5 (.inl rfl) t6;refine kP.word b r { r with w:=w' } t3 (by unfold aZ;rw [decide_eq_false (by omega)];rfl) (by show z'.x.aa.recs=_;rw [hz,t7]) (by show z'.x.aa.count=_;rw [hz,t7]) h2 (by show aG z'.p=_;rw [h3]) ?_
    rw [hco,ho]
    show 18+X9 z'.x.f.cfg.cap (j+1)+9<=27+0+X9 z.x.f.cfg.cap (j+1)
    rw [h4];omega
 | .thn (.aO (.release i) .drop) (.aA j),_ =>
   have hi:0<=i:=hfin;obtain ⟨r,hr,he⟩:=hO _ _ rfl;have hro:=hs.recs r (U3 hr);obtain ⟨b,rfl⟩:=UI hi;rw [UG] at hr;obtain ⟨w',hn,hst⟩:=AV (ev:=10) (p:=decide (0<r.p)) hro (by decide) (by decide) (by rw [he];rfl) (by rw [he];rfl)
   have e2:(stepS (.thn (.aO (.release (b:Int)) .drop) (.aA j)) z).2.x.aa={ z.x.aa with recs:=z.x.aa.recs.set b { r with w:=w' } }:=by
    show (z.x.aa.try b (z.x.aa.word b) 10).1=_
    rw [AL hr hn]
   refine kP.word b r { r with w:=w' } hr (by unfold aZ;rw [decide_eq_false (by omega)];rfl) (by rw [e2]) (by rw [e2]) rfl rfl ?_
   show 9+X9 z.x.f.cfg.cap (j+1)+9<=18+X9 z.x.f.cfg.cap (j+1)
   omega
 | .thn (.aj .drop) (.aA j),_ =>
   have e:stepS (.thn (.aj .drop) (.aA j)) z=(Zz (j+1) (Yc .drop z),Yc .drop z):=rfl;rw [e];refine kP.count (by show z.x.aa.drop.1.recs=_;unfold Qj.drop;split <;> rfl) rfl rfl ?_
   rw [JQ]
   show X9 z.x.f.cfg.cap (j+1)+9<=9+X9 z.x.f.cfg.cap (j+1)
   omega
theorem q9p {z z':ZS} {c:Int} (h:kH z.x z'.x c) (hk:z'.k=z.k) (hcap:z'.x.f.cfg.cap=z.x.f.cfg.cap) (s:SS):q8 s z'<=q8 s z+c:=by
 have h0:=(AF h 0 0 0).1;unfold q8;split
 case h_7 i j=>rw [hk,hcap];have:=(AF h i z.k.aB 6).2;omega
 all_goals first | (rw [hcap];omega) | omega
end
def kT:ST->ZT->Int
 | .at none .bA,_=>215
 | .at none .aI,z=>214+st2 (fI z 3)
 | _,_=>0
section
variable {z:ZT} {M:Int}
theorem q8q (hs:Xh z.x.aa):((Qk 3 z).2=true/\fI z 3=true/\∃ (j:Nat) (a b:Rec),z.x.aa.recs[j]?=some a/\aZ a=true/\(Qk 3 z).1.x.aa.recs=z.x.aa.recs.set j b/\(Qk 3 z).1.x.aa.count=z.x.aa.count) \/
 ((Qk 3 z).2=false/\fI z 3=false/\(Qk 3 z).1.x.aa=z.x.aa):=by
 rcases Z7 hs z.k.t.slot z.k.aB 3 with ⟨t1,t2⟩ | ⟨t1,j,r,w',t2,t3,t4,t5,t6,t7,t8⟩
 ·have hf:((z.x.aa.try z.k.t.slot z.k.aB 3).2.2 == 0)=false:=by simpa using t1
  exact .inr ⟨hf,hf,t2⟩
 ·have hf:((z.x.aa.try z.k.t.slot z.k.aB 3).2.2 == 0)=true:=by rw [t1];rfl
  refine .inl ⟨hf,hf,j,r,{ r with w:=w' },t3,?_,?_,?_⟩
  ·obtain ⟨_,_,g3,_⟩:=AX t5 t6
   cases hb:aZ r with
   | true=>rfl
   | false =>
     have hz:bB r.w=0:=by unfold aZ at hb;simpa using hb
     rw [hz] at g3;exfalso
     revert g3
     generalize (decide (0<r.p) && !Xr r.w)=ag;cases ag <;> decide
  ·show (z.x.aa.try z.k.t.slot z.k.aB 3).1.recs=_;rw [t7]
  ·show (z.x.aa.try z.k.t.slot z.k.aB 3).1.count=_;rw [t7]
theorem qw7 (hs:Xh z.x.aa) (hg:lC M z.x.aa.recs) (hM:0<=M/\M<4294967295):(runT .bA z).2.x=z.x/\(runT .bA z).2.p=z.p/\(runT .bA z).2.ws=z.ws/\((runT .bA z).1=.nil\/(runT .bA z).1=.at none .aI)/\kT (runT .bA z).1 (runT .bA z).2+1<=215:=by
 have e:runT .bA z=if (Qs 2 z).2=true then ((.at none .aI,(Qs 2 z).1):ST × ZT) else (.nil,(Qs 2 z).1):=rfl
 rw [e];split
 ·next h =>
  have h:(bB (z.x.aa.word z.k.t.slot) == 2 && Xv (z.x.aa.word z.k.t.slot) == z.k.t.gen && z.x.aa.mine z.k.t.id)=true:=h;simp only [UA,beq_iff_eq] at h
  have ho:fI (Qs 2 z).1 3=true:=by
   show Zl z.x.aa z.k.t.slot (z.x.aa.word z.k.t.slot) 3=true
   have hgw:=FO hg hM.1 z.k.t.slot
   exact AZ hs (by rw [h.1.1];decide) (by decide) (by decide) (by rw [h.1.1];rfl) (by
    rw [h.1.1];show Xv (z.x.aa.word z.k.t.slot)+0<=4294967295;omega)
  refine ⟨rfl,rfl,rfl,.inr rfl,?_⟩
  show 214+st2 (fI (Qs 2 z).1 3)+1<=215
  rw [ho];decide
 ·exact ⟨rfl,rfl,rfl,.inl rfl,by show (0:Int)+1<=215;decide⟩
theorem qto (hs:Xh z.x.aa):∃ c,kH z.x (runT .aI z).2.x c/\(runT .aI z).2.x.au=z.x.au/\(runT .aI z).2.p=z.p /\
 (((runT .aI z).1=.nil/\205+1+4*c<=kT (.at none .aI) z)\/(((runT .aI z).1=.nil\/(runT .aI z).1=.at none .bA)/\(runT .aI z).2.ws=z.ws/\c=0/\kT (runT .aI z).1 (runT .aI z).2+1<=kT (.at none .aI) z)):=by
 have hco:kT (.at none .aI) z=214+st2 (fI z 3):=rfl;have e:runT .aI z=if (Qk 3 z).2=true then ((.nil,jy (Qk 3 z).1):ST × ZT) else (Qx (Qk 3 z).1,(Qk 3 z).1):=rfl
 rw [e];rcases q8q hs with ⟨t1,t2,j,a,b,t3,t4,t5,t6⟩ | ⟨t1,t2,t3⟩
 ·rw [if_pos t1]
  exact ⟨2,.word j a b t3 t4 t5 t6 (fun _=>rfl),rfl,rfl,.inl ⟨rfl,by rw [hco,t2];decide⟩⟩
 ·rw [if_neg (by rw [t1];decide)]
  refine ⟨0,.calm t3 (fun _=>rfl),rfl,rfl,.inr ⟨?_,rfl,rfl,?_⟩⟩
  ·show Qx _=_\/Qx _=_
   unfold Qx;split
   ·exact .inl rfl
   ·exact .inr rfl
  ·rw [hco,t2]
   show kT (Qx (Qk 3 z).1) (Qk 3 z).1+1<=214+2
   unfold Qx;split
   ·show (0:Int)+1<=214+2;decide
   ·show (215:Int)+1<=214+2;decide
end
theorem q9o {z z':ZT} {c:Int} (h:kH z.x z'.x c) (hk:z'.k=z.k) (P:ST):kT P z'<=kT P z+c:=by
 obtain ⟨h0,a3⟩:=AF h z.k.t.slot z.k.aB 3;have e3:fI z' 3=Zl z'.x.aa z.k.t.slot z.k.aB 3:=by unfold fI;rw [hk]
 have f3:fI z 3=Zl z.x.aa z.k.t.slot z.k.aB 3:=rfl;rw [<- e3,<- f3] at a3;unfold kT;split <;> omega
def Qw (ws:List Qg) (i:Nat):Int:=zt (ws.getD i ⟨0,[],[]⟩)
def uS (ws:List Qg):Nat->Nat->Int
 | 0,_=>2
 | n+1,j=>4+41*Qw ws j+uS ws n (j+1)
def Q1 (z:ZT) (j:Nat):Int:=uS z.ws (z.x.au.length - j) j
def Bi:ST->ZT->Nat->Int
 | .at (some .lock) (.dH _),z,i=>4+41*Qw z.ws i
 | .at none (.bX _),z,i=>3+41*Qw z.ws i
 | .thn (.aj (.bG _)) (.aL _),z,i=>2+41*Qw z.ws i
 | .thn (.at (some (.ready _)) (.bI _)) (.ai _),z,i=>2+41*Qw z.ws i
 | .thn (.thn P (.ax _)) (.ai _),z,i=>2+41*Qw z.ws i+kT P z
 | .thn (.thn G (.aF _ n)) .ay,z,_=>kS G z+41*((z.k.due.length:Int) - (n+1))+1
 | .aj .unlock,_,_=>1
 | _,_,_=>0
def Yg:ST->ZT->Int
 | .at none .enter,z=>3+Q1 z 0
 | .at none .gate,z=>2+Q1 z 0
 | .at none .tick,z=>1+Q1 z 0
 | .aO .leave1 .answer,_=>2
 | .aj .answer,_=>1
 | .thn X (.ae i),z=>Bi X z i+Q1 z (i+1)
 | _,_=>0
def q88:ST->Int
 | .at none .bA=>1
 | .at none .aI=>2
 | _=>0
def I9:ST->Xi->Int
 | .thn (.thn P (.ax _)) (.ai _),_=>q88 P
 | .thn (.thn _ (.aF _ n)) .ay,k=>3*((k.due.length:Int) - n)
 | _,_=>0
def zv:ST->Xi->Int
 | .thn X (.ae _),k=>I9 X k
 | _,_=>0
def dn (ws:List Qg):Int:=Jq (ws.map fun w=>(zt w:Int))
def l9 (s:ST) (z:ZT) (r:ST × ZT):Prop :=
 (∃ c,kH z.x r.2.x c/\Yg r.1 r.2+1+4*c+216*(Y9 r.2.x - Y9 z.x)+2*(aG r.2.p - aG z.p)<=Yg s z)/\3*dn r.2.ws+zv r.1 r.2.k<=3*dn z.ws+zv s z.k+1
theorem L8 {ws:List Qg} {i:Nat} {w:Qg} (h:i<ws.length):dn (ws.set i w)=dn ws - Qw ws i+zt w:=by
 have:=qp (f:=fun w:Qg=>(zt w:Int)) (y:=w) (U6 h);unfold dn Qw;rw [this,U1,U6 h];rfl
theorem K5 (ws:List Qg) (i:Nat):0<=Qw ws i:=Int.natCast_nonneg _
theorem Rh (ws:List Qg):∀ n j,2<=uS ws n j
 | 0,_=>U4 _
 | n+1,j=>by
   have:=Rh ws n (j+1);have:=K5 ws j
   show 2<=4+41*Qw ws j+uS ws n (j+1)
   omega
theorem PQ {ws rz:List Qg}:∀ (n j:Nat),(∀ k,j<=k->Qw rz k=Qw ws k)->uS rz n j=uS ws n j
 | 0,_,_=>rfl
 | n+1,j,h=>by
   have:=PQ n (j+1) (fun k hk=>h k (by omega))
   show 4+41*Qw rz j+uS rz n (j+1)=4+41*Qw ws j+uS ws n (j+1)
   rw [this,h j (UY _)]
section
variable {z z':ZT} {N:Nat} {M:Int} {i:Nat}
theorem Yi {j:Nat} (h:z'.x.au.length=z.x.au.length) (hw:∀ k,j<=k->Qw z'.ws k=Qw z.ws k):Q1 z' j=Q1 z j:=by
 unfold Q1;rw [h];exact PQ _ _ hw
theorem RL {j:Nat} (h:j<z.x.au.length):Q1 z j=4+41*Qw z.ws j+Q1 z (j+1):=by
 unfold Q1;rw [show z.x.au.length - j=(z.x.au.length - (j+1))+1 by omega];rfl
theorem FE (z:ZT) (j:Nat):2<=Q1 z j:=Rh _ _ _
theorem JX {ws:List Qg} {i k:Nat} {w:Qg} (h:k≠i):Qw (ws.set i w) k=Qw ws k:=by
 unfold Qw;rw [U1,U1,List.getElem?_set_ne (fun e=>h e.symm)]
theorem qyp {ws:List Qg} {i:Nat} {w:Qg} (h:i<ws.length):Qw (ws.set i w) i=zt w:=by
 unfold Qw;rw [U1,List.getElem?_set_self h];rfl
def Oc (z:ZT) (r:ST × ZT):Prop:=r.2.k.due=z.k.due/\r.2.k.s=z.k.s/\(∀ k,k≠z.sh->Qw r.2.ws k=Qw z.ws k)/\(dn r.2.ws=dn z.ws\/(r.1=.nil/\dn r.2.ws=dn z.ws+1))
theorem q9c {G:ST} (hG:nX G z.k) (hwl:z.sh<z.ws.length) (hsh:z.wh.Sh):Oc z (St.run runT Q6 G z):=by
 match G,hG with
 | .at none .looks,_ =>
   show Oc z (if (Qs 3 z).2=true then ((.at none .bE,(Qs 3 z).1):ST × ZT) else (.nil,(Qs 3 z).1))
   split <;> exact ⟨rfl,rfl,fun _ _=>rfl,.inl rfl⟩
 | .at none .bE,_ =>
   have e:St.run runT Q6 (.at none .bE) z=(if (Qk 4 z).2=true then ((.thn (.aj (.put ⟨z.k.t.id,z.k.t.gen,z.k.t.dl,z.k.now⟩)) .bD,(Qk 4 z).1.note { bL with kind:=5,id:=z.k.t.id,gen:=z.k.t.gen,dl:=z.k.t.dl,tick:=z.k.now }):ST × ZT) else (.at none .looks,(Qk 4 z).1)):=rfl;rw [e];split <;> exact ⟨rfl,rfl,fun _ _=>rfl,.inl rfl⟩
 | .thn (.aj (.put f)) .bD,_=>exact ⟨rfl,rfl,fun _ _=>rfl,.inl rfl⟩
 | .at none .behind,_ =>
   have e:St.run runT Q6 (.at none .behind) z=((if bB (z.x.aa.word z.k.t.slot)≠4\/Xv (z.x.aa.word z.k.t.slot)≠z.k.t.gen then (St.nil,({ z with k:={ z.k with aB:=z.x.aa.word z.k.t.slot } }:ZT))
    else if 0<z.k.t.per/\Xr (z.x.aa.word z.k.t.slot)=false/\z.k.t.dl+z.k.t.per<18446744073709551616 then (.at none (.aY (z.k.t.dl+z.k.t.per)),{ z with k:={ z.k with aB:=z.x.aa.word z.k.t.slot } }) else (.at none .aQ,{ z with k:={ z.k with aB:=z.x.aa.word z.k.t.slot } })):ST × ZT):=rfl
   rw [e];split
   ·exact ⟨rfl,rfl,fun _ _=>rfl,.inl rfl⟩
   ·split <;> exact ⟨rfl,rfl,fun _ _=>rfl,.inl rfl⟩
 | .at none (.aY next),_ =>
   have e:St.run runT Q6 (.at none (.aY next)) z=(if (Qk 5 z).2=true then ((.nil,jy { (Qk 5 z).1 with k:={ z.k with t:={ z.k.t with gen:=z.k.t.gen+1,dl:=next } } }):ST × ZT) else (.at none .behind,(Qk 5 z).1)):=rfl;rw [e];split
   ·refine ⟨rfl,rfl,fun k hk=>JX hk,.inr ⟨rfl,?_⟩⟩
    show dn (z.ws.set z.sh (z.wh.place _))=_
    rw [L8 hwl,qw hsh]
    show dn z.ws - (zt z.wh:Int)+((zt z.wh+1:Nat):Int)=_
    omega
   ·exact ⟨rfl,rfl,fun _ _=>rfl,.inl rfl⟩
 | .at none .aQ,_ =>
   have e:St.run runT Q6 (.at none .aQ) z=(if (Qk 9 z).2=true then ((.aO .rel .drop,if 0<z.k.t.per/\Xr z.k.aB=false then (Qk 9 z).1.note { bL with kind:=14,id:=z.k.t.id,gen:=z.k.t.gen } else (Qk 9 z).1):ST × ZT) else (.at none .behind,(Qk 9 z).1)):=rfl;rw [e];split
   ·dsimp only
    split <;> exact ⟨rfl,rfl,fun _ _=>rfl,.inl rfl⟩
   ·exact ⟨rfl,rfl,fun _ _=>rfl,.inl rfl⟩
 | .aO .rel .drop,_=>exact ⟨rfl,rfl,fun _ _=>rfl,.inl rfl⟩
 | .aj .drop,_=>exact ⟨rfl,rfl,fun _ _=>rfl,.inl rfl⟩
theorem zq (j:Nat) (z:ZT):Yg (Xa j z).1 (Xa j z).2<=Q1 z j/\(Xa j z).2.x=z.x/\(Xa j z).2.p=z.p/\(Xa j z).2.ws=z.ws/\zv (Xa j z).1 (Xa j z).2.k=0:=by
 unfold Xa;split
 ·next h =>
  refine ⟨?_,rfl,rfl,rfl,rfl⟩
  show 4+41*Qw z.ws j+Q1 z (j+1)<=Q1 z j
  rw [RL h];exact U4 _
 ·exact ⟨FE z j,rfl,rfl,rfl,rfl⟩
theorem QF {x x':Qi} (h1:x'.aa=x.aa) (h2:x'.au=x.au):kH x x' 0/\Y9 x'=Y9 x:=⟨.calm h1 (Jn h2),zi h2⟩
theorem LD {x x':Qi} {s s':Qu} (hs:x.au[i]?=some s) (h1:x'.aa=x.aa) (h2:x'.au=x.au.set i s') (ht:s'.ring.tail=s.ring.tail):kH x x' 0/\Y9 x'=Y9 x+s.ring.head - s'.ring.head:=by
 refine ⟨.calm h1 fun k=>?_,?_⟩
 ·unfold Jy
  rw [h2];by_cases e:k=i
  ·subst e
   rw [U1,U1,get_set_same hs,hs];exact ht
  ·rw [U1,U1,List.getElem?_set_ne (fun e'=>e e'.symm)]
 ·rw [Lx hs h2,ht];omega
end
section
variable {z:ZT} {N:Nat} {M:Int} {i:Nat}
theorem l9.calm {s:ST} {r:ST × ZT} (h1:r.2.x.aa=z.x.aa) (h2:r.2.x.au=z.x.au) (h4:r.2.p=z.p) (h3:Yg r.1 r.2+1<=Yg s z) (h5:3*dn r.2.ws+zv r.1 r.2.k<=3*dn z.ws+zv s z.k+1):l9 s z r:=by
 obtain ⟨a,b⟩:=QF h1 h2;exact ⟨⟨0,a,by rw [b,h4];omega⟩,h5⟩
theorem qsc {s s':ST} {k k':Xi} {ws rz:List Qg} (h:dn rz=dn ws) (h2:zv s' k'<=zv s k+1):3*dn rz+zv s' k'<=3*dn ws+zv s k+1:=by omega
theorem Zc {s s':ST} {k k':Xi} {ws rz:List Qg} (h:rz=ws) (h2:zv s' k'<=zv s k+1):3*dn rz+zv s' k'<=3*dn ws+zv s k+1:=by rw [h];omega
theorem K7 {n:Int} {d:Nat} {r:ST × ZT} {z':ZT} (hr:r=Qe runT (Qe runT (Q5 n z') (.ai d) z').1 (.ae i) (Qe runT (Q5 n z') (.ai d) z').2):Yg r.1 r.2=2+41*Qw z'.ws i+Q1 z' (i+1)/\r.2=z'/\zv r.1 r.2.k=0:=by
 subst hr;by_cases h:n<=0
 ·rw [FD h];exact ⟨rfl,rfl,rfl⟩
 ·rw [Ap h];exact ⟨rfl,rfl,rfl⟩
theorem qyg {X:ST} (hb:TB N z) (hs:z.k.s=some i) (hi:i<z.x.au.length) (hX:kG X z.k z.x i) (hm:mM X z=true)
 (hO:∀ j e,uO (.thn X (.ae i)) z.k=some (j,e)->∃ r,z.x.aa.recs[j]?=some r/\bB r.w=e) (hp:oJ (.thn X (.ae i))<=z.x.aa.count) (hP:jr z.x.aa.recs z.k.t) (hg:lC M z.x.aa.recs) (hM:0<=M/\M<4294967295) :
 l9 (.thn X (.ae i)) z (Qy (.thn X (.ae i)) z):=by
 have hsl:=hb.core.aa;obtain ⟨hget,hsh⟩:=LC hs hi;have hwl:i<z.ws.length:=by rw [hb.rest.wl];exact hi
 have vN:z.wh.Sh:=by
  have:z.wh=z.ws.getD i ⟨0,[],[]⟩:=by unfold ZT.wh;rw [hsh]
  rw [this,U1,U6 hwl];exact (hb.rest.kK _ (UR hwl)).sh
 have Nt:(zt z.wh:Int)=Qw z.ws i:=by unfold Qw ZT.wh;rw [hsh]
 have hw0:=K5 z.ws i
 match X,hX,hm,hO,hp with
 | .at (some .lock) (.dH d),_,_,_,_ =>
   have e:Qy (.thn (.at (some .lock) (.dH d)) (.ae i)) z=(.thn (.at none (.bX d)) (.ae i),z.dh { z.aW with who:=og z.aW.who z.k.th,turns:=nz z.aW.who z.aW.turns }):=rfl;rw [e];obtain ⟨a,b⟩:=LD (x:=z.x) (x':=(z.dh { z.aW with who:=og z.aW.who z.k.th,turns:=nz z.aW.who z.aW.turns }).x) (s':={ z.aW with who:=og z.aW.who z.k.th,turns:=nz z.aW.who z.aW.turns }) hget rfl (by rw [<- hsh];rfl) rfl;refine ⟨⟨0,a,?_⟩,Zc rfl (by show (0:Int)<=0+1;decide)⟩
   rw [b];have hr:Q1 (z.dh { z.aW with who:=og z.aW.who z.k.th,turns:=nz z.aW.who z.aW.turns }) (i+1)=Q1 z (i+1):=Yi (by show (z.x.au.set _ _).length=_;rw [UB]) (fun _ _=>rfl)
   show 3+41*Qw z.ws i+Q1 _ (i+1)+1+4*0+216*_+2*(aG z.p - aG z.p)<=4+41*Qw z.ws i+Q1 z (i+1)
   rw [hr]
   show _+216*(Y9 z.x+z.aW.ring.head - z.aW.ring.head - Y9 z.x)+_<=_
   omega
 | .at none (.bX d),_,_,_,_ =>
   have e:Qy (.thn (.at none (.bX d)) (.ae i)) z=Qe runT ((if z.aW.ring.tail - z.aW.ring.head<=0 then J0 d z else (.thn (Q5 (z.aW.ring.tail - z.aW.ring.head) z) (.ai d),z)):ST × ZT).1 (.ae i) ((if z.aW.ring.tail - z.aW.ring.head<=0 then J0 d z else (.thn (Q5 (z.aW.ring.tail - z.aW.ring.head) z) (.ai d),z)):ST × ZT).2:=rfl;rw [e];split
   ·refine l9.calm rfl rfl rfl ?_ (Zc rfl (by show (0:Int)<=0+1;decide))
    show 2+41*Qw z.ws i+Q1 z (i+1)+1<=3+41*Qw z.ws i+Q1 z (i+1)
    omega
   ·next h =>
    rw [Ap h];refine l9.calm rfl rfl rfl ?_ (Zc rfl (by show (0:Int)<=0+1;decide))
    show 2+41*Qw z.ws i+Q1 z (i+1)+1<=3+41*Qw z.ws i+Q1 z (i+1)
    omega
 | .thn (.aj (.bG d)) (.aL e),_,_,_,_ =>
   have e2:Qy (.thn (.thn (.aj (.bG d)) (.aL e)) (.ae i)) z=Qe runT (runT (.aL e) (Q6 (.bG d) z)).1 (.ae i) (runT (.aL e) (Q6 (.bG d) z)).2:=rfl;rw [e2];obtain ⟨f1,f2,f3⟩:=Kt vN;obtain ⟨w,hw⟩:∃ w,Q6 (.bG d) z=w:=⟨_,rfl⟩;have w1:w.x=z.x:=by rw [<- hw];rfl
   have w2:w.p=z.p:=by rw [<- hw];rfl
   have w3:w.k.due=z.wh.fH.2.map gU.v:=by rw [<- hw];rfl
   have w4:Q1 w (i+1)=Q1 z (i+1):=Yi (by rw [w1]) (fun k hk=>by rw [<- hw];show Qw (z.ws.set z.sh _) k=_;rw [hsh];exact JX (by omega))
   have w6:dn w.ws=dn z.ws - z.wh.fH.2.length:=by
    rw [<- hw]
    show dn (z.ws.set z.sh z.wh.fH.1)=_
    rw [hsh,L8 hwl,<- Nt];omega
   rw [hw];have e3:runT (.aL e) w=(match w.k.due[0]? with | none=>((.aj .unlock,w):ST × ZT) | some _=>(.thn (Qo e 0 w).1 .ay,(Qo e 0 w).2)):=rfl;rw [e3];cases hd:w.k.due[0]? with
   | none =>
     refine l9.calm (by rw [<- w1];rfl) (by rw [<- w1];rfl) (by rw [<- w2];rfl) ?_ (by show 3*dn w.ws+0<=3*dn z.ws+0+1;omega)
     show 1+Q1 w (i+1)+1<=2+41*Qw z.ws i+Q1 z (i+1)
     omega
   | some t =>
     have hf:Qo e 0 w=(.thn (.at none .looks) (.aF e 0),{ w with k:={ w.k with t:=t } }):=by unfold Qo;rw [hd]
     dsimp only
     rw [hf];refine l9.calm (by rw [<- w1];rfl) (by rw [<- w1];rfl) (by rw [<- w2];rfl) ?_ (by show 3*dn w.ws+3*((w.k.due.length:Int) - (0:Nat))<=3*dn z.ws+0+1;rw [w3,UF];omega)
     have w5:Q1 { w with k:={ w.k with t:=t } } (i+1)=Q1 w (i+1):=rfl
     show 41+41*((w.k.due.length:Int) - ((0:Nat)+1))+1+Q1 { w with k:={ w.k with t:=t } } (i+1)+1<=2+41*Qw z.ws i+Q1 z (i+1)
     rw [w5,w3,UF];omega
 | .thn (.at (some (.ready j)) (.bI n)) (.ai d),hX,hm,_,_ =>
   have hj:j=i:=hX.2.2.1
   have hrd:z.aW.ring.ready=true:=by
    have:(z.x.au.getD j (Qr 1)).ring.ready=true:=hm;rw [hj,U1,hget] at this;exact this
   obtain ⟨z',hz'⟩:∃ z':ZT,{ (z.dh { z.aW with ring:=(J3 z.aW.ring).1 }) with k:={ z.k with t:=(J3 z.aW.ring).2.1 } }=z':=⟨_,rfl⟩;have e:Qy (.thn (.thn (.at (some (.ready j)) (.bI n)) (.ai d)) (.ae i)) z=Qe runT (Qe runT (if z'.k.t.slot<0 then (Q5 (n - 1) z',z') else ((.thn (.at none .bA) (.ax n),z'):ST × ZT)).1 (.ai d) (if z'.k.t.slot<0 then (Q5 (n - 1) z',z') else ((.thn (.at none .bA) (.ax n),z'):ST × ZT)).2).1 (.ae i) (Qe runT (if z'.k.t.slot<0 then (Q5 (n - 1) z',z') else ((.thn (.at none .bA) (.ax n),z'):ST × ZT)).1 (.ai d) (if z'.k.t.slot<0 then (Q5 (n - 1) z',z') else ((.thn (.at none .bA) (.ax n),z'):ST × ZT)).2).2:=by rw [<- hz'];rfl
   have p1:(J3 z.aW.ring).1.tail=z.aW.ring.tail/\(J3 z.aW.ring).1.head=z.aW.ring.head+1:=by
    unfold J3;rw [if_pos hrd];exact ⟨rfl,rfl⟩
   obtain ⟨a,b⟩:=LD (x:=z.x) (x':=z'.x) (s':={ z.aW with ring:=(J3 z.aW.ring).1 }) hget (by rw [<- hz'];rfl) (by rw [<- hz',<- hsh];rfl) p1.1;have b:Y9 z'.x=Y9 z.x - 1:=by rw [b];show _+z.aW.ring.head - (J3 z.aW.ring).1.head=_;rw [p1.2];omega
   have c1:z'.p=z.p:=by rw [<- hz'];rfl
   have c2:z'.ws=z.ws:=by rw [<- hz'];rfl
   have c3:Q1 z' (i+1)=Q1 z (i+1):=Yi (by rw [<- hz'];show (z.x.au.set _ _).length=_;rw [UB]) (fun _ _=>by rw [c2]);have hold:Yg (.thn (.thn (.at (some (.ready j)) (.bI n)) (.ai d)) (.ae i)) z=2+41*Qw z.ws i+Q1 z (i+1):=rfl;rw [e];split
   ·obtain ⟨q1,q2,q3⟩:=K7 (i:=i) (d:=d) (n:=n - 1) (z':=z') rfl
    refine ⟨⟨0,by rw [q2];exact a,?_⟩,Zc (by rw [q2,c2]) (by rw [q3];show (0:Int)<=0+1;decide)⟩
    rw [q1,q2,b,c1,c2,c3,hold];omega
   ·refine ⟨⟨0,a,?_⟩,Zc c2 (by show (1:Int)<=0+1;decide)⟩
    show 2+41*Qw z'.ws i+215+Q1 z' (i+1)+1+4*0+216*(Y9 z'.x - Y9 z.x)+2*(aG z'.p - aG z.p)<=_
    rw [b,c1,c2,c3,hold];omega
 | .thn (.thn (.at none .bA) (.ax n)) (.ai d),_,_,_,_ =>
   obtain ⟨g1,g2,g3,g4,g5⟩:=qw7 hsl hg hM;obtain ⟨r,hr⟩:∃ r,runT .bA z=r:=⟨_,rfl⟩;have e:Qy (.thn (.thn (.thn (.at none .bA) (.ax n)) (.ai d)) (.ae i)) z=Qe runT (Qe runT (Qe runT r.1 (.ax n) r.2).1 (.ai d) (Qe runT r.1 (.ax n) r.2).2).1 (.ae i) (Qe runT (Qe runT r.1 (.ax n) r.2).1 (.ai d) (Qe runT r.1 (.ax n) r.2).2).2:=by rw [<- hr];rfl
   have hold:Yg (.thn (.thn (.thn (.at none .bA) (.ax n)) (.ai d)) (.ae i)) z=2+41*Qw z.ws i+215+Q1 z (i+1):=rfl;rw [hr] at g1 g2 g3 g4 g5;have c3:Q1 r.2 (i+1)=Q1 z (i+1):=Yi (by rw [g1]) (fun _ _=>by rw [g3]);rw [e];obtain ⟨r1,r2⟩:=r;simp only at g1 g2 g3 g4 g5 c3;rcases g4 with hc | hc
   ·obtain rfl:r1=.nil:=hc
    obtain ⟨q1,q2,q3⟩:=K7 (i:=i) (d:=d) (n:=n - 1) (z':=r2) rfl
    refine l9.calm ?_ ?_ ?_ ?_ (Zc (by show (Qe runT (Qe runT (Q5 (n - 1) r2) (.ai d) r2).1 (.ae i) (Qe runT (Q5 (n - 1) r2) (.ai d) r2).2).2.ws=_;rw [q2,g3]) (by
     show zv (Qe runT (Qe runT (Q5 (n - 1) r2) (.ai d) r2).1 (.ae i) (Qe runT (Q5 (n - 1) r2) (.ai d) r2).2).1 (Qe runT (Qe runT (Q5 (n - 1) r2) (.ai d) r2).1 (.ae i) (Qe runT (Q5 (n - 1) r2) (.ai d) r2).2).2.k<=1+1
     rw [q3];decide))
    ·show (Qe runT (Qe runT (Q5 (n - 1) r2) (.ai d) r2).1 (.ae i) (Qe runT (Q5 (n - 1) r2) (.ai d) r2).2).2.x.aa=_;rw [q2,g1]
    ·show (Qe runT (Qe runT (Q5 (n - 1) r2) (.ai d) r2).1 (.ae i) (Qe runT (Q5 (n - 1) r2) (.ai d) r2).2).2.x.au=_;rw [q2,g1]
    ·show (Qe runT (Qe runT (Q5 (n - 1) r2) (.ai d) r2).1 (.ae i) (Qe runT (Q5 (n - 1) r2) (.ai d) r2).2).2.p=_;rw [q2,g2]
    ·show Yg (Qe runT (Qe runT (Q5 (n - 1) r2) (.ai d) r2).1 (.ae i) (Qe runT (Q5 (n - 1) r2) (.ai d) r2).2).1 (Qe runT (Qe runT (Q5 (n - 1) r2) (.ai d) r2).1 (.ae i) (Qe runT (Q5 (n - 1) r2) (.ai d) r2).2).2+1<=_
     rw [q1,hold,g3,c3];omega
   ·obtain rfl:r1=.at none .aI:=hc
    refine l9.calm (by show r2.x.aa=_;rw [g1]) (by show r2.x.au=_;rw [g1]) (by show r2.p=_;rw [g2]) ?_ (Zc g3 (by show (2:Int)<=1+1;decide))
    show 2+41*Qw r2.ws i+kT (.at none .aI) r2+Q1 r2 (i+1)+1<=_
    rw [hold,g3,c3];omega
 | .thn (.thn (.at none .aI) (.ax n)) (.ai d),_,_,_,_ =>
   obtain ⟨c,g1,g2,g3,g4⟩:=qto (z:=z) hsl;obtain ⟨r,hr⟩:∃ r,runT .aI z=r:=⟨_,rfl⟩;have e:Qy (.thn (.thn (.thn (.at none .aI) (.ax n)) (.ai d)) (.ae i)) z=Qe runT (Qe runT (Qe runT r.1 (.ax n) r.2).1 (.ai d) (Qe runT r.1 (.ax n) r.2).2).1 (.ae i) (Qe runT (Qe runT r.1 (.ax n) r.2).1 (.ai d) (Qe runT r.1 (.ax n) r.2).2).2:=by rw [<- hr];rfl
   have hold:Yg (.thn (.thn (.thn (.at none .aI) (.ax n)) (.ai d)) (.ae i)) z=2+41*Qw z.ws i+kT (.at none .aI) z+Q1 z (i+1):=rfl;have e1:runT .aI z=if (Qk 3 z).2=true then ((.nil,jy (Qk 3 z).1):ST × ZT) else (Qx (Qk 3 z).1,(Qk 3 z).1):=rfl
   have hws:Qw (runT .aI z).2.ws i<=Qw z.ws i+1/\(∀ k,k≠i->Qw (runT .aI z).2.ws k=Qw z.ws k)/\dn (runT .aI z).2.ws<=dn z.ws+1:=by
    rw [e1];split
    ·refine ⟨?_,fun k hk=>?_,?_⟩
     ·show Qw (z.ws.set z.sh (z.wh.place _)) i<=_
      rw [hsh,qyp hwl,qw vN];omega
     ·show Qw (z.ws.set z.sh (z.wh.place _)) k=_
      rw [hsh];exact JX hk
     ·show dn (z.ws.set z.sh (z.wh.place _))<=_
      rw [hsh,L8 hwl,qw vN,<- Nt];omega
    ·exact ⟨by show Qw z.ws i<=_;omega,fun _ _=>rfl,by show dn z.ws<=_;omega⟩
   rw [hr] at g1 g2 g3 g4 hws;have c3:Q1 r.2 (i+1)=Q1 z (i+1):=Yi (by rw [g2]) (fun k hk=>hws.2.1 k (by omega));rw [e];obtain ⟨r1,r2⟩:=r;simp only at g1 g2 g3 g4 hws c3;have he:Y9 r2.x=Y9 z.x:=zi g2
   have hnil:r1=.nil->41*Qw r2.ws i+1+4*c<=41*Qw z.ws i+kT (.at none .aI) z->l9 (.thn (.thn (.thn (.at none .aI) (.ax n)) (.ai d)) (.ae i)) z (Qe runT (Qe runT (Qe runT r1 (.ax n) r2).1 (.ai d) (Qe runT r1 (.ax n) r2).2).1 (.ae i) (Qe runT (Qe runT r1 (.ax n) r2).1 (.ai d) (Qe runT r1 (.ax n) r2).2).2):=fun hc hle=>by
    subst hc;obtain ⟨q1,q2,q3⟩:=K7 (i:=i) (d:=d) (n:=n - 1) (z':=r2) rfl
    refine UU ?_ (by
     show 3*dn (Qe runT (Qe runT (Q5 (n - 1) r2) (.ai d) r2).1 (.ae i) (Qe runT (Q5 (n - 1) r2) (.ai d) r2).2).2.ws+zv (Qe runT (Qe runT (Q5 (n - 1) r2) (.ai d) r2).1 (.ae i) (Qe runT (Q5 (n - 1) r2) (.ai d) r2).2).1 (Qe runT (Qe runT (Q5 (n - 1) r2) (.ai d) r2).1 (.ae i) (Qe runT (Q5 (n - 1) r2) (.ai d) r2).2).2.k<=3*dn z.ws+2+1
     rw [q3,q2];have:=hws.2.2;omega)
    show ∃ c,kH z.x (Qe runT (Qe runT (Q5 (n - 1) r2) (.ai d) r2).1 (.ae i) (Qe runT (Q5 (n - 1) r2) (.ai d) r2).2).2.x c/\Yg (Qe runT (Qe runT (Q5 (n - 1) r2) (.ai d) r2).1 (.ae i) (Qe runT (Q5 (n - 1) r2) (.ai d) r2).2).1 (Qe runT (Qe runT (Q5 (n - 1) r2) (.ai d) r2).1 (.ae i) (Qe runT (Q5 (n - 1) r2) (.ai d) r2).2).2+1+4*c+216*(Y9 (Qe runT (Qe runT (Q5 (n - 1) r2) (.ai d) r2).1 (.ae i) (Qe runT (Q5 (n - 1) r2) (.ai d) r2).2).2.x - Y9 z.x)+2*(aG (Qe runT (Qe runT (Q5 (n - 1) r2) (.ai d) r2).1 (.ae i) (Qe runT (Q5 (n - 1) r2) (.ai d) r2).2).2.p - aG z.p)<=_
    refine ⟨c,by rw [q2];exact g1,?_⟩
    rw [q1,q2,he,g3,hold,c3];omega
   rcases g4 with ⟨h1,h2⟩ | ⟨h1,h2,h3,h4⟩
   ·exact hnil h1 (by have:=hws.1;omega)
   ·subst h3
    rcases h1 with h1 | h1
    ·refine hnil h1 ?_
     rw [h1] at h4;have h4:(0:Int)+1<=kT (.at none .aI) z:=h4;rw [h2];omega
    ·subst h1
     refine ⟨⟨0,g1,?_⟩,Zc h2 (by show (1:Int)<=2+1;decide)⟩
     show 2+41*Qw r2.ws i+kT (.at none .bA) r2+Q1 r2 (i+1)+1+4*0+216*(Y9 r2.x - Y9 z.x)+2*(aG r2.p - aG z.p)<=_
     rw [he,g3,hold,c3,h2];omega
 | .thn (.thn G (.aF d n)) .ay,hX,_,hO,hp =>
   obtain ⟨_,_,_,hnl,hG⟩:=hX;obtain ⟨g1,c,g2,g3⟩:=q9b hsl hG hO hp hP hg hM;obtain ⟨k1,k2,k3,k4⟩:=q9c hG (by rw [hsh];exact hwl) vN;obtain ⟨r,hr⟩:∃ r,St.run runT Q6 G z=r:=⟨_,rfl⟩;have e:Qy (.thn (.thn (.thn G (.aF d n)) .ay) (.ae i)) z=Qe runT (Qe runT (Qe runT r.1 (.aF d n) r.2).1 .ay (Qe runT r.1 (.aF d n) r.2).2).1 (.ae i) (Qe runT (Qe runT r.1 (.aF d n) r.2).1 .ay (Qe runT r.1 (.aF d n) r.2).2).2:=by rw [<- hr];rfl
   have hold:Yg (.thn (.thn (.thn G (.aF d n)) .ay) (.ae i)) z=kS G z+41*((z.k.due.length:Int) - (n+1))+1+Q1 z (i+1):=rfl;rw [hr] at g1 g2 g3 k1 k2 k3 k4;have he:=zi g1;have c3:Q1 r.2 (i+1)=Q1 z (i+1):=Yi (by rw [g1]) (fun k hk=>k3 k (by omega));by_cases hn:r.1=.nil
   ·rw [e]
    obtain ⟨G',z'⟩:=r;obtain rfl:G'=.nil:=hn;simp only at g1 g2 g3 k1 k2 k3 k4 he c3;have k4:dn z'.ws<=dn z.ws+1:=by rcases k4 with h | h <;> omega
    have g3:(0:Int)+1+4*c+2*(aG z'.p - aG z.p)<=kS G z:=g3
    show l9 _ z (Qe runT (Qe runT (Qo d (n+1) z').1 .ay (Qo d (n+1) z').2).1 (.ae i) (Qe runT (Qo d (n+1) z').1 .ay (Qo d (n+1) z').2).2)
    cases hd:z'.k.due[n+1]? with
    | none =>
      have hfi:Qo d (n+1) z'=(.nil,z'):=by unfold Qo;rw [hd]
      rw [hfi];refine ⟨⟨c,g2,?_⟩,by show 3*dn z'.ws+0<=3*dn z.ws+3*((z.k.due.length:Int) - n)+1;omega⟩
      show 1+Q1 z' (i+1)+1+4*c+216*(Y9 z'.x - Y9 z.x)+2*(aG z'.p - aG z.p)<=_
      rw [hold,he,c3];omega
    | some t =>
      have hfi:Qo d (n+1) z'=(.thn (.at none .looks) (.aF d (n+1)),{ z' with k:={ z'.k with t:=t } }):=by unfold Qo;rw [hd]
      rw [hfi];refine ⟨⟨c,g2,?_⟩,by show 3*dn z'.ws+3*((z'.k.due.length:Int) - (n+1:Nat))<=3*dn z.ws+3*((z.k.due.length:Int) - n)+1;rw [k1];omega⟩
      have c5:Q1 { z' with k:={ z'.k with t:=t } } (i+1)=Q1 z' (i+1):=rfl
      show 41+41*((z'.k.due.length:Int) - ((n+1:Nat)+1))+1+Q1 { z' with k:={ z'.k with t:=t } } (i+1)+1+4*c+216*(Y9 z'.x - Y9 z.x)+2*(aG z'.p - aG z.p)<=_
      rw [hold,he,c5,c3,k1];omega
   ·rw [e]
    obtain ⟨G',z'⟩:=r;simp only at g1 g2 g3 k1 k2 k3 k4 he c3 hn;have k4:dn z'.ws=dn z.ws:=by rcases k4 with h | h;exact h;exact absurd h.1 hn
    rw [Xx hn,Xx (by intro e;cases e),Xx (by intro e;cases e)];refine ⟨⟨c,g2,?_⟩,qsc k4 (by show 3*((z'.k.due.length:Int) - n)<=3*((z.k.due.length:Int) - n)+1;rw [k1];omega)⟩
    show kS G' z'+41*((z'.k.due.length:Int) - (n+1))+1+Q1 z' (i+1)+1+4*c+216*(Y9 z'.x - Y9 z.x)+2*(aG z'.p - aG z.p)<=_
    rw [hold,he,c3,k1];omega
 | .aj .unlock,_,_,_,_ =>
   have e:Qy (.thn (.aj .unlock) (.ae i)) z=Xa (i+1) (z.dh { z.aW with who:=0 }):=rfl;rw [e];obtain ⟨s1,s2,s3,s4,s5⟩:=zq (i+1) (z.dh { z.aW with who:=0 });obtain ⟨a,b⟩:=LD (x:=z.x) (x':=(z.dh { z.aW with who:=0 }).x) (s':={ z.aW with who:=0 }) hget rfl (by rw [<- hsh];rfl) rfl;have hr:Q1 (z.dh { z.aW with who:=0 }) (i+1)=Q1 z (i+1):=Yi (by show (z.x.au.set _ _).length=_;rw [UB]) (fun _ _=>rfl);refine ⟨⟨0,by rw [s2];exact a,?_⟩,Zc s4 (by rw [s5];show (0:Int)<=0+1;decide)⟩
   rw [s2,s3,b]
   show _+216*(Y9 z.x+z.aW.ring.head - z.aW.ring.head - Y9 z.x)+2*(aG z.p - aG z.p)<=1+Q1 z (i+1)
   omega
theorem Se {s:ST} (hb:TB N z) (hf:qT s z.k z.x) (hm:mM s z=true) (hd:s≠.nil)
 (hO:∀ j e,uO s z.k=some (j,e)->∃ r,z.x.aa.recs[j]?=some r/\bB r.w=e) (hp:oJ s<=z.x.aa.count) (hP:jr z.x.aa.recs z.k.t) (hg:lC M z.x.aa.recs) (hM:0<=M/\M<4294967295):l9 s z (Qy s z):=by
 match s,hf,hm,hO,hp with
 | .nil,_,_,_,_=>exact absurd rfl hd
 | .at none .enter,_,_,_,_=>exact l9.calm rfl rfl rfl (by show 2+Q1 z 0+1<=3+Q1 z 0;omega) (Zc rfl (by show (0:Int)<=0+1;decide))
 | .at none .gate,_,_,_,_ =>
   show l9 _ z ((if z.x.f.closed=true then Ys 3 z else (.at none .tick,z)):ST × ZT)
   split
   ·exact l9.calm rfl rfl rfl (by have:=FE z 0;show (2:Int)+1<=2+Q1 z 0;omega) (Zc rfl (by show (0:Int)<=0+1;decide))
   ·exact l9.calm rfl rfl rfl (by show 1+Q1 z 0+1<=2+Q1 z 0;omega) (Zc rfl (by show (0:Int)<=0+1;decide))
 | .at none .tick,_,_,_,_ =>
   obtain ⟨z1,hz1⟩:∃ z1:ZT,({ z with x:={ z.x with f:={ z.x.f with now:=z.x.f.now+1 } },k:={ z.k with now:=z.x.f.now+1 } }:ZT).note { bL with kind:=11,tick:=z.x.f.now+1 }=z1:=⟨_,rfl⟩;have e:Qy (.at none .tick) z=Xa 0 z1:=by rw [<- hz1];rfl
   obtain ⟨s1,s2,s3,s4,s5⟩:=zq 0 z1;rw [e];refine l9.calm (by rw [s2,<- hz1];rfl) (by rw [s2,<- hz1];rfl) (by rw [s3,<- hz1];rfl) ?_ (Zc (by rw [s4,<- hz1];rfl) (by rw [s5];show (0:Int)<=0+1;decide))
   have:Q1 z1 0=Q1 z 0:=by rw [<- hz1];rfl
   show _+1<=1+Q1 z 0
   omega
 | .aO .leave1 .answer,_,_,_,_=>exact l9.calm rfl rfl rfl (by show (1:Int)+1<=2;decide) (Zc rfl (by show (0:Int)<=0+1;decide))
 | .aj .answer,_,_,_,_=>exact l9.calm rfl rfl rfl (by show (0:Int)+1<=1;decide) (Zc rfl (by show (0:Int)<=0+1;decide))
 | .thn X (.ae i),h,hm,hO,hp =>
   obtain ⟨h1,h2,_,hX⟩:=h;exact qyg hb h1 h2 hX hm hO hp hP hg hM
theorem q9q {z z':ZT} {c:Int} (h:kH z.x z'.x c) (hk:z'.k=z.k) (hw:z'.ws=z.ws) (hl:z'.x.au.length=z.x.au.length) (s:ST):Yg s z'<=Yg s z+c/\0<=c:=by
 have hc0:0<=c:=by cases h <;> decide
 refine ⟨?_,hc0⟩
 have hr:∀ j,Q1 z' j=Q1 z j:=fun j=>Yi hl (fun _ _=>by rw [hw])
 unfold Yg;split
 case h_6 =>
  rename_i X i
  rw [hr];have hg:=fun G=>q9n h hk G
  have hp:=fun P=>q9o h hk P
  have:Bi X z' i<=Bi X z i+c:=by
   unfold Bi;split
   case h_5=>rename_i P _ _;have:=hp P;rw [hw];omega
   case h_6=>rename_i G _ _;have:=hg G;rw [hk];omega
   all_goals (try rw [hw]);omega
  omega
 all_goals (try rw [hr]);omega
end
def oF:Wk->ZF->Int
 | .call s k,z=>Jz s k z.x
 | .turn s k,z=>Yg s ⟨k,z.x,z.ws,z.p⟩
 | .dM s k,z=>q8 s ⟨k,z.x,z.p⟩
def SvS.dX (S:SvS):Option Nat->Int
 | none=>0
 | some a=>oF (S.af a).w S.z
def SvS.held (S:SvS):Int:=Jq (S.aP.map fun c=>(c.k.holds.length:Int))
def SvS.phi (S:SvS):Int:=Jq (S.own.map S.dX)+216*Y9 S.z.x+2*aG S.z.p+S.held
theorem qvt (s:SC) (k:Qv) (x:Qi) (hn:x.aa.recs.length<=12):0<=Jz s k x/\Jz s k x<=400:=by
 unfold Jz;split
 case h_9=>have:=uH (Zl x.aa k.slot k.aB k.event);split <;> omega
 case h_12=>split <;> omega
 case h_13 =>
  unfold zD;split
  ·omega
  ·split
   ·omega
   ·split <;> split <;> omega
 case h_14 =>
  unfold wD;split
  ·omega
  ·rename_i q _
   have:=yP x.aa.recs x.aa.recs.length q.slot.toNat;split
   ·omega
   ·split
    ·split <;> omega
    ·omega
 all_goals omega
def lF (p:Q2):Prop:=1<=p.room/\(p.sp=[]\/p.ch.length=p.room)/\p.ch.length<=p.room
theorem lF.put {p:Q2} (h:lF p) (f:Xj):lF (p.put f).1:=by
 unfold Q2.put;split
 ·exact h
 ·split
  ·next h2=>exact ⟨h.1,.inl h2.1,by show (p.ch++[f]).length<=p.room;rw [UO];exact h2.2⟩
  ·next h1 h2 =>
   refine ⟨h.1,.inr ?_,h.2.2⟩
   show p.ch.length=p.room
   rcases h.2.1 with h3 | h3
   ·have:¬ p.ch.length<p.room:=fun h4=>h2 ⟨h3,h4⟩
    have:=h.2.2;omega
   ·exact h3
theorem lF.take {p:Q2} (h:lF p):lF p.take.1:=by
 unfold Q2.take;split
 ·exact h
 ·next f l h1 h2=>exact ⟨h.1,.inl h2,by have:=h.2.2;rw [h1] at this;simp only [UC] at this;show l.length<=p.room;omega⟩
 ·next f l x sp h1 h2 =>
  suffices e:(l++[x]).length=p.room from ⟨h.1,.inr e,Nat.le_of_eq e⟩
  rcases h.2.1 with h3 | h3
  ·rw [h2] at h3;cases h3
  ·rw [h1] at h3
   rw [UO,<- h3];rfl
theorem QZ {p:Q2} (h:lF p) (hp:0<(p.ch.length:Int)+p.sp.length):aG p.take.1+1=aG p:=by
 unfold Q2.take aG;split
 ·next h1 =>
  exfalso
  have h0:=h.1;rw [h1] at hp;rcases h.2.1 with h3 | h3
  ·rw [h3] at hp;simp at hp
  ·rw [h1] at h3;simp at h3;omega
 ·next f l h1 h2=>rw [h1,h2];simp
 ·next f l x sp h1 h2=>rw [h1,h2];simp;omega
theorem Lp (m:MT) (z:ZT):(runT m z).2.p=z.p:=by
 cases m with
 | enter=>rfl
 | gate =>
   show (if z.x.f.closed=true then Ys 3 z else (.at none .tick,z)).2.p=z.p
   split <;> rfl
 | tick=>exact (zq 0 _).2.2.1
 | ae i=>exact (zq _ z).2.2.1
 | dH d=>rfl
 | bX d=>dsimp only [runT];split <;> rfl
 | ai d=>rfl
 | aL d =>
   dsimp only [runT]
   split
   ·rfl
   ·show (Qo d 0 z).2.p=z.p;unfold Qo;split <;> rfl
 | ay=>rfl
 | bI n=>dsimp only [runT];split <;> rfl
 | ax n=>rfl
 | bA=>dsimp only [runT];split <;> rfl
 | aI=>dsimp only [runT];split <;> rfl
 | aF d i=>show (Qo d (i+1) z).2.p=z.p;unfold Qo;split <;> rfl
 | looks=>dsimp only [runT];split <;> rfl
 | bE=>dsimp only [runT];split <;> rfl
 | bD=>rfl
 | behind =>
   dsimp only [runT]
   split
   ·rfl
   ·split <;> rfl
 | aY next=>dsimp only [runT];split <;> rfl
 | aQ =>
   dsimp only [runT]
   split
   ·split <;> rfl
   ·rfl
theorem qyk (s:ST) (z:ZT) (h:lF z.p):lF (Qy s z).2.p :=
 St.keep (R:=fun z z':ZT=>lF z.p->lF z'.p) (fun _ h=>h) (fun _ _ _ a b h=>b (a h)) (fun m z h=>by rw [Lp];exact h) (fun a z h=>by
  cases a with
  | put f=>exact h.put f
  | _=>exact h) s z h
theorem qzt (s:SS) (z:ZS) (h:lF z.p):lF (stepS s z).2.p :=
 St.keep (R:=fun z z':ZS=>lF z.p->lF z'.p) (runM:=Xy) (bN:=Yc) (fun _ h=>h) (fun _ _ _ a b h=>b (a h)) (fun m z h=>by
  have e:(Xy m z).2.p=z.p:=by
   cases m with
   | shuts=>dsimp only [Xy];split <;> rfl
   | bO=>rfl
   | aA i=>rfl
   | waits=>rfl
   | bH i=>dsimp only [Xy];split <;> rfl
   | aC i=>dsimp only [Xy];split <;> rfl
   | cO=>rfl
  rw [e];exact h) (fun a z h=>by
  cases a with
  | dC=>exact h
  | _=>exact h) s z h
theorem qvq (s:SS) (z:ZS):aG (stepS s z).2.p<=aG z.p+1:=by
 have:=St.keep (R:=fun z z':ZS=>aG z'.p=aG z.p) (runM:=Xy) (bN:=Yc) (fun _=>rfl) (fun _ _ _ a b=>b.trans a) (fun m z=>by
  cases m with
  | shuts=>dsimp only [Xy];split <;> rfl
  | bO=>rfl
  | aA i=>rfl
  | waits=>rfl
  | bH i=>dsimp only [Xy];split <;> rfl
  | aC i=>dsimp only [Xy];split <;> rfl
  | cO=>rfl) (fun a z=>by
  cases a with
  | dC=>rfl
  | _=>rfl) s z
 have this:aG (stepS s z).2.p=aG z.p:=this;omega
theorem qs9 {s:ST} (h:s≠.nil):s.isNil=false:=by cases s with
 | nil=>exact absurd rfl h
 | _=>rfl
theorem Sk {N:Nat} {c:dz} {z:ZF} (hcn:mK N c) (hp:lF z.p) (hm:c.may z=true):(c.step z).2.x.aa=z.x.aa/\(c.step z).2.x.au=z.x.au/\(c.step z).2.ws=z.ws/\(c.step z).2.x.f.cfg=z.x.f.cfg /\
 2*aG (c.step z).2.p+((c.step z).1.k.holds.length:Int)+1<=2*aG z.p+(c.k.holds.length:Int):=by
 obtain ⟨wb,s,n,k⟩:=c;rcases hcn.fit with ⟨h1,h2⟩ | ⟨h1,h2⟩
 ·obtain rfl:s=J2:=h1
  have h2:k.holds=[]:=h2;have hm:decide (0<(z.p.ch.length:Int)+z.p.sp.length)=true:=hm;have:=QZ hp (by simpa using hm);refine ⟨rfl,rfl,rfl,rfl,?_⟩
  show 2*aG z.p.take.1+((k.holds++[z.p.take.2.1]).length:Int)+1<=2*aG z.p+(k.holds.length:Int)
  rw [h2];simp only [US,UL,UJ];omega
 ·obtain rfl:s=.thn (.aj .jD) .takes:=h1
  have h2:k.holds.length=1:=h2;refine ⟨rfl,rfl,rfl,rfl,?_⟩
  show 2*aG z.p+(([]:List Xj).length:Int)+1<=2*aG z.p+(k.holds.length:Int)
  rw [h2];simp
structure GY (N:Nat) (S:SvS):Prop where
 n:dN N S
 live:qz S
 sl:oW N S
 ti:TI S
 ol:S.own.length=5
 uq:∀ (i k a:Nat),S.own[i]?=some (some a)->S.own[k]?=some (some a)->i=k
 cap:S.z.x.aa.recs.length<=12
 pf:lF S.z.p
theorem LX {α:Type} {f g:α->Int} {c:Int}:∀ {l:List α},(∀ (k:Nat) y,l[k]?=some y->g y<=f y+c)->Jq (l.map g)<=Jq (l.map f)+c*(l.length:Int)
 | [],_=>by simp [Jq]
 | b::l,h=>by
   have h1:=LX (l:=l) (f:=f) (g:=g) (c:=c) (fun k y hk=>h (k+1) y (by simpa using hk));have h2:=h 0 b rfl
   show g b+Jq (l.map g)<=f b+Jq (l.map f)+c*((b::l).length:Int)
   rw [UC,Int.natCast_add,Int.mul_add];have:c*((1:Nat):Int)=c:=Int.mul_one c;rw [this];omega
theorem Sa {α:Type} {f g:α->Int} {c d:Int}:∀ {l:List α} {i:Nat} {x:α},l[i]?=some x->g x+d<=f x->(∀ (k:Nat) y,k≠i->l[k]?=some y->g y<=f y+c)->Jq (l.map g)+d+c<=Jq (l.map f)+c*(l.length:Int)
 | b::l,0,x,h,h1,h2=>by
   simp only [List.getElem?_cons_zero,Option.some.injEq] at h;subst h;have h3:=LX (l:=l) (f:=f) (g:=g) (c:=c) (fun k y hk=>h2 (k+1) y (by omega) (by simpa using hk))
   show g b+Jq (l.map g)+d+c<=f b+Jq (l.map f)+c*((b::l).length:Int)
   rw [UC,Int.natCast_add,Int.mul_add];have:c*((1:Nat):Int)=c:=Int.mul_one c;rw [this];omega
 | b::l,i+1,x,h,h1,h2=>by
   have h3:=Sa (l:=l) (f:=f) (g:=g) (c:=c) (d:=d) (i:=i) (x:=x) (by simpa using h) h1 (fun k y hk hy=>h2 (k+1) y (by omega) (by simpa using hy));have h4:=h2 0 b (by omega) rfl
   show g b+Jq (l.map g)+d+c<=f b+Jq (l.map f)+c*((b::l).length:Int)
   rw [UC,Int.natCast_add,Int.mul_add];have:c*((1:Nat):Int)=c:=Int.mul_one c;rw [this];omega
theorem q0h {rs:List Rec} (h:Ja rs<rs.length):∃ r∈rs,aZ r=false:=by
 refine Classical.byContradiction fun hc=>?_
 have:Ja rs=rs.length:=List.countP_eq_length.2 fun r hr=>by
  cases hb:aZ r with
  | true=>rfl
  | false=>exact absurd ⟨r,hr,hb⟩ hc
 omega
section
variable {N:Nat} {S:SvS}
theorem Ky {w:Wk} (h:w.done=true) (z:ZF):oF w z=0:=by
 cases w with
 | call s k=>cases s <;> first | rfl | cases h
 | turn s k=>cases s <;> first | rfl | cases h
 | dM s k=>cases s <;> first | rfl | cases h
theorem Pt {z z':ZF} {c:Int} (h:kH z.x z'.x c) (hl:z'.x.au.length=z.x.au.length) (hcap:z.x.aa.recs.length<=12) (yw:z'.x.f.cfg.cap=z.x.f.cfg.cap) (w:Wk) (hw:w.isTurn=true->w.done=false->z'.ws=z.ws):oF w z'<=oF w z+c:=by
 have hc0:0<=c:=(IX h hcap .nil (fP 0 0 ⟨0,0,0,0⟩)).2;cases hd:w.done with
 | true=>rw [Ky hd,Ky hd];omega
 | false =>
   cases w with
   | call s k=>exact (IX h hcap s k).1
   | turn s k=>exact (q9q (z:=⟨k,z.x,z.ws,z.p⟩) (z':=⟨k,z'.x,z'.ws,z'.p⟩) h rfl (hw rfl hd) hl s).1
   | dM s k=>exact q9p (z:=⟨k,z.x,z.p⟩) (z':=⟨k,z'.x,z'.p⟩) h rfl yw s
theorem q4a (h:GY N S) (hN:N<999998) {a:Nat} (ha:a<S.all.length) (hm:(S.af a).w.may S.z=true) :
 ∃ c,kH S.z.x ((S.af a).w.step S.z).2.x c/\oF ((S.af a).w.step S.z).1 ((S.af a).w.step S.z).2+1+4*c+216*(Y9 ((S.af a).w.step S.z).2.x - Y9 S.z.x)+2*(aG ((S.af a).w.step S.z).2.p - aG S.z.p)<=oF (S.af a).w S.z/\((S.af a).w.isTurn=false->((S.af a).w.step S.z).2.ws=S.z.ws):=by
 have hn:=h.n;have ha:=Xd ha;obtain ⟨hjn,_,_⟩:=hn.eT _ (U3 ha);have hO:∀ j e,tV (S.af a).w=some (j,e)->∃ r,S.z.x.aa.recs[j]?=some r/\bB r.w=e:=fun j e hj=>(h.sl.own.own a j e (by rw [x9 ha,hj])).2
 have hp:lH (S.af a).w<=S.z.x.aa.count - Ja S.z.x.aa.recs:=by
  have:=zy (f:=fun j:Jw=>lH j.w) (fun x=>FI x.w) ha;have:=h.sl.cnt;omega
 have hfin:=h.sl.fin a _ ha;have hgo:=h.live.go a _ ha;have qK:=h.ti.eY a _ ha;have hsl:=hn.eF.zn.core.aa;have hd:=Z3 hm
 have hR:∀ s∈S.z.x.au,mY s.ring:=fun s hs=>by
  obtain ⟨i,hi⟩:=U9.1 hs;exact h.live.rg.ring i s.ring (by unfold Qi.rg;rw [hi];rfl)
 have hM:(0:Int)<=N/\(N:Int)<4294967295:=⟨by omega,by omega⟩;generalize (S.af a).w=w at *;cases w with
 | call s k =>
   have hs:s≠.nil:=fun e=>by subst e;cases hd
   have hjc:JC N s (k,S.z.x):=⟨hn.eF.zn.core,hjn.wk,hjn.fit⟩;obtain ⟨c,c1,c2⟩:=qzf (M:=N) hjc hgo.1 hgo.2 hs hO hR h.cap h.sl.gen hM.2 (by have hp:z5 s k<=_:=hp;omega) (fun _ h1=>q0h (by have:=hsl.c1;have hp:z5 s k<=_:=hp;omega));refine ⟨c,c1,?_,fun _=>rfl⟩
   show Jz (J5 s (k,S.z.x)).1 (J5 s (k,S.z.x)).2.1 (J5 s (k,S.z.x)).2.2+1+4*c+216*(Y9 (J5 s (k,S.z.x)).2.2 - Y9 S.z.x)+2*(aG S.z.p - aG S.z.p)<=Jz s k S.z.x
   omega
 | turn s k =>
   have hs:s≠.nil:=fun e=>by subst e;cases hd
   have hb:TB N ⟨k,S.z.x,S.z.ws,S.z.p⟩:=⟨hn.eF.zn.core,hn.eF.zn.rest,hjn.wk,hn.eF.ws,hn.eF.iT⟩;obtain ⟨⟨c,c1,c2⟩,_⟩:=Se (M:=N) hb hjn.fit hm hs hO (by have hp:oJ s<=_:=hp;show oJ s<=S.z.x.aa.count;omega) qK.1 h.sl.gen hM;exact ⟨c,c1,c2,fun e=>by cases e⟩
 | dM s k =>
   have hs:s≠.nil:=fun e=>by subst e;cases hd
   obtain ⟨c1,c2,c,c3,c4⟩:=q3z (z:=⟨k,S.z.x,S.z.p⟩) (M:=N) hsl hjn.fit hs hfin hO h.sl.gen hM;refine ⟨c,c3,?_,fun _=>rfl⟩
   have e1:Y9 (stepS s ⟨k,S.z.x,S.z.p⟩).2.x=Y9 S.z.x:=zi c1;have c2:aG (stepS s ⟨k,S.z.x,S.z.p⟩).2.p=aG S.z.p:=c2
   show q8 (stepS s ⟨k,S.z.x,S.z.p⟩).1 _+1+4*c+216*(Y9 (stepS s ⟨k,S.z.x,S.z.p⟩).2.x - Y9 S.z.x)+2*(aG (stepS s ⟨k,S.z.x,S.z.p⟩).2.p - aG S.z.p)<=q8 s ⟨k,S.z.x,S.z.p⟩
   rw [e1,c2];have c4:q8 (stepS s ⟨k,S.z.x,S.z.p⟩).1 (stepS s ⟨k,S.z.x,S.z.p⟩).2+1+4*c<=q8 s ⟨k,S.z.x,S.z.p⟩:=c4
   show q8 (stepS s ⟨k,S.z.x,S.z.p⟩).1 (stepS s ⟨k,S.z.x,S.z.p⟩).2+1+4*c+216*(Y9 S.z.x - Y9 S.z.x)+2*(aG S.z.p - aG S.z.p)<=q8 s ⟨k,S.z.x,S.z.p⟩
   omega
theorem q05 (h:GY N S) (hN:N<999998) {t:Th} (ht:t.here S) (hm:t.may S=true):(t.step S).phi+1<=S.phi:=by
 have hn:=h.n;cases t with
 | eY a =>
   have ht:a<S.all.length:=ht;have ha:=Xd ht;have hm:(S.af a).w.may S.z=true:=hm;have hd:=Z3 hm;obtain ⟨c,c1,c2,c3⟩:=q4a h hN ht hm;obtain ⟨hjn,_,_⟩:=hn.eT _ (U3 ha);obtain ⟨k1,_,k3,_,_⟩:=K4 hn.eF hjn hm (by omega);have yw:((S.af a).w.step S.z).2.x.f.cfg.cap=S.z.x.f.cfg.cap:=by rw [k1.zn.rest.cap,hn.eF.zn.rest.cap,k3.recs]
   obtain ⟨i,hi⟩:=h.live.own a _ ha hd
   have key:=Sa (f:=S.dX) (g:=(Th.step S (.eY a)).dX) (c:=c) (d:=1+4*c+216*(Y9 ((S.af a).w.step S.z).2.x - Y9 S.z.x)+2*(aG ((S.af a).w.step S.z).2.p - aG S.z.p)) hi (by
    have e:(Th.step S (.eY a)).af a=⟨(S.af a).kb,(S.af a).n+1,((S.af a).w.step S.z).1⟩:=by
     show (S.all.set a _).getD a xq=_
     rw [U1,List.getElem?_set_self ht];rfl
    show oF ((Th.step S (.eY a)).af a).w ((S.af a).w.step S.z).2+_<=oF (S.af a).w S.z
    rw [e]
    show oF ((S.af a).w.step S.z).1 ((S.af a).w.step S.z).2+_<=_
    omega) (fun k o hk ho=>by
    have hc0:0<=c:=(IX c1 h.cap .nil (fP 0 0 ⟨0,0,0,0⟩)).2;cases o with
    | none=>show (0:Int)<=0+c;omega
    | some b =>
      have hab:b≠a:=fun e=>by subst e;exact hk (h.uq k i b ho hi)
      have e:(Th.step S (.eY a)).af b=S.af b:=by
       show (S.all.set a _).getD b xq=S.all.getD b xq
       rw [U1,List.getElem?_set_ne (fun e=>hab e.symm),U1]
      show oF ((Th.step S (.eY a)).af b).w ((S.af a).w.step S.z).2<=oF (S.af b).w S.z+c
      rw [e];refine Pt c1 k3.len h.cap yw _ (fun i1 i2=>?_)
      refine c3 ?_
      cases lU:(S.af a).w.isTurn with
      | false=>rfl
      | true =>
        have hb:b<S.all.length:=hn.own b (U3 ho);have e1:=hn.turn b _ (Xd hb) i1 i2;have e2:=hn.turn a _ ha lU hd;rw [e1] at e2
        exact absurd (UT (UT e2)) hab)
   have e5:(S.own.length:Int)=5:=by rw [h.ol];rfl
   rw [e5] at key
   show Jq (S.own.map (Th.step S (.eY a)).dX)+216*Y9 ((S.af a).w.step S.z).2.x+2*aG ((S.af a).w.step S.z).2.p+S.held+1<=Jq (S.own.map S.dX)+216*Y9 S.z.x+2*aG S.z.p+S.held
   omega
 | gY i =>
   have hc:=Jo ht;have hcn:=hn.aP _ (U3 hc);have hm:(S.aM i).may S.z=true:=hm;have e1:Jq ((S.aP.set i ((S.aM i).step S.z).1).map fun c=>(c.k.holds.length:Int))=S.held - ((S.aM i).k.holds.length:Int)+(((S.aM i).step S.z).1.k.holds.length:Int):=qp (f:=fun c:dz=>(c.k.holds.length:Int)) hc
   have key:((S.aM i).step S.z).2.x.aa=S.z.x.aa/\((S.aM i).step S.z).2.x.au=S.z.x.au/\((S.aM i).step S.z).2.ws=S.z.ws/\((S.aM i).step S.z).2.x.f.cfg=S.z.x.f.cfg /\
    2*aG ((S.aM i).step S.z).2.p+(((S.aM i).step S.z).1.k.holds.length:Int)+1<=2*aG S.z.p+((S.aM i).k.holds.length:Int):=by
    generalize S.aM i=c at hcn hm;exact Sk hcn h.pf hm
   obtain ⟨k1,k2,k3,k4,k5⟩:=key;obtain ⟨st,hent⟩:=QF (x:=S.z.x) (x':=((S.aM i).step S.z).2.x) k1 k2
   have hsum:Jq (S.own.map (Th.step S (.gY i)).dX)<=Jq (S.own.map S.dX)+0*(S.own.length:Int):=LX fun k o ho=>by
    cases o with
    | none=>show (0:Int)<=0+0;decide
    | some b=>exact Pt (z:=S.z) (z':=((S.aM i).step S.z).2) st (by rw [k2]) h.cap (by rw [k4]) (S.af b).w (fun _ _=>k3)
   show Jq (S.own.map (Th.step S (.gY i)).dX)+216*Y9 ((S.aM i).step S.z).2.x+2*aG ((S.aM i).step S.z).2.p+Jq ((S.aP.set i ((S.aM i).step S.z).1).map fun c=>(c.k.holds.length:Int))+1<=S.phi
   rw [e1,hent];unfold SvS.phi;omega
end
def mZ:Wk->Int
 | .turn s k=>zv s k
 | _=>0
def sV (x:Qi):Prop:=∀ i r,x.rg i=some r->r.slots.length<=7
theorem sV.put {x x':Qi} (h:sV x) {i:Nat} {r:Qz} (e:x'.rg=lK x.rg i r) (hr:r.slots.length<=7):sV x':=fun n q hq=>by
 rw [e] at hq;rcases Y2 hq with ⟨_,rfl⟩ | ⟨_,hq⟩
 ·exact hr
 ·exact h n q hq
theorem sV.uA {f:Prop} {k k':Qv} {x x':Qi} (h:sV x) (e:wI f k k' x x'):sV x':=by
 have hrg:∀ {i:Nat} {s:Qu},x.au[i]?=some s->x.rg i=some s.ring:=fun hs=>by unfold Qi.rg;rw [hs];rfl
 cases e with
 | none h1 _=>intro i r hr;rw [z6 h1] at hr;exact h i r hr
 | new h1 _ _ _ _=>intro i r hr;rw [z6 h1] at hr;exact h i r hr
 | step i t s _ _ _ hs h1 _=>exact h.put (yU hs h1) (by rw [OT];exact h i _ (hrg hs))
 | fill i t s v _ _ _ hs _ h1 _ =>
   refine h.put (yU hs h1) ?_
   have:=h i _ (hrg hs);unfold Zp;split
   ·simp only [UB];exact this
   ·exact this
theorem sV.pop {x x':Qi} (h:sV x) (e:x'.rg=x.rg\/∃ i q,x.rg i=some q/\q.ready=true/\x'.rg=lK x.rg i (J3 q).1):sV x':=by
 rcases e with e | ⟨i,q,h1,h2,h3⟩
 ·intro n r hr;rw [e] at hr;exact h n r hr
 ·refine h.put h3 ?_
  unfold J3;rw [if_pos h2];simp only [UB];exact h i q h1
theorem Rf (a:AT) (z:ZT):aG (Q6 a z).p<=aG z.p+1:=by
 cases a with
 | put f=>exact Ro z.p f
 | _=>show aG z.p<=_;omega
theorem RO:∀ (s:ST) (z:ZT),aG (St.run runT Q6 s z).2.p<=aG z.p+1
 | .nil,z=>by show aG z.p<=_;omega
 | .at _ m,z=>by show aG (runT m z).2.p<=_;rw [Lp];omega
 | .aj a,z=>Rf a z
 | .aO a _,z=>Rf a z
 | .thn s m,z=>by
   have h:=RO s z
   show aG (Qe runT (St.run runT Q6 s z).1 m (St.run runT Q6 s z).2).2.p<=_
   unfold Qe;split
   ·rw [Lp];exact h
   ·exact h
structure jO (N:Nat) (S:SvS):Prop where
 i:GY N S
 Cb:3*dn S.z.ws+Jq (S.all.map fun j=>mZ j.w)<=N
 CX:aG S.z.p+S.held<=N
 rl:sV S.z.x
section
variable {N:Nat} {S:SvS}
theorem q77 (h:jO N S) {t:Th} (ht:t.here S) (hN:N<999998) (hm:t.may S=true):jO (N+1) (t.step S):=by
 have hi:=h.i;have hn:=hi.n;have hl:=hi.live;have h1:=On hn ht hN hm;have h2:=q1h hn hl ht hN hm;have h3:=q79 hn hl hi.sl ht hm;have h4:=q8a hn hl hi.sl hi.ti ht hm;cases t with
 | eY a =>
   have ha:=Xd ht;have hm:(S.af a).w.may S.z=true:=hm;have hd:=Z3 hm;obtain ⟨hjn,_,_⟩:=hn.eT _ (U3 ha);obtain ⟨_,_,k3,_,_⟩:=K4 hn.eF hjn hm (by omega);have hgo:=hl.go a _ ha;have qK:=hi.ti.eY a _ ha;have jV:kJ (S.af a).w<=S.z.x.f.inside:=by rw [hl.ins];exact zy (f:=fun j:Jw=>kJ j.w) (fun x=>FY x.w) ha
   have hO:∀ j e,tV (S.af a).w=some (j,e)->∃ r,S.z.x.aa.recs[j]?=some r/\bB r.w=e:=fun j e hj=>(hi.sl.own.own a j e (by rw [x9 ha,hj])).2
   have hp:lH (S.af a).w<=S.z.x.aa.count - Ja S.z.x.aa.recs:=by
    have:=zy (f:=fun j:Jw=>lH j.w) (fun x=>FI x.w) ha;have:=hi.sl.cnt;omega
   have key:lF ((S.af a).w.step S.z).2.p/\sV ((S.af a).w.step S.z).2.x/\aG ((S.af a).w.step S.z).2.p<=aG S.z.p+1 /\
    3*dn ((S.af a).w.step S.z).2.ws+mZ ((S.af a).w.step S.z).1<=3*dn S.z.ws+mZ (S.af a).w+1:=by
    have hwho:=fun s k hj=>Lc (s:=s) (k:=k) hn hl ha hj
    generalize (S.af a).w=w at *;cases w with
    | call s k =>
      have hjc:JC N s (k,S.z.x):=⟨hn.eF.zn.core,hjn.wk,hjn.fit⟩;have g:=LQ hjc hgo.1 hgo.2 jV;exact ⟨hi.pf,h.rl.uA g.uA,by show aG S.z.p<=_;omega,by show 3*dn S.z.ws+0<=3*dn S.z.ws+0+1;omega⟩
    | turn s k =>
      have hs:s≠.nil:=fun e=>by subst e;cases hd
      have hb:TB N ⟨k,S.z.x,S.z.ws,S.z.p⟩:=⟨hn.eF.zn.core,hn.eF.zn.rest,hjn.wk,hn.eF.ws,hn.eF.iT⟩;have g:=q22 (s:=s) hb hjn.fit hm hgo jV (hwho s k rfl (qs9 hs)) hl.rg.ring;obtain ⟨_,c2⟩:=Se (M:=N) hb hjn.fit hm hs hO (by have hp:oJ s<=_:=hp;show oJ s<=S.z.x.aa.count;omega) qK.1 hi.sl.gen ⟨by omega,by omega⟩;exact ⟨qyk s ⟨k,S.z.x,S.z.ws,S.z.p⟩ hi.pf,h.rl.pop g.rings,RO s ⟨k,S.z.x,S.z.ws,S.z.p⟩,c2⟩
    | dM s k =>
      have c:=FX s ⟨k,S.z.x,S.z.p⟩;have hs:s≠.nil:=fun e=>by subst e;cases hd
      have hfin:=hi.sl.fin a;refine ⟨qzt s ⟨k,S.z.x,S.z.p⟩ hi.pf,fun i r hr=>?_,?_,by show 3*dn S.z.ws+0<=3*dn S.z.ws+0+1;omega⟩
      ·have e:(stepS s ⟨k,S.z.x,S.z.p⟩).2.x.rg=S.z.x.rg:=z6 c.au
       have hr:(stepS s ⟨k,S.z.x,S.z.p⟩).2.x.rg i=some r:=hr;rw [e] at hr;exact h.rl i r hr
      ·exact qvq s ⟨k,S.z.x,S.z.p⟩
   obtain ⟨p1,p2,p3,p4⟩:=key;refine ⟨⟨h1,h2,h3,h4,hi.ol,hi.uq,?_,p1⟩,?_,?_,p2⟩
   ·show ((S.af a).w.step S.z).2.x.aa.recs.length<=12
    rw [k3.recs];exact hi.cap
   ·show 3*dn ((S.af a).w.step S.z).2.ws+Jq ((S.all.set a ⟨(S.af a).kb,(S.af a).n+1,((S.af a).w.step S.z).1⟩).map fun j:Jw=>mZ j.w)<=((N+1:Nat):Int)
    rw [qp (f:=fun j:Jw=>mZ j.w) ha];have:=h.Cb
    show _+(_ - mZ (S.af a).w+mZ ((S.af a).w.step S.z).1)<=_
    omega
   ·have:=h.CX
    show aG ((S.af a).w.step S.z).2.p+S.held<=((N+1:Nat):Int)
    omega
 | gY i =>
   have hc:=Jo ht;have hcn:=hn.aP _ (U3 hc);have hm:(S.aM i).may S.z=true:=hm;have e1:Jq ((S.aP.set i ((S.aM i).step S.z).1).map fun c=>(c.k.holds.length:Int))=S.held - ((S.aM i).k.holds.length:Int)+(((S.aM i).step S.z).1.k.holds.length:Int):=qp (f:=fun c:dz=>(c.k.holds.length:Int)) hc
   have key:((S.aM i).step S.z).2.x.aa=S.z.x.aa/\((S.aM i).step S.z).2.x.au=S.z.x.au/\((S.aM i).step S.z).2.ws=S.z.ws/\lF ((S.aM i).step S.z).2.p /\
    aG ((S.aM i).step S.z).2.p+(((S.aM i).step S.z).1.k.holds.length:Int)<=aG S.z.p+((S.aM i).k.holds.length:Int):=by
    generalize S.aM i=c at hcn hm;obtain ⟨k1,k2,k3,_,k5⟩:=Sk hcn hi.pf hm;refine ⟨k1,k2,k3,?_⟩
    obtain ⟨wb,s,n,k⟩:=c;rcases hcn.fit with ⟨h1,h2⟩ | ⟨h1,h2⟩
    ·obtain rfl:s=J2:=h1
     have h2:k.holds=[]:=h2;refine ⟨hi.pf.take,?_⟩
     have hm:decide (0<(S.z.p.ch.length:Int)+S.z.p.sp.length)=true:=hm;have:=QZ hi.pf (by simpa using hm)
     show aG S.z.p.take.1+((k.holds++[S.z.p.take.2.1]).length:Int)<=aG S.z.p+(k.holds.length:Int)
     rw [h2];simp only [US,UL,UJ];omega
    ·obtain rfl:s=.thn (.aj .jD) .takes:=h1
     refine ⟨hi.pf,?_⟩
     show aG S.z.p+(([]:List Xj).length:Int)<=aG S.z.p+(k.holds.length:Int)
     simp only [UJ];omega
   obtain ⟨k1,k2,k3,k4,k5⟩:=key;refine ⟨⟨h1,h2,h3,h4,hi.ol,hi.uq,?_,k4⟩,?_,?_,fun n r hr=>?_⟩
   ·show ((S.aM i).step S.z).2.x.aa.recs.length<=12
    rw [k1];exact hi.cap
   ·have:=h.Cb
    show 3*dn ((S.aM i).step S.z).2.ws+Jq (S.all.map fun j:Jw=>mZ j.w)<=((N+1:Nat):Int)
    rw [k3];omega
   ·have:=h.CX
    show aG ((S.aM i).step S.z).2.p+Jq ((S.aP.set i ((S.aM i).step S.z).1).map fun c=>(c.k.holds.length:Int))<=((N+1:Nat):Int)
    rw [e1];omega
   ·have e:((S.aM i).step S.z).2.x.rg=S.z.x.rg:=z6 k2
    have hr:((S.aM i).step S.z).2.x.rg n=some r:=hr;rw [e] at hr;exact h.rl n r hr
theorem jO.mono {M:Nat} (h:jO N S) (hm:N<=M):jO M S :=
 ⟨⟨h.i.n.mono hm,h.i.live,h.i.sl.mono hm,h.i.ti,h.i.ol,h.i.uq,h.i.cap,h.i.pf⟩,by have:=h.Cb;omega,by have:=h.CX;omega,h.rl⟩
theorem jO.stepS (h:jO N S) (hN:N<999998) (i:Int):jO (N+1) (S.stepS i).1:=by
 unfold SvS.stepS;split
 ·exact h.mono (by omega)
 ·split
  ·next t ht =>
   have h1:=UH ht;have h2:=List.find?_some ht;simp only [UA] at h2;exact q77 h (yR h.i.n h1) hN h2.2
  ·exact h.mono (by omega)
theorem jO.dm (h:jO N S) (hN:N<999998) (k:Int):jO (N+1) (S.dm k).1:=by
 unfold SvS.dm;split
 ·exact h.mono (by omega)
 ·exact h.stepS hN _
theorem jO.dV (h:jO N S) {c:Q0} (hc:c.wf) (kb:Nat) (th:Int):jO (N+1) (S.dV kb th c):=by
 have hi:=h.i;have h1:=Sv hi.n hc kb th;have h2:=qsx hi.n hi.live kb th c;by_cases e:S.cZ th c=0
 ·have ho:=KM e
  have e1:S.dV kb th c=S.eD kb th c:=if_pos e;rw [e1] at h1 h2 |-
  have hcr:mZ (Xw th (S.all.length+1) c)=0/\Bg S.z.x.aa.recs (Xw th (S.all.length+1) c):=by
   unfold Xw;split
   ·exact ⟨rfl,xm.zero hi.ti.all.g0,fun t ht=>(by cases ht),trivial⟩
   ·split
    ·exact ⟨rfl,trivial⟩
    ·refine ⟨rfl,?_⟩
     unfold Yp;split
     ·trivial
     ·split <;> trivial
  refine ⟨⟨h1,h2,(qzk hi.sl th c kb).mono (by omega),⟨hi.ti.all,fun a j ha=>?_⟩,?_,fun i k a g1 g2=>?_,hi.cap,hi.pf⟩,?_,by have:=h.CX;show aG S.z.p+S.held<=((N+1:Nat):Int);omega,h.rl⟩
  ·rcases DY ha with ⟨_,ha⟩ | ⟨_,rfl⟩
   ·exact hi.ti.eY a j ha
   ·exact hcr.2
  ·show (S.own.set _ _).length=5
   rw [UB];exact hi.ol
  ·have hlt:∀ (i a:Nat),S.own[i]?=some (some a)->a<S.all.length:=fun i a g=>hi.n.own a (U3 g)
   rcases Jk g1 with ⟨e1,e2⟩ | ⟨_,g1⟩
   ·rcases Jk g2 with ⟨e3,e4⟩ | ⟨_,g2⟩
    ·omega
    ·have:=hlt k a g2;cases e2;omega
   ·rcases Jk g2 with ⟨e3,e4⟩ | ⟨_,g2⟩
    ·have:=hlt i a g1;cases e4;omega
    ·exact hi.uq i k a g1 g2
  ·have:=h.Cb
   show 3*dn S.z.ws+Jq ((S.all++[_]).map fun j:Jw=>mZ j.w)<=((N+1:Nat):Int)
   rw [KY (f:=fun j:Jw=>mZ j.w)]
   show _+(_+mZ (Xw th (S.all.length+1) c))<=_
   rw [hcr.1];omega
 ·have e1:S.dV kb th c=S:=if_neg e
  rw [e1];exact h.mono (by omega)
theorem me0 (c:Cfg) (hk:c.ok=true) (h4:c.jA=4) (h12:c.cap<=12) (h7:c.ring<=7) {S:SvS} (hS:S=nk c) (hn:dN 0 S):jO 0 S:=by
 subst hS;obtain ⟨b1,b2,b3,b4,b5,b6⟩:=Cfg.bd hk;have hsh:∀ (i:Nat) s,(nk c).z.x.au[i]?=some s->s=Qr c.ring.toNat:=fun i s h=>U7 (U3 h)
 have hg0:xm (nk c).z.x.aa.recs:=fun r hr=>by
  rw [U7 (show r∈UE c.cap.toNat Rec.zero from hr)];exact ⟨by decide,fun _=>rfl⟩
 have hws:∀ w∈(nk c).z.ws,w=Y3:=fun w hw=>U7 hw
 have hw0:zt Y3=0:=by decide
 have Iu:∀ P:gU->Prop,fQ P Y3:=fun P=>by
  refine ⟨fun l hl s hs e he=>?_,fun e he=>(by cases he)⟩
  have:∀ l∈Y3.lv,∀ s∈l,s=[]:=by decide
  rw [this l hl s hs] at he;cases he
 refine ⟨⟨hn,q9g c hk,sl0 c hk,⟨⟨hg0,fun s hs e he=>?_,fun w hw=>?_⟩,fun a j ha=>(by cases ha)⟩,?_,fun i k a g1 g2=>?_,?_,?_⟩,?_,?_,fun i r hr=>?_⟩
 ·obtain ⟨i,hi⟩:=U9.1 hs
  rw [hsh i s hi] at he;obtain ⟨n,_,rfl⟩:=UW.1 he;exact hg0.zero
 ·rw [hws w hw];exact Iu _
 ·show (UE (c.jA.toNat+1) (none:Option Nat)).length=5
  rw [UM,h4];rfl
 ·have:=U7 (show some a∈UE (c.jA.toNat+1) (none:Option Nat) from U3 g1)
  cases this
 ·show (UE c.cap.toNat Rec.zero).length<=12
  rw [UM];omega
 ·exact ⟨by show 1<=c.room.toNat;omega,.inl rfl,UK _⟩
 ·have e:dn (nk c).z.ws=0:=qa (f:=fun w:Qg=>(zt w:Int)) fun w hw=>by rw [hws w hw,hw0];rfl
  rw [e];exact U4 _
 ·have e:(nk c).held=0:=qa (f:=fun c:dz=>(c.k.holds.length:Int)) fun x hx=>by
   rw [U7 (show x∈UE c.wk.toNat (⟨0,J2,0,tX⟩:dz) from hx)];rfl
  rw [e];exact U4 _
 ·obtain ⟨s,hs,rfl⟩:=Option.map_eq_some_iff.1 hr
  rw [hsh i s hs]
  show ((List.range _).map _).length<=7
  rw [UF,List.length_range];omega
end
def itP:Nat->SvS->SvS
 | 0,S=>S
 | n+1,S=>itP n (S.dm 0).1
theorem KZ:∀ (j:Nat) (S:SvS),itP (j+1) S=((itP j S).dm 0).1
 | 0,_=>rfl
 | j+1,S=>by rw [itP,KZ j];rfl
def DX:Nat->SvS->Bool
 | 0,S=>S.idle
 | n+1,S=>!S.idle && DX n (S.dm 0).1
theorem KO:∀ {n:Nat} {S:SvS},DX n S=true->(∀ j,j<n->(itP j S).idle=false)/\(itP n S).idle=true
 | 0,S,h=>⟨fun j hj=>by omega,h⟩
 | n+1,S,h=>by
   simp only [DX,UA,Bool.not_eq_true'] at h;obtain ⟨h1,h2⟩:=KO h.2;refine ⟨fun j hj=>?_,h2⟩
   cases j with
   | zero=>exact h.1
   | succ j=>exact h1 j (by omega)
def Gm:Cfg:=⟨1,1,1,1,1,1⟩
def EI:SvS:=(nk Gm).dV 0 0 ⟨1,0,1,0⟩
def EJ:SvS:=itP 13 EI
def EK:SvS:=EJ.dV 0 1 ⟨7,0,0,0⟩
def MN:SvS:=itP 21 EK
theorem R5:(nk Gm).cZ 0 ⟨1,0,1,0⟩=0/\(nk Gm).fJ 0 ⟨1,0,1,0⟩=1:=⟨by kernel_rfl,by kernel_rfl⟩
theorem qz7:DX 13 EI=true:=by kernel_rfl
theorem R6:EJ.cZ 1 ⟨7,0,0,0⟩=0/\EJ.fJ 1 ⟨7,0,0,0⟩=2:=⟨by kernel_rfl,by kernel_rfl⟩
theorem qz8:DX 21 EK=true:=by kernel_rfl
theorem q63:MN.z.lg=[⟨64,1,1,1⟩]:=by kernel_rfl
theorem Sm:Qa prog 51 #[] [] fun e gs=>e=.returned (.bool true)/\gs=[]:=by
 have HN:=Vh (BU Gm (by decide));obtain ⟨hr1,CG⟩:=KO qz7;obtain ⟨hr2,hr2'⟩:=KO qz8;have HR1:=Vh (UU hr1 CG);have HR2:=Vh (UU hr2 hr2');clear hr1 hr2 CG hr2';refine GO fun w HT=>?_
 go_enter func51,ntmps51
 go_wp2_with fail
 refine Qa.run HN HT [] ?_
 rintro e w1 gs ⟨L,sb,g,rfl,hb,rfl⟩ HT;simp only [PU] at HT;have hc:=IE hb (by decide) 0 ⟨1,0,1,0⟩ ⟨by decide,by decide,by decide⟩;rw [R5.1,R5.2] at hc;have HC:=Vh hc;clear hb hc;go_wp2_with fail
 refine Qa.run HC HT [0] ?_
 rintro e w1 gs ⟨g1,rfl,hb,rfl⟩ HT;simp only [PU] at HT;have HB:=Vh (show iF 1 L sb EI g1 from hb);clear hb;go_wp2_with fail
 go_loopw [5] (fun i wr=>∃ (j:Nat) (g2:List ak),j<=13/\i=U2 U5 j/\iF (1+j) L sb (itP j EI) g2/\TG [] w [g2] wr) (fun i _=>100 - (intOf i).toNat)
 case atStart=>exact ⟨0,g1,UK _,rfl,HB,HT⟩
 case round =>
  obtain ⟨j,g2,hj,rfl,hb,T⟩:=hrel;clear HB;have HT:=Vh T;have hid:=Gj hb (by omega);clear T;by_cases hlt:j<13
  ·rw [HR1.out.1 j hlt] at hid
   have HI:=Vh hid;clear hid hb;go_wp2_with fail
   refine Qa.run HI HT [0] ?_
   rintro e w1 gs ⟨g3,rfl,hb,rfl⟩ HT;simp only [PU] at HT;have hpk:=Gl hb (by omega) 0;rw [<- KZ] at hpk;have HP:=Vh hpk;clear hpk hb;go_wp2_with fail
   refine Qa.run HP HT [0] ?_
   rintro e w1 gs ⟨g4,rfl,hb,rfl⟩ HT;simp only [PU] at HT;have HB:=Vh hb;clear hb;go_wp2
   first | go_roundw | refine ⟨?rel,?measure⟩ | ((repeat apply UX);refine ⟨⟨?rel,rfl⟩,?measure⟩)
   case rel=>exact ⟨j+1,g4,by omega,by go_num,HB,HT⟩
   case measure=>simp [intOf];omega
  ·obtain rfl:j=13:=by omega
   rw [HR1.out.2] at hid;have HI:=Vh hid;clear hid hb;go_wp2_with fail
   refine Qa.run HI HT [0] ?_
   rintro e w1 gs ⟨g3,rfl,hb,rfl⟩ HT;simp only [PU] at HT;have hc:=IE (B:=EJ) hb (by omega) 1 ⟨7,0,0,0⟩ ⟨by decide,by decide,by decide⟩;rw [R6.1,R6.2] at hc;have HC:=Vh hc;clear hb hc;go_wp2_with fail
   refine Qa.run HC HT [0] ?_
   rintro e w1 gs ⟨g1,rfl,hb,rfl⟩ HT;simp only [PU] at HT;have HB:=Vh (show iF 15 L sb EK g1 from hb);clear hb;go_wp2_with fail
   go_loopw [8] (fun i wr=>∃ (j:Nat) (g2:List ak),j<=21/\i=U2 U5 j/\iF (15+j) L sb (itP j EK) g2/\TG [] w [g2] wr) (fun i _=>100 - (intOf i).toNat)
   case atStart=>exact ⟨0,g1,UK _,rfl,HB,HT⟩
   case round =>
    obtain ⟨j,g2,hj,rfl,hb,T⟩:=hrel;clear HB;have HT:=Vh T;have hid:=Gj hb (by omega);clear T;by_cases hlt:j<21
    ·rw [HR2.out.1 j hlt] at hid
     have HI:=Vh hid;clear hid hb;go_wp2_with fail
     refine Qa.run HI HT [0] ?_
     rintro e w1 gs ⟨g3,rfl,hb,rfl⟩ HT;simp only [PU] at HT;have hpk:=Gl hb (by omega) 0;rw [<- KZ] at hpk;have HP:=Vh hpk;clear hpk hb;go_wp2_with fail
     refine Qa.run HP HT [0] ?_
     rintro e w1 gs ⟨g4,rfl,hb,rfl⟩ HT;simp only [PU] at HT;have HB:=Vh hb;clear hb;go_wp2
     first | go_roundw | refine ⟨?rel,?measure⟩ | ((repeat apply UX);refine ⟨⟨?rel,rfl⟩,?measure⟩)
     case rel=>exact ⟨j+1,g4,by omega,by go_num,HB,HT⟩
     case measure=>simp [intOf];omega
    ·obtain rfl:j=21:=by omega
     rw [HR2.out.2] at hid;have HI:=Vh hid;clear hid hb;go_wp2_with fail
     refine Qa.run HI HT [0] ?_
     rintro e w1 gs ⟨g3,rfl,hb,rfl⟩ HT;simp only [PU] at HT;have hl:=Hl (B:=MN) hb (by omega);rw [q63] at hl;have HL:=Vh hl;clear hb hl;go_wp2_with fail
     refine Qa.run HL HT [0] ?_
     rintro e w1 gs ⟨v,gv,g5,rfl,hr,hb,rfl⟩ HT;simp only [PU] at HT;obtain ⟨av,cap,hv⟩:=Q3.val hr;subst hv;have HR:=Vh hr;clear hr hb;generalize w1=wb at HT |-;have HT:=Vh (HT.out.a 63 #[U2 U8 64,U2 U8 1,U2 U8 1,U2 U8 1]);have G7:=Vh (Lg 63 4 wb.heap.size 1 1 #[U2 U8 64,U2 U8 1,U2 U8 1,U2 U8 1] (UY _) (by decide) rfl);go_wp2_with fail
     refine Qd.run (q44 (l:=[⟨64,1,1,1⟩]) HR G7 (by decide)) HT [1,2] ?_
     rintro e wc rfl HT;go_wp2
     go_ret
     exact ⟨[],⟨rfl,rfl⟩,HT.p []⟩
def DT (a b:Int):Cfg:=⟨1+max 0 a % 4,1+max 0 b % 12,1+max 0 b % 7,1+max 0 b % 3,1+max 0 b % 4,4⟩
theorem qw1 (a b:Int):(DT a b).ok=true:=by
 unfold Cfg.ok DT;simp only [Cfg.fine,Cfg.pair,UA,decide_eq_true_eq];omega
theorem q4x (a b:Int) (ha:0<=a/\a<=1000000) (hb:0<=b/\b<=1000000):Qa prog 54 #[U2 U5 a,U2 U5 b] [] fun e gs=>e=.returned (.agg (DT a b).cells)/\gs=[]:=by
 have e1:max 0 a=a:=by omega
 have e2:max 0 b=b:=by omega
 unfold DT;rw [e1,e2];simp only [Cfg.cells];have h1:0<=a % 4/\a % 4<4:=by omega
 have h2:0<=b % 12/\b % 12<12:=by omega
 have h3:0<=b % 7/\b % 7<7:=by omega
 have h4:0<=b % 3/\b % 3<3:=by omega
 have h5:0<=b % 4/\b % 4<4:=by omega
 refine GO fun w HT=>?_
 go_enter func54,ntmps54
 go_wp2_with fail
 have HT2:=Vh (HT.out.a 30 #[U2 U5 (1+a % 4),U2 U5 (1+b % 12),U2 U5 (1+b % 7),U2 U5 (1+b % 3),U2 U5 (1+b % 4),U2 U5 4]);obtain ⟨r0,r1,r2,r3,r4,r5⟩:=HT2.c6 0 0 0 1 2 3 4 5;simp only [aN] at r0 r1 r2 r3 r4 r5;exact bodyPost_ret (v:=.agg #[U2 U5 (1+a % 4),U2 U5 (1+b % 12),U2 U5 (1+b % 7),U2 U5 (1+b % 3),U2 U5 (1+b % 4),U2 U5 4]) (by simp [results,results54,go_sem,r0,r1,r2,r3,r4,r5]) rfl ⟨_,⟨rfl,rfl⟩,HT2.p []⟩
theorem q5o {S:SvS} {t:Nat × Th} (h:t∈S.iH):t.1<S.own.length+S.aP.length:=by
 rcases List.mem_append.1 h with h | h
 ·obtain ⟨k,_,_,_,h4⟩:=Dt _ _ _ h
  have:=(List.getElem?_eq_some_iff.1 h4).1;omega
 ·obtain ⟨j,_,h2,h3⟩:=FL _ _ _ _ h
  omega
theorem q1k {S:SvS} {a:Nat} (h:a∈S.bZ):(S.stepS a).2=0:=by
 obtain ⟨t,ht,rfl⟩:=UW.1 h;obtain ⟨h1,h2⟩:=List.mem_filter.1 ht;have h3:=q5o h1;unfold SvS.stepS;rw [if_neg (by omega)];cases hp:S.fA t.1 with
 | some u=>rfl
 | none =>
   have:=List.find?_eq_none.1 hp t h1;simp [h2] at this
theorem qte {S:SvS} (h:S.bZ.length≠0) (k:Int):S.cK k∈S.bZ:=by
 unfold SvS.cK
 have h1:((max 0 k) % (S.bZ.length:Int)).toNat<S.bZ.length:=by
  have:=Int.emod_lt_of_pos (max 0 k) (show (0:Int)<S.bZ.length by omega);have:=Int.emod_nonneg (max 0 k) (show (S.bZ.length:Int)≠0 by omega);omega
 rw [U1,U6 h1];exact UR h1
theorem OU {α:Type} {f:α->Int} (hf:∀ x,0<=f x):∀ (l:List α) (j:Nat),Jq ((l.drop j).map f)<=Jq (l.map f)
 | [],j=>by rw [List.drop_nil];exact U4 _
 | b::l,0=>U4 _
 | b::l,j+1=>by
   have:=OU hf l j;have:=hf b
   show Jq ((l.drop j).map f)<=f b+Jq (l.map f)
   omega
theorem QH {α:Type} {f:α->Int} {c:Int}:∀ {l:List α},(∀ x∈l,f x<=c)->Jq (l.map f)<=c*(l.length:Int)
 | [],_=>by simp [Jq]
 | b::l,h=>by
   have h1:=QH (l:=l) (f:=f) (c:=c) (fun x hx=>h x (UN _ hx));have h2:=h b UQ
   show f b+Jq (l.map f)<=c*((b::l).length:Int)
   rw [UC,Int.natCast_add,Int.mul_add];have:c*((1:Nat):Int)=c:=Int.mul_one c;rw [this];omega
theorem yT {α:Type} {f:α->Int}:∀ {l:List α},(∀ x∈l,0<=f x)->0<=Jq (l.map f)/\∀ x∈l,f x<=Jq (l.map f)
 | [],_=>⟨U4 _,fun x hx=>by cases hx⟩
 | b::l,h=>by
   obtain ⟨h1,h3⟩:=yT (l:=l) (f:=f) (fun x hx=>h x (UN _ hx));have h2:=h b UQ;refine ⟨by show 0<=f b+Jq (l.map f);omega,fun x hx=>?_⟩
   show f x<=f b+Jq (l.map f)
   rcases List.mem_cons.1 hx with rfl | hx
   ·omega
   ·have:=h3 x hx;omega
theorem ND (ws:List Qg):∀ n j:Nat,j+n=ws.length->uS ws n j=2+4*(n:Int)+41*Jq ((ws.drop j).map fun w=>(zt w:Int))
 | 0,j,h=>by
   rw [List.drop_eq_nil_of_le (by omega)];rfl
 | n+1,j,h=>by
   have hj:j<ws.length:=by omega
   have:=ND ws n (j+1) (by omega);rw [List.drop_eq_getElem_cons hj]
   show 4+41*Qw ws j+uS ws n (j+1)=2+4*((n+1:Nat):Int)+41*((zt ws[j]:Int)+Jq ((ws.drop (j+1)).map fun w=>(zt w:Int)))
   have e:Qw ws j=(zt ws[j]:Int):=by unfold Qw;rw [U1,U6 hj];rfl
   rw [this,e];omega
section
variable {z:ZT} {N:Nat}
theorem LB (hb:TB N z) {j:Nat} (hj:j<=z.x.au.length):Q1 z j<=18+41*dn z.ws:=by
 unfold Q1;rw [ND z.ws _ j (by rw [hb.rest.wl];omega)];have:=OU (f:=fun w:Qg=>(zt w:Int)) (fun w=>by omega) z.ws j;have:=hb.iT;unfold dn;omega
theorem qzy (G:ST) (z:ZT):0<=kS G z/\kS G z<=42:=by
 have a4:=uH (fI z 4);have a5:=uH (fI z 5);have a9:=uH (fI z 9);unfold kS;split <;> omega
theorem qzz (P:ST) (z:ZT):0<=kT P z/\kT P z<=216:=by
 have a3:=uH (fI z 3);unfold kT;split <;> omega
theorem qz1 (hb:TB N z) {s:ST} (hf:qT s z.k z.x):0<=Yg s z/\0<=zv s z.k/\3*Yg s z<=900+41*(3*dn z.ws+zv s z.k):=by
 have hw:0<=dn z.ws:=(yT (f:=fun w:Qg=>(zt w:Int)) (l:=z.ws) (fun w _=>by omega)).1;have r0:=LB hb (j:=0) (UK _);have r2:=FE z 0
 match s,hf with
 | .nil,_=>exact ⟨U4 _,U4 _,by show 3*(0:Int)<=900+41*(3*dn z.ws+0);omega⟩
 | .at none .enter,_=>exact ⟨by show 0<=3+Q1 z 0;omega,U4 _,by show 3*(3+Q1 z 0)<=900+41*(3*dn z.ws+0);omega⟩
 | .at none .gate,_=>exact ⟨by show 0<=2+Q1 z 0;omega,U4 _,by show 3*(2+Q1 z 0)<=900+41*(3*dn z.ws+0);omega⟩
 | .at none .tick,_=>exact ⟨by show 0<=1+Q1 z 0;omega,U4 _,by show 3*(1+Q1 z 0)<=900+41*(3*dn z.ws+0);omega⟩
 | .aO .leave1 .answer,_=>exact ⟨by show (0:Int)<=2;decide,U4 _,by show 3*(2:Int)<=900+41*(3*dn z.ws+0);omega⟩
 | .aj .answer,_=>exact ⟨by show (0:Int)<=1;decide,U4 _,by show 3*(1:Int)<=900+41*(3*dn z.ws+0);omega⟩
 | .thn X (.ae i),h =>
   obtain ⟨_,hi,_,hX⟩:=h;have ri:=LB hb (j:=i) (by omega);have r1:=LB hb (j:=i+1) (by omega);have ru:=RL hi;have rt:=FE z (i+1);have hwn:=K5 z.ws i
   show 0<=Bi X z i+Q1 z (i+1)/\0<=I9 X z.k/\3*(Bi X z i+Q1 z (i+1))<=900+41*(3*dn z.ws+I9 X z.k)
   match X,hX with
   | .at (some .lock) (.dH d),_=>exact ⟨by show 0<=4+41*Qw z.ws i+Q1 z (i+1);omega,U4 _,by show 3*(4+41*Qw z.ws i+Q1 z (i+1))<=900+41*(3*dn z.ws+0);omega⟩
   | .at none (.bX d),_=>exact ⟨by show 0<=3+41*Qw z.ws i+Q1 z (i+1);omega,U4 _,by show 3*(3+41*Qw z.ws i+Q1 z (i+1))<=900+41*(3*dn z.ws+0);omega⟩
   | .thn (.aj (.bG d)) (.aL e),_=>exact ⟨by show 0<=2+41*Qw z.ws i+Q1 z (i+1);omega,U4 _,by show 3*(2+41*Qw z.ws i+Q1 z (i+1))<=900+41*(3*dn z.ws+0);omega⟩
   | .thn (.at (some (.ready j)) (.bI n)) (.ai d),_=>exact ⟨by show 0<=2+41*Qw z.ws i+Q1 z (i+1);omega,U4 _,by show 3*(2+41*Qw z.ws i+Q1 z (i+1))<=900+41*(3*dn z.ws+0);omega⟩
   | .thn (.thn (.at none .bA) (.ax n)) (.ai d),_=>exact ⟨by show 0<=2+41*Qw z.ws i+215+Q1 z (i+1);omega,by show (0:Int)<=1;decide,by show 3*(2+41*Qw z.ws i+215+Q1 z (i+1))<=900+41*(3*dn z.ws+1);omega⟩
   | .thn (.thn (.at none .aI) (.ax n)) (.ai d),_ =>
     have:=qzz (.at none .aI) z;exact ⟨by show 0<=2+41*Qw z.ws i+kT (.at none .aI) z+Q1 z (i+1);omega,by show (0:Int)<=2;decide,by show 3*(2+41*Qw z.ws i+kT (.at none .aI) z+Q1 z (i+1))<=900+41*(3*dn z.ws+2);omega⟩
   | .thn (.thn G (.aF d n)) .ay,hX =>
     obtain ⟨_,_,_,hnl,_⟩:=hX;have:=qzy G z;exact ⟨by show 0<=kS G z+41*((z.k.due.length:Int) - (n+1))+1+Q1 z (i+1);omega,by show 0<=3*((z.k.due.length:Int) - n);omega,by show 3*(kS G z+41*((z.k.due.length:Int) - (n+1))+1+Q1 z (i+1))<=900+41*(3*dn z.ws+3*((z.k.due.length:Int) - n));omega⟩
   | .aj .unlock,_=>exact ⟨by show 0<=1+Q1 z (i+1);omega,U4 _,by show 3*(1+Q1 z (i+1))<=900+41*(3*dn z.ws+0);omega⟩
end
theorem RJ {cap:Int} (h0:0<=cap) (h:cap<=12) (i:Int) (hi:0<=i):3<=X9 cap i/\X9 cap i<=339:=by
 refine ⟨SX cap i,?_⟩
 unfold X9;split <;> omega
theorem qz0 {s:SS} {z:ZS} (hf:xk s z.k) (h0:0<=z.x.f.cfg.cap) (h:z.x.f.cfg.cap<=12):0<=q8 s z/\q8 s z<=400:=by
 have r0:=RJ h0 h 0 (U4 _);have rj:∀ j:Int,0<=j->3<=X9 z.x.f.cfg.cap (j+1)/\X9 z.x.f.cfg.cap (j+1)<=339:=fun j hj=>RJ h0 h (j+1) (by omega)
 match s,hf with
 | .nil,_=>exact ⟨U4 _,by show (0:Int)<=400;decide⟩
 | .at none .shuts,_=>show 0<=X9 z.x.f.cfg.cap 0+2/\X9 z.x.f.cfg.cap 0+2<=400;omega
 | .at (some .inside) .bO,_=>show 0<=X9 z.x.f.cfg.cap 0+1/\X9 z.x.f.cfg.cap 0+1<=400;omega
 | .at (some .idle) .cO,_=>show (0:Int)<=2/\(2:Int)<=400;decide
 | .aj .aS,_=>show (0:Int)<=1/\(1:Int)<=400;decide
 | .thn (.aj .dC) .waits,_=>show (0:Int)<=3/\(3:Int)<=400;decide
 | .thn (.at none (.bH i)) (.aA j),hf=>have:=rj j (by have:=hf.2;omega);show 0<=28+X9 z.x.f.cfg.cap (j+1)/\28+X9 z.x.f.cfg.cap (j+1)<=400;omega
 | .thn (.at none (.aC i)) (.aA j),hf=>have:=rj j (by have:=hf.2;omega);have:=uH (Zl z.x.aa i z.k.aB 6);show 0<=27+st2 (Zl z.x.aa i z.k.aB 6)+X9 z.x.f.cfg.cap (j+1)/\27+st2 (Zl z.x.aa i z.k.aB 6)+X9 z.x.f.cfg.cap (j+1)<=400;omega
 | .thn (.aO (.release _) .drop) (.aA j),hf=>have:=rj j hf.2.1;show 0<=18+X9 z.x.f.cfg.cap (j+1)/\18+X9 z.x.f.cfg.cap (j+1)<=400;omega
 | .thn (.aj .drop) (.aA j),hf=>have:=rj j hf.2.1;show 0<=9+X9 z.x.f.cfg.cap (j+1)/\9+X9 z.x.f.cfg.cap (j+1)<=400;omega
section
variable {N:Nat} {S:SvS}
theorem Rz (h:jO N S) {a:Nat} {j:Jw} (ha:S.all[a]?=some j):0<=oF j.w S.z/\0<=mZ j.w/\(j.w.isTurn=false\/j.w.done=true->oF j.w S.z<=400)/\3*oF j.w S.z<=1200+41*(3*dn S.z.ws+mZ j.w):=by
 have hw:0<=dn S.z.ws:=(yT (f:=fun w:Qg=>(zt w:Int)) (l:=S.z.ws) (fun w _=>by omega)).1;have hn:=h.i.n;obtain ⟨hjn,_,_⟩:=hn.eT _ (U3 ha);have hcap:=hn.eF.zn.rest.cap;have hc12:=h.i.cap;generalize j.w=w at hjn;cases w with
 | call s k =>
   have:=qvt s k S.z.x h.i.cap;exact ⟨this.1,U4 _,fun _=>this.2,by show 3*Jz s k S.z.x<=1200+41*(3*dn S.z.ws+0);omega⟩
 | turn s k =>
   have hb:TB N ⟨k,S.z.x,S.z.ws,S.z.p⟩:=⟨hn.eF.zn.core,hn.eF.zn.rest,hjn.wk,hn.eF.ws,hn.eF.iT⟩;obtain ⟨b1,b2,b3⟩:=qz1 hb hjn.fit;refine ⟨b1,b2,fun e=>?_,by show 3*Yg s ⟨k,S.z.x,S.z.ws,S.z.p⟩<=1200+41*(3*dn S.z.ws+zv s k);have b3:3*Yg s ⟨k,S.z.x,S.z.ws,S.z.p⟩<=900+41*(3*dn S.z.ws+zv s k):=b3;omega⟩
   rcases e with e | e
   ·cases e
   ·rw [Ky e];decide
 | dM s k =>
   have:=qz0 (z:=⟨k,S.z.x,S.z.p⟩) hjn.fit (by show 0<=S.z.x.f.cfg.cap;omega) (by show S.z.x.f.cfg.cap<=12;omega);exact ⟨this.1,U4 _,fun _=>this.2,by show 3*q8 s ⟨k,S.z.x,S.z.p⟩<=1200+41*(3*dn S.z.ws+0);have:=this.2;omega⟩
theorem five {α:Type} {l:List α} (h:l.length=5):∃ a b c d e,l=[a,b,c,d,e]:=by
 match l,h with
 | [a,b,c,d,e],_=>exact ⟨a,b,c,d,e,rfl⟩
theorem NM (h:jO N S):0<=S.phi/\(N<=500->S.phi<=19999):=by
 have hn:=h.i.n;have hw:0<=dn S.z.ws:=(yT (f:=fun w:Qg=>(zt w:Int)) (l:=S.z.ws) (fun w _=>by omega)).1
 have Cs:∀ j∈S.all,0<=mZ j.w:=fun j hj=>by
  obtain ⟨a,ha⟩:=U9.1 hj;exact (Rz h ha).2.1
 obtain ⟨hc0,hc1⟩:=yT (f:=fun j:Jw=>mZ j.w) Cs;have hcr:=h.Cb
 have hO:∀ (k:Nat) o,S.own[k]?=some o->0<=S.dX o/\(k≠4->S.dX o<=400)/\3*S.dX o<=1200+41*N:=fun k o ho=>by
  cases o with
  | none=>exact ⟨U4 _,fun _=>by show (0:Int)<=400;decide,by show 3*(0:Int)<=_;omega⟩
  | some a =>
    have hal:a<S.all.length:=hn.own a (U3 ho);have ha:=Xd hal;obtain ⟨b1,b2,b3,b4⟩:=Rz h ha;refine ⟨b1,fun hk=>b3 ?_,?_⟩
    ·cases ht:(S.af a).w.isTurn with
     | false=>exact .inl rfl
     | true =>
       cases hd:(S.af a).w.done with
       | true=>exact .inr rfl
       | false =>
         have:=hn.turn a _ ha ht hd;rw [h.i.ol] at this;exact absurd (h.i.uq _ _ a ho this) hk
    ·have:=hc1 _ (U3 ha)
     have b4:3*S.dX (some a)<=_:=b4;omega
 have hent:0<=Y9 S.z.x/\Y9 S.z.x<=28:=by
  have hr:∀ s∈S.z.x.au,0<=s.ring.tail - s.ring.head/\s.ring.tail - s.ring.head<=7:=fun s hs=>by
   obtain ⟨i,hi⟩:=U9.1 hs;have hg:S.z.x.rg i=some s.ring:=by unfold Qi.rg;rw [hi];rfl
   have h1:=h.i.live.rg.ring i s.ring hg;have h2:=h.rl i s.ring hg;have:=h1.ht;have:=h1.tn;omega
  refine ⟨(yT (f:=fun s:Qu=>s.ring.tail - s.ring.head) fun s hs=>(hr s hs).1).1,?_⟩
  have:=QH (f:=fun s:Qu=>s.ring.tail - s.ring.head) (c:=7) fun s hs=>(hr s hs).2
  have:=hn.eF.iT;unfold Y9;omega
 have hpip:=h.CX;have hp0:0<=aG S.z.p:=by unfold aG;omega
 have hh0:0<=S.held:=(yT (f:=fun c:dz=>(c.k.holds.length:Int)) fun c _=>by omega).1;obtain ⟨o0,o1,o2,o3,o4,ho⟩:=five h.i.ol;have b0:=hO 0 o0 (by rw [ho];rfl);have b1:=hO 1 o1 (by rw [ho];rfl);have b2:=hO 2 o2 (by rw [ho];rfl);have b3:=hO 3 o3 (by rw [ho];rfl);have b4:=hO 4 o4 (by rw [ho];rfl);have e:Jq (S.own.map S.dX)=S.dX o0+(S.dX o1+(S.dX o2+(S.dX o3+(S.dX o4+0)))):=by rw [ho];rfl
 have c0:=b0.2.1 (by decide);have c1:=b1.2.1 (by decide);have c2:=b2.2.1 (by decide);have c3:=b3.2.1 (by decide);refine ⟨by unfold SvS.phi;rw [e];omega,fun hN=>?_⟩
 unfold SvS.phi;rw [e];omega
theorem qwx (h:jO N S) (hN:N<999998) (hm:S.bZ.length≠0) (k:Int):(S.dm k).1.phi+1<=S.phi/\(S.dm k).2.2=0:=by
 have e:S.dm k=((S.stepS (S.cK k)).1,((S.cK k:Nat):Int),(S.stepS (S.cK k)).2):=if_neg hm;have e0:(S.stepS (S.cK k)).2=0:=q1k (qte hm k);rw [e];refine ⟨?_,e0⟩
 show (S.stepS (S.cK k)).1.phi+1<=_
 unfold SvS.stepS at e0 |-;split at e0
 ·cases e0
 ·next hr =>
  rw [if_neg hr];split at e0
  ·next t ht =>
   have h1:=UH ht;have h2:=List.find?_some ht;simp only [UA] at h2;exact q05 h.i hN (yR h.i.n h1) h2.2
  ·cases e0
theorem q0k (h:jO N S) (hi:S.idle=true):S.bZ.length=0/\(∀ (a:Nat) (j:Jw),S.all[a]?=some j->j.w.done=true)/\S.z.x.f.inside=0/\S.z.x.f.busy=0:=by
 have hg:=goes h.i.n h.i.live;rw [hi] at hg;have hm:S.bZ.length=0:=by simpa using hg.symm
 have hno:∀ t∈S.iH,t.2.may S=false:=fun t ht=>by
  cases hb:t.2.may S with
  | false=>rfl
  | true =>
    exfalso
    have:t∈S.iH.filter fun t=>t.2.may S:=List.mem_filter.2 ⟨ht,hb⟩
    have h2:(S.iH.filter fun t=>t.2.may S).length=0:=by
     have hm:((S.iH.filter fun t=>t.2.may S).map Prod.fst).length=0:=hm;rwa [UF] at hm
    rw [List.length_eq_zero_iff.1 h2] at this;cases this
 obtain ⟨s1,s2,s3,s4⟩:=QG h.i.n h.i.live hno;refine ⟨hm,s1,?_,?_⟩
 ·rw [h.i.live.ins]
  refine qa fun j hj=>?_
  obtain ⟨a,ha⟩:=U9.1 hj;have hd:=s1 a j ha;cases hw:j.w with
  | call s k=>rw [hw] at hd;cases s <;> first | rfl | cases hd
  | turn s k=>rw [hw] at hd;cases s <;> first | rfl | cases hd
  | dM s k=>rfl
 ·rw [h.i.live.busy]
  exact qa fun c hc=>by rw [s2 c hc];rfl
end
end
end Go.Proofs.YtcneeepdclgdcaaGreat
