import Derived.Test.YtcneeepdclgdcaaGreatPF22
import Derived.Test.YtcneeepdclgdcaaGreatPF15
import Derived.Test.YtcneeepdclgdcaaGreatPF19
import Derived.Test.YtcneeepdclgdcaaGreatPF14
set_option maxRecDepth 100000
set_option maxHeartbeats 4000000
namespace Go.Proofs.YtcneeepdclgdcaaGreat
open Go.Value renaming int->WK,nilFunc->WO,func->WQ,pointer->WS,tuple->WT,agg->XC
open Go.IntKind renaming i64->WL,u64->WM
open Go.Ending renaming returned->WN
open Go.Fn renaming func->WR
open Go renaming bodyPost_ret->WU,bodyPost_end->WY,results_none->WZ,wpQuiet_nil->XA,FuncId->XB,Ending->XD
open _root_.Option renaming isSome_iff_exists->WV
open _root_.List renaming getElem?_eq_getElem->WW,mem_of_getElem?->WX,length_append->XE,cons_append->XF,length_set->XG,nil_append->XH
open _root_.And renaming intro->XI
open Go.World renaming drewN->XJ
set_option linter.all false
open Go.Proofs.Tryz
section
open Go.RowKit Go.Shelf
section
variable {L:Lay} {x:Qi} {gK gF:List ak} {kb:Nat} {pv:Value} {k:Qt}
theorem q6e (hz:jQ L kb pv k x gK gF) (hp:rH .bu (k,x)):Qa prog 186 #[Qb kb] [gK,gF] (jD L kb pv (Jk .bu (k,x))):=by
 obtain ⟨hok,hwk,hpr⟩:=hp;simp only at hok hwk hpr;obtain ⟨⟨i,t⟩,iQ⟩:=WV.1 hpr;obtain ⟨htb,hi⟩:=hwk.tk i t iQ;obtain ⟨s,hs⟩:∃ s,x.au[i]?=some s:=⟨_,WW hi⟩;have hrb:=hok.ring s (WX hs);have zN:=q63 hrb htb;have dR:=Vh hok.tr
 have hE:Jk .bu (k,x)=X8 (k,x) i t s:=by
  show (match k.tk with | none=>_ | some (i,t)=>_)=_
  rw [iQ]
  show (match x.au[i]? with | none=>_ | some s=>_)=_
  rw [hs]
 rw [hE];obtain ⟨rv,tv,gq,gt,hr,ht,rfl,hx⟩:=hz;rw [iQ] at ht;obtain ⟨tb,qs,kJ,rfl,rfl⟩:=ht;clear hE hwk hpr iQ hi hok;obtain ⟨r2,t2,hr2⟩:∃ r2 t2,stepT s.ring t=(r2,t2):=⟨_,_,rfl⟩;rw [hr2] at zN;have nR:=zN.st;simp only at nR;clear zN;obtain ⟨ts,hts⟩:∃ ts,t2.status=ts:=⟨_,rfl⟩;rw [hts] at nR;have HR2:=Vh (XI hr2 hts);obtain ⟨RS,il⟩:∃ RS,X8 (k,x) i t s=RS:=⟨_,rfl⟩;have HE:=Vh il;rw [il];clear il;unfold jD;refine GO fun w HT=>?_
 have HT:=Vh (HT.out.m [Xe kb L.fb pv rv (Qb tb) k,gq,Xy tb qs.rb t,gF]);have HX:=Vh hx;have HR:=Vh hr;have pE:=Vh kJ;have IG:=Vh (q1g hx kJ hs tb t hrb htb);rw [hr2] at IG;simp only [hts] at IG;clear hx hr kJ hs hrb htb hr2 hts;have k14:=HT.c 0 0 14;simp only [Xg,aC] at k14;have lt:=HT.l 0 0;simp only [] at lt;go_enter func186,ntmps186
 go_wp2_with fail
 refine Qa.run IG (HT.a _ _) [2,3] ?_
 rintro e w1 gs ⟨rfl,g1,hx1,rfl⟩ HT;simp only [PU] at HT;have HX:=Vh hx1;clear hx1 k14 lt;have HT:=Vh (HT.out.eq (H':=[Xe kb L.fb pv rv (Qb tb) { k with tk:=some (i,t2) },gq,Xy tb qs.rb t2,g1,[cl w.heap.size 153 #[WO,WO]]]) rfl);have k3:=HT.c 0 0 3;simp only [Xg,aC] at k3;have he:=HE.out;clear HE;by_cases h0:ts=0
 ·have HZ:X8 (k,x) i t s=(.at none .bu,({ k with tk:=some (i,t2) },{ x with au:=x.au.set i { s with ring:=r2 } })):=by unfold X8;simp only [HR2.out.1,HR2.out.2];rw [if_pos h0]
  rw [HZ] at he;subst he;clear HZ;subst h0;clear nR;clear k3;go_wp2_with fail
  refine Qa.run Z0 HT [] ?_
  rintro e w1 gs ⟨rfl,rfl⟩ HT;simp only [PU] at HT;obtain ⟨e0,e1⟩:=HT.c2 4 0 0 1;obtain ⟨eX,eD⟩:=HT.f2 4 0 0 1;simp only [aT] at e0 e1;go_wp2
  exact WU (v:=.agg #[WO,WQ (WR 186) #[Qb kb] #[]]) (by simp [results,results186,go_sem,e0,e1]) rfl ⟨_,⟨_,_,[],_,_,rfl,⟨rfl,rfl,rfl⟩,⟨_,_,gq,(Xy tb qs.rb t2),HR,⟨tb,qs,pE,rfl,rfl⟩,rfl,HX⟩,rfl⟩,(((HT.set 4 0 rfl 0 _).set 4 0 rfl 1 _).p [0,1,2,3]).sum⟩
 ·by_cases h1:ts=1
  ·by_cases h3:k.kind=3
   ·have HZ:X8 (k,x) i t s=(Ji,Qo 2 ({ k with tk:=some (i,t2) },{ x with au:=x.au.set i { s with ring:=r2 } })):=by unfold X8;simp only [HR2.out.1,HR2.out.2];rw [if_neg h0,if_pos ⟨h1,h3⟩]
    rw [HZ] at he;dsimp only [Qo] at he
    subst he;clear HZ;subst h1;clear h0 nR;rw [h3] at k3;clear h3;go_wp2_with fail
    refine Qa.run (Ju HX 2 dR) (HT) [0,3] ?_
    rintro e w1 gs ⟨rfl,g1,hx1,rfl⟩ HT;simp only [PU] at HT;have HX:=Vh hx1;clear hx1;clear k3;go_wp2_with fail
    refine Qa.run (EJ L kb pv) (HT) [] ?_
    rintro e w1 gs ⟨m2,d2,g2,rfl,hs2,rfl⟩ HT;simp only [PU] at HT;obtain ⟨e0,e1⟩:=HT.c2 4 0 0 1;obtain ⟨eX,eD⟩:=HT.f2 4 0 0 1;simp only [aT] at e0 e1;have hv2:=(Xn L kb pv).vals hs2;obtain ⟨st1,st2⟩:=aZ.aG (P:=prog) hv2.1 hv2.2 e0 eX e1 eD;have HS:=Vh hs2;clear hv2 hs2;go_wp2
    exact WU (v:=.agg #[_,_]) (by simp [results,results186,go_sem,e0,e1]) rfl ⟨_,⟨m2,d2,g2,_,_,rfl,HS,⟨_,_,gq,(Xy tb qs.rb t2),HR,⟨tb,qs,pE,rfl,rfl⟩,rfl,HX⟩,rfl⟩,(((HT.set 4 0 rfl 0 _).set 4 0 rfl 1 _).p [0,1,2,3,5]).sum⟩
   ·have HZ:X8 (k,x) i t s=(.thn (.aP .eG .drop) .leaves,({ k with tk:=some (i,t2) },{ x with au:=x.au.set i { s with ring:=r2 } })):=by unfold X8;simp only [HR2.out.1,HR2.out.2];rw [if_neg h0,if_neg (fun h=>h3 h.2),if_pos h1]
    rw [HZ] at he;subst he;clear HZ;have hb3:(k.kind == 3)=false:=beq_eq_false_iff_ne.2 h3
    have hrow:∀ (b bf bl bi:Nat),(mD L kb pv).SV (.aP .eG .drop) WO (WQ (WR 209) #[] #[Qb bf,Qb bl,Qb bi])
     ([cl bf 1 #[WQ (WR 219) #[Qb kb] #[]],cl bl 322 #[.slice (some ⟨b,0,none⟩) 2 2],cl bi 3 #[WK WL 0],cl b 1 #[WQ (WR 219) #[Qb kb] #[],WQ (WR 220) #[Qb kb] #[]]]++[]++[]) :=
     fun b bf bl bi=>⟨rfl,bf,bl,bi,b,_,_,[],[],rfl,⟨rfl,rfl⟩,⟨rfl,rfl⟩,rfl⟩
    have fA:∀ (b bf bl bi:Nat),_:=fun b bf bl bi=>aZ.dD (f:=MC.leaves) (v:=WQ (WR 181) #[Qb kb] #[]) (gm:=[]) (Xn L kb pv) rfl (hrow b bf bl bi) ⟨rfl,rfl⟩
    have kG:=Vh fA;subst h1;clear h0 nR h3 hrow fA;go_wp2_with fail
    refine (Qa.use (aZ.eO (b:=w1.heap.size) (o:=0) (D:=#[WQ (WR 219) #[Qb kb] #[],WQ (WR 220) #[Qb kb] #[]]) rfl 2 (.inr rfl)) (HT.a _ _) [5] rfl rfl).mono ?_
    rintro e w2 ⟨gs,⟨bf,bl,bi,rfl,rfl⟩,Ta⟩;simp only [PU] at Ta;have HT:=Vh Ta;clear Ta;clear k3;have HT:=Vh (HT.out.sum (H':=[Xe kb L.fb pv rv (Qb tb) { k with tk:=some (i,t2) },gq,Xy tb qs.rb t2,g1,[cl w.heap.size 153 #[WO,WO]],[cl bf 1 #[WQ (WR 219) #[Qb kb] #[]],cl bl 322 #[.slice (some ⟨w1.heap.size,0,none⟩) 2 2],cl bi 3 #[WK WL 0],cl w1.heap.size 1 #[WQ (WR 219) #[Qb kb] #[],WQ (WR 220) #[Qb kb] #[]]]++[]++[],[]]));go_wp2_with fail
    refine Qa.run (kG _ _ _ _) (HT) [5,6] ?_
    rintro e w1 gs ⟨m2,d2,g2,rfl,hs2,rfl⟩ HT;simp only [PU] at HT;obtain ⟨e0,e1⟩:=HT.c2 4 0 0 1;obtain ⟨eX,eD⟩:=HT.f2 4 0 0 1;simp only [aT] at e0 e1;have hv2:=(Xn L kb pv).vals hs2;obtain ⟨st1,st2⟩:=aZ.aG (P:=prog) hv2.1 hv2.2 e0 eX e1 eD;have HS:=Vh hs2;clear hv2 hs2;go_wp2
    exact WU (v:=.agg #[_,_]) (by simp [results,results186,go_sem,e0,e1]) rfl ⟨_,⟨m2,d2,g2,_,_,rfl,HS,⟨_,_,gq,Xy tb qs.rb t2,HR,⟨tb,qs,pE,rfl,rfl⟩,rfl,HX⟩,rfl⟩,(((HT.set 4 0 rfl 0 _).set 4 0 rfl 1 _).p [0,1,2,3,5]).sum⟩
  ·have h2:ts=2:=by omega
   by_cases h3:k.kind=3
   ·have HZ:X8 (k,x) i t s=(.at none .again,({ k with tk:=some (i,t2) },{ x with au:=x.au.set i { s with ring:=r2 } })):=by unfold X8;simp only [HR2.out.1,HR2.out.2];rw [if_neg h0,if_neg (fun h=>h1 h.1),if_neg h1,if_pos h3]
    rw [HZ] at he;subst he;clear HZ;subst h2;clear h0 h1 nR;rw [h3] at k3;clear h3;go_wp2_with fail
    refine Qa.run Z0 HT [] ?_
    rintro e w1 gs ⟨rfl,rfl⟩ HT;simp only [PU] at HT;obtain ⟨e0,e1⟩:=HT.c2 4 0 0 1;obtain ⟨eX,eD⟩:=HT.f2 4 0 0 1;simp only [aT] at e0 e1;go_wp2
    exact WU (v:=.agg #[WO,WQ (WR 221) #[Qb kb] #[]]) (by simp [results,results186,go_sem,e0,e1]) rfl ⟨_,⟨_,_,[],_,_,rfl,⟨rfl,rfl,rfl⟩,⟨_,_,gq,(Xy tb qs.rb t2),HR,⟨tb,qs,pE,rfl,rfl⟩,rfl,HX⟩,rfl⟩,(((HT.set 4 0 rfl 0 _).set 4 0 rfl 1 _).p [0,1,2,3]).sum⟩
   ·have HZ:X8 (k,x) i t s=(.at none .bW,({ k with tk:=some (i,t2) },{ x with au:=x.au.set i { s with ring:=r2 } })):=by unfold X8;simp only [HR2.out.1,HR2.out.2];rw [if_neg h0,if_neg (fun h=>h1 h.1),if_neg h1,if_neg h3]
    rw [HZ] at he;subst he;clear HZ;have hb3:(k.kind == 3)=false:=beq_eq_false_iff_ne.2 h3;subst h2;clear h0 h1 nR h3;go_wp2_with fail
    refine Qa.run Z0 HT [] ?_
    rintro e w1 gs ⟨rfl,rfl⟩ HT;simp only [PU] at HT;obtain ⟨e0,e1⟩:=HT.c2 4 0 0 1;obtain ⟨eX,eD⟩:=HT.f2 4 0 0 1;simp only [aT] at e0 e1;go_wp2
    exact WU (v:=.agg #[WO,WQ (WR 222) #[Qb kb] #[]]) (by simp [results,results186,go_sem,e0,e1]) rfl ⟨_,⟨_,_,[],_,_,rfl,⟨rfl,rfl,rfl⟩,⟨_,_,gq,(Xy tb qs.rb t2),HR,⟨tb,qs,pE,rfl,rfl⟩,rfl,HX⟩,rfl⟩,(((HT.set 4 0 rfl 0 _).set 4 0 rfl 1 _).p [0,1,2,3]).sum⟩
end
section
variable {L:Lay} {x:Qi} {gK gF:List ak} {kb:Nat} {pv:Value} {k:Qt}
theorem q2j (hz:jQ L kb pv k x gK gF) (hp:rH .bW (k,x)):Qa prog 222 #[Qb kb] [gK,gF] (jD L kb pv (Jk .bW (k,x))):=by
 have Oj:=Vh (show ∀ g rv tv,Qf L x g->_ from fun g rv tv hx=>Mi (kb:=kb) (pv:=pv) (rv:=rv) (tv:=tv) (k:=k) (g:=g) hx hp.1 2);have dR:=Vh (show ({ x with aa:=(r9 k.slot 2 x.aa).1 }:Qi).tr.length<=1000000 from hp.1.tr);have HZ:=Vh (show Jk .bW (k,x)=(.at none .fills,(yn 2 k x.aa,xC (yn 2 k x.aa) { bO with kind:=3,id:=k.id,gen:=(yn 2 k x.aa).gen,dl:=k.j5,per:=k.period } { x with aa:=(r9 k.slot 2 x.aa).1 })) from rfl);rw [HZ.out];unfold jD;dsimp only
 obtain ⟨k2,hk2⟩:∃ k2,yn 2 k x.aa=k2:=⟨_,rfl⟩;have HK:=Vh (show k2.id=k.id/\k2.j5=k.j5/\k2.period=k.period/\k2.rq=k.rq/\k2.tk=k.tk from by subst hk2;exact ⟨rfl,rfl,rfl,rfl,rfl⟩);rw [hk2] at Oj |-;clear hp hk2 HZ;obtain ⟨rv,tv,gq,gt,hr,ht,rfl,hx⟩:=hz;refine GO fun w HT=>?_
 have HT:=Vh (HT.out.m [Xe kb L.fb pv rv tv k,gq,gt,gF]);have HX:=Vh hx;have HR:=Vh hr;have dZ:=Vh ht;clear hx hr ht;have HT:=Vh (HT.out.a 153 #[WO,WO]);go_enter func222,ntmps222
 go_wp2_with fail
 refine Qa.run (Oj _ _ _ HX) (HT) [0,3] ?_
 rintro e w1 gs ⟨rfl,g1,hx1,rfl⟩ HT;simp only [PU] at HT;have HX:=Vh hx1;clear hx1;obtain ⟨k5,k15,k18⟩:=HT.c3 0 0 5 15 18;simp only [Xg,aC] at k5 k15 k18;go_wp2
 refine Mx 17 ?_
 simp only [dx]
 repeat (go_big_quiet_step ((first | (go_at_call 142;with_reducible exact Qe.quiet (KZ (L:=L)) HT.out _ [0] rfl rfl))))
 refine XA (QT HT fun nq HT=>?_)
 go_wp2_with fail
 refine Qa.run (Ad HX { bO with kind:=3,id:=k2.id,gen:=k2.gen,dl:=k2.j5,per:=k2.period } dR) (HT) [0,3] ?_
 rintro e w1 gs ⟨rfl,g2,hx2,rfl⟩ HT;simp only [PU] at HT;have HX:=Vh hx2;clear hx2 k5 k15 k18;go_wp2_with fail
 refine ⟨rfl,?_⟩
 rw [HK.out.1,HK.out.2.1,HK.out.2.2.1] at HX;go_wp2_with fail
 refine Qa.run Z0 HT [] ?_
 rintro e w1 gs ⟨rfl,rfl⟩ HT;simp only [PU] at HT;obtain ⟨e0,e1⟩:=HT.c2 4 0 0 1;obtain ⟨eX,eD⟩:=HT.f2 4 0 0 1;simp only [aT] at e0 e1;go_wp2
 exact WU (v:=.agg #[WO,WQ (WR 230) #[Qb kb] #[]]) (by simp [results,results222,go_sem,e0,e1]) rfl ⟨_,⟨_,_,[],_,_,rfl,⟨rfl,rfl,rfl⟩,⟨_,_,gq,gt,(HK.2.2.2.1 ▸ HR.out),(HK.2.2.2.2 ▸ dZ.out),rfl,HX⟩,rfl⟩,(((HT.set 4 0 rfl 0 _).set 4 0 rfl 1 _).p [0,1,2,3]).sum⟩
theorem q88 (hz:jQ L kb pv k x gK gF) (hp:rH .fills (k,x)):Qa prog 230 #[Qb kb] [gK,gF] (jD L kb pv (Jk .fills (k,x))):=by
 obtain ⟨hok,hwk,hpr⟩:=hp;simp only at hok hwk hpr;obtain ⟨⟨i,t⟩,iQ⟩:=WV.1 hpr;obtain ⟨htb,hi⟩:=hwk.tk i t iQ;obtain ⟨s,hs⟩:∃ s,x.au[i]?=some s:=⟨_,WW hi⟩;have hrb:=hok.ring s (WX hs)
 have hE:Yn (qt (k,x)) (k,x)=({ k with tk:=some (i,(Zn s.ring t (qt (k,x))).2.1) },{ x with au:=x.au.set i { s with ring:=(Zn s.ring t (qt (k,x))).1 } }):=by
  unfold Yn;simp only [iQ,hs]
 have HZ:Jk .fills (k,x)=(Ji,(iV { k with tk:=some (i,(Zn s.ring t (qt (k,x))).2.1) },{ x with au:=x.au.set i { s with ring:=(Zn s.ring t (qt (k,x))).1 } })):=by
  show (Ji,(iV (Yn (qt (k,x)) (k,x)).1,(Yn (qt (k,x)) (k,x)).2))=_
  rw [hE]
 rw [HZ];unfold jD;dsimp only [iV]
 obtain ⟨rv,tv,gq,gt,hr,ht,rfl,hx⟩:=hz;rw [iQ] at ht;obtain ⟨tb,qs,kJ,rfl,rfl⟩:=ht;have sF:=Vh (Tw hx kJ hs tb t hrb htb (qt (k,x)));have o6:=Vh (Rb hx hok.aa.n1 k.slot);have pG:=Vh (show (qt (k,x)).cells=#[WK WM k.id,WK WL k.slot,WK WM k.gen,WK WM k.j5,WK WM (x.aa.period k.slot)] from rfl);rw [pG.out] at sF;generalize Zn s.ring t (qt (k,x))=rt at *;refine GO fun w HT=>?_
 have HT:=Vh (HT.out.m [Xe kb L.fb pv rv (Qb tb) k,gq,Xy tb qs.rb t,gF]);have HX:=Vh hx;have HR:=Vh hr;have pE:=Vh kJ;clear hx hr kJ hs hrb htb hE HZ hok hwk hpr iQ hi;obtain ⟨k0,k5,k14,k15,k16,k18⟩:=HT.c6 0 0 0 5 14 15 16 18;simp only [Xg,aC] at k0 k5 k14 k15 k16 k18;have lt:=HT.l 0 0;simp only [] at lt;go_enter func230,ntmps230
 go_wp2
 have HT:=Vh (HT.out.a 153 #[WO,WO]);refine Mx 32 ?_
 simp only [dx]
 repeat (go_big_quiet_step ((first | (go_at_call 19;with_reducible exact Qe.quiet (Qq HX.out) HT.out _ [3] rfl rfl) | (go_at_call 227;with_reducible exact Qe.quiet (o6.out) HT.out _ [3] rfl rfl))))
 refine XA (QT HT fun nq HT=>?_)
 go_wp2_with fail
 refine Qa.run sF HT [2,3] ?_
 rintro e w1 gs ⟨rfl,g1,hx1,rfl⟩ HT;simp only [PU] at HT;have HX:=Vh hx1;clear hx1 k0 k5 k14 k15 k16 k18 lt;go_wp2_with fail
 refine ⟨rfl,?_⟩
 obtain ⟨k15,k18,k7,k8,k9,k10,k11⟩:=HT.c7 0 0 15 18 7 8 9 10 11;obtain ⟨wI,yP,yQ,nJ,sN⟩:=HT.f5 0 0 7 8 9 10 11;simp only [Xg,aC] at k15 k18 k7 k8 k9 k10 k11;go_wp2
 refine Mx 10 ?_
 simp only [dx]
 repeat (go_big_quiet_step ((fail)))
 refine XA (QT HT fun nq HT=>?_)
 go_wp2_with fail
 refine ⟨rfl,?_⟩
 have HT:=Vh ((((((HT.set 0 0 rfl 7 (WK WL 0)).set 0 0 rfl 8 (.bool true)).set 0 0 rfl 9 (WK WM k.id)).set 0 0 rfl 10 (WK WM k.gen)).set 0 0 rfl 11 (.slice none 0 0)).eq (H':=[Xe kb L.fb pv rv (Qb tb) { k with tk:=some (i,rt.2.1),err:=0,ok:=true,qX:=k.id,jq:=k.gen },gq,Xy tb qs.rb rt.2.1,g1,[cl w.heap.size 153 #[WO,WO]]]) rfl);clear k15 k18 k7 k8 k9 k10 k11 wI yP yQ nJ sN;go_wp2_with fail
 refine Qa.run (EJ L kb pv) (HT) [] ?_
 rintro e w1 gs ⟨m2,d2,g2,rfl,hs2,rfl⟩ HT;simp only [PU] at HT;obtain ⟨e0,e1⟩:=HT.c2 4 0 0 1;obtain ⟨eX,eD⟩:=HT.f2 4 0 0 1;simp only [aT] at e0 e1;have hv2:=(Xn L kb pv).vals hs2;obtain ⟨st1,st2⟩:=aZ.aG (P:=prog) hv2.1 hv2.2 e0 eX e1 eD;have HS:=Vh hs2;clear hv2 hs2;go_wp2
 exact WU (v:=.agg #[_,_]) (by simp [results,results230,go_sem,e0,e1]) rfl ⟨_,⟨m2,d2,g2,_,_,rfl,HS,⟨_,_,gq,(Xy tb qs.rb rt.2.1),HR,⟨tb,qs,pE,rfl,rfl⟩,rfl,HX⟩,rfl⟩,(((HT.set 4 0 rfl 0 _).set 4 0 rfl 1 _).p [0,1,2,3,5]).sum⟩
end
section
variable {L:Lay} {x:Qi} {gK gF:List ak} {kb:Nat} {pv:Value} {k:Qt}
def AR (L:Lay) (kb:Nat) (pv:Value) (z:ZC) (e:XD) (gs:GH):Prop:=∃ aY aI,e=WN (WT #[])/\jQ L kb pv z.1 z.2 aY aI/\gs=[[],aY,aI]
theorem za4 (hz:jQ L kb pv k x gK gF) (hp:y5 .aR (k,x)) (bk:Nat):Qa prog 179 #[Qb bk] [[cl bk 33 #[Qb kb]],gK,gF] (AR L kb pv (bP .aR (k,x))):=by
 have dR:=Vh hp.1.tr;simp only at dR;clear hp;unfold AR;dsimp only [bP,qq]
 obtain ⟨rv,tv,gq,gt,hr,ht,rfl,hx⟩:=hz;refine GO fun w HT=>?_
 have HT:=Vh (HT.out.sum (H':=[Xe kb L.fb pv rv tv k,gq,gt,gF,[cl bk 33 #[Qb kb]]]));have HX:=Vh hx;have HR:=Vh hr;have dZ:=Vh ht;clear hx hr ht;obtain ⟨k7,k9,k10⟩:=HT.c3 0 0 7 9 10;simp only [Xg,aC] at k7 k9 k10;have b0:=HT.c 4 0 0;simp only [aT] at b0;go_enter func179,ntmps179
 go_wp2_with fail
 refine Mx 17 ?_
 simp only [dx]
 repeat (go_big_quiet_step ((fail)))
 refine XA (QT HT fun nq HT=>?_)
 go_wp2_with fail
 refine Qa.run (Ad HX { bO with kind:=2,id:=k.qX,gen:=k.jq,err:=k.err } dR) (HT) [0,3] ?_
 rintro e w1 gs ⟨rfl,g2,hx2,rfl⟩ HT;simp only [PU] at HT;have HX:=Vh hx2;clear hx2 k7 k9 k10 b0;go_wp2_with fail
 refine ⟨rfl,?_⟩
 go_wp2
 exact WY (WZ rfl _ _ _) rfl ⟨_,⟨_,_,rfl,⟨_,_,gq,gt,HR,dZ,rfl,HX⟩,rfl⟩,(HT.p [0,1,2,3]).sum⟩
theorem q43 (hz:jQ L kb pv k x gK gF) (hp:y5 .bL (k,x)) (bk:Nat):Qa prog 212 #[Qb bk] [[cl bk 33 #[Qb kb]],gK,gF] (AR L kb pv (bP .bL (k,x))):=by
 have HI:=Vh (XI hp.1.i0 hp.1.i1);simp only at HI;clear hp;unfold AR;dsimp only [bP]
 obtain ⟨rv,tv,gq,gt,hr,ht,rfl,hx⟩:=hz;refine GO fun w HT=>?_
 have HT:=Vh (HT.out.sum (H':=[Xe kb L.fb pv rv tv k,gq,gt,gF,[cl bk 33 #[Qb kb]]]));have HX:=Vh hx;have HR:=Vh hr;have dZ:=Vh ht;clear hx hr ht;have k0:=HT.c 0 0 0;simp only [Xg,aC] at k0;have b0:=HT.c 4 0 0;simp only [aT] at b0;go_enter func212,ntmps212
 go_wp2_with fail
 refine Qa.run (Sw HX HI) (HT) [3] ?_
 rintro e w1 gs ⟨rfl,g2,hx2,rfl⟩ HT;simp only [PU] at HT;have HX:=Vh hx2;clear hx2 k0 b0;go_wp2
 exact WY (WZ rfl _ _ _) rfl ⟨_,⟨_,_,rfl,⟨_,_,gq,gt,HR,dZ,rfl,HX⟩,rfl⟩,(HT.p [0,1,2,3]).sum⟩
theorem q8n (hz:jQ L kb pv k x gK gF) (hp:y5 .bN (k,x)) (bk:Nat):Qa prog 231 #[Qb bk] [[cl bk 33 #[Qb kb]],gK,gF] (AR L kb pv (bP .bN (k,x))):=by
 have lT:=Vh hp.1;simp only at lT;clear hp;unfold AR;dsimp only [bP,zk]
 obtain ⟨rv,tv,gq,gt,hr,ht,rfl,hx⟩:=hz;refine GO fun w HT=>?_
 have HT:=Vh (HT.out.sum (H':=[Xe kb L.fb pv rv tv k,gq,gt,gF,[cl bk 33 #[Qb kb]]]));have HX:=Vh hx;have HR:=Vh hr;have dZ:=Vh ht;clear hx hr ht;have b0:=HT.c 4 0 0;simp only [aT] at b0;go_enter func231,ntmps231
 go_wp2_with fail
 refine Qa.run (Mi HX lT 10) (HT) [0,3] ?_
 rintro e w1 gs ⟨rfl,g2,hx2,rfl⟩ HT;simp only [PU] at HT;have HX:=Vh hx2;clear hx2 b0;go_wp2
 exact WY (WZ rfl _ _ _) rfl ⟨_,⟨_,_,rfl,⟨_,_,gq,gt,HR,dZ,rfl,HX⟩,rfl⟩,(HT.p [0,1,2,3]).sum⟩
theorem za7 (hz:jQ L kb pv k x gK gF) (hp:y5 .eG (k,x)):Qa prog 219 #[Qb kb] [gK,gF] (AR L kb pv (bP .eG (k,x))):=by
 have lT:=Vh hp.1;simp only at lT;have dR:=Vh (show ({ x with aa:=(r9 k.slot 9 x.aa).1 }:Qi).tr.length<=1000000 from hp.1.tr);clear hp;unfold AR;dsimp only [bP,zk,Qo]
 obtain ⟨rv,tv,gq,gt,hr,ht,rfl,hx⟩:=hz;refine GO fun w HT=>?_
 have HT:=Vh (HT.out.m [Xe kb L.fb pv rv tv k,gq,gt,gF,[]]);have HX:=Vh hx;have HR:=Vh hr;have dZ:=Vh ht;clear hx hr ht;go_enter func219,ntmps219
 go_wp2_with fail
 refine Qa.run (Mi HX lT 9) (HT) [0,3] ?_
 rintro e w1 gs ⟨rfl,g1,hx1,rfl⟩ HT;simp only [PU] at HT;have HX:=Vh hx1;clear hx1;go_wp2_with fail
 refine Qa.run (Ju HX 2 dR) (HT) [0,3] ?_
 rintro e w1 gs ⟨rfl,g2,hx2,rfl⟩ HT;simp only [PU] at HT;have HX:=Vh hx2;clear hx2;go_wp2
 exact WY (WZ rfl _ _ _) rfl ⟨_,⟨_,_,rfl,⟨_,_,gq,gt,HR,dZ,rfl,HX⟩,rfl⟩,(HT.p [0,1,2,3]).sum⟩
theorem za3 (hz:jQ L kb pv k x gK gF) (hp:y5 .drop (k,x)):Qa prog 220 #[Qb kb] [gK,gF] (AR L kb pv (bP .drop (k,x))):=by
 have HC:=Vh (XI hp.1.aa.c0 (show x.aa.count<=64 by have:=hp.1.aa.c1;have:=hp.1.aa.n1;simp only at *;omega));simp only at HC;clear hp;unfold AR;dsimp only [bP]
 obtain ⟨rv,tv,gq,gt,hr,ht,rfl,hx⟩:=hz;refine GO fun w HT=>?_
 have HT:=Vh (HT.out.m [Xe kb L.fb pv rv tv k,gq,gt,gF,[]]);have HX:=Vh hx;have HR:=Vh hr;have dZ:=Vh ht;clear hx hr ht;have k0:=HT.c 0 0 0;simp only [Xg,aC] at k0;go_enter func220,ntmps220
 go_wp2_with fail
 refine Qe.run (Qq HX) HT [3] ?_
 rintro e wq rfl HT;go_wp2_with fail
 refine Qa.run (Mt HX HC.1 HC.2) (HT) [3] ?_
 rintro e w1 gs ⟨rfl,g2,hx2,rfl⟩ HT;simp only [PU] at HT;have HX:=Vh hx2;clear hx2 k0;go_wp2
 exact WY (WZ rfl _ _ _) rfl ⟨_,⟨_,_,rfl,⟨_,_,gq,gt,HR,dZ,rfl,HX⟩,rfl⟩,(HT.p [0,1,2,3]).sum⟩
theorem q8i (hz:jQ L kb pv k x gK gF) (hp:y5 .bC (k,x)) (bk:Nat):Qa prog 255 #[Qb bk] [[cl bk 33 #[Qb kb]],gK,gF] (AR L kb pv (bP .bC (k,x))):=by
 obtain ⟨hok,hwk,hpr⟩:=hp;simp only at hok hwk hpr;obtain ⟨⟨i,t⟩,iQ⟩:=WV.1 hpr;obtain ⟨htb,hi⟩:=hwk.tk i t iQ;obtain ⟨s,hs⟩:∃ s,x.au[i]?=some s:=⟨_,WW hi⟩;have hrb:=hok.ring s (WX hs)
 have hE:bP .bC (k,x)=({ k with tk:=some (i,(Zn s.ring t { Qn.zero with slot:=-1 }).2.1) },{ x with au:=x.au.set i { s with ring:=(Zn s.ring t { Qn.zero with slot:=-1 }).1 } }):=by
  show Yn _ _=_
  unfold Yn;simp only [iQ,hs]
 rw [hE];unfold AR;dsimp only
 obtain ⟨rv,tv,gq,gt,hr,ht,rfl,hx⟩:=hz;rw [iQ] at ht;obtain ⟨tb,qs,kJ,rfl,rfl⟩:=ht;have sF:=Vh (Tw hx kJ hs tb t hrb htb { Qn.zero with slot:=-1 });have pG:=Vh (show ({ Qn.zero with slot:=-1 }:Qn).cells=#[WK WM 0,WK WL (-1),WK WM 0,WK WM 0,WK WM 0] from rfl);rw [pG.out] at sF;generalize Zn s.ring t { Qn.zero with slot:=-1 }=rt at *;refine GO fun w HT=>?_
 have HT:=Vh (HT.out.sum (H':=[Xe kb L.fb pv rv (Qb tb) k,gq,Xy tb qs.rb t,gF,[cl bk 33 #[Qb kb]]]));have HX:=Vh hx;have HR:=Vh hr;have pE:=Vh kJ;clear hx hr kJ hs hrb htb hE hok hwk hpr iQ hi;have k14:=HT.c 0 0 14;simp only [Xg,aC] at k14;have b0:=HT.c 4 0 0;simp only [aT] at b0;go_enter func255,ntmps255
 go_wp2_with fail
 refine Qa.run sF HT [2,3] ?_
 rintro e w1 gs ⟨rfl,g1,hx1,rfl⟩ HT;simp only [PU] at HT;have HX:=Vh hx1;clear hx1 k14 b0;go_wp2
 exact WY (WZ rfl _ _ _) rfl ⟨_,⟨_,_,rfl,⟨_,_,gq,Xy tb qs.rb rt.2.1,HR,⟨tb,qs,pE,rfl,rfl⟩,rfl,HX⟩,rfl⟩,((HT.p [0,1,2,3]).eq (H':=[Xe kb L.fb pv rv (Qb tb) { k with tk:=some (i,rt.2.1) },gq,Xy tb qs.rb rt.2.1,g1]) rfl).sum⟩
end
section
variable {L:Lay} {x:Qi} {g gK gF:List ak} {kb:Nat} {pv:Value} {k:Qt}
theorem q6y (hz:jQ L kb pv k x gK gF):Qa prog 138 #[Qb kb] [gK,gF] (jD L kb pv (.ai .aR,(k,x))):=by
 intro w hw;refine (Qa.use (EW L kb pv) (TG.refl hw) [] rfl rfl).mono ?_
 rintro e w' ⟨gs,⟨m,d,g',he,hs,rfl⟩,T⟩;exact ⟨_,⟨m,d,g',gK,gF,he,hs,hz,rfl⟩,T.p [2,0,1]⟩
theorem qyx (hz:jQ L kb pv k x gK gF):Qa prog 181 #[Qb kb] [gK,gF] (jD L kb pv (Ji,(k,x))):=by
 intro w hw;refine (Qa.use (EJ L kb pv) (TG.refl hw) [] rfl rfl).mono ?_
 rintro e w' ⟨gs,⟨m,d,g',he,hs,rfl⟩,T⟩;exact ⟨_,⟨m,d,g',gK,gF,he,hs,hz,rfl⟩,T.p [2,0,1]⟩
theorem oH {fn:XB} {R:XD->GH->Prop} (eg:∀ args w,(callFunc fn args).run prog w=.ok (.enter fn args) w) (h:Qa prog fn #[Qb kb] [gK,gF] R):jT prog (WQ (WR fn) #[Qb kb] #[]) [[],gK,gF] R :=
 ⟨fn,#[Qb kb],#[],rfl,eg,Qa.pre (by simpa using h) (by simp)⟩
theorem FM {fn:XB} {bk:Nat} {gb:List ak} {R:XD->GH->Prop} (eg:∀ args w,(callFunc fn args).run prog w=.ok (.enter fn args) w) (h:Qa prog fn #[Qb bk] [gb,gK,gF] R):jT prog (WQ (WR fn) #[] #[Qb bk]) [gb,gK,gF] R :=
 ⟨fn,#[],#[Qb bk],rfl,eg,by simpa using h⟩
theorem E9 (L:Lay) (kb:Nat) (pv:Value):(mD L kb pv).Ok where
 v:=Xn L kb pv
 y h:=h.elim
 m {f v g gK gF z} hv hz hp:=by
   obtain ⟨k,x⟩:=z;obtain ⟨rfl,rfl⟩:=hv;cases f with
   | right=>exact oH (enters_of func81 (by kernel_rfl) rfl) (q9a hz hp)
   | enter=>exact oH (enters_of func82 (by kernel_rfl) rfl) (q87 hz hp)
   | gate=>exact oH (enters_of func83 (by kernel_rfl) rfl) (zbr hz hp)
   | asks=>exact oH (enters_of func143 (by kernel_rfl) rfl) (zbq hz hp)
   | bu=>exact oH (enters_of func186 (by kernel_rfl) rfl) (q6e hz hp)
   | bW=>exact oH (enters_of func222 (by kernel_rfl) rfl) (q2j hz hp)
   | fills=>exact oH (enters_of func230 (by kernel_rfl) rfl) (q88 hz hp)
   | looks=>exact oH (enters_of func144 (by kernel_rfl) rfl) (q89 hz hp)
   | again=>exact oH (enters_of func221 (by kernel_rfl) rfl) (q86 hz hp)
   | tries=>exact oH (enters_of func188 (by kernel_rfl) rfl) (q9c hz hp)
   | ends=>exact oH (enters_of func138 (by kernel_rfl) rfl) (q6y hz)
   | leaves=>exact oH (enters_of func181 (by kernel_rfl) rfl) (qyx hz)
 a {f v g gK gF z} hv hz hp:=by
   obtain ⟨k,x⟩:=z;cases f with
   | aR=>obtain ⟨bk,rfl,rfl⟩:=hv;exact FM (enters_of func179 (by kernel_rfl) rfl) (za4 hz hp bk)
   | bL=>obtain ⟨bk,rfl,rfl⟩:=hv;exact FM (enters_of func212 (by kernel_rfl) rfl) (q43 hz hp bk)
   | eG=>obtain ⟨rfl,rfl⟩:=hv;exact oH (enters_of func219 (by kernel_rfl) rfl) (za7 hz hp)
   | drop=>obtain ⟨rfl,rfl⟩:=hv;exact oH (enters_of func220 (by kernel_rfl) rfl) (za3 hz hp)
   | bN=>obtain ⟨bk,rfl,rfl⟩:=hv;exact FM (enters_of func231 (by kernel_rfl) rfl) (q8n hz hp bk)
   | bC=>obtain ⟨bk,rfl,rfl⟩:=hv;exact FM (enters_of func255 (by kernel_rfl) rfl) (q8i hz hp bk)
end
def DR (L:Lay) (kb:Nat) (pv:Value) (k:Qt) (gK:List ak):Prop :=
 ∃ rv tv gq gt,Ie L.p.sb k.rq rv gq/\Ig L k.tk tv gt/\gK=Xe kb L.fb pv rv tv k++(gq++gt)
theorem MF {L:Lay} {kb:Nat} {pv:Value} {k:Qt} {x:Qi} {gK gF:List ak}:jQ L kb pv k x gK gF↔DR L kb pv k gK/\Qf L x gF :=
 ⟨fun ⟨rv,tv,gq,gt,a,b,c,d⟩=>⟨⟨rv,tv,gq,gt,a,b,c⟩,d⟩,fun ⟨⟨rv,tv,gq,gt,a,b,c⟩,d⟩=>⟨rv,tv,gq,gt,a,b,c,d⟩⟩
def zm (L:Lay) (kb:Nat) (s:SC) (n:Int) (k:Qt) (g:List ak):Prop :=
 ∃ pb m d cB gK,(mD L kb (Qb pb)).SV s m d cB/\DR L kb (Qb pb) k gK/\g=aZ.aJ pb m d n++(cB++gK)
theorem Gj:∀ (s:SC) (z:ZC),St.dw (fun (_:Empty) (_:ZC)=>True) s z
 | .nil,_=>trivial
 | .at none _,_=>trivial
 | .at (some y) _,_=>y.elim
 | .ai _,_=>trivial
 | .aP _ _,_=>trivial
 | .thn s _,z=>Gj s z
theorem qos {L:Lay} {kb:Nat} {pv:Value}:∀ {s:SC} {m d:Value} {g:List ak},(mD L kb pv).SV s m d g->m=WO
 | .nil,_,_,_,h=>h.1
 | .at none _,_,_,_,h=>h.1
 | .at (some y) _,_,_,_,_=>y.elim
 | .ai _,_,_,_,h=>h.1
 | .aP _ _,_,_,_,h=>h.1
 | .thn s _,_,_,_,h=>by obtain ⟨bs,br,ds,vm,gs,gm,_,_,hv,_⟩:=h;exact qos hv
def Ec (s:SC) (z:ZC):Prop:=St.pre Jk bP rH y5 s z
def J5 (s:SC) (z:ZC):SC × ZC:=St.run Jk bP s z
structure Q4 where
 kind:Int
 id:Int
 dl:Int
 per:Int
def Q4.cells (c:Q4):Array Value:=#[WK WL c.kind,WK WM c.id,WK WM c.dl,WK WM c.per]
def ku (th no:Int) (c:Q4):Qt:=⟨th,no,c.kind,c.id,c.dl,c.per,0,false,0,0,c.id,0,0,0,none,none⟩
def q7 (kind:Int):SC:=if kind=1\/kind=2 then .at none .right else if kind=3 then .at none .enter else .at none .gate
def Bb (err:Int) (ok:Bool) (id gen:Int):Array Value:=#[WK WL err,.bool ok,WK WM id,WK WM gen,.slice none 0 0]
section
variable {L:Lay} {x:Qi} {g gF:List ak} {kb:Nat} {s:SC} {n:Int} {k:Qt}
theorem q02 (hc:zm L kb s n k g) (hx:Qf L x gF) (hp:Ec s (k,x)) (hn:s.isNil=false) (hb:0<=n/\n<=1000000000) :
 Qa prog 16 #[Qb kb] [g,gF] fun e gs=>∃ g' aI,e=WN (.bool true)/\zm L kb (J5 s (k,x)).1 (n+1) (J5 s (k,x)).2.1 g'/\Qf L (J5 s (k,x)).2.2 aI/\gs=[g',aI]:=by
 obtain ⟨pb,m,d,cB,gK,hs,⟨rv,tv,gq,gt,hr,ht,rfl⟩,rfl⟩:=hc;have hm0:=qos hs;subst hm0;have hok:=E9 L kb (Qb pb);have hm:=aZ.fT (x:=((k,x):ZC)) hok hn hs;have hd:=aZ.fJ (n:=n) hok hs (x:=((k,x):ZC)) (gK:=Xe kb L.fb (Qb pb) rv tv k++(gq++gt)) (gF:=gF) ⟨rv,tv,gq,gt,hr,ht,rfl,hx⟩ (Gj s _) hp pb hb hm;refine GO fun w HT=>?_
 have T1:=HT.m [Xe kb L.fb (Qb pb) rv tv k,aZ.aJ pb WO d n,cB,gq,gt,gF];have k12:=T1.c 0 0 12;simp only [Xg,aC] at k12;have HD:=Vh hd;have HT:=Vh (HT.out.m [aZ.aJ pb WO d n,cB,Xe kb L.fb (Qb pb) rv tv k++(gq++gt),gF]);clear hs hr ht hx hp hn hb hok hm hd T1;go_enter func16,ntmps16
 go_wp2_with fail
 refine Qa.run HD HT [0,1,2,3] ?_
 rintro e w1 gs ⟨m',d',nN,aY,aI,rfl,hs',hx',rfl⟩ HT;simp only [PU] at HT;have HS:=Vh hs';have HX:=Vh (MF.1 hx');clear hs' hx' k12;go_wp2
 go_ret
 exact ⟨_,⟨_,aI,rfl,⟨pb,m',d',nN,aY,HS,HX.1,rfl⟩,HX.2,rfl⟩,HT.sum⟩
theorem qmh (hc:zm L kb .nil n k g) (hx:Qf L x gF) :
 Qa prog 16 #[Qb kb] [g,gF] fun e gs=>e=WN (.bool false)/\∃ g' aI,zm L kb .nil n k g'/\Qf L x aI/\gs=[g',aI]:=by
 obtain ⟨pb,m,d,cB,gK,hs,⟨rv,tv,gq,gt,hr,ht,rfl⟩,rfl⟩:=hc;have hok:=E9 L kb (Qb pb);have hd:=aZ.dQ (n:=n) hok hs (x:=((k,x):ZC)) (gK:=Xe kb L.fb (Qb pb) rv tv k++(gq++gt)) (gF:=gF) ⟨rv,tv,gq,gt,hr,ht,rfl,hx⟩ (Gj .nil _) pb rfl;refine GO fun w HT=>?_
 have T1:=HT.m [Xe kb L.fb (Qb pb) rv tv k,aZ.aJ pb m d n,cB,gq,gt,gF];have k12:=T1.c 0 0 12;simp only [Xg,aC] at k12;have HD:=Vh hd;have HS:=Vh hs;have HT:=Vh (HT.out.m [aZ.aJ pb m d n,cB,Xe kb L.fb (Qb pb) rv tv k++(gq++gt),gF]);clear hs hr ht hx hok hd T1;go_enter func16,ntmps16
 go_wp2_with fail
 refine Qa.run HD HT [0,1,2,3] ?_
 rintro e w1 gs ⟨aY,aI,rfl,hx',rfl⟩ HT;simp only [PU] at HT;have HX:=Vh (MF.1 hx');clear hx' k12;go_wp2
 go_ret
 exact ⟨_,⟨rfl,_,aI,⟨pb,m,d,cB,aY,HS,HX.1,rfl⟩,HX.2,rfl⟩,HT.sum⟩
theorem Mq (hc:zm L kb s n k g):Qe prog 89 #[Qb kb] [g] (.bool s.isNil):=by
 obtain ⟨pb,m,d,cB,gK,hs,⟨rv,tv,gq,gt,hr,ht,rfl⟩,rfl⟩:=hc;have hd:=aZ.eU (E9 L kb (Qb pb)) hs pb n;refine GO fun w HT=>?_
 have T1:=HT.m [Xe kb L.fb (Qb pb) rv tv k,aZ.aJ pb m d n,cB,gq,gt];have k12:=T1.c 0 0 12;simp only [Xg,aC] at k12;have HD:=Vh hd;have HT:=Vh T1;clear hs hr ht hd T1;go_enter func89,ntmps89
 go_wp2_with fail
 refine (Qe.use HD HT [1] rfl rfl).mono ?_
 rintro e w1 ⟨rfl,mq,rfl⟩;go_wp2
 go_ret
 exact ⟨rfl,_,rfl⟩
theorem q5h (hc:zm L kb s n k g) (hx:Qf L x gF) :
 Qa prog 362 #[Qb kb] [g,gF] fun e gs=>e=WN (.bool (!s.isNil))/\∃ g' aI,zm L kb s n k g'/\Qf L x aI/\gs=[g',aI]:=by
 obtain ⟨pb,m,d,cB,gK,hs,⟨rv,tv,gq,gt,hr,ht,rfl⟩,rfl⟩:=hc;have hm0:=qos hs;subst hm0;have hok:=E9 L kb (Qb pb)
 have hm:St.may (M:=(mD L kb (Qb pb)).M) (A:=(mD L kb (Qb pb)).A) (Y:=(mD L kb (Qb pb)).Y) (α:=(mD L kb (Qb pb)).α) (mD L kb (Qb pb)).dX s ((k,x):ZC)=!s.isNil:=by
  cases hn:s.isNil
  ·exact aZ.fT (x:=((k,x):ZC)) hok hn hs
  ·cases s <;> first | rfl | cases hn
 have hd:=aZ.dP (n:=n) hok hs (x:=((k,x):ZC)) (gK:=Xe kb L.fb (Qb pb) rv tv k++(gq++gt)) (gF:=gF) ⟨rv,tv,gq,gt,hr,ht,rfl,hx⟩ (Gj s _) pb;rw [hm] at hd;refine GO fun w HT=>?_
 have T1:=HT.m [Xe kb L.fb (Qb pb) rv tv k,aZ.aJ pb WO d n,cB,gq,gt,gF];have k12:=T1.c 0 0 12;simp only [Xg,aC] at k12;have HD:=Vh hd;have HS:=Vh hs;have HT:=Vh (HT.out.m [aZ.aJ pb WO d n,cB,Xe kb L.fb (Qb pb) rv tv k++(gq++gt),gF]);clear hs hr ht hx hok hd T1 hm;go_enter func362,ntmps362
 go_wp2_with fail
 refine Qa.run HD HT [0,1,2,3] ?_
 rintro e w1 gs ⟨aY,aI,rfl,hx',rfl⟩ HT;simp only [PU] at HT;have HX:=Vh (MF.1 hx');clear hx' k12;go_wp2
 go_ret
 exact ⟨_,⟨rfl,_,aI,⟨pb,WO,d,cB,aY,HS,HX.1,rfl⟩,HX.2,rfl⟩,HT.sum⟩
theorem qs4 (hc:zm L kb s n k g) (hn:s.isNil=true):Qa prog 21 #[Qb kb] [g] fun e gs =>
 e=WN (WT #[.agg (Bb k.err k.ok k.qX k.jq),WK WL 0])/\gs=[g]:=by
 have hd:=Mq hc;rw [hn] at hd;obtain ⟨pb,m,d,cB,gK,hs,⟨rv,tv,gq,gt,hr,ht,rfl⟩,rfl⟩:=hc;refine GO fun w HT=>?_
 have HT:=Vh (HT.out.sum (H':=[aZ.aJ pb m d n++(cB++(Xe kb L.fb (Qb pb) rv tv k++(gq++gt)))]));have HD:=Vh hd;have lt:=(HT.m [Xe kb L.fb (Qb pb) rv tv k,aZ.aJ pb m d n,cB,gq,gt]).l 0 0;have HT:=Vh (HT.out.a 51 #[WK WL 0,.bool false,WK WM 0,WK WM 0,.slice none 0 0]);simp only [] at lt;clear hs hr ht hd hn;go_enter func21,ntmps21
 go_wp2_with fail
 refine (Qe.use HD HT [0] rfl rfl).mono ?_
 rintro e w1 ⟨rfl,mq,rfl⟩;have HT:=Vh (HT.out.drewN mq);have HT:=Vh (HT.out.sum (H':=[Xe kb L.fb (Qb pb) rv tv k,aZ.aJ pb m d n,cB,gq,gt,[cl w.heap.size 51 #[WK WL 0,.bool false,WK WM 0,WK WM 0,.slice none 0 0]]]));generalize XJ _ _=wq at HT |-;obtain ⟨k7,k8,k9,k10,k11⟩:=HT.c5 0 0 7 8 9 10 11;simp only [Xg,aC] at k7 k8 k9 k10 k11;obtain ⟨e0,e1,e2,e3,e4⟩:=HT.c5 5 0 0 1 2 3 4;obtain ⟨eX,eD,FO,O8,AM⟩:=HT.f5 5 0 0 1 2 3 4;simp only [aT] at e0 e1 e2 e3 e4;go_wp2
 exact WU (v:=WT #[.agg (Bb k.err k.ok k.qX k.jq),WK WL 0]) (by simp [results,results21,go_sem,e0,e1,e2,e3,e4,Bb]) rfl ⟨_,⟨rfl,rfl⟩,(((((((HT.set 5 0 rfl 0 _).set 5 0 rfl 1 _).set 5 0 rfl 2 _).set 5 0 rfl 3 _).set 5 0 rfl 4 _).p [0,1,2,3,4]).sum)⟩
theorem q0y (hc:zm L kb s n k g) (hn:s.isNil=false):Qa prog 21 #[Qb kb] [g] fun e gs =>
 e=WN (WT #[.agg (Bb 0 false 0 0),WK WL 10])/\gs=[g]:=by
 have hd:=Mq hc;rw [hn] at hd;obtain ⟨pb,m,d,cB,gK,hs,⟨rv,tv,gq,gt,hr,ht,rfl⟩,rfl⟩:=hc;refine GO fun w HT=>?_
 have HT:=Vh (HT.out.sum (H':=[aZ.aJ pb m d n++(cB++(Xe kb L.fb (Qb pb) rv tv k++(gq++gt)))]));have HD:=Vh hd;have lt:=(HT.m [Xe kb L.fb (Qb pb) rv tv k,aZ.aJ pb m d n,cB,gq,gt]).l 0 0;have HT:=Vh (HT.out.a 51 #[WK WL 0,.bool false,WK WM 0,WK WM 0,.slice none 0 0]);simp only [] at lt;clear hs hr ht hd hn;go_enter func21,ntmps21
 go_wp2_with fail
 refine (Qe.use HD HT [0] rfl rfl).mono ?_
 rintro e w1 ⟨rfl,mq,rfl⟩;have HT:=Vh (HT.out.drewN mq);have HT:=Vh (HT.out.sum (H':=[Xe kb L.fb (Qb pb) rv tv k,aZ.aJ pb m d n,cB,gq,gt,[cl w.heap.size 51 #[WK WL 0,.bool false,WK WM 0,WK WM 0,.slice none 0 0]]]));generalize XJ _ _=wq at HT |-;obtain ⟨k7,k8,k9,k10,k11⟩:=HT.c5 0 0 7 8 9 10 11;simp only [Xg,aC] at k7 k8 k9 k10 k11;obtain ⟨e0,e1,e2,e3,e4⟩:=HT.c5 5 0 0 1 2 3 4;obtain ⟨eX,eD,FO,O8,AM⟩:=HT.f5 5 0 0 1 2 3 4;simp only [aT] at e0 e1 e2 e3 e4;go_wp2
 exact WU (v:=WT #[.agg (Bb 0 false 0 0),WK WL 10]) (by simp [results,results21,go_sem,e0,e1,e2,e3,e4,Bb]) rfl ⟨_,⟨rfl,rfl⟩,(((((((HT.set 5 0 rfl 0 _).set 5 0 rfl 1 _).set 5 0 rfl 2 _).set 5 0 rfl 3 _).set 5 0 rfl 4 _).p [0,1,2,3,4]).sum)⟩
end
structure lH (N:Int) (r:Qx):Prop where
 n0:1<=r.slots.length
 n1:r.slots.length<=64
 t0:0<=r.tail
 t1:r.tail<=N
 h0:0<=r.head
 h1:r.head<=N
structure uB (N:Int) (t:Xv):Prop where
 p0:0<=t.pos
 p1:t.pos<=N
 nx:t.next=0\/t.next=1\/t.next=2
 st:t.status=0\/t.status=1\/t.status=2
structure Zg (N:Nat) (x:Qi):Prop where
 aa:Xc x.aa
 i0:0<=x.f.inside
 i1:x.f.inside<=N
 tr:x.tr.length<=N
 sh:1<=x.au.length
 ring:∀ s∈x.au,lH N s.ring
structure Zm (N:Nat) (k:Qt) (x:Qi):Prop where
 c0:0<=k.j5/\k.j5<18446744073709551616
 c1:0<=k.ig/\k.ig<18446744073709551616
 id:0<=k.id/\k.id<18446744073709551616
 slot:0<=k.slot
 aA:0<=k.aA/\k.aA<18446744073709551616/\okW k.aA=true
 rq:∀ q,k.rq=some q->x8 x.aa.recs.length q
 tk:∀ i t,k.tk=some (i,t)->uB N t/\i<x.au.length
def uL:SC->Qt->Prop
 | .nil,_=>True
 | .at none .right,_=>True
 | .at none .enter,_=>True
 | .at none .gate,_=>True
 | .at none .looks,_=>True
 | .at none .asks,k=>k.rq.isSome=true/\∀ q,k.rq=some q->q.st=0
 | .at none .bu,k=>k.tk.isSome=true
 | .at none .bW,k=>k.tk.isSome=true
 | .at none .fills,k=>k.tk.isSome=true
 | .at none .again,k=>k.tk.isSome=true
 | .at none .tries,k=>k.kind=3->k.tk.isSome=true
 | .ai .aR,_=>True
 | .thn (.ai .bL) .ends,_=>True
 | .thn (.aP .eG .drop) .leaves,_=>True
 | .thn (.ai .drop) .leaves,_=>True
 | .thn (.ai .bC) .leaves,k=>k.tk.isSome=true
 | .thn (.aP .bN .drop) .ends,_=>True
 | .thn (.ai .drop) .ends,_=>True
 | _,_=>False
theorem lH.mono {N M:Int} {r:Qx} (h:lH N r) (hm:N<=M):lH M r:=⟨h.n0,h.n1,h.t0,by have:=h.t1;omega,h.h0,by have:=h.h1;omega⟩
theorem lH.b {N:Int} {r:Qx} (h:lH N r) (hm:N<=1000000):zx r:=⟨h.n0,h.n1,h.t0,by have:=h.t1;omega,h.h0,by have:=h.h1;omega⟩
theorem uB.mono {N M:Int} {t:Xv} (h:uB N t) (hm:N<=M):uB M t:=⟨h.p0,by have:=h.p1;omega,h.nx,h.st⟩
theorem uB.b {N:Int} {t:Xv} (h:uB N t) (hm:N<=1000000):uA t:=⟨h.p0,by have:=h.p1;omega,h.nx,h.st⟩
theorem Zg.ok {N:Nat} {x:Qi} (h:Zg N x) (hN:N<=1000000):qB x :=
 ⟨h.aa,h.i0,by have:=h.i1;omega,by have:=h.tr;omega,h.sh,fun s hs=>(h.ring s hs).b (by omega)⟩
theorem Zg.mono {N M:Nat} {x:Qi} (h:Zg N x) (hm:N<=M):Zg M x :=
 ⟨h.aa,h.i0,by have:=h.i1;omega,by have:=h.tr;omega,h.sh,fun s hs=>(h.ring s hs).mono (by omega)⟩
theorem Zg.rings {N M:Nat} {x:Qi} (h:Zg N x) (hm:N<=M):∀ s∈x.au,lH M s.ring:=fun s hs=>(h.ring s hs).mono (by omega)
theorem Zm.ok {N:Nat} {k:Qt} {x:Qi} (h:Zm N k x) (hN:N<=1000000):Hw k x :=
 ⟨h.c0,h.c1,h.id,h.slot,h.aA,h.rq,fun i t ht=>⟨(h.tk i t ht).1.b (by omega),(h.tk i t ht).2⟩⟩
theorem Zm.mono {N M:Nat} {k:Qt} {x:Qi} (h:Zm N k x) (hm:N<=M):Zm M k x :=
 ⟨h.c0,h.c1,h.id,h.slot,h.aA,h.rq,fun i t ht=>⟨(h.tk i t ht).1.mono (by omega),(h.tk i t ht).2⟩⟩
theorem Zm.core {N:Nat} {k:Qt} {x x':Qi} (h:Zm N k x) (h1:x'.aa.recs.length=x.aa.recs.length) (h2:x'.au.length=x.au.length):Zm N k x' :=
 ⟨h.c0,h.c1,h.id,h.slot,h.aA,fun q hq=>by rw [h1];exact h.rq q hq,fun i t ht=>⟨(h.tk i t ht).1,by rw [h2];exact (h.tk i t ht).2⟩⟩
theorem q64 {N:Int} {r:Qx} {t:Xv} (hr:lH N r) (ht:uB N t):uB N (stepT r t).2/\lH (N+1) (stepT r t).1:=by
 have h1:=hr.t0;have h2:=hr.t1;have ho:lH (N+1) r:=hr.mono (by omega);unfold stepT rG qE oU;split
 ·exact ⟨ht,ho⟩
 ·split
  ·exact ⟨⟨h1,h2,.inr (.inl rfl),ht.st⟩,ho⟩
  ·split
   ·split
    ·exact ⟨⟨ht.p0,ht.p1,.inl rfl,ht.st⟩,ho⟩
    ·split
     ·exact ⟨⟨ht.p0,ht.p1,ht.nx,.inr (.inl rfl)⟩,ho⟩
     ·exact ⟨⟨ht.p0,ht.p1,.inr (.inr rfl),ht.st⟩,ho⟩
   ·split
    ·exact ⟨⟨ht.p0,ht.p1,.inl rfl,.inr (.inr rfl)⟩,⟨hr.n0,hr.n1,by have:=ht.p0;simp only;omega,by have:=ht.p1;simp only;omega,hr.h0,by have:=hr.h1;simp only;omega⟩⟩
    ·exact ⟨⟨ht.p0,ht.p1,.inl rfl,ht.st⟩,ho⟩
theorem q52 {N:Int} {r:Qx} {t:Xv} (v:Qn) (hr:lH N r) (ht:uB N t):uB N (Zn r t v).2.1/\lH N (Zn r t v).1:=by
 unfold Zn;split
 ·exact ⟨⟨ht.p0,ht.p1,ht.nx,ht.st⟩,⟨by simp only [XG];exact hr.n0,by simp only [XG];exact hr.n1,hr.t0,hr.t1,hr.h0,hr.h1⟩⟩
 ·exact ⟨ht,hr⟩
theorem MG {N:Int} {l:List Qs} {i:Nat} {s:Qs} (h:∀ s∈l,lH N s.ring) (hs:lH N s.ring):∀ a∈l.set i s,lH N a.ring:=by
 intro a ha;rcases List.mem_or_eq_of_mem_set ha with h1 | h1
 ·exact h a h1
 ·exact h1 ▸ hs
section
variable {N:Nat} {k:Qt} {x:Qi}
theorem Bn (h:Zg N x) (E:EvS):Zg (N+1) (xC k E x) :=
 ⟨h.aa,h.i0,by have:=h.i1;show x.f.inside<=_;omega,by have:=h.tr;show (x.tr++[_]).length<=_;rw [XE];simp;omega,h.sh,h.rings (by omega)⟩
theorem Bo (h:Zg N x) {s:Qj} (hs:Xc s):Zg N { x with aa:=s }:=⟨hs,h.i0,h.i1,h.tr,h.sh,h.ring⟩
theorem Ys (hc:Zg N x) (hk:Zm N k x) (e:Int):Zg (N+1) (Qo e (k,x)).2/\Zm (N+1) (Qo e (k,x)).1 (Qo e (k,x)).2 :=
 ⟨Bn hc _,((⟨hk.c0,hk.c1,hk.id,hk.slot,hk.aA,hk.rq,hk.tk⟩:Zm N (Y1 e k) x).mono (M:=N+1) (by omega)).core rfl rfl⟩
theorem Nb (hc:Zg N x) (hk:Zm N k x) (ev:Int):Zg N (zk ev (k,x)).2/\Zm N (zk ev (k,x)).1 (zk ev (k,x)).2:=by
 obtain ⟨h1,h2⟩:=ui hc.aa k.slot (x.aa.word k.slot) ev;exact ⟨Bo hc h1,(⟨hk.c0,hk.c1,hk.id,hk.slot,hk.aA,hk.rq,hk.tk⟩:Zm N (yn ev k x.aa) x).core h2 rfl⟩
theorem Pt (hc:Zg N x) (hk:Zm N k x) (v:Qn):Zg N (Yn v (k,x)).2/\Zm N (Yn v (k,x)).1 (Yn v (k,x)).2:=by
 unfold Yn;simp only;split
 ·exact ⟨hc,hk⟩
 ·rename_i i t ht
  split
  ·exact ⟨hc,hk⟩
  ·rename_i s hs
   obtain ⟨htn,hi⟩:=hk.tk i t ht;have hrn:=hc.ring s (WX hs);obtain ⟨a,b⟩:=q52 v hrn htn;refine ⟨⟨hc.aa,hc.i0,hc.i1,hc.tr,by simpa using hc.sh,MG hc.ring b⟩,⟨hk.c0,hk.c1,hk.id,hk.slot,hk.aA,hk.rq,fun i' t' h'=>?_⟩⟩
   cases h'
   exact ⟨a,by simpa using hi⟩
theorem K5 (hc:Zg N x) (hk:Zm N k x) (a:AC):Zg (N+1) (bP a (k,x)).2/\Zm (N+1) (bP a (k,x)).1 (bP a (k,x)).2:=by
 cases a with
 | aR=>exact ⟨Bn hc _,(hk.mono (M:=N+1) (by omega)).core rfl rfl⟩
 | bL =>
   have h1:0<=Z2 x.f.inside/\Z2 x.f.inside<=N:=by have:=hc.i0;have:=hc.i1;unfold Z2;split <;> omega
   exact ⟨⟨hc.aa,h1.1,by have:=h1.2;show Z2 x.f.inside<=_;omega,by have:=hc.tr;show x.tr.length<=_;omega,hc.sh,hc.rings (by omega)⟩,(hk.mono (M:=N+1) (by omega)).core rfl rfl⟩
 | eG =>
   obtain ⟨h1,h2⟩:=Nb hc hk 9;exact Ys h1 h2 2
 | drop =>
   obtain ⟨h1,h2⟩:=EA hc.aa;exact ⟨(Bo hc h1).mono (M:=N+1) (by omega),(hk.mono (M:=N+1) (by omega)).core h2 rfl⟩
 | bN =>
   obtain ⟨h1,h2⟩:=Nb hc hk 10;exact ⟨h1.mono (M:=N+1) (by omega),h2.mono (M:=N+1) (by omega)⟩
 | bC =>
   obtain ⟨h1,h2⟩:=Pt hc hk { Qn.zero with slot:=-1 };exact ⟨h1.mono (M:=N+1) (by omega),h2.mono (M:=N+1) (by omega)⟩
structure JC (N:Nat) (s:SC) (z:ZC):Prop where
 core:Zg N z.2
 work:Zm N z.1 z.2
 fit:uL s z.1
theorem JC.pre {s:SC} {z:ZC} (h:JC N s z) (hN:N<1000000):Ec s z:=by
 obtain ⟨k,x⟩:=z;obtain ⟨hc,hk,hf⟩:=h;simp only at hc hk hf;have ho:=hc.ok (by omega);have hw:=hk.ok (by omega);have hact:∀ a,qB (bP a (k,x)).2/\Hw (bP a (k,x)).1 (bP a (k,x)).2:=fun a=>⟨(K5 hc hk a).1.ok (by omega),(K5 hc hk a).2.ok (by omega)⟩
 match s,hf with
 | .nil,_=>trivial
 | .at none .right,_=>exact ⟨ho,hw,trivial⟩
 | .at none .enter,_=>exact ⟨ho,hw,trivial⟩
 | .at none .gate,_=>exact ⟨ho,hw,trivial⟩
 | .at none .looks,_=>exact ⟨ho,hw,trivial⟩
 | .at none .asks,hf=>exact ⟨ho,hw,hf⟩
 | .at none .bu,hf=>exact ⟨ho,hw,hf⟩
 | .at none .bW,_=>exact ⟨ho,hw,trivial⟩
 | .at none .fills,hf=>exact ⟨ho,hw,hf⟩
 | .at none .again,_=>exact ⟨ho,hw,trivial⟩
 | .at none .tries,_=>exact ⟨ho,hw,trivial⟩
 | .ai .aR,_=>exact ⟨ho,hw,trivial⟩
 | .thn (.ai .bL) .ends,_=>exact ⟨⟨ho,hw,trivial⟩,fun _=>⟨(hact .bL).1,(hact .bL).2,trivial⟩⟩
 | .thn (.aP .eG .drop) .leaves,_=>exact ⟨⟨ho,hw,trivial⟩,fun h=>by cases h⟩
 | .thn (.ai .drop) .leaves,_=>exact ⟨⟨ho,hw,trivial⟩,fun _=>⟨(hact .drop).1,(hact .drop).2,trivial⟩⟩
 | .thn (.ai .bC) .leaves,hf=>exact ⟨⟨ho,hw,hf⟩,fun _=>⟨(hact .bC).1,(hact .bC).2,trivial⟩⟩
 | .thn (.aP .bN .drop) .ends,_=>exact ⟨⟨ho,hw,trivial⟩,fun h=>by cases h⟩
 | .thn (.ai .drop) .ends,_=>exact ⟨⟨ho,hw,trivial⟩,fun _=>⟨(hact .drop).1,(hact .drop).2,trivial⟩⟩
theorem LZ (k k2:Qt):uL (Zl k) k2:=by
 unfold Zl Ji;split <;> trivial
theorem q25 {s:Qj} {q:ik} (h:q.st=0):(Zf s q).2.st=0\/(Zf s q).2.st=1\/(Zf s q).2.st=2:=by
 unfold Zf;rw [if_neg (by omega)];split
 ·unfold rF;split <;> simp [h]
 ·split
  ·unfold qH;split <;> simp [h]
  ·unfold om;simp only;split <;> simp [h]
theorem N7 (hc:Zg N x) (hk:Zm N k x):Zm N (lookW k x.aa).1 x:=by
 have hs:0<=x.aa.slot k.id:=by have:=hk.id.1;unfold Qj.slot;split <;> omega
 have hw:=Y3 hc.aa (x.aa.slot k.id);unfold lookW;split
 ·exact hk
 ·split
  ·exact ⟨hk.c0,hk.c1,hk.id,hs,hw,hk.rq,hk.tk⟩
  ·exact ⟨hk.c0,hk.c1,hk.id,hs,hw,hk.rq,hk.tk⟩
theorem H7 (hc:Zg N x) {slot:Int} (h:0<=slot):kQ slot x<x.au.length:=by
 have hn:=hc.sh;have a:0<=slot % (x.au.length:Int):=Int.emod_nonneg _ (by omega);have b:slot % (x.au.length:Int)<x.au.length:=Int.emod_lt_of_pos _ (by omega);unfold kQ;omega
theorem SY:uB N X6:=⟨by decide,by show (0:Int)<=N;omega,.inl rfl,.inl rfl⟩
theorem q9g (hc:Zg N x) (hk:Zm N k x) (m:MC) (hf:uL (.at none m) k):JC (N+1) (Jk m (k,x)).1 (Jk m (k,x)).2:=by
 have hc':=hc.mono (M:=N+1) (by omega);have hk':=hk.mono (M:=N+1) (by omega);have hre:∀ e s,uL s (Y1 e k)->JC (N+1) s (Qo e (k,x)):=fun e s hs=>⟨(Ys hc hk e).1,(Ys hc hk e).2,hs⟩
 cases m with
 | ends=>exact hf.elim
 | leaves=>exact hf.elim
 | right =>
   show JC (N+1) (if mR k then _ else _:SC × ZC).1 (if mR k then _ else _:SC × ZC).2
   split
   ·exact hre 1 _ trivial
   ·exact ⟨hc',hk',trivial⟩
 | enter=>exact ⟨⟨hc.aa,by have:=hc.i0;show 0<=x.f.inside+1;omega,by have:=hc.i1;show x.f.inside+1<=_;omega,hc'.tr,hc.sh,hc'.ring⟩,hk'.core rfl rfl,trivial⟩
 | gate =>
   show JC (N+1) (if x.f.closed=true then _ else _:SC × ZC).1 (if x.f.closed=true then _ else _:SC × ZC).2
   split
   ·exact hre 3 _ (LZ _ _)
   ·split
    ·refine ⟨hc',⟨hk'.c0,hk'.c1,hk'.id,hk'.slot,hk'.aA,fun q hq=>?_,hk'.tk⟩,rfl,fun q hq=>?_⟩
     ·cases hq
      have h1:=hk.c1;have h2:=hc.aa.n0;refine ⟨?_,?_,by simp,by simp;omega,.inl rfl⟩
      ·show 0<=k.period;unfold Qt.period;split <;> omega
      ·show k.period < _;unfold Qt.period;split <;> omega
     ·cases hq;rfl
    ·exact ⟨hc',hk',trivial⟩
 | asks =>
   obtain ⟨hr,hq0⟩:=hf;obtain ⟨q,hq⟩:=WV.1 hr;have hE:Jk .asks (k,x)=ql (k,x) q:=by show (match k.rq with | none=>_ | some q=>_)=_;rw [hq]
   rw [hE];have hst:=hq0 q hq;obtain ⟨h1,h2,h3⟩:=Uv hc.aa (hk.rq q hq);have hid:=Uu hc.aa (hk.rq q hq) hst;have h4:=q25 (s:=x.aa) hst;unfold ql;simp only;generalize Zf x.aa q=r at *;have cx:Zg N { x with aa:=r.1 }:=Bo hc h1;have wk:Zm N { k with rq:=some r.2 } { x with aa:=r.1 }:=⟨hk.c0,hk.c1,hk.id,hk.slot,hk.aA,fun q' h'=>by cases h';show x8 r.1.recs.length r.2;rw [h3];exact h2,hk.tk⟩;split
   ·exact ⟨(Ys cx wk 2).1,(Ys cx wk 2).2,trivial⟩
   ·split
    ·next h5 =>
     obtain ⟨i0,i1⟩:=hid h5;refine ⟨cx.mono (M:=N+1) (by omega),⟨wk.c0,wk.c1,⟨i0,i1⟩,by show 0<=r.2.id % 64;omega,wk.aA,wk.rq,fun i t ht=>?_⟩,rfl⟩
     cases ht
     exact ⟨SY,H7 hc (by omega)⟩
    ·next h6 h5 =>
     exact ⟨cx.mono (M:=N+1) (by omega),wk.mono (M:=N+1) (by omega),rfl,fun q' h'=>by cases h';omega⟩
 | bu =>
   obtain ⟨⟨i,t⟩,htk⟩:=WV.1 hf;obtain ⟨htn,hi⟩:=hk.tk i t htk;obtain ⟨s,hs⟩:∃ s,x.au[i]?=some s:=⟨_,WW hi⟩
   have hE:Jk .bu (k,x)=X8 (k,x) i t s:=by
    show (match k.tk with | none=>_ | some (i,t)=>_)=_
    rw [htk]
    show (match x.au[i]? with | none=>_ | some s=>_)=_
    rw [hs]
   rw [hE];obtain ⟨a,b⟩:=q64 (hc.ring s (WX hs)) htn;unfold X8;simp only;generalize stepT s.ring t=r at *;have cx:Zg (N+1) { x with au:=x.au.set i { s with ring:=r.1 } }:=⟨hc.aa,hc'.i0,hc'.i1,hc'.tr,by simpa using hc.sh,MG hc'.ring (by simpa using b)⟩;have wk:Zm (N+1) { k with tk:=some (i,r.2) } { x with au:=x.au.set i { s with ring:=r.1 } }:=⟨hk.c0,hk.c1,hk.id,hk.slot,hk.aA,hk.rq,fun i' t' h'=>by cases h';exact ⟨a.mono (by omega),by simpa using hi⟩⟩;split
   ·exact ⟨cx,wk,rfl⟩
   ·split
    ·refine ⟨⟨cx.aa,cx.i0,cx.i1,?_,cx.sh,cx.ring⟩,(⟨wk.c0,wk.c1,wk.id,wk.slot,wk.aA,wk.rq,wk.tk⟩:Zm (N+1) (Y1 2 { k with tk:=some (i,r.2) }) { x with au:=x.au.set i { s with ring:=r.1 } }).core rfl rfl,trivial⟩
     have:=hc.tr
     show (x.tr++[_]).length<=_
     rw [XE];simp;omega
    ·split
     ·exact ⟨cx,wk,trivial⟩
     ·split
      ·exact ⟨cx,wk,rfl⟩
      ·exact ⟨cx,wk,rfl⟩
 | bW =>
   obtain ⟨h1,h2⟩:=Nb hc hk 2;exact ⟨Bn h1 _,(h2.mono (M:=N+1) (by omega)).core rfl rfl,hf⟩
 | fills =>
   obtain ⟨h1,h2⟩:=Pt hc hk (qt (k,x));refine ⟨h1.mono (M:=N+1) (by omega),?_,trivial⟩
   have h3:=h2.mono (M:=N+1) (by omega);exact ⟨h3.c0,h3.c1,h3.id,h3.slot,h3.aA,h3.rq,h3.tk⟩
 | looks =>
   have wk:=N7 hc hk;obtain ⟨e1,e2,e3,e4⟩:=Gr k x.aa hk.slot hk.id.1
   show JC (N+1) (if (lookW k x.aa).2=0 then _ else _:SC × ZC).1 (if (lookW k x.aa).2=0 then _ else _:SC × ZC).2
   split
   ·show JC (N+1) (if k.kind=3 then _ else _:SC × ZC).1 (if k.kind=3 then _ else _:SC × ZC).2
    split
    ·refine ⟨hc',⟨wk.c0,wk.c1,wk.id,wk.slot,wk.aA,wk.rq,fun i t ht=>?_⟩,rfl⟩
     cases ht
     exact ⟨SY,H7 hc e4⟩
    ·next h3=>exact ⟨hc',wk.mono (M:=N+1) (by omega),fun h=>absurd (e1.symm.trans h) h3⟩
   ·show JC (N+1) (if (lookW k x.aa).2=1 then _ else _:SC × ZC).1 (if (lookW k x.aa).2=1 then _ else _:SC × ZC).2
    split
    ·exact ⟨(Ys hc wk 1).1,(Ys hc wk 1).2,LZ _ _⟩
    ·exact ⟨(Ys hc wk 0).1,(Ys hc wk 0).2,LZ _ _⟩
 | again =>
   have wk:=N7 hc hk;obtain ⟨e1,e2,e3,e4⟩:=Gr k x.aa hk.slot hk.id.1;have hf':(lookW k x.aa).1.tk.isSome=true:=by rw [e3];exact hf
   show JC (N+1) (if (lookW k x.aa).2=0 then _ else _:SC × ZC).1 (if (lookW k x.aa).2=0 then _ else _:SC × ZC).2
   split
   ·exact ⟨hc',wk.mono (M:=N+1) (by omega),fun _=>hf'⟩
   ·exact ⟨(Ys hc wk 0).1,(Ys hc wk 0).2,hf'⟩
 | tries =>
   obtain ⟨h1,h2⟩:=ui hc.aa k.slot k.aA k.event;have cx:Zg N (Zo (k,x)).1.2:=Bo hc h1;have wk:Zm N (Zo (k,x)).1.1 (Zo (k,x)).1.2:=(⟨hk.c0,hk.c1,hk.id,hk.slot,hk.aA,hk.rq,hk.tk⟩:Zm N (Zo (k,x)).1.1 x).core h2 rfl;have wo:Zm N (iV (Zo (k,x)).1.1) (Zo (k,x)).1.2:=⟨wk.c0,wk.c1,wk.id,wk.slot,wk.aA,wk.rq,wk.tk⟩
   show JC (N+1) (if (Zo (k,x)).2≠0 then _ else _:SC × ZC).1 (if (Zo (k,x)).2≠0 then _ else _:SC × ZC).2
   split
   ·show JC (N+1) (if k.kind=3 then _ else _:SC × ZC).1 (if k.kind=3 then _ else _:SC × ZC).2
    split
    ·next h3=>exact ⟨cx.mono (M:=N+1) (by omega),wk.mono (M:=N+1) (by omega),hf h3⟩
    ·exact ⟨cx.mono (M:=N+1) (by omega),wk.mono (M:=N+1) (by omega),trivial⟩
   ·show JC (N+1) (if k.kind=3 then _ else _:SC × ZC).1 (if k.kind=3 then _ else _:SC × ZC).2
    split
    ·next h3=>exact ⟨Bn cx _,(wo.mono (M:=N+1) (by omega)).core rfl rfl,hf h3⟩
    ·show JC (N+1) (if k.kind=5 then _ else _:SC × ZC).1 (if k.kind=5 then _ else _:SC × ZC).2
     split
     ·exact ⟨Bn cx _,(wo.mono (M:=N+1) (by omega)).core rfl rfl,trivial⟩
     ·exact ⟨Bn cx _,(wo.mono (M:=N+1) (by omega)).core rfl rfl,trivial⟩
theorem JC.step {s:SC} {z:ZC} (h:JC N s z):JC (N+1) (J5 s z).1 (J5 s z).2:=by
 obtain ⟨k,x⟩:=z;obtain ⟨hc,hk,hf⟩:=h;simp only at hc hk hf;have ha:=fun a=>K5 hc hk a
 match s,hf with
 | .nil,_=>exact ⟨hc.mono (M:=N+1) (by omega),hk.mono (M:=N+1) (by omega),trivial⟩
 | .at none m,hf=>exact q9g hc hk m hf
 | .ai .aR,_=>exact ⟨(ha .aR).1,(ha .aR).2,trivial⟩
 | .thn (.ai .bL) .ends,_=>exact ⟨(ha .bL).1,(ha .bL).2,trivial⟩
 | .thn (.aP .eG .drop) .leaves,_=>exact ⟨(ha .eG).1,(ha .eG).2,trivial⟩
 | .thn (.ai .drop) .leaves,_=>exact ⟨(ha .drop).1,(ha .drop).2,trivial⟩
 | .thn (.ai .bC) .leaves,_=>exact ⟨(ha .bC).1,(ha .bC).2,trivial⟩
 | .thn (.aP .bN .drop) .ends,_=>exact ⟨(ha .bN).1,(ha .bN).2,trivial⟩
 | .thn (.ai .drop) .ends,_=>exact ⟨(ha .drop).1,(ha .drop).2,trivial⟩
end
section
variable {L:Lay} {x:Qi} {gF:List ak}
def Pw (L:Lay) (x:Qi) (th no:Int) (c:Q4) (e:XD) (gs:GH):Prop :=
 ∃ kb g aI,e=WN (WT #[Qb kb,WK WL 0])/\zm L kb (q7 c.kind) 0 (ku th no c) g/\Qf L (xC (ku th no c) { bO with kind:=1,id:=c.id,dl:=c.dl,per:=c.per } x) aI/\gs=[g,aI]
theorem q84 (L:Lay) {kd:Int} (h1:1<=kd) (h5:kd<=5) :
 (∃ F,(∀ kb pv,(mD L kb pv).SV (q7 kd) WO (WQ (WR F) #[Qb kb] #[]) []) /\
   ((F=81/\((kd == 1)=true\/(kd == 1)=false/\(kd == 2)=true))\/(kd == 1)=false/\(kd == 2)=false/\(F=82/\(kd == 3)=true \/
     (kd == 3)=false/\F=83/\((kd == 4)=true\/(kd == 4)=false/\(kd == 5)=true)))):=by
 have h:kd=1\/kd=2\/kd=3\/kd=4\/kd=5:=by omega
 rcases h with rfl | rfl | rfl | rfl | rfl
 ·exact ⟨_,fun kb pv=>(by unfold q7;exact ⟨rfl,rfl,rfl⟩),.inl ⟨rfl,.inl rfl⟩⟩
 ·exact ⟨_,fun kb pv=>(by unfold q7;exact ⟨rfl,rfl,rfl⟩),.inl ⟨rfl,.inr ⟨rfl,rfl⟩⟩⟩
 ·exact ⟨_,fun kb pv=>(by unfold q7;exact ⟨rfl,rfl,rfl⟩),.inr ⟨rfl,rfl,.inl ⟨rfl,rfl⟩⟩⟩
 ·exact ⟨_,fun kb pv=>(by unfold q7;exact ⟨rfl,rfl,rfl⟩),.inr ⟨rfl,rfl,.inr ⟨rfl,rfl,.inl rfl⟩⟩⟩
 ·exact ⟨_,fun kb pv=>(by unfold q7;exact ⟨rfl,rfl,rfl⟩),.inr ⟨rfl,rfl,.inr ⟨rfl,rfl,.inr ⟨rfl,rfl⟩⟩⟩⟩
theorem qwg (hx:Qf L x gF) (hn:x.tr.length<=1000000) (th no:Int) (c:Q4) (h1:1<=c.kind) (h5:c.kind<=5):Qa prog 15 #[Qb L.fb,WK WL th,WK WL no,.agg c.cells] [gF] (Pw L x th no c):=by
 obtain ⟨kd,id,dl,per⟩:=c;obtain ⟨F,hS,h⟩:=q84 L h1 h5;clear h1 h5;have HS:=Vh hS;clear hS;have HX:=Vh hx;have dR:=Vh hn;clear hx hn;unfold Pw;rcases h with ⟨rfl,b1 | ⟨b1,b2⟩⟩ | ⟨b1,b2,⟨rfl,b3⟩ | ⟨b3,rfl,b4 | ⟨b4,b5⟩⟩⟩
 all_goals
  have lh:=Vh (show ∀ kb,_ from fun kb=>aZ.tY (E9 L kb (WS none)) (HS kb (WS none)));refine GO fun w HT=>?_
  simp only [Q4.cells];go_enter func15,ntmps15
  go_wp2_with fail
  have HT:=Vh ((HT.a 38 #[WK WL kd,WK WM id,WK WM dl,WK WM per]).alloc (k:=w.heap.size+1) (by simp) 149 (Xg L.fb (WS none) (WS none) (WS none) (ku th no ⟨kd,id,dl,per⟩)));simp only [XF,XH] at HT;refine (Qa.use Z0 HT [] rfl rfl).mono ?_
  rintro e w1 ⟨gs,⟨rfl,rfl⟩,Ta⟩;simp only [PU] at Ta;have HT:=Vh (Ta.sum (H':=[gF,[cl w.heap.size 38 #[WK WL kd,WK WM id,WK WM dl,WK WM per]],Xe (w.heap.size+1) L.fb (WS none) (WS none) (WS none) (ku th no ⟨kd,id,dl,per⟩),[]]));clear Ta;go_wp2_with fail
  refine Qa.run (lh _) (HT) [3] ?_
  rintro e w1 gs ⟨pb,rfl,rfl⟩ HT;simp only [PU] at HT;have k12:=HT.c 2 0 12;have yM:=HT.f 2 0 12;simp only [Xg,aC] at k12;obtain ⟨b0,b1,b2,b3⟩:=HT.c4 1 0 0 1 2 3;simp only [aT] at b0 b1 b2 b3;go_wp2_with fail
  have HT:=Vh ((HT.set 2 0 rfl 12 (Qb pb)).eq (H':=[gF,[cl w.heap.size 38 #[WK WL kd,WK WM id,WK WM dl,WK WM per]],Xe (w.heap.size+1) L.fb (Qb pb) (WS none) (WS none) (ku th no ⟨kd,id,dl,per⟩),[],aZ.aJ pb WO (WQ (WR _) #[Qb (w.heap.size+1)] #[]) 0]) rfl);go_wp2_with fail
  refine Qa.run (Ad HX { bO with kind:=1,id:=id,dl:=dl,per:=per } dR) (HT) [2,0] ?_
  rintro e w1 gs ⟨rfl,g1,hx1,rfl⟩ HT;simp only [PU] at HT;have HX:=Vh hx1;clear hx1 k12 yM;go_wp2
  go_ret2
  exact ⟨_,⟨_,_,g1,rfl,⟨pb,_,_,[],_,HS _ _,⟨_,_,[],[],⟨rfl,rfl⟩,⟨rfl,rfl⟩,rfl⟩,rfl⟩,HX,rfl⟩,((HT.p [2,0,4]).eq (H':=[[cl (w.heap.size+1) 149 (Xg L.fb (Qb pb) (WS none) (WS none) (ku th no ⟨kd,id,dl,per⟩))],g1,aZ.aJ pb WO (WQ (WR _) #[Qb (w.heap.size+1)] #[]) 0]) rfl).sum (H':=[aZ.aJ pb WO (WQ (WR _) #[Qb (w.heap.size+1)] #[]) 0++([]++([cl (w.heap.size+1) 149 (Xg L.fb (Qb pb) (WS none) (WS none) (ku th no ⟨kd,id,dl,per⟩))]++([]++[]))),g1])⟩
theorem qko (hx:Qf L x gF) (th no:Int) (c:Q4) (h:c.kind<1\/5<c.kind):Qa prog 15 #[Qb L.fb,WK WL th,WK WL no,.agg c.cells] [gF] fun e gs=>e=WN (WT #[WS none,WK WL 1])/\gs=[gF]:=by
 refine GO fun w HT=>?_
 have b1:(c.kind == 1)=false:=beq_eq_false_iff_ne.2 (by omega);have b2:(c.kind == 2)=false:=beq_eq_false_iff_ne.2 (by omega);have b3:(c.kind == 3)=false:=beq_eq_false_iff_ne.2 (by omega);have b4:(c.kind == 4)=false:=beq_eq_false_iff_ne.2 (by omega);have b5:(c.kind == 5)=false:=beq_eq_false_iff_ne.2 (by omega);clear h hx;simp only [Q4.cells];go_enter func15,ntmps15
 go_wp2
 go_ret2
 exact ⟨_,⟨rfl,rfl⟩,(HT.aN _).aN _⟩
end
def KE (c:Cfg):Qi:=⟨⟨c,false,0,0,0⟩,Zu c.cap.toNat,[],List.replicate c.sh.toNat (Qp c.ring.toNat)⟩
structure Xm where
 id:Int
 gen:Int
 dl:Int
 tick:Int
def Xm.vals (f:Xm):List Value:=[WK WM f.id,WK WM f.gen,WK WM f.dl,WK WM f.tick]
structure Qz where
 room:Nat
 ch:List Xm
 sp:List Xm
 most:Int
 shut:Bool
def Nj (n:Nat):Qz:=⟨n,[],[],0,false⟩
abbrev Ze (pb cb lb:Nat) (p:Qz):List ak:=[cl pb 185 #[.chan (some cb),Qb lb,WK WL p.most,.bool p.shut]]
def Z3 (pb:Nat) (p:Qz) (g:List ak):Prop:=∃ (cb lb hb a b:Nat) (l:List Nd) (gl:List ak),Yp lb hb l gl/\l.map Nd.v=p.sp.map Xm.vals /\
 g=Ze pb cb lb p++([(cb,.chan p.room (p.ch.map fun f=>XC f.vals.toArray).toArray false a b false)]++gl)
theorem Ue (cb n:Nat) (buf:Array Value) (cz:Bool) (a b:Nat) (w:World) (h:w.heap[cb]?=some (.chan n buf cz a b false)) :
 (Builtin.len_ #[182] 3 #[.chan (some cb)]).run prog w=.ok (WK WL buf.size) w:=by
 have hg:(getObj cb).run prog w=.ok (.chan n buf cz a b false) w:=by simp [getObj,Sem.run,h]
 simp [Builtin.len_,run_underlying underlying182,hg,goInt]
def Qz.mW (p:Qz):Int:=if p.shut then 3 else 0
section
variable {pb:Nat} {p:Qz} {g:List ak}
theorem qug (hg:Z3 pb p g):Qa prog 198 #[Qb pb] [g] fun e gs=>e=WN (WK WL p.mW)/\∃ g',Z3 pb { p with shut:=true } g'/\gs=[g']:=by
 obtain ⟨cb,lb,hb,a,b,l,gl,h1,h2,rfl⟩:=hg;cases hs:p.shut with
 | false =>
   have HE:=Vh (show p.mW=0 from by unfold Qz.mW;rw [hs];rfl);rw [HE.out];refine GO fun w HT=>?_
   have HT:=Vh (HT.out.m [Ze pb cb lb p,[(cb,.chan p.room (p.ch.map fun f=>XC f.vals.toArray).toArray false a b false)]++gl]);have H1:=Vh h1;have H2:=Vh h2;have c3:=HT.c 0 0 3;have FN:=HT.f 0 0 3;simp only [hs,aC] at c3;clear h1 h2 hs;go_enter func198,ntmps198
   go_wp2
   go_ret
   exact ⟨_,⟨rfl,_,⟨cb,lb,hb,a,b,l,gl,H1,H2,rfl⟩,rfl⟩,((HT.set 0 0 rfl 3 _).eq (H':=[Ze pb cb lb { p with shut:=true },[(cb,.chan p.room (p.ch.map fun f=>XC f.vals.toArray).toArray false a b false)]++gl]) rfl).sum⟩
 | true =>
   have hsame:({ p with shut:=true }:Qz)=p:=by rw [<- hs]
   rw [hsame];have HE:=Vh (show p.mW=3 from by unfold Qz.mW;rw [hs];rfl);rw [HE.out];refine GO fun w HT=>?_
   have HT:=Vh (HT.out.m [Ze pb cb lb p,[(cb,.chan p.room (p.ch.map fun f=>XC f.vals.toArray).toArray false a b false)]++gl]);have H1:=Vh h1;have H2:=Vh h2;have c3:=HT.c 0 0 3;simp only [hs,aC] at c3;clear h1 h2 hs;go_enter func198,ntmps198
   go_wp2
   go_ret
   exact ⟨_,⟨rfl,_,⟨cb,lb,hb,a,b,l,gl,H1,H2,rfl⟩,rfl⟩,HT.sum⟩
theorem qnk (hg:Z3 pb p g):Qe prog 239 #[Qb pb] [g] (.bool (p.shut && decide (p.ch=[]))):=by
 obtain ⟨cb,lb,hb,a,b,l,gl,h1,h2,rfl⟩:=hg;refine GO fun w HT=>?_
 have HT:=Vh (HT.out.m [Ze pb cb lb p,[(cb,.chan p.room (p.ch.map fun f=>XC f.vals.toArray).toArray false a b false)]++gl]);have b1:=HT.obj 1 0 rfl;simp only [] at b1;have hlc:=Ue cb p.room _ false a b w b1;simp only [List.size_toArray,List.length_map] at hlc;have hz:((p.ch.length:Int) == 0)=decide (p.ch=[]):=by cases p.ch <;> simp <;> omega
 clear h1 h2;generalize p.ch.length=n at *;generalize decide (p.ch=[])=e at *;cases hs:p.shut with
 | false =>
   obtain ⟨c0,c3⟩:=HT.c2 0 0 0 3;simp only [hs,Ze,aC] at c0 c3;go_enter func239,ntmps239
   go_wp2
   go_ret
   exact ⟨rfl,0,rfl⟩
 | true =>
   obtain ⟨c0,c3⟩:=HT.c2 0 0 0 3;simp only [hs,Ze,aC] at c0 c3;go_enter func239,ntmps239
   go_wp2
   go_ret
   exact ⟨rfl,0,rfl⟩
end
section
variable {q:gY} {s:Qs} {g:List ak}
theorem qux (hg:uO q s g) (hr:zx s.ring):Qa prog 18 #[Qb q.b] [g] fun e gs =>
 e=WN (WT #[.agg (J4 s.ring).2.1.cells,WK WL (J4 s.ring).2.2])/\∃ g',uO q { s with ring:=(J4 s.ring).1 } g'/\gs=[g']:=by
 obtain ⟨gr,gl,h1,h2,rfl⟩:=hg;have hp:=qyu h1 hr;generalize J4 s.ring=p at *;refine GO fun w HT=>?_
 have HT:=Vh (HT.out.m [Xl q.b q.rb q.lb q.wb,gr,gl]);have HP:=Vh hp;have HL:=Vh h2;clear h1 h2 hp hr;go_enter func18,ntmps18
 go_wp2_with fail
 refine Qa.run (Jm q.b q.rb q.lb q.wb) (HT.a 40 Qn.zero.cells) [0] ?_
 rintro e w1 gs ⟨rfl,rfl⟩ HT;simp only [PU] at HT;have hf:=fun w=>(J8 (Qb q.rb) (Qb q.lb) (Qb q.wb) w).1
 go_wp2_with fail
 refine Qa.run HP HT [1] ?_
 rintro e w1 gs ⟨rfl,g1,hg1,rfl⟩ HT;simp only [PU] at HT;have HG:=Vh hg1;clear hg1;obtain ⟨a0,a1,a2,a3,a4⟩:=HT.c5 3 0 0 1 2 3 4;obtain ⟨fa0,fa1,fa2,fa3,fa4⟩:=HT.f5 3 0 0 1 2 3 4;simp only [Qn.cells,Qn.zero,aC] at a0 a1 a2 a3 a4;simp only [Qn.cells];go_wp2
 exact WU (v:=WT #[.agg p.2.1.cells,WK WL p.2.2]) (by simp [results,results18,go_sem,a0,a1,a2,a3,a4,Qn.cells]) rfl ⟨_,⟨rfl,_,⟨g1,gl,HG,HL,rfl⟩,rfl⟩,((((((HT.set 3 0 rfl 0 _).set 3 0 rfl 1 _).set 3 0 rfl 2 _).set 3 0 rfl 3 _).set 3 0 rfl 4 _).p [0,1,2]).sum⟩
theorem qi6 (hg:uO q s g) (hr:zx s.ring):Qa prog 35 #[Qb q.b] [g] fun e gs=>e=WN (WK WL (s.ring.tail - s.ring.head))/\∃ g',uO q s g'/\gs=[g']:=by
 obtain ⟨gr,gl,h1,h2,rfl⟩:=hg;have hp:=qys h1 hr;refine GO fun w HT=>?_
 have HT:=Vh (HT.out.m [Xl q.b q.rb q.lb q.wb,gr,gl]);have HP:=Vh hp;have HL:=Vh h2;clear h1 h2 hp hr;go_enter func35,ntmps35
 go_wp2_with fail
 refine Qa.run (Jm q.b q.rb q.lb q.wb) (HT) [0] ?_
 rintro e w1 gs ⟨rfl,rfl⟩ HT;simp only [PU] at HT;have hf:=fun w=>(J8 (Qb q.rb) (Qb q.lb) (Qb q.wb) w).1
 go_wp2_with fail
 refine Qa.run HP HT [1] ?_
 rintro e w1 gs ⟨rfl,g1,hg1,rfl⟩ HT;simp only [PU] at HT;have HG:=Vh hg1;clear hg1;go_wp2
 go_ret
 exact ⟨_,⟨rfl,_,⟨g1,gl,HG,HL,rfl⟩,rfl⟩,HT.sum⟩
theorem qnt (hg:uO q s g) (hr:zx s.ring):Qa prog 291 #[Qb q.b] [g] fun e gs=>e=WN (.bool s.ring.ready)/\∃ g',uO q s g'/\gs=[g']:=by
 obtain ⟨gr,gl,h1,h2,rfl⟩:=hg;have hp:=Rj h1 hr;refine GO fun w HT=>?_
 have HT:=Vh (HT.out.m [Xl q.b q.rb q.lb q.wb,gr,gl]);have HP:=Vh hp;have HL:=Vh h2;clear h1 h2 hp hr;go_enter func291,ntmps291
 go_wp2_with fail
 refine Qa.run (Jm q.b q.rb q.lb q.wb) (HT) [0] ?_
 rintro e w1 gs ⟨rfl,rfl⟩ HT;simp only [PU] at HT;have hf:=fun w=>(J8 (Qb q.rb) (Qb q.lb) (Qb q.wb) w).1
 go_wp2_with fail
 refine Qa.run HP HT [1] ?_
 rintro e w1 gs ⟨rfl,g1,hg1,rfl⟩ HT;simp only [PU] at HT;have HG:=Vh hg1;clear hg1;go_wp2
 go_ret
 exact ⟨_,⟨rfl,_,⟨g1,gl,HG,HL,rfl⟩,rfl⟩,HT.sum⟩
end
section
variable {L:Lay} {x:Qi} {g:List ak}
theorem Ev {F:Nat} {args:Array Value} {i:Nat} {q:gY} {s s':Qs} {v:Value} (hx:Qf L x g) (hq:L.qs[i]?=some q) (hs:x.au[i]?=some s)
 (hd:∀ g,uO q s g->Qa prog F args [g] fun e gs=>e=WN v/\∃ g',uO q s' g'/\gs=[g']) :
 Qa prog F args [g] fun e gs=>e=WN v/\∃ g',Qf L { x with au:=x.au.set i s' } g'/\gs=[g']:=by
 obtain ⟨tr,gF,gS,gR,gH,gT,h1,h2,h3,h4,h5,h6,rfl⟩:=hx;have hz:(L.qs.zip x.au)[i]?=some (q,s):=uk hq hs;obtain ⟨u,y,hu,hp,hback⟩:=h5.out hz;intro w hw;have T:=(((TG.refl hw).sum (H':=[gF++(gS++(gR++gT)),gH])).bF 1 rfl hp).sum (H':=[gF++(gS++(gR++gT)),u,y]);refine (Qa.use (hd u hu) T [1] rfl rfl).mono ?_
 rintro e w' ⟨gs,⟨he,g1,hn1,rfl⟩,T'⟩;obtain ⟨ny,hf,hp'⟩:=hback (q,s') g1 hn1;rw [ze i hq] at hf;refine ⟨_,⟨he,_,⟨tr,gF,gS,gR,ny,gT,h1,h2,h3,by simpa using h4,hf,h6,rfl⟩,rfl⟩,?_⟩
 exact ((TG.sum (H:=[gF++(gS++(gR++gT)),g1,y]) (H':=[gF++(gS++(gR++gT)),g1++y]) T').bF 1 rfl hp').sum
theorem qm {x:Qi} {i:Nat} {s:Qs} (hs:x.au[i]?=some s):({ x with au:=x.au.set i s }:Qi)=x:=by
 have:x.au.set i s=x.au:=Yg hs;rw [this]
theorem q5v (hx:Qf L x g) {i:Nat} {q:gY} {s:Qs} (hq:L.qs[i]?=some q) (hs:x.au[i]?=some s) (hr:zx s.ring):Qa prog 18 #[Qb q.b] [g] fun e gs =>
 e=WN (WT #[.agg (J4 s.ring).2.1.cells,WK WL (J4 s.ring).2.2])/\∃ g',Qf L { x with au:=x.au.set i { s with ring:=(J4 s.ring).1 } } g'/\gs=[g'] :=
 Ev hx hq hs fun g hg=>qux hg hr
theorem qo6 (hx:Qf L x g) {i:Nat} {q:gY} {s:Qs} (hq:L.qs[i]?=some q) (hs:x.au[i]?=some s) (hr:zx s.ring):Qa prog 35 #[Qb q.b] [g] fun e gs =>
 e=WN (WK WL (s.ring.tail - s.ring.head))/\∃ g',Qf L x g'/\gs=[g']:=by
 have:=Ev hx hq hs fun g hg=>qi6 hg hr
 rwa [qm hs] at this
theorem qws (hx:Qf L x g) {i:Nat} {q:gY} {s:Qs} (hq:L.qs[i]?=some q) (hs:x.au[i]?=some s) (hr:zx s.ring):Qa prog 291 #[Qb q.b] [g] fun e gs =>
 e=WN (.bool s.ring.ready)/\∃ g',Qf L x g'/\gs=[g']:=by
 have:=Ev hx hq hs fun g hg=>qnt hg hr
 rwa [qm hs] at this
theorem qkx (hx:Qf L x g) (i:Int):Qe prog 17 #[Qb L.fb,WK WL i] [g] (uh (L.qs.map gY.b) i):=by
 obtain ⟨tr,gF,gS,gR,gH,gT,h1,h2,h3,h4,h5,h6,rfl⟩:=hx;intro w hw;have T:=(TG.refl hw).m [gF,gS,gR,gH,gT];exact (Rc h1 h3 i).use T [0,2] rfl rfl
end
theorem Pq {L:Lay} {x:Qi} {g:List ak} (hx:Qf L x g) {i:Nat} (hi:i<x.au.length):∃ q,L.qs[i]?=some q/\uh (L.qs.map gY.b) i=Qb q.b:=by
 obtain ⟨tr,gF,gS,gR,gH,gT,h1,h2,h3,h4,h5,h6,rfl⟩:=hx;have hl:i<L.qs.length:=by omega
 refine ⟨L.qs[i],WW hl,?_⟩
 unfold uh;rw [if_pos (by simp;omega)];simp [hl]
section
variable {L:Lay} {x:Qi} {g:List ak}
theorem q1d (hx:Qf L x g):Qa prog 61 #[Qb L.fb] [g] fun e gs=>e=WN (WK WL x.f.busy)/\∃ g',Qf L x g'/\gs=[g']:=by
 obtain ⟨tr,gF,gS,gR,gH,gT,h1,h2,h3,h4,h5,h6,rfl⟩:=hx;intro w hw;have T:=(TG.refl hw).m [gF,gS,gR,gH,gT];refine (Qa.use (qpe h1) T [0] rfl rfl).mono ?_
 rintro e w' ⟨gs,⟨he,g1,hn1,rfl⟩,T'⟩;exact ⟨_,⟨he,_,⟨tr,g1,gS,gR,gH,gT,hn1,h2,h3,h4,h5,h6,rfl⟩,rfl⟩,TG.sum (H:=[g1,gS,gR,gH,gT]) T'⟩
theorem q1i (hx:Qf L x g) (h:0<=x.f.busy/\x.f.busy<=1000000):Qa prog 288 #[Qb L.fb,.bool true] [g] fun e gs=>e=WN (WK WL 0)/\∃ g',Qf L { x with f:={ x.f with busy:=x.f.busy+1 } } g'/\gs=[g']:=by
 obtain ⟨tr,gF,gS,gR,gH,gT,h1,h2,h3,h4,h5,h6,rfl⟩:=hx;intro w hw;have T:=(TG.refl hw).m [gF,gS,gR,gH,gT];refine (Qa.use (qpl h1 h) T [0] rfl rfl).mono ?_
 rintro e w' ⟨gs,⟨he,g1,hn1,rfl⟩,T'⟩;exact ⟨_,⟨he,_,⟨tr,g1,gS,gR,gH,gT,hn1,h2,h3,h4,h5,h6,rfl⟩,rfl⟩,TG.sum (H:=[g1,gS,gR,gH,gT]) T'⟩
theorem q1e (hx:Qf L x g) (h:0<=x.f.busy/\x.f.busy<=1000000):Qa prog 288 #[Qb L.fb,.bool false] [g] fun e gs=>e=WN (WK WL (yx x.f.busy))/\∃ g',Qf L { x with f:={ x.f with busy:=Z2 x.f.busy } } g'/\gs=[g']:=by
 obtain ⟨tr,gF,gS,gR,gH,gT,h1,h2,h3,h4,h5,h6,rfl⟩:=hx;intro w hw;have T:=(TG.refl hw).m [gF,gS,gR,gH,gT];refine (Qa.use (qph h1 h) T [0] rfl rfl).mono ?_
 rintro e w' ⟨gs,⟨he,g1,hn1,rfl⟩,T'⟩;exact ⟨_,⟨he,_,⟨tr,g1,gS,gR,gH,gT,hn1,h2,h3,h4,h5,h6,rfl⟩,rfl⟩,TG.sum (H:=[g1,gS,gR,gH,gT]) T'⟩
theorem q1h (hx:Qf L x g) (h:0<=x.f.now/\x.f.now<9223372036854775807):Qa prog 235 #[Qb L.fb] [g] fun e gs=>e=WN (WT #[WK WM (x.f.now+1),WK WL 0])/\∃ g',Qf L { x with f:={ x.f with now:=x.f.now+1 } } g'/\gs=[g']:=by
 obtain ⟨tr,gF,gS,gR,gH,gT,h1,h2,h3,h4,h5,h6,rfl⟩:=hx;intro w hw;have T:=(TG.refl hw).m [gF,gS,gR,gH,gT];refine (Qa.use (qpk h1 h) T [0] rfl rfl).mono ?_
 rintro e w' ⟨gs,⟨he,g1,hn1,rfl⟩,T'⟩;exact ⟨_,⟨he,_,⟨tr,g1,gS,gR,gH,gT,hn1,h2,h3,h4,h5,h6,rfl⟩,rfl⟩,TG.sum (H:=[g1,gS,gR,gH,gT]) T'⟩
theorem Ye (hx:Qf L x g):Qe prog 31 #[Qb L.fb] [g] (Qb L.p.pb):=by
 obtain ⟨tr,gF,gS,gR,gH,gT,⟨C,rfl,hc⟩,h2,h3,h4,h5,h6,rfl⟩:=hx;refine GO fun w HT=>?_
 have c0:=((HT.m [[cl L.fb 138 C],gS,gR,gH,gT]).c 0 0 8).trans hc.pipe;clear hc h2 h3 h4 h5 h6;go_enter func31,ntmps31
 go_wp2
 go_ret
 exact ⟨rfl,0,rfl⟩
theorem Sy (hx:Qf L x g):Qe prog 164 #[Qb L.fb] [g] (Qb L.p.lb):=by
 obtain ⟨tr,gF,gS,gR,gH,gT,⟨C,rfl,hc⟩,h2,h3,h4,h5,h6,rfl⟩:=hx;refine GO fun w HT=>?_
 have c0:=((HT.m [[cl L.fb 138 C],gS,gR,gH,gT]).c 0 0 9).trans hc.log;clear hc h2 h3 h4 h5 h6;go_enter func164,ntmps164
 go_wp2
 go_ret
 exact ⟨rfl,0,rfl⟩
theorem RE (hx:Qf L x g):Qa prog 195 #[Qb L.fb] [g] fun e gs=>e=WN (.agg x.f.cfg.cells)/\gs=[g]:=by
 obtain ⟨tr,gF,gS,gR,gH,gT,⟨C,rfl,hc⟩,h2,h3,h4,h5,h6,rfl⟩:=hx;have hcf:=hc.cfg;refine GO fun w HT=>?_
 have HT1:=Vh (HT.out.m [[cl L.fb 138 C],gS,gR,gH,gT]);have k0:=(HT1.c 0 0 0).trans (hcf 0 (by decide));have k1:=(HT1.c 0 0 1).trans (hcf 1 (by decide));have k2:=(HT1.c 0 0 2).trans (hcf 2 (by decide));have k3:=(HT1.c 0 0 3).trans (hcf 3 (by decide));have k4:=(HT1.c 0 0 4).trans (hcf 4 (by decide));have k5:=(HT1.c 0 0 5).trans (hcf 5 (by decide));simp only [Cfg.cells,aC] at k0 k1 k2 k3 k4 k5;have hlt:=HT1.l 0 0;simp only [] at hlt;clear hcf hc h2 h3 h4 h5 h6 HT1;go_enter func195,ntmps195
 go_wp2
 exact WU (v:=.agg x.f.cfg.cells) (by simp [results,results195,go_sem,Cfg.cells]) rfl ⟨_,⟨rfl,rfl⟩,HT.aN _⟩
theorem qtb (hx:Qf L x g) (hc:x.f.cfg.cap=x.aa.recs.length) (hs:Xc x.aa) (i:Int):Qa prog 266 #[Qb L.fb,WK WL i] [g] fun e gs=>e=WN (WT #[WK WM (qR x.aa i).1,WK WL (qR x.aa i).2])/\∃ g',Qf L x g'/\gs=[g']:=by
 obtain ⟨tr,gF,gS,gR,gH,gT,h1,h2,h3,h4,h5,h6,rfl⟩:=hx;intro w hw;have T:=(TG.refl hw).m [gF,gS,gR,gH,gT]
 refine (Qa.use (qk3 h1 h2 hc hs.n1 (fun r hr=>⟨(hs.recs r hr).g0,by
  have h:=(hs.recs r hr).g1;unfold X7 at h;split at h
  ·next ho =>
   unfold okW at ho;simp only [Bool.and_eq_true,decide_eq_true_eq] at ho;omega
  ·omega⟩) i) T [0,1] rfl rfl).mono ?_
 rintro e w' ⟨gs,⟨he,g1,hn1,rfl⟩,T'⟩;exact ⟨_,⟨he,_,⟨tr,gF,g1,gR,gH,gT,h1,hn1,h3,h4,h5,h6,rfl⟩,rfl⟩,TG.sum (H:=[gF,g1,gR,gH,gT]) T'⟩
end
theorem TG.tX {h H:GH} {w w':World} (T:TG h w H w') (i:Nat) {p:ak} (hm:p∈H.getD i []):w'.heap[p.1]?=some p.2:=by
 obtain ⟨j,hj⟩:=List.mem_iff_getElem?.1 hm;exact T.obj i j hj
theorem TG.aj {h H:GH} {w w':World} (T:TG h w H w') (i:Nat) {b:Nat} {t:TypeId} {C:Array Value} (hm:cl b t C∈H.getD i []) (o:Nat):w'.cell? ⟨b,o,none⟩=C[o]?:=Q5 (T.tX i hm) o
theorem TG.bg {h H:GH} {w w':World} (T:TG h w H w') (i:Nat) {p:ak} (hm:p∈H.getD i []):p.1<w'.heap.size:=(Array.getElem?_eq_some_iff.1 (T.tX i hm)).1
structure Yv where
 th:Int
 no:Int
 err:Int
 ok:Bool
 fB:Bool
 left:List Int
 aA:Int
inductive MS where
 | shuts | bQ | az (i:Int) | waits | bJ (i:Int) | aB (i:Int) | cK
inductive AS where
 | aR | dE | release (i:Int) | drop
inductive YS where
 | inside | idle
abbrev SS:Type:=St MS AS YS
structure ZS where
 k:Yv
 x:Qi
 p:Qz
def pM (k:Yv) (E:EvS):EvS:={ E with thread:=k.th,call:=k.no,what:=6 }
def ZS.note (E:EvS) (z:ZS):ZS:={ z with x:={ z.x with tr:=z.x.tr++[pM z.k E] } }
def uf (i:Int):SS:=.at none (.bJ i)
def Zv (i:Int) (z:ZS):SS:=if z.x.f.cfg.cap<=i then .thn (.ai .dE) .waits else .thn (uf i) (.az i)
def Yb (i:Int) (z:ZS):ZS:={ z with k:={ z.k with aA:=z.x.aa.word i } }
def Xu:MS->ZS->SS × ZS
 | .shuts,z=>if z.x.f.closed=true then (.ai .aR,{ (z.note { bO with kind:=9,err:=3 }) with k:={ z.k with err:=3,ok:=false,fB:=false } })
    else (.at (some .inside) .bQ,({ z with x:={ z.x with f:={ z.x.f with closed:=true } } }:ZS).note { bO with kind:=10 })
 | .bQ,z=>(Zv 0 z,z)
 | .az i,z=>(Zv (i+1) z,z)
 | .waits,z=>(.at (some .idle) .cK,z)
 | .bJ i,z=>if bA (z.x.aa.word i)=2\/bA (z.x.aa.word i)=3 then (.at none (.aB i),Yb i z) else (.nil,Yb i z)
 | .aB i,z =>
   let r:=z.x.aa.try i z.k.aA 6
   if r.2.2≠0 then (uf i,{ z with x:={ z.x with aa:=r.1 } })
   else (.aP (.release i) .drop,({ z with x:={ z.x with aa:=r.1 },k:={ z.k with left:=z.k.left++[(qR r.1 i).1] } }:ZS).note { bO with kind:=12,id:=(qR r.1 i).1,gen:=X7 r.2.1 })
 | .cK,z=>(.ai .aR,{ (z.note { bO with kind:=13 }) with k:={ z.k with err:=0,ok:=true,fB:=true } })
def Ya:AS->ZS->ZS
 | .aR,z=>z.note { bO with kind:=2,err:=z.k.err }
 | .dE,z=>{ z with p:={ z.p with shut:=true } }
 | .release i,z=>{ z with x:={ z.x with aa:=(z.x.aa.try i (z.x.aa.word i) 10).1 } }
 | .drop,z=>{ z with x:={ z.x with aa:=z.x.aa.drop.1 } }
def Bf:YS->ZS->Bool
 | .inside,z=>z.x.f.inside == 0
 | .idle,z=>z.p.shut && decide (z.p.ch=[]) && (z.x.f.busy == 0)
structure qc6 (z:ZS):Prop where
 core:qB z.x
 cap:z.x.f.cfg.cap=z.x.aa.recs.length
 busy:0<=z.x.f.busy/\z.x.f.busy<=1000000
 aA:0<=z.k.aA/\z.k.aA<18446744073709551616/\okW z.k.aA=true
 left:z.k.left.length<=1000000
def MS.fit:MS->ZS->Prop
 | .az i,_=>0<=i/\i<=64
 | .bJ i,_=>0<=i/\i<=64
 | .aB i,z=>(0<=i/\i<=64)/\z.k.fB=false
 | _,_=>True
def yg (f:MS) (z:ZS):Prop:=qc6 z/\f.fit z
def Cf (_:AS) (z:ZS):Prop:=qc6 z
def Z9 (fb:Nat) (pv vl al:Value) (k:Yv):Array Value:=#[Qb fb,WK WL k.th,WK WL k.no,WK WL k.err,.bool k.ok,WK WM 0,WK WM 0,al,pv,vl,WK WM k.aA]
abbrev Xp (kb fb:Nat) (pv vl al:Value) (k:Yv):List ak:=[cl kb 194 (Z9 fb pv vl al k)]
def kv (l:List Int):List Value:=l.map fun n=>WK WM n
def Pz (k:Yv) (vl al:Value) (g:List ak):Prop:=Q1 36 1 vl k.left.length (kv k.left) g/\(if k.fB then al=vl else al=.slice none 0 0)
def lL (L:Lay) (kb:Nat) (pv:Value) (e:List ak) (z:ZS) (gK gF:List ak):Prop :=
 ∃ vl al gl gC gP,Pz z.k vl al gl/\Qf L z.x gC/\Z3 L.p.pb z.p gP/\gK=Xp kb L.fb pv vl al z.k++(gl++e)/\gF=gC++gP
def mU (kb:Nat) (e:List ak) (fn:XB) (v:Value):Prop:=∃ bk,v=WQ (WR fn) #[] #[Qb bk]/\cl bk 94 #[Qb kb]∈e
def qM (kb:Nat) (e:List ak) (fn:XB) (i:Int) (v:Value):Prop:=∃ bk bi,v=WQ (WR fn) #[] #[Qb bk,Qb bi]/\cl bk 94 #[Qb kb]∈e/\cl bi 3 #[WK WL i]∈e
def CR (kb:Nat) (e:List ak) (f:MS) (v:Value) (g:List ak):Prop:=g=[]/\match f with
 | .shuts=>v=WQ (WR 110) #[Qb kb] #[]
 | .bQ=>mU kb e 160 v
 | .az i=>qM kb e 201 i v
 | .waits=>v=WQ (WR 199) #[Qb kb] #[]
 | .bJ i=>qM kb e 241 i v
 | .aB i=>qM kb e 242 i v
 | .cK=>mU kb e 240 v
def CP (kb:Nat) (e:List ak) (f:AS) (v:Value) (g:List ak):Prop:=g=[]/\match f with
 | .aR=>mU kb e 194 v
 | .dE=>mU kb e 197 v
 | .release i=>qM kb e 267 i v
 | .drop=>mU kb e 268 v
def VYS (kb:Nat) (e:List ak) (f:YS) (v:Value) (g:List ak):Prop:=g=[]/\match f with
 | .inside=>mU kb e 159 v
 | .idle=>mU kb e 238 v
def fH (e e':List ak):Prop:=∀ b∈e,b∈e'
def wX (L:Lay) (kb:Nat) (pv:Value):kT :=
 ⟨MS,AS,YS,ZS,List ak,fH,lL L kb pv,CR kb,CP kb,VYS kb,Xu,Ya,Bf,yg,Cf,fun _ z=>qc6 z⟩
theorem mU.le {kb:Nat} {e e':List ak} {fn:XB} {v:Value} (h:mU kb e fn v) (hl:fH e e'):mU kb e' fn v:=by
 obtain ⟨bk,h1,h2⟩:=h;exact ⟨bk,h1,hl _ h2⟩
theorem qM.le {kb:Nat} {e e':List ak} {fn:XB} {i:Int} {v:Value} (h:qM kb e fn i v) (hl:fH e e'):qM kb e' fn i v:=by
 obtain ⟨bk,bi,h1,h2,h3⟩:=h;exact ⟨bk,bi,h1,hl _ h2,hl _ h3⟩
theorem mU.is {kb:Nat} {e:List ak} {fn:XB} {v:Value} (h:mU kb e fn v):∃ fn first aK,v=WQ (WR fn) first aK:=by
 obtain ⟨bk,h1,h2⟩:=h;exact ⟨_,_,_,h1⟩
theorem qM.is {kb:Nat} {e:List ak} {fn:XB} {i:Int} {v:Value} (h:qM kb e fn i v):∃ fn first aK,v=WQ (WR fn) first aK:=by
 obtain ⟨bk,bi,h1,h2,h3⟩:=h;exact ⟨_,_,_,h1⟩
theorem CR.le {kb:Nat} {e e':List ak} {f:MS} {v:Value} {g:List ak} (hl:fH e e') (h:CR kb e f v g):CR kb e' f v g:=by
 refine ⟨h.1,?_⟩
 have:=h.2;cases f <;> first | exact this | exact mU.le this hl | exact qM.le this hl
theorem CP.le {kb:Nat} {e e':List ak} {f:AS} {v:Value} {g:List ak} (hl:fH e e') (h:CP kb e f v g):CP kb e' f v g:=by
 refine ⟨h.1,?_⟩
 have:=h.2;cases f <;> first | exact mU.le this hl | exact qM.le this hl
theorem Jg (L:Lay) (kb:Nat) (pv:Value) (e:List ak):((wX L kb pv).on e).iA where
 vm {f v g} h:=by
  have:=h.2;cases f <;> first | exact ⟨_,_,_,this⟩ | exact mU.is this | exact qM.is this
 va {f v g} h:=by
  have:=h.2;cases f <;> first | exact mU.is this | exact qM.is this
 vy {f v g} h:=by
  have:=h.2;cases f <;> exact mU.is this
theorem fH.refl (e:List ak):fH e e:=fun _ h=>h
theorem fH.app (e l:List ak):fH e (e++l):=fun _ h=>List.mem_append_left _ h
def nG (L:Lay) (kb:Nat) (pv:Value) (e:List ak) (s:SS) (z:ZS) (en:XD) (gs:GH):Prop :=
 ∃ e',fH e e'/\∃ m d g' aY aI,en=WN (.agg #[m,d])/\(wX L kb pv).SV e' s m d g'/\lL L kb pv e' z aY aI/\gs=[g',aY,aI]
def xE (L:Lay) (kb:Nat) (pv:Value) (e:List ak) (z:ZS) (en:XD) (gs:GH):Prop :=
 ∃ e',fH e e'/\∃ aY aI,en=WN (WT #[])/\lL L kb pv e' z aY aI/\gs=[[],aY,aI]
def FK (L:Lay) (kb:Nat) (pv:Value) (s:SS) (en:XD) (g' l:List ak):Prop :=
 ∃ m d,en=WN (.agg #[m,d])/\∀ e,fH l e->(wX L kb pv).SV e s m d g'
theorem EL (f1 f2:XB) (a1 a2 c1 c2:Array Value):Qa prog 158 #[WQ (WR f1) a1 c1,WQ (WR f2) a2 c2] [] fun en gs=>en=WN (.agg #[WQ (WR f1) a1 c1,WQ (WR f2) a2 c2])/\gs=[]:=by
 refine GO fun w HT=>?_
 go_enter func158,ntmps158
 go_wp2
 exact WU (v:=.agg #[_,_]) (by simp [results,results158,go_sem]) rfl ⟨_,⟨rfl,rfl⟩,HT.aN _⟩
section
variable {L:Lay} {x:Qi} {g gK gF:List ak} {kb:Nat} {pv vl al:Value} {k:Yv}
theorem BF (hx:Qf L x g) (E:EvS) (hn:x.tr.length<=1000000):Qa prog 111 #[Qb kb,.agg E.cells] [Xp kb L.fb pv vl al k,g] fun e gs =>
 e=WN (WT #[])/\∃ g',Qf L { x with tr:=x.tr++[pM k E] } g'/\gs=[Xp kb L.fb pv vl al k,g']:=by
 refine GO fun w HT=>?_
 have HN:=Vh (Mv hx (pM k E) hn);have lt:=HT.l 0 0;simp only [] at lt;obtain ⟨k0,k1,k2⟩:=HT.c3 0 0 0 1 2;simp only [Z9,aC] at k0 k1 k2;clear hx hn;simp only [EvS.cells];go_enter func111,ntmps111
 go_wp2
 go_region
 go_wp2
 have HT:=Vh (HT.out.a 73 (pM k E).cells).drew;simp only [XF,XH] at HT;simp only [EvS.cells,pM] at HT;clear lt k1 k2 k0;generalize World.drew _=w1 at HT |-;have k0:=HT.c 0 0 0;simp only [Z9,aC] at k0;obtain ⟨b0,b1,b2,b3,b4,b5,b6,b7⟩:=HT.c8 2 0 0 1 2 3 4 5 6 7;obtain ⟨b8,b9⟩:=HT.c2 2 0 8 9;simp only [aT] at b0 b1 b2 b3 b4 b5 b6 b7 b8 b9;refine Mx 5 ?_
 simp only [dx]
 repeat (go_big_quiet_step ((fail)))
 refine XA (QT HT fun nq HT=>?_)
 go_wp2_with fail
 refine Qa.run HN HT [1] ?_
 rintro e w1 gs ⟨rfl,g',hx',rfl⟩ HT;simp only [PU] at HT;have HX:=Vh hx';clear hx';go_wp2_with fail
 refine ⟨rfl,?_⟩
 go_wp2
 exact WY (WZ rfl _ _ _) rfl ⟨_,⟨rfl,g',HX,rfl⟩,HT.p [0,1]⟩
theorem PG (L:Lay) (kb:Nat) (pv:Value):Qa prog 157 #[Qb kb] [] fun en gs=>∃ g' l,FK L kb pv (.ai .aR) en g' l/\gs=[g',l]:=by
 refine GO fun w HT=>?_
 go_enter func157,ntmps157
 go_wp2_with fail
 refine Qa.run (aZ.eO (b:=w.heap.size+1+1) (o:=0) (D:=#[WQ (WR 194) #[] #[Qb w.heap.size]]) rfl 1 (.inl rfl)) (((HT.a _ _).alloc (k:=w.heap.size+1) (by simp) _ _).alloc (k:=w.heap.size+1+1) (by simp) _ _) [2] ?_
 rintro e w1 gs ⟨bf,bl,bi,rfl,rfl⟩ HT;simp only [PU] at HT;obtain ⟨e0,e1⟩:=HT.c2 1 0 0 1;obtain ⟨eX,eD⟩:=HT.f2 1 0 0 1;simp only [aT] at e0 e1;go_wp2
 exact WU (v:=.agg #[WO,_]) (by simp [results,results157,go_sem,e0,e1]) rfl ⟨_,⟨_,[cl w.heap.size 94 #[Qb kb]],⟨_,_,rfl,fun e he=>⟨rfl,bf,bl,bi,w.heap.size+1+1,0,#[WQ (WR 194) #[] #[Qb w.heap.size]],_,[],rfl,⟨rfl,w.heap.size,rfl,he _ (by simp)⟩,rfl,rfl⟩⟩,rfl⟩,(((HT.set 1 0 rfl 0 _).set 1 0 rfl 1 _).p [2,3,4,5,0]).sum⟩
theorem Vg (L:Lay) (kb:Nat) (pv:Value) (i:Int):Qa prog 200 #[Qb kb,WK WL i] [] fun en gs=>∃ g' l,FK L kb pv (uf i) en g' l/\gs=[g',l]:=by
 refine GO fun w HT=>?_
 go_enter func200,ntmps200
 go_wp2
 exact WU (v:=.agg #[WO,_]) (by simp [results,results200,go_sem]) rfl ⟨_,⟨[],[cl w.heap.size 94 #[Qb kb],cl (w.heap.size+1) 3 #[WK WL i]],⟨_,_,rfl,fun e he=>⟨rfl,rfl,w.heap.size,w.heap.size+1,rfl,he _ (by simp),he _ (by simp)⟩⟩,rfl⟩,(((HT.a _ _).alloc (k:=w.heap.size+1) (by simp) _ _).aN _).sum⟩
end
section
variable {L:Lay} {x:Qi} {p:Qz} {e gK gF:List ak} {kb:Nat} {pv:Value} {k:Yv}
theorem q9b (hz:lL L kb pv e ⟨k,x,p⟩ gK gF) (hp:yg .shuts ⟨k,x,p⟩):Qa prog 110 #[Qb kb] [gK,gF] (nG L kb pv e (Xu .shuts ⟨k,x,p⟩).1 (Xu .shuts ⟨k,x,p⟩).2):=by
 have dR:=Vh hp.1.core.tr;simp only at dR;cases hc:x.f.closed with
 | true =>
   have he:Xu .shuts ⟨k,x,p⟩=(.ai .aR,⟨{ k with err:=3,ok:=false,fB:=false },{ x with tr:=x.tr++[pM k { bO with kind:=9,err:=3 }] },p⟩):=by
    unfold Xu ZS.note;simp only [hc,if_true]
   rw [he];clear he hp;unfold nG;have hsame:({ x with f:={ x.f with closed:=true } }:Qi)=x:=by rw [<- hc]
   obtain ⟨vl,al,gl,gC,gP,hl,hx,aW,rfl,rfl⟩:=hz;refine GO fun w HT=>?_
   have HT:=Vh (HT.out.m [Xp kb L.fb pv vl al k,gl,e,gC,gP]);have HX:=Vh hx;have HL:=Vh hl;have bD:=Vh aW;clear hx hl aW;have hsh:=Ty HX;rw [hsame,hc] at hsh;have jV:=Vh hsh;clear hsh hsame hc;have k0:=HT.c 0 0 0;simp only [Z9,aC] at k0;have lt:=HT.l 0 0;simp only [] at lt;go_enter func110,ntmps110
   go_wp2_with fail
   refine Qa.run jV ((HT.a _ _).alloc (k:=w.heap.size+1) (by simp) _ _) [3] ?_
   rintro e w1 gs ⟨rfl,g1,hx1,rfl⟩ HT;simp only [PU] at HT;have HX:=Vh hx1;have b0:=HT.c 5 0 0;clear hx1;simp only [bR] at b0;go_wp2_with fail
   refine Qa.run (BF HX { bO with kind:=9,err:=3 } dR) (HT) [0,3] ?_
   rintro e w1 gs ⟨rfl,g3,hx3,rfl⟩ HT;simp only [PU] at HT;have HX:=Vh hx3;have b0:=HT.c 5 0 0;clear hx3 k0;obtain ⟨k3,k4,k5,k6,k7⟩:=HT.c5 0 0 3 4 5 6 7;obtain ⟨AO,Dh,Di,Dj,wI⟩:=HT.f5 0 0 3 4 5 6 7;simp only [Z9,aC] at k3 k4 k5 k6 k7;simp only [bR] at b0;go_wp2_with fail
   refine Qa.run (PG L kb pv) (((((((HT.set 0 0 rfl 3 _).set 0 0 rfl 4 _).set 0 0 rfl 5 _).set 0 0 rfl 6 _).set 0 0 rfl 7 _).eq (H':=[Xp kb L.fb pv vl (.slice none 0 0) { k with err:=3,ok:=false,fB:=false },gl,e,g3,gP,[cl w.heap.size 94 #[Qb kb]],[cl (w.heap.size+1) 153 #[WO,WO]]]) rfl)) [] ?_
   rintro e w1 gs ⟨g2,l2,⟨m2,d2,rfl,hs2⟩,rfl⟩ HT;simp only [PU] at HT;obtain ⟨r0,r1⟩:=HT.c2 6 0 0 1;obtain ⟨df,dm⟩:=HT.f2 6 0 0 1;simp only [aT] at r0 r1;have hv2:=(Jg L kb pv l2).vals (hs2 l2 (fH.refl _));obtain ⟨st1,st2⟩:=aZ.aG (P:=prog) hv2.1 hv2.2 r0 df r1 dm;have HS:=Vh hs2;clear hv2 hs2;go_wp2
   exact WU (v:=.agg #[_,_]) (by simp [results,results110,go_sem,r0,r1]) rfl ⟨_,⟨e++l2,fH.app _ _,m2,d2,g2,_,_,rfl,HS _ (fun b hb=>List.mem_append_right _ hb),⟨vl,(.slice none 0 0),gl,_,gP,⟨HL.1,rfl⟩,HX,bD,rfl,rfl⟩,rfl⟩,(((HT.set 6 0 rfl 0 _).set 6 0 rfl 1 _).p [7,0,1,2,8,3,4]).sum⟩
 | false =>
   have he:Xu .shuts ⟨k,x,p⟩=(.at (some .inside) .bQ,⟨k,{ x with f:={ x.f with closed:=true },tr:=x.tr++[pM k { bO with kind:=10 }] },p⟩):=by
    unfold Xu ZS.note;simp [hc]
   rw [he];clear he hp;unfold nG;obtain ⟨vl,al,gl,gC,gP,hl,hx,aW,rfl,rfl⟩:=hz;refine GO fun w HT=>?_
   have HT:=Vh (HT.out.m [Xp kb L.fb pv vl al k,gl,e,gC,gP]);have HX:=Vh hx;have HL:=Vh hl;have bD:=Vh aW;clear hx hl aW;have hsh:=Ty HX;rw [hc] at hsh;have jV:=Vh hsh;clear hsh hc;have k0:=HT.c 0 0 0;simp only [Z9,aC] at k0;have lt:=HT.l 0 0;simp only [] at lt;go_enter func110,ntmps110
   go_wp2_with fail
   refine Qa.run jV ((HT.a _ _).alloc (k:=w.heap.size+1) (by simp) _ _) [3] ?_
   rintro e w1 gs ⟨rfl,g1,hx1,rfl⟩ HT;simp only [PU] at HT;have HX:=Vh hx1;have b0:=HT.c 5 0 0;clear hx1;simp only [bR] at b0;go_wp2_with fail
   refine Qa.run (BF HX { bO with kind:=10 } dR) (HT) [0,3] ?_
   rintro e w1 gs ⟨rfl,g3,hx3,rfl⟩ HT;simp only [PU] at HT;have HX:=Vh hx3;have b0:=HT.c 5 0 0;clear hx3 k0;simp only [bR] at b0;go_wp2_with fail
   refine Qa.run (EL _ _ _ _ _ _) (HT) [] ?_
   rintro e w1 gs ⟨rfl,rfl⟩ HT;simp only [PU] at HT;obtain ⟨r0,r1⟩:=HT.c2 6 0 0 1;obtain ⟨df,dm⟩:=HT.f2 6 0 0 1;simp only [aT] at r0 r1;go_wp2
   exact WU (v:=.agg #[_,_]) (by simp [results,results110,go_sem,r0,r1]) rfl ⟨_,⟨e++[cl w.heap.size 94 #[Qb kb]],fH.app _ _,_,_,[],_,_,rfl,⟨[],[],⟨rfl,w.heap.size,rfl,by simp⟩,⟨rfl,w.heap.size,rfl,by simp⟩,rfl⟩,⟨vl,al,gl,_,gP,HL,HX,bD,rfl,rfl⟩,rfl⟩,(((HT.set 6 0 rfl 0 _).set 6 0 rfl 1 _).p [0,1,2,5,3,4]).sum⟩
end
end
end Go.Proofs.YtcneeepdclgdcaaGreat
