import Derived.Test.YtcneeepdclgdcaaGreatSE31
import Derived.Deep.RegionHeld3
import Derived.Test.YtcneeepdclgdcaaGreatSE24
import Derived.Test.YtcneeepdclgdcaaGreatSE25
set_option maxRecDepth 100000
set_option maxHeartbeats 4000000
namespace Go.Proofs.YtcneeepdclgdcaaGreat
open Go.Value renaming int->U1,nilFunc->U3,func->U7,pointer->UB,tuple->UC
open Go.IntKind renaming u64->U2,i64->U5
open _root_.List renaming mem_append_right->U4,mem_cons_self->UA,replicate->UE,mem_append_left->UJ,getD_eq_getElem?_getD->UL,mem_cons_of_mem->UN,mem_of_getElem?->UO,perm_iff_count->UQ,setIfInBounds_toArray->US,length_map->UU,length_replicate->UX,set_cons_zero->UY,set_cons_succ->UZ,mem_singleton->V6,count_append->V7,mem_append->V8
open Go.Ending renaming returned->U6
open Go.Fn renaming func->U8
open Go renaming bodyPost_ret->U9,wpQuiet_nil->UD,bodyPost_end->UH,results_none->UI
open _root_.Nat renaming ne_of_lt->UF,ne_of_gt->UG
open Go.World renaming setCell->UK,alloc->UM,drewN->UR,drew->UT
open _root_.Subtype renaming val->UW
open _root_.And renaming intro->V9
set_option linter.all false
open Go.Proofs.Tryz
section
open Go.RowKit Go.Shelf
theorem qvz (d i:Nat) (k:Xi) (x:Qi) (ws:List Qg) (p:Q2) :
 ∃ st k',Qo d i ⟨k,x,ws,p⟩=(st,⟨k',x,ws,p⟩)/\k'.s=k.s/\k'.nd=k.nd/\k'.due=k.due:=by
 unfold Qo;split
 ·exact ⟨_,_,rfl,rfl,rfl,rfl⟩
 ·exact ⟨_,_,rfl,rfl,rfl,rfl⟩
theorem wH.of {ds:List Nat} {k k':Xi} {g:List ak} (h:wH ds k g) (h1:k'.nd=k.nd) (h2:k'.due=k.due):wH ds k' g:=by
 unfold wH at *;rw [h1,h2];exact h
theorem Q7.of {L:Lay} {k k':Xi} (h:k'.s=k.s):Q7 L k'=Q7 L k:=by
 unfold Q7;rw [h]
section
variable {L:Lay} {x:Qi} {ws:List Qg} {p:Q2} {e:ET} {g gC gK gF:List ak} {kb:Nat} {pv sv:Value} {k:Xi}
theorem q5g (d i:Nat) (hz:ze L kb pv e ⟨k,x,ws,p⟩ gK gF) (hp:jZ (.aF d i) ⟨k,x,ws,p⟩) (bk bp bi bd:Nat) (hb:gG kb bk e) (hbd:e.2[d]?=some bd)
 (hbp:cl bp 358 #[Qb bd]∈e.1) (hbi:cl bi 3 #[U1 U5 i]∈e.1) :
 Qa prog 299 #[Qb bk,Qb bp,Qb bi] [gK,gF] (dI L kb pv e (runT (.aF d i) ⟨k,x,ws,p⟩).1 (runT (.aF d i) ⟨k,x,ws,p⟩).2):=by
 have hc:k.nd=d+1:=hp.2.2.1;have hi:i<=1000000:=hp.2.2.2;clear hp;obtain ⟨gd,gC,gW,gP,hd,hx,hw,aU,rfl,rfl⟩:=hz;obtain ⟨v,gr,hr,rfl⟩:=Lv hd hc hbd;have hfi:=NS (L:=L) (x:=x) (ws:=ws) (p:=p) (kb:=kb) (pv:=pv) (sv:=Q7 L k) (k:=k) d bd (i+1) v gr hr (by omega);unfold E4 at hfi;rw [show runT (.aF d i) ⟨k,x,ws,p⟩=Qo d (i+1) ⟨k,x,ws,p⟩ from rfl];obtain ⟨st,k',he,hks,Cz,Cy⟩:=qvz d (i+1) k x ws p;rw [he] at hfi |-;dsimp only at hfi |-
 rw [show (((i+1:Nat):Int))=(i:Int)+1 by omega,<- Q7.of (L:=L) hks] at hfi;have hd':=hd.of Cz Cy;unfold dI;rw [<- Q7.of (L:=L) hks];refine GO fun w HT=>?_
 have rD:=Vh hfi;have HT:=Vh (HT.out.sum (H':=[Qm kb L.fb pv (Q7 L k') k,[cl bd 354 #[v]],gr,e.1,gC,gW,gP]));have HX:=Vh hx;have HD:=Vh hd';have HW:=Vh hw;have bF:=Vh aU;have mV:=Vh hbd;have b0:=HT.ah 3 hb 0;have p0:=HT.ah 3 hbp 0;have i0:=HT.ah 3 hbi 0;have bM:=HT.bu 3 hb;have Nz:=HT.bu 3 hbp;have nT:=HT.bu 3 hbi;simp only [bP] at b0 bM p0 Nz i0 nT;clear hx hd hw aU hfi hr hc hb hbp hbi hbd hd' he hks Cz Cy;go_enter func299,ntmps299
 go_wp2_with fail
 refine Qa.run rD (HT.a _ _) [0,1,2] ?_
 rintro e w1 gs ⟨g2,l2,m2,d2,rfl,hs2,rfl⟩ HT;simp only [PU] at HT;clear b0 bM p0 Nz i0 nT;have HS:=Vh (hs2 (e.1++l2,e.2) (fun b hb=>U4 _ hb) mV);have HT:=Vh (HT.out.bW (H':=[Qm kb L.fb pv (Q7 L k') k',[cl bd 354 #[v]]++gr,e.1,gC,gW,gP,[cl w.heap.size 153 #[U3,U3]],l2,g2]));clear hs2;obtain ⟨r0,r1⟩:=HT.c2 6 0 0 1;obtain ⟨cr,df⟩:=HT.f2 6 0 0 1;simp only [aN] at r0 r1;have hv2:=(Q9 L kb pv _).vals HS;obtain ⟨st1,st2⟩:=aV.aD (P:=prog) hv2.1 hv2.2 r0 cr r1 df;clear hv2;go_wp2
 exact U9 (v:=.agg #[_,_]) (by simp [results,results299,go_sem,r0,r1]) rfl ⟨_,⟨(e.1++l2,e.2),dF.app e l2,_,_,g2,_,_,rfl,HS,⟨_,gC,gW,gP,HD,HX,HW,bF,rfl,rfl⟩,rfl⟩,(((HT.set 6 0 rfl 0 _).set 6 0 rfl 1 _).p [8,0,1,2,7,3,4,5]).bW⟩
theorem q43 (next:Int) (hz:ze L kb pv e ⟨k,x,ws,p⟩ gK gF) (hp:jZ (.aY next) ⟨k,x,ws,p⟩) :
 Qa prog 341 #[Qb kb,U1 U2 next] [gK,gF] (dI L kb pv e (runT (.aY next) ⟨k,x,ws,p⟩).1 (runT (.aY next) ⟨k,x,ws,p⟩).2):=by
 obtain ⟨ho,hh,hs0,hn0,hn1⟩:=hp;have HO:=Vh ho.core;have iy:=Vh (show 0<=k.aB/\k.aB<18446744073709551616 from ⟨ho.aB.1,ho.aB.2.1⟩);have oV:=Vh (show x.tr.length<=1000000 from ho.core.tr);have ED:=Vh (show 0<=k.t.slot from hs0);have HN:=Vh (V9 hn0 hn1);have hg0:0<=k.t.gen:=ho.t.gen.1;have hg1:k.t.gen<=4294967296:=ho.t.gen.2;cases hc:((x.aa.try k.t.slot k.aB 5).2.2 == 0) with
 | false =>
   rw [show runT (.aY next) ⟨k,x,ws,p⟩=(.at none .behind,⟨k,{ x with aa:=(x.aa.try k.t.slot k.aB 5).1 },ws,p⟩) by simp [runT,Qk,hc]];unfold dI;clear ho hh hs0 hn0 hn1 hg0 hg1;obtain ⟨gd,gC,gW,gP,hd,hx,hw,aU,rfl,rfl⟩:=hz;refine GO fun w HT=>?_
   have HT:=Vh (HT.out.m [Qm kb L.fb pv (Q7 L k) k,gd,e.1,gC,gW,gP]);have HX:=Vh hx;have HD:=Vh hd;have HW:=Vh hw;have bF:=Vh aU;clear hx hd hw aU;have hlk:=uD (kb:=kb) (pv:=pv) (sv:=Q7 L k) HX HO iy 5;rw [hc] at hlk;have fT:=Vh hlk;clear hlk hc;go_enter func341,ntmps341
   go_wp2_with fail
   refine Qa.run fT (HT.a _ _) [0,3] ?_
   rintro e w1 gs ⟨rfl,g1,hx1,rfl⟩ HT;simp only [PU] at HT;have HX:=Vh hx1;clear hx1;go_wp2_with fail
   refine Qa.run (ni _ _ _) (HT) [] ?_
   rintro e w1 gs ⟨rfl,rfl⟩ HT;simp only [PU] at HT;obtain ⟨r0,r1⟩:=HT.c2 6 0 0 1;obtain ⟨cr,df⟩:=HT.f2 6 0 0 1;simp only [aN] at r0 r1;go_wp2
   exact U9 (v:=.agg #[_,_]) (by simp [results,results341,go_sem,r0,r1]) rfl ⟨_,⟨e,dF.refl e,_,_,[],_,_,rfl,⟨rfl,rfl,rfl⟩,⟨gd,_,_,gP,HD,HX,HW,bF,(rfl:Qm kb L.fb pv (Q7 L k) k++(gd++e.1)=_),rfl⟩,rfl⟩,(((HT.set 6 0 rfl 0 _).set 6 0 rfl 1 _).p [0,1,2,3,4,5]).bW⟩
 | true =>
   obtain ⟨gd,gC,gW,gP,hd,hx,hw,aU,Cw,Cv⟩:=hz;obtain ⟨i,q,s,S,hki,hq,hs,hS,hsv,hsh,hss,jC,hwo,hrb,ht0,ht1⟩:=wm hx hw ho hh
   have hz2:runT (.aY next) ⟨k,x,ws,p⟩=(.nil,⟨{ k with t:={ k.t with gen:=k.t.gen+1,dl:=next } },{ x with aa:=(x.aa.try k.t.slot k.aB 5).1,tr:=x.tr++[ll k { bL with kind:=4,id:=k.t.id,gen:=k.t.gen+1,dl:=jE S { k.t with gen:=k.t.gen+1,dl:=next } }] },ws.set i (S.place (mO S { k.t with gen:=k.t.gen+1,dl:=next })),p⟩):=by
    have h1:(Qk 5 ⟨k,x,ws,p⟩).2=true:=hc;simp only [runT,h1,if_pos,jy,Qk,ZT.note];rw [show ZT.sh ⟨{ k with t:={ k.t with gen:=k.t.gen+1,dl:=next } },{ x with aa:=(x.aa.try k.t.slot k.aB 5).1 },ws,p⟩=i from hsh,show ZT.wh ⟨{ k with t:={ k.t with gen:=k.t.gen+1,dl:=next } },{ x with aa:=(x.aa.try k.t.slot k.aB 5).1 },ws,p⟩=S from jC];exact if_pos h1
   rw [hz2];have hz:ze L kb pv e ⟨k,x,ws,p⟩ gK gF:=⟨gd,gC,gW,gP,hd,hx,hw,aU,Cw,Cv⟩;clear hx hw hd aU Cw Cv;have har:∀ gC gW,Qf L { x with aa:=(x.aa.try k.t.slot k.aB 5).1 } gC->Jr L ws gW->_:=fun gC gW hx hw=>Tn (kb:=kb) (pv:=pv) (k:={ k with t:={ k.t with gen:=k.t.gen+1,dl:=next } }) hx hw hq hs hS hwo ED HN oV
   have gI:=Vh hsv;clear ho hh hs0 hz2 hki hq hs hS hsv hsh hss jC hwo hrb ht0 ht1;unfold dI;obtain ⟨gd,gC,gW,gP,hd,hx,hw,aU,rfl,rfl⟩:=hz;refine GO fun w HT=>?_
   have HT:=Vh (HT.out.m [Qm kb L.fb pv (Q7 L k) k,gd,e.1,gC,gW,gP]);have HX:=Vh hx;have HD:=Vh hd;have HW:=Vh hw;have bF:=Vh aU;clear hx hd hw aU;have Gr:=Vh har;have hlk:=uD (kb:=kb) (pv:=pv) (sv:=Q7 L k) HX HO iy 5;rw [hc] at hlk;rw [gI.out] at hlk;have iV:=HT.out;rw [gI.out] at iV;have HT:=Vh iV;have fT:=Vh hlk;clear hlk hc har iV;generalize (x.aa.try k.t.slot k.aB 5).1=sl at *;generalize S.place (mO S { k.t with gen:=k.t.gen+1,dl:=next })=S1 at *;generalize jE S { k.t with gen:=k.t.gen+1,dl:=next }=dl1 at *;go_enter func341,ntmps341
   go_wp2_with fail
   refine Qa.run fT (HT.a _ _) [0,3] ?_
   rintro e w1 gs ⟨rfl,g1,hx1,rfl⟩ HT;simp only [PU] at HT;have HX:=Vh hx1;clear hx1;obtain ⟨k13,k14⟩:=HT.c2 0 0 13 14;obtain ⟨nJ,nK⟩:=HT.f2 0 0 13 14;simp only [Xm,az] at k13 k14;go_wp2_with fail
   refine Qa.run (Gr _ _ HX HW) (((HT.set 0 0 rfl 13 (U1 U2 (k.t.gen+1))).set 0 0 rfl 14 (U1 U2 next)).eq (H':=[Qm kb L.fb pv (Qb q.b) { k with t:={ k.t with gen:=k.t.gen+1,dl:=next } },gd,e.1,g1,gW,gP,[cl w.heap.size 153 #[U3,U3]]]) rfl) [0,3,4] ?_
   rintro e w1 gs ⟨rfl,g2,l5,hx2,hw2,rfl⟩ HT;simp only [PU] at HT;have HX:=Vh hx2;have HW:=Vh hw2;clear hx2 hw2 k13 k14 nJ nK;obtain ⟨r0,r1⟩:=HT.c2 6 0 0 1;obtain ⟨cr,df⟩:=HT.f2 6 0 0 1;simp only [aN] at r0 r1;go_wp2
   have HF:=(((HT.set 6 0 rfl 0 U3).set 6 0 rfl 1 U3).p [0,1,2,3,4,5]);rw [<- gI.out] at HF;exact U9 (v:=.agg #[_,_]) (by simp [results,results341,go_sem,r0,r1]) rfl ⟨_,⟨e,dF.refl e,_,_,[],_,_,rfl,⟨rfl,rfl,rfl⟩,⟨gd,_,_,gP,HD,HX,HW,bF,(rfl:Qm kb L.fb pv (Q7 L k) { k with t:={ k.t with gen:=k.t.gen+1,dl:=next } }++(gd++e.1)=_),rfl⟩,rfl⟩,HF.bW⟩
theorem q5h (next:Int) (hz:ze L kb pv e ⟨k,x,ws,p⟩ gK gF) (hp:jZ (.aY next) ⟨k,x,ws,p⟩) (bk bn:Nat) (hb:gG kb bk e) (hbn:cl bn 36 #[U1 U2 next]∈e.1) :
 Qa prog 340 #[Qb bk,Qb bn] [gK,gF] (dI L kb pv e (runT (.aY next) ⟨k,x,ws,p⟩).1 (runT (.aY next) ⟨k,x,ws,p⟩).2):=by
 have hre:=q43 next hz hp;generalize (runT (.aY next) ⟨k,x,ws,p⟩).1=st at *;generalize (runT (.aY next) ⟨k,x,ws,p⟩).2=z2 at *;obtain ⟨gd,gC,gW,gP,hd,hx,hw,aU,rfl,rfl⟩:=hz;clear hd hx hw aU hp;unfold dI at *;refine GO fun w HT=>?_
 have HRE:=Vh hre;have h1:∀ b,b∈e.1->b∈Qm kb L.fb pv (Q7 L k) k++(gd++e.1):=fun b hb=>U4 _ (U4 _ hb)
 have b0:=HT.ah 0 (h1 _ hb) 0;have n0:=HT.ah 0 (h1 _ hbn) 0;have bM:=HT.bu 0 (h1 _ hb);have Ny:=HT.bu 0 (h1 _ hbn);simp only [bP] at b0 bM n0 Ny;clear hre h1 hb hbn;go_enter func340,ntmps340
 go_wp2_with fail
 refine Qa.run HRE (HT.a _ _) [0,1] ?_
 rintro e w1 gs ⟨e2,hl2,m3,d3,g3,zY,zX,rfl,hs3,hz3,rfl⟩ HT;simp only [PU] at HT;have HL2:=Vh hl2;have HZ3:=Vh hz3;clear hl2 hz3 b0 n0 bM Ny;obtain ⟨r0,r1⟩:=HT.c2 2 0 0 1;obtain ⟨cr,df⟩:=HT.f2 2 0 0 1;simp only [aN] at r0 r1;have hv2:=(Q9 L kb pv e2).vals hs3;obtain ⟨st1,st2⟩:=aV.aD (P:=prog) hv2.1 hv2.2 r0 cr r1 df;have HS:=Vh hs3;clear hv2 hs3;go_wp2
 exact U9 (v:=.agg #[_,_]) (by simp [results,results340,go_sem,r0,r1]) rfl ⟨_,⟨e2,HL2,m3,d3,g3,zY,zX,rfl,HS,HZ3,rfl⟩,((HT.set 2 0 rfl 0 _).set 2 0 rfl 1 _).p [0,1,3]⟩
end
section
variable {L:Lay} {x:Qi} {ws:List Qg} {p:Q2} {e:ET} {g gC gK gF:List ak} {kb:Nat} {pv sv:Value} {k:Xi}
theorem qx3 (hz:ze L kb pv e ⟨k,x,ws,p⟩ gK gF) (hp:jZ .aQ ⟨k,x,ws,p⟩) :
 Qa prog 342 #[Qb kb] [gK,gF] (dI L kb pv e (runT .aQ ⟨k,x,ws,p⟩).1 (runT .aQ ⟨k,x,ws,p⟩).2):=by
 obtain ⟨ho,_⟩:=hp;have HO:=Vh ho.core;have iy:=Vh (show 0<=k.aB/\k.aB<18446744073709551616 from ⟨ho.aB.1,ho.aB.2.1⟩);have oV:=Vh (show x.tr.length<=1000000 from ho.core.tr);have uo:=Vh (show 0<=k.t.per/\k.t.per<18446744073709551616 from ho.t.per);clear ho;cases hc:((x.aa.try k.t.slot k.aB 9).2.2 == 0) with
 | false =>
   rw [show runT .aQ ⟨k,x,ws,p⟩=(.at none .behind,⟨k,{ x with aa:=(x.aa.try k.t.slot k.aB 9).1 },ws,p⟩) by simp [runT,Qk,hc]];unfold dI;obtain ⟨gd,gC,gW,gP,hd,hx,hw,aU,rfl,rfl⟩:=hz;refine GO fun w HT=>?_
   have HT:=Vh (HT.out.m [Qm kb L.fb pv (Q7 L k) k,gd,e.1,gC,gW,gP]);have HX:=Vh hx;have HD:=Vh hd;have HW:=Vh hw;have bF:=Vh aU;clear hx hd hw aU;have hlk:=uD (kb:=kb) (pv:=pv) (sv:=Q7 L k) HX HO iy 9;rw [hc] at hlk;have fT:=Vh hlk;clear hlk hc;generalize (x.aa.try k.t.slot k.aB 9).1=sl at *;go_enter func342,ntmps342
   go_wp2_with fail
   refine Qa.run fT ((HT.a 88 #[Qb kb]).alloc (k:=w.heap.size+1) (by simp) 153 #[U3,U3]) [0,3] ?_
   rintro e w1 gs ⟨rfl,g1,hx1,rfl⟩ HT;simp only [PU] at HT;have HX:=Vh hx1;clear hx1;have b0:=HT.c 6 0 0;simp only [aN] at b0;go_wp2_with fail
   refine Qa.run (ni _ _ _) (HT) [] ?_
   rintro e w1 gs ⟨rfl,rfl⟩ HT;simp only [PU] at HT;obtain ⟨r0,r1⟩:=HT.c2 7 0 0 1;obtain ⟨cr,df⟩:=HT.f2 7 0 0 1;simp only [aN] at r0 r1;go_wp2
   exact U9 (v:=.agg #[_,_]) (by simp [results,results342,go_sem,r0,r1]) rfl ⟨_,⟨e,dF.refl e,_,_,[],_,_,rfl,⟨rfl,rfl,rfl⟩,⟨gd,_,_,gP,HD,HX,HW,bF,(rfl:Qm kb L.fb pv (Q7 L k) k++(gd++e.1)=_),rfl⟩,rfl⟩,(((HT.set 7 0 rfl 0 _).set 7 0 rfl 1 _).p [0,1,2,3,4,5]).bW⟩
 | true =>
   have hz2:runT .aQ ⟨k,x,ws,p⟩=(.aO .rel .drop,if 0<k.t.per/\Xr k.aB=false then ⟨k,{ x with aa:=(x.aa.try k.t.slot k.aB 9).1,tr:=x.tr++[ll k { bL with kind:=14,id:=k.t.id,gen:=k.t.gen }] },ws,p⟩ else ⟨k,{ x with aa:=(x.aa.try k.t.slot k.aB 9).1 },ws,p⟩):=by
    have h1:(Qk 9 ⟨k,x,ws,p⟩).2=true:=hc;simp only [runT,Qk,ZT.note];exact if_pos h1
   rw [hz2];clear hz2;have uk:=Vh (Oo k.aB iy.1 iy.2);have oh:=Vh (show ∀ g,Qf L { x with aa:=(x.aa.try k.t.slot k.aB 9).1 } g->_ from fun g hg=>yS (kb:=kb) (pv:=pv) (sv:=Q7 L k) (k:=k) (gC:=g) hg { bL with kind:=14,id:=k.t.id,gen:=k.t.gen } oV);by_cases jB:0<k.t.per
   ·cases hl:Xr k.aB with
    | false =>
      rw [if_pos ⟨jB,rfl⟩];rw [hl] at uk;clear hl uo;unfold dI;obtain ⟨gd,gC,gW,gP,hd,hx,hw,aU,rfl,rfl⟩:=hz;refine GO fun w HT=>?_
      have HT:=Vh (HT.out.m [Qm kb L.fb pv (Q7 L k) k,gd,e.1,gC,gW,gP]);have HX:=Vh hx;have HD:=Vh hd;have HW:=Vh hw;have bF:=Vh aU;clear hx hd hw aU;have hlk:=uD (kb:=kb) (pv:=pv) (sv:=Q7 L k) HX HO iy 9;rw [hc] at hlk;have fT:=Vh hlk;clear hlk hc;generalize (x.aa.try k.t.slot k.aB 9).1=sl at *;go_enter func342,ntmps342
      go_wp2_with fail
      refine Qa.run fT ((HT.a 88 #[Qb kb]).alloc (k:=w.heap.size+1) (by simp) 153 #[U3,U3]) [0,3] ?_
      rintro e w1 gs ⟨rfl,g1,hx1,rfl⟩ HT;simp only [PU] at HT;have HX:=Vh hx1;clear hx1;have b0:=HT.c 6 0 0;simp only [aN] at b0;obtain ⟨k15,k16⟩:=HT.c2 0 0 15 16;simp only [Xm,az] at k15 k16;go_wp2_with fail
      refine Qd.run uk HT [] ?_
      rintro e wq rfl HT;clear b0 k15 k16 jB;have b0:=HT.c 6 0 0;simp only [aN] at b0;obtain ⟨k11,k13⟩:=HT.c2 0 0 11 13;simp only [Xm,az] at k11 k13;go_wp2_with fail
      refine Mx 12 ?_
      simp only [bY]
      repeat (go_big_quiet_step ((fail)))
      refine UD (QT HT fun nq HT=>?_)
      have hnt:=oh.out _ HX;simp only [EvS.cells,bL] at hnt;go_wp2_with fail
      refine Qa.run hnt HT [0,3] ?_
      rintro e w1 gs ⟨rfl,g2,hx2,rfl⟩ HT;simp only [PU] at HT;have HX:=Vh hx2;clear hx2 b0 k11 k13;go_wp2_with fail
      refine ⟨rfl,?_⟩
      obtain ⟨wz,rfl⟩:∃ wz,wz=w1:=⟨_,rfl⟩;go_wp2_with fail
      refine Qa.run (aV.dY (b:=wz.heap.size) (o:=0) (D:=#[U7 (U8 345) #[] #[Qb w.heap.size],U7 (U8 346) #[] #[Qb w.heap.size]]) rfl 2 (.inr rfl)) (HT.a _ _) [8] ?_
      rintro e w1 gs ⟨bf,bl,bi,rfl,rfl⟩ HT;simp only [PU] at HT;obtain ⟨r0,r1⟩:=HT.c2 7 0 0 1;obtain ⟨cr,df⟩:=HT.f2 7 0 0 1;simp only [aN] at r0 r1;go_wp2
      exact U9 (v:=.agg #[U3,_]) (by simp [results,results342,go_sem,r0,r1]) rfl ⟨_,⟨(e.1++[cl w.heap.size 88 #[Qb kb]],e.2),dF.app e _,_,_,_,_,_,rfl,⟨rfl,bf,bl,bi,wz.heap.size,U7 (U8 345) #[] #[Qb w.heap.size],U7 (U8 346) #[] #[Qb w.heap.size],[],[],rfl,⟨rfl,w.heap.size,rfl,U4 _ (UA ..)⟩,⟨rfl,w.heap.size,rfl,U4 _ (UA ..)⟩,rfl⟩,⟨gd,_,_,gP,HD,HX,HW,bF,(rfl:Qm kb L.fb pv (Q7 L k) k++(gd++(e.1++[cl w.heap.size 88 #[Qb kb]]))=_),rfl⟩,rfl⟩,(((HT.set 7 0 rfl 0 _).set 7 0 rfl 1 _).p [9,10,11,8,0,1,2,6,3,4,5]).bW⟩
    | true =>
      rw [if_neg (by simp)];rw [hl] at uk;clear hl uo oh;unfold dI;obtain ⟨gd,gC,gW,gP,hd,hx,hw,aU,rfl,rfl⟩:=hz;refine GO fun w HT=>?_
      have HT:=Vh (HT.out.m [Qm kb L.fb pv (Q7 L k) k,gd,e.1,gC,gW,gP]);have HX:=Vh hx;have HD:=Vh hd;have HW:=Vh hw;have bF:=Vh aU;clear hx hd hw aU;have hlk:=uD (kb:=kb) (pv:=pv) (sv:=Q7 L k) HX HO iy 9;rw [hc] at hlk;have fT:=Vh hlk;clear hlk hc;generalize (x.aa.try k.t.slot k.aB 9).1=sl at *;go_enter func342,ntmps342
      go_wp2_with fail
      refine Qa.run fT ((HT.a 88 #[Qb kb]).alloc (k:=w.heap.size+1) (by simp) 153 #[U3,U3]) [0,3] ?_
      rintro e w1 gs ⟨rfl,g1,hx1,rfl⟩ HT;simp only [PU] at HT;have HX:=Vh hx1;clear hx1;have b0:=HT.c 6 0 0;simp only [aN] at b0;obtain ⟨k15,k16⟩:=HT.c2 0 0 15 16;simp only [Xm,az] at k15 k16;go_wp2_with fail
      refine Qd.run uk HT [] ?_
      rintro e wq rfl HT;clear b0 k15 k16 jB;go_wp2_with fail
      refine Qa.run (aV.dY (b:=wq.heap.size) (o:=0) (D:=#[U7 (U8 345) #[] #[Qb w.heap.size],U7 (U8 346) #[] #[Qb w.heap.size]]) rfl 2 (.inr rfl)) (HT.a _ _) [8] ?_
      rintro e w1 gs ⟨bf,bl,bi,rfl,rfl⟩ HT;simp only [PU] at HT;obtain ⟨r0,r1⟩:=HT.c2 7 0 0 1;obtain ⟨cr,df⟩:=HT.f2 7 0 0 1;simp only [aN] at r0 r1;go_wp2
      exact U9 (v:=.agg #[U3,_]) (by simp [results,results342,go_sem,r0,r1]) rfl ⟨_,⟨(e.1++[cl w.heap.size 88 #[Qb kb]],e.2),dF.app e _,_,_,_,_,_,rfl,⟨rfl,bf,bl,bi,wq.heap.size,U7 (U8 345) #[] #[Qb w.heap.size],U7 (U8 346) #[] #[Qb w.heap.size],[],[],rfl,⟨rfl,w.heap.size,rfl,U4 _ (UA ..)⟩,⟨rfl,w.heap.size,rfl,U4 _ (UA ..)⟩,rfl⟩,⟨gd,_,_,gP,HD,HX,HW,bF,(rfl:Qm kb L.fb pv (Q7 L k) k++(gd++(e.1++[cl w.heap.size 88 #[Qb kb]]))=_),rfl⟩,rfl⟩,(((HT.set 7 0 rfl 0 _).set 7 0 rfl 1 _).p [9,10,11,8,0,1,2,6,3,4,5]).bW⟩
   ·rw [if_neg (fun h=>jB h.1)]
    have mG:k.t.per=0:=by have:=uo.1;omega
    clear uo oh uk;unfold dI;obtain ⟨gd,gC,gW,gP,hd,hx,hw,aU,rfl,rfl⟩:=hz;refine GO fun w HT=>?_
    have HT:=Vh (HT.out.m [Qm kb L.fb pv (Q7 L k) k,gd,e.1,gC,gW,gP]);have HX:=Vh hx;have HD:=Vh hd;have HW:=Vh hw;have bF:=Vh aU;clear hx hd hw aU;have hlk:=uD (kb:=kb) (pv:=pv) (sv:=Q7 L k) HX HO iy 9;rw [hc] at hlk;have fT:=Vh hlk;clear hlk hc;generalize (x.aa.try k.t.slot k.aB 9).1=sl at *;go_enter func342,ntmps342
    go_wp2_with fail
    refine Qa.run fT ((HT.a 88 #[Qb kb]).alloc (k:=w.heap.size+1) (by simp) 153 #[U3,U3]) [0,3] ?_
    rintro e w1 gs ⟨rfl,g1,hx1,rfl⟩ HT;simp only [PU] at HT;have HX:=Vh hx1;clear hx1;have b0:=HT.c 6 0 0;simp only [aN] at b0;have k15:=HT.c 0 0 15;simp only [Xm,az] at k15;rw [mG] at k15;clear jB mG;obtain ⟨wz,rfl⟩:∃ wz,wz=w1:=⟨_,rfl⟩;go_wp2_with fail
    refine Qa.run (aV.dY (b:=wz.heap.size) (o:=0) (D:=#[U7 (U8 345) #[] #[Qb w.heap.size],U7 (U8 346) #[] #[Qb w.heap.size]]) rfl 2 (.inr rfl)) (HT.a _ _) [8] ?_
    rintro e w1 gs ⟨bf,bl,bi,rfl,rfl⟩ HT;simp only [PU] at HT;obtain ⟨r0,r1⟩:=HT.c2 7 0 0 1;obtain ⟨cr,df⟩:=HT.f2 7 0 0 1;simp only [aN] at r0 r1;go_wp2
    exact U9 (v:=.agg #[U3,_]) (by simp [results,results342,go_sem,r0,r1]) rfl ⟨_,⟨(e.1++[cl w.heap.size 88 #[Qb kb]],e.2),dF.app e _,_,_,_,_,_,rfl,⟨rfl,bf,bl,bi,wz.heap.size,U7 (U8 345) #[] #[Qb w.heap.size],U7 (U8 346) #[] #[Qb w.heap.size],[],[],rfl,⟨rfl,w.heap.size,rfl,U4 _ (UA ..)⟩,⟨rfl,w.heap.size,rfl,U4 _ (UA ..)⟩,rfl⟩,⟨gd,_,_,gP,HD,HX,HW,bF,(rfl:Qm kb L.fb pv (Q7 L k) k++(gd++(e.1++[cl w.heap.size 88 #[Qb kb]]))=_),rfl⟩,rfl⟩,(((HT.set 7 0 rfl 0 _).set 7 0 rfl 1 _).p [9,10,11,8,0,1,2,6,3,4,5]).bW⟩
end
section
variable {L:Lay} {x:Qi} {ws:List Qg} {p:Q2} {e:ET} {g gC gK gF:List ak} {kb:Nat} {pv sv:Value} {k:Xi}
theorem q5f (hz:ze L kb pv e ⟨k,x,ws,p⟩ gK gF) (hp:jZ .bE ⟨k,x,ws,p⟩) :
 Qa prog 315 #[Qb kb] [gK,gF] (dI L kb pv e (runT .bE ⟨k,x,ws,p⟩).1 (runT .bE ⟨k,x,ws,p⟩).2):=by
 obtain ⟨ho,_⟩:=hp;have HO:=Vh ho.core;have iy:=Vh (show 0<=k.aB/\k.aB<18446744073709551616 from ⟨ho.aB.1,ho.aB.2.1⟩);have oV:=Vh (show x.tr.length<=1000000 from ho.core.tr);clear ho;cases hc:((x.aa.try k.t.slot k.aB 4).2.2 == 0) with
 | false =>
   rw [show runT .bE ⟨k,x,ws,p⟩=(.at none .looks,⟨k,{ x with aa:=(x.aa.try k.t.slot k.aB 4).1 },ws,p⟩) by simp [runT,Qk,hc]];unfold dI;obtain ⟨gd,gC,gW,gP,hd,hx,hw,aU,rfl,rfl⟩:=hz;refine GO fun w HT=>?_
   have HT:=Vh (HT.out.m [Qm kb L.fb pv (Q7 L k) k,gd,e.1,gC,gW,gP]);have HX:=Vh hx;have HD:=Vh hd;have HW:=Vh hw;have bF:=Vh aU;clear hx hd hw aU;have hlk:=uD (kb:=kb) (pv:=pv) (sv:=Q7 L k) HX HO iy 4;rw [hc] at hlk;have fT:=Vh hlk;clear hlk hc;generalize (x.aa.try k.t.slot k.aB 4).1=sl at *;go_enter func315,ntmps315
   go_wp2_with fail
   refine Qa.run fT ((HT.a 88 #[Qb kb]).alloc (k:=w.heap.size+1) (by simp) 153 #[U3,U3]) [0,3] ?_
   rintro e w1 gs ⟨rfl,g1,hx1,rfl⟩ HT;simp only [PU] at HT;have HX:=Vh hx1;clear hx1;have b0:=HT.c 6 0 0;simp only [aN] at b0;go_wp2_with fail
   refine Qa.run (ni _ _ _) (HT) [] ?_
   rintro e w1 gs ⟨rfl,rfl⟩ HT;simp only [PU] at HT;obtain ⟨r0,r1⟩:=HT.c2 7 0 0 1;obtain ⟨cr,df⟩:=HT.f2 7 0 0 1;simp only [aN] at r0 r1;go_wp2
   exact U9 (v:=.agg #[_,_]) (by simp [results,results315,go_sem,r0,r1]) rfl ⟨_,⟨e,dF.refl e,_,_,[],_,_,rfl,⟨rfl,rfl,rfl⟩,⟨gd,_,_,gP,HD,HX,HW,bF,(rfl:Qm kb L.fb pv (Q7 L k) k++(gd++e.1)=_),rfl⟩,rfl⟩,(((HT.set 7 0 rfl 0 _).set 7 0 rfl 1 _).p [0,1,2,3,4,5]).bW⟩
 | true =>
   rw [show runT .bE ⟨k,x,ws,p⟩=(.thn (.aj (.put ⟨k.t.id,k.t.gen,k.t.dl,k.now⟩)) .bD,⟨k,{ x with aa:=(x.aa.try k.t.slot k.aB 4).1,tr:=x.tr++[ll k { bL with kind:=5,id:=k.t.id,gen:=k.t.gen,dl:=k.t.dl,tick:=k.now }] },ws,p⟩) from if_pos hc];have oh:=Vh (show ∀ g,Qf L { x with aa:=(x.aa.try k.t.slot k.aB 4).1 } g->_ from fun g hg=>yS (kb:=kb) (pv:=pv) (sv:=Q7 L k) (k:=k) (gC:=g) hg { bL with kind:=5,id:=k.t.id,gen:=k.t.gen,dl:=k.t.dl,tick:=k.now } oV);unfold dI;obtain ⟨gd,gC,gW,gP,hd,hx,hw,aU,rfl,rfl⟩:=hz;refine GO fun w HT=>?_
   have HT:=Vh (HT.out.m [Qm kb L.fb pv (Q7 L k) k,gd,e.1,gC,gW,gP]);have HX:=Vh hx;have HD:=Vh hd;have HW:=Vh hw;have bF:=Vh aU;clear hx hd hw aU;have hlk:=uD (kb:=kb) (pv:=pv) (sv:=Q7 L k) HX HO iy 4;rw [hc] at hlk;have fT:=Vh hlk;clear hlk hc;generalize (x.aa.try k.t.slot k.aB 4).1=sl at *;go_enter func315,ntmps315
   go_wp2_with fail
   refine Qa.run fT ((HT.a 88 #[Qb kb]).alloc (k:=w.heap.size+1) (by simp) 153 #[U3,U3]) [0,3] ?_
   rintro e w1 gs ⟨rfl,g1,hx1,rfl⟩ HT;simp only [PU] at HT;have HX:=Vh hx1;clear hx1;have b0:=HT.c 6 0 0;simp only [aN] at b0;obtain ⟨k9,k11,k13,k14⟩:=HT.c4 0 0 9 11 13 14;simp only [Xm,az] at k9 k11 k13 k14;have bM:=HT.l 6 0;have jw:=HT.l 0 0;simp only [] at bM jw;obtain ⟨wz,rfl⟩:∃ wz,wz=w1:=⟨_,rfl⟩;go_wp2_with fail
   clear HO iy oV;generalize w.heap.size=bb at *;have hnt:=oh.out _ HX;simp only [EvS.cells,bL] at hnt;have oh:=Vh hnt;clear hnt
   go_region_held3 (fun w'=>w'.cell? ⟨bb,0,none⟩=some (Qb kb)/\w'.cell? ⟨kb,9,none⟩=some (U1 U2 k.now)/\w'.cell? ⟨kb,11,none⟩=some (U1 U2 k.t.id)/\w'.cell? ⟨kb,13,none⟩=some (U1 U2 k.t.gen)/\w'.cell? ⟨kb,14,none⟩=some (U1 U2 k.t.dl))
    (first
    | exact ⟨b0,k9,k11,k13,k14⟩
    | exact ⟨(HT.drew.alloc (k:=wz.heap.size) rfl 63 #[U1 U2 0,U1 U2 0,U1 U2 0,U1 U2 0]).c 6 0 0,(HT.drew.alloc (k:=wz.heap.size) rfl 63 #[U1 U2 0,U1 U2 0,U1 U2 0,U1 U2 0]).c 0 0 9,(HT.drew.alloc (k:=wz.heap.size) rfl 63 #[U1 U2 0,U1 U2 0,U1 U2 0,U1 U2 0]).c 0 0 11,(HT.drew.alloc (k:=wz.heap.size) rfl 63 #[U1 U2 0,U1 U2 0,U1 U2 0,U1 U2 0]).c 0 0 13,(HT.drew.alloc (k:=wz.heap.size) rfl 63 #[U1 U2 0,U1 U2 0,U1 U2 0,U1 U2 0]).c 0 0 14⟩
    | (refine ⟨?_,?_,?_,?_,?_⟩ <;> simp [go_sem,b0,k9,k11,k13,k14,bM,jw,UF bM,UF jw,UG bM,UG jw]))
    (fail)
   have HT:=Vh (HT.out.a 63 #[U1 U2 k.t.id,U1 U2 k.t.gen,U1 U2 k.t.dl,U1 U2 k.now]).drew;generalize UT (UM wz _)=w2 at HT |-;generalize wz.heap.size=fb at HT |-;clear b0 k9 k11 k13 k14 bM jw;have b0:=HT.c 6 0 0;simp only [aN] at b0;obtain ⟨f0,f1,f2,f3⟩:=HT.c4 8 0 0 1 2 3;simp only [aN] at f0 f1 f2 f3;go_wp2_with fail
   refine Qa.run oh HT [0,3] ?_
   rintro e w1 gs ⟨rfl,g2,hx2,rfl⟩ HT;simp only [PU] at HT;have HX:=Vh hx2;clear hx2 b0 f0 f1 f2 f3;obtain ⟨wy,rfl⟩:∃ wy,wy=w1:=⟨_,rfl⟩;go_wp2_with fail
   refine Qa.run (aV.dY (b:=wy.heap.size) (o:=0) (D:=#[U7 (U8 326) #[] #[Qb bb,Qb fb]]) rfl 1 (.inl rfl)) (HT.a _ _) [9] ?_
   rintro e w1 gs ⟨bf,bl,bi,rfl,rfl⟩ HT;simp only [PU] at HT;generalize wy.heap.size=sb at *
   have hsv:(lZ L kb pv).SV (e.1++[cl bb 88 #[Qb kb],cl fb 63 #[U1 U2 k.t.id,U1 U2 k.t.gen,U1 U2 k.t.dl,U1 U2 k.now]],e.2) (.aj (.put ⟨k.t.id,k.t.gen,k.t.dl,k.now⟩)) U3 (U7 (U8 209) #[] #[Qb bf,Qb bl,Qb bi]) ([cl bf 1 #[U7 (U8 326) #[] #[Qb bb,Qb fb]],cl bl 322 #[.slice (some ⟨sb,0,none⟩) 1 1],cl bi 3 #[U1 U5 0],cl sb 1 #[U7 (U8 326) #[] #[Qb bb,Qb fb]]]++[]) :=
    ⟨rfl,bf,bl,bi,sb,0,_,_,_,rfl,⟨rfl,bb,fb,rfl,U4 _ (UA ..),U4 _ (UN _ (UA ..))⟩,rfl,rfl⟩
   have gI:=Vh hsv;clear hsv;go_wp2_with fail
   refine Qa.run (aV.bR (c:=(lZ L kb pv).on (e.1++[cl bb 88 #[Qb kb],cl fb 63 #[U1 U2 k.t.id,U1 U2 k.t.gen,U1 U2 k.t.dl,U1 U2 k.now]],e.2)) (f:=MT.bD) (v:=U7 (U8 328) #[] #[Qb bb]) (gm:=[]) (Q9 L kb pv _) rfl gI ⟨rfl,bb,rfl,U4 _ (UA ..)⟩) (HT.bW (H':=[Qm kb L.fb pv (Q7 L k) k,gd,e.1,g2,gW,gP,[cl bb 88 #[Qb kb]],[cl (bb+1) 153 #[U3,U3]],[cl fb 63 #[U1 U2 k.t.id,U1 U2 k.t.gen,U1 U2 k.t.dl,U1 U2 k.now]],[cl bf 1 #[U7 (U8 326) #[] #[Qb bb,Qb fb]],cl bl 322 #[.slice (some ⟨sb,0,none⟩) 1 1],cl bi 3 #[U1 U5 0],cl sb 1 #[U7 (U8 326) #[] #[Qb bb,Qb fb]]]++[],[]])) [9,10] ?_
   rintro e w1 gs ⟨bs,br,rfl,rfl⟩ HT;simp only [PU] at HT;obtain ⟨r0,r1⟩:=HT.c2 7 0 0 1;obtain ⟨cr,df⟩:=HT.f2 7 0 0 1;simp only [aN] at r0 r1;go_wp2
   exact U9 (v:=.agg #[_,_]) (by simp [results,results315,go_sem,r0,r1]) rfl ⟨_,⟨(e.1++[cl bb 88 #[Qb kb],cl fb 63 #[U1 U2 k.t.id,U1 U2 k.t.gen,U1 U2 k.t.dl,U1 U2 k.now]],e.2),dF.app e _,_,_,_,_,_,rfl,⟨bs,br,_,_,_,[],rfl,rfl,gI,⟨rfl,bb,rfl,U4 _ (UA ..)⟩,rfl⟩,⟨gd,_,_,gP,HD,HX,HW,bF,(rfl:Qm kb L.fb pv (Q7 L k) k++(gd++(e.1++[cl bb 88 #[Qb kb],cl fb 63 #[U1 U2 k.t.id,U1 U2 k.t.gen,U1 U2 k.t.dl,U1 U2 k.now]]))=_),rfl⟩,rfl⟩,(((HT.set 7 0 rfl 0 _).set 7 0 rfl 1 _).p [9,0,1,2,6,8,3,4,5]).bW⟩
end
section
variable {L:Lay} {x:Qi} {ws:List Qg} {p:Q2} {e:ET} {g gC gK gF:List ak} {kb:Nat} {pv sv:Value} {k:Xi}
theorem dI.of {s:ST} {z:ZT} {en:Ending} {gs:GH} (h:∃ e',dF e e'/\∃ m d g' bg aJ,en=U6 (.agg #[m,d])/\(lZ L kb pv).SV e' s m d g'/\ze L kb pv e' z bg aJ/\gs=[g',bg,aJ]):dI L kb pv e s z en gs:=h
theorem qk6 (a b:Int) (ha:0<=a/\a<18446744073709551616) (hb:0<=b/\b<18446744073709551616) :
 ∃ nx er:Int,Qd prog 136 #[U1 U2 a,U1 U2 b] [] (UC #[U1 U2 nx,U1 U5 er])/\(er=0↔a+b<18446744073709551616)/\(a+b<18446744073709551616->nx=a+b):=by
 by_cases h:a+b<18446744073709551616
 ·exact ⟨a+b,0,JO a b ha.1 hb.1 h,⟨fun _=>h,fun _=>rfl⟩,fun _=>rfl⟩
 ·exact ⟨0,9,OG a b ha.1 hb.1 ha.2 hb.2 (by omega),⟨fun h'=>by omega,fun h'=>absurd h' h⟩,fun h'=>absurd h' h⟩
theorem q5e (hz:ze L kb pv e ⟨k,x,ws,p⟩ gK gF) (hp:jZ .behind ⟨k,x,ws,p⟩) :
 Qa prog 329 #[Qb kb] [gK,gF] (dI L kb pv e (runT .behind ⟨k,x,ws,p⟩).1 (runT .behind ⟨k,x,ws,p⟩).2):=by
 obtain ⟨ho,_⟩:=hp;have hcore:pR x:=ho.core;have kL:=Vh (show ∀ g',Qf L x g'->_ from fun g' hx'=>yO (g:=g') hx' hcore.aa.n1 k.t.slot);have gp:=Vh (Y4 hcore.aa k.t.slot);obtain ⟨nx,er,had,EV,hnx⟩:=qk6 k.t.dl k.t.per ho.t.dl ho.t.per;have uo:=Vh (show 0<=k.t.per/\k.t.per<18446744073709551616 from ho.t.per);clear ho hcore;simp only [runT];obtain ⟨wd,hwd⟩:∃ wd,wd=x.aa.word k.t.slot:=⟨_,rfl⟩;rw [<- hwd] at gp kL |-;have iy:=Vh (NV wd gp.1 gp.2.1);have ui:=Vh (JE wd gp.1 gp.2.1);have uk:=Vh (Oo wd gp.1 gp.2.1);have Gq:=Vh had;have zJ:=Vh EV;have xU:=Vh hnx;generalize bB wd=sw at *;generalize Xv wd=gw at *;generalize Xr wd=lw at *;clear hwd gp had EV hnx;obtain ⟨R,hR⟩:∃ R:ST × ZT,R=(if sw≠4\/gw≠k.t.gen then (.nil,⟨{ k with aB:=wd },x,ws,p⟩) else if 0<k.t.per/\lw=false/\k.t.dl+k.t.per<18446744073709551616 then (.at none (.aY (k.t.dl+k.t.per)),⟨{ k with aB:=wd },x,ws,p⟩) else (.at none .aQ,⟨{ k with aB:=wd },x,ws,p⟩)):=⟨_,rfl⟩;rw [<- hR];have HR:=Vh hR;clear hR;obtain ⟨gd,gC,gW,gP,hd,hx,hw,aU,rfl,rfl⟩:=hz;refine GO fun w HT=>?_
 have HT:=Vh (HT.out.m [Qm kb L.fb pv (Q7 L k) k,gd,e.1,gC,gW,gP]);have HX:=Vh hx;have HD:=Vh hd;have HW:=Vh hw;have bF:=Vh aU;clear hx hd hw aU;go_enter func329,ntmps329
 go_wp2_with fail
 have HT:=Vh ((HT.a 88 #[Qb kb]).alloc (k:=w.heap.size+1) (by simp) 153 #[U3,U3]);generalize UM (UM w _) _=w1 at HT |-;generalize w.heap.size=bb at *;obtain ⟨ι,W,hW0,hend,hin⟩:∃ (ι:Type) (W:ι->World),(∃ i,UT w1=W i)/\(∀ i,∃ gx,Qf L x gx/\TG [Qm kb L.fb pv (Q7 L k) k++(gd++e.1),gC++(gW++gP)] w [Qm kb L.fb pv (Q7 L k) k,gd,e.1,gx,gW,gP,[cl bb 88 #[Qb kb]],[cl (bb+1) 153 #[U3,U3]]] (W i))/\(∀ w',(∃ gx,Qf L x gx/\TG [Qm kb L.fb pv (Q7 L k) k++(gd++e.1),gC++(gW++gP)] w [Qm kb L.fb pv (Q7 L k) k,gd,e.1,gx,gW,gP,[cl bb 88 #[Qb kb]],[cl (bb+1) 153 #[U3,U3]]] w')->∃ i,w'=W i):=⟨{w' // ∃ gx,Qf L x gx/\TG [Qm kb L.fb pv (Q7 L k) k++(gd++e.1),gC++(gW++gP)] w [Qm kb L.fb pv (Q7 L k) k,gd,e.1,gx,gW,gP,[cl bb 88 #[Qb kb]],[cl (bb+1) 153 #[U3,U3]]] w'},UW,⟨⟨_,gC,HX,HT.drew⟩,rfl⟩,fun i=>i.2,fun w' h=>⟨⟨w',h⟩,rfl⟩⟩;have hne:Nonempty ι:=hW0.elim fun i _=>⟨i⟩
 have b0:∀ i,(W i).cell? ⟨bb,0,none⟩=some (Qb kb):=fun i=>by obtain ⟨_,_,T⟩:=hend i;exact T.c 6 0 0
 have k0:∀ i,(W i).cell? ⟨kb,0,none⟩=some (Qb L.fb):=fun i=>by obtain ⟨_,_,T⟩:=hend i;exact T.c 0 0 0
 have k12:∀ i,(W i).cell? ⟨kb,12,none⟩=some (U1 U5 k.t.slot):=fun i=>by obtain ⟨_,_,T⟩:=hend i;exact T.c 0 0 12
 have m1:∀ i,Calls prog 19 #[Qb L.fb] (W i) fun e w2=>e=U6 (Qb L.p.sb)/\∃ j,w2=W j:=fun i=>by
  obtain ⟨_,hg,T⟩:=hend i;refine (Qa.use ((Qn hg).does) T [3] rfl rfl).mono ?_
  rintro e w2 ⟨gs,⟨rfl,rfl⟩,T2⟩;exact ⟨rfl,hin _ ⟨_,hg,T2⟩⟩
 have m2:∀ i,Calls prog 38 #[Qb L.p.sb,U1 U5 k.t.slot] (W i) fun e w2=>e=U6 (UC #[U1 U2 wd,U1 U5 (x.aa.jG k.t.slot)])/\∃ j,w2=W j:=fun i=>by
  obtain ⟨_,hg,T⟩:=hend i;refine (Qa.use (kL _ hg) T [3] rfl rfl).mono ?_
  rintro e w2 ⟨gs,⟨rfl,g3,hg3,rfl⟩,T2⟩;exact ⟨rfl,hin _ ⟨g3,hg3,T2⟩⟩
 refine Jv W (by kernel_rfl) (by kernel_rfl) hW0 ?_
 repeat (go_big_quiet_step ((first | (go_at_call 19;with_reducible exact m1 _) | (go_at_call 38;with_reducible exact m2 _))))
 refine UD ?_
 intro _ hw;obtain ⟨iq,hw2⟩:=hw;subst hw2;obtain ⟨g1,hx1,T⟩:=hend iq;have HT:=Vh T;generalize W iq=w1 at HT |-;clear T hend hin hW0 hne;have HX:=Vh hx1;clear hx1 b0 k0 k12 m1 m2;have b0:=HT.c 6 0 0;simp only [aN] at b0;have k16:=HT.c 0 0 16;have lz:=HT.f 0 0 16;simp only [Xm,az] at k16;go_wp2_with fail
 have HT:=Vh ((HT.set 0 0 rfl 16 (U1 U2 wd)).eq (H':=[Qm kb L.fb pv (Q7 L k) { k with aB:=wd },gd,e.1,g1,gW,gP,[cl bb 88 #[Qb kb]],[cl (bb+1) 153 #[U3,U3]]]) rfl);clear k16 lz b0;generalize UK _ _ _=w5 at HT |-;have b0:=HT.c 6 0 0;simp only [aN] at b0;have k13:=HT.c 0 0 13;simp only [Xm,az] at k13;cases hb1:(sw != 4) with
 | true =>
   have hR:=HR.out;rw [if_pos (.inl (by simpa using hb1))] at hR;subst hR;go_quiet ((first | (go_at_call 39;with_reducible exact Qd.quiet (iy.out) HT.out _ [] rfl rfl) | (go_at_call 229;with_reducible exact Qd.quiet (ui.out) HT.out _ [] rfl rfl)))
   have HT:=Vh (HT.out.drewN nq);have HT:=Vh HT.out;generalize UR _ _=wq at HT |-;clear b0 k13;obtain ⟨r0,r1⟩:=HT.c2 7 0 0 1;obtain ⟨cr,df⟩:=HT.f2 7 0 0 1;simp only [aN] at r0 r1;go_wp2
   exact U9 (v:=.agg #[_,_]) (by simp [results,results329,go_sem,r0,r1]) rfl ⟨_,dI.of ⟨e,dF.refl e,_,_,[],_,_,rfl,⟨rfl,rfl,rfl⟩,⟨gd,_,_,gP,HD,HX,HW,bF,(rfl:Qm kb L.fb pv (Q7 L k) { k with aB:=wd }++(gd++e.1)=_),rfl⟩,rfl⟩,(((HT.set 7 0 rfl 0 _).set 7 0 rfl 1 _).p [0,1,2,3,4,5]).bW⟩
 | false =>
   cases hb2:(gw != k.t.gen) with
   | true =>
     have hR:=HR.out;rw [if_pos (.inr (by simpa using hb2))] at hR;subst hR;go_quiet ((first | (go_at_call 39;with_reducible exact Qd.quiet (iy.out) HT.out _ [] rfl rfl) | (go_at_call 229;with_reducible exact Qd.quiet (ui.out) HT.out _ [] rfl rfl)))
     have HT:=Vh (HT.out.drewN nq);have HT:=Vh HT.out;generalize UR _ _=wq at HT |-;clear b0 k13;obtain ⟨r0,r1⟩:=HT.c2 7 0 0 1;obtain ⟨cr,df⟩:=HT.f2 7 0 0 1;simp only [aN] at r0 r1;go_wp2
     exact U9 (v:=.agg #[_,_]) (by simp [results,results329,go_sem,r0,r1]) rfl ⟨_,dI.of ⟨e,dF.refl e,_,_,[],_,_,rfl,⟨rfl,rfl,rfl⟩,⟨gd,_,_,gP,HD,HX,HW,bF,(rfl:Qm kb L.fb pv (Q7 L k) { k with aB:=wd }++(gd++e.1)=_),rfl⟩,rfl⟩,(((HT.set 7 0 rfl 0 _).set 7 0 rfl 1 _).p [0,1,2,3,4,5]).bW⟩
   | false =>
     have hR:=HR.out;rw [if_neg (by simp only [bne_eq_false_iff_eq] at hb1 hb2;omega)] at hR;have HR:=Vh hR;go_quiet ((first | (go_at_call 39;with_reducible exact Qd.quiet (iy.out) HT.out _ [] rfl rfl) | (go_at_call 229;with_reducible exact Qd.quiet (ui.out) HT.out _ [] rfl rfl)))
     have HT:=Vh (HT.out.drewN nq);generalize UR _ _=wz at HT |-;clear b0 k13 hR iy ui hb1 hb2 kL;have b0:=HT.c 6 0 0;simp only [aN] at b0;obtain ⟨k14,k15⟩:=HT.c2 0 0 14 15;simp only [Xm,az] at k14 k15;have bM:=HT.l 6 0;have jw:=HT.l 0 0;simp only [] at bM jw;go_wp2_with fail
     apply Sg (A:=fun (nb:Nat) w5=>TG [Qm kb L.fb pv (Q7 L k) k++(gd++e.1),gC++(gW++gP)] w [Qm kb L.fb pv (Q7 L k) { k with aB:=wd },gd,e.1,g1,gW,gP,[cl bb 88 #[Qb kb]],[cl (bb+1) 153 #[U3,U3]],[cl nb 36 #[U1 U2 nx]]] w5)
     case main =>
      intro key
      go_region_held3 (fun w'=>w'.cell? ⟨bb,0,none⟩=some (Qb kb)/\w'.cell? ⟨kb,14,none⟩=some (U1 U2 k.t.dl)/\w'.cell? ⟨kb,15,none⟩=some (U1 U2 k.t.per))
       (first
       | exact ⟨b0,k14,k15⟩
       | exact ⟨q1,q2,q3⟩
       | (refine ⟨?_,?_,?_⟩ <;> (simp [go_sem,b0,k14,k15,bM,jw,UF bM,UF jw,UG bM,UG jw];done))
       | (refine ⟨?_,?_,?_⟩ <;> (simp [go_sem,q1,q2,q3,l1,l2,UF l1,UF l2,UG l1,UG l2];done))
       | (refine ⟨?_,?_,?_⟩ <;> (simp [go_sem,q1,q2,q3,bM,jw,UF bM,UF jw,UG bM,UG jw];done))
       | exact ⟨s1,s2,s3⟩
       | exact ⟨((ed.set 8 0 rfl 0 (U1 U2 nx)).c 6 0 0),((ed.set 8 0 rfl 0 (U1 U2 nx)).c 0 0 14),((ed.set 8 0 rfl 0 (U1 U2 nx)).c 0 0 15)⟩
       | exact ⟨((ed.alloc (k:=w7.heap.size) rfl 36 #[U1 U2 nx]).c 6 0 0),((ed.alloc (k:=w7.heap.size) rfl 36 #[U1 U2 nx]).c 0 0 14),((ed.alloc (k:=w7.heap.size) rfl 36 #[U1 U2 nx]).c 0 0 15)⟩
       | exact ⟨(((ed.alloc (k:=w7.heap.size) rfl 36 #[U1 U2 0]).set 8 0 rfl 0 (U1 U2 nx)).c 6 0 0),(((ed.alloc (k:=w7.heap.size) rfl 36 #[U1 U2 0]).set 8 0 rfl 0 (U1 U2 nx)).c 0 0 14),(((ed.alloc (k:=w7.heap.size) rfl 36 #[U1 U2 0]).set 8 0 rfl 0 (U1 U2 nx)).c 0 0 15)⟩)
       (first
       | (go_at_call 136
          refine (Qd.use Gq HT.drew [] rfl rfl).mono ?_
          rintro e w7 ⟨rfl,mq,rfl⟩;have ed:=Vh (HT.out.drew.drewN mq);have q1:=ed.c 6 0 0;obtain ⟨q2,q3⟩:=ed.c2 0 0 14 15;have l1:=ed.l 6 0;have l2:=ed.l 0 0;simp only [Xm,az] at q1 q2 q3 l1 l2
          generalize UR _ _=w7 at ed q1 q2 q3 l1 l2 |-)
       | (go_at_call 136
          refine (Qd.use Gq (HT.a 36 #[U1 U2 0]).drew [] rfl rfl).mono ?_
          rintro e w7 ⟨rfl,mq,rfl⟩;have ed:=Vh ((HT.a 36 #[U1 U2 0]).drew.drewN mq);have c0:=ed.c 8 0 0;have f0:=ed.f 8 0 0;simp only [bP] at c0;have q1:=ed.c 6 0 0;obtain ⟨q2,q3⟩:=ed.c2 0 0 14 15;have l1:=ed.l 6 0;have l2:=ed.l 0 0;simp only [Xm,az] at q1 q2 q3 l1 l2;generalize UR _ _=w7 at ed c0 f0 q1 q2 q3 l1 l2 |-;have kZ:=ed.set 8 0 rfl 0 (U1 U2 nx);have s1:=kZ.c 6 0 0;obtain ⟨s2,s3⟩:=kZ.c2 0 0 14 15
          simp only [Xm,az] at s1 s2 s3))
      ·have T5:=(ed.alloc (k:=w7.heap.size) rfl 36 #[U1 U2 nx]).eq (H':=[Qm kb L.fb pv (Q7 L k) { k with aB:=wd },gd,e.1,g1,gW,gP,[cl bb 88 #[Qb kb]],[cl (bb+1) 153 #[U3,U3]],[cl w7.heap.size 36 #[U1 U2 nx]]]) rfl
       clear ed q1 q2 q3 l1 l2;generalize UM w7 _=w5 at T5 |-;generalize w7.heap.size=nb at T5 |-;exact key nb w5 T5
      ·have T5:=(ed.set 8 0 rfl 0 (U1 U2 nx)).eq (H':=[Qm kb L.fb pv (Q7 L k) { k with aB:=wd },gd,e.1,g1,gW,gP,[cl bb 88 #[Qb kb]],[cl (bb+1) 153 #[U3,U3]],[cl wz.heap.size 36 #[U1 U2 nx]]]) rfl
       clear ed q1 q2 q3 l1 l2 c0 f0 s1 s2 s3 kZ;generalize UK w7 _ _=w5 at T5 |-;generalize wz.heap.size=nb at T5 |-;exact key nb w5 T5
     case key =>
      rintro nb w5 T5;have HT:=Vh T5;clear T5 b0 k14 k15 bM jw;have xU:=xU.out;have jB:=uo.out;have b0:=HT.c 6 0 0;simp only [aN] at b0;have k15:=HT.c 0 0 15;simp only [Xm,az] at k15;by_cases hp0:0<k.t.per
      ·cases lw with
       | false =>
         by_cases hov:k.t.dl+k.t.per<18446744073709551616
         ·have hR:=HR.out
          rw [if_pos ⟨hp0,rfl,hov⟩] at hR;subst hR;have EV:=zJ.2 hov;subst EV;have hnx:=xU hov;subst hnx;clear xU jB zJ;go_wp2_with fail
          refine Qd.run uk HT [] ?_
          rintro e wq rfl HT;clear b0 k15;go_wp2_with fail
          refine Qa.run (ni _ _ _) (HT) [] ?_
          rintro e w1 gs ⟨rfl,rfl⟩ HT;simp only [PU] at HT;obtain ⟨r0,r1⟩:=HT.c2 7 0 0 1;obtain ⟨cr,df⟩:=HT.f2 7 0 0 1;simp only [aN] at r0 r1;go_wp2
          exact U9 (v:=.agg #[_,_]) (by simp [results,results329,go_sem,r0,r1]) rfl ⟨_,dI.of ⟨(e.1++[cl bb 88 #[Qb kb],cl nb 36 #[U1 U2 (k.t.dl+k.t.per)]],e.2),dF.app e _,_,_,[],_,_,rfl,⟨rfl,rfl,⟨bb,nb,rfl,U4 _ (UA ..),U4 _ (UN _ (UA ..))⟩⟩,⟨gd,_,_,gP,HD,HX,HW,bF,(rfl:Qm kb L.fb pv (Q7 L k) { k with aB:=wd }++(gd++(e.1++[cl bb 88 #[Qb kb],cl nb 36 #[U1 U2 (k.t.dl+k.t.per)]]))=_),rfl⟩,rfl⟩,(((HT.set 7 0 rfl 0 _).set 7 0 rfl 1 _).p [0,1,2,6,8,3,4,5]).bW⟩
         ·have hR:=HR.out
          rw [if_neg (fun h=>hov h.2.2)] at hR;subst hR;have EU:(er == 0)=false:=beq_eq_false_iff_ne.2 fun h=>hov (zJ.1 h)
          clear xU jB zJ hov;go_wp2_with fail
          refine Qd.run uk HT [] ?_
          rintro e wq rfl HT;clear b0 k15;have b0:=HT.c 6 0 0;simp only [aN] at b0;go_wp2_with fail
          refine Qa.run (ni _ _ _) (HT) [] ?_
          rintro e w1 gs ⟨rfl,rfl⟩ HT;simp only [PU] at HT;obtain ⟨r0,r1⟩:=HT.c2 7 0 0 1;obtain ⟨cr,df⟩:=HT.f2 7 0 0 1;simp only [aN] at r0 r1;go_wp2
          exact U9 (v:=.agg #[_,_]) (by simp [results,results329,go_sem,r0,r1]) rfl ⟨_,dI.of ⟨e,dF.refl e,_,_,[],_,_,rfl,⟨rfl,rfl,rfl⟩,⟨gd,_,_,gP,HD,HX,HW,bF,(rfl:Qm kb L.fb pv (Q7 L k) { k with aB:=wd }++(gd++e.1)=_),rfl⟩,rfl⟩,(((HT.set 7 0 rfl 0 _).set 7 0 rfl 1 _).p [0,1,2,3,4,5]).bW⟩
       | true =>
         have hR:=HR.out;rw [if_neg (fun h=>by cases h.2.1)] at hR;subst hR;clear xU jB zJ;go_wp2_with fail
         refine Qd.run uk HT [] ?_
         rintro e wq rfl HT;clear b0 k15;have b0:=HT.c 6 0 0;simp only [aN] at b0;go_wp2_with fail
         refine Qa.run (ni _ _ _) (HT) [] ?_
         rintro e w1 gs ⟨rfl,rfl⟩ HT;simp only [PU] at HT;obtain ⟨r0,r1⟩:=HT.c2 7 0 0 1;obtain ⟨cr,df⟩:=HT.f2 7 0 0 1;simp only [aN] at r0 r1;go_wp2
         exact U9 (v:=.agg #[_,_]) (by simp [results,results329,go_sem,r0,r1]) rfl ⟨_,dI.of ⟨e,dF.refl e,_,_,[],_,_,rfl,⟨rfl,rfl,rfl⟩,⟨gd,_,_,gP,HD,HX,HW,bF,(rfl:Qm kb L.fb pv (Q7 L k) { k with aB:=wd }++(gd++e.1)=_),rfl⟩,rfl⟩,(((HT.set 7 0 rfl 0 _).set 7 0 rfl 1 _).p [0,1,2,3,4,5]).bW⟩
      ·have hR:=HR.out
       rw [if_neg (fun h=>hp0 h.1)] at hR;subst hR;have mG:k.t.per=0:=by omega
       rw [mG] at k15;clear xU zJ jB hp0 mG Gq uk;go_wp2_with fail
       refine Qa.run (ni _ _ _) (HT) [] ?_
       rintro e w1 gs ⟨rfl,rfl⟩ HT;simp only [PU] at HT;obtain ⟨r0,r1⟩:=HT.c2 7 0 0 1;obtain ⟨cr,df⟩:=HT.f2 7 0 0 1;simp only [aN] at r0 r1;go_wp2
       exact U9 (v:=.agg #[_,_]) (by simp [results,results329,go_sem,r0,r1]) rfl ⟨_,dI.of ⟨e,dF.refl e,_,_,[],_,_,rfl,⟨rfl,rfl,rfl⟩,⟨gd,_,_,gP,HD,HX,HW,bF,(rfl:Qm kb L.fb pv (Q7 L k) { k with aB:=wd }++(gd++e.1)=_),rfl⟩,rfl⟩,(((HT.set 7 0 rfl 0 _).set 7 0 rfl 1 _).p [0,1,2,3,4,5]).bW⟩
end
section
variable {L:Lay} {x:Qi} {ws:List Qg} {p:Q2} {e:ET} {g gC gK gF:List ak} {kb:Nat} {pv sv:Value} {k:Xi}
def zO (L:Lay) (kb:Nat) (pv:Value) (e:ET) (y:YT) (z:ZT) (en:Ending) (gs:GH):Prop :=
 ∃ bg aJ,en=U6 (.bool (qY y z))/\ze L kb pv e z bg aJ/\gs=[bg,aJ]
theorem mU.of {z:ZT} {en:Ending} {gs:GH} (h:∃ e',dF e e'/\∃ bg aJ,en=U6 (UC #[])/\ze L kb pv e' z bg aJ/\gs=[[],bg,aJ]):mU L kb pv e z en gs:=h
theorem zO.of {y:YT} {z:ZT} {en:Ending} {gs:GH} (h:∃ bg aJ,en=U6 (.bool (qY y z))/\ze L kb pv e z bg aJ/\gs=[bg,aJ]):zO L kb pv e y z en gs:=h
theorem q9v (d:Nat) (hz:ze L kb pv e ⟨k,x,ws,p⟩ gK gF) (hp:jZ (.dH d) ⟨k,x,ws,p⟩) (bk bd:Nat) (hb:gG kb bk e) (hbd:e.2[d]?=some bd) :
 Qa prog 274 #[Qb bk,Qb bd] [gK,gF] (dI L kb pv e (runT (.dH d) ⟨k,x,ws,p⟩).1 (runT (.dH d) ⟨k,x,ws,p⟩).2):=by
 obtain ⟨ho,hh,hc,rX⟩:=hp;obtain ⟨gd,gC,gW,gP,hd,hx,hw,aU,rfl,rfl⟩:=hz;obtain ⟨i,q,s,S,hki,hq,hs,hS,hsv,hsh,hss,jC,hwo,hrb,ht0,ht1⟩:=wm hx hw ho hh;have hth:0<=k.th/\k.th<=1000000:=⟨ho.th,rX⟩;clear rX
 rw [show runT (.dH d) ⟨k,x,ws,p⟩=(.at none (.bX d),⟨k,{ x with au:=x.au.set i { s with who:=og s.who k.th,turns:=nz s.who s.turns } },ws,p⟩) by
  simp only [runT,ZT.dh,hss,hsh]]
 dsimp only
 have uj:=Vh (fun (g:List ak) (hg:Qf L x g)=>JN hg hq hs);have B5:=Vh (fun (g:List ak) (hg:Qf L x g)=>Ka (v:=.bool (s.who == 0)) hg hq hs fun g hl=>qwh k.th hl ⟨hth.1,by omega⟩ ⟨ht0,by omega⟩);clear hth ho hh hc hki hq hs hS hsh hss jC hwo hrb ht0 ht1;refine GO fun w HT=>?_
 have HT:=Vh (HT.out.m [Qm kb L.fb pv (Q7 L k) k,gd,e.1,gC,gW,gP]);have HX:=Vh hx;have HD:=Vh hd;have HW:=Vh hw;have bF:=Vh aU;have gI:=Vh hsv;clear hx hd hw aU hsv;have mV:=Vh hbd;clear hbd;have HB:=Vh (show cl bk 88 #[Qb kb]∈e.1 from hb);clear hb;have bM:=HT.bu 2 HB;simp only [] at bM;go_enter func274,ntmps274
 go_wp2_with fail
 have HT:=Vh (HT.out.a 153 #[U3,U3]);generalize UM w _=w1 at HT |-;generalize w.heap.size=bs at *;obtain ⟨ι,W,hW0,hend,hin⟩:∃ (ι:Type) (W:ι->World),(∃ i,UT w1=W i)/\(∀ i,∃ gx,Qf L x gx/\TG [Qm kb L.fb pv (Q7 L k) k++(gd++e.1),gC++(gW++gP)] w [Qm kb L.fb pv (Q7 L k) k,gd,e.1,gx,gW,gP,[cl bs 153 #[U3,U3]]] (W i))/\(∀ w',(∃ gx,Qf L x gx/\TG [Qm kb L.fb pv (Q7 L k) k++(gd++e.1),gC++(gW++gP)] w [Qm kb L.fb pv (Q7 L k) k,gd,e.1,gx,gW,gP,[cl bs 153 #[U3,U3]]] w')->∃ i,w'=W i):=⟨{w' // ∃ gx,Qf L x gx/\TG [Qm kb L.fb pv (Q7 L k) k++(gd++e.1),gC++(gW++gP)] w [Qm kb L.fb pv (Q7 L k) k,gd,e.1,gx,gW,gP,[cl bs 153 #[U3,U3]]] w'},UW,⟨⟨_,gC,HX,HT.drew⟩,rfl⟩,fun i=>i.2,fun w' h=>⟨⟨w',h⟩,rfl⟩⟩;have hne:Nonempty ι:=hW0.elim fun i _=>⟨i⟩
 have b0:∀ i,(W i).cell? ⟨bk,0,none⟩=some (Qb kb):=fun i=>by obtain ⟨_,_,T⟩:=hend i;exact T.ah 2 HB 0
 have k10:∀ i,(W i).cell? ⟨kb,10,none⟩=some (Qb q.b):=fun i=>by obtain ⟨_,_,T⟩:=hend i;exact gI.out ▸ T.c 0 0 10
 have k1:∀ i,(W i).cell? ⟨kb,1,none⟩=some (U1 U5 k.th):=fun i=>by obtain ⟨_,_,T⟩:=hend i;exact T.c 0 0 1
 have m1:∀ i,Calls prog 33 #[Qb q.b] (W i) fun e w2=>e=U6 (Qb q.lb)/\∃ j,w2=W j:=fun i=>by
  obtain ⟨_,hg,T⟩:=hend i;refine (Qa.use (uj _ hg) T [3] rfl rfl).mono ?_
  rintro e w2 ⟨gs,⟨rfl,g3,hg3,rfl⟩,T2⟩;exact ⟨rfl,hin _ ⟨g3,hg3,T2⟩⟩
 refine Z6 (fun w'=>∃ i,w'=W i) 9 (by kernel_rfl) (by kernel_rfl) hW0 ?_
 simp only [bY]
 repeat (go_big_quiet_step ((first | (go_at_call 33;with_reducible exact m1 _))))
 refine UD ?_
 intro _ hw';obtain ⟨iq,hw''⟩:=hw';subst hw'';obtain ⟨g1,hx1,T⟩:=hend iq;have HT:=Vh T;generalize W iq=w1 at HT |-;clear T hend hin hW0 hne;have jI:=Vh hx1;clear hx1 b0 k10 k1 m1;go_wp2_with fail
 refine Qa.run (B5 _ jI) (HT) [3] ?_
 rintro e w1 gs ⟨rfl,g2,hx2,rfl⟩ HT;simp only [PU] at HT;have HX:=Vh hx2;clear hx2;go_wp2_with fail
 refine ⟨rfl,?_⟩
 go_wp2_with fail
 refine Qa.run (ni _ _ _) (HT) [] ?_
 rintro e w1 gs ⟨rfl,rfl⟩ HT;simp only [PU] at HT;obtain ⟨r0,r1⟩:=HT.c2 6 0 0 1;obtain ⟨cr,df⟩:=HT.f2 6 0 0 1;simp only [aN] at r0 r1;go_wp2
 exact U9 (v:=.agg #[_,_]) (by simp [results,results274,go_sem,r0,r1]) rfl ⟨_,dI.of ⟨e,dF.refl e,_,_,[],_,_,rfl,⟨rfl,rfl,⟨bk,bd,rfl,HB,mV⟩⟩,⟨gd,_,_,gP,HD,HX,HW,bF,(rfl:Qm kb L.fb pv (Q7 L k) k++(gd++e.1)=_),rfl⟩,rfl⟩,(((HT.set 6 0 rfl 0 _).set 6 0 rfl 1 _).p [0,1,2,3,4,5]).bW⟩
theorem q92 (hz:ze L kb pv e ⟨k,x,ws,p⟩ gK gF) (hp:Fg .lock ⟨k,x,ws,p⟩) (bk:Nat) (hb:gG kb bk e) :
 Qa prog 272 #[Qb bk] [gK,gF] (zO L kb pv e .lock ⟨k,x,ws,p⟩):=by
 obtain ⟨ho,hh⟩:=hp;obtain ⟨gd,gC,gW,gP,hd,hx,hw,aU,rfl,rfl⟩:=hz;obtain ⟨i,q,s,S,hki,hq,hs,hS,hsv,hsh,hss,jC,hwo,hrb,ht0,ht1⟩:=wm hx hw ho hh;have hm:qY .lock ⟨k,x,ws,p⟩=(decide (0<=k.th) && s.who == 0):=by simp only [qY,hss]
 have uj:=Vh (fun (g:List ak) (hg:Qf L x g)=>JN hg hq hs);have hlm:∀ (g:List ak) (hg:Qf L x g),_:=fun (g:List ak) (hg:Qf L x g)=>Ka (v:=.bool (decide (0<=k.th) && s.who == 0)) hg hq hs fun g hl=>qwf k.th hl
 rw [<- hm,qm hs] at hlm;have HLM:=Vh hlm;clear hm hlm ho hh hki hq hs hS hsh hss jC hwo hrb ht0 ht1;generalize hmv:qY .lock ⟨k,x,ws,p⟩=mv at *;have HMV:=Vh hmv;clear hmv;refine GO fun w HT=>?_
 have HT:=Vh (HT.out.m [Qm kb L.fb pv (Q7 L k) k,gd,e.1,gC,gW,gP]);have HX:=Vh hx;have HD:=Vh hd;have HW:=Vh hw;have bF:=Vh aU;have gI:=Vh hsv;clear hx hd hw aU hsv;have HB:=Vh (show cl bk 88 #[Qb kb]∈e.1 from hb);clear hb;have bM:=HT.bu 2 HB;simp only [] at bM;go_enter func272,ntmps272
 go_wp2_with fail
 obtain ⟨ι,W,hW0,hend,hin⟩:∃ (ι:Type) (W:ι->World),(∃ i,UT w=W i)/\(∀ i,∃ gx,Qf L x gx/\TG [Qm kb L.fb pv (Q7 L k) k++(gd++e.1),gC++(gW++gP)] w [Qm kb L.fb pv (Q7 L k) k,gd,e.1,gx,gW,gP] (W i))/\(∀ w',(∃ gx,Qf L x gx/\TG [Qm kb L.fb pv (Q7 L k) k++(gd++e.1),gC++(gW++gP)] w [Qm kb L.fb pv (Q7 L k) k,gd,e.1,gx,gW,gP] w')->∃ i,w'=W i):=⟨{w' // ∃ gx,Qf L x gx/\TG [Qm kb L.fb pv (Q7 L k) k++(gd++e.1),gC++(gW++gP)] w [Qm kb L.fb pv (Q7 L k) k,gd,e.1,gx,gW,gP] w'},UW,⟨⟨_,gC,HX,HT.drew⟩,rfl⟩,fun i=>i.2,fun w' h=>⟨⟨w',h⟩,rfl⟩⟩;have hne:Nonempty ι:=hW0.elim fun i _=>⟨i⟩
 have b0:∀ i,(W i).cell? ⟨bk,0,none⟩=some (Qb kb):=fun i=>by obtain ⟨_,_,T⟩:=hend i;exact T.ah 2 HB 0
 have k10:∀ i,(W i).cell? ⟨kb,10,none⟩=some (Qb q.b):=fun i=>by obtain ⟨_,_,T⟩:=hend i;exact gI.out ▸ T.c 0 0 10
 have k1:∀ i,(W i).cell? ⟨kb,1,none⟩=some (U1 U5 k.th):=fun i=>by obtain ⟨_,_,T⟩:=hend i;exact T.c 0 0 1
 have m1:∀ i,Calls prog 33 #[Qb q.b] (W i) fun e w2=>e=U6 (Qb q.lb)/\∃ j,w2=W j:=fun i=>by
  obtain ⟨_,hg,T⟩:=hend i;refine (Qa.use (uj _ hg) T [3] rfl rfl).mono ?_
  rintro e w2 ⟨gs,⟨rfl,g3,hg3,rfl⟩,T2⟩;exact ⟨rfl,hin _ ⟨g3,hg3,T2⟩⟩
 have m2:∀ i,Calls prog 273 #[Qb q.lb,U1 U5 k.th] (W i) fun e w2=>e=U6 (.bool mv)/\∃ j,w2=W j:=fun i=>by
  obtain ⟨_,hg,T⟩:=hend i;refine (Qa.use (HLM _ hg) T [3] rfl rfl).mono ?_
  rintro e w2 ⟨gs,⟨rfl,g3,hg3,rfl⟩,T2⟩;exact ⟨rfl,hin _ ⟨g3,hg3,T2⟩⟩
 refine Jv W (by kernel_rfl) (by kernel_rfl) hW0 ?_
 repeat (go_big_quiet_step ((first | (go_at_call 33;with_reducible exact m1 _) | (go_at_call 273;with_reducible exact m2 _))))
 refine UD ?_
 intro _ hw;obtain ⟨iq,hw2⟩:=hw;subst hw2;obtain ⟨g1,hx1,T⟩:=hend iq;have HT:=Vh T;generalize W iq=w1 at HT |-;clear T hend hin hW0 hne;have jI:=Vh hx1;clear hx1 b0 k10 k1 m1 m2;go_wp2
 go_ret
 exact ⟨_,zO.of ⟨_,_,by rw [HMV.out];rfl,⟨gd,g1,gW,gP,HD,jI,HW,bF,rfl,rfl⟩,rfl⟩,HT.bW⟩
theorem q3d (hz:ze L kb pv e ⟨k,x,ws,p⟩ gK gF) (hp:uN .unlock ⟨k,x,ws,p⟩) (bk:Nat) (hb:gG kb bk e) :
 Qa prog 284 #[Qb bk] [gK,gF] (mU L kb pv e (Q6 .unlock ⟨k,x,ws,p⟩)):=by
 obtain ⟨ho,hh,hwho,rX⟩:=hp;obtain ⟨gd,gC,gW,gP,hd,hx,hw,aU,rfl,rfl⟩:=hz;obtain ⟨i,q,s,S,hki,hq,hs,hS,hsv,hsh,hss,jC,hwo,hrb,ht0,ht1⟩:=wm hx hw ho hh;rw [hss] at hwho;have hth:0<=k.th/\k.th<=1000000:=⟨ho.th,rX⟩;clear rX;have hwho:s.who=k.th+1:=hwho
 rw [show Q6 .unlock ⟨k,x,ws,p⟩=⟨k,{ x with au:=x.au.set i { s with who:=0,turns:=s.turns } },ws,p⟩ by
  simp only [Q6,ZT.dh,hss,hsh]]
 have uj:=Vh (fun (g:List ak) (hg:Qf L x g)=>JN hg hq hs);have B5:=Vh (fun (g:List ak) (hg:Qf L x g)=>Ka (v:=U1 U5 0) hg hq hs fun g hl=>qo4 k.th (hwho ▸ hl) ⟨hth.1,by omega⟩);clear hth ho hh hki hq hs hS hsh hss jC hwo hrb ht0 ht1 hwho;refine GO fun w HT=>?_
 have HT:=Vh (HT.out.m [Qm kb L.fb pv (Q7 L k) k,gd,e.1,gC,gW,gP]);have HX:=Vh hx;have HD:=Vh hd;have HW:=Vh hw;have bF:=Vh aU;have gI:=Vh hsv;clear hx hd hw aU hsv;have HB:=Vh (show cl bk 88 #[Qb kb]∈e.1 from hb);clear hb;have bM:=HT.bu 2 HB;simp only [] at bM;go_enter func284,ntmps284
 go_wp2_with fail
 obtain ⟨ι,W,hW0,hend,hin⟩:∃ (ι:Type) (W:ι->World),(∃ i,UT w=W i)/\(∀ i,∃ gx,Qf L x gx/\TG [Qm kb L.fb pv (Q7 L k) k++(gd++e.1),gC++(gW++gP)] w [Qm kb L.fb pv (Q7 L k) k,gd,e.1,gx,gW,gP] (W i))/\(∀ w',(∃ gx,Qf L x gx/\TG [Qm kb L.fb pv (Q7 L k) k++(gd++e.1),gC++(gW++gP)] w [Qm kb L.fb pv (Q7 L k) k,gd,e.1,gx,gW,gP] w')->∃ i,w'=W i):=⟨{w' // ∃ gx,Qf L x gx/\TG [Qm kb L.fb pv (Q7 L k) k++(gd++e.1),gC++(gW++gP)] w [Qm kb L.fb pv (Q7 L k) k,gd,e.1,gx,gW,gP] w'},UW,⟨⟨_,gC,HX,HT.drew⟩,rfl⟩,fun i=>i.2,fun w' h=>⟨⟨w',h⟩,rfl⟩⟩;have hne:Nonempty ι:=hW0.elim fun i _=>⟨i⟩
 have b0:∀ i,(W i).cell? ⟨bk,0,none⟩=some (Qb kb):=fun i=>by obtain ⟨_,_,T⟩:=hend i;exact T.ah 2 HB 0
 have k10:∀ i,(W i).cell? ⟨kb,10,none⟩=some (Qb q.b):=fun i=>by obtain ⟨_,_,T⟩:=hend i;exact gI.out ▸ T.c 0 0 10
 have k1:∀ i,(W i).cell? ⟨kb,1,none⟩=some (U1 U5 k.th):=fun i=>by obtain ⟨_,_,T⟩:=hend i;exact T.c 0 0 1
 have m1:∀ i,Calls prog 33 #[Qb q.b] (W i) fun e w2=>e=U6 (Qb q.lb)/\∃ j,w2=W j:=fun i=>by
  obtain ⟨_,hg,T⟩:=hend i;refine (Qa.use (uj _ hg) T [3] rfl rfl).mono ?_
  rintro e w2 ⟨gs,⟨rfl,g3,hg3,rfl⟩,T2⟩;exact ⟨rfl,hin _ ⟨g3,hg3,T2⟩⟩
 refine Z6 (fun w'=>∃ i,w'=W i) 9 (by kernel_rfl) (by kernel_rfl) hW0 ?_
 simp only [bY]
 repeat (go_big_quiet_step ((first | (go_at_call 33;with_reducible exact m1 _))))
 refine UD ?_
 intro _ hw';obtain ⟨iq,hw''⟩:=hw';subst hw'';obtain ⟨g1,hx1,T⟩:=hend iq;have HT:=Vh T;generalize W iq=w1 at HT |-;clear T hend hin hW0 hne;have jI:=Vh hx1;clear hx1 b0 k10 k1 m1;go_wp2_with fail
 refine Qa.run (B5 _ jI) (HT) [3] ?_
 rintro e w1 gs ⟨rfl,g2,hx2,rfl⟩ HT;simp only [PU] at HT;have HX:=Vh hx2;clear hx2;go_wp2_with fail
 refine ⟨rfl,?_⟩
 go_wp2
 exact UH (UI rfl _ _ _) rfl ⟨_,mU.of ⟨e,dF.refl e,_,_,rfl,⟨gd,_,gW,gP,HD,HX,HW,bF,rfl,rfl⟩,rfl⟩,HT.bW⟩
end
section
variable {L:Lay} {x:Qi} {ws:List Qg} {p:Q2} {e:ET} {g gC gK gF:List ak} {kb:Nat} {pv sv:Value} {k:Xi}
theorem q3b (hz:ze L kb pv e ⟨k,x,ws,p⟩ gK gF) (hp:uN .leave1 ⟨k,x,ws,p⟩) (bk:Nat) (hb:gG kb bk e) :
 Qa prog 261 #[Qb bk] [gK,gF] (mU L kb pv e (Q6 .leave1 ⟨k,x,ws,p⟩)):=by
 have hi0:=hp.1.core.i0;have hi1:=hp.1.core.i1;simp only at hi0 hi1;clear hp;simp only [Q6];obtain ⟨gd,gC,gW,gP,hd,hx,hw,aU,rfl,rfl⟩:=hz;refine GO fun w HT=>?_
 have HT:=Vh (HT.out.m [Qm kb L.fb pv (Q7 L k) k,gd,e.1,gC,gW,gP]);have HX:=Vh hx;have HD:=Vh hd;have HW:=Vh hw;have bF:=Vh aU;clear hx hd hw aU;have qH:=Vh (PY HX ⟨hi0,hi1⟩);clear hi0 hi1;have HB:=Vh (show cl bk 88 #[Qb kb]∈e.1 from hb);clear hb;have b0:=HT.ah 2 HB 0;have bM:=HT.bu 2 HB;simp only [bP] at b0 bM;have k0:=HT.c 0 0 0;simp only [Xm,az] at k0;go_enter func261,ntmps261
 go_wp2_with fail
 refine Qa.run qH HT [3] ?_
 rintro e w1 gs ⟨rfl,g2,hx2,rfl⟩ HT;simp only [PU] at HT;have HX:=Vh hx2;clear hx2;go_wp2
 exact UH (UI rfl _ _ _) rfl ⟨_,mU.of ⟨e,dF.refl e,_,_,rfl,⟨gd,_,gW,gP,HD,HX,HW,bF,rfl,rfl⟩,rfl⟩,HT.bW⟩
theorem q3a (hz:ze L kb pv e ⟨k,x,ws,p⟩ gK gF) (hp:uN .answer ⟨k,x,ws,p⟩) (bk:Nat) (hb:gG kb bk e) :
 Qa prog 262 #[Qb bk] [gK,gF] (mU L kb pv e (Q6 .answer ⟨k,x,ws,p⟩)):=by
 have oV:=Vh (show x.tr.length<=1000000 from hp.1.core.tr);clear hp;rw [show Q6 .answer ⟨k,x,ws,p⟩=⟨k,{ x with tr:=x.tr++[ll k { bL with kind:=2,err:=k.err }] },ws,p⟩ from rfl];obtain ⟨gd,gC,gW,gP,hd,hx,hw,aU,rfl,rfl⟩:=hz;refine GO fun w HT=>?_
 have HT:=Vh (HT.out.m [Qm kb L.fb pv (Q7 L k) k,gd,e.1,gC,gW,gP]);have HX:=Vh hx;have HD:=Vh hd;have HW:=Vh hw;have bF:=Vh aU;clear hx hd hw aU;have hnt:=yS (kb:=kb) (pv:=pv) (sv:=Q7 L k) (k:=k) HX { bL with kind:=2,err:=k.err } oV;simp only [EvS.cells,bL] at hnt;have oh:=Vh hnt;clear hnt oV;have HB:=Vh (show cl bk 88 #[Qb kb]∈e.1 from hb);clear hb;have b0:=HT.ah 2 HB 0;have bM:=HT.bu 2 HB;simp only [bP] at b0 bM;have k3:=HT.c 0 0 3;simp only [Xm,az] at k3;go_enter func262,ntmps262
 go_wp2_with fail
 refine Mx 7 ?_
 simp only [bY]
 repeat (go_big_quiet_step ((fail)))
 refine UD (QT HT fun nq HT=>?_)
 go_wp2_with fail
 refine Qa.run oh HT [0,3] ?_
 rintro e w1 gs ⟨rfl,g2,hx2,rfl⟩ HT;simp only [PU] at HT;have HX:=Vh hx2;clear hx2;go_wp2_with fail
 refine ⟨rfl,?_⟩
 go_wp2
 exact UH (UI rfl _ _ _) rfl ⟨_,mU.of ⟨e,dF.refl e,_,_,rfl,⟨gd,_,gW,gP,HD,HX,HW,bF,rfl,rfl⟩,rfl⟩,HT.bW⟩
theorem q6m (hz:ze L kb pv e ⟨k,x,ws,p⟩ gK gF) (hp:uN .drop ⟨k,x,ws,p⟩) (bk:Nat) (hb:gG kb bk e) :
 Qa prog 346 #[Qb bk] [gK,gF] (mU L kb pv e (Q6 .drop ⟨k,x,ws,p⟩)):=by
 have hcore:pR x:=hp.1.core;clear hp;simp only [Q6];obtain ⟨gd,gC,gW,gP,hd,hx,hw,aU,rfl,rfl⟩:=hz;refine GO fun w HT=>?_
 have HT:=Vh (HT.out.m [Qm kb L.fb pv (Q7 L k) k,gd,e.1,gC,gW,gP]);have HX:=Vh hx;have HD:=Vh hd;have HW:=Vh hw;have bF:=Vh aU;clear hx hd hw aU;have HDR:=Vh (fun (g:List ak) (hx:Qf L x g)=>KF hx hcore.aa.c0 (by have:=hcore.aa.c1;have:=hcore.aa.n1;omega));clear hcore;have HB:=Vh (show cl bk 88 #[Qb kb]∈e.1 from hb);clear hb;have b0:=HT.ah 2 HB 0;have bM:=HT.bu 2 HB;simp only [bP] at b0 bM;have k0:=HT.c 0 0 0;simp only [Xm,az] at k0;go_enter func346,ntmps346
 go_wp2_with fail
 refine Qd.run (Qn HX) HT [3] ?_
 rintro e wq rfl HT;go_wp2_with fail
 refine Qa.run (HDR _ HX) (HT) [3] ?_
 rintro e w1 gs ⟨rfl,g2,hx2,rfl⟩ HT;simp only [PU] at HT;have HX:=Vh hx2;clear hx2;go_wp2
 exact UH (UI rfl _ _ _) rfl ⟨_,mU.of ⟨e,dF.refl e,_,_,rfl,⟨gd,_,gW,gP,HD,HX,HW,bF,rfl,rfl⟩,rfl⟩,HT.bW⟩
theorem Hf (f:Xj) (hz:ze L kb pv e ⟨k,x,ws,p⟩ gK gF) (hp:uN (.put f) ⟨k,x,ws,p⟩) (bk bf:Nat) (hb:gG kb bk e) (hbf:cl bf 63 f.vals.toArray∈e.1) :
 Qa prog 326 #[Qb bk,Qb bf] [gK,gF] (mU L kb pv e (Q6 (.put f) ⟨k,x,ws,p⟩)):=by
 have hpo:Gb p:=hp.1.pipe;clear hp;simp only [Q6];obtain ⟨gd,gC,gW,gP,hd,hx,hw,aU,rfl,rfl⟩:=hz;refine GO fun w HT=>?_
 have HT:=Vh (HT.out.m [Qm kb L.fb pv (Q7 L k) k,gd,e.1,gC,gW,gP]);have HX:=Vh hx;have HD:=Vh hd;have HW:=Vh hw;have bF:=Vh aU;clear hx hd hw aU;have hput:=qwz bF f hpo.sp;simp only [Xj.vals] at hput hbf;have xW:=Vh hput;clear hput hpo;have f0:=HT.ah 2 hbf 0;have f1:=HT.ah 2 hbf 1;have f2:=HT.ah 2 hbf 2;have f3:=HT.ah 2 hbf 3;have ltf:=HT.bu 2 hbf;simp only [az] at f0 f1 f2 f3 ltf;clear hbf;have HB:=Vh (show cl bk 88 #[Qb kb]∈e.1 from hb);clear hb;have b0:=HT.ah 2 HB 0;have bM:=HT.bu 2 HB;simp only [bP] at b0 bM;have k0:=HT.c 0 0 0;simp only [Xm,az] at k0;go_enter func326,ntmps326
 go_wp2_with fail
 refine Mx 6 ?_
 simp only [bY]
 repeat (go_big_quiet_step ((first | (go_at_call 31;with_reducible exact Qd.quiet (Yf HX.out) HT.out _ [3] rfl rfl))))
 refine UD (QT HT fun nq HT=>?_)
 go_wp2_with fail
 refine Qa.run xW HT [5] ?_
 rintro e w1 gs ⟨rfl,g2,hp2,rfl⟩ HT;simp only [PU] at HT;have bF:=Vh hp2;clear hp2;go_wp2_with fail
 refine ⟨rfl,?_⟩
 go_wp2
 exact UH (UI rfl _ _ _) rfl ⟨_,mU.of ⟨e,dF.refl e,_,_,rfl,⟨gd,_,gW,_,HD,HX,HW,bF,rfl,rfl⟩,rfl⟩,HT.bW⟩
theorem q83 (hz:ze L kb pv e ⟨k,x,ws,p⟩ gK gF) (hp:uN .rel ⟨k,x,ws,p⟩) (bk:Nat) (hb:gG kb bk e) :
 Qa prog 345 #[Qb bk] [gK,gF] (mU L kb pv e (Q6 .rel ⟨k,x,ws,p⟩)):=by
 have hok:pR x:=hp.1.core;obtain ⟨w0,w1,w2⟩:=Y4 hok.aa k.t.slot;simp only [Q6];have HY:=Vh (show ∀ g',Qf L x g'->_ from fun g' hx'=>AO (g:=g') hx' hok.aa.n1 k.t.slot (x.aa.word k.t.slot) 10 w0 w1);have kL:=Vh (show ∀ g',Qf L x g'->_ from fun g' hx'=>yO (g:=g') hx' hok.aa.n1 k.t.slot);clear w0 w1 w2 hok hp;obtain ⟨gd,gC,gW,gP,hd,hx,hw,aU,rfl,rfl⟩:=hz;refine GO fun w HT=>?_
 have HT:=Vh (HT.out.m [Qm kb L.fb pv (Q7 L k) k,gd,e.1,gC,gW,gP]);have HX:=Vh hx;have HD:=Vh hd;have HW:=Vh hw;have bF:=Vh aU;clear hx hd hw aU;have HB:=Vh (show cl bk 88 #[Qb kb]∈e.1 from hb);clear hb;have b0:=HT.ah 2 HB 0;have bM:=HT.bu 2 HB;simp only [bP] at b0 bM;obtain ⟨k0,k12⟩:=HT.c2 0 0 0 12;simp only [Xm,az] at k0 k12;go_enter func345,ntmps345
 go_wp2_with fail
 refine Mx 10 ?_
 simp only [bY]
 repeat (go_big_quiet_step ((first | (go_at_call 19;with_reducible exact Qd.quiet (Qn HX.out) HT.out _ [3] rfl rfl))))
 refine UD (QT HT fun nq HT=>?_)
 go_wp2_with fail
 refine Qa.run (kL _ HX) (HT) [3] ?_
 rintro e w1 gs ⟨rfl,g1,hx1,rfl⟩ HT;simp only [PU] at HT;have HX:=Vh hx1;clear hx1 k0 k12 b0 bM;go_wp2_with fail
 refine ⟨rfl,?_⟩
 have hb:=HB.out;have HB:=Vh (show cl bk 88 #[Qb kb]∈e.1 from hb);clear hb;have b0:=HT.ah 2 HB 0;have bM:=HT.bu 2 HB;simp only [bP] at b0 bM;obtain ⟨k0,k12⟩:=HT.c2 0 0 0 12;simp only [Xm,az] at k0 k12;go_wp2_with fail
 refine Mx 11 ?_
 simp only [bY]
 repeat (go_big_quiet_step ((first | (go_at_call 19;with_reducible exact Qd.quiet (Qn HX.out) HT.out _ [3] rfl rfl))))
 refine UD (QT HT fun nq HT=>?_)
 go_wp2_with fail
 refine Qa.run (HY _ HX) (HT) [3] ?_
 rintro e w1 gs ⟨rfl,g2,hx2,rfl⟩ HT;simp only [PU] at HT;have kM:=Vh hx2;clear hx2 k0 k12 b0;go_wp2_with fail
 refine ⟨rfl,?_⟩
 go_wp2
 exact UH (UI rfl _ _ _) rfl ⟨_,mU.of ⟨e,dF.refl e,_,_,rfl,⟨gd,_,gW,gP,HD,kM,HW,bF,rfl,rfl⟩,rfl⟩,HT.bW⟩
theorem q6q (d:Nat) (hz:ze L kb pv e ⟨k,x,ws,p⟩ gK gF) (hp:uN (.bG d) ⟨k,x,ws,p⟩) (bk bd:Nat) (hb:gG kb bk e) (hbd:e.2[d]?=some bd) :
 Qa prog 279 #[Qb bk,Qb bd] [gK,gF] (mU L kb pv e (Q6 (.bG d) ⟨k,x,ws,p⟩)):=by
 obtain ⟨ho,hh,hc⟩:=hp;have hc:k.nd=d+1:=hc;obtain ⟨gd,gC,gW,gP,hd,hx,hw,aU,rfl,rfl⟩:=hz;obtain ⟨i,q,s,S,hki,hq,hs,hS,hsv,hsh,hss,jC,hwo,hrb,ht0,ht1⟩:=wm hx hw ho hh;obtain ⟨v0,gr,hr,rfl⟩:=Lv hd hc hbd;rw [show Q6 (.bG d) ⟨k,x,ws,p⟩=⟨{ k with due:=S.fH.2.map gU.v },x,ws.set i S.fH.1,p⟩ by simp only [Q6,hsh,jC]];have HTU:=Vh (qvs hx hw hq hs hS hwo);have HL:=Vh (V9 hd.1 (V9 hc hbd));clear ho hh hc hd hr hki hq hs hS hsh hss jC hwo hrb ht0 ht1 hbd;refine GO fun w HT=>?_
 have HT:=Vh (HT.out.sum (H':=[Qm kb L.fb pv (Q7 L k) k,[cl bd 354 #[v0]],e.1,gC,gW,gP,gr]));have bF:=Vh aU;clear hx hw aU;have HB:=Vh (show cl bk 88 #[Qb kb]∈e.1 from hb);clear hb;have b0:=HT.ah 2 HB 0;have bM:=HT.bu 2 HB;simp only [bP] at b0 bM;have k10:=HT.c 0 0 10;simp only [Xm,az,hsv] at k10;clear hsv;go_enter func279,ntmps279
 go_wp2_with fail
 refine Qa.run HTU HT [3,4] ?_
 rintro e w1 gs ⟨v,g5,rfl,hr,jm,gM,hx',hw',rfl⟩ HT;simp only [PU] at HT;have HX:=Vh hx';have HW:=Vh hw';have HR:=Vh hr;clear hx' hw' k10 b0 bM;obtain ⟨av,cap,rfl⟩:=hr.val;clear hr;have d0:=HT.c 1 0 0;have fd0:=HT.f 1 0 0;simp only [aN] at d0;go_wp2
 exact UH (UI rfl _ _ _) rfl ⟨_,mU.of ⟨e,dF.refl e,_,_,rfl,⟨[cl bd 354 #[.slice av S.fH.2.length cap]]++g5,_,_,_,⟨HL.1,.inr ⟨d,bd,_,g5,HL.2.1,HL.2.2,by rw [UU];exact HR,rfl⟩⟩,HX,HW,bF,(rfl:Qm kb L.fb pv (Q7 L k) { k with due:=S.fH.2.map gU.v }++(([cl bd 354 #[.slice av S.fH.2.length cap]]++g5)++e.1)=_),rfl⟩,rfl⟩,(((HT.set 1 0 rfl 0 (.slice av S.fH.2.length cap)).eq (H':=[Qm kb L.fb pv (Q7 L k) { k with due:=S.fH.2.map gU.v },[cl bd 354 #[.slice av S.fH.2.length cap]],e.1,jm,gM,gP,gr,g5]) rfl).p [0,1,2,3,4,5,7]).bW⟩
theorem q8v (i:Nat) (hz:ze L kb pv e ⟨k,x,ws,p⟩ gK gF) (hp:Fg (.ready i) ⟨k,x,ws,p⟩) {q:ik} (hq:L.qs[i]?=some q) :
 Qa prog 291 #[Qb q.b] [gK,gF] (zO L kb pv e (.ready i) ⟨k,x,ws,p⟩):=by
 obtain ⟨ho,hi⟩:=hp;have hi:i<x.au.length:=hi;have hs:x.au[i]?=some x.au[i]:=List.getElem?_eq_getElem hi;have hrb:zu x.au[i].ring:=ho.core.ring _ (List.getElem_mem hi)
 have hm:qY (.ready i) ⟨k,x,ws,p⟩=x.au[i].ring.ready:=by
  simp only [qY,UL,hs,Option.getD_some]
 obtain ⟨gd,gC,gW,gP,hd,hx,hw,aU,rfl,rfl⟩:=hz;intro w hw';have T:=(TG.refl hw').m [Qm kb L.fb pv (Q7 L k) k,gd,e.1,gC,gW,gP];refine (Qa.use (qvr hx hq hs hrb) T [3] rfl rfl).mono ?_
 rintro en w' ⟨gs,⟨rfl,g',hx',rfl⟩,T'⟩;simp only [PU] at T';exact ⟨_,zO.of ⟨_,_,by rw [hm],⟨gd,g',gW,gP,hd,hx',hw,aU,rfl,rfl⟩,rfl⟩,T'.bW⟩
end
section
variable {L:Lay} {x:Qi} {ws:List Qg} {p:Q2} {e:ET} {g gC gK gF:List ak} {kb:Nat} {pv sv:Value} {k:Xi}
theorem q8k (d:Nat) (hz:ze L kb pv e ⟨k,x,ws,p⟩ gK gF) (hp:jZ (.bX d) ⟨k,x,ws,p⟩) (bk bd:Nat) (hb:gG kb bk e) (hbd:e.2[d]?=some bd) :
 Qa prog 276 #[Qb bk,Qb bd] [gK,gF] (dI L kb pv e (runT (.bX d) ⟨k,x,ws,p⟩).1 (runT (.bX d) ⟨k,x,ws,p⟩).2):=by
 obtain ⟨ho,hh,hc⟩:=hp;obtain ⟨gd,gC,gW,gP,hd,hx,hw,aU,rfl,rfl⟩:=hz;obtain ⟨i,q,s,S,hki,hq,hs,hS,hsv,hsh,hss,jC,hwo,hrb,ht0,ht1⟩:=wm hx hw ho hh;have hwt:=qok hx hq hs hrb;have hpo:=Oj (kb:=kb) (pv:=pv) (k:=k) hq (s.ring.tail - s.ring.head);have hon:∀ (e':ET) gK gF,ze L kb pv e' ⟨k,x,ws,p⟩ gK gF->gG kb bk e'->e'.2[d]?=some bd->_:=fun e' gK gF hz h1 h2=>SK d hz bk bd h1 h2
 simp only [runT,hss,Q5,hsh];generalize s.ring.tail - s.ring.head=n at *;by_cases hn:n<=0
 ·rw [if_pos hn] at hpo |-
  obtain ⟨sq,hst⟩:∃ sq,J0 d ⟨k,x,ws,p⟩=(sq,⟨k,x,ws,p⟩):=⟨_,rfl⟩;rw [hst] at hon |-;dsimp only at hon |-
  refine GO fun w HT=>?_
  have HT:=Vh (HT.out.m [Qm kb L.fb pv (Q7 L k) k,gd,e.1,gC,gW,gP]);have HD:=Vh hd;have HW:=Vh hw;have bF:=Vh aU;have GN:=Vh hwt;rw [<- hsv] at hpo;have BD:=Vh hpo;have HON:=Vh hon;have gI:=Vh hsv;have HB:=Vh (show cl bk 88 #[Qb kb]∈e.1 from hb);have mV:=Vh hbd;clear ho hh hc hx hw hd aU hki hq hs hS hsv hsh hss jC hwo hrb ht0 ht1 hwt hpo hon hb hbd hn hst;go_enter func276,ntmps276
  go_wp2_with fail
  have HT:=Vh (HT.out.a 153 #[U3,U3]);generalize UM w _=w1 at HT |-;generalize w.heap.size=sb at *;have b0:=HT.ah 2 HB 0;have k10:=HT.c 0 0 10;have bM:=HT.bu 2 HB;have jw:=HT.l 0 0;simp only [Xm,az,gI.out] at b0 k10 bM jw
  go_region_held3 (fun w'=>w'.cell? ⟨bk,0,none⟩=some (Qb kb)/\w'.cell? ⟨kb,10,none⟩=some (Qb q.b))
   (first
   | exact ⟨b0,k10⟩
   | exact ⟨q1,q2⟩
   | exact ⟨r1,r2⟩
   | exact ⟨s1,s2⟩
   | exact ⟨t1,t2⟩)
   (first
   | (go_at_call 35
      refine (Qa.use GN HT.drew [3] rfl rfl).mono ?_
      rintro e w7 ⟨gs,⟨rfl,g1,hx1,rfl⟩,Ta⟩;simp only [PU] at Ta;have ed:=Vh Ta;have GQ:=Vh hx1;clear Ta hx1;have q1:=ed.ah 2 HB 0;have q2:=ed.c 0 0 10
      simp only [Xm,az,gI.out] at q1 q2)
   | (go_at_call 277
      refine (Qa.use BD ed [0] rfl rfl).mono ?_
      rintro e w8 ⟨gs,⟨g2,l2,⟨m2,d2,rfl,hs2⟩,rfl⟩,Ta⟩;simp only [PU] at Ta;obtain ⟨rfl,rfl,rfl⟩:=hs2 (l2,[]) (fun _ h=>h);have kZ:=Vh (Ta.bW (H':=[Qm kb L.fb pv (Q7 L k) k,gd,e.1,g1,gW,gP,[cl sb 153 #[U3,U3]],l2]));clear Ta hs2;have r1:=kZ.ah 2 HB 0;have r2:=kZ.c 0 0 10;simp only [Xm,az,gI.out] at r1 r2;have hth:=KP (first:=#[]) (aK:=#[Qb bk,Qb bd]) (enters_of func278 (by kernel_rfl) rfl) (HON (e.1++l2,e.2) (Qm kb L.fb pv (Q7 L k) k++(gd++(e.1++l2))) (g1++(gW++gP)) ⟨gd,g1,gW,gP,HD,GQ,HW,bF,rfl,rfl⟩ (UJ _ HB) mV) (fun _ _ h=>dI.fv h);have nD:=Vh hth
      clear hth)
   | (go_at_call 196
      refine (Qa.use nD (kZ.bW (H':=[Qm kb L.fb pv (Q7 L k) k++(gd++(e.1++l2)),g1++(gW++gP),[cl sb 153 #[U3,U3]]])) [0,1] rfl rfl).mono ?_
      rintro e w9 ⟨gs,⟨e2,hl2,m3,d3,g3,zY,zX,rfl,hs3,hz3,rfl⟩,Ta⟩;simp only [PU] at Ta;have oU:=Vh Ta;have HL2:=Vh hl2;have hbx:cl bk 88 #[Qb kb]∈e2.1:=hl2.b _ (UJ _ HB);obtain ⟨MY,gC3,gW3,gP3,hd3,hx3,hw3,CE,rfl,rfl⟩:=hz3;have HZ3:=Vh (show ze L kb pv e2 ⟨k,x,ws,p⟩ _ _ from ⟨MY,gC3,gW3,gP3,hd3,hx3,hw3,CE,rfl,rfl⟩);clear Ta hl2 hd3 hx3 hw3 CE;have Ij:cl bk 88 #[Qb kb]∈Qm kb L.fb pv (Q7 L k) k++(MY++e2.1):=U4 _ (U4 _ hbx);obtain ⟨z0,z1⟩:=oU.c2 2 0 0 1;obtain ⟨zV,zW⟩:=oU.f2 2 0 0 1;have hv2:=(Q9 L kb pv _).vals hs3;have HS:=Vh hs3;have s1:=oU.ah 1 Ij 0;have s2:=oU.c 1 0 10;simp only [Xm,az,gI.out] at z0 z1 s1 s2;obtain ⟨st1,st2⟩:=aV.aD (P:=prog) hv2.1 hv2.2 z0 zV z1 zW;have jN:=Vh ((oU.set 2 0 rfl 0 m3).set 2 0 rfl 1 d3);have t1:=jN.ah 1 Ij 0;have t2:=jN.c 1 0 10;simp only [Xm,az,gI.out] at t1 t2
      clear hv2 hs3 hbx Ij))
  all_goals
   obtain ⟨y0,y1⟩:=jN.c2 2 0 0 1;simp only [Array.set!,US,UY,UZ,az] at y0 y1;clear b0 k10 q1 q2 r1 r2 s1 s2 t1 t2 z0 z1 zV zW st1 st2 ed kZ oU;generalize UK (UK w9 _ _) _ _=w5 at jN y0 y1 |-;go_wp2
   exact U9 (v:=.agg #[_,_]) (by simp [results,results276,go_sem,y0,y1]) rfl ⟨_,dI.of ⟨e2,(dF.app e l2).trans HL2,m3,d3,g3,_,_,rfl,HS,HZ3,rfl⟩,jN.p [0,1,3]⟩
 ·rw [if_neg hn] at hpo |-
  rw [if_neg hn];dsimp only
  refine GO fun w HT=>?_
  have HT:=Vh (HT.out.m [Qm kb L.fb pv (Q7 L k) k,gd,e.1,gC,gW,gP]);have HD:=Vh hd;have HW:=Vh hw;have bF:=Vh aU;have GN:=Vh hwt;rw [<- hsv] at hpo;have BD:=Vh hpo;have gI:=Vh hsv;have HB:=Vh (show cl bk 88 #[Qb kb]∈e.1 from hb);have mV:=Vh hbd;clear ho hh hc hx hw hd aU hki hq hs hS hsv hsh hss jC hwo hrb ht0 ht1 hwt hpo hon hb hbd hn;go_enter func276,ntmps276
  go_wp2_with fail
  have HT:=Vh (HT.out.a 153 #[U3,U3]);generalize UM w _=w1 at HT |-;generalize w.heap.size=sb at *;have b0:=HT.ah 2 HB 0;have k10:=HT.c 0 0 10;have bM:=HT.bu 2 HB;have jw:=HT.l 0 0;simp only [Xm,az,gI.out] at b0 k10 bM jw
  go_region_held3 (fun w'=>w'.cell? ⟨bk,0,none⟩=some (Qb kb)/\w'.cell? ⟨kb,10,none⟩=some (Qb q.b))
   (first
   | exact ⟨b0,k10⟩
   | exact ⟨q1,q2⟩
   | exact ⟨r1,r2⟩
   | exact ⟨s1,s2⟩
   | exact ⟨t1,t2⟩)
   (first
   | (go_at_call 35
      refine (Qa.use GN HT.drew [3] rfl rfl).mono ?_
      rintro e w7 ⟨gs,⟨rfl,g1,hx1,rfl⟩,Ta⟩;simp only [PU] at Ta;have ed:=Vh Ta;have GQ:=Vh hx1;clear Ta hx1;have q1:=ed.ah 2 HB 0;have q2:=ed.c 0 0 10
      simp only [Xm,az,gI.out] at q1 q2)
   | (go_at_call 277
      refine (Qa.use BD ed [0] rfl rfl).mono ?_
      rintro e w8 ⟨gs,⟨g2,l2,⟨m2,d2,rfl,hs2⟩,rfl⟩,Ta⟩;simp only [PU] at Ta;have kZ:=Vh (Ta.bW (H':=[Qm kb L.fb pv (Q7 L k) k,gd,e.1,g1,gW,gP,[cl sb 153 #[U3,U3]],l2,g2,[]]));have HS2:=Vh hs2;clear Ta hs2;have r1:=kZ.ah 2 HB 0;have r2:=kZ.c 0 0 10
      simp only [Xm,az,gI.out] at r1 r2)
   | (go_at_call 196
      refine (Qa.use (aV.bR (c:=(lZ L kb pv).on (e.1++l2,e.2)) (s:=.at (some (.ready i)) (.bI n)) (f:=MT.ai d) (v:=U7 (U8 278) #[] #[Qb bk,Qb bd]) (gm:=[]) (Q9 L kb pv _) rfl (HS2 (e.1++l2,e.2) (fun b hb=>U4 _ hb)) ⟨rfl,bk,bd,rfl,UJ _ HB,mV⟩) kZ [8,9] rfl rfl).mono ?_
      rintro e w9 ⟨gs,⟨bs,br,rfl,rfl⟩,Ta⟩;simp only [PU] at Ta;have oU:=Vh Ta;clear Ta;have s1:=oU.ah 2 HB 0;have s2:=oU.c 0 0 10;obtain ⟨z0,z1⟩:=oU.c2 6 0 0 1;obtain ⟨zV,zW⟩:=oU.f2 6 0 0 1;have hv2:=(Q9 L kb pv _).vals (HS2 (e.1++l2,e.2) (fun b hb=>U4 _ hb));simp only [Xm,az,gI.out] at s1 s2 z0 z1;obtain ⟨st1,st2⟩:=aV.aD (P:=prog) (v':=U7 (U8 237) #[] #[Qb bs,Qb br]) hv2.1 (Or.inr ⟨_,_,_,rfl⟩) z0 zV z1 zW;have jN:=Vh ((oU.set 6 0 rfl 0 m2).set 6 0 rfl 1 (U7 (U8 237) #[] #[Qb bs,Qb br]));have t1:=jN.ah 2 HB 0;have t2:=jN.c 0 0 10;simp only [Xm,az,gI.out] at t1 t2
      clear hv2))
  all_goals
   have HS:=Vh (HS2.out (e.1++l2,e.2) (fun b hb=>U4 _ hb));obtain ⟨y0,y1⟩:=jN.c2 6 0 0 1;simp only [Array.set!,US,UY,UZ,az] at y0 y1;clear b0 k10 q1 q2 r1 r2 s1 s2 t1 t2 z0 z1 zV zW st1 st2 ed kZ oU;generalize UK (UK w9 _ _) _ _=w5 at jN y0 y1 |-;go_wp2
   exact U9 (v:=.agg #[_,_]) (by simp [results,results276,go_sem,y0,y1]) rfl ⟨_,dI.of ⟨(e.1++l2,e.2),dF.app e l2,_,_,_,_,_,rfl,⟨bs,br,_,_,g2,[],rfl,rfl,HS,⟨rfl,bk,bd,rfl,UJ _ HB,mV⟩,rfl⟩,⟨gd,g1,gW,gP,HD,GQ,HW,bF,(rfl:Qm kb L.fb pv (Q7 L k) k++(gd++(e.1++l2))=_),rfl⟩,rfl⟩,(jN.p [8,0,1,2,7,3,4,5]).bW⟩
end
theorem FW (L:Lay) (kb:Nat) (pv:Value):(lZ L kb pv).Ok where
 refl:=dF.refl
 trans h1 h2:=h1.trans h2
 mm hl h:=BP.le hl h
 ma hl h:=BN.le hl h
 v e:=Q9 L kb pv e
 m {e f v g gK gF z} hv hz hp:=by
   obtain ⟨k,x,ws,p⟩:=z;obtain ⟨rfl,hv⟩:=hv;cases f with
   | enter=>subst hv;exact ⟨_,_,_,rfl,fun _ _=>rfl,(q8i hz hp).pre rfl⟩
   | gate=>subst hv;exact ⟨_,_,_,rfl,fun _ _=>rfl,(q9u hz hp).pre rfl⟩
   | tick=>subst hv;exact ⟨_,_,_,rfl,fun _ _=>rfl,(q9x hz hp).pre rfl⟩
   | ae i=>obtain ⟨bk,bi,rfl,hb,hbi⟩:=hv;exact ⟨_,_,_,rfl,fun _ _=>rfl,(q1q i hz hp bk bi hb hbi).pre rfl⟩
   | dH d=>obtain ⟨bk,bd,rfl,hb,hbd⟩:=hv;exact ⟨_,_,_,rfl,fun _ _=>rfl,(q9v d hz hp bk bd hb hbd).pre rfl⟩
   | bX d=>obtain ⟨bk,bd,rfl,hb,hbd⟩:=hv;exact ⟨_,_,_,rfl,fun _ _=>rfl,(q8k d hz hp bk bd hb hbd).pre rfl⟩
   | ai d=>obtain ⟨bk,bd,rfl,hb,hbd⟩:=hv;exact ⟨_,_,_,rfl,fun _ _=>rfl,(SK d hz bk bd hb hbd).pre rfl⟩
   | aL d=>obtain ⟨bk,bd,rfl,hb,hbd⟩:=hv;exact ⟨_,_,_,rfl,fun _ _=>rfl,(q1p d hz hp bk bd hb hbd).pre rfl⟩
   | ay=>obtain ⟨bk,rfl,hb⟩:=hv;exact ⟨_,_,_,rfl,fun _ _=>rfl,(QI hz bk hb).pre rfl⟩
   | bI n=>obtain ⟨bk,bi,rfl,hb,hbi⟩:=hv;exact ⟨_,_,_,rfl,fun _ _=>rfl,(q8l n hz hp bk bi hb hbi).pre rfl⟩
   | ax n=>obtain ⟨bk,bi,rfl,hb,hbi⟩:=hv;exact ⟨_,_,_,rfl,fun _ _=>rfl,(SL n hz hp.1 hp.2.1 hp.2.2 bk bi hb hbi).pre rfl⟩
   | bA=>obtain ⟨bk,rfl,hb⟩:=hv;exact ⟨_,_,_,rfl,fun _ _=>rfl,(q9w hz hp bk hb).pre rfl⟩
   | aI=>obtain ⟨bk,rfl,hb⟩:=hv;exact ⟨_,_,_,rfl,fun _ _=>rfl,(q8m hz hp bk hb).pre rfl⟩
   | aF d i=>obtain ⟨bk,bp,bi,bd,rfl,hb,hbd,hbp,hbi⟩:=hv;exact ⟨_,_,_,rfl,fun _ _=>rfl,(q5g d i hz hp bk bp bi bd hb hbd hbp hbi).pre rfl⟩
   | looks=>subst hv;exact ⟨_,_,_,rfl,fun _ _=>rfl,(q8j hz hp).pre rfl⟩
   | bE=>subst hv;exact ⟨_,_,_,rfl,fun _ _=>rfl,(q5f hz hp).pre rfl⟩
   | bD=>obtain ⟨bk,rfl,hb⟩:=hv;exact ⟨_,_,_,rfl,fun _ _=>rfl,(q1o hz bk hb).pre rfl⟩
   | behind=>subst hv;exact ⟨_,_,_,rfl,fun _ _=>rfl,(q5e hz hp).pre rfl⟩
   | aY next=>obtain ⟨bk,bn,rfl,hb,hbn⟩:=hv;exact ⟨_,_,_,rfl,fun _ _=>rfl,(q5h next hz hp bk bn hb hbn).pre rfl⟩
   | aQ=>subst hv;exact ⟨_,_,_,rfl,fun _ _=>rfl,(qx3 hz hp).pre rfl⟩
 a {e f v g gK gF z} hv hz hp:=by
   obtain ⟨k,x,ws,p⟩:=z;obtain ⟨rfl,hv⟩:=hv;cases f with
   | leave1=>obtain ⟨bk,rfl,hb⟩:=hv;exact ⟨_,_,_,rfl,fun _ _=>rfl,(q3b hz hp bk hb).pre rfl⟩
   | answer=>obtain ⟨bk,rfl,hb⟩:=hv;exact ⟨_,_,_,rfl,fun _ _=>rfl,(q3a hz hp bk hb).pre rfl⟩
   | bG d=>obtain ⟨bk,bd,rfl,hb,hbd⟩:=hv;exact ⟨_,_,_,rfl,fun _ _=>rfl,(q6q d hz hp bk bd hb hbd).pre rfl⟩
   | unlock=>obtain ⟨bk,rfl,hb⟩:=hv;exact ⟨_,_,_,rfl,fun _ _=>rfl,(q3d hz hp bk hb).pre rfl⟩
   | put f=>obtain ⟨bk,bf,rfl,hb,hbf⟩:=hv;exact ⟨_,_,_,rfl,fun _ _=>rfl,(Hf f hz hp bk bf hb hbf).pre rfl⟩
   | rel=>obtain ⟨bk,rfl,hb⟩:=hv;exact ⟨_,_,_,rfl,fun _ _=>rfl,(q83 hz hp bk hb).pre rfl⟩
   | drop=>obtain ⟨bk,rfl,hb⟩:=hv;exact ⟨_,_,_,rfl,fun _ _=>rfl,(q6m hz hp bk hb).pre rfl⟩
 y {e f v g gK gF z} hv hz hp:=by
   obtain ⟨k,x,ws,p⟩:=z;obtain ⟨rfl,hv⟩:=hv;cases f with
   | lock=>obtain ⟨bk,rfl,hb⟩:=hv;exact ⟨_,_,_,rfl,fun _ _=>rfl,((q92 hz hp bk hb).pre rfl).post (by rintro e gs ⟨bg,aJ,h1,h2,rfl⟩;exact ⟨_,⟨bg,aJ,h1,h2,rfl⟩,.refl _⟩)⟩
   | ready i=>obtain ⟨q,hq,rfl⟩:=hv;exact ⟨_,_,_,rfl,fun _ _=>rfl,((q8v i hz hp hq).pre rfl).post (by rintro e gs ⟨bg,aJ,h1,h2,rfl⟩;exact ⟨_,⟨bg,aJ,h1,h2,rfl⟩,.refl _⟩)⟩
def CP (L:Lay) (kb:Nat) (pv:Value) (e:ET) (k:Xi) (gK:List ak):Prop:=∃ gd,wH e.2 k gd/\gK=Qm kb L.fb pv (Q7 L k) k++(gd++e.1)
def qE (L:Lay) (x:Qi) (ws:List Qg) (p:Q2) (gF:List ak):Prop:=∃ gC gW gP,Qf L x gC/\Jr L ws gW/\Zd L.p.pb p gP/\gF=gC++(gW++gP)
theorem A9 {L:Lay} {kb:Nat} {pv:Value} {e:ET} {gK gF:List ak} {z:ZT}:ze L kb pv e z gK gF↔CP L kb pv e z.k gK/\qE L z.x z.ws z.p gF :=
 ⟨fun ⟨gd,gC,gW,gP,a,b,c,d,h,i⟩=>⟨⟨gd,a,h⟩,⟨gC,gW,gP,b,c,d,i⟩⟩,fun ⟨⟨gd,a,h⟩,⟨gC,gW,gP,b,c,d,i⟩⟩=>⟨gd,gC,gW,gP,a,b,c,d,h,i⟩⟩
def isTurn (L:Lay) (kb:Nat) (s:ST) (n:Int) (k:Xi) (g:List ak):Prop :=
 ∃ (pb:Nat) (e:ET) (m d:Value) (cB gK:List ak),(lZ L kb (Qb pb)).SV e s m d cB/\CP L kb (Qb pb) e k gK/\g=aV.aH pb m d n++(cB++gK)
def Qy (s:ST) (z:ZT):ST × ZT:=St.run runT Q6 s z
def Ov (s:ST) (z:ZT):Prop:=St.pre runT Q6 jZ uN s z
def mM (s:ST) (z:ZT):Bool:=s.may qY z
def Gd (s:ST) (z:ZT):Prop:=St.dx Fg s z
section
variable {L:Lay} {x:Qi} {ws:List Qg} {p:Q2} {g gF:List ak} {kb:Nat} {s:ST} {n:Int} {k:Xi}
theorem q11 (hc:isTurn L kb s n k g) (hx:qE L x ws p gF) (hy:Gd s ⟨k,x,ws,p⟩) (hm:mM s ⟨k,x,ws,p⟩=true) (hp:Ov s ⟨k,x,ws,p⟩) (hb:0<=n/\n<=1000000000) :
 Qa prog 44 #[Qb kb] [g,gF] fun en gs=>∃ g' aJ,en=U6 (.bool true)/\isTurn L kb (Qy s ⟨k,x,ws,p⟩).1 (n+1) (Qy s ⟨k,x,ws,p⟩).2.k g'/\qE L (Qy s ⟨k,x,ws,p⟩).2.x (Qy s ⟨k,x,ws,p⟩).2.ws (Qy s ⟨k,x,ws,p⟩).2.p aJ/\gs=[g',aJ]:=by
 obtain ⟨pb,e,m,d,cB,gK,hs,hk,rfl⟩:=hc;have hd:=kV.fD (n:=n) (FW L kb (Qb pb)) hs (x:=(⟨k,x,ws,p⟩:ZT)) (A9.2 ⟨hk,hx⟩) hy hp pb hb hm;obtain ⟨gd,hl,rfl⟩:=hk;refine GO fun w HT=>?_
 have T1:=HT.sum (H':=[Qm kb L.fb (Qb pb) (Q7 L k) k,aV.aH pb m d n++(cB++(gd++e.1)),gF]);have k8:=T1.c 0 0 8;simp only [Xm,az] at k8;have lt:=T1.l 0 0;simp only [] at lt;have HD:=Vh hd;have HT:=Vh (HT.out.m [aV.aH pb m d n,cB,Qm kb L.fb (Qb pb) (Q7 L k) k++(gd++e.1),gF]);clear hs hl hx hy hm hp hb hd T1;go_enter func44,ntmps44
 go_wp2_with fail
 refine Qa.run HD HT [0,1,2,3] ?_
 rintro e w1 gs ⟨e',hle,m',d',nL,bg,aJ,rfl,hs',hx',rfl⟩ HT;simp only [PU] at HT;have HS:=Vh hs';have HX:=Vh (A9.1 hx');clear hs' hx' k8;go_wp2
 go_ret
 exact ⟨_,⟨_,aJ,rfl,⟨pb,e',m',d',nL,bg,HS,HX.1,rfl⟩,HX.2,rfl⟩,HT.sum⟩
theorem q8r (hc:isTurn L kb s n k g) (hx:qE L x ws p gF) (hy:Gd s ⟨k,x,ws,p⟩) (hm:mM s ⟨k,x,ws,p⟩=false) :
 Qa prog 44 #[Qb kb] [g,gF] fun en gs=>en=U6 (.bool false)/\∃ g' aJ,isTurn L kb s n k g'/\qE L x ws p aJ/\gs=[g',aJ]:=by
 obtain ⟨pb,e,m,d,cB,gK,hs,hk,rfl⟩:=hc;have hd:=kV.dU (n:=n) (FW L kb (Qb pb)) hs (x:=(⟨k,x,ws,p⟩:ZT)) (A9.2 ⟨hk,hx⟩) hy pb hm;obtain ⟨gd,hl,rfl⟩:=hk;refine GO fun w HT=>?_
 have T1:=HT.sum (H':=[Qm kb L.fb (Qb pb) (Q7 L k) k,aV.aH pb m d n++(cB++(gd++e.1)),gF]);have k8:=T1.c 0 0 8;simp only [Xm,az] at k8;have lt:=T1.l 0 0;simp only [] at lt;have HD:=Vh hd;have HS:=Vh hs;have HT:=Vh (HT.out.m [aV.aH pb m d n,cB,Qm kb L.fb (Qb pb) (Q7 L k) k++(gd++e.1),gF]);clear hs hl hx hy hm hd T1;go_enter func44,ntmps44
 go_wp2_with fail
 refine Qa.run HD HT [0,1,2,3] ?_
 rintro e w1 gs ⟨bg,aJ,rfl,hx',rfl⟩ HT;simp only [PU] at HT;have HX:=Vh (A9.1 hx');clear hx' k8;go_wp2
 go_ret
 exact ⟨_,⟨rfl,_,aJ,⟨pb,e,m,d,cB,bg,HS,HX.1,rfl⟩,HX.2,rfl⟩,HT.sum⟩
theorem q5u (hc:isTurn L kb s n k g) (hx:qE L x ws p gF) (hy:Gd s ⟨k,x,ws,p⟩) :
 Qa prog 365 #[Qb kb] [g,gF] fun en gs=>en=U6 (.bool (mM s ⟨k,x,ws,p⟩))/\∃ g' aJ,isTurn L kb s n k g'/\qE L x ws p aJ/\gs=[g',aJ]:=by
 obtain ⟨pb,e,m,d,cB,gK,hs,hk,rfl⟩:=hc;have hd:=kV.dS (n:=n) (FW L kb (Qb pb)) hs (x:=(⟨k,x,ws,p⟩:ZT)) (A9.2 ⟨hk,hx⟩) hy pb;have hd:Qa prog 146 _ _ fun en gs=>∃ bg aJ,en=U6 (.bool (mM s ⟨k,x,ws,p⟩))/\ze L kb (Qb pb) e ⟨k,x,ws,p⟩ bg aJ/\_:=hd
 generalize mM s ⟨k,x,ws,p⟩=v at *;obtain ⟨gd,hl,rfl⟩:=hk;refine GO fun w HT=>?_
 have T1:=HT.sum (H':=[Qm kb L.fb (Qb pb) (Q7 L k) k,aV.aH pb m d n++(cB++(gd++e.1)),gF]);have k8:=T1.c 0 0 8;simp only [Xm,az] at k8;have lt:=T1.l 0 0;simp only [] at lt;have HD:=Vh hd;have HS:=Vh hs;have HT:=Vh (HT.out.m [aV.aH pb m d n,cB,Qm kb L.fb (Qb pb) (Q7 L k) k++(gd++e.1),gF]);clear hs hl hx hy hd T1;go_enter func365,ntmps365
 go_wp2_with fail
 refine Qa.run HD HT [0,1,2,3] ?_
 rintro e w1 gs ⟨bg,aJ,rfl,hx',rfl⟩ HT;simp only [PU] at HT;have HX:=Vh (A9.1 hx');clear hx' k8;go_wp2
 go_ret
 exact ⟨_,⟨rfl,_,aJ,⟨pb,e,m,d,cB,bg,HS,HX.1,rfl⟩,HX.2,rfl⟩,HT.sum⟩
theorem KT (hc:isTurn L kb s n k g):Qd prog 93 #[Qb kb] [g] (.bool s.isNil):=by
 obtain ⟨pb,e,m,d,cB,gK,hs,hk,rfl⟩:=hc;have hd:=kV.eP (FW L kb (Qb pb)) hs pb n;obtain ⟨gd,hl,rfl⟩:=hk;refine GO fun w HT=>?_
 have T1:=HT.sum (H':=[Qm kb L.fb (Qb pb) (Q7 L k) k,aV.aH pb m d n++(cB++(gd++e.1))]);have k8:=T1.c 0 0 8;simp only [Xm,az] at k8;have lt:=T1.l 0 0;simp only [] at lt;have HD:=Vh hd;have HT:=Vh (HT.out.m [aV.aH pb m d n,cB,Qm kb L.fb (Qb pb) (Q7 L k) k++(gd++e.1)]);clear hs hl hd T1;go_enter func93,ntmps93
 go_wp2_with fail
 refine (Qd.use HD HT [0] rfl rfl).mono ?_
 rintro e w1 ⟨rfl,mq,rfl⟩;go_wp2
 go_ret
 exact ⟨rfl,_,rfl⟩
end
def qC (th no:Int):Xi:=⟨th,no,0,false,0,none,⟨0,0,0,0,0⟩,0,0,[]⟩
def firstT:ST:=.at none .enter
section
variable {L:Lay} {x:Qi} {ws:List Qg} {p:Q2} {g gF:List ak} {kb:Nat} {s:ST} {n:Int} {k:Xi}
theorem quh (hc:isTurn L kb s n k g) (hn:s.isNil=true):Qa prog 151 #[Qb kb] [g] fun en gs =>
 en=U6 (UC #[.agg (dw k.err k.ok (.slice none 0 0)),U1 U5 0])/\gs=[g]:=by
 have hd:=KT hc;obtain ⟨pb,e,m,d,cB,gK,hs,⟨gd,hl,rfl⟩,rfl⟩:=hc;rw [hn] at hd;refine GO fun w HT=>?_
 have HD:=Vh hd;clear hd hs hl;go_enter func151,ntmps151
 go_wp2_with fail
 have HT:=Vh (HT.out.a 51 #[U1 U5 0,.bool false,U1 U2 0,U1 U2 0,.slice none 0 0]);go_wp2_with fail
 refine Qd.run HD HT [0] ?_
 rintro e wq rfl HT;have HT:=Vh (HT.out.sum (H':=[Qm kb L.fb (Qb pb) (Q7 L k) k,aV.aH pb m d n++(cB++(gd++e.1)),[cl w.heap.size 51 #[U1 U5 0,.bool false,U1 U2 0,U1 U2 0,.slice none 0 0]]]));obtain ⟨k3,k4,k5,k6,k7⟩:=HT.c5 0 0 3 4 5 6 7;simp only [Xm,az] at k3 k4 k5 k6 k7;obtain ⟨r0,r1,r2,r3,r4⟩:=HT.c5 2 0 0 1 2 3 4;obtain ⟨cr,df,yh,yj,EN⟩:=HT.f5 2 0 0 1 2 3 4;simp only [aN] at r0 r1 r2 r3 r4;have lt:=HT.l 0 0;simp only [] at lt;go_wp2
 exact U9 (v:=UC #[.agg (dw k.err k.ok (.slice none 0 0)),U1 U5 0]) (by simp [results,results151,go_sem,r0,r1,r2,r3,r4,dw]) rfl ⟨_,⟨rfl,rfl⟩,((((((HT.set 2 0 rfl 0 _).set 2 0 rfl 1 _).set 2 0 rfl 2 _).set 2 0 rfl 3 _).set 2 0 rfl 4 _).p [0,1]).sum⟩
theorem q1z (hc:isTurn L kb s n k g) (hn:s.isNil=false):Qa prog 151 #[Qb kb] [g] fun en gs =>
 en=U6 (UC #[.agg (dw 0 false (.slice none 0 0)),U1 U5 10])/\gs=[g]:=by
 have hd:=KT hc;obtain ⟨pb,e,m,d,cB,gK,hs,⟨gd,hl,rfl⟩,rfl⟩:=hc;rw [hn] at hd;refine GO fun w HT=>?_
 have HD:=Vh hd;clear hd hs hl;go_enter func151,ntmps151
 go_wp2_with fail
 have HT:=Vh (HT.out.a 51 #[U1 U5 0,.bool false,U1 U2 0,U1 U2 0,.slice none 0 0]);go_wp2_with fail
 refine Qd.run HD HT [0] ?_
 rintro e wq rfl HT;have HT:=Vh (HT.out.sum (H':=[Qm kb L.fb (Qb pb) (Q7 L k) k,aV.aH pb m d n++(cB++(gd++e.1)),[cl w.heap.size 51 #[U1 U5 0,.bool false,U1 U2 0,U1 U2 0,.slice none 0 0]]]));obtain ⟨k3,k4,k5,k6,k7⟩:=HT.c5 0 0 3 4 5 6 7;simp only [Xm,az] at k3 k4 k5 k6 k7;obtain ⟨r0,r1,r2,r3,r4⟩:=HT.c5 2 0 0 1 2 3 4;obtain ⟨cr,df,yh,yj,EN⟩:=HT.f5 2 0 0 1 2 3 4;simp only [aN] at r0 r1 r2 r3 r4;have lt:=HT.l 0 0;simp only [] at lt;go_wp2
 exact U9 (v:=UC #[.agg (dw 0 false (.slice none 0 0)),U1 U5 10]) (by simp [results,results151,go_sem,r0,r1,r2,r3,r4,dw]) rfl ⟨_,⟨rfl,rfl⟩,((((((HT.set 2 0 rfl 0 _).set 2 0 rfl 1 _).set 2 0 rfl 2 _).set 2 0 rfl 3 _).set 2 0 rfl 4 _).p [0,1]).sum⟩
theorem qyf (hx:qE L x ws p gF) (hn:x.tr.length<=1000000) (th no:Int) (hth:0<=th):Qa prog 43 #[Qb L.fb,U1 U5 th,U1 U5 no] [gF] fun en gs =>
 ∃ kb g aJ,en=U6 (UC #[Qb kb,U1 U5 0])/\isTurn L kb firstT 0 (qC th no) g/\qE L { x with tr:=x.tr++[ll (qC th no) { bL with kind:=1 }] } ws p aJ/\gs=[g,aJ]:=by
 obtain ⟨gC,gW,gP,hx,hw,aU,rfl⟩:=hx;have HS:=Vh (show ∀ kb pv,((lZ L kb pv).on ([],[])).SV (.at none .enter) U3 (U7 (U8 104) #[Qb kb] #[]) [] from fun kb pv=>⟨rfl,rfl,rfl⟩);have kz:=Vh (show ∀ kb,_ from fun kb=>aV.iM (Q9 L kb (UB none) ([],[])) (HS kb (UB none)));refine GO fun w HT=>?_
 have HX:=Vh hx;have HW:=Vh hw;have bF:=Vh aU;have dJ:=Vh hn;clear hx hn aU hw;go_enter func43,ntmps43
 go_wp2_with fail
 refine Qa.run (ni _ _ _) (HT.a 181 (Xm L.fb (UB none) (UB none) (qC th no))) [] ?_
 rintro e w1 gs ⟨rfl,rfl⟩ HT;simp only [PU] at HT;go_wp2_with fail
 refine Qa.run (kz w.heap.size) (HT.m [gC,gW++gP,[],[cl w.heap.size 181 (Xm L.fb (UB none) (UB none) (qC th no))]]) [2] ?_
 rintro e w1 gs ⟨pb,rfl,rfl⟩ HT;simp only [PU] at HT;have k8:=HT.c 3 0 8;have rH:=HT.f 3 0 8;simp only [Xm,az] at k8;have hnt:=fun g (hg:Qf L x g)=>yS (kb:=w.heap.size) (pv:=Qb pb) (sv:=UB none) (k:=qC th no) hg { bL with kind:=1 } dJ
 simp only [EvS.cells,bL] at hnt;go_wp2_with fail
 refine Qa.run (hnt _ HX) ((HT.set 3 0 rfl 8 (Qb pb)).eq (H':=[gC,gW++gP,[],Qm w.heap.size L.fb (Qb pb) (UB none) (qC th no),aV.aH pb U3 (U7 (U8 104) #[Qb w.heap.size] #[]) 0]) rfl) [3,0] ?_
 rintro e w1 gs ⟨rfl,g1,hx1,rfl⟩ HT;simp only [PU] at HT;have HX:=Vh hx1;clear hx1 k8 rH;go_wp2
 go_ret2
 exact ⟨_,⟨_,_,_,rfl,⟨pb,([],[]),_,_,[],Qm w.heap.size L.fb (Qb pb) (UB none) (qC th no)++([]++[]),HS _ _,⟨[],⟨rfl,.inl ⟨rfl,rfl⟩⟩,rfl⟩,rfl⟩,⟨g1,gW,gP,HX,HW,bF,rfl⟩,rfl⟩,(HT.p [4,3,0,1]).bW⟩
end
def Y3:Qg:=DU.s
def KX (b:Nat) (s:Qu) (g:List ak):Prop:=∃ rb lb wb gr gl gw,X4 rb s.ring gr/\ql lb s.who s.turns gl/\qj wb Y3 gw/\g=[cl b 238 #[Qb rb,Qb lb,Qb wb]]++gr++gl++gw
theorem q8p:jh DU=0:=by decide
theorem qpl:Ph KX:=by
 intro n h1 h2;refine GO fun w HT=>?_
 have HWN:=Vh (show ∀ (b:Nat) g,X1 b DU 0 g->qj b Y3 g from fun b g h=>⟨DU,rfl,by rw [q8p];exact h⟩);go_enter func78,ntmps78
 go_wp2_with fail
 refine Qa.run (qxf n h1 h2) (HT) [] ?_
 rintro e w1 gs ⟨rb,gr,rfl,hgr,rfl⟩ HT;simp only [PU] at HT;go_wp2_with fail
 refine Qa.run qwg HT [] ?_
 rintro e w1 gs ⟨lb,gl,rfl,hgl,rfl⟩ HT;simp only [PU] at HT;go_wp2_with fail
 refine Qa.run quj HT [] ?_
 rintro e w1 gs ⟨wb,gw,rfl,hgw,rfl⟩ HT;simp only [PU] at HT;go_wp2
 go_ret2
 exact ⟨_,⟨_,_,rfl,⟨rb,lb,wb,gr,gl,gw,hgr,hgl,HWN _ _ hgw,rfl⟩,rfl⟩,(HT.a 238 #[Qb rb,Qb lb,Qb wb]).sum⟩
theorem qpn {b:Nat} {s:Qu} {g:List ak} (h:KX b s g):∃ (q:ik) (g1 g2:List ak),q.b=b/\tO q s g1/\qj q.wb Y3 g2/\g=g1++g2:=by
 obtain ⟨rb,lb,wb,gr,gl,gw,h1,h2,h3,rfl⟩:=h;exact ⟨⟨b,rb,lb,wb⟩,_,gw,rfl,⟨gr,gl,h1,h2,rfl⟩,h3,by simp [Xq]⟩
theorem PI:∀ {l:List (Nat × Qu)} {g:List ak},Yy (fun (x:Nat × Qu)=>KX x.1 x.2) l g->∃ (qs:List ik) (g1 g2:List ak),qs.map ik.b=l.map Prod.fst/\Yy (fun (z:ik × Qu)=>tO z.1 z.2) (qs.zip (l.map Prod.snd)) g1 /\
 Yy (fun (z:ik × Qg)=>qj z.1.wb z.2) (qs.zip (UE l.length Y3)) g2/\g.Perm (g1++g2)
 | [],_,h=>by cases h;exact ⟨[],[],[],rfl,rfl,rfl,List.Perm.refl _⟩
 | a::l,_,h=>by
   obtain ⟨u,v,hu,hv,rfl⟩:=h;obtain ⟨q,ga,gb,hq,hs,hw,rfl⟩:=qpn hu;obtain ⟨qs,g1,g2,h1,h2,h3,h4⟩:=PI hv;refine ⟨q::qs,ga++g1,gb++g2,by simp [hq,h1],⟨ga,g1,hs,h2,rfl⟩,⟨gb,g2,hw,h3,rfl⟩,?_⟩
   refine (List.Perm.append_left _ h4).trans ?_
   classical
   refine UQ.2 fun a=>?_
   simp only [V7];omega
def fires (l:List Xj):List Value:=qc2 (l.map fun f=>f.vals.toArray)
def uM (lb:Nat) (l:List Xj) (g:List ak):Prop:=∃ v gr,Q3 63 4 v l.length (fires l) gr/\g=[cl lb 232 #[v]]++gr
structure ZF where
 x:Qi
 ws:List Qg
 p:Q2
 lg:List Xj
def eZ (L:Lay) (z:ZF) (g:List ak):Prop:=∃ gT gL,qE L z.x z.ws z.p gT/\uM L.p.lb z.lg gL/\g=gT++gL
def wM (c:Cfg):ZF:=⟨NY c,UE c.sh.toNat Y3,Lr c.room.toNat,[]⟩
theorem qpb {n pb:Nat} {g:List ak} (h:Kc n pb g):Zd pb (Lr n) g:=by
 obtain ⟨cb,lb,hb,rfl⟩:=h;exact ⟨cb,lb,hb,0,0,[],_,⟨(by intro a h;cases h),rfl⟩,rfl,by simp [Bf,X5,nxV,gQ,X6,Lr]⟩
theorem q4p (c:Cfg) (hk:c.ok=true):Qa prog 13 #[.agg c.cells] [] fun e gs =>
 ∃ L g,e=U6 (UC #[Qb L.fb,U1 U5 0])/\eZ L (wM c) g/\gs=[g]:=by
 refine (qou qpl c hk).post ?_
 rintro e gs ⟨fb,p,au,gF,gS,gR,gH,gP,gL,he,ha,hlen,hall,rfl⟩;obtain ⟨qs,g1,g2,h1,h2,h3,h4⟩:=PI ha.lM;have hn:au.length=c.sh.toNat:=by omega
 have hsn:au.map Prod.snd=UE c.sh.toNat (Qr c.ring.toNat):=by
  rw [List.eq_replicate_iff];refine ⟨by simp;omega,fun b hb=>?_⟩
  obtain ⟨a,ha',rfl⟩:=List.mem_map.1 hb;exact hall a ha'
 have hq:qs.length=c.sh.toNat:=by
  have:=congrArg List.length h1;simp only [UU] at this;omega
 refine ⟨[gF++(gS++(gR++(g1++[])))++(g2++gP)++gL],⟨⟨fb,p,qs⟩,_,he,⟨gF++(gS++(gR++(g1++[])))++(g2++gP),gL,⟨_,g2,gP,⟨_,gF,gS,gR,g1,[],ha.floor,ha.aa,?_,?_,?_,q5r,rfl⟩,⟨?_,?_⟩,qpb ha.aG,rfl⟩,⟨.slice none 0 0,[],X7 _ _,?_⟩,rfl⟩,rfl⟩,?_⟩
 ·show Q3 _ 1 p.sh (qs.map ik.b).length ((qs.map ik.b).map fun b=>Qb b) gR
  have:=ha.row;rw [h1,UU,List.map_map];exact this
 ·show qs.length=(UE _ _).length
  rw [UX];exact hq
 ·show Yy _ (qs.zip (UE _ _)) g1
  rw [<- hsn];exact h2
 ·show (UE _ _).length=qs.length
  rw [UX];exact hq.symm
 ·show Yy _ (qs.zip (UE _ _)) g2
  rw [<- hn];exact h3
 ·rw [ha.log];simp
 ·classical
  refine UQ.2 fun a=>?_
  have:=(UQ.1 h4) a;simp only [List.flatten_cons,List.flatten_nil,List.append_nil,V7] at this |-;omega
def fQ (P:gU->Prop) (w:Qg):Prop:=(∀ l∈w.lv,∀ s∈l,∀ e∈s,P e)/\∀ e∈w.lT,P e
section
variable {P:gU->Prop} {w:Qg}
theorem mem_modify {α:Type} {f:α->α} {b:α}:∀ {l:List α} {k:Nat},b∈l.modify k f->b∈l\/∃ a∈l,b=f a:=by
 intro l k hb;obtain ⟨i,hi⟩:=List.getElem?_of_mem hb;rw [List.getElem?_modify] at hi;cases ha:l[i]? with
 | none=>rw [ha] at hi;simp at hi
 | some a =>
   rw [ha] at hi;have hm:=UO ha;by_cases hk:k=i
   ·simp [hk] at hi;exact .inr ⟨a,hm,hi.symm⟩
   ·simp [hk] at hi;exact .inl (hi ▸ hm)
theorem fQ.place (h:fQ P w) {e:gU} (he:P e):fQ P (w.place e):=by
 unfold Qg.place;split
 ·refine ⟨h.1,fun x hx=>?_⟩
  rcases V8.1 hx with hx | hx
  ·exact h.2 x hx
  ·rw [V6.1 hx];exact he
 ·refine ⟨fun l hl s hs x hx=>?_,h.2⟩
  rcases mem_modify hl with hl | ⟨l0,hl0,rfl⟩
  ·exact h.1 l hl s hs x hx
  ·rcases mem_modify hs with hs | ⟨s0,hs0,rfl⟩
   ·exact h.1 l0 hl0 s hs x hx
   ·rcases V8.1 hx with hx | hx
    ·exact h.1 l0 hl0 s0 hs0 x hx
    ·rw [V6.1 hx];exact he
theorem fQ.dL:∀ (l:List gU) {w:Qg},fQ P w->(∀ e∈l,P e)->fQ P (w.dL l)
 | [],_,h,_=>h
 | a::l,w,h,hl=>by
   show fQ P ((w.place a).dL l)
   exact fQ.dL l (h.place (hl a UA)) fun e he=>hl e (UN _ he)
theorem fQ.slot (h:fQ P w) (l k:Nat):∀ e∈w.slot l k,P e:=by
 intro e he;unfold Qg.slot at he;rw [UL] at he;cases h1:(w.lv.getD l [])[k]? with
 | none=>rw [h1] at he;cases he
 | some s =>
   rw [h1] at he;have hs:=UO h1;rw [UL] at hs;cases h2:w.lv[l]? with
   | none=>rw [h2] at hs;cases hs
   | some x=>rw [h2] at hs;exact h.1 x (UO h2) s hs e he
theorem fQ.clear (h:fQ P w) (l k:Nat):fQ P (w.clear l k):=by
 refine ⟨fun x hx s hs e he=>?_,h.2⟩
 rcases mem_modify hx with hx | ⟨l0,hl0,rfl⟩
 ·exact h.1 x hx s hs e he
 ·rcases List.mem_or_eq_of_mem_set hs with hs | rfl
  ·exact h.1 l0 hl0 s hs e he
  ·cases he
theorem fQ.again (h:fQ P w) (l:Nat):fQ P (w.again l):=fQ.dL _ (h.clear _ _) (h.slot _ _)
theorem fQ.down:∀ (n:Nat) {w:Qg},fQ P w->fQ P (w.down n)
 | 0,_,h=>h
 | n+1,_,h=>fQ.down n (h.again _)
theorem fQ.fH (h:fQ P w):fQ P w.fH.1/\∀ e∈w.fH.2,P e:=by
 have h1:=fQ.down (min (J6 (w.now+1)) 3) (show fQ P { w with now:=w.now+1 } from h);exact ⟨h1.clear _ _,h1.slot _ _⟩
end
structure xA (N:Nat) (S:Qg):Prop where
 sh:S.Sh
 now:S.now<=N
 tot:zt S<=N
 Hw:fQ (fun e=>Je e.v) S
theorem xA.ok {N:Nat} {S:Qg} (h:xA N S) (hN:N<1000000):x8 S:=⟨h.sh,by have:=h.now;omega,by have:=h.tot;omega⟩
theorem xA.mono {N M:Nat} {S:Qg} (h:xA N S) (hm:N<=M):xA M S:=⟨h.sh,by have:=h.now;omega,by have:=h.tot;omega,h.Hw⟩
structure zA (N:Nat) (x:Qi) (ws:List Qg) (p:Q2):Prop where
 now:0<=x.f.now/\x.f.now<=N
 busy:0<=x.f.busy/\x.f.busy<=N
 cap:x.f.cfg.cap=x.aa.recs.length
 wl:ws.length=x.au.length
 kK:∀ w∈ws,xA N w
 task:∀ s∈x.au,∀ e∈s.ring.slots,Je e.v
 turns:∀ s∈x.au,0<=s.turns/\s.turns<=N
 ch:p.ch.length<=p.room
 sp:p.sp.length<=N
structure ZN (N:Nat) (z:ZF):Prop where
 core:Zi N z.x
 rest:zA N z.x z.ws z.p
 lg:z.lg.length<=N
theorem zA.mono {N M:Nat} {x:Qi} {ws:List Qg} {p:Q2} (h:zA N x ws p) (hm:N<=M):zA M x ws p :=
 ⟨by have:=h.now;omega,by have:=h.busy;omega,h.cap,h.wl,fun w hw=>(h.kK w hw).mono hm,h.task,fun s hs=>by have:=h.turns s hs;omega,h.ch,by have:=h.sp;omega⟩
theorem ZN.mono {N M:Nat} {z:ZF} (h:ZN N z) (hm:N<=M):ZN M z:=⟨h.core.mono hm,h.rest.mono hm,by have:=h.lg;omega⟩
end
end Go.Proofs.YtcneeepdclgdcaaGreat
