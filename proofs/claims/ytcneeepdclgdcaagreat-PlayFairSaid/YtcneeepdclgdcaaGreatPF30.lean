import Derived.Test.YtcneeepdclgdcaaGreatPF29
import Derived.Deep.RegionHeld3
import Derived.Test.YtcneeepdclgdcaaGreatPF24
set_option maxRecDepth 100000
set_option maxHeartbeats 4000000
namespace Go.Proofs.YtcneeepdclgdcaaGreat
open Go.Value renaming int->WK,nilFunc->WM,func->WS,pointer->WV,tuple->WW
open Go.IntKind renaming u64->WL,i64->WN
open Go.Ending renaming returned->WO
open _root_.List renaming mem_append_right->WQ,mem_cons_self->WU,replicate->WY,mem_append_left->XD,getD_eq_getElem?_getD->XF,mem_cons_of_mem->XH,mem_of_getElem?->XI,perm_iff_count->XJ,setIfInBounds_toArray->XL,length_map->XN,length_replicate->XP,set_cons_zero->XR,set_cons_succ->XT,mem_singleton->XU,count_append->XV,mem_append->XW
open Go renaming bodyPost_ret->WR,wpQuiet_nil->WX,bodyPost_end->XB,results_none->XC
open Go.Fn renaming func->WT
open _root_.Nat renaming ne_of_lt->WZ,ne_of_gt->XA
open Go.World renaming setCell->XE,alloc->XG,drewN->XK,drew->XM
open _root_.Subtype renaming val->XO
open _root_.And renaming intro->XQ
set_option linter.all false
open Go.Proofs.Tryz
section
open Go.RowKit Go.Shelf
theorem qw3 (d i:Nat) (k:Xd) (x:Qi) (ws:List Qg) (p:Qz) :
 ∃ st k',Qm d i ⟨k,x,ws,p⟩=(st,⟨k',x,ws,p⟩)/\k'.s=k.s/\k'.nd=k.nd/\k'.due=k.due:=by
 unfold Qm;split
 ·exact ⟨_,_,rfl,rfl,rfl,rfl⟩
 ·exact ⟨_,_,rfl,rfl,rfl,rfl⟩
theorem xz.of {ds:List Nat} {k k':Xd} {g:List ak} (h:xz ds k g) (h1:k'.nd=k.nd) (h2:k'.due=k.due):xz ds k' g:=by
 unfold xz at *;rw [h1,h2];exact h
theorem Q9.of {L:Lay} {k k':Xd} (h:k'.s=k.s):Q9 L k'=Q9 L k:=by
 unfold Q9;rw [h]
section
variable {L:Lay} {x:Qi} {ws:List Qg} {p:Qz} {e:ET} {g gC gK gF:List ak} {kb:Nat} {pv sv:Value} {k:Xd}
theorem q7d (d i:Nat) (hz:zf L kb pv e ⟨k,x,ws,p⟩ gK gF) (hp:jR (.aD d i) ⟨k,x,ws,p⟩) (bk bp bi bd:Nat) (hb:gu kb bk e) (hbd:e.2[d]?=some bd)
 (hbp:cl bp 358 #[Qb bd]∈e.1) (hbi:cl bi 3 #[WK WN i]∈e.1) :
 Qa prog 299 #[Qb bk,Qb bp,Qb bi] [gK,gF] (dM L kb pv e (runT (.aD d i) ⟨k,x,ws,p⟩).1 (runT (.aD d i) ⟨k,x,ws,p⟩).2):=by
 have hc:k.nd=d+1:=hp.2.2.1;have hi:i<=1000000:=hp.2.2.2;clear hp;obtain ⟨gd,gC,gW,gP,hd,hx,hw,aW,rfl,rfl⟩:=hz;obtain ⟨v,gr,hr,rfl⟩:=MO hd hc hbd;have hfi:=PI (L:=L) (x:=x) (ws:=ws) (p:=p) (kb:=kb) (pv:=pv) (sv:=Q9 L k) (k:=k) d bd (i+1) v gr hr (by omega);unfold F9 at hfi;rw [show runT (.aD d i) ⟨k,x,ws,p⟩=Qm d (i+1) ⟨k,x,ws,p⟩ from rfl];obtain ⟨st,k',he,hks,Dz,Dy⟩:=qw3 d (i+1) k x ws p;rw [he] at hfi |-;dsimp only at hfi |-
 rw [show (((i+1:Nat):Int))=(i:Int)+1 by omega,<- Q9.of (L:=L) hks] at hfi;have hd':=hd.of Dz Dy;unfold dM;rw [<- Q9.of (L:=L) hks];refine GO fun w HT=>?_
 have sF:=Vh hfi;have HT:=Vh (HT.out.sum (H':=[Ql kb L.fb pv (Q9 L k') k,[cl bd 354 #[v]],gr,e.1,gC,gW,gP]));have HX:=Vh hx;have HD:=Vh hd';have HW:=Vh hw;have bD:=Vh aW;have ng:=Vh hbd;have b0:=HT.aj 3 hb 0;have p0:=HT.aj 3 hbp 0;have i0:=HT.aj 3 hbi 0;have bI:=HT.bg 3 hb;have eT:=HT.bg 3 hbp;have nV:=HT.bg 3 hbi;simp only [bR] at b0 bI p0 eT i0 nV;clear hx hd hw aW hfi hr hc hb hbp hbi hbd hd' he hks Dz Dy;go_enter func299,ntmps299
 go_wp2_with fail
 refine Qa.run sF (HT.a _ _) [0,1,2] ?_
 rintro e w1 gs ⟨g2,l2,m2,d2,rfl,hs2,rfl⟩ HT;simp only [PU] at HT;clear b0 bI p0 eT i0 nV;have HS:=Vh (hs2 (e.1++l2,e.2) (fun b hb=>WQ _ hb) ng);have HT:=Vh (HT.out.bG (H':=[Ql kb L.fb pv (Q9 L k') k',[cl bd 354 #[v]]++gr,e.1,gC,gW,gP,[cl w.heap.size 153 #[WM,WM]],l2,g2]));clear hs2;obtain ⟨r0,r1⟩:=HT.c2 6 0 0 1;obtain ⟨df,dm⟩:=HT.f2 6 0 0 1;simp only [aT] at r0 r1;have hv2:=(Q6 L kb pv _).vals HS;obtain ⟨st1,st2⟩:=aZ.aG (P:=prog) hv2.1 hv2.2 r0 df r1 dm;clear hv2;go_wp2
 exact WR (v:=.agg #[_,_]) (by simp [results,results299,go_sem,r0,r1]) rfl ⟨_,⟨(e.1++l2,e.2),dH.app e l2,_,_,g2,_,_,rfl,HS,⟨_,gC,gW,gP,HD,HX,HW,bD,rfl,rfl⟩,rfl⟩,(((HT.set 6 0 rfl 0 _).set 6 0 rfl 1 _).p [8,0,1,2,7,3,4,5]).bG⟩
theorem q60 (next:Int) (hz:zf L kb pv e ⟨k,x,ws,p⟩ gK gF) (hp:jR (.aV next) ⟨k,x,ws,p⟩) :
 Qa prog 341 #[Qb kb,WK WL next] [gK,gF] (dM L kb pv e (runT (.aV next) ⟨k,x,ws,p⟩).1 (runT (.aV next) ⟨k,x,ws,p⟩).2):=by
 obtain ⟨ho,hh,hs0,hn0,hn1⟩:=hp;have HO:=Vh ho.core;have iD:=Vh (show 0<=k.aA/\k.aA<18446744073709551616 from ⟨ho.aA.1,ho.aA.2.1⟩);have pI:=Vh (show x.tr.length<=1000000 from ho.core.tr);have FI:=Vh (show 0<=k.t.slot from hs0);have HN:=Vh (XQ hn0 hn1);have hg0:0<=k.t.gen:=ho.t.gen.1;have hg1:k.t.gen<=4294967296:=ho.t.gen.2;cases hc:((x.aa.try k.t.slot k.aA 5).2.2 == 0) with
 | false =>
   rw [show runT (.aV next) ⟨k,x,ws,p⟩=(.at none .behind,⟨k,{ x with aa:=(x.aa.try k.t.slot k.aA 5).1 },ws,p⟩) by simp [runT,Qk,hc]];unfold dM;clear ho hh hs0 hn0 hn1 hg0 hg1;obtain ⟨gd,gC,gW,gP,hd,hx,hw,aW,rfl,rfl⟩:=hz;refine GO fun w HT=>?_
   have HT:=Vh (HT.out.m [Ql kb L.fb pv (Q9 L k) k,gd,e.1,gC,gW,gP]);have HX:=Vh hx;have HD:=Vh hd;have HW:=Vh hw;have bD:=Vh aW;clear hx hd hw aW;have hlk:=Ag (kb:=kb) (pv:=pv) (sv:=Q9 L k) HX HO iD 5;rw [hc] at hlk;have iI:=Vh hlk;clear hlk hc;go_enter func341,ntmps341
   go_wp2_with fail
   refine Qa.run iI (HT.a _ _) [0,3] ?_
   rintro e w1 gs ⟨rfl,g1,hx1,rfl⟩ HT;simp only [PU] at HT;have HX:=Vh hx1;clear hx1;go_wp2_with fail
   refine Qa.run (nz _ _ _) (HT) [] ?_
   rintro e w1 gs ⟨rfl,rfl⟩ HT;simp only [PU] at HT;obtain ⟨r0,r1⟩:=HT.c2 6 0 0 1;obtain ⟨df,dm⟩:=HT.f2 6 0 0 1;simp only [aT] at r0 r1;go_wp2
   exact WR (v:=.agg #[_,_]) (by simp [results,results341,go_sem,r0,r1]) rfl ⟨_,⟨e,dH.refl e,_,_,[],_,_,rfl,⟨rfl,rfl,rfl⟩,⟨gd,_,_,gP,HD,HX,HW,bD,(rfl:Ql kb L.fb pv (Q9 L k) k++(gd++e.1)=_),rfl⟩,rfl⟩,(((HT.set 6 0 rfl 0 _).set 6 0 rfl 1 _).p [0,1,2,3,4,5]).bG⟩
 | true =>
   obtain ⟨gd,gC,gW,gP,hd,hx,hw,aW,Dw,Dv⟩:=hz;obtain ⟨i,q,s,S,hki,hq,hs,hS,hsv,hsh,hss,jv,hwo,hrb,ht0,ht1⟩:=xw hx hw ho hh
   have hz2:runT (.aV next) ⟨k,x,ws,p⟩=(.nil,⟨{ k with t:={ k.t with gen:=k.t.gen+1,dl:=next } },{ x with aa:=(x.aa.try k.t.slot k.aA 5).1,tr:=x.tr++[lq k { bO with kind:=4,id:=k.t.id,gen:=k.t.gen+1,dl:=j3 S { k.t with gen:=k.t.gen+1,dl:=next } }] },ws.set i (S.place (mQ S { k.t with gen:=k.t.gen+1,dl:=next })),p⟩):=by
    have h1:(Qk 5 ⟨k,x,ws,p⟩).2=true:=hc;simp only [runT,h1,if_pos,jk,Qk,ZT.note];rw [show ZT.sh ⟨{ k with t:={ k.t with gen:=k.t.gen+1,dl:=next } },{ x with aa:=(x.aa.try k.t.slot k.aA 5).1 },ws,p⟩=i from hsh,show ZT.wh ⟨{ k with t:={ k.t with gen:=k.t.gen+1,dl:=next } },{ x with aa:=(x.aa.try k.t.slot k.aA 5).1 },ws,p⟩=S from jv];exact if_pos h1
   rw [hz2];have hz:zf L kb pv e ⟨k,x,ws,p⟩ gK gF:=⟨gd,gC,gW,gP,hd,hx,hw,aW,Dw,Dv⟩;clear hx hw hd aW Dw Dv;have har:∀ gC gW,Qf L { x with aa:=(x.aa.try k.t.slot k.aA 5).1 } gC->Js L ws gW->_:=fun gC gW hx hw=>Vv (kb:=kb) (pv:=pv) (k:={ k with t:={ k.t with gen:=k.t.gen+1,dl:=next } }) hx hw hq hs hS hwo FI HN pI
   have fM:=Vh hsv;clear ho hh hs0 hz2 hki hq hs hS hsv hsh hss jv hwo hrb ht0 ht1;unfold dM;obtain ⟨gd,gC,gW,gP,hd,hx,hw,aW,rfl,rfl⟩:=hz;refine GO fun w HT=>?_
   have HT:=Vh (HT.out.m [Ql kb L.fb pv (Q9 L k) k,gd,e.1,gC,gW,gP]);have HX:=Vh hx;have HD:=Vh hd;have HW:=Vh hw;have bD:=Vh aW;clear hx hd hw aW;have Im:=Vh har;have hlk:=Ag (kb:=kb) (pv:=pv) (sv:=Q9 L k) HX HO iD 5;rw [hc] at hlk;rw [fM.out] at hlk;have iJ:=HT.out;rw [fM.out] at iJ;have HT:=Vh iJ;have iI:=Vh hlk;clear hlk hc har iJ;generalize (x.aa.try k.t.slot k.aA 5).1=sl at *;generalize S.place (mQ S { k.t with gen:=k.t.gen+1,dl:=next })=S1 at *;generalize j3 S { k.t with gen:=k.t.gen+1,dl:=next }=dl1 at *;go_enter func341,ntmps341
   go_wp2_with fail
   refine Qa.run iI (HT.a _ _) [0,3] ?_
   rintro e w1 gs ⟨rfl,g1,hx1,rfl⟩ HT;simp only [PU] at HT;have HX:=Vh hx1;clear hx1;obtain ⟨k13,k14⟩:=HT.c2 0 0 13 14;obtain ⟨nK,nL⟩:=HT.f2 0 0 13 14;simp only [Xh,aC] at k13 k14;go_wp2_with fail
   refine Qa.run (Im _ _ HX HW) (((HT.set 0 0 rfl 13 (WK WL (k.t.gen+1))).set 0 0 rfl 14 (WK WL next)).eq (H':=[Ql kb L.fb pv (Qb q.b) { k with t:={ k.t with gen:=k.t.gen+1,dl:=next } },gd,e.1,g1,gW,gP,[cl w.heap.size 153 #[WM,WM]]]) rfl) [0,3,4] ?_
   rintro e w1 gs ⟨rfl,g2,l5,hx2,hw2,rfl⟩ HT;simp only [PU] at HT;have HX:=Vh hx2;have HW:=Vh hw2;clear hx2 hw2 k13 k14 nK nL;obtain ⟨r0,r1⟩:=HT.c2 6 0 0 1;obtain ⟨df,dm⟩:=HT.f2 6 0 0 1;simp only [aT] at r0 r1;go_wp2
   have HF:=(((HT.set 6 0 rfl 0 WM).set 6 0 rfl 1 WM).p [0,1,2,3,4,5]);rw [<- fM.out] at HF;exact WR (v:=.agg #[_,_]) (by simp [results,results341,go_sem,r0,r1]) rfl ⟨_,⟨e,dH.refl e,_,_,[],_,_,rfl,⟨rfl,rfl,rfl⟩,⟨gd,_,_,gP,HD,HX,HW,bD,(rfl:Ql kb L.fb pv (Q9 L k) { k with t:={ k.t with gen:=k.t.gen+1,dl:=next } }++(gd++e.1)=_),rfl⟩,rfl⟩,HF.bG⟩
theorem q7e (next:Int) (hz:zf L kb pv e ⟨k,x,ws,p⟩ gK gF) (hp:jR (.aV next) ⟨k,x,ws,p⟩) (bk bn:Nat) (hb:gu kb bk e) (hbn:cl bn 36 #[WK WL next]∈e.1) :
 Qa prog 340 #[Qb bk,Qb bn] [gK,gF] (dM L kb pv e (runT (.aV next) ⟨k,x,ws,p⟩).1 (runT (.aV next) ⟨k,x,ws,p⟩).2):=by
 have hre:=q60 next hz hp;generalize (runT (.aV next) ⟨k,x,ws,p⟩).1=st at *;generalize (runT (.aV next) ⟨k,x,ws,p⟩).2=z2 at *;obtain ⟨gd,gC,gW,gP,hd,hx,hw,aW,rfl,rfl⟩:=hz;clear hd hx hw aW hp;unfold dM at *;refine GO fun w HT=>?_
 have HRE:=Vh hre;have h1:∀ b,b∈e.1->b∈Ql kb L.fb pv (Q9 L k) k++(gd++e.1):=fun b hb=>WQ _ (WQ _ hb)
 have b0:=HT.aj 0 (h1 _ hb) 0;have n0:=HT.aj 0 (h1 _ hbn) 0;have bI:=HT.bg 0 (h1 _ hb);have zR:=HT.bg 0 (h1 _ hbn);simp only [bR] at b0 bI n0 zR;clear hre h1 hb hbn;go_enter func340,ntmps340
 go_wp2_with fail
 refine Qa.run HRE (HT.a _ _) [0,1] ?_
 rintro e w1 gs ⟨e2,hl2,m3,d3,g3,AV,AU,rfl,hs3,hz3,rfl⟩ HT;simp only [PU] at HT;have HL2:=Vh hl2;have HZ3:=Vh hz3;clear hl2 hz3 b0 n0 bI zR;obtain ⟨r0,r1⟩:=HT.c2 2 0 0 1;obtain ⟨df,dm⟩:=HT.f2 2 0 0 1;simp only [aT] at r0 r1;have hv2:=(Q6 L kb pv e2).vals hs3;obtain ⟨st1,st2⟩:=aZ.aG (P:=prog) hv2.1 hv2.2 r0 df r1 dm;have HS:=Vh hs3;clear hv2 hs3;go_wp2
 exact WR (v:=.agg #[_,_]) (by simp [results,results340,go_sem,r0,r1]) rfl ⟨_,⟨e2,HL2,m3,d3,g3,AV,AU,rfl,HS,HZ3,rfl⟩,((HT.set 2 0 rfl 0 _).set 2 0 rfl 1 _).p [0,1,3]⟩
end
section
variable {L:Lay} {x:Qi} {ws:List Qg} {p:Qz} {e:ET} {g gC gK gF:List ak} {kb:Nat} {pv sv:Value} {k:Xd}
theorem qzj (hz:zf L kb pv e ⟨k,x,ws,p⟩ gK gF) (hp:jR .aS ⟨k,x,ws,p⟩) :
 Qa prog 342 #[Qb kb] [gK,gF] (dM L kb pv e (runT .aS ⟨k,x,ws,p⟩).1 (runT .aS ⟨k,x,ws,p⟩).2):=by
 obtain ⟨ho,_⟩:=hp;have HO:=Vh ho.core;have iD:=Vh (show 0<=k.aA/\k.aA<18446744073709551616 from ⟨ho.aA.1,ho.aA.2.1⟩);have pI:=Vh (show x.tr.length<=1000000 from ho.core.tr);have o6:=Vh (show 0<=k.t.per/\k.t.per<18446744073709551616 from ho.t.per);clear ho;obtain ⟨c,hc⟩:∃ c,((x.aa.try k.t.slot k.aA 9).2.2 == 0)=c:=⟨_,rfl⟩;obtain ⟨RS,il⟩:∃ RS,runT .aS ⟨k,x,ws,p⟩=RS:=⟨_,rfl⟩
 have hA:c=false->RS=(.at none .behind,⟨k,{ x with aa:=(x.aa.try k.t.slot k.aA 9).1 },ws,p⟩):=fun h=>by
  rw [<- il];rw [h] at hc;simp [runT,Qk,hc]
 have hB:c=true->RS=(.aP .rel .drop,if 0<k.t.per/\Xk k.aA=false then ⟨k,{ x with aa:=(x.aa.try k.t.slot k.aA 9).1,tr:=x.tr++[lq k { bO with kind:=14,id:=k.t.id,gen:=k.t.gen }] },ws,p⟩ else ⟨k,{ x with aa:=(x.aa.try k.t.slot k.aA 9).1 },ws,p⟩):=fun h=>by
  rw [<- il];have h1:(Qk 9 ⟨k,x,ws,p⟩).2=true:=hc.trans h;simp only [runT,Qk,ZT.note];exact if_pos h1
 have HE:=Vh (XQ hA hB);rw [il];clear il hA hB;have uX:=Vh (PY k.aA iD.1 iD.2);have o5:=Vh (show ∀ g,Qf L { x with aa:=(x.aa.try k.t.slot k.aA 9).1 } g->_ from fun g hg=>Ac (kb:=kb) (pv:=pv) (sv:=Q9 L k) (k:=k) (gC:=g) hg { bO with kind:=14,id:=k.t.id,gen:=k.t.gen } pI);obtain ⟨gd,gC,gW,gP,hd,hx,hw,aW,rfl,rfl⟩:=hz;refine GO fun w HT=>?_
 have HT:=Vh (HT.out.m [Ql kb L.fb pv (Q9 L k) k,gd,e.1,gC,gW,gP]);have HX:=Vh hx;have HD:=Vh hd;have HW:=Vh hw;have bD:=Vh aW;clear hx hd hw aW;have hlk:=Ag (kb:=kb) (pv:=pv) (sv:=Q9 L k) HX HO iD 9;rw [hc] at hlk;have iI:=Vh hlk;clear hlk hc;generalize (x.aa.try k.t.slot k.aA 9).1=sl at *;go_enter func342,ntmps342
 go_wp2_with fail
 refine Qa.run iI ((HT.a 88 #[Qb kb]).alloc (k:=w.heap.size+1) (by simp) 153 #[WM,WM]) [0,3] ?_
 rintro e w1 gs ⟨rfl,g1,hx1,rfl⟩ HT;simp only [PU] at HT;have HX:=Vh hx1;clear hx1;have b0:=HT.c 6 0 0;simp only [aT] at b0;obtain ⟨hA,hB⟩:=HE.out;clear HE;cases c with
 | false =>
   have he:=hA rfl;clear hA hB;subst he;go_wp2_with fail
   refine Qa.run (nz _ _ _) (HT) [] ?_
   rintro e w1 gs ⟨rfl,rfl⟩ HT;simp only [PU] at HT;obtain ⟨r0,r1⟩:=HT.c2 7 0 0 1;obtain ⟨df,dm⟩:=HT.f2 7 0 0 1;simp only [aT] at r0 r1;go_wp2
   exact WR (v:=.agg #[_,_]) (by simp [results,results342,go_sem,r0,r1]) rfl ⟨_,⟨e,dH.refl e,_,_,[],_,_,rfl,⟨rfl,rfl,rfl⟩,⟨gd,_,_,gP,HD,HX,HW,bD,(rfl:Ql kb L.fb pv (Q9 L k) k++(gd++e.1)=_),rfl⟩,rfl⟩,(((HT.set 7 0 rfl 0 _).set 7 0 rfl 1 _).p [0,1,2,3,4,5]).bG⟩
 | true =>
   have he:=hB rfl;clear hA hB
   have h3:(0<k.t.per/\Xk k.aA=false)\/(0<k.t.per/\Xk k.aA=true)\/k.t.per=0:=by
    have:=o6.1;cases Xk k.aA <;> simp <;> omega
   rcases h3 with h3 | h3 | iP
   case' inl =>
    obtain ⟨iP,hl⟩:=h3;rw [if_pos ⟨iP,hl⟩] at he;rw [hl] at uX;clear hl o6;subst he;obtain ⟨k15,k16⟩:=HT.c2 0 0 15 16;simp only [Xh,aC] at k15 k16;go_wp2_with fail
    refine Qe.run uX HT [] ?_
    rintro e wq rfl HT;clear b0 k15 k16 iP;have b0:=HT.c 6 0 0;simp only [aT] at b0;obtain ⟨k11,k13⟩:=HT.c2 0 0 11 13;simp only [Xh,aC] at k11 k13;go_wp2_with fail
    refine Mx 12 ?_
    simp only [dx]
    repeat (go_big_quiet_step ((fail)))
    refine WX (QT HT fun nq HT=>?_)
    have hnt:=o5.out _ HX;simp only [EvS.cells,bO] at hnt;go_wp2_with fail
    refine Qa.run hnt HT [0,3] ?_
    rintro e w1 gs ⟨rfl,g2,hx2,rfl⟩ HT;simp only [PU] at HT;have HX:=Vh hx2;clear hx2 b0 k11 k13;go_wp2_with fail
    refine ⟨rfl,?_⟩
    obtain ⟨wz,rfl⟩:∃ wz,wz=w1:=⟨_,rfl⟩
   case' inr.inl =>
    obtain ⟨iP,hl⟩:=h3;rw [if_neg (by simp [hl])] at he;rw [hl] at uX;clear hl o6 o5;subst he;obtain ⟨k15,k16⟩:=HT.c2 0 0 15 16;simp only [Xh,aC] at k15 k16;go_wp2_with fail
    refine Qe.run uX HT [] ?_
    rintro e wz rfl HT;clear b0 k15 k16 iP
   case' inr.inr =>
    rw [if_neg (by omega)] at he;clear o6 o5 uX;subst he;have k15:=HT.c 0 0 15;simp only [Xh,aC] at k15;rw [iP] at k15;clear iP;obtain ⟨wz,rfl⟩:∃ wz,wz=w1:=⟨_,rfl⟩
   all_goals
    go_wp2_with fail
    refine Qa.run (aZ.eO (b:=wz.heap.size) (o:=0) (D:=#[WS (WT 345) #[] #[Qb w.heap.size],WS (WT 346) #[] #[Qb w.heap.size]]) rfl 2 (.inr rfl)) (HT.a _ _) [8] ?_
    rintro e w1 gs ⟨bf,bl,bi,rfl,rfl⟩ HT;simp only [PU] at HT;obtain ⟨r0,r1⟩:=HT.c2 7 0 0 1;obtain ⟨df,dm⟩:=HT.f2 7 0 0 1;simp only [aT] at r0 r1;go_wp2
    exact WR (v:=.agg #[WM,_]) (by simp [results,results342,go_sem,r0,r1]) rfl ⟨_,⟨(e.1++[cl w.heap.size 88 #[Qb kb]],e.2),dH.app e _,_,_,_,_,_,rfl,⟨rfl,bf,bl,bi,wz.heap.size,WS (WT 345) #[] #[Qb w.heap.size],WS (WT 346) #[] #[Qb w.heap.size],[],[],rfl,⟨rfl,w.heap.size,rfl,WQ _ (WU ..)⟩,⟨rfl,w.heap.size,rfl,WQ _ (WU ..)⟩,rfl⟩,⟨gd,_,_,gP,HD,HX,HW,bD,(rfl:Ql kb L.fb pv (Q9 L k) k++(gd++(e.1++[cl w.heap.size 88 #[Qb kb]]))=_),rfl⟩,rfl⟩,(((HT.set 7 0 rfl 0 _).set 7 0 rfl 1 _).p [9,10,11,8,0,1,2,6,3,4,5]).bG⟩
end
section
variable {L:Lay} {x:Qi} {ws:List Qg} {p:Qz} {e:ET} {g gC gK gF:List ak} {kb:Nat} {pv sv:Value} {k:Xd}
theorem q7c (hz:zf L kb pv e ⟨k,x,ws,p⟩ gK gF) (hp:jR .bE ⟨k,x,ws,p⟩) :
 Qa prog 315 #[Qb kb] [gK,gF] (dM L kb pv e (runT .bE ⟨k,x,ws,p⟩).1 (runT .bE ⟨k,x,ws,p⟩).2):=by
 obtain ⟨ho,_⟩:=hp;have HO:=Vh ho.core;have iD:=Vh (show 0<=k.aA/\k.aA<18446744073709551616 from ⟨ho.aA.1,ho.aA.2.1⟩);have pI:=Vh (show x.tr.length<=1000000 from ho.core.tr);clear ho;cases hc:((x.aa.try k.t.slot k.aA 4).2.2 == 0) with
 | false =>
   rw [show runT .bE ⟨k,x,ws,p⟩=(.at none .looks,⟨k,{ x with aa:=(x.aa.try k.t.slot k.aA 4).1 },ws,p⟩) by simp [runT,Qk,hc]];unfold dM;obtain ⟨gd,gC,gW,gP,hd,hx,hw,aW,rfl,rfl⟩:=hz;refine GO fun w HT=>?_
   have HT:=Vh (HT.out.m [Ql kb L.fb pv (Q9 L k) k,gd,e.1,gC,gW,gP]);have HX:=Vh hx;have HD:=Vh hd;have HW:=Vh hw;have bD:=Vh aW;clear hx hd hw aW;have hlk:=Ag (kb:=kb) (pv:=pv) (sv:=Q9 L k) HX HO iD 4;rw [hc] at hlk;have iI:=Vh hlk;clear hlk hc;generalize (x.aa.try k.t.slot k.aA 4).1=sl at *;go_enter func315,ntmps315
   go_wp2_with fail
   refine Qa.run iI ((HT.a 88 #[Qb kb]).alloc (k:=w.heap.size+1) (by simp) 153 #[WM,WM]) [0,3] ?_
   rintro e w1 gs ⟨rfl,g1,hx1,rfl⟩ HT;simp only [PU] at HT;have HX:=Vh hx1;clear hx1;have b0:=HT.c 6 0 0;simp only [aT] at b0;go_wp2_with fail
   refine Qa.run (nz _ _ _) (HT) [] ?_
   rintro e w1 gs ⟨rfl,rfl⟩ HT;simp only [PU] at HT;obtain ⟨r0,r1⟩:=HT.c2 7 0 0 1;obtain ⟨df,dm⟩:=HT.f2 7 0 0 1;simp only [aT] at r0 r1;go_wp2
   exact WR (v:=.agg #[_,_]) (by simp [results,results315,go_sem,r0,r1]) rfl ⟨_,⟨e,dH.refl e,_,_,[],_,_,rfl,⟨rfl,rfl,rfl⟩,⟨gd,_,_,gP,HD,HX,HW,bD,(rfl:Ql kb L.fb pv (Q9 L k) k++(gd++e.1)=_),rfl⟩,rfl⟩,(((HT.set 7 0 rfl 0 _).set 7 0 rfl 1 _).p [0,1,2,3,4,5]).bG⟩
 | true =>
   rw [show runT .bE ⟨k,x,ws,p⟩=(.thn (.ai (.put ⟨k.t.id,k.t.gen,k.t.dl,k.now⟩)) .bB,⟨k,{ x with aa:=(x.aa.try k.t.slot k.aA 4).1,tr:=x.tr++[lq k { bO with kind:=5,id:=k.t.id,gen:=k.t.gen,dl:=k.t.dl,tick:=k.now }] },ws,p⟩) from if_pos hc];have o5:=Vh (show ∀ g,Qf L { x with aa:=(x.aa.try k.t.slot k.aA 4).1 } g->_ from fun g hg=>Ac (kb:=kb) (pv:=pv) (sv:=Q9 L k) (k:=k) (gC:=g) hg { bO with kind:=5,id:=k.t.id,gen:=k.t.gen,dl:=k.t.dl,tick:=k.now } pI);unfold dM;obtain ⟨gd,gC,gW,gP,hd,hx,hw,aW,rfl,rfl⟩:=hz;refine GO fun w HT=>?_
   have HT:=Vh (HT.out.m [Ql kb L.fb pv (Q9 L k) k,gd,e.1,gC,gW,gP]);have HX:=Vh hx;have HD:=Vh hd;have HW:=Vh hw;have bD:=Vh aW;clear hx hd hw aW;have hlk:=Ag (kb:=kb) (pv:=pv) (sv:=Q9 L k) HX HO iD 4;rw [hc] at hlk;have iI:=Vh hlk;clear hlk hc;generalize (x.aa.try k.t.slot k.aA 4).1=sl at *;go_enter func315,ntmps315
   go_wp2_with fail
   refine Qa.run iI ((HT.a 88 #[Qb kb]).alloc (k:=w.heap.size+1) (by simp) 153 #[WM,WM]) [0,3] ?_
   rintro e w1 gs ⟨rfl,g1,hx1,rfl⟩ HT;simp only [PU] at HT;have HX:=Vh hx1;clear hx1;have b0:=HT.c 6 0 0;simp only [aT] at b0;obtain ⟨k9,k11,k13,k14⟩:=HT.c4 0 0 9 11 13 14;simp only [Xh,aC] at k9 k11 k13 k14;have bI:=HT.l 6 0;have ji:=HT.l 0 0;simp only [] at bI ji;obtain ⟨wz,rfl⟩:∃ wz,wz=w1:=⟨_,rfl⟩;go_wp2_with fail
   clear HO iD pI;generalize w.heap.size=bb at *;have hnt:=o5.out _ HX;simp only [EvS.cells,bO] at hnt;have o5:=Vh hnt;clear hnt
   go_region_held3 (fun w'=>w'.cell? ⟨bb,0,none⟩=some (Qb kb)/\w'.cell? ⟨kb,9,none⟩=some (WK WL k.now)/\w'.cell? ⟨kb,11,none⟩=some (WK WL k.t.id)/\w'.cell? ⟨kb,13,none⟩=some (WK WL k.t.gen)/\w'.cell? ⟨kb,14,none⟩=some (WK WL k.t.dl))
    (first
    | exact ⟨b0,k9,k11,k13,k14⟩
    | exact ⟨(HT.drew.alloc (k:=wz.heap.size) rfl 63 #[WK WL 0,WK WL 0,WK WL 0,WK WL 0]).c 6 0 0,(HT.drew.alloc (k:=wz.heap.size) rfl 63 #[WK WL 0,WK WL 0,WK WL 0,WK WL 0]).c 0 0 9,(HT.drew.alloc (k:=wz.heap.size) rfl 63 #[WK WL 0,WK WL 0,WK WL 0,WK WL 0]).c 0 0 11,(HT.drew.alloc (k:=wz.heap.size) rfl 63 #[WK WL 0,WK WL 0,WK WL 0,WK WL 0]).c 0 0 13,(HT.drew.alloc (k:=wz.heap.size) rfl 63 #[WK WL 0,WK WL 0,WK WL 0,WK WL 0]).c 0 0 14⟩
    | (refine ⟨?_,?_,?_,?_,?_⟩ <;> simp [go_sem,b0,k9,k11,k13,k14,bI,ji,WZ bI,WZ ji,XA bI,XA ji]))
    (fail)
   have HT:=Vh (HT.out.a 63 #[WK WL k.t.id,WK WL k.t.gen,WK WL k.t.dl,WK WL k.now]).drew;generalize XM (XG wz _)=w2 at HT |-;generalize wz.heap.size=fb at HT |-;clear b0 k9 k11 k13 k14 bI ji;have b0:=HT.c 6 0 0;simp only [aT] at b0;obtain ⟨f0,f1,f2,f3⟩:=HT.c4 8 0 0 1 2 3;simp only [aT] at f0 f1 f2 f3;go_wp2_with fail
   refine Qa.run o5 HT [0,3] ?_
   rintro e w1 gs ⟨rfl,g2,hx2,rfl⟩ HT;simp only [PU] at HT;have HX:=Vh hx2;clear hx2 b0 f0 f1 f2 f3;obtain ⟨wy,rfl⟩:∃ wy,wy=w1:=⟨_,rfl⟩;go_wp2_with fail
   refine Qa.run (aZ.eO (b:=wy.heap.size) (o:=0) (D:=#[WS (WT 326) #[] #[Qb bb,Qb fb]]) rfl 1 (.inl rfl)) (HT.a _ _) [9] ?_
   rintro e w1 gs ⟨bf,bl,bi,rfl,rfl⟩ HT;simp only [PU] at HT;generalize wy.heap.size=sb at *
   have hsv:(mE L kb pv).SV (e.1++[cl bb 88 #[Qb kb],cl fb 63 #[WK WL k.t.id,WK WL k.t.gen,WK WL k.t.dl,WK WL k.now]],e.2) (.ai (.put ⟨k.t.id,k.t.gen,k.t.dl,k.now⟩)) WM (WS (WT 209) #[] #[Qb bf,Qb bl,Qb bi]) ([cl bf 1 #[WS (WT 326) #[] #[Qb bb,Qb fb]],cl bl 322 #[.slice (some ⟨sb,0,none⟩) 1 1],cl bi 3 #[WK WN 0],cl sb 1 #[WS (WT 326) #[] #[Qb bb,Qb fb]]]++[]) :=
    ⟨rfl,bf,bl,bi,sb,0,_,_,_,rfl,⟨rfl,bb,fb,rfl,WQ _ (WU ..),WQ _ (XH _ (WU ..))⟩,rfl,rfl⟩
   have fM:=Vh hsv;clear hsv;go_wp2_with fail
   refine Qa.run (aZ.bS (c:=(mE L kb pv).on (e.1++[cl bb 88 #[Qb kb],cl fb 63 #[WK WL k.t.id,WK WL k.t.gen,WK WL k.t.dl,WK WL k.now]],e.2)) (f:=MT.bB) (v:=WS (WT 328) #[] #[Qb bb]) (gm:=[]) (Q6 L kb pv _) rfl fM ⟨rfl,bb,rfl,WQ _ (WU ..)⟩) (HT.bG (H':=[Ql kb L.fb pv (Q9 L k) k,gd,e.1,g2,gW,gP,[cl bb 88 #[Qb kb]],[cl (bb+1) 153 #[WM,WM]],[cl fb 63 #[WK WL k.t.id,WK WL k.t.gen,WK WL k.t.dl,WK WL k.now]],[cl bf 1 #[WS (WT 326) #[] #[Qb bb,Qb fb]],cl bl 322 #[.slice (some ⟨sb,0,none⟩) 1 1],cl bi 3 #[WK WN 0],cl sb 1 #[WS (WT 326) #[] #[Qb bb,Qb fb]]]++[],[]])) [9,10] ?_
   rintro e w1 gs ⟨bs,br,rfl,rfl⟩ HT;simp only [PU] at HT;obtain ⟨r0,r1⟩:=HT.c2 7 0 0 1;obtain ⟨df,dm⟩:=HT.f2 7 0 0 1;simp only [aT] at r0 r1;go_wp2
   exact WR (v:=.agg #[_,_]) (by simp [results,results315,go_sem,r0,r1]) rfl ⟨_,⟨(e.1++[cl bb 88 #[Qb kb],cl fb 63 #[WK WL k.t.id,WK WL k.t.gen,WK WL k.t.dl,WK WL k.now]],e.2),dH.app e _,_,_,_,_,_,rfl,⟨bs,br,_,_,_,[],rfl,rfl,fM,⟨rfl,bb,rfl,WQ _ (WU ..)⟩,rfl⟩,⟨gd,_,_,gP,HD,HX,HW,bD,(rfl:Ql kb L.fb pv (Q9 L k) k++(gd++(e.1++[cl bb 88 #[Qb kb],cl fb 63 #[WK WL k.t.id,WK WL k.t.gen,WK WL k.t.dl,WK WL k.now]]))=_),rfl⟩,rfl⟩,(((HT.set 7 0 rfl 0 _).set 7 0 rfl 1 _).p [9,0,1,2,6,8,3,4,5]).bG⟩
end
section
variable {L:Lay} {x:Qi} {ws:List Qg} {p:Qz} {e:ET} {g gC gK gF:List ak} {kb:Nat} {pv sv:Value} {k:Xd}
theorem dM.of {s:ST} {z:ZT} {en:Ending} {gs:GH} (h:∃ e',dH e e'/\∃ m d g' aY aI,en=WO (.agg #[m,d])/\(mE L kb pv).SV e' s m d g'/\zf L kb pv e' z aY aI/\gs=[g',aY,aI]):dM L kb pv e s z en gs:=h
theorem qly (a b:Int) (ha:0<=a/\a<18446744073709551616) (hb:0<=b/\b<18446744073709551616) :
 ∃ nx er:Int,Qe prog 136 #[WK WL a,WK WL b] [] (WW #[WK WL nx,WK WN er])/\(er=0↔a+b<18446744073709551616)/\(a+b<18446744073709551616->nx=a+b):=by
 by_cases h:a+b<18446744073709551616
 ·exact ⟨a+b,0,Le a b ha.1 hb.1 h,⟨fun _=>h,fun _=>rfl⟩,fun _=>rfl⟩
 ·exact ⟨0,9,Ra a b ha.1 hb.1 ha.2 hb.2 (by omega),⟨fun h'=>by omega,fun h'=>absurd h' h⟩,fun h'=>absurd h' h⟩
theorem q7b (hz:zf L kb pv e ⟨k,x,ws,p⟩ gK gF) (hp:jR .behind ⟨k,x,ws,p⟩) :
 Qa prog 329 #[Qb kb] [gK,gF] (dM L kb pv e (runT .behind ⟨k,x,ws,p⟩).1 (runT .behind ⟨k,x,ws,p⟩).2):=by
 obtain ⟨ho,_⟩:=hp;have hcore:qB x:=ho.core;have lU:=Vh (show ∀ g',Qf L x g'->_ from fun g' hx'=>zY (g:=g') hx' hcore.aa.n1 k.t.slot);have jo:=Vh (Y3 hcore.aa k.t.slot);obtain ⟨nx,er,had,FW,hnx⟩:=qly k.t.dl k.t.per ho.t.dl ho.t.per;have o6:=Vh (show 0<=k.t.per/\k.t.per<18446744073709551616 from ho.t.per);clear ho hcore;simp only [runT];obtain ⟨wd,hwd⟩:∃ wd,wd=x.aa.word k.t.slot:=⟨_,rfl⟩;rw [<- hwd] at jo lU |-;have iD:=Vh (PM wd jo.1 jo.2.1);have uV:=Vh (Oe wd jo.1 jo.2.1);have uX:=Vh (PY wd jo.1 jo.2.1);have Ik:=Vh had;have Aw:=Vh FW;have lS:=Vh hnx;generalize bA wd=sw at *;generalize X7 wd=gw at *;generalize Xk wd=lw at *;clear hwd jo had FW hnx;obtain ⟨R,hR⟩:∃ R:ST × ZT,R=(if sw≠4\/gw≠k.t.gen then (.nil,⟨{ k with aA:=wd },x,ws,p⟩) else if 0<k.t.per/\lw=false/\k.t.dl+k.t.per<18446744073709551616 then (.at none (.aV (k.t.dl+k.t.per)),⟨{ k with aA:=wd },x,ws,p⟩) else (.at none .aS,⟨{ k with aA:=wd },x,ws,p⟩)):=⟨_,rfl⟩;rw [<- hR];have HR:=Vh hR;clear hR;obtain ⟨gd,gC,gW,gP,hd,hx,hw,aW,rfl,rfl⟩:=hz;refine GO fun w HT=>?_
 have HT:=Vh (HT.out.m [Ql kb L.fb pv (Q9 L k) k,gd,e.1,gC,gW,gP]);have HX:=Vh hx;have HD:=Vh hd;have HW:=Vh hw;have bD:=Vh aW;clear hx hd hw aW;go_enter func329,ntmps329
 go_wp2_with fail
 have HT:=Vh ((HT.a 88 #[Qb kb]).alloc (k:=w.heap.size+1) (by simp) 153 #[WM,WM]);generalize XG (XG w _) _=w1 at HT |-;generalize w.heap.size=bb at *;obtain ⟨ι,W,hW0,hend,hin⟩:∃ (ι:Type) (W:ι->World),(∃ i,XM w1=W i)/\(∀ i,∃ gx,Qf L x gx/\TG [Ql kb L.fb pv (Q9 L k) k++(gd++e.1),gC++(gW++gP)] w [Ql kb L.fb pv (Q9 L k) k,gd,e.1,gx,gW,gP,[cl bb 88 #[Qb kb]],[cl (bb+1) 153 #[WM,WM]]] (W i))/\(∀ w',(∃ gx,Qf L x gx/\TG [Ql kb L.fb pv (Q9 L k) k++(gd++e.1),gC++(gW++gP)] w [Ql kb L.fb pv (Q9 L k) k,gd,e.1,gx,gW,gP,[cl bb 88 #[Qb kb]],[cl (bb+1) 153 #[WM,WM]]] w')->∃ i,w'=W i):=⟨{w' // ∃ gx,Qf L x gx/\TG [Ql kb L.fb pv (Q9 L k) k++(gd++e.1),gC++(gW++gP)] w [Ql kb L.fb pv (Q9 L k) k,gd,e.1,gx,gW,gP,[cl bb 88 #[Qb kb]],[cl (bb+1) 153 #[WM,WM]]] w'},XO,⟨⟨_,gC,HX,HT.drew⟩,rfl⟩,fun i=>i.2,fun w' h=>⟨⟨w',h⟩,rfl⟩⟩;have hne:Nonempty ι:=hW0.elim fun i _=>⟨i⟩
 have b0:∀ i,(W i).cell? ⟨bb,0,none⟩=some (Qb kb):=fun i=>by obtain ⟨_,_,T⟩:=hend i;exact T.c 6 0 0
 have k0:∀ i,(W i).cell? ⟨kb,0,none⟩=some (Qb L.fb):=fun i=>by obtain ⟨_,_,T⟩:=hend i;exact T.c 0 0 0
 have k12:∀ i,(W i).cell? ⟨kb,12,none⟩=some (WK WN k.t.slot):=fun i=>by obtain ⟨_,_,T⟩:=hend i;exact T.c 0 0 12
 have m1:∀ i,Calls prog 19 #[Qb L.fb] (W i) fun e w2=>e=WO (Qb L.p.sb)/\∃ j,w2=W j:=fun i=>by
  obtain ⟨_,hg,T⟩:=hend i;refine (Qa.use ((Qq hg).does) T [3] rfl rfl).mono ?_
  rintro e w2 ⟨gs,⟨rfl,rfl⟩,T2⟩;exact ⟨rfl,hin _ ⟨_,hg,T2⟩⟩
 have m2:∀ i,Calls prog 38 #[Qb L.p.sb,WK WN k.t.slot] (W i) fun e w2=>e=WO (WW #[WK WL wd,WK WN (x.aa.kD k.t.slot)])/\∃ j,w2=W j:=fun i=>by
  obtain ⟨_,hg,T⟩:=hend i;refine (Qa.use (lU _ hg) T [3] rfl rfl).mono ?_
  rintro e w2 ⟨gs,⟨rfl,g3,hg3,rfl⟩,T2⟩;exact ⟨rfl,hin _ ⟨g3,hg3,T2⟩⟩
 refine Jw W (by kernel_rfl) (by kernel_rfl) hW0 ?_
 repeat (go_big_quiet_step ((first | (go_at_call 19;with_reducible exact m1 _) | (go_at_call 38;with_reducible exact m2 _))))
 refine WX ?_
 intro _ hw;obtain ⟨iq,hw2⟩:=hw;subst hw2;obtain ⟨g1,hx1,T⟩:=hend iq;have HT:=Vh T;generalize W iq=w1 at HT |-;clear T hend hin hW0 hne;have HX:=Vh hx1;clear hx1 b0 k0 k12 m1 m2;have b0:=HT.c 6 0 0;simp only [aT] at b0;have k16:=HT.c 0 0 16;have lz:=HT.f 0 0 16;simp only [Xh,aC] at k16;go_wp2_with fail
 have HT:=Vh ((HT.set 0 0 rfl 16 (WK WL wd)).eq (H':=[Ql kb L.fb pv (Q9 L k) { k with aA:=wd },gd,e.1,g1,gW,gP,[cl bb 88 #[Qb kb]],[cl (bb+1) 153 #[WM,WM]]]) rfl);clear k16 lz b0;generalize XE _ _ _=w5 at HT |-;have b0:=HT.c 6 0 0;simp only [aT] at b0;have k13:=HT.c 0 0 13;simp only [Xh,aC] at k13;cases hb1:(sw != 4) with
 | true =>
   have hR:=HR.out;rw [if_pos (.inl (by simpa using hb1))] at hR;subst hR;go_quiet ((first | (go_at_call 39;with_reducible exact Qe.quiet (iD.out) HT.out _ [] rfl rfl) | (go_at_call 229;with_reducible exact Qe.quiet (uV.out) HT.out _ [] rfl rfl)))
   have HT:=Vh (HT.out.drewN nq);have HT:=Vh HT.out;generalize XK _ _=wq at HT |-;clear b0 k13;obtain ⟨r0,r1⟩:=HT.c2 7 0 0 1;obtain ⟨df,dm⟩:=HT.f2 7 0 0 1;simp only [aT] at r0 r1;go_wp2
   exact WR (v:=.agg #[_,_]) (by simp [results,results329,go_sem,r0,r1]) rfl ⟨_,dM.of ⟨e,dH.refl e,_,_,[],_,_,rfl,⟨rfl,rfl,rfl⟩,⟨gd,_,_,gP,HD,HX,HW,bD,(rfl:Ql kb L.fb pv (Q9 L k) { k with aA:=wd }++(gd++e.1)=_),rfl⟩,rfl⟩,(((HT.set 7 0 rfl 0 _).set 7 0 rfl 1 _).p [0,1,2,3,4,5]).bG⟩
 | false =>
   cases hb2:(gw != k.t.gen) with
   | true =>
     have hR:=HR.out;rw [if_pos (.inr (by simpa using hb2))] at hR;subst hR;go_quiet ((first | (go_at_call 39;with_reducible exact Qe.quiet (iD.out) HT.out _ [] rfl rfl) | (go_at_call 229;with_reducible exact Qe.quiet (uV.out) HT.out _ [] rfl rfl)))
     have HT:=Vh (HT.out.drewN nq);have HT:=Vh HT.out;generalize XK _ _=wq at HT |-;clear b0 k13;obtain ⟨r0,r1⟩:=HT.c2 7 0 0 1;obtain ⟨df,dm⟩:=HT.f2 7 0 0 1;simp only [aT] at r0 r1;go_wp2
     exact WR (v:=.agg #[_,_]) (by simp [results,results329,go_sem,r0,r1]) rfl ⟨_,dM.of ⟨e,dH.refl e,_,_,[],_,_,rfl,⟨rfl,rfl,rfl⟩,⟨gd,_,_,gP,HD,HX,HW,bD,(rfl:Ql kb L.fb pv (Q9 L k) { k with aA:=wd }++(gd++e.1)=_),rfl⟩,rfl⟩,(((HT.set 7 0 rfl 0 _).set 7 0 rfl 1 _).p [0,1,2,3,4,5]).bG⟩
   | false =>
     have hR:=HR.out;rw [if_neg (by simp only [bne_eq_false_iff_eq] at hb1 hb2;omega)] at hR;have HR:=Vh hR;go_quiet ((first | (go_at_call 39;with_reducible exact Qe.quiet (iD.out) HT.out _ [] rfl rfl) | (go_at_call 229;with_reducible exact Qe.quiet (uV.out) HT.out _ [] rfl rfl)))
     have HT:=Vh (HT.out.drewN nq);generalize XK _ _=wz at HT |-;clear b0 k13 hR iD uV hb1 hb2 lU;have b0:=HT.c 6 0 0;simp only [aT] at b0;obtain ⟨k14,k15⟩:=HT.c2 0 0 14 15;simp only [Xh,aC] at k14 k15;have bI:=HT.l 6 0;have ji:=HT.l 0 0;simp only [] at bI ji;go_wp2_with fail
     apply U7 (A:=fun (nb:Nat) w5=>TG [Ql kb L.fb pv (Q9 L k) k++(gd++e.1),gC++(gW++gP)] w [Ql kb L.fb pv (Q9 L k) { k with aA:=wd },gd,e.1,g1,gW,gP,[cl bb 88 #[Qb kb]],[cl (bb+1) 153 #[WM,WM]],[cl nb 36 #[WK WL nx]]] w5)
     case main =>
      intro key
      go_region_held3 (fun w'=>w'.cell? ⟨bb,0,none⟩=some (Qb kb)/\w'.cell? ⟨kb,14,none⟩=some (WK WL k.t.dl)/\w'.cell? ⟨kb,15,none⟩=some (WK WL k.t.per))
       (first
       | exact ⟨b0,k14,k15⟩
       | exact ⟨q1,q2,q3⟩
       | (refine ⟨?_,?_,?_⟩ <;> (simp [go_sem,b0,k14,k15,bI,ji,WZ bI,WZ ji,XA bI,XA ji];done))
       | (refine ⟨?_,?_,?_⟩ <;> (simp [go_sem,q1,q2,q3,l1,l2,WZ l1,WZ l2,XA l1,XA l2];done))
       | (refine ⟨?_,?_,?_⟩ <;> (simp [go_sem,q1,q2,q3,bI,ji,WZ bI,WZ ji,XA bI,XA ji];done))
       | exact ⟨s1,s2,s3⟩
       | exact ⟨((dY.set 8 0 rfl 0 (WK WL nx)).c 6 0 0),((dY.set 8 0 rfl 0 (WK WL nx)).c 0 0 14),((dY.set 8 0 rfl 0 (WK WL nx)).c 0 0 15)⟩
       | exact ⟨((dY.alloc (k:=w7.heap.size) rfl 36 #[WK WL nx]).c 6 0 0),((dY.alloc (k:=w7.heap.size) rfl 36 #[WK WL nx]).c 0 0 14),((dY.alloc (k:=w7.heap.size) rfl 36 #[WK WL nx]).c 0 0 15)⟩
       | exact ⟨(((dY.alloc (k:=w7.heap.size) rfl 36 #[WK WL 0]).set 8 0 rfl 0 (WK WL nx)).c 6 0 0),(((dY.alloc (k:=w7.heap.size) rfl 36 #[WK WL 0]).set 8 0 rfl 0 (WK WL nx)).c 0 0 14),(((dY.alloc (k:=w7.heap.size) rfl 36 #[WK WL 0]).set 8 0 rfl 0 (WK WL nx)).c 0 0 15)⟩)
       (first
       | (go_at_call 136
          refine (Qe.use Ik HT.drew [] rfl rfl).mono ?_
          rintro e w7 ⟨rfl,mq,rfl⟩;have dY:=Vh (HT.out.drew.drewN mq);have q1:=dY.c 6 0 0;obtain ⟨q2,q3⟩:=dY.c2 0 0 14 15;have l1:=dY.l 6 0;have l2:=dY.l 0 0;simp only [Xh,aC] at q1 q2 q3 l1 l2
          generalize XK _ _=w7 at dY q1 q2 q3 l1 l2 |-)
       | (go_at_call 136
          refine (Qe.use Ik (HT.a 36 #[WK WL 0]).drew [] rfl rfl).mono ?_
          rintro e w7 ⟨rfl,mq,rfl⟩;have dY:=Vh ((HT.a 36 #[WK WL 0]).drew.drewN mq);have c0:=dY.c 8 0 0;have f0:=dY.f 8 0 0;simp only [bR] at c0;have q1:=dY.c 6 0 0;obtain ⟨q2,q3⟩:=dY.c2 0 0 14 15;have l1:=dY.l 6 0;have l2:=dY.l 0 0;simp only [Xh,aC] at q1 q2 q3 l1 l2;generalize XK _ _=w7 at dY c0 f0 q1 q2 q3 l1 l2 |-;have ll:=dY.set 8 0 rfl 0 (WK WL nx);have s1:=ll.c 6 0 0;obtain ⟨s2,s3⟩:=ll.c2 0 0 14 15
          simp only [Xh,aC] at s1 s2 s3))
      ·have T5:=(dY.alloc (k:=w7.heap.size) rfl 36 #[WK WL nx]).eq (H':=[Ql kb L.fb pv (Q9 L k) { k with aA:=wd },gd,e.1,g1,gW,gP,[cl bb 88 #[Qb kb]],[cl (bb+1) 153 #[WM,WM]],[cl w7.heap.size 36 #[WK WL nx]]]) rfl
       clear dY q1 q2 q3 l1 l2;generalize XG w7 _=w5 at T5 |-;generalize w7.heap.size=nb at T5 |-;exact key nb w5 T5
      ·have T5:=(dY.set 8 0 rfl 0 (WK WL nx)).eq (H':=[Ql kb L.fb pv (Q9 L k) { k with aA:=wd },gd,e.1,g1,gW,gP,[cl bb 88 #[Qb kb]],[cl (bb+1) 153 #[WM,WM]],[cl wz.heap.size 36 #[WK WL nx]]]) rfl
       clear dY q1 q2 q3 l1 l2 c0 f0 s1 s2 s3 ll;generalize XE w7 _ _=w5 at T5 |-;generalize wz.heap.size=nb at T5 |-;exact key nb w5 T5
     case key =>
      rintro nb w5 T5;have HT:=Vh T5;clear T5 b0 k14 k15 bI ji;have lS:=lS.out;have iP:=o6.out;have b0:=HT.c 6 0 0;simp only [aT] at b0;have k15:=HT.c 0 0 15;simp only [Xh,aC] at k15;by_cases hp0:0<k.t.per
      ·cases lw with
       | false =>
         by_cases hov:k.t.dl+k.t.per<18446744073709551616
         ·have hR:=HR.out
          rw [if_pos ⟨hp0,rfl,hov⟩] at hR;subst hR;have FW:=Aw.2 hov;subst FW;have hnx:=lS hov;subst hnx;clear lS iP Aw;go_wp2_with fail
          refine Qe.run uX HT [] ?_
          rintro e wq rfl HT;clear b0 k15;go_wp2_with fail
          refine Qa.run (nz _ _ _) (HT) [] ?_
          rintro e w1 gs ⟨rfl,rfl⟩ HT;simp only [PU] at HT;obtain ⟨r0,r1⟩:=HT.c2 7 0 0 1;obtain ⟨df,dm⟩:=HT.f2 7 0 0 1;simp only [aT] at r0 r1;go_wp2
          exact WR (v:=.agg #[_,_]) (by simp [results,results329,go_sem,r0,r1]) rfl ⟨_,dM.of ⟨(e.1++[cl bb 88 #[Qb kb],cl nb 36 #[WK WL (k.t.dl+k.t.per)]],e.2),dH.app e _,_,_,[],_,_,rfl,⟨rfl,rfl,⟨bb,nb,rfl,WQ _ (WU ..),WQ _ (XH _ (WU ..))⟩⟩,⟨gd,_,_,gP,HD,HX,HW,bD,(rfl:Ql kb L.fb pv (Q9 L k) { k with aA:=wd }++(gd++(e.1++[cl bb 88 #[Qb kb],cl nb 36 #[WK WL (k.t.dl+k.t.per)]]))=_),rfl⟩,rfl⟩,(((HT.set 7 0 rfl 0 _).set 7 0 rfl 1 _).p [0,1,2,6,8,3,4,5]).bG⟩
         ·have hR:=HR.out
          rw [if_neg (fun h=>hov h.2.2)] at hR;subst hR;have FU:(er == 0)=false:=beq_eq_false_iff_ne.2 fun h=>hov (Aw.1 h)
          clear lS iP Aw hov;go_wp2_with fail
          refine Qe.run uX HT [] ?_
          rintro e wq rfl HT;clear b0 k15;have b0:=HT.c 6 0 0;simp only [aT] at b0;go_wp2_with fail
          refine Qa.run (nz _ _ _) (HT) [] ?_
          rintro e w1 gs ⟨rfl,rfl⟩ HT;simp only [PU] at HT;obtain ⟨r0,r1⟩:=HT.c2 7 0 0 1;obtain ⟨df,dm⟩:=HT.f2 7 0 0 1;simp only [aT] at r0 r1;go_wp2
          exact WR (v:=.agg #[_,_]) (by simp [results,results329,go_sem,r0,r1]) rfl ⟨_,dM.of ⟨e,dH.refl e,_,_,[],_,_,rfl,⟨rfl,rfl,rfl⟩,⟨gd,_,_,gP,HD,HX,HW,bD,(rfl:Ql kb L.fb pv (Q9 L k) { k with aA:=wd }++(gd++e.1)=_),rfl⟩,rfl⟩,(((HT.set 7 0 rfl 0 _).set 7 0 rfl 1 _).p [0,1,2,3,4,5]).bG⟩
       | true =>
         have hR:=HR.out;rw [if_neg (fun h=>by cases h.2.1)] at hR;subst hR;clear lS iP Aw;go_wp2_with fail
         refine Qe.run uX HT [] ?_
         rintro e wq rfl HT;clear b0 k15;have b0:=HT.c 6 0 0;simp only [aT] at b0;go_wp2_with fail
         refine Qa.run (nz _ _ _) (HT) [] ?_
         rintro e w1 gs ⟨rfl,rfl⟩ HT;simp only [PU] at HT;obtain ⟨r0,r1⟩:=HT.c2 7 0 0 1;obtain ⟨df,dm⟩:=HT.f2 7 0 0 1;simp only [aT] at r0 r1;go_wp2
         exact WR (v:=.agg #[_,_]) (by simp [results,results329,go_sem,r0,r1]) rfl ⟨_,dM.of ⟨e,dH.refl e,_,_,[],_,_,rfl,⟨rfl,rfl,rfl⟩,⟨gd,_,_,gP,HD,HX,HW,bD,(rfl:Ql kb L.fb pv (Q9 L k) { k with aA:=wd }++(gd++e.1)=_),rfl⟩,rfl⟩,(((HT.set 7 0 rfl 0 _).set 7 0 rfl 1 _).p [0,1,2,3,4,5]).bG⟩
      ·have hR:=HR.out
       rw [if_neg (fun h=>hp0 h.1)] at hR;subst hR;have xP:k.t.per=0:=by omega
       rw [xP] at k15;clear lS Aw iP hp0 xP Ik uX;go_wp2_with fail
       refine Qa.run (nz _ _ _) (HT) [] ?_
       rintro e w1 gs ⟨rfl,rfl⟩ HT;simp only [PU] at HT;obtain ⟨r0,r1⟩:=HT.c2 7 0 0 1;obtain ⟨df,dm⟩:=HT.f2 7 0 0 1;simp only [aT] at r0 r1;go_wp2
       exact WR (v:=.agg #[_,_]) (by simp [results,results329,go_sem,r0,r1]) rfl ⟨_,dM.of ⟨e,dH.refl e,_,_,[],_,_,rfl,⟨rfl,rfl,rfl⟩,⟨gd,_,_,gP,HD,HX,HW,bD,(rfl:Ql kb L.fb pv (Q9 L k) { k with aA:=wd }++(gd++e.1)=_),rfl⟩,rfl⟩,(((HT.set 7 0 rfl 0 _).set 7 0 rfl 1 _).p [0,1,2,3,4,5]).bG⟩
end
section
variable {L:Lay} {x:Qi} {ws:List Qg} {p:Qz} {e:ET} {g gC gK gF:List ak} {kb:Nat} {pv sv:Value} {k:Xd}
def AA (L:Lay) (kb:Nat) (pv:Value) (e:ET) (y:YT) (z:ZT) (en:Ending) (gs:GH):Prop :=
 ∃ aY aI,en=WO (.bool (rU y z))/\zf L kb pv e z aY aI/\gs=[aY,aI]
theorem mZ.of {z:ZT} {en:Ending} {gs:GH} (h:∃ e',dH e e'/\∃ aY aI,en=WO (WW #[])/\zf L kb pv e' z aY aI/\gs=[[],aY,aI]):mZ L kb pv e z en gs:=h
theorem AA.of {y:YT} {z:ZT} {en:Ending} {gs:GH} (h:∃ aY aI,en=WO (.bool (rU y z))/\zf L kb pv e z aY aI/\gs=[aY,aI]):AA L kb pv e y z en gs:=h
theorem zb6 (d:Nat) (hz:zf L kb pv e ⟨k,x,ws,p⟩ gK gF) (hp:jR (.dI d) ⟨k,x,ws,p⟩) (bk bd:Nat) (hb:gu kb bk e) (hbd:e.2[d]?=some bd) :
 Qa prog 274 #[Qb bk,Qb bd] [gK,gF] (dM L kb pv e (runT (.dI d) ⟨k,x,ws,p⟩).1 (runT (.dI d) ⟨k,x,ws,p⟩).2):=by
 obtain ⟨ho,hh,hc,tH⟩:=hp;obtain ⟨gd,gC,gW,gP,hd,hx,hw,aW,rfl,rfl⟩:=hz;obtain ⟨i,q,s,S,hki,hq,hs,hS,hsv,hsh,hss,jv,hwo,hrb,ht0,ht1⟩:=xw hx hw ho hh;have hth:0<=k.th/\k.th<=1000000:=⟨ho.th,tH⟩;clear tH
 rw [show runT (.dI d) ⟨k,x,ws,p⟩=(.at none (.bX d),⟨k,{ x with au:=x.au.set i { s with who:=ow s.who k.th,turns:=nC s.who s.turns } },ws,p⟩) by
  simp only [runT,ZT.cZ,hss,hsh]]
 dsimp only
 have yE:=Vh (fun (g:List ak) (hg:Qf L x g)=>KT hg hq hs);have Cs:=Vh (fun (g:List ak) (hg:Qf L x g)=>Ls (v:=.bool (s.who == 0)) hg hq hs fun g hl=>qxk k.th hl ⟨hth.1,by omega⟩ ⟨ht0,by omega⟩);clear hth ho hh hc hki hq hs hS hsh hss jv hwo hrb ht0 ht1;refine GO fun w HT=>?_
 have HT:=Vh (HT.out.m [Ql kb L.fb pv (Q9 L k) k,gd,e.1,gC,gW,gP]);have HX:=Vh hx;have HD:=Vh hd;have HW:=Vh hw;have bD:=Vh aW;have fM:=Vh hsv;clear hx hd hw aW hsv;have ng:=Vh hbd;clear hbd;have HB:=Vh (show cl bk 88 #[Qb kb]∈e.1 from hb);clear hb;have bI:=HT.bg 2 HB;simp only [] at bI;go_enter func274,ntmps274
 go_wp2_with fail
 have HT:=Vh (HT.out.a 153 #[WM,WM]);generalize XG w _=w1 at HT |-;generalize w.heap.size=bs at *;obtain ⟨ι,W,hW0,hend,hin⟩:∃ (ι:Type) (W:ι->World),(∃ i,XM w1=W i)/\(∀ i,∃ gx,Qf L x gx/\TG [Ql kb L.fb pv (Q9 L k) k++(gd++e.1),gC++(gW++gP)] w [Ql kb L.fb pv (Q9 L k) k,gd,e.1,gx,gW,gP,[cl bs 153 #[WM,WM]]] (W i))/\(∀ w',(∃ gx,Qf L x gx/\TG [Ql kb L.fb pv (Q9 L k) k++(gd++e.1),gC++(gW++gP)] w [Ql kb L.fb pv (Q9 L k) k,gd,e.1,gx,gW,gP,[cl bs 153 #[WM,WM]]] w')->∃ i,w'=W i):=⟨{w' // ∃ gx,Qf L x gx/\TG [Ql kb L.fb pv (Q9 L k) k++(gd++e.1),gC++(gW++gP)] w [Ql kb L.fb pv (Q9 L k) k,gd,e.1,gx,gW,gP,[cl bs 153 #[WM,WM]]] w'},XO,⟨⟨_,gC,HX,HT.drew⟩,rfl⟩,fun i=>i.2,fun w' h=>⟨⟨w',h⟩,rfl⟩⟩;have hne:Nonempty ι:=hW0.elim fun i _=>⟨i⟩
 have b0:∀ i,(W i).cell? ⟨bk,0,none⟩=some (Qb kb):=fun i=>by obtain ⟨_,_,T⟩:=hend i;exact T.aj 2 HB 0
 have k10:∀ i,(W i).cell? ⟨kb,10,none⟩=some (Qb q.b):=fun i=>by obtain ⟨_,_,T⟩:=hend i;exact fM.out ▸ T.c 0 0 10
 have k1:∀ i,(W i).cell? ⟨kb,1,none⟩=some (WK WN k.th):=fun i=>by obtain ⟨_,_,T⟩:=hend i;exact T.c 0 0 1
 have m1:∀ i,Calls prog 33 #[Qb q.b] (W i) fun e w2=>e=WO (Qb q.lb)/\∃ j,w2=W j:=fun i=>by
  obtain ⟨_,hg,T⟩:=hend i;refine (Qa.use (yE _ hg) T [3] rfl rfl).mono ?_
  rintro e w2 ⟨gs,⟨rfl,g3,hg3,rfl⟩,T2⟩;exact ⟨rfl,hin _ ⟨g3,hg3,T2⟩⟩
 refine Yu (fun w'=>∃ i,w'=W i) 9 (by kernel_rfl) (by kernel_rfl) hW0 ?_
 simp only [dx]
 repeat (go_big_quiet_step ((first | (go_at_call 33;with_reducible exact m1 _))))
 refine WX ?_
 intro _ hw';obtain ⟨iq,hw''⟩:=hw';subst hw'';obtain ⟨g1,hx1,T⟩:=hend iq;have HT:=Vh T;generalize W iq=w1 at HT |-;clear T hend hin hW0 hne;have jZ:=Vh hx1;clear hx1 b0 k10 k1 m1;go_wp2_with fail
 refine Qa.run (Cs _ jZ) (HT) [3] ?_
 rintro e w1 gs ⟨rfl,g2,hx2,rfl⟩ HT;simp only [PU] at HT;have HX:=Vh hx2;clear hx2;go_wp2_with fail
 refine ⟨rfl,?_⟩
 go_wp2_with fail
 refine Qa.run (nz _ _ _) (HT) [] ?_
 rintro e w1 gs ⟨rfl,rfl⟩ HT;simp only [PU] at HT;obtain ⟨r0,r1⟩:=HT.c2 6 0 0 1;obtain ⟨df,dm⟩:=HT.f2 6 0 0 1;simp only [aT] at r0 r1;go_wp2
 exact WR (v:=.agg #[_,_]) (by simp [results,results274,go_sem,r0,r1]) rfl ⟨_,dM.of ⟨e,dH.refl e,_,_,[],_,_,rfl,⟨rfl,rfl,⟨bk,bd,rfl,HB,ng⟩⟩,⟨gd,_,_,gP,HD,HX,HW,bD,(rfl:Ql kb L.fb pv (Q9 L k) k++(gd++e.1)=_),rfl⟩,rfl⟩,(((HT.set 6 0 rfl 0 _).set 6 0 rfl 1 _).p [0,1,2,3,4,5]).bG⟩
theorem zcd (hz:zf L kb pv e ⟨k,x,ws,p⟩ gK gF) (hp:Gm .lock ⟨k,x,ws,p⟩) (bk:Nat) (hb:gu kb bk e) :
 Qa prog 272 #[Qb bk] [gK,gF] (AA L kb pv e .lock ⟨k,x,ws,p⟩):=by
 obtain ⟨ho,hh⟩:=hp;obtain ⟨gd,gC,gW,gP,hd,hx,hw,aW,rfl,rfl⟩:=hz;obtain ⟨i,q,s,S,hki,hq,hs,hS,hsv,hsh,hss,jv,hwo,hrb,ht0,ht1⟩:=xw hx hw ho hh;have hm:rU .lock ⟨k,x,ws,p⟩=(decide (0<=k.th) && s.who == 0):=by simp only [rU,hss]
 have yE:=Vh (fun (g:List ak) (hg:Qf L x g)=>KT hg hq hs);have hlm:∀ (g:List ak) (hg:Qf L x g),_:=fun (g:List ak) (hg:Qf L x g)=>Ls (v:=.bool (decide (0<=k.th) && s.who == 0)) hg hq hs fun g hl=>qxi k.th hl
 rw [<- hm,qm hs] at hlm;have HLM:=Vh hlm;clear hm hlm ho hh hki hq hs hS hsh hss jv hwo hrb ht0 ht1;generalize hmv:rU .lock ⟨k,x,ws,p⟩=mv at *;have HMV:=Vh hmv;clear hmv;refine GO fun w HT=>?_
 have HT:=Vh (HT.out.m [Ql kb L.fb pv (Q9 L k) k,gd,e.1,gC,gW,gP]);have HX:=Vh hx;have HD:=Vh hd;have HW:=Vh hw;have bD:=Vh aW;have fM:=Vh hsv;clear hx hd hw aW hsv;have HB:=Vh (show cl bk 88 #[Qb kb]∈e.1 from hb);clear hb;have bI:=HT.bg 2 HB;simp only [] at bI;go_enter func272,ntmps272
 go_wp2_with fail
 obtain ⟨ι,W,hW0,hend,hin⟩:∃ (ι:Type) (W:ι->World),(∃ i,XM w=W i)/\(∀ i,∃ gx,Qf L x gx/\TG [Ql kb L.fb pv (Q9 L k) k++(gd++e.1),gC++(gW++gP)] w [Ql kb L.fb pv (Q9 L k) k,gd,e.1,gx,gW,gP] (W i))/\(∀ w',(∃ gx,Qf L x gx/\TG [Ql kb L.fb pv (Q9 L k) k++(gd++e.1),gC++(gW++gP)] w [Ql kb L.fb pv (Q9 L k) k,gd,e.1,gx,gW,gP] w')->∃ i,w'=W i):=⟨{w' // ∃ gx,Qf L x gx/\TG [Ql kb L.fb pv (Q9 L k) k++(gd++e.1),gC++(gW++gP)] w [Ql kb L.fb pv (Q9 L k) k,gd,e.1,gx,gW,gP] w'},XO,⟨⟨_,gC,HX,HT.drew⟩,rfl⟩,fun i=>i.2,fun w' h=>⟨⟨w',h⟩,rfl⟩⟩;have hne:Nonempty ι:=hW0.elim fun i _=>⟨i⟩
 have b0:∀ i,(W i).cell? ⟨bk,0,none⟩=some (Qb kb):=fun i=>by obtain ⟨_,_,T⟩:=hend i;exact T.aj 2 HB 0
 have k10:∀ i,(W i).cell? ⟨kb,10,none⟩=some (Qb q.b):=fun i=>by obtain ⟨_,_,T⟩:=hend i;exact fM.out ▸ T.c 0 0 10
 have k1:∀ i,(W i).cell? ⟨kb,1,none⟩=some (WK WN k.th):=fun i=>by obtain ⟨_,_,T⟩:=hend i;exact T.c 0 0 1
 have m1:∀ i,Calls prog 33 #[Qb q.b] (W i) fun e w2=>e=WO (Qb q.lb)/\∃ j,w2=W j:=fun i=>by
  obtain ⟨_,hg,T⟩:=hend i;refine (Qa.use (yE _ hg) T [3] rfl rfl).mono ?_
  rintro e w2 ⟨gs,⟨rfl,g3,hg3,rfl⟩,T2⟩;exact ⟨rfl,hin _ ⟨g3,hg3,T2⟩⟩
 have m2:∀ i,Calls prog 273 #[Qb q.lb,WK WN k.th] (W i) fun e w2=>e=WO (.bool mv)/\∃ j,w2=W j:=fun i=>by
  obtain ⟨_,hg,T⟩:=hend i;refine (Qa.use (HLM _ hg) T [3] rfl rfl).mono ?_
  rintro e w2 ⟨gs,⟨rfl,g3,hg3,rfl⟩,T2⟩;exact ⟨rfl,hin _ ⟨g3,hg3,T2⟩⟩
 refine Jw W (by kernel_rfl) (by kernel_rfl) hW0 ?_
 repeat (go_big_quiet_step ((first | (go_at_call 33;with_reducible exact m1 _) | (go_at_call 273;with_reducible exact m2 _))))
 refine WX ?_
 intro _ hw;obtain ⟨iq,hw2⟩:=hw;subst hw2;obtain ⟨g1,hx1,T⟩:=hend iq;have HT:=Vh T;generalize W iq=w1 at HT |-;clear T hend hin hW0 hne;have jZ:=Vh hx1;clear hx1 b0 k10 k1 m1 m2;go_wp2
 go_ret
 exact ⟨_,AA.of ⟨_,_,by rw [HMV.out];rfl,⟨gd,g1,gW,gP,HD,jZ,HW,bD,rfl,rfl⟩,rfl⟩,HT.bG⟩
theorem q44 (hz:zf L kb pv e ⟨k,x,ws,p⟩ gK gF) (hp:vR .unlock ⟨k,x,ws,p⟩) (bk:Nat) (hb:gu kb bk e) :
 Qa prog 284 #[Qb bk] [gK,gF] (mZ L kb pv e (Q3 .unlock ⟨k,x,ws,p⟩)):=by
 obtain ⟨ho,hh,hwho,tH⟩:=hp;obtain ⟨gd,gC,gW,gP,hd,hx,hw,aW,rfl,rfl⟩:=hz;obtain ⟨i,q,s,S,hki,hq,hs,hS,hsv,hsh,hss,jv,hwo,hrb,ht0,ht1⟩:=xw hx hw ho hh;rw [hss] at hwho;have hth:0<=k.th/\k.th<=1000000:=⟨ho.th,tH⟩;clear tH;have hwho:s.who=k.th+1:=hwho
 rw [show Q3 .unlock ⟨k,x,ws,p⟩=⟨k,{ x with au:=x.au.set i { s with who:=0,turns:=s.turns } },ws,p⟩ by
  simp only [Q3,ZT.cZ,hss,hsh]]
 have yE:=Vh (fun (g:List ak) (hg:Qf L x g)=>KT hg hq hs);have Cs:=Vh (fun (g:List ak) (hg:Qf L x g)=>Ls (v:=WK WN 0) hg hq hs fun g hl=>qpo k.th (hwho ▸ hl) ⟨hth.1,by omega⟩);clear hth ho hh hki hq hs hS hsh hss jv hwo hrb ht0 ht1 hwho;refine GO fun w HT=>?_
 have HT:=Vh (HT.out.m [Ql kb L.fb pv (Q9 L k) k,gd,e.1,gC,gW,gP]);have HX:=Vh hx;have HD:=Vh hd;have HW:=Vh hw;have bD:=Vh aW;have fM:=Vh hsv;clear hx hd hw aW hsv;have HB:=Vh (show cl bk 88 #[Qb kb]∈e.1 from hb);clear hb;have bI:=HT.bg 2 HB;simp only [] at bI;go_enter func284,ntmps284
 go_wp2_with fail
 obtain ⟨ι,W,hW0,hend,hin⟩:∃ (ι:Type) (W:ι->World),(∃ i,XM w=W i)/\(∀ i,∃ gx,Qf L x gx/\TG [Ql kb L.fb pv (Q9 L k) k++(gd++e.1),gC++(gW++gP)] w [Ql kb L.fb pv (Q9 L k) k,gd,e.1,gx,gW,gP] (W i))/\(∀ w',(∃ gx,Qf L x gx/\TG [Ql kb L.fb pv (Q9 L k) k++(gd++e.1),gC++(gW++gP)] w [Ql kb L.fb pv (Q9 L k) k,gd,e.1,gx,gW,gP] w')->∃ i,w'=W i):=⟨{w' // ∃ gx,Qf L x gx/\TG [Ql kb L.fb pv (Q9 L k) k++(gd++e.1),gC++(gW++gP)] w [Ql kb L.fb pv (Q9 L k) k,gd,e.1,gx,gW,gP] w'},XO,⟨⟨_,gC,HX,HT.drew⟩,rfl⟩,fun i=>i.2,fun w' h=>⟨⟨w',h⟩,rfl⟩⟩;have hne:Nonempty ι:=hW0.elim fun i _=>⟨i⟩
 have b0:∀ i,(W i).cell? ⟨bk,0,none⟩=some (Qb kb):=fun i=>by obtain ⟨_,_,T⟩:=hend i;exact T.aj 2 HB 0
 have k10:∀ i,(W i).cell? ⟨kb,10,none⟩=some (Qb q.b):=fun i=>by obtain ⟨_,_,T⟩:=hend i;exact fM.out ▸ T.c 0 0 10
 have k1:∀ i,(W i).cell? ⟨kb,1,none⟩=some (WK WN k.th):=fun i=>by obtain ⟨_,_,T⟩:=hend i;exact T.c 0 0 1
 have m1:∀ i,Calls prog 33 #[Qb q.b] (W i) fun e w2=>e=WO (Qb q.lb)/\∃ j,w2=W j:=fun i=>by
  obtain ⟨_,hg,T⟩:=hend i;refine (Qa.use (yE _ hg) T [3] rfl rfl).mono ?_
  rintro e w2 ⟨gs,⟨rfl,g3,hg3,rfl⟩,T2⟩;exact ⟨rfl,hin _ ⟨g3,hg3,T2⟩⟩
 refine Yu (fun w'=>∃ i,w'=W i) 9 (by kernel_rfl) (by kernel_rfl) hW0 ?_
 simp only [dx]
 repeat (go_big_quiet_step ((first | (go_at_call 33;with_reducible exact m1 _))))
 refine WX ?_
 intro _ hw';obtain ⟨iq,hw''⟩:=hw';subst hw'';obtain ⟨g1,hx1,T⟩:=hend iq;have HT:=Vh T;generalize W iq=w1 at HT |-;clear T hend hin hW0 hne;have jZ:=Vh hx1;clear hx1 b0 k10 k1 m1;go_wp2_with fail
 refine Qa.run (Cs _ jZ) (HT) [3] ?_
 rintro e w1 gs ⟨rfl,g2,hx2,rfl⟩ HT;simp only [PU] at HT;have HX:=Vh hx2;clear hx2;go_wp2_with fail
 refine ⟨rfl,?_⟩
 go_wp2
 exact XB (XC rfl _ _ _) rfl ⟨_,mZ.of ⟨e,dH.refl e,_,_,rfl,⟨gd,_,gW,gP,HD,HX,HW,bD,rfl,rfl⟩,rfl⟩,HT.bG⟩
end
section
variable {L:Lay} {x:Qi} {ws:List Qg} {p:Qz} {e:ET} {g gC gK gF:List ak} {kb:Nat} {pv sv:Value} {k:Xd}
theorem q42 (hz:zf L kb pv e ⟨k,x,ws,p⟩ gK gF) (hp:vR .leave1 ⟨k,x,ws,p⟩) (bk:Nat) (hb:gu kb bk e) :
 Qa prog 261 #[Qb bk] [gK,gF] (mZ L kb pv e (Q3 .leave1 ⟨k,x,ws,p⟩)):=by
 have hi0:=hp.1.core.i0;have hi1:=hp.1.core.i1;simp only at hi0 hi1;clear hp;simp only [Q3];obtain ⟨gd,gC,gW,gP,hd,hx,hw,aW,rfl,rfl⟩:=hz;refine GO fun w HT=>?_
 have HT:=Vh (HT.out.m [Ql kb L.fb pv (Q9 L k) k,gd,e.1,gC,gW,gP]);have HX:=Vh hx;have HD:=Vh hd;have HW:=Vh hw;have bD:=Vh aW;clear hx hd hw aW;have Ay:=Vh (Sw HX ⟨hi0,hi1⟩);clear hi0 hi1;have HB:=Vh (show cl bk 88 #[Qb kb]∈e.1 from hb);clear hb;have b0:=HT.aj 2 HB 0;have bI:=HT.bg 2 HB;simp only [bR] at b0 bI;have k0:=HT.c 0 0 0;simp only [Xh,aC] at k0;go_enter func261,ntmps261
 go_wp2_with fail
 refine Qa.run Ay HT [3] ?_
 rintro e w1 gs ⟨rfl,g2,hx2,rfl⟩ HT;simp only [PU] at HT;have HX:=Vh hx2;clear hx2;go_wp2
 exact XB (XC rfl _ _ _) rfl ⟨_,mZ.of ⟨e,dH.refl e,_,_,rfl,⟨gd,_,gW,gP,HD,HX,HW,bD,rfl,rfl⟩,rfl⟩,HT.bG⟩
theorem q41 (hz:zf L kb pv e ⟨k,x,ws,p⟩ gK gF) (hp:vR .answer ⟨k,x,ws,p⟩) (bk:Nat) (hb:gu kb bk e) :
 Qa prog 262 #[Qb bk] [gK,gF] (mZ L kb pv e (Q3 .answer ⟨k,x,ws,p⟩)):=by
 have pI:=Vh (show x.tr.length<=1000000 from hp.1.core.tr);clear hp;rw [show Q3 .answer ⟨k,x,ws,p⟩=⟨k,{ x with tr:=x.tr++[lq k { bO with kind:=2,err:=k.err }] },ws,p⟩ from rfl];obtain ⟨gd,gC,gW,gP,hd,hx,hw,aW,rfl,rfl⟩:=hz;refine GO fun w HT=>?_
 have HT:=Vh (HT.out.m [Ql kb L.fb pv (Q9 L k) k,gd,e.1,gC,gW,gP]);have HX:=Vh hx;have HD:=Vh hd;have HW:=Vh hw;have bD:=Vh aW;clear hx hd hw aW;have hnt:=Ac (kb:=kb) (pv:=pv) (sv:=Q9 L k) (k:=k) HX { bO with kind:=2,err:=k.err } pI;simp only [EvS.cells,bO] at hnt;have o5:=Vh hnt;clear hnt pI;have HB:=Vh (show cl bk 88 #[Qb kb]∈e.1 from hb);clear hb;have b0:=HT.aj 2 HB 0;have bI:=HT.bg 2 HB;simp only [bR] at b0 bI;have k3:=HT.c 0 0 3;simp only [Xh,aC] at k3;go_enter func262,ntmps262
 go_wp2_with fail
 refine Mx 7 ?_
 simp only [dx]
 repeat (go_big_quiet_step ((fail)))
 refine WX (QT HT fun nq HT=>?_)
 go_wp2_with fail
 refine Qa.run o5 HT [0,3] ?_
 rintro e w1 gs ⟨rfl,g2,hx2,rfl⟩ HT;simp only [PU] at HT;have HX:=Vh hx2;clear hx2;go_wp2_with fail
 refine ⟨rfl,?_⟩
 go_wp2
 exact XB (XC rfl _ _ _) rfl ⟨_,mZ.of ⟨e,dH.refl e,_,_,rfl,⟨gd,_,gW,gP,HD,HX,HW,bD,rfl,rfl⟩,rfl⟩,HT.bG⟩
theorem q8k (hz:zf L kb pv e ⟨k,x,ws,p⟩ gK gF) (hp:vR .drop ⟨k,x,ws,p⟩) (bk:Nat) (hb:gu kb bk e) :
 Qa prog 346 #[Qb bk] [gK,gF] (mZ L kb pv e (Q3 .drop ⟨k,x,ws,p⟩)):=by
 have hcore:qB x:=hp.1.core;clear hp;simp only [Q3];obtain ⟨gd,gC,gW,gP,hd,hx,hw,aW,rfl,rfl⟩:=hz;refine GO fun w HT=>?_
 have HT:=Vh (HT.out.m [Ql kb L.fb pv (Q9 L k) k,gd,e.1,gC,gW,gP]);have HX:=Vh hx;have HD:=Vh hd;have HW:=Vh hw;have bD:=Vh aW;clear hx hd hw aW;have HDR:=Vh (fun (g:List ak) (hx:Qf L x g)=>Mt hx hcore.aa.c0 (by have:=hcore.aa.c1;have:=hcore.aa.n1;omega));clear hcore;have HB:=Vh (show cl bk 88 #[Qb kb]∈e.1 from hb);clear hb;have b0:=HT.aj 2 HB 0;have bI:=HT.bg 2 HB;simp only [bR] at b0 bI;have k0:=HT.c 0 0 0;simp only [Xh,aC] at k0;go_enter func346,ntmps346
 go_wp2_with fail
 refine Qe.run (Qq HX) HT [3] ?_
 rintro e wq rfl HT;go_wp2_with fail
 refine Qa.run (HDR _ HX) (HT) [3] ?_
 rintro e w1 gs ⟨rfl,g2,hx2,rfl⟩ HT;simp only [PU] at HT;have HX:=Vh hx2;clear hx2;go_wp2
 exact XB (XC rfl _ _ _) rfl ⟨_,mZ.of ⟨e,dH.refl e,_,_,rfl,⟨gd,_,gW,gP,HD,HX,HW,bD,rfl,rfl⟩,rfl⟩,HT.bG⟩
theorem JA (f:Xm) (hz:zf L kb pv e ⟨k,x,ws,p⟩ gK gF) (hp:vR (.put f) ⟨k,x,ws,p⟩) (bk bf:Nat) (hb:gu kb bk e) (hbf:cl bf 63 f.vals.toArray∈e.1) :
 Qa prog 326 #[Qb bk,Qb bf] [gK,gF] (mZ L kb pv e (Q3 (.put f) ⟨k,x,ws,p⟩)):=by
 have hpo:Hu p:=hp.1.pipe;clear hp;simp only [Q3];obtain ⟨gd,gC,gW,gP,hd,hx,hw,aW,rfl,rfl⟩:=hz;refine GO fun w HT=>?_
 have HT:=Vh (HT.out.m [Ql kb L.fb pv (Q9 L k) k,gd,e.1,gC,gW,gP]);have HX:=Vh hx;have HD:=Vh hd;have HW:=Vh hw;have bD:=Vh aW;clear hx hd hw aW;have hput:=qx8 bD f hpo.sp;simp only [Xm.vals] at hput hbf;have yJ:=Vh hput;clear hput hpo;have f0:=HT.aj 2 hbf 0;have f1:=HT.aj 2 hbf 1;have f2:=HT.aj 2 hbf 2;have f3:=HT.aj 2 hbf 3;have ltf:=HT.bg 2 hbf;simp only [aC] at f0 f1 f2 f3 ltf;clear hbf;have HB:=Vh (show cl bk 88 #[Qb kb]∈e.1 from hb);clear hb;have b0:=HT.aj 2 HB 0;have bI:=HT.bg 2 HB;simp only [bR] at b0 bI;have k0:=HT.c 0 0 0;simp only [Xh,aC] at k0;go_enter func326,ntmps326
 go_wp2_with fail
 refine Mx 6 ?_
 simp only [dx]
 repeat (go_big_quiet_step ((first | (go_at_call 31;with_reducible exact Qe.quiet (Ye HX.out) HT.out _ [3] rfl rfl))))
 refine WX (QT HT fun nq HT=>?_)
 go_wp2_with fail
 refine Qa.run yJ HT [5] ?_
 rintro e w1 gs ⟨rfl,g2,hp2,rfl⟩ HT;simp only [PU] at HT;have bD:=Vh hp2;clear hp2;go_wp2_with fail
 refine ⟨rfl,?_⟩
 go_wp2
 exact XB (XC rfl _ _ _) rfl ⟨_,mZ.of ⟨e,dH.refl e,_,_,rfl,⟨gd,_,gW,_,HD,HX,HW,bD,rfl,rfl⟩,rfl⟩,HT.bG⟩
theorem za6 (hz:zf L kb pv e ⟨k,x,ws,p⟩ gK gF) (hp:vR .rel ⟨k,x,ws,p⟩) (bk:Nat) (hb:gu kb bk e) :
 Qa prog 345 #[Qb bk] [gK,gF] (mZ L kb pv e (Q3 .rel ⟨k,x,ws,p⟩)):=by
 have hok:qB x:=hp.1.core;obtain ⟨w0,w1,w2⟩:=Y3 hok.aa k.t.slot;simp only [Q3];have HY:=Vh (show ∀ g',Qf L x g'->_ from fun g' hx'=>BL (g:=g') hx' hok.aa.n1 k.t.slot (x.aa.word k.t.slot) 10 w0 w1);have lU:=Vh (show ∀ g',Qf L x g'->_ from fun g' hx'=>zY (g:=g') hx' hok.aa.n1 k.t.slot);clear w0 w1 w2 hok hp;obtain ⟨gd,gC,gW,gP,hd,hx,hw,aW,rfl,rfl⟩:=hz;refine GO fun w HT=>?_
 have HT:=Vh (HT.out.m [Ql kb L.fb pv (Q9 L k) k,gd,e.1,gC,gW,gP]);have HX:=Vh hx;have HD:=Vh hd;have HW:=Vh hw;have bD:=Vh aW;clear hx hd hw aW;have HB:=Vh (show cl bk 88 #[Qb kb]∈e.1 from hb);clear hb;have b0:=HT.aj 2 HB 0;have bI:=HT.bg 2 HB;simp only [bR] at b0 bI;obtain ⟨k0,k12⟩:=HT.c2 0 0 0 12;simp only [Xh,aC] at k0 k12;go_enter func345,ntmps345
 go_wp2_with fail
 refine Mx 10 ?_
 simp only [dx]
 repeat (go_big_quiet_step ((first | (go_at_call 19;with_reducible exact Qe.quiet (Qq HX.out) HT.out _ [3] rfl rfl))))
 refine WX (QT HT fun nq HT=>?_)
 go_wp2_with fail
 refine Qa.run (lU _ HX) (HT) [3] ?_
 rintro e w1 gs ⟨rfl,g1,hx1,rfl⟩ HT;simp only [PU] at HT;have HX:=Vh hx1;clear hx1 k0 k12 b0 bI;go_wp2_with fail
 refine ⟨rfl,?_⟩
 have hb:=HB.out;have HB:=Vh (show cl bk 88 #[Qb kb]∈e.1 from hb);clear hb;have b0:=HT.aj 2 HB 0;have bI:=HT.bg 2 HB;simp only [bR] at b0 bI;obtain ⟨k0,k12⟩:=HT.c2 0 0 0 12;simp only [Xh,aC] at k0 k12;go_wp2_with fail
 refine Mx 11 ?_
 simp only [dx]
 repeat (go_big_quiet_step ((first | (go_at_call 19;with_reducible exact Qe.quiet (Qq HX.out) HT.out _ [3] rfl rfl))))
 refine WX (QT HT fun nq HT=>?_)
 go_wp2_with fail
 refine Qa.run (HY _ HX) (HT) [3] ?_
 rintro e w1 gs ⟨rfl,g2,hx2,rfl⟩ HT;simp only [PU] at HT;have kH:=Vh hx2;clear hx2 k0 k12 b0;go_wp2_with fail
 refine ⟨rfl,?_⟩
 go_wp2
 exact XB (XC rfl _ _ _) rfl ⟨_,mZ.of ⟨e,dH.refl e,_,_,rfl,⟨gd,_,gW,gP,HD,kH,HW,bD,rfl,rfl⟩,rfl⟩,HT.bG⟩
theorem q8o (d:Nat) (hz:zf L kb pv e ⟨k,x,ws,p⟩ gK gF) (hp:vR (.bH d) ⟨k,x,ws,p⟩) (bk bd:Nat) (hb:gu kb bk e) (hbd:e.2[d]?=some bd) :
 Qa prog 279 #[Qb bk,Qb bd] [gK,gF] (mZ L kb pv e (Q3 (.bH d) ⟨k,x,ws,p⟩)):=by
 obtain ⟨ho,hh,hc⟩:=hp;have hc:k.nd=d+1:=hc;obtain ⟨gd,gC,gW,gP,hd,hx,hw,aW,rfl,rfl⟩:=hz;obtain ⟨i,q,s,S,hki,hq,hs,hS,hsv,hsh,hss,jv,hwo,hrb,ht0,ht1⟩:=xw hx hw ho hh;obtain ⟨v0,gr,hr,rfl⟩:=MO hd hc hbd;rw [show Q3 (.bH d) ⟨k,x,ws,p⟩=⟨{ k with due:=S.fO.2.map gI.v },x,ws.set i S.fO.1,p⟩ by simp only [Q3,hsh,jv]];have HTU:=Vh (qwt hx hw hq hs hS hwo);have HL:=Vh (XQ hd.1 (XQ hc hbd));clear ho hh hc hd hr hki hq hs hS hsh hss jv hwo hrb ht0 ht1 hbd;refine GO fun w HT=>?_
 have HT:=Vh (HT.out.sum (H':=[Ql kb L.fb pv (Q9 L k) k,[cl bd 354 #[v0]],e.1,gC,gW,gP,gr]));have bD:=Vh aW;clear hx hw aW;have HB:=Vh (show cl bk 88 #[Qb kb]∈e.1 from hb);clear hb;have b0:=HT.aj 2 HB 0;have bI:=HT.bg 2 HB;simp only [bR] at b0 bI;have k10:=HT.c 0 0 10;simp only [Xh,aC,hsv] at k10;clear hsv;go_enter func279,ntmps279
 go_wp2_with fail
 refine Qa.run HTU HT [3,4] ?_
 rintro e w1 gs ⟨v,g5,rfl,hr,iZ,gy,hx',hw',rfl⟩ HT;simp only [PU] at HT;have HX:=Vh hx';have HW:=Vh hw';have HR:=Vh hr;clear hx' hw' k10 b0 bI;obtain ⟨av,cap,rfl⟩:=hr.val;clear hr;have d0:=HT.c 1 0 0;have fd0:=HT.f 1 0 0;simp only [aT] at d0;go_wp2
 exact XB (XC rfl _ _ _) rfl ⟨_,mZ.of ⟨e,dH.refl e,_,_,rfl,⟨[cl bd 354 #[.slice av S.fO.2.length cap]]++g5,_,_,_,⟨HL.1,.inr ⟨d,bd,_,g5,HL.2.1,HL.2.2,by rw [XN];exact HR,rfl⟩⟩,HX,HW,bD,(rfl:Ql kb L.fb pv (Q9 L k) { k with due:=S.fO.2.map gI.v }++(([cl bd 354 #[.slice av S.fO.2.length cap]]++g5)++e.1)=_),rfl⟩,rfl⟩,(((HT.set 1 0 rfl 0 (.slice av S.fO.2.length cap)).eq (H':=[Ql kb L.fb pv (Q9 L k) { k with due:=S.fO.2.map gI.v },[cl bd 354 #[.slice av S.fO.2.length cap]],e.1,iZ,gy,gP,gr,g5]) rfl).p [0,1,2,3,4,5,7]).bG⟩
theorem zau (i:Nat) (hz:zf L kb pv e ⟨k,x,ws,p⟩ gK gF) (hp:Gm (.ready i) ⟨k,x,ws,p⟩) {q:gY} (hq:L.qs[i]?=some q) :
 Qa prog 291 #[Qb q.b] [gK,gF] (AA L kb pv e (.ready i) ⟨k,x,ws,p⟩):=by
 obtain ⟨ho,hi⟩:=hp;have hi:i<x.au.length:=hi;have hs:x.au[i]?=some x.au[i]:=List.getElem?_eq_getElem hi;have hrb:zx x.au[i].ring:=ho.core.ring _ (List.getElem_mem hi)
 have hm:rU (.ready i) ⟨k,x,ws,p⟩=x.au[i].ring.ready:=by
  simp only [rU,XF,hs,Option.getD_some]
 obtain ⟨gd,gC,gW,gP,hd,hx,hw,aW,rfl,rfl⟩:=hz;intro w hw';have T:=(TG.refl hw').m [Ql kb L.fb pv (Q9 L k) k,gd,e.1,gC,gW,gP];refine (Qa.use (qws hx hq hs hrb) T [3] rfl rfl).mono ?_
 rintro en w' ⟨gs,⟨rfl,g',hx',rfl⟩,T'⟩;simp only [PU] at T';exact ⟨_,AA.of ⟨_,_,by rw [hm],⟨gd,g',gW,gP,hd,hx',hw,aW,rfl,rfl⟩,rfl⟩,T'.bG⟩
end
section
variable {L:Lay} {x:Qi} {ws:List Qg} {p:Qz} {e:ET} {g gC gK gF:List ak} {kb:Nat} {pv sv:Value} {k:Xd}
theorem zaj (d:Nat) (hz:zf L kb pv e ⟨k,x,ws,p⟩ gK gF) (hp:jR (.bX d) ⟨k,x,ws,p⟩) (bk bd:Nat) (hb:gu kb bk e) (hbd:e.2[d]?=some bd) :
 Qa prog 276 #[Qb bk,Qb bd] [gK,gF] (dM L kb pv e (runT (.bX d) ⟨k,x,ws,p⟩).1 (runT (.bX d) ⟨k,x,ws,p⟩).2):=by
 obtain ⟨ho,hh,hc⟩:=hp;obtain ⟨gd,gC,gW,gP,hd,hx,hw,aW,rfl,rfl⟩:=hz;obtain ⟨i,q,s,S,hki,hq,hs,hS,hsv,hsh,hss,jv,hwo,hrb,ht0,ht1⟩:=xw hx hw ho hh;have hwt:=qo6 hx hq hs hrb;have hpo:=QH (kb:=kb) (pv:=pv) (k:=k) hq (s.ring.tail - s.ring.head);have hon:∀ (e':ET) gK gF,zf L kb pv e' ⟨k,x,ws,p⟩ gK gF->gu kb bk e'->e'.2[d]?=some bd->_:=fun e' gK gF hz h1 h2=>Vm d hz bk bd h1 h2
 simp only [runT,hss,Q2,hsh];generalize s.ring.tail - s.ring.head=n at *;by_cases hn:n<=0
 ·rw [if_pos hn] at hpo |-
  obtain ⟨sq,hst⟩:∃ sq,J1 d ⟨k,x,ws,p⟩=(sq,⟨k,x,ws,p⟩):=⟨_,rfl⟩;rw [hst] at hon |-;dsimp only at hon |-
  refine GO fun w HT=>?_
  have HT:=Vh (HT.out.m [Ql kb L.fb pv (Q9 L k) k,gd,e.1,gC,gW,gP]);have HD:=Vh hd;have HW:=Vh hw;have bD:=Vh aW;have IK:=Vh hwt;rw [<- hsv] at hpo;have C5:=Vh hpo;have HON:=Vh hon;have fM:=Vh hsv;have HB:=Vh (show cl bk 88 #[Qb kb]∈e.1 from hb);have ng:=Vh hbd;clear ho hh hc hx hw hd aW hki hq hs hS hsv hsh hss jv hwo hrb ht0 ht1 hwt hpo hon hb hbd hn hst;go_enter func276,ntmps276
  go_wp2_with fail
  have HT:=Vh (HT.out.a 153 #[WM,WM]);generalize XG w _=w1 at HT |-;generalize w.heap.size=sb at *;have b0:=HT.aj 2 HB 0;have k10:=HT.c 0 0 10;have bI:=HT.bg 2 HB;have ji:=HT.l 0 0;simp only [Xh,aC,fM.out] at b0 k10 bI ji
  go_region_held3 (fun w'=>w'.cell? ⟨bk,0,none⟩=some (Qb kb)/\w'.cell? ⟨kb,10,none⟩=some (Qb q.b))
   (first
   | exact ⟨b0,k10⟩
   | exact ⟨q1,q2⟩
   | exact ⟨r1,r2⟩
   | exact ⟨s1,s2⟩
   | exact ⟨t1,t2⟩)
   (first
   | (go_at_call 35
      refine (Qa.use IK HT.drew [3] rfl rfl).mono ?_
      rintro e w7 ⟨gs,⟨rfl,g1,hx1,rfl⟩,Ta⟩;simp only [PU] at Ta;have dY:=Vh Ta;have IL:=Vh hx1;clear Ta hx1;have q1:=dY.aj 2 HB 0;have q2:=dY.c 0 0 10
      simp only [Xh,aC,fM.out] at q1 q2)
   | (go_at_call 277
      refine (Qa.use C5 dY [0] rfl rfl).mono ?_
      rintro e w8 ⟨gs,⟨g2,l2,⟨m2,d2,rfl,hs2⟩,rfl⟩,Ta⟩;simp only [PU] at Ta;obtain ⟨rfl,rfl,rfl⟩:=hs2 (l2,[]) (fun _ h=>h);have ll:=Vh (Ta.bG (H':=[Ql kb L.fb pv (Q9 L k) k,gd,e.1,g1,gW,gP,[cl sb 153 #[WM,WM]],l2]));clear Ta hs2;have r1:=ll.aj 2 HB 0;have r2:=ll.c 0 0 10;simp only [Xh,aC,fM.out] at r1 r2;have hth:=MJ (first:=#[]) (aK:=#[Qb bk,Qb bd]) (enters_of func278 (by kernel_rfl) rfl) (HON (e.1++l2,e.2) (Ql kb L.fb pv (Q9 L k) k++(gd++(e.1++l2))) (g1++(gW++gP)) ⟨gd,g1,gW,gP,HD,IL,HW,bD,rfl,rfl⟩ (XD _ HB) ng) (fun _ _ h=>dM.fv h);have kG:=Vh hth
      clear hth)
   | (go_at_call 196
      refine (Qa.use kG (ll.bG (H':=[Ql kb L.fb pv (Q9 L k) k++(gd++(e.1++l2)),g1++(gW++gP),[cl sb 153 #[WM,WM]]])) [0,1] rfl rfl).mono ?_
      rintro e w9 ⟨gs,⟨e2,hl2,m3,d3,g3,AV,AU,rfl,hs3,hz3,rfl⟩,Ta⟩;simp only [PU] at Ta;have pF:=Vh Ta;have HL2:=Vh hl2;have hbx:cl bk 88 #[Qb kb]∈e2.1:=hl2.b _ (XD _ HB);obtain ⟨OD,gC3,gW3,gP3,hd3,hx3,hw3,DC,rfl,rfl⟩:=hz3;have HZ3:=Vh (show zf L kb pv e2 ⟨k,x,ws,p⟩ _ _ from ⟨OD,gC3,gW3,gP3,hd3,hx3,hw3,DC,rfl,rfl⟩);clear Ta hl2 hd3 hx3 hw3 DC;have Kj:cl bk 88 #[Qb kb]∈Ql kb L.fb pv (Q9 L k) k++(OD++e2.1):=WQ _ (WQ _ hbx);obtain ⟨z0,z1⟩:=pF.c2 2 0 0 1;obtain ⟨AP,AQ⟩:=pF.f2 2 0 0 1;have hv2:=(Q6 L kb pv _).vals hs3;have HS:=Vh hs3;have s1:=pF.aj 1 Kj 0;have s2:=pF.c 1 0 10;simp only [Xh,aC,fM.out] at z0 z1 s1 s2;obtain ⟨st1,st2⟩:=aZ.aG (P:=prog) hv2.1 hv2.2 z0 AP z1 AQ;have jC:=Vh ((pF.set 2 0 rfl 0 m3).set 2 0 rfl 1 d3);have t1:=jC.aj 1 Kj 0;have t2:=jC.c 1 0 10;simp only [Xh,aC,fM.out] at t1 t2
      clear hv2 hs3 hbx Kj))
  all_goals
   obtain ⟨y0,y1⟩:=jC.c2 2 0 0 1;simp only [Array.set!,XL,XR,XT,aC] at y0 y1;clear b0 k10 q1 q2 r1 r2 s1 s2 t1 t2 z0 z1 AP AQ st1 st2 dY ll pF;generalize XE (XE w9 _ _) _ _=w5 at jC y0 y1 |-;go_wp2
   exact WR (v:=.agg #[_,_]) (by simp [results,results276,go_sem,y0,y1]) rfl ⟨_,dM.of ⟨e2,(dH.app e l2).trans HL2,m3,d3,g3,_,_,rfl,HS,HZ3,rfl⟩,jC.p [0,1,3]⟩
 ·rw [if_neg hn] at hpo |-
  rw [if_neg hn];dsimp only
  refine GO fun w HT=>?_
  have HT:=Vh (HT.out.m [Ql kb L.fb pv (Q9 L k) k,gd,e.1,gC,gW,gP]);have HD:=Vh hd;have HW:=Vh hw;have bD:=Vh aW;have IK:=Vh hwt;rw [<- hsv] at hpo;have C5:=Vh hpo;have fM:=Vh hsv;have HB:=Vh (show cl bk 88 #[Qb kb]∈e.1 from hb);have ng:=Vh hbd;clear ho hh hc hx hw hd aW hki hq hs hS hsv hsh hss jv hwo hrb ht0 ht1 hwt hpo hon hb hbd hn;go_enter func276,ntmps276
  go_wp2_with fail
  have HT:=Vh (HT.out.a 153 #[WM,WM]);generalize XG w _=w1 at HT |-;generalize w.heap.size=sb at *;have b0:=HT.aj 2 HB 0;have k10:=HT.c 0 0 10;have bI:=HT.bg 2 HB;have ji:=HT.l 0 0;simp only [Xh,aC,fM.out] at b0 k10 bI ji
  go_region_held3 (fun w'=>w'.cell? ⟨bk,0,none⟩=some (Qb kb)/\w'.cell? ⟨kb,10,none⟩=some (Qb q.b))
   (first
   | exact ⟨b0,k10⟩
   | exact ⟨q1,q2⟩
   | exact ⟨r1,r2⟩
   | exact ⟨s1,s2⟩
   | exact ⟨t1,t2⟩)
   (first
   | (go_at_call 35
      refine (Qa.use IK HT.drew [3] rfl rfl).mono ?_
      rintro e w7 ⟨gs,⟨rfl,g1,hx1,rfl⟩,Ta⟩;simp only [PU] at Ta;have dY:=Vh Ta;have IL:=Vh hx1;clear Ta hx1;have q1:=dY.aj 2 HB 0;have q2:=dY.c 0 0 10
      simp only [Xh,aC,fM.out] at q1 q2)
   | (go_at_call 277
      refine (Qa.use C5 dY [0] rfl rfl).mono ?_
      rintro e w8 ⟨gs,⟨g2,l2,⟨m2,d2,rfl,hs2⟩,rfl⟩,Ta⟩;simp only [PU] at Ta;have ll:=Vh (Ta.bG (H':=[Ql kb L.fb pv (Q9 L k) k,gd,e.1,g1,gW,gP,[cl sb 153 #[WM,WM]],l2,g2,[]]));have HS2:=Vh hs2;clear Ta hs2;have r1:=ll.aj 2 HB 0;have r2:=ll.c 0 0 10
      simp only [Xh,aC,fM.out] at r1 r2)
   | (go_at_call 196
      refine (Qa.use (aZ.bS (c:=(mE L kb pv).on (e.1++l2,e.2)) (s:=.at (some (.ready i)) (.bK n)) (f:=MT.af d) (v:=WS (WT 278) #[] #[Qb bk,Qb bd]) (gm:=[]) (Q6 L kb pv _) rfl (HS2 (e.1++l2,e.2) (fun b hb=>WQ _ hb)) ⟨rfl,bk,bd,rfl,XD _ HB,ng⟩) ll [8,9] rfl rfl).mono ?_
      rintro e w9 ⟨gs,⟨bs,br,rfl,rfl⟩,Ta⟩;simp only [PU] at Ta;have pF:=Vh Ta;clear Ta;have s1:=pF.aj 2 HB 0;have s2:=pF.c 0 0 10;obtain ⟨z0,z1⟩:=pF.c2 6 0 0 1;obtain ⟨AP,AQ⟩:=pF.f2 6 0 0 1;have hv2:=(Q6 L kb pv _).vals (HS2 (e.1++l2,e.2) (fun b hb=>WQ _ hb));simp only [Xh,aC,fM.out] at s1 s2 z0 z1;obtain ⟨st1,st2⟩:=aZ.aG (P:=prog) (v':=WS (WT 237) #[] #[Qb bs,Qb br]) hv2.1 (Or.inr ⟨_,_,_,rfl⟩) z0 AP z1 AQ;have jC:=Vh ((pF.set 6 0 rfl 0 m2).set 6 0 rfl 1 (WS (WT 237) #[] #[Qb bs,Qb br]));have t1:=jC.aj 2 HB 0;have t2:=jC.c 0 0 10;simp only [Xh,aC,fM.out] at t1 t2
      clear hv2))
  all_goals
   have HS:=Vh (HS2.out (e.1++l2,e.2) (fun b hb=>WQ _ hb));obtain ⟨y0,y1⟩:=jC.c2 6 0 0 1;simp only [Array.set!,XL,XR,XT,aC] at y0 y1;clear b0 k10 q1 q2 r1 r2 s1 s2 t1 t2 z0 z1 AP AQ st1 st2 dY ll pF;generalize XE (XE w9 _ _) _ _=w5 at jC y0 y1 |-;go_wp2
   exact WR (v:=.agg #[_,_]) (by simp [results,results276,go_sem,y0,y1]) rfl ⟨_,dM.of ⟨(e.1++l2,e.2),dH.app e l2,_,_,_,_,_,rfl,⟨bs,br,_,_,g2,[],rfl,rfl,HS,⟨rfl,bk,bd,rfl,XD _ HB,ng⟩,rfl⟩,⟨gd,g1,gW,gP,HD,IL,HW,bD,(rfl:Ql kb L.fb pv (Q9 L k) k++(gd++(e.1++l2))=_),rfl⟩,rfl⟩,(jC.p [8,0,1,2,7,3,4,5]).bG⟩
end
theorem Hq (L:Lay) (kb:Nat) (pv:Value):(mE L kb pv).Ok where
 refl:=dH.refl
 trans h1 h2:=h1.trans h2
 mm hl h:=CS.le hl h
 ma hl h:=CQ.le hl h
 v e:=Q6 L kb pv e
 m {e f v g gK gF z} hv hz hp:=by
   obtain ⟨k,x,ws,p⟩:=z;obtain ⟨rfl,hv⟩:=hv;cases f with
   | enter=>subst hv;exact ⟨_,_,_,rfl,fun _ _=>rfl,(zah hz hp).pre rfl⟩
   | gate=>subst hv;exact ⟨_,_,_,rfl,fun _ _=>rfl,(zb5 hz hp).pre rfl⟩
   | tick=>subst hv;exact ⟨_,_,_,rfl,fun _ _=>rfl,(zb8 hz hp).pre rfl⟩
   | ae i=>obtain ⟨bk,bi,rfl,hb,hbi⟩:=hv;exact ⟨_,_,_,rfl,fun _ _=>rfl,(q3c i hz hp bk bi hb hbi).pre rfl⟩
   | dI d=>obtain ⟨bk,bd,rfl,hb,hbd⟩:=hv;exact ⟨_,_,_,rfl,fun _ _=>rfl,(zb6 d hz hp bk bd hb hbd).pre rfl⟩
   | bX d=>obtain ⟨bk,bd,rfl,hb,hbd⟩:=hv;exact ⟨_,_,_,rfl,fun _ _=>rfl,(zaj d hz hp bk bd hb hbd).pre rfl⟩
   | af d=>obtain ⟨bk,bd,rfl,hb,hbd⟩:=hv;exact ⟨_,_,_,rfl,fun _ _=>rfl,(Vm d hz bk bd hb hbd).pre rfl⟩
   | aM d=>obtain ⟨bk,bd,rfl,hb,hbd⟩:=hv;exact ⟨_,_,_,rfl,fun _ _=>rfl,(q3b d hz hp bk bd hb hbd).pre rfl⟩
   | ay=>obtain ⟨bk,rfl,hb⟩:=hv;exact ⟨_,_,_,rfl,fun _ _=>rfl,(SI hz bk hb).pre rfl⟩
   | bK n=>obtain ⟨bk,bi,rfl,hb,hbi⟩:=hv;exact ⟨_,_,_,rfl,fun _ _=>rfl,(zak n hz hp bk bi hb hbi).pre rfl⟩
   | ax n=>obtain ⟨bk,bi,rfl,hb,hbi⟩:=hv;exact ⟨_,_,_,rfl,fun _ _=>rfl,(Vn n hz hp.1 hp.2.1 hp.2.2 bk bi hb hbi).pre rfl⟩
   | bz=>obtain ⟨bk,rfl,hb⟩:=hv;exact ⟨_,_,_,rfl,fun _ _=>rfl,(zb7 hz hp bk hb).pre rfl⟩
   | aH=>obtain ⟨bk,rfl,hb⟩:=hv;exact ⟨_,_,_,rfl,fun _ _=>rfl,(zal hz hp bk hb).pre rfl⟩
   | aD d i=>obtain ⟨bk,bp,bi,bd,rfl,hb,hbd,hbp,hbi⟩:=hv;exact ⟨_,_,_,rfl,fun _ _=>rfl,(q7d d i hz hp bk bp bi bd hb hbd hbp hbi).pre rfl⟩
   | looks=>subst hv;exact ⟨_,_,_,rfl,fun _ _=>rfl,(zai hz hp).pre rfl⟩
   | bE=>subst hv;exact ⟨_,_,_,rfl,fun _ _=>rfl,(q7c hz hp).pre rfl⟩
   | bB=>obtain ⟨bk,rfl,hb⟩:=hv;exact ⟨_,_,_,rfl,fun _ _=>rfl,(q3a hz bk hb).pre rfl⟩
   | behind=>subst hv;exact ⟨_,_,_,rfl,fun _ _=>rfl,(q7b hz hp).pre rfl⟩
   | aV next=>obtain ⟨bk,bn,rfl,hb,hbn⟩:=hv;exact ⟨_,_,_,rfl,fun _ _=>rfl,(q7e next hz hp bk bn hb hbn).pre rfl⟩
   | aS=>subst hv;exact ⟨_,_,_,rfl,fun _ _=>rfl,(qzj hz hp).pre rfl⟩
 a {e f v g gK gF z} hv hz hp:=by
   obtain ⟨k,x,ws,p⟩:=z;obtain ⟨rfl,hv⟩:=hv;cases f with
   | leave1=>obtain ⟨bk,rfl,hb⟩:=hv;exact ⟨_,_,_,rfl,fun _ _=>rfl,(q42 hz hp bk hb).pre rfl⟩
   | answer=>obtain ⟨bk,rfl,hb⟩:=hv;exact ⟨_,_,_,rfl,fun _ _=>rfl,(q41 hz hp bk hb).pre rfl⟩
   | bH d=>obtain ⟨bk,bd,rfl,hb,hbd⟩:=hv;exact ⟨_,_,_,rfl,fun _ _=>rfl,(q8o d hz hp bk bd hb hbd).pre rfl⟩
   | unlock=>obtain ⟨bk,rfl,hb⟩:=hv;exact ⟨_,_,_,rfl,fun _ _=>rfl,(q44 hz hp bk hb).pre rfl⟩
   | put f=>obtain ⟨bk,bf,rfl,hb,hbf⟩:=hv;exact ⟨_,_,_,rfl,fun _ _=>rfl,(JA f hz hp bk bf hb hbf).pre rfl⟩
   | rel=>obtain ⟨bk,rfl,hb⟩:=hv;exact ⟨_,_,_,rfl,fun _ _=>rfl,(za6 hz hp bk hb).pre rfl⟩
   | drop=>obtain ⟨bk,rfl,hb⟩:=hv;exact ⟨_,_,_,rfl,fun _ _=>rfl,(q8k hz hp bk hb).pre rfl⟩
 y {e f v g gK gF z} hv hz hp:=by
   obtain ⟨k,x,ws,p⟩:=z;obtain ⟨rfl,hv⟩:=hv;cases f with
   | lock=>obtain ⟨bk,rfl,hb⟩:=hv;exact ⟨_,_,_,rfl,fun _ _=>rfl,((zcd hz hp bk hb).pre rfl).post (by rintro e gs ⟨aY,aI,h1,h2,rfl⟩;exact ⟨_,⟨aY,aI,h1,h2,rfl⟩,.refl _⟩)⟩
   | ready i=>obtain ⟨q,hq,rfl⟩:=hv;exact ⟨_,_,_,rfl,fun _ _=>rfl,((zau i hz hp hq).pre rfl).post (by rintro e gs ⟨aY,aI,h1,h2,rfl⟩;exact ⟨_,⟨aY,aI,h1,h2,rfl⟩,.refl _⟩)⟩
def DL (L:Lay) (kb:Nat) (pv:Value) (e:ET) (k:Xd) (gK:List ak):Prop:=∃ gd,xz e.2 k gd/\gK=Ql kb L.fb pv (Q9 L k) k++(gd++e.1)
def qP (L:Lay) (x:Qi) (ws:List Qg) (p:Qz) (gF:List ak):Prop:=∃ gC gW gP,Qf L x gC/\Js L ws gW/\Z3 L.p.pb p gP/\gF=gC++(gW++gP)
theorem BC {L:Lay} {kb:Nat} {pv:Value} {e:ET} {gK gF:List ak} {z:ZT}:zf L kb pv e z gK gF↔DL L kb pv e z.k gK/\qP L z.x z.ws z.p gF :=
 ⟨fun ⟨gd,gC,gW,gP,a,b,c,d,h,i⟩=>⟨⟨gd,a,h⟩,⟨gC,gW,gP,b,c,d,i⟩⟩,fun ⟨⟨gd,a,h⟩,⟨gC,gW,gP,b,c,d,i⟩⟩=>⟨gd,gC,gW,gP,a,b,c,d,h,i⟩⟩
def isTurn (L:Lay) (kb:Nat) (s:ST) (n:Int) (k:Xd) (g:List ak):Prop :=
 ∃ (pb:Nat) (e:ET) (m d:Value) (cB gK:List ak),(mE L kb (Qb pb)).SV e s m d cB/\DL L kb (Qb pb) e k gK/\g=aZ.aJ pb m d n++(cB++gK)
def Qw (s:ST) (z:ZT):ST × ZT:=St.run runT Q3 s z
def QP (s:ST) (z:ZT):Prop:=St.pre runT Q3 jR vR s z
def mO (s:ST) (z:ZT):Bool:=s.may rU z
def Hz (s:ST) (z:ZT):Prop:=St.dw Gm s z
section
variable {L:Lay} {x:Qi} {ws:List Qg} {p:Qz} {g gF:List ak} {kb:Nat} {s:ST} {n:Int} {k:Xd}
theorem q3n (hc:isTurn L kb s n k g) (hx:qP L x ws p gF) (hy:Hz s ⟨k,x,ws,p⟩) (hm:mO s ⟨k,x,ws,p⟩=true) (hp:QP s ⟨k,x,ws,p⟩) (hb:0<=n/\n<=1000000000) :
 Qa prog 44 #[Qb kb] [g,gF] fun en gs=>∃ g' aI,en=WO (.bool true)/\isTurn L kb (Qw s ⟨k,x,ws,p⟩).1 (n+1) (Qw s ⟨k,x,ws,p⟩).2.k g'/\qP L (Qw s ⟨k,x,ws,p⟩).2.x (Qw s ⟨k,x,ws,p⟩).2.ws (Qw s ⟨k,x,ws,p⟩).2.p aI/\gs=[g',aI]:=by
 obtain ⟨pb,e,m,d,cB,gK,hs,hk,rfl⟩:=hc;have hd:=kT.fJ (n:=n) (Hq L kb (Qb pb)) hs (x:=(⟨k,x,ws,p⟩:ZT)) (BC.2 ⟨hk,hx⟩) hy hp pb hb hm;obtain ⟨gd,hl,rfl⟩:=hk;refine GO fun w HT=>?_
 have T1:=HT.sum (H':=[Ql kb L.fb (Qb pb) (Q9 L k) k,aZ.aJ pb m d n++(cB++(gd++e.1)),gF]);have k8:=T1.c 0 0 8;simp only [Xh,aC] at k8;have lt:=T1.l 0 0;simp only [] at lt;have HD:=Vh hd;have HT:=Vh (HT.out.m [aZ.aJ pb m d n,cB,Ql kb L.fb (Qb pb) (Q9 L k) k++(gd++e.1),gF]);clear hs hl hx hy hm hp hb hd T1;go_enter func44,ntmps44
 go_wp2_with fail
 refine Qa.run HD HT [0,1,2,3] ?_
 rintro e w1 gs ⟨e',hle,m',d',nN,aY,aI,rfl,hs',hx',rfl⟩ HT;simp only [PU] at HT;have HS:=Vh hs';have HX:=Vh (BC.1 hx');clear hs' hx' k8;go_wp2
 go_ret
 exact ⟨_,⟨_,aI,rfl,⟨pb,e',m',d',nN,aY,HS,HX.1,rfl⟩,HX.2,rfl⟩,HT.sum⟩
theorem zaq (hc:isTurn L kb s n k g) (hx:qP L x ws p gF) (hy:Hz s ⟨k,x,ws,p⟩) (hm:mO s ⟨k,x,ws,p⟩=false) :
 Qa prog 44 #[Qb kb] [g,gF] fun en gs=>en=WO (.bool false)/\∃ g' aI,isTurn L kb s n k g'/\qP L x ws p aI/\gs=[g',aI]:=by
 obtain ⟨pb,e,m,d,cB,gK,hs,hk,rfl⟩:=hc;have hd:=kT.dQ (n:=n) (Hq L kb (Qb pb)) hs (x:=(⟨k,x,ws,p⟩:ZT)) (BC.2 ⟨hk,hx⟩) hy pb hm;obtain ⟨gd,hl,rfl⟩:=hk;refine GO fun w HT=>?_
 have T1:=HT.sum (H':=[Ql kb L.fb (Qb pb) (Q9 L k) k,aZ.aJ pb m d n++(cB++(gd++e.1)),gF]);have k8:=T1.c 0 0 8;simp only [Xh,aC] at k8;have lt:=T1.l 0 0;simp only [] at lt;have HD:=Vh hd;have HS:=Vh hs;have HT:=Vh (HT.out.m [aZ.aJ pb m d n,cB,Ql kb L.fb (Qb pb) (Q9 L k) k++(gd++e.1),gF]);clear hs hl hx hy hm hd T1;go_enter func44,ntmps44
 go_wp2_with fail
 refine Qa.run HD HT [0,1,2,3] ?_
 rintro e w1 gs ⟨aY,aI,rfl,hx',rfl⟩ HT;simp only [PU] at HT;have HX:=Vh (BC.1 hx');clear hx' k8;go_wp2
 go_ret
 exact ⟨_,⟨rfl,_,aI,⟨pb,e,m,d,cB,aY,HS,HX.1,rfl⟩,HX.2,rfl⟩,HT.sum⟩
theorem q7q (hc:isTurn L kb s n k g) (hx:qP L x ws p gF) (hy:Hz s ⟨k,x,ws,p⟩) :
 Qa prog 365 #[Qb kb] [g,gF] fun en gs=>en=WO (.bool (mO s ⟨k,x,ws,p⟩))/\∃ g' aI,isTurn L kb s n k g'/\qP L x ws p aI/\gs=[g',aI]:=by
 obtain ⟨pb,e,m,d,cB,gK,hs,hk,rfl⟩:=hc;have hd:=kT.dP (n:=n) (Hq L kb (Qb pb)) hs (x:=(⟨k,x,ws,p⟩:ZT)) (BC.2 ⟨hk,hx⟩) hy pb;have hd:Qa prog 146 _ _ fun en gs=>∃ aY aI,en=WO (.bool (mO s ⟨k,x,ws,p⟩))/\zf L kb (Qb pb) e ⟨k,x,ws,p⟩ aY aI/\_:=hd
 generalize mO s ⟨k,x,ws,p⟩=v at *;obtain ⟨gd,hl,rfl⟩:=hk;refine GO fun w HT=>?_
 have T1:=HT.sum (H':=[Ql kb L.fb (Qb pb) (Q9 L k) k,aZ.aJ pb m d n++(cB++(gd++e.1)),gF]);have k8:=T1.c 0 0 8;simp only [Xh,aC] at k8;have lt:=T1.l 0 0;simp only [] at lt;have HD:=Vh hd;have HS:=Vh hs;have HT:=Vh (HT.out.m [aZ.aJ pb m d n,cB,Ql kb L.fb (Qb pb) (Q9 L k) k++(gd++e.1),gF]);clear hs hl hx hy hd T1;go_enter func365,ntmps365
 go_wp2_with fail
 refine Qa.run HD HT [0,1,2,3] ?_
 rintro e w1 gs ⟨aY,aI,rfl,hx',rfl⟩ HT;simp only [PU] at HT;have HX:=Vh (BC.1 hx');clear hx' k8;go_wp2
 go_ret
 exact ⟨_,⟨rfl,_,aI,⟨pb,e,m,d,cB,aY,HS,HX.1,rfl⟩,HX.2,rfl⟩,HT.sum⟩
theorem M0 (hc:isTurn L kb s n k g):Qe prog 93 #[Qb kb] [g] (.bool s.isNil):=by
 obtain ⟨pb,e,m,d,cB,gK,hs,hk,rfl⟩:=hc;have hd:=kT.eU (Hq L kb (Qb pb)) hs pb n;obtain ⟨gd,hl,rfl⟩:=hk;refine GO fun w HT=>?_
 have T1:=HT.sum (H':=[Ql kb L.fb (Qb pb) (Q9 L k) k,aZ.aJ pb m d n++(cB++(gd++e.1))]);have k8:=T1.c 0 0 8;simp only [Xh,aC] at k8;have lt:=T1.l 0 0;simp only [] at lt;have HD:=Vh hd;have HT:=Vh (HT.out.m [aZ.aJ pb m d n,cB,Ql kb L.fb (Qb pb) (Q9 L k) k++(gd++e.1)]);clear hs hl hd T1;go_enter func93,ntmps93
 go_wp2_with fail
 refine (Qe.use HD HT [0] rfl rfl).mono ?_
 rintro e w1 ⟨rfl,mq,rfl⟩;go_wp2
 go_ret
 exact ⟨rfl,_,rfl⟩
end
def qQ (th no:Int):Xd:=⟨th,no,0,false,0,none,⟨0,0,0,0,0⟩,0,0,[]⟩
def firstT:ST:=.at none .enter
section
variable {L:Lay} {x:Qi} {ws:List Qg} {p:Qz} {g gF:List ak} {kb:Nat} {s:ST} {n:Int} {k:Xd}
theorem qvg (hc:isTurn L kb s n k g) (hn:s.isNil=true):Qa prog 151 #[Qb kb] [g] fun en gs =>
 en=WO (WW #[.agg (dh k.err k.ok (.slice none 0 0)),WK WN 0])/\gs=[g]:=by
 have hd:=M0 hc;obtain ⟨pb,e,m,d,cB,gK,hs,⟨gd,hl,rfl⟩,rfl⟩:=hc;rw [hn] at hd;refine GO fun w HT=>?_
 have HD:=Vh hd;clear hd hs hl;go_enter func151,ntmps151
 go_wp2_with fail
 have HT:=Vh (HT.out.a 51 #[WK WN 0,.bool false,WK WL 0,WK WL 0,.slice none 0 0]);go_wp2_with fail
 refine Qe.run HD HT [0] ?_
 rintro e wq rfl HT;have HT:=Vh (HT.out.sum (H':=[Ql kb L.fb (Qb pb) (Q9 L k) k,aZ.aJ pb m d n++(cB++(gd++e.1)),[cl w.heap.size 51 #[WK WN 0,.bool false,WK WL 0,WK WL 0,.slice none 0 0]]]));obtain ⟨k3,k4,k5,k6,k7⟩:=HT.c5 0 0 3 4 5 6 7;simp only [Xh,aC] at k3 k4 k5 k6 k7;obtain ⟨r0,r1,r2,r3,r4⟩:=HT.c5 2 0 0 1 2 3 4;obtain ⟨df,dm,yR,yS,FP⟩:=HT.f5 2 0 0 1 2 3 4;simp only [aT] at r0 r1 r2 r3 r4;have lt:=HT.l 0 0;simp only [] at lt;go_wp2
 exact WR (v:=WW #[.agg (dh k.err k.ok (.slice none 0 0)),WK WN 0]) (by simp [results,results151,go_sem,r0,r1,r2,r3,r4,dh]) rfl ⟨_,⟨rfl,rfl⟩,((((((HT.set 2 0 rfl 0 _).set 2 0 rfl 1 _).set 2 0 rfl 2 _).set 2 0 rfl 3 _).set 2 0 rfl 4 _).p [0,1]).sum⟩
theorem q3l (hc:isTurn L kb s n k g) (hn:s.isNil=false):Qa prog 151 #[Qb kb] [g] fun en gs =>
 en=WO (WW #[.agg (dh 0 false (.slice none 0 0)),WK WN 10])/\gs=[g]:=by
 have hd:=M0 hc;obtain ⟨pb,e,m,d,cB,gK,hs,⟨gd,hl,rfl⟩,rfl⟩:=hc;rw [hn] at hd;refine GO fun w HT=>?_
 have HD:=Vh hd;clear hd hs hl;go_enter func151,ntmps151
 go_wp2_with fail
 have HT:=Vh (HT.out.a 51 #[WK WN 0,.bool false,WK WL 0,WK WL 0,.slice none 0 0]);go_wp2_with fail
 refine Qe.run HD HT [0] ?_
 rintro e wq rfl HT;have HT:=Vh (HT.out.sum (H':=[Ql kb L.fb (Qb pb) (Q9 L k) k,aZ.aJ pb m d n++(cB++(gd++e.1)),[cl w.heap.size 51 #[WK WN 0,.bool false,WK WL 0,WK WL 0,.slice none 0 0]]]));obtain ⟨k3,k4,k5,k6,k7⟩:=HT.c5 0 0 3 4 5 6 7;simp only [Xh,aC] at k3 k4 k5 k6 k7;obtain ⟨r0,r1,r2,r3,r4⟩:=HT.c5 2 0 0 1 2 3 4;obtain ⟨df,dm,yR,yS,FP⟩:=HT.f5 2 0 0 1 2 3 4;simp only [aT] at r0 r1 r2 r3 r4;have lt:=HT.l 0 0;simp only [] at lt;go_wp2
 exact WR (v:=WW #[.agg (dh 0 false (.slice none 0 0)),WK WN 10]) (by simp [results,results151,go_sem,r0,r1,r2,r3,r4,dh]) rfl ⟨_,⟨rfl,rfl⟩,((((((HT.set 2 0 rfl 0 _).set 2 0 rfl 1 _).set 2 0 rfl 2 _).set 2 0 rfl 3 _).set 2 0 rfl 4 _).p [0,1]).sum⟩
theorem qzx (hx:qP L x ws p gF) (hn:x.tr.length<=1000000) (th no:Int) (hth:0<=th):Qa prog 43 #[Qb L.fb,WK WN th,WK WN no] [gF] fun en gs =>
 ∃ kb g aI,en=WO (WW #[Qb kb,WK WN 0])/\isTurn L kb firstT 0 (qQ th no) g/\qP L { x with tr:=x.tr++[lq (qQ th no) { bO with kind:=1 }] } ws p aI/\gs=[g,aI]:=by
 obtain ⟨gC,gW,gP,hx,hw,aW,rfl⟩:=hx;have HS:=Vh (show ∀ kb pv,((mE L kb pv).on ([],[])).SV (.at none .enter) WM (WS (WT 104) #[Qb kb] #[]) [] from fun kb pv=>⟨rfl,rfl,rfl⟩);have lh:=Vh (show ∀ kb,_ from fun kb=>aZ.iC (Q6 L kb (WV none) ([],[])) (HS kb (WV none)));refine GO fun w HT=>?_
 have HX:=Vh hx;have HW:=Vh hw;have bD:=Vh aW;have dR:=Vh hn;clear hx hn aW hw;go_enter func43,ntmps43
 go_wp2_with fail
 refine Qa.run (nz _ _ _) (HT.a 181 (Xh L.fb (WV none) (WV none) (qQ th no))) [] ?_
 rintro e w1 gs ⟨rfl,rfl⟩ HT;simp only [PU] at HT;go_wp2_with fail
 refine Qa.run (lh w.heap.size) (HT.m [gC,gW++gP,[],[cl w.heap.size 181 (Xh L.fb (WV none) (WV none) (qQ th no))]]) [2] ?_
 rintro e w1 gs ⟨pb,rfl,rfl⟩ HT;simp only [PU] at HT;have k8:=HT.c 3 0 8;have yP:=HT.f 3 0 8;simp only [Xh,aC] at k8;have hnt:=fun g (hg:Qf L x g)=>Ac (kb:=w.heap.size) (pv:=Qb pb) (sv:=WV none) (k:=qQ th no) hg { bO with kind:=1 } dR
 simp only [EvS.cells,bO] at hnt;go_wp2_with fail
 refine Qa.run (hnt _ HX) ((HT.set 3 0 rfl 8 (Qb pb)).eq (H':=[gC,gW++gP,[],Ql w.heap.size L.fb (Qb pb) (WV none) (qQ th no),aZ.aJ pb WM (WS (WT 104) #[Qb w.heap.size] #[]) 0]) rfl) [3,0] ?_
 rintro e w1 gs ⟨rfl,g1,hx1,rfl⟩ HT;simp only [PU] at HT;have HX:=Vh hx1;clear hx1 k8 yP;go_wp2
 go_ret2
 exact ⟨_,⟨_,_,_,rfl,⟨pb,([],[]),_,_,[],Ql w.heap.size L.fb (Qb pb) (WV none) (qQ th no)++([]++[]),HS _ _,⟨[],⟨rfl,.inl ⟨rfl,rfl⟩⟩,rfl⟩,rfl⟩,⟨g1,gW,gP,HX,HW,bD,rfl⟩,rfl⟩,(HT.p [4,3,0,1]).bG⟩
end
def Y2:Qg:=EO.s
def M4 (b:Nat) (s:Qs) (g:List ak):Prop:=∃ rb lb wb gr gl gw,X2 rb s.ring gr/\qk lb s.who s.turns gl/\qg wb Y2 gw/\g=[cl b 238 #[Qb rb,Qb lb,Qb wb]]++gr++gl++gw
theorem zao:iW EO=0:=by decide
theorem qqc:R8 M4:=by
 intro n h1 h2;refine GO fun w HT=>?_
 have HWN:=Vh (show ∀ (b:Nat) g,Xx b EO 0 g->qg b Y2 g from fun b g h=>⟨EO,rfl,by rw [zao];exact h⟩);go_enter func78,ntmps78
 go_wp2_with fail
 refine Qa.run (qyt n h1 h2) (HT) [] ?_
 rintro e w1 gs ⟨rb,gr,rfl,hgr,rfl⟩ HT;simp only [PU] at HT;go_wp2_with fail
 refine Qa.run qxj HT [] ?_
 rintro e w1 gs ⟨lb,gl,rfl,hgl,rfl⟩ HT;simp only [PU] at HT;go_wp2_with fail
 refine Qa.run qvi HT [] ?_
 rintro e w1 gs ⟨wb,gw,rfl,hgw,rfl⟩ HT;simp only [PU] at HT;go_wp2
 go_ret2
 exact ⟨_,⟨_,_,rfl,⟨rb,lb,wb,gr,gl,gw,hgr,hgl,HWN _ _ hgw,rfl⟩,rfl⟩,(HT.a 238 #[Qb rb,Qb lb,Qb wb]).sum⟩
theorem qqe {b:Nat} {s:Qs} {g:List ak} (h:M4 b s g):∃ (q:gY) (g1 g2:List ak),q.b=b/\uO q s g1/\qg q.wb Y2 g2/\g=g1++g2:=by
 obtain ⟨rb,lb,wb,gr,gl,gw,h1,h2,h3,rfl⟩:=h;exact ⟨⟨b,rb,lb,wb⟩,_,gw,rfl,⟨gr,gl,h1,h2,rfl⟩,h3,by simp [Xl]⟩
theorem S8:∀ {l:List (Nat × Qs)} {g:List ak},Yx (fun (x:Nat × Qs)=>M4 x.1 x.2) l g->∃ (qs:List gY) (g1 g2:List ak),qs.map gY.b=l.map Prod.fst/\Yx (fun (z:gY × Qs)=>uO z.1 z.2) (qs.zip (l.map Prod.snd)) g1 /\
 Yx (fun (z:gY × Qg)=>qg z.1.wb z.2) (qs.zip (WY l.length Y2)) g2/\g.Perm (g1++g2)
 | [],_,h=>by cases h;exact ⟨[],[],[],rfl,rfl,rfl,List.Perm.refl _⟩
 | a::l,_,h=>by
   obtain ⟨u,v,hu,hv,rfl⟩:=h;obtain ⟨q,ga,gb,hq,hs,hw,rfl⟩:=qqe hu;obtain ⟨qs,g1,g2,h1,h2,h3,h4⟩:=S8 hv;refine ⟨q::qs,ga++g1,gb++g2,by simp [hq,h1],⟨ga,g1,hs,h2,rfl⟩,⟨gb,g2,hw,h3,rfl⟩,?_⟩
   refine (List.Perm.append_left _ h4).trans ?_
   classical
   refine XJ.2 fun a=>?_
   simp only [XV];omega
def fires (l:List Xm):List Value:=oh (l.map fun f=>f.vals.toArray)
def vQ (lb:Nat) (l:List Xm) (g:List ak):Prop:=∃ v gr,Q1 63 4 v l.length (fires l) gr/\g=[cl lb 232 #[v]]++gr
structure ZF where
 x:Qi
 ws:List Qg
 p:Qz
 lg:List Xm
def fu (L:Lay) (z:ZF) (g:List ak):Prop:=∃ gT gL,qP L z.x z.ws z.p gT/\vQ L.p.lb z.lg gL/\g=gT++gL
def xD (c:Cfg):ZF:=⟨KE c,WY c.sh.toNat Y2,Nj c.room.toNat,[]⟩
theorem qpy {n pb:Nat} {g:List ak} (h:Lu n pb g):Z3 pb (Nj n) g:=by
 obtain ⟨cb,lb,hb,rfl⟩:=h;exact ⟨cb,lb,hb,0,0,[],_,⟨(by intro a h;cases h),rfl⟩,rfl,by simp [BQ,X4,nxV,gG,Ze,Nj]⟩
theorem q6l (c:Cfg) (hk:c.ok=true):Qa prog 13 #[.agg c.cells] [] fun e gs =>
 ∃ L g,e=WO (WW #[Qb L.fb,WK WN 0])/\fu L (xD c) g/\gs=[g]:=by
 refine (qpg qqc c hk).post ?_
 rintro e gs ⟨fb,p,au,gF,gS,gR,gH,gP,gL,he,ha,hlen,hall,rfl⟩;obtain ⟨qs,g1,g2,h1,h2,h3,h4⟩:=S8 ha.lM;have hn:au.length=c.sh.toNat:=by omega
 have hsn:au.map Prod.snd=WY c.sh.toNat (Qp c.ring.toNat):=by
  rw [List.eq_replicate_iff];refine ⟨by simp;omega,fun b hb=>?_⟩
  obtain ⟨a,ha',rfl⟩:=List.mem_map.1 hb;exact hall a ha'
 have hq:qs.length=c.sh.toNat:=by
  have:=congrArg List.length h1;simp only [XN] at this;omega
 refine ⟨[gF++(gS++(gR++(g1++[])))++(g2++gP)++gL],⟨⟨fb,p,qs⟩,_,he,⟨gF++(gS++(gR++(g1++[])))++(g2++gP),gL,⟨_,g2,gP,⟨_,gF,gS,gR,g1,[],ha.floor,ha.aa,?_,?_,?_,q7n,rfl⟩,⟨?_,?_⟩,qpy ha.aF,rfl⟩,⟨.slice none 0 0,[],X5 _ _,?_⟩,rfl⟩,rfl⟩,?_⟩
 ·show Q1 _ 1 p.sh (qs.map gY.b).length ((qs.map gY.b).map fun b=>Qb b) gR
  have:=ha.row;rw [h1,XN,List.map_map];exact this
 ·show qs.length=(WY _ _).length
  rw [XP];exact hq
 ·show Yx _ (qs.zip (WY _ _)) g1
  rw [<- hsn];exact h2
 ·show (WY _ _).length=qs.length
  rw [XP];exact hq.symm
 ·show Yx _ (qs.zip (WY _ _)) g2
  rw [<- hn];exact h3
 ·rw [ha.log];simp
 ·classical
  refine XJ.2 fun a=>?_
  have:=(XJ.1 h4) a;simp only [List.flatten_cons,List.flatten_nil,List.append_nil,XV] at this |-;omega
def fU (P:gI->Prop) (w:Qg):Prop:=(∀ l∈w.lv,∀ s∈l,∀ e∈s,P e)/\∀ e∈w.lV,P e
section
variable {P:gI->Prop} {w:Qg}
theorem mem_modify {α:Type} {f:α->α} {b:α}:∀ {l:List α} {k:Nat},b∈l.modify k f->b∈l\/∃ a∈l,b=f a:=by
 intro l k hb;obtain ⟨i,hi⟩:=List.getElem?_of_mem hb;rw [List.getElem?_modify] at hi;cases ha:l[i]? with
 | none=>rw [ha] at hi;simp at hi
 | some a =>
   rw [ha] at hi;have hm:=XI ha;by_cases hk:k=i
   ·simp [hk] at hi;exact .inr ⟨a,hm,hi.symm⟩
   ·simp [hk] at hi;exact .inl (hi ▸ hm)
theorem fU.place (h:fU P w) {e:gI} (he:P e):fU P (w.place e):=by
 unfold Qg.place;split
 ·refine ⟨h.1,fun x hx=>?_⟩
  rcases XW.1 hx with hx | hx
  ·exact h.2 x hx
  ·rw [XU.1 hx];exact he
 ·refine ⟨fun l hl s hs x hx=>?_,h.2⟩
  rcases mem_modify hl with hl | ⟨l0,hl0,rfl⟩
  ·exact h.1 l hl s hs x hx
  ·rcases mem_modify hs with hs | ⟨s0,hs0,rfl⟩
   ·exact h.1 l0 hl0 s hs x hx
   ·rcases XW.1 hx with hx | hx
    ·exact h.1 l0 hl0 s0 hs0 x hx
    ·rw [XU.1 hx];exact he
theorem fU.dK:∀ (l:List gI) {w:Qg},fU P w->(∀ e∈l,P e)->fU P (w.dK l)
 | [],_,h,_=>h
 | a::l,w,h,hl=>by
   show fU P ((w.place a).dK l)
   exact fU.dK l (h.place (hl a WU)) fun e he=>hl e (XH _ he)
theorem fU.slot (h:fU P w) (l k:Nat):∀ e∈w.slot l k,P e:=by
 intro e he;unfold Qg.slot at he;rw [XF] at he;cases h1:(w.lv.getD l [])[k]? with
 | none=>rw [h1] at he;cases he
 | some s =>
   rw [h1] at he;have hs:=XI h1;rw [XF] at hs;cases h2:w.lv[l]? with
   | none=>rw [h2] at hs;cases hs
   | some x=>rw [h2] at hs;exact h.1 x (XI h2) s hs e he
theorem fU.clear (h:fU P w) (l k:Nat):fU P (w.clear l k):=by
 refine ⟨fun x hx s hs e he=>?_,h.2⟩
 rcases mem_modify hx with hx | ⟨l0,hl0,rfl⟩
 ·exact h.1 x hx s hs e he
 ·rcases List.mem_or_eq_of_mem_set hs with hs | rfl
  ·exact h.1 l0 hl0 s hs e he
  ·cases he
theorem fU.again (h:fU P w) (l:Nat):fU P (w.again l):=fU.dK _ (h.clear _ _) (h.slot _ _)
theorem fU.down:∀ (n:Nat) {w:Qg},fU P w->fU P (w.down n)
 | 0,_,h=>h
 | n+1,_,h=>fU.down n (h.again _)
theorem fU.fO (h:fU P w):fU P w.fO.1/\∀ e∈w.fO.2,P e:=by
 have h1:=fU.down (min (J6 (w.now+1)) 3) (show fU P { w with now:=w.now+1 } from h);exact ⟨h1.clear _ _,h1.slot _ _⟩
end
structure ym (N:Nat) (S:Qg):Prop where
 sh:S.Sh
 now:S.now<=N
 tot:zv S<=N
 JM:fU (fun e=>Jf e.v) S
theorem ym.ok {N:Nat} {S:Qg} (h:ym N S) (hN:N<1000000):yl S:=⟨h.sh,by have:=h.now;omega,by have:=h.tot;omega⟩
theorem ym.mono {N M:Nat} {S:Qg} (h:ym N S) (hm:N<=M):ym M S:=⟨h.sh,by have:=h.now;omega,by have:=h.tot;omega,h.JM⟩
structure Ao (N:Nat) (x:Qi) (ws:List Qg) (p:Qz):Prop where
 now:0<=x.f.now/\x.f.now<=N
 busy:0<=x.f.busy/\x.f.busy<=N
 cap:x.f.cfg.cap=x.aa.recs.length
 wl:ws.length=x.au.length
 kE:∀ w∈ws,ym N w
 task:∀ s∈x.au,∀ e∈s.ring.slots,Jf e.v
 turns:∀ s∈x.au,0<=s.turns/\s.turns<=N
 ch:p.ch.length<=p.room
 sp:p.sp.length<=N
structure ZN (N:Nat) (z:ZF):Prop where
 core:Zg N z.x
 rest:Ao N z.x z.ws z.p
 lg:z.lg.length<=N
theorem Ao.mono {N M:Nat} {x:Qi} {ws:List Qg} {p:Qz} (h:Ao N x ws p) (hm:N<=M):Ao M x ws p :=
 ⟨by have:=h.now;omega,by have:=h.busy;omega,h.cap,h.wl,fun w hw=>(h.kE w hw).mono hm,h.task,fun s hs=>by have:=h.turns s hs;omega,h.ch,by have:=h.sp;omega⟩
theorem ZN.mono {N M:Nat} {z:ZF} (h:ZN N z) (hm:N<=M):ZN M z:=⟨h.core.mono hm,h.rest.mono hm,by have:=h.lg;omega⟩
end
end Go.Proofs.YtcneeepdclgdcaaGreat
