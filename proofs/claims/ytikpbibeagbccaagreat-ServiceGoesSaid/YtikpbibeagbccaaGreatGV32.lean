import Derived.Test.YtikpbibeagbccaaGreatGV31
import Derived.Deep.RegionHeld3
set_option maxRecDepth 100000
set_option maxHeartbeats 4000000
namespace Go.Proofs.YtikpbibeagbccaaGreat
set_option linter.unusedVariables false
set_option linter.unusedSimpArgs false
open Go.Proofs.Tryz
section
open Go.RowKit Go.Shelf
section
variable {L:Lay} {x:Qj} {ws:List Qg} {p:Qy} {e:ET} {g gC gK gF:List Blk} {kb:Nat} {pv sv:Value} {k:Xf}
theorem q22 (hz:Y0 L kb pv e ⟨k,x,ws,p⟩ gK gF) (hp:qe0 .rec1 ⟨k,x,ws,p⟩) (bk:Nat) (hb:zx kb bk e) :
 Qa prog 263 #[Qb bk] [gK,gF] (MRT L kb pv e (runT .rec1 ⟨k,x,ws,p⟩).1 (runT .rec1 ⟨k,x,ws,p⟩).2):=by
 have HO:=Vh hp.1.core;have HTO:=Vh hp.1.t;have HB:=Vh (show cl bk 129 #[Qb kb]∈e.1 from hb);clear hp hb;cases hc:(stW (x.slab.word k.t.slot) == 2 && Zp (x.slab.word k.t.slot) == k.t.gen && x.slab.mine k.t.id) with
 | false =>
   rw [show runT .rec1 ⟨k,x,ws,p⟩=(.nil,⟨{ k with saw:=x.slab.word k.t.slot },x,ws,p⟩) by simp [runT,Xd,hc]];unfold MRT;obtain ⟨gd,gC,gW,gP,hd,hx,hw,hpp,rfl,rfl⟩:=hz;refine GO fun w HT=>?_
   have HT:=Vh (HT.out.sum (H':=[Qi kb L.fb pv (Qw L k) k,gd,e.1,gC,gW,gP]));have HX:=Vh hx;have HD:=Vh hd;have HW:=Vh hw;have HPP:=Vh hpp;clear hx hd hw hpp;have hlk:=qdy (kb:=kb) (pv:=pv) (sv:=Qw L k) HX.out HO.out HTO.out 2;rw [hc] at hlk;have HLK:=Vh hlk;clear hlk hc;have b0:=HT.out.mem_cell 2 HB.out 0;have ltb:=HT.out.mem_lt 2 HB.out;simp only [GE2] at b0 ltb;go_enter func263,ntmps263
   go_wp2_with fail
   refine (Qa.use (HLK.out) (HT.out.alloc (k:=w.heap.size) rfl _ _) [0,3] rfl rfl).mono ?_
   rintro e w1 ⟨gs,⟨rfl,g1,hx1,rfl⟩,Ta⟩;simp only [PU] at Ta;have HX:=Vh hx1;clear hx1 b0 ltb;have HT:=Vh Ta;clear Ta;obtain ⟨r0,r1⟩:=Ce2 (HT.out.cell 6 0 rfl) 0 1;obtain ⟨fr0,fr1⟩:=Ce2 (HT.out.free 6 0 rfl) 0 1;simp only [GE4] at r0 r1;go_wp2
   exact bodyPost_ret (v:=.agg #[_,_]) (by simp [results,results263,go_sem,r0,r1]) rfl ⟨_,⟨e,leT.refl e,_,_,[],_,_,rfl,⟨rfl,rfl,rfl⟩,⟨gd,_,_,gP,HD.out,HX.out,HW.out,HPP.out,(rfl:Qi kb L.fb pv (Qw L k) { k with saw:=x.slab.word k.t.slot }++(gd++e.1)=_),rfl⟩,rfl⟩,(((HT.out.set 6 0 rfl 0 _).set 6 0 rfl 1 _).pick [0,1,2,3,4,5] rfl).sum2⟩
 | true =>
   rw [show runT .rec1 ⟨k,x,ws,p⟩=(.at none .rec11,⟨{ k with saw:=x.slab.word k.t.slot },x,ws,p⟩) by simp [runT,Xd,hc]];unfold MRT;obtain ⟨gd,gC,gW,gP,hd,hx,hw,hpp,rfl,rfl⟩:=hz;refine GO fun w HT=>?_
   have HT:=Vh (HT.out.sum (H':=[Qi kb L.fb pv (Qw L k) k,gd,e.1,gC,gW,gP]));have HX:=Vh hx;have HD:=Vh hd;have HW:=Vh hw;have HPP:=Vh hpp;clear hx hd hw hpp;have hlk:=qdy (kb:=kb) (pv:=pv) (sv:=Qw L k) HX.out HO.out HTO.out 2;rw [hc] at hlk;have HLK:=Vh hlk;clear hlk hc;have b0:=HT.out.mem_cell 2 HB.out 0;have ltb:=HT.out.mem_lt 2 HB.out;simp only [GE2] at b0 ltb;go_enter func263,ntmps263
   go_wp2_with fail
   refine (Qa.use (HLK.out) (HT.out.alloc (k:=w.heap.size) rfl _ _) [0,3] rfl rfl).mono ?_
   rintro e w1 ⟨gs,⟨rfl,g1,hx1,rfl⟩,Ta⟩;simp only [PU] at Ta;have HX:=Vh hx1;clear hx1 b0 ltb;have HT:=Vh Ta;clear Ta;go_wp2_with fail
   refine Qa.run (qkg _ _ _) (HT.out) [] ?_
   rintro e w1 gs ⟨rfl,rfl⟩ HT;simp only [PU] at HT;obtain ⟨r0,r1⟩:=Ce2 (HT.out.cell 6 0 rfl) 0 1;obtain ⟨fr0,fr1⟩:=Ce2 (HT.out.free 6 0 rfl) 0 1;simp only [GE4] at r0 r1;go_wp2
   exact bodyPost_ret (v:=.agg #[_,_]) (by simp [results,results263,go_sem,r0,r1]) rfl ⟨_,⟨e,leT.refl e,_,_,[],_,_,rfl,⟨rfl,rfl,⟨bk,rfl,HB.out⟩⟩,⟨gd,_,_,gP,HD.out,HX.out,HW.out,HPP.out,(rfl:Qi kb L.fb pv (Qw L k) { k with saw:=x.slab.word k.t.slot }++(gd++e.1)=_),rfl⟩,rfl⟩,(((HT.out.set 6 0 rfl 0 _).set 6 0 rfl 1 _).pick [0,1,2,3,4,5] rfl).sum2⟩
theorem q17 (hz:Y0 L kb pv e ⟨k,x,ws,p⟩ gK gF) (hp:qe0 .looks ⟨k,x,ws,p⟩) :
 Qa prog 258 #[Qb kb] [gK,gF] (MRT L kb pv e (runT .looks ⟨k,x,ws,p⟩).1 (runT .looks ⟨k,x,ws,p⟩).2):=by
 have HO:=Vh hp.1.core;have HTO:=Vh hp.1.t;clear hp;cases hc:(stW (x.slab.word k.t.slot) == 3 && Zp (x.slab.word k.t.slot) == k.t.gen && x.slab.mine k.t.id) with
 | false =>
   rw [show runT .looks ⟨k,x,ws,p⟩=(.nil,⟨{ k with saw:=x.slab.word k.t.slot },x,ws,p⟩) by simp [runT,Xd,hc]];unfold MRT;obtain ⟨gd,gC,gW,gP,hd,hx,hw,hpp,rfl,rfl⟩:=hz;refine GO fun w HT=>?_
   have HT:=Vh (HT.out.sum (H':=[Qi kb L.fb pv (Qw L k) k,gd,e.1,gC,gW,gP]));have HX:=Vh hx;have HD:=Vh hd;have HW:=Vh hw;have HPP:=Vh hpp;clear hx hd hw hpp;have hlk:=qdy (kb:=kb) (pv:=pv) (sv:=Qw L k) HX.out HO.out HTO.out 3;rw [hc] at hlk;have HLK:=Vh hlk;clear hlk hc;go_enter func258,ntmps258
   go_wp2_with fail
   refine (Qa.use (HLK.out) (HT.out.alloc (k:=w.heap.size) rfl _ _) [0,3] rfl rfl).mono ?_
   rintro e w1 ⟨gs,⟨rfl,g1,hx1,rfl⟩,Ta⟩;simp only [PU] at Ta;have HX:=Vh hx1;clear hx1;have HT:=Vh Ta;clear Ta;obtain ⟨r0,r1⟩:=Ce2 (HT.out.cell 6 0 rfl) 0 1;obtain ⟨fr0,fr1⟩:=Ce2 (HT.out.free 6 0 rfl) 0 1;simp only [GE4] at r0 r1;go_wp2
   exact bodyPost_ret (v:=.agg #[_,_]) (by simp [results,results258,go_sem,r0,r1]) rfl ⟨_,⟨e,leT.refl e,_,_,[],_,_,rfl,⟨rfl,rfl,rfl⟩,⟨gd,_,_,gP,HD.out,HX.out,HW.out,HPP.out,(rfl:Qi kb L.fb pv (Qw L k) { k with saw:=x.slab.word k.t.slot }++(gd++e.1)=_),rfl⟩,rfl⟩,(((HT.out.set 6 0 rfl 0 _).set 6 0 rfl 1 _).pick [0,1,2,3,4,5] rfl).sum2⟩
 | true =>
   rw [show runT .looks ⟨k,x,ws,p⟩=(.at none .claims,⟨{ k with saw:=x.slab.word k.t.slot },x,ws,p⟩) by simp [runT,Xd,hc]];unfold MRT;obtain ⟨gd,gC,gW,gP,hd,hx,hw,hpp,rfl,rfl⟩:=hz;refine GO fun w HT=>?_
   have HT:=Vh (HT.out.sum (H':=[Qi kb L.fb pv (Qw L k) k,gd,e.1,gC,gW,gP]));have HX:=Vh hx;have HD:=Vh hd;have HW:=Vh hw;have HPP:=Vh hpp;clear hx hd hw hpp;have hlk:=qdy (kb:=kb) (pv:=pv) (sv:=Qw L k) HX.out HO.out HTO.out 3;rw [hc] at hlk;have HLK:=Vh hlk;clear hlk hc;go_enter func258,ntmps258
   go_wp2_with fail
   refine (Qa.use (HLK.out) (HT.out.alloc (k:=w.heap.size) rfl _ _) [0,3] rfl rfl).mono ?_
   rintro e w1 ⟨gs,⟨rfl,g1,hx1,rfl⟩,Ta⟩;simp only [PU] at Ta;have HX:=Vh hx1;clear hx1;have HT:=Vh Ta;clear Ta;go_wp2_with fail
   refine Qa.run (qkg _ _ _) (HT.out) [] ?_
   rintro e w1 gs ⟨rfl,rfl⟩ HT;simp only [PU] at HT;obtain ⟨r0,r1⟩:=Ce2 (HT.out.cell 6 0 rfl) 0 1;obtain ⟨fr0,fr1⟩:=Ce2 (HT.out.free 6 0 rfl) 0 1;simp only [GE4] at r0 r1;go_wp2
   exact bodyPost_ret (v:=.agg #[_,_]) (by simp [results,results258,go_sem,r0,r1]) rfl ⟨_,⟨e,leT.refl e,_,_,[],_,_,rfl,⟨rfl,rfl,rfl⟩,⟨gd,_,_,gP,HD.out,HX.out,HW.out,HPP.out,(rfl:Qi kb L.fb pv (Qw L k) { k with saw:=x.slab.word k.t.slot }++(gd++e.1)=_),rfl⟩,rfl⟩,(((HT.out.set 6 0 rfl 0 _).set 6 0 rfl 1 _).pick [0,1,2,3,4,5] rfl).sum2⟩
theorem qv9 (hz:Y0 L kb pv e ⟨k,x,ws,p⟩ gK gF) (bk:Nat) (hb:zx kb bk e) :
 Qa prog 289 #[Qb bk] [gK,gF] (MRT L kb pv e (runT .claims2 ⟨k,x,ws,p⟩).1 (runT .claims2 ⟨k,x,ws,p⟩).2):=by
 have HB:=Vh (show cl bk 129 #[Qb kb]∈e.1 from hb);clear hb;rw [show runT .claims2 ⟨k,x,ws,p⟩=(.at none .behind,⟨k,x,ws,p⟩) from rfl];unfold MRT;obtain ⟨gd,gC,gW,gP,hd,hx,hw,hpp,rfl,rfl⟩:=hz;refine GO fun w HT=>?_
 have HT:=Vh (HT.out.sum (H':=[Qi kb L.fb pv (Qw L k) k,gd,e.1,gC,gW,gP]));have HX:=Vh hx;have HD:=Vh hd;have HW:=Vh hw;have HPP:=Vh hpp;clear hx hd hw hpp;have b0:=HT.out.mem_cell 2 HB.out 0;have ltb:=HT.out.mem_lt 2 HB.out;simp only [GE2] at b0 ltb;go_enter func289,ntmps289
 go_wp2_with fail
 refine Qa.run (qkg _ _ _) (HT.out.alloc (k:=w.heap.size) rfl _ _) [] ?_
 rintro e w1 gs ⟨rfl,rfl⟩ HT;simp only [PU] at HT;obtain ⟨r0,r1⟩:=Ce2 (HT.out.cell 6 0 rfl) 0 1;obtain ⟨fr0,fr1⟩:=Ce2 (HT.out.free 6 0 rfl) 0 1;simp only [GE4] at r0 r1;go_wp2
 exact bodyPost_ret (v:=.agg #[_,_]) (by simp [results,results289,go_sem,r0,r1]) rfl ⟨_,⟨e,leT.refl e,_,_,[],_,_,rfl,⟨rfl,rfl,rfl⟩,⟨gd,_,_,gP,HD.out,HX.out,HW.out,HPP.out,rfl,rfl⟩,rfl⟩,(((HT.out.set 6 0 rfl 0 _).set 6 0 rfl 1 _).pick [0,1,2,3,4,5] rfl).sum2⟩
theorem qz8 (hz:Y0 L kb pv e ⟨k,x,ws,p⟩ gK gF) (hp:qe0 .rec11 ⟨k,x,ws,p⟩) (bk:Nat) (hb:zx kb bk e) :
 Qa prog 265 #[Qb bk] [gK,gF] (MRT L kb pv e (runT .rec11 ⟨k,x,ws,p⟩).1 (runT .rec11 ⟨k,x,ws,p⟩).2):=by
 obtain ⟨ho,hh,hs0⟩:=hp;have HO:=Vh ho.core;have HSW:=Vh (show 0≤k.saw∧k.saw<18446744073709551616 from ⟨ho.saw.1,ho.saw.2.1⟩);have HTR:=Vh (show x.tr.length≤1000000 from ho.core.tr);have HDL:=Vh (show 0≤k.t.dl∧k.t.dl<18446744073709551616 from ho.t.dl);have HS0:=Vh (show 0≤k.t.slot from hs0);have HB:=Vh (show cl bk 129 #[Qb kb]∈e.1 from hb);cases hc:((x.slab.try k.t.slot k.saw 3).2.2 == 0) with
 | false =>
   rw [show runT .rec11 ⟨k,x,ws,p⟩=(Xo ⟨k,x,ws,p⟩,⟨k,{ x with slab:=(x.slab.try k.t.slot k.saw 3).1 },ws,p⟩) by simp [runT,Q3,hc,Xo]];unfold MRT;clear ho hh hs0 hb;have hrc:=qiv (L:=L) (kb:=kb) (pv:=pv) (sv:=Qw L k) (k:=k);rw [show (if k.t.slot<0 then St.nil else St.at none MT.rec1)=Xo ⟨k,x,ws,p⟩ from rfl] at hrc;generalize Xo ⟨k,x,ws,p⟩=st at *;obtain ⟨gd,gC,gW,gP,hd,hx,hw,hpp,rfl,rfl⟩:=hz;refine GO fun w HT=>?_
   have HT:=Vh (HT.out.sum (H':=[Qi kb L.fb pv (Qw L k) k,gd,e.1,gC,gW,gP]));have HX:=Vh hx;have HD:=Vh hd;have HW:=Vh hw;have HPP:=Vh hpp;clear hx hd hw hpp;have HRC:=Vh hrc;have hlk:=qi (kb:=kb) (pv:=pv) (sv:=Qw L k) HX.out HO.out HSW.out 3;rw [hc] at hlk;have HLK:=Vh hlk;clear hlk hc hrc;have b0:=HT.out.mem_cell 2 HB.out 0;have ltb:=HT.out.mem_lt 2 HB.out;simp only [GE2] at b0 ltb;go_enter func265,ntmps265
   go_wp2_with fail
   refine (Qa.use (HLK.out) (HT.out.alloc (k:=w.heap.size) rfl _ _) [0,3] rfl rfl).mono ?_
   rintro e w1 ⟨gs,⟨rfl,g1,hx1,rfl⟩,Ta⟩;simp only [PU] at Ta;have HX:=Vh hx1;clear hx1 b0 ltb;have HT:=Vh Ta;clear Ta;have b0:=HT.out.mem_cell 2 HB.out 0;simp only [GE2] at b0;go_wp2_with fail
   refine (Qa.use (HRC.out) (HT.out) [0] rfl rfl).mono ?_
   rintro e w1 ⟨gs,⟨g2,l2,⟨m2,d2,rfl,hs2⟩,rfl⟩,Ta⟩;simp only [PU] at Ta;clear b0;have HT:=Vh Ta;clear Ta;obtain ⟨r0,r1⟩:=Ce2 (HT.out.cell 6 0 rfl) 0 1;obtain ⟨fr0,fr1⟩:=Ce2 (HT.out.free 6 0 rfl) 0 1;simp only [GE4] at r0 r1;have hv2:=(Qx L kb pv (l2,[])).vals (hs2 (l2,[]) (fun _ h=>h));obtain ⟨st1,st2⟩:=Cli.store_fv2 (P:=prog) hv2.1 hv2.2 r0 fr0 r1 fr1;have HS:=Vh hs2;clear hv2 hs2;go_wp2
   exact bodyPost_ret (v:=.agg #[_,_]) (by simp [results,results265,go_sem,r0,r1]) rfl ⟨_,⟨(e.1++l2,e.2),leT.app e l2,m2,d2,g2,_,_,rfl,HS.out _ (fun b hb=>List.mem_append_right _ hb),⟨gd,_,gW,gP,HD.out,HX.out,HW.out,HPP.out,rfl,rfl⟩,rfl⟩,(((HT.out.set 6 0 rfl 0 _).set 6 0 rfl 1 _).pick [0,8,1,2,7,3,4,5] rfl).sum2⟩
 | true =>
   obtain ⟨gd,gC,gW,gP,hd,hx,hw,hpp,hgK,hgF⟩:=hz;obtain ⟨i,q,s,S,hki,hq,hs,hS,hsv,hsh,hss,hwh,hwo,hrb,ht0,ht1⟩:=zm hx hw ho hh
   have hz2:runT .rec11 ⟨k,x,ws,p⟩=(.nil,⟨k,{ x with slab:=(x.slab.try k.t.slot k.saw 3).1,tr:=x.tr++[evT k { ev0 with kind:=4,id:=k.t.id,gen:=k.t.gen,dl:=qdn S k.t }] },ws.set i (S.place (qmd S k.t)),p⟩):=by
    have h1:(Q3 3 ⟨k,x,ws,p⟩).2=true:=hc;simp only [runT,h1,if_pos,qky,Q3,ZT.note];rw [show ZT.sh ⟨k,{ x with slab:=(x.slab.try k.t.slot k.saw 3).1 },ws,p⟩=i from hsh,show ZT.wh ⟨k,{ x with slab:=(x.slab.try k.t.slot k.saw 3).1 },ws,p⟩=S from hwh];exact if_pos h1
   rw [hz2];have hz:Y0 L kb pv e ⟨k,x,ws,p⟩ gK gF:=⟨gd,gC,gW,gP,hd,hx,hw,hpp,hgK,hgF⟩;clear hx hw hd hpp hgK hgF;have har:∀ gC gW,Qf L { x with slab:=(x.slab.try k.t.slot k.saw 3).1 } gC→Z8 L ws gW→_:=fun gC gW hx hw=>qrr (kb:=kb) (pv:=pv) (k:=k) hx hw hq hs hS hwo HS0.out HDL.out HTR.out
   have HSV:=Vh hsv;clear ho hh hs0 hb hz2 hki hq hs hS hsv hsh hss hwh hwo hrb ht0 ht1;unfold MRT;obtain ⟨gd,gC,gW,gP,hd,hx,hw,hpp,rfl,rfl⟩:=hz;refine GO fun w HT=>?_
   have HT:=Vh (HT.out.sum (H':=[Qi kb L.fb pv (Qw L k) k,gd,e.1,gC,gW,gP]));have HX:=Vh hx;have HD:=Vh hd;have HW:=Vh hw;have HPP:=Vh hpp;clear hx hd hw hpp;have HAR:=Vh har;have hlk:=qi (kb:=kb) (pv:=pv) (sv:=Qw L k) HX.out HO.out HSW.out 3;rw [hc] at hlk;rw [HSV.out] at hlk;have HTo:=HT.out;rw [HSV.out] at HTo;have HT:=Vh HTo;have HLK:=Vh hlk;clear hlk hc har HTo;generalize (x.slab.try k.t.slot k.saw 3).1=sl at *;generalize S.place (qmd S k.t)=S1 at *;generalize qdn S k.t=dl1 at *;have b0:=HT.out.mem_cell 2 HB.out 0;have ltb:=HT.out.mem_lt 2 HB.out;simp only [GE2] at b0 ltb;go_enter func265,ntmps265
   go_wp2_with fail
   refine (Qa.use (HLK.out) (HT.out.alloc (k:=w.heap.size) rfl _ _) [0,3] rfl rfl).mono ?_
   rintro e w1 ⟨gs,⟨rfl,g1,hx1,rfl⟩,Ta⟩;simp only [PU] at Ta;have HX:=Vh hx1;clear hx1 b0 ltb;have HT:=Vh Ta;clear Ta;have b0:=HT.out.mem_cell 2 HB.out 0;simp only [GE2] at b0;go_wp2_with fail
   refine (Qa.use (HAR.out _ _ HX.out HW.out) (HT.out) [0,3,4] rfl rfl).mono ?_
   rintro e w1 ⟨gs,⟨rfl,g2,gW2,hx2,hw2,rfl⟩,Ta⟩;simp only [PU] at Ta;have HX:=Vh hx2;have HW:=Vh hw2;clear hx2 hw2 b0;have HT:=Vh Ta;clear Ta;obtain ⟨r0,r1⟩:=Ce2 (HT.out.cell 6 0 rfl) 0 1;obtain ⟨fr0,fr1⟩:=Ce2 (HT.out.free 6 0 rfl) 0 1;simp only [GE4] at r0 r1;go_wp2
   have HF:=(((HT.out.set 6 0 rfl 0 .nilFunc).set 6 0 rfl 1 .nilFunc).pick [0,1,2,3,4,5] rfl);rw [← HSV.out] at HF;exact bodyPost_ret (v:=.agg #[_,_]) (by simp [results,results265,go_sem,r0,r1]) rfl ⟨_,⟨e,leT.refl e,_,_,[],_,_,rfl,⟨rfl,rfl,rfl⟩,⟨gd,_,_,gP,HD.out,HX.out,HW.out,HPP.out,rfl,rfl⟩,rfl⟩,HF.sum2⟩
end
theorem qsw (d i:Nat) (k:Xf) (x:Qj) (ws:List Qg) (p:Qy) :
 ∃ st k',Xc d i ⟨k,x,ws,p⟩=(st,⟨k',x,ws,p⟩)∧k'.s=k.s∧k'.nd=k.nd∧k'.due=k.due:=by
 unfold Xc;split
 ·exact ⟨_,_,rfl,rfl,rfl,rfl⟩
 ·exact ⟨_,_,rfl,rfl,rfl,rfl⟩
theorem qhe.of {ds:List Nat} {k k':Xf} {g:List Blk} (h:qhe ds k g) (h1:k'.nd=k.nd) (h2:k'.due=k.due):qhe ds k' g:=by
 unfold qhe at *;rw [h1,h2];exact h
theorem Qw.of {L:Lay} {k k':Xf} (h:k'.s=k.s):Qw L k'=Qw L k:=by
 unfold Qw;rw [h]
section
variable {L:Lay} {x:Qj} {ws:List Qg} {p:Qy} {e:ET} {g gC gK gF:List Blk} {kb:Nat} {pv sv:Value} {k:Xf}
theorem qzu (d i:Nat) (hz:Y0 L kb pv e ⟨k,x,ws,p⟩ gK gF) (hp:qe0 (.fires1 d i) ⟨k,x,ws,p⟩) (bk bp bi bd:Nat) (hb:zx kb bk e) (hbd:e.2[d]?=some bd)
 (hbp:cl bp 330 #[Qb bd]∈e.1) (hbi:cl bi 3 #[.int .i64 i]∈e.1) :
 Qa prog 259 #[Qb bk,Qb bp,Qb bi] [gK,gF] (MRT L kb pv e (runT (.fires1 d i) ⟨k,x,ws,p⟩).1 (runT (.fires1 d i) ⟨k,x,ws,p⟩).2):=by
 have hc:k.nd=d+1:=hp.2.2.1;have hi:i≤1000000:=hp.2.2.2;clear hp;obtain ⟨gd,gC,gW,gP,hd,hx,hw,hpp,rfl,rfl⟩:=hz;obtain ⟨v,gr,hr,rfl⟩:=qmc hd hc hbd;have hfi:=qw0 (L:=L) (x:=x) (ws:=ws) (p:=p) (kb:=kb) (pv:=pv) (sv:=Qw L k) (k:=k) d bd (i+1) v gr hr (by omega);unfold FiR at hfi;rw [show runT (.fires1 d i) ⟨k,x,ws,p⟩=Xc d (i+1) ⟨k,x,ws,p⟩ from rfl];obtain ⟨st,k',he,hks,hknd,hkdu⟩:=qsw d (i+1) k x ws p;rw [he] at hfi ⊢;dsimp only at hfi ⊢
 rw [show (((i+1:Nat):Int))=(i:Int)+1 by omega,← Qw.of (L:=L) hks] at hfi;have hd':=hd.of hknd hkdu;unfold MRT;rw [← Qw.of (L:=L) hks];refine GO fun w HT=>?_
 have HFI:=Vh hfi;have HT:=Vh (HT.out.sum (H':=[Qi kb L.fb pv (Qw L k') k,[cl bd 326 #[v]],gr,e.1,gC,gW,gP]));have HX:=Vh hx;have HD:=Vh hd';have HW:=Vh hw;have HPP:=Vh hpp;have HBD:=Vh hbd;have b0:=HT.out.mem_cell 3 hb 0;have p0:=HT.out.mem_cell 3 hbp 0;have i0:=HT.out.mem_cell 3 hbi 0;have ltb:=HT.out.mem_lt 3 hb;have ltp:=HT.out.mem_lt 3 hbp;have lti:=HT.out.mem_lt 3 hbi;simp only [GE2] at b0 ltb p0 ltp i0 lti;clear hx hd hw hpp hfi hr hc hb hbp hbi hbd hd' he hks hknd hkdu;go_enter func259,ntmps259
 go_wp2_with fail
 refine (Qa.use (HFI.out) (HT.out.alloc (k:=w.heap.size) rfl _ _) [0,1,2] rfl rfl).mono ?_
 rintro e w1 ⟨gs,⟨g2,l2,m2,d2,rfl,hs2,rfl⟩,Ta⟩;simp only [PU] at Ta;clear b0 ltb p0 ltp i0 lti;have HT:=Vh Ta;clear Ta;have HS:=Vh (hs2 (e.1++l2,e.2) (fun b hb=>List.mem_append_right _ hb) HBD.out);have HT:=Vh (HT.out.sum2 (H':=[Qi kb L.fb pv (Qw L k') k',[cl bd 326 #[v]]++gr,e.1,gC,gW,gP,[cl w.heap.size 180 #[.nilFunc,.nilFunc]],l2,g2]));clear hs2;obtain ⟨r0,r1⟩:=Ce2 (HT.out.cell 6 0 rfl) 0 1;obtain ⟨fr0,fr1⟩:=Ce2 (HT.out.free 6 0 rfl) 0 1;simp only [GE4] at r0 r1;have hv2:=(Qx L kb pv _).vals HS.out;obtain ⟨st1,st2⟩:=Cli.store_fv2 (P:=prog) hv2.1 hv2.2 r0 fr0 r1 fr1;clear hv2;go_wp2
 exact bodyPost_ret (v:=.agg #[_,_]) (by simp [results,results259,go_sem,r0,r1]) rfl ⟨_,⟨(e.1++l2,e.2),leT.app e l2,_,_,g2,_,_,rfl,HS.out,⟨_,gC,gW,gP,HD.out,HX.out,HW.out,HPP.out,rfl,rfl⟩,rfl⟩,(((HT.out.set 6 0 rfl 0 _).set 6 0 rfl 1 _).pick [8,0,1,2,7,3,4,5] rfl).sum2⟩
theorem qys (next:Int) (hz:Y0 L kb pv e ⟨k,x,ws,p⟩ gK gF) (hp:qe0 (.rearm1 next) ⟨k,x,ws,p⟩) :
 Qa prog 303 #[Qb kb,.int .u64 next] [gK,gF] (MRT L kb pv e (runT (.rearm1 next) ⟨k,x,ws,p⟩).1 (runT (.rearm1 next) ⟨k,x,ws,p⟩).2):=by
 obtain ⟨ho,hh,hs0,hn0,hn1⟩:=hp;have HO:=Vh ho.core;have HSW:=Vh (show 0≤k.saw∧k.saw<18446744073709551616 from ⟨ho.saw.1,ho.saw.2.1⟩);have HTR:=Vh (show x.tr.length≤1000000 from ho.core.tr);have HS0:=Vh (show 0≤k.t.slot from hs0);have HN:=Vh (And.intro hn0 hn1);have hg0:0≤k.t.gen:=ho.t.gen.1;have hg1:k.t.gen≤4294967296:=ho.t.gen.2;cases hc:((x.slab.try k.t.slot k.saw 5).2.2 == 0) with
 | false =>
   rw [show runT (.rearm1 next) ⟨k,x,ws,p⟩=(.at none .behind,⟨k,{ x with slab:=(x.slab.try k.t.slot k.saw 5).1 },ws,p⟩) by simp [runT,Q3,hc]];unfold MRT;clear ho hh hs0 hn0 hn1 hg0 hg1;obtain ⟨gd,gC,gW,gP,hd,hx,hw,hpp,rfl,rfl⟩:=hz;refine GO fun w HT=>?_
   have HT:=Vh (HT.out.sum (H':=[Qi kb L.fb pv (Qw L k) k,gd,e.1,gC,gW,gP]));have HX:=Vh hx;have HD:=Vh hd;have HW:=Vh hw;have HPP:=Vh hpp;clear hx hd hw hpp;have hlk:=qi (kb:=kb) (pv:=pv) (sv:=Qw L k) HX.out HO.out HSW.out 5;rw [hc] at hlk;have HLK:=Vh hlk;clear hlk hc;go_enter func303,ntmps303
   go_wp2_with fail
   refine (Qa.use (HLK.out) (HT.out.alloc (k:=w.heap.size) rfl _ _) [0,3] rfl rfl).mono ?_
   rintro e w1 ⟨gs,⟨rfl,g1,hx1,rfl⟩,Ta⟩;simp only [PU] at Ta;have HX:=Vh hx1;clear hx1;have HT:=Vh Ta;clear Ta;go_wp2_with fail
   refine Qa.run (qkg _ _ _) (HT.out) [] ?_
   rintro e w1 gs ⟨rfl,rfl⟩ HT;simp only [PU] at HT;obtain ⟨r0,r1⟩:=Ce2 (HT.out.cell 6 0 rfl) 0 1;obtain ⟨fr0,fr1⟩:=Ce2 (HT.out.free 6 0 rfl) 0 1;simp only [GE4] at r0 r1;go_wp2
   exact bodyPost_ret (v:=.agg #[_,_]) (by simp [results,results303,go_sem,r0,r1]) rfl ⟨_,⟨e,leT.refl e,_,_,[],_,_,rfl,⟨rfl,rfl,rfl⟩,⟨gd,_,_,gP,HD.out,HX.out,HW.out,HPP.out,(rfl:Qi kb L.fb pv (Qw L k) k++(gd++e.1)=_),rfl⟩,rfl⟩,(((HT.out.set 6 0 rfl 0 _).set 6 0 rfl 1 _).pick [0,1,2,3,4,5] rfl).sum2⟩
 | true =>
   obtain ⟨gd,gC,gW,gP,hd,hx,hw,hpp,hgK,hgF⟩:=hz;obtain ⟨i,q,s,S,hki,hq,hs,hS,hsv,hsh,hss,hwh,hwo,hrb,ht0,ht1⟩:=zm hx hw ho hh
   have hz2:runT (.rearm1 next) ⟨k,x,ws,p⟩=(.nil,⟨{ k with t:={ k.t with gen:=k.t.gen+1,dl:=next } },{ x with slab:=(x.slab.try k.t.slot k.saw 5).1,tr:=x.tr++[evT k { ev0 with kind:=4,id:=k.t.id,gen:=k.t.gen+1,dl:=qdn S { k.t with gen:=k.t.gen+1,dl:=next } }] },ws.set i (S.place (qmd S { k.t with gen:=k.t.gen+1,dl:=next })),p⟩):=by
    have h1:(Q3 5 ⟨k,x,ws,p⟩).2=true:=hc;simp only [runT,h1,if_pos,qky,Q3,ZT.note];rw [show ZT.sh ⟨{ k with t:={ k.t with gen:=k.t.gen+1,dl:=next } },{ x with slab:=(x.slab.try k.t.slot k.saw 5).1 },ws,p⟩=i from hsh,show ZT.wh ⟨{ k with t:={ k.t with gen:=k.t.gen+1,dl:=next } },{ x with slab:=(x.slab.try k.t.slot k.saw 5).1 },ws,p⟩=S from hwh];exact if_pos h1
   rw [hz2];have hz:Y0 L kb pv e ⟨k,x,ws,p⟩ gK gF:=⟨gd,gC,gW,gP,hd,hx,hw,hpp,hgK,hgF⟩;clear hx hw hd hpp hgK hgF;have har:∀ gC gW,Qf L { x with slab:=(x.slab.try k.t.slot k.saw 5).1 } gC→Z8 L ws gW→_:=fun gC gW hx hw=>qrr (kb:=kb) (pv:=pv) (k:={ k with t:={ k.t with gen:=k.t.gen+1,dl:=next } }) hx hw hq hs hS hwo HS0.out HN.out HTR.out
   have HSV:=Vh hsv;clear ho hh hs0 hz2 hki hq hs hS hsv hsh hss hwh hwo hrb ht0 ht1;unfold MRT;obtain ⟨gd,gC,gW,gP,hd,hx,hw,hpp,rfl,rfl⟩:=hz;refine GO fun w HT=>?_
   have HT:=Vh (HT.out.sum (H':=[Qi kb L.fb pv (Qw L k) k,gd,e.1,gC,gW,gP]));have HX:=Vh hx;have HD:=Vh hd;have HW:=Vh hw;have HPP:=Vh hpp;clear hx hd hw hpp;have HAR:=Vh har;have hlk:=qi (kb:=kb) (pv:=pv) (sv:=Qw L k) HX.out HO.out HSW.out 5;rw [hc] at hlk;rw [HSV.out] at hlk;have HTo:=HT.out;rw [HSV.out] at HTo;have HT:=Vh HTo;have HLK:=Vh hlk;clear hlk hc har HTo;generalize (x.slab.try k.t.slot k.saw 5).1=sl at *;generalize S.place (qmd S { k.t with gen:=k.t.gen+1,dl:=next })=S1 at *;generalize qdn S { k.t with gen:=k.t.gen+1,dl:=next }=dl1 at *;go_enter func303,ntmps303
   go_wp2_with fail
   refine (Qa.use (HLK.out) (HT.out.alloc (k:=w.heap.size) rfl _ _) [0,3] rfl rfl).mono ?_
   rintro e w1 ⟨gs,⟨rfl,g1,hx1,rfl⟩,Ta⟩;simp only [PU] at Ta;have HX:=Vh hx1;clear hx1;have HT:=Vh Ta;clear Ta;obtain ⟨k13,k14⟩:=Ce2 (HT.out.cell 0 0 rfl) 13 14;obtain ⟨fk13,fk14⟩:=Ce2 (HT.out.free 0 0 rfl) 13 14;simp only [Q9,GE3] at k13 k14;go_wp2_with fail
   refine (Qa.use (HAR.out _ _ HX.out HW.out) (((HT.out.set 0 0 rfl 13 (.int .u64 (k.t.gen+1))).set 0 0 rfl 14 (.int .u64 next)).eq (H':=[Qi kb L.fb pv (Qb q.b) { k with t:={ k.t with gen:=k.t.gen+1,dl:=next } },gd,e.1,g1,gW,gP,[cl w.heap.size 180 #[.nilFunc,.nilFunc]]]) rfl) [0,3,4] rfl rfl).mono ?_
   rintro e w1 ⟨gs,⟨rfl,g2,gW2,hx2,hw2,rfl⟩,Ta⟩;simp only [PU] at Ta;have HX:=Vh hx2;have HW:=Vh hw2;clear hx2 hw2 k13 k14 fk13 fk14;have HT:=Vh Ta;clear Ta;obtain ⟨r0,r1⟩:=Ce2 (HT.out.cell 6 0 rfl) 0 1;obtain ⟨fr0,fr1⟩:=Ce2 (HT.out.free 6 0 rfl) 0 1;simp only [GE4] at r0 r1;go_wp2
   have HF:=(((HT.out.set 6 0 rfl 0 .nilFunc).set 6 0 rfl 1 .nilFunc).pick [0,1,2,3,4,5] rfl);rw [← HSV.out] at HF;exact bodyPost_ret (v:=.agg #[_,_]) (by simp [results,results303,go_sem,r0,r1]) rfl ⟨_,⟨e,leT.refl e,_,_,[],_,_,rfl,⟨rfl,rfl,rfl⟩,⟨gd,_,_,gP,HD.out,HX.out,HW.out,HPP.out,(rfl:Qi kb L.fb pv (Qw L k) { k with t:={ k.t with gen:=k.t.gen+1,dl:=next } }++(gd++e.1)=_),rfl⟩,rfl⟩,HF.sum2⟩
theorem qx0 (next:Int) (hz:Y0 L kb pv e ⟨k,x,ws,p⟩ gK gF) (hp:qe0 (.rearm1 next) ⟨k,x,ws,p⟩) (bk bn:Nat) (hb:zx kb bk e) (hbn:cl bn 30 #[.int .u64 next]∈e.1) :
 Qa prog 302 #[Qb bk,Qb bn] [gK,gF] (MRT L kb pv e (runT (.rearm1 next) ⟨k,x,ws,p⟩).1 (runT (.rearm1 next) ⟨k,x,ws,p⟩).2):=by
 have hre:=qys next hz hp;generalize (runT (.rearm1 next) ⟨k,x,ws,p⟩).1=st at *;generalize (runT (.rearm1 next) ⟨k,x,ws,p⟩).2=z2 at *;obtain ⟨gd,gC,gW,gP,hd,hx,hw,hpp,rfl,rfl⟩:=hz;clear hd hx hw hpp hp;unfold MRT at *;refine GO fun w HT=>?_
 have HRE:=Vh hre;have h1:∀ b,b∈e.1→b∈Qi kb L.fb pv (Qw L k) k++(gd++e.1):=fun b hb=>List.mem_append_right _ (List.mem_append_right _ hb)
 have b0:=HT.out.mem_cell 0 (h1 _ hb) 0;have n0:=HT.out.mem_cell 0 (h1 _ hbn) 0;have ltb:=HT.out.mem_lt 0 (h1 _ hb);have ltn:=HT.out.mem_lt 0 (h1 _ hbn);simp only [GE2] at b0 ltb n0 ltn;clear hre h1 hb hbn;go_enter func302,ntmps302
 go_wp2_with fail
 refine (Qa.use (HRE.out) (HT.out.alloc (k:=w.heap.size) rfl _ _) [0,1] rfl rfl).mono ?_
 rintro e w1 ⟨gs,⟨e2,hl2,m3,d3,g3,gK3,gF3,rfl,hs3,hz3,rfl⟩,Ta⟩;simp only [PU] at Ta;have HL2:=Vh hl2;have HZ3:=Vh hz3;clear hl2 hz3 b0 n0 ltb ltn;have HT:=Vh Ta;clear Ta;obtain ⟨r0,r1⟩:=Ce2 (HT.out.cell 2 0 rfl) 0 1;obtain ⟨fr0,fr1⟩:=Ce2 (HT.out.free 2 0 rfl) 0 1;simp only [GE4] at r0 r1;have hv2:=(Qx L kb pv e2).vals hs3;obtain ⟨st1,st2⟩:=Cli.store_fv2 (P:=prog) hv2.1 hv2.2 r0 fr0 r1 fr1;have HS:=Vh hs3;clear hv2 hs3;go_wp2
 exact bodyPost_ret (v:=.agg #[_,_]) (by simp [results,results302,go_sem,r0,r1]) rfl ⟨_,⟨e2,HL2.out,m3,d3,g3,gK3,gF3,rfl,HS.out,HZ3.out,rfl⟩,((HT.out.set 2 0 rfl 0 _).set 2 0 rfl 1 _).pick [0,1,3] rfl⟩
end
section
variable {L:Lay} {x:Qj} {ws:List Qg} {p:Qy} {e:ET} {g gC gK gF:List Blk} {kb:Nat} {pv sv:Value} {k:Xf}
theorem qr7 (hz:Y0 L kb pv e ⟨k,x,ws,p⟩ gK gF) (hp:qe0 .finishes ⟨k,x,ws,p⟩) :
 Qa prog 304 #[Qb kb] [gK,gF] (MRT L kb pv e (runT .finishes ⟨k,x,ws,p⟩).1 (runT .finishes ⟨k,x,ws,p⟩).2):=by
 obtain ⟨ho,_⟩:=hp;have HO:=Vh ho.core;have HSW:=Vh (show 0≤k.saw∧k.saw<18446744073709551616 from ⟨ho.saw.1,ho.saw.2.1⟩);have HTR:=Vh (show x.tr.length≤1000000 from ho.core.tr);have HPE:=Vh (show 0≤k.t.per∧k.t.per<18446744073709551616 from ho.t.per);clear ho;cases hc:((x.slab.try k.t.slot k.saw 9).2.2 == 0) with
 | false =>
   rw [show runT .finishes ⟨k,x,ws,p⟩=(.at none .behind,⟨k,{ x with slab:=(x.slab.try k.t.slot k.saw 9).1 },ws,p⟩) by simp [runT,Q3,hc]];unfold MRT;obtain ⟨gd,gC,gW,gP,hd,hx,hw,hpp,rfl,rfl⟩:=hz;refine GO fun w HT=>?_
   have HT:=Vh (HT.out.sum (H':=[Qi kb L.fb pv (Qw L k) k,gd,e.1,gC,gW,gP]));have HX:=Vh hx;have HD:=Vh hd;have HW:=Vh hw;have HPP:=Vh hpp;clear hx hd hw hpp;have hlk:=qi (kb:=kb) (pv:=pv) (sv:=Qw L k) HX.out HO.out HSW.out 9;rw [hc] at hlk;have HLK:=Vh hlk;clear hlk hc;generalize (x.slab.try k.t.slot k.saw 9).1=sl at *;go_enter func304,ntmps304
   go_wp2_with fail
   refine (Qa.use (HLK.out) ((HT.out.alloc (k:=w.heap.size) rfl 129 #[Qb kb]).alloc (k:=w.heap.size+1) (by simp) 180 #[.nilFunc,.nilFunc]) [0,3] rfl rfl).mono ?_
   rintro e w1 ⟨gs,⟨rfl,g1,hx1,rfl⟩,Ta⟩;simp only [PU] at Ta;have HX:=Vh hx1;clear hx1;have HT:=Vh Ta;clear Ta;have b0:=HT.out.cell 6 0 rfl 0;simp only [GE4] at b0;go_wp2_with fail
   refine Qa.run (qkg _ _ _) (HT.out) [] ?_
   rintro e w1 gs ⟨rfl,rfl⟩ HT;simp only [PU] at HT;obtain ⟨r0,r1⟩:=Ce2 (HT.out.cell 7 0 rfl) 0 1;obtain ⟨fr0,fr1⟩:=Ce2 (HT.out.free 7 0 rfl) 0 1;simp only [GE4] at r0 r1;go_wp2
   exact bodyPost_ret (v:=.agg #[_,_]) (by simp [results,results304,go_sem,r0,r1]) rfl ⟨_,⟨e,leT.refl e,_,_,[],_,_,rfl,⟨rfl,rfl,rfl⟩,⟨gd,_,_,gP,HD.out,HX.out,HW.out,HPP.out,(rfl:Qi kb L.fb pv (Qw L k) k++(gd++e.1)=_),rfl⟩,rfl⟩,(((HT.out.set 7 0 rfl 0 _).set 7 0 rfl 1 _).pick [0,1,2,3,4,5] rfl).sum2⟩
 | true =>
   have hz2:runT .finishes ⟨k,x,ws,p⟩=(.row2 .rel .drop,if 0<k.t.per∧Jd k.saw=false then ⟨k,{ x with slab:=(x.slab.try k.t.slot k.saw 9).1,tr:=x.tr++[evT k { ev0 with kind:=14,id:=k.t.id,gen:=k.t.gen }] },ws,p⟩ else ⟨k,{ x with slab:=(x.slab.try k.t.slot k.saw 9).1 },ws,p⟩):=by
    have h1:(Q3 9 ⟨k,x,ws,p⟩).2=true:=hc;simp only [runT,Q3,ZT.note];exact if_pos h1
   rw [hz2];clear hz2;have HLS:=Vh (q1o k.saw HSW.out.1 HSW.out.2);have HNT:=Vh (show ∀ g,Qf L { x with slab:=(x.slab.try k.t.slot k.saw 9).1 } g→_ from fun g hg=>za (kb:=kb) (pv:=pv) (sv:=Qw L k) (k:=k) (gC:=g) hg { ev0 with kind:=14,id:=k.t.id,gen:=k.t.gen } HTR.out);by_cases hper:0<k.t.per
   ·cases hl:Jd k.saw with
    | false =>
      rw [if_pos ⟨hper,rfl⟩];rw [hl] at HLS;clear hl HPE;unfold MRT;obtain ⟨gd,gC,gW,gP,hd,hx,hw,hpp,rfl,rfl⟩:=hz;refine GO fun w HT=>?_
      have HT:=Vh (HT.out.sum (H':=[Qi kb L.fb pv (Qw L k) k,gd,e.1,gC,gW,gP]));have HX:=Vh hx;have HD:=Vh hd;have HW:=Vh hw;have HPP:=Vh hpp;clear hx hd hw hpp;have hlk:=qi (kb:=kb) (pv:=pv) (sv:=Qw L k) HX.out HO.out HSW.out 9;rw [hc] at hlk;have HLK:=Vh hlk;clear hlk hc;generalize (x.slab.try k.t.slot k.saw 9).1=sl at *;go_enter func304,ntmps304
      go_wp2_with fail
      refine (Qa.use (HLK.out) ((HT.out.alloc (k:=w.heap.size) rfl 129 #[Qb kb]).alloc (k:=w.heap.size+1) (by simp) 180 #[.nilFunc,.nilFunc]) [0,3] rfl rfl).mono ?_
      rintro e w1 ⟨gs,⟨rfl,g1,hx1,rfl⟩,Ta⟩;simp only [PU] at Ta;have HX:=Vh hx1;clear hx1;have HT:=Vh Ta;clear Ta;have b0:=HT.out.cell 6 0 rfl 0;simp only [GE4] at b0;obtain ⟨k15,k16⟩:=Ce2 (HT.out.cell 0 0 rfl) 15 16;simp only [Q9,GE3] at k15 k16;go_wp2_with fail
      refine (Qe.use (HLS.out) (HT.out) [] rfl rfl).mono ?_
      rintro e w1 ⟨rfl,mq,rfl⟩;have HT:=Vh (HT.out.drewN mq);generalize World.drewN _ _=wq at HT ⊢;clear b0 k15 k16 hper;have b0:=HT.out.cell 6 0 rfl 0;simp only [GE4] at b0;obtain ⟨k11,k13⟩:=Ce2 (HT.out.cell 0 0 rfl) 11 13;simp only [Q9,GE3] at k11 k13;go_wp2_with fail
      refine Qc 12 (by kernel_rfl) (by kernel_rfl) ?_
      simp only [TD4]
      repeat (go_big_quiet_step ((fail)))
      refine wpQuiet_nil (QE fun nq=>?_)
      have HT:=Vh (HT.out.drewN nq);have hnt:=HNT.out _ HX.out;simp only [EvS.cells,ev0] at hnt;go_wp2_with fail
      refine (Qa.use (hnt) (HT.out) [0,3] rfl rfl).mono ?_
      rintro e w1 ⟨gs,⟨rfl,g2,hx2,rfl⟩,Ta⟩;simp only [PU] at Ta;have HX:=Vh hx2;clear hx2 b0 k11 k13;have HT:=Vh Ta;clear Ta;go_wp2_with fail
      refine ⟨rfl,?_⟩
      obtain ⟨wz,rfl⟩:∃ wz,wz=w1:=⟨_,rfl⟩;go_wp2_with fail
      refine Qa.run (Cli.row_1 (b:=wz.heap.size) (o:=0) (D:=#[.func (.func 307) #[] #[Qb w.heap.size],.func (.func 308) #[] #[Qb w.heap.size]]) rfl 2 (.inr rfl)) (HT.out.alloc (k:=wz.heap.size) rfl _ _) [8] ?_
      rintro e w1 gs ⟨bf,bl,bi,rfl,rfl⟩ HT;simp only [PU] at HT;obtain ⟨r0,r1⟩:=Ce2 (HT.out.cell 7 0 rfl) 0 1;obtain ⟨fr0,fr1⟩:=Ce2 (HT.out.free 7 0 rfl) 0 1;simp only [GE4] at r0 r1;go_wp2
      exact bodyPost_ret (v:=.agg #[.nilFunc,_]) (by simp [results,results304,go_sem,r0,r1]) rfl ⟨_,⟨(e.1++[cl w.heap.size 129 #[Qb kb]],e.2),leT.app e _,_,_,_,_,_,rfl,⟨rfl,bf,bl,bi,wz.heap.size,.func (.func 307) #[] #[Qb w.heap.size],.func (.func 308) #[] #[Qb w.heap.size],[],[],rfl,⟨rfl,w.heap.size,rfl,List.mem_append_right _ (List.mem_cons_self ..)⟩,⟨rfl,w.heap.size,rfl,List.mem_append_right _ (List.mem_cons_self ..)⟩,rfl⟩,⟨gd,_,_,gP,HD.out,HX.out,HW.out,HPP.out,(rfl:Qi kb L.fb pv (Qw L k) k++(gd++(e.1++[cl w.heap.size 129 #[Qb kb]]))=_),rfl⟩,rfl⟩,(((HT.out.set 7 0 rfl 0 _).set 7 0 rfl 1 _).pick [9,10,11,8,0,1,2,6,3,4,5] rfl).sum2⟩
    | true =>
      rw [if_neg (by simp)];rw [hl] at HLS;clear hl HPE HNT;unfold MRT;obtain ⟨gd,gC,gW,gP,hd,hx,hw,hpp,rfl,rfl⟩:=hz;refine GO fun w HT=>?_
      have HT:=Vh (HT.out.sum (H':=[Qi kb L.fb pv (Qw L k) k,gd,e.1,gC,gW,gP]));have HX:=Vh hx;have HD:=Vh hd;have HW:=Vh hw;have HPP:=Vh hpp;clear hx hd hw hpp;have hlk:=qi (kb:=kb) (pv:=pv) (sv:=Qw L k) HX.out HO.out HSW.out 9;rw [hc] at hlk;have HLK:=Vh hlk;clear hlk hc;generalize (x.slab.try k.t.slot k.saw 9).1=sl at *;go_enter func304,ntmps304
      go_wp2_with fail
      refine (Qa.use (HLK.out) ((HT.out.alloc (k:=w.heap.size) rfl 129 #[Qb kb]).alloc (k:=w.heap.size+1) (by simp) 180 #[.nilFunc,.nilFunc]) [0,3] rfl rfl).mono ?_
      rintro e w1 ⟨gs,⟨rfl,g1,hx1,rfl⟩,Ta⟩;simp only [PU] at Ta;have HX:=Vh hx1;clear hx1;have HT:=Vh Ta;clear Ta;have b0:=HT.out.cell 6 0 rfl 0;simp only [GE4] at b0;obtain ⟨k15,k16⟩:=Ce2 (HT.out.cell 0 0 rfl) 15 16;simp only [Q9,GE3] at k15 k16;go_wp2_with fail
      refine (Qe.use (HLS.out) (HT.out) [] rfl rfl).mono ?_
      rintro e w1 ⟨rfl,mq,rfl⟩;have HT:=Vh (HT.out.drewN mq);generalize World.drewN _ _=wq at HT ⊢;clear b0 k15 k16 hper;go_wp2_with fail
      refine Qa.run (Cli.row_1 (b:=wq.heap.size) (o:=0) (D:=#[.func (.func 307) #[] #[Qb w.heap.size],.func (.func 308) #[] #[Qb w.heap.size]]) rfl 2 (.inr rfl)) (HT.out.alloc (k:=wq.heap.size) rfl _ _) [8] ?_
      rintro e w1 gs ⟨bf,bl,bi,rfl,rfl⟩ HT;simp only [PU] at HT;obtain ⟨r0,r1⟩:=Ce2 (HT.out.cell 7 0 rfl) 0 1;obtain ⟨fr0,fr1⟩:=Ce2 (HT.out.free 7 0 rfl) 0 1;simp only [GE4] at r0 r1;go_wp2
      exact bodyPost_ret (v:=.agg #[.nilFunc,_]) (by simp [results,results304,go_sem,r0,r1]) rfl ⟨_,⟨(e.1++[cl w.heap.size 129 #[Qb kb]],e.2),leT.app e _,_,_,_,_,_,rfl,⟨rfl,bf,bl,bi,wq.heap.size,.func (.func 307) #[] #[Qb w.heap.size],.func (.func 308) #[] #[Qb w.heap.size],[],[],rfl,⟨rfl,w.heap.size,rfl,List.mem_append_right _ (List.mem_cons_self ..)⟩,⟨rfl,w.heap.size,rfl,List.mem_append_right _ (List.mem_cons_self ..)⟩,rfl⟩,⟨gd,_,_,gP,HD.out,HX.out,HW.out,HPP.out,(rfl:Qi kb L.fb pv (Qw L k) k++(gd++(e.1++[cl w.heap.size 129 #[Qb kb]]))=_),rfl⟩,rfl⟩,(((HT.out.set 7 0 rfl 0 _).set 7 0 rfl 1 _).pick [9,10,11,8,0,1,2,6,3,4,5] rfl).sum2⟩
   ·rw [if_neg (fun h=>hper h.1)]
    have hper0:k.t.per=0:=by have:=HPE.out.1;omega
    clear HPE HNT HLS;unfold MRT;obtain ⟨gd,gC,gW,gP,hd,hx,hw,hpp,rfl,rfl⟩:=hz;refine GO fun w HT=>?_
    have HT:=Vh (HT.out.sum (H':=[Qi kb L.fb pv (Qw L k) k,gd,e.1,gC,gW,gP]));have HX:=Vh hx;have HD:=Vh hd;have HW:=Vh hw;have HPP:=Vh hpp;clear hx hd hw hpp;have hlk:=qi (kb:=kb) (pv:=pv) (sv:=Qw L k) HX.out HO.out HSW.out 9;rw [hc] at hlk;have HLK:=Vh hlk;clear hlk hc;generalize (x.slab.try k.t.slot k.saw 9).1=sl at *;go_enter func304,ntmps304
    go_wp2_with fail
    refine (Qa.use (HLK.out) ((HT.out.alloc (k:=w.heap.size) rfl 129 #[Qb kb]).alloc (k:=w.heap.size+1) (by simp) 180 #[.nilFunc,.nilFunc]) [0,3] rfl rfl).mono ?_
    rintro e w1 ⟨gs,⟨rfl,g1,hx1,rfl⟩,Ta⟩;simp only [PU] at Ta;have HX:=Vh hx1;clear hx1;have HT:=Vh Ta;clear Ta;have b0:=HT.out.cell 6 0 rfl 0;simp only [GE4] at b0;have k15:=HT.out.cell 0 0 rfl 15;simp only [Q9,GE3] at k15;rw [hper0] at k15;clear hper hper0;obtain ⟨wz,rfl⟩:∃ wz,wz=w1:=⟨_,rfl⟩;go_wp2_with fail
    refine Qa.run (Cli.row_1 (b:=wz.heap.size) (o:=0) (D:=#[.func (.func 307) #[] #[Qb w.heap.size],.func (.func 308) #[] #[Qb w.heap.size]]) rfl 2 (.inr rfl)) (HT.out.alloc (k:=wz.heap.size) rfl _ _) [8] ?_
    rintro e w1 gs ⟨bf,bl,bi,rfl,rfl⟩ HT;simp only [PU] at HT;obtain ⟨r0,r1⟩:=Ce2 (HT.out.cell 7 0 rfl) 0 1;obtain ⟨fr0,fr1⟩:=Ce2 (HT.out.free 7 0 rfl) 0 1;simp only [GE4] at r0 r1;go_wp2
    exact bodyPost_ret (v:=.agg #[.nilFunc,_]) (by simp [results,results304,go_sem,r0,r1]) rfl ⟨_,⟨(e.1++[cl w.heap.size 129 #[Qb kb]],e.2),leT.app e _,_,_,_,_,_,rfl,⟨rfl,bf,bl,bi,wz.heap.size,.func (.func 307) #[] #[Qb w.heap.size],.func (.func 308) #[] #[Qb w.heap.size],[],[],rfl,⟨rfl,w.heap.size,rfl,List.mem_append_right _ (List.mem_cons_self ..)⟩,⟨rfl,w.heap.size,rfl,List.mem_append_right _ (List.mem_cons_self ..)⟩,rfl⟩,⟨gd,_,_,gP,HD.out,HX.out,HW.out,HPP.out,(rfl:Qi kb L.fb pv (Qw L k) k++(gd++(e.1++[cl w.heap.size 129 #[Qb kb]]))=_),rfl⟩,rfl⟩,(((HT.out.set 7 0 rfl 0 _).set 7 0 rfl 1 _).pick [9,10,11,8,0,1,2,6,3,4,5] rfl).sum2⟩
end
section
variable {L:Lay} {x:Qj} {ws:List Qg} {p:Qy} {e:ET} {g gC gK gF:List Blk} {kb:Nat} {pv sv:Value} {k:Xf}
theorem qx9 (hz:Y0 L kb pv e ⟨k,x,ws,p⟩ gK gF) (hp:qe0 .claims ⟨k,x,ws,p⟩) :
 Qa prog 276 #[Qb kb] [gK,gF] (MRT L kb pv e (runT .claims ⟨k,x,ws,p⟩).1 (runT .claims ⟨k,x,ws,p⟩).2):=by
 obtain ⟨ho,_⟩:=hp;have HO:=Vh ho.core;have HSW:=Vh (show 0≤k.saw∧k.saw<18446744073709551616 from ⟨ho.saw.1,ho.saw.2.1⟩);have HTR:=Vh (show x.tr.length≤1000000 from ho.core.tr);clear ho;cases hc:((x.slab.try k.t.slot k.saw 4).2.2 == 0) with
 | false =>
   rw [show runT .claims ⟨k,x,ws,p⟩=(.at none .looks,⟨k,{ x with slab:=(x.slab.try k.t.slot k.saw 4).1 },ws,p⟩) by simp [runT,Q3,hc]];unfold MRT;obtain ⟨gd,gC,gW,gP,hd,hx,hw,hpp,rfl,rfl⟩:=hz;refine GO fun w HT=>?_
   have HT:=Vh (HT.out.sum (H':=[Qi kb L.fb pv (Qw L k) k,gd,e.1,gC,gW,gP]));have HX:=Vh hx;have HD:=Vh hd;have HW:=Vh hw;have HPP:=Vh hpp;clear hx hd hw hpp;have hlk:=qi (kb:=kb) (pv:=pv) (sv:=Qw L k) HX.out HO.out HSW.out 4;rw [hc] at hlk;have HLK:=Vh hlk;clear hlk hc;generalize (x.slab.try k.t.slot k.saw 4).1=sl at *;go_enter func276,ntmps276
   go_wp2_with fail
   refine (Qa.use (HLK.out) ((HT.out.alloc (k:=w.heap.size) rfl 129 #[Qb kb]).alloc (k:=w.heap.size+1) (by simp) 180 #[.nilFunc,.nilFunc]) [0,3] rfl rfl).mono ?_
   rintro e w1 ⟨gs,⟨rfl,g1,hx1,rfl⟩,Ta⟩;simp only [PU] at Ta;have HX:=Vh hx1;clear hx1;have HT:=Vh Ta;clear Ta;have b0:=HT.out.cell 6 0 rfl 0;simp only [GE4] at b0;go_wp2_with fail
   refine Qa.run (qkg _ _ _) (HT.out) [] ?_
   rintro e w1 gs ⟨rfl,rfl⟩ HT;simp only [PU] at HT;obtain ⟨r0,r1⟩:=Ce2 (HT.out.cell 7 0 rfl) 0 1;obtain ⟨fr0,fr1⟩:=Ce2 (HT.out.free 7 0 rfl) 0 1;simp only [GE4] at r0 r1;go_wp2
   exact bodyPost_ret (v:=.agg #[_,_]) (by simp [results,results276,go_sem,r0,r1]) rfl ⟨_,⟨e,leT.refl e,_,_,[],_,_,rfl,⟨rfl,rfl,rfl⟩,⟨gd,_,_,gP,HD.out,HX.out,HW.out,HPP.out,(rfl:Qi kb L.fb pv (Qw L k) k++(gd++e.1)=_),rfl⟩,rfl⟩,(((HT.out.set 7 0 rfl 0 _).set 7 0 rfl 1 _).pick [0,1,2,3,4,5] rfl).sum2⟩
 | true =>
   rw [show runT .claims ⟨k,x,ws,p⟩=(.thn (.row1 (.put ⟨k.t.id,k.t.gen,k.t.dl,k.now⟩)) .claims2,⟨k,{ x with slab:=(x.slab.try k.t.slot k.saw 4).1,tr:=x.tr++[evT k { ev0 with kind:=5,id:=k.t.id,gen:=k.t.gen,dl:=k.t.dl,tick:=k.now }] },ws,p⟩) from if_pos hc];have HNT:=Vh (show ∀ g,Qf L { x with slab:=(x.slab.try k.t.slot k.saw 4).1 } g→_ from fun g hg=>za (kb:=kb) (pv:=pv) (sv:=Qw L k) (k:=k) (gC:=g) hg { ev0 with kind:=5,id:=k.t.id,gen:=k.t.gen,dl:=k.t.dl,tick:=k.now } HTR.out);unfold MRT;obtain ⟨gd,gC,gW,gP,hd,hx,hw,hpp,rfl,rfl⟩:=hz;refine GO fun w HT=>?_
   have HT:=Vh (HT.out.sum (H':=[Qi kb L.fb pv (Qw L k) k,gd,e.1,gC,gW,gP]));have HX:=Vh hx;have HD:=Vh hd;have HW:=Vh hw;have HPP:=Vh hpp;clear hx hd hw hpp;have hlk:=qi (kb:=kb) (pv:=pv) (sv:=Qw L k) HX.out HO.out HSW.out 4;rw [hc] at hlk;have HLK:=Vh hlk;clear hlk hc;generalize (x.slab.try k.t.slot k.saw 4).1=sl at *;go_enter func276,ntmps276
   go_wp2_with fail
   refine (Qa.use (HLK.out) ((HT.out.alloc (k:=w.heap.size) rfl 129 #[Qb kb]).alloc (k:=w.heap.size+1) (by simp) 180 #[.nilFunc,.nilFunc]) [0,3] rfl rfl).mono ?_
   rintro e w1 ⟨gs,⟨rfl,g1,hx1,rfl⟩,Ta⟩;simp only [PU] at Ta;have HX:=Vh hx1;clear hx1;have HT:=Vh Ta;clear Ta;have b0:=HT.out.cell 6 0 rfl 0;simp only [GE4] at b0;obtain ⟨k9,k11,k13,k14⟩:=Ce4 (HT.out.cell 0 0 rfl) 9 11 13 14;simp only [Q9,GE3] at k9 k11 k13 k14;have ltb:=HT.out.lt 6 0 rfl;have ltk:=HT.out.lt 0 0 rfl;simp only [] at ltb ltk;obtain ⟨wz,rfl⟩:∃ wz,wz=w1:=⟨_,rfl⟩;go_wp2_with fail
   clear HO HSW HTR;generalize w.heap.size=bb at *;have hnt:=HNT.out _ HX.out;simp only [EvS.cells,ev0] at hnt;have HNT:=Vh hnt;clear hnt
   go_region_held3 (fun w'=>w'.cell? ⟨bb,0,none⟩=some (Qb kb)∧w'.cell? ⟨kb,9,none⟩=some (.int .u64 k.now)∧w'.cell? ⟨kb,11,none⟩=some (.int .u64 k.t.id)∧w'.cell? ⟨kb,13,none⟩=some (.int .u64 k.t.gen)∧w'.cell? ⟨kb,14,none⟩=some (.int .u64 k.t.dl))
    (first
    | exact ⟨b0,k9,k11,k13,k14⟩
    | exact ⟨(HT.out.drew.alloc (k:=wz.heap.size) rfl 82 #[.int .u64 0,.int .u64 0,.int .u64 0,.int .u64 0]).cell 6 0 rfl 0,(HT.out.drew.alloc (k:=wz.heap.size) rfl 82 #[.int .u64 0,.int .u64 0,.int .u64 0,.int .u64 0]).cell 0 0 rfl 9,(HT.out.drew.alloc (k:=wz.heap.size) rfl 82 #[.int .u64 0,.int .u64 0,.int .u64 0,.int .u64 0]).cell 0 0 rfl 11,(HT.out.drew.alloc (k:=wz.heap.size) rfl 82 #[.int .u64 0,.int .u64 0,.int .u64 0,.int .u64 0]).cell 0 0 rfl 13,(HT.out.drew.alloc (k:=wz.heap.size) rfl 82 #[.int .u64 0,.int .u64 0,.int .u64 0,.int .u64 0]).cell 0 0 rfl 14⟩
    | (refine ⟨?_,?_,?_,?_,?_⟩ <;> simp [go_sem,b0,k9,k11,k13,k14,ltb,ltk,Nat.ne_of_lt ltb,Nat.ne_of_lt ltk,Nat.ne_of_gt ltb,Nat.ne_of_gt ltk]))
    (fail)
   have HT:=Vh (HT.out.alloc (k:=wz.heap.size) rfl 82 #[.int .u64 k.t.id,.int .u64 k.t.gen,.int .u64 k.t.dl,.int .u64 k.now]).drew;generalize World.drew (World.alloc wz _)=w2 at HT ⊢;generalize wz.heap.size=fb at HT ⊢;clear b0 k9 k11 k13 k14 ltb ltk;have b0:=HT.out.cell 6 0 rfl 0;simp only [GE4] at b0;obtain ⟨f0,f1,f2,f3⟩:=Ce4 (HT.out.cell 8 0 rfl) 0 1 2 3;simp only [GE4] at f0 f1 f2 f3;go_wp2_with fail
   refine (Qa.use (HNT.out) (HT.out) [0,3] rfl rfl).mono ?_
   rintro e w1 ⟨gs,⟨rfl,g2,hx2,rfl⟩,Ta⟩;simp only [PU] at Ta;have HX:=Vh hx2;clear hx2 b0 f0 f1 f2 f3;have HT:=Vh Ta;clear Ta;obtain ⟨wy,rfl⟩:∃ wy,wy=w1:=⟨_,rfl⟩;go_wp2_with fail
   refine Qa.run (Cli.row_1 (b:=wy.heap.size) (o:=0) (D:=#[.func (.func 287) #[] #[Qb bb,Qb fb]]) rfl 1 (.inl rfl)) (HT.out.alloc (k:=wy.heap.size) rfl _ _) [9] ?_
   rintro e w1 gs ⟨bf,bl,bi,rfl,rfl⟩ HT;simp only [PU] at HT;generalize wy.heap.size=sb at *
   have hsv:(qh8 L kb pv).SV (e.1++[cl bb 129 #[Qb kb],cl fb 82 #[.int .u64 k.t.id,.int .u64 k.t.gen,.int .u64 k.t.dl,.int .u64 k.now]],e.2) (.row1 (.put ⟨k.t.id,k.t.gen,k.t.dl,k.now⟩)) .nilFunc (.func (.func 166) #[] #[Qb bf,Qb bl,Qb bi]) ([cl bf 1 #[.func (.func 287) #[] #[Qb bb,Qb fb]],cl bl 282 #[.slice (some ⟨sb,0,none⟩) 1 1],cl bi 3 #[.int .i64 0],cl sb 1 #[.func (.func 287) #[] #[Qb bb,Qb fb]]]++[]) :=
    ⟨rfl,bf,bl,bi,sb,0,_,_,_,rfl,⟨rfl,bb,fb,rfl,List.mem_append_right _ (List.mem_cons_self ..),List.mem_append_right _ (List.mem_cons_of_mem _ (List.mem_cons_self ..))⟩,rfl,rfl⟩
   have HSV:=Vh hsv;clear hsv;go_wp2_with fail
   refine Qa.run (Cli.prog_then_x (c:=(qh8 L kb pv).on (e.1++[cl bb 129 #[Qb kb],cl fb 82 #[.int .u64 k.t.id,.int .u64 k.t.gen,.int .u64 k.t.dl,.int .u64 k.now]],e.2)) (f:=MT.claims2) (v:=.func (.func 289) #[] #[Qb bb]) (gm:=[]) (Qx L kb pv _) rfl HSV.out ⟨rfl,bb,rfl,List.mem_append_right _ (List.mem_cons_self ..)⟩) (HT.out.sum2 (H':=[Qi kb L.fb pv (Qw L k) k,gd,e.1,g2,gW,gP,[cl bb 129 #[Qb kb]],[cl (bb+1) 180 #[.nilFunc,.nilFunc]],[cl fb 82 #[.int .u64 k.t.id,.int .u64 k.t.gen,.int .u64 k.t.dl,.int .u64 k.now]],[cl bf 1 #[.func (.func 287) #[] #[Qb bb,Qb fb]],cl bl 282 #[.slice (some ⟨sb,0,none⟩) 1 1],cl bi 3 #[.int .i64 0],cl sb 1 #[.func (.func 287) #[] #[Qb bb,Qb fb]]]++[],[]])) [9,10] ?_
   rintro e w1 gs ⟨bs,br,rfl,rfl⟩ HT;simp only [PU] at HT;obtain ⟨r0,r1⟩:=Ce2 (HT.out.cell 7 0 rfl) 0 1;obtain ⟨fr0,fr1⟩:=Ce2 (HT.out.free 7 0 rfl) 0 1;simp only [GE4] at r0 r1;go_wp2
   exact bodyPost_ret (v:=.agg #[_,_]) (by simp [results,results276,go_sem,r0,r1]) rfl ⟨_,⟨(e.1++[cl bb 129 #[Qb kb],cl fb 82 #[.int .u64 k.t.id,.int .u64 k.t.gen,.int .u64 k.t.dl,.int .u64 k.now]],e.2),leT.app e _,_,_,_,_,_,rfl,⟨bs,br,_,_,_,[],rfl,rfl,HSV.out,⟨rfl,bb,rfl,List.mem_append_right _ (List.mem_cons_self ..)⟩,rfl⟩,⟨gd,_,_,gP,HD.out,HX.out,HW.out,HPP.out,(rfl:Qi kb L.fb pv (Qw L k) k++(gd++(e.1++[cl bb 129 #[Qb kb],cl fb 82 #[.int .u64 k.t.id,.int .u64 k.t.gen,.int .u64 k.t.dl,.int .u64 k.now]]))=_),rfl⟩,rfl⟩,(((HT.out.set 7 0 rfl 0 _).set 7 0 rfl 1 _).pick [9,0,1,2,6,8,3,4,5] rfl).sum2⟩
end
section
variable {L:Lay} {x:Qj} {ws:List Qg} {p:Qy} {e:ET} {g gC gK gF:List Blk} {kb:Nat} {pv sv:Value} {k:Xf}
theorem MRT.of {s:ST} {z:ZT} {en:Ending} {gs:GH} (h:∃ e',leT e e'∧∃ m d g' gK' gF',en=.returned (.agg #[m,d])∧(qh8 L kb pv).SV e' s m d g'∧Y0 L kb pv e' z gK' gF'∧gs=[g',gK',gF']):MRT L kb pv e s z en gs:=h
theorem qg2 (a b:Int) (ha:0≤a∧a<18446744073709551616) (hb:0≤b∧b<18446744073709551616) :
 ∃ nx er:Int,Qe prog 120 #[.int .u64 a,.int .u64 b] [] (.tuple #[.int .u64 nx,.int .i64 er])∧(er=0↔a+b<18446744073709551616)∧(a+b<18446744073709551616→nx=a+b):=by
 by_cases h:a+b<18446744073709551616
 ·exact ⟨a+b,0,qbd a b ha.1 hb.1 h,⟨fun _=>h,fun _=>rfl⟩,fun _=>rfl⟩
 ·exact ⟨0,9,qdb a b ha.1 hb.1 ha.2 hb.2 (by omega),⟨fun h'=>by omega,fun h'=>absurd h' h⟩,fun h'=>absurd h' h⟩
theorem qx4 (hz:Y0 L kb pv e ⟨k,x,ws,p⟩ gK gF) (hp:qe0 .behind ⟨k,x,ws,p⟩) :
 Qa prog 290 #[Qb kb] [gK,gF] (MRT L kb pv e (runT .behind ⟨k,x,ws,p⟩).1 (runT .behind ⟨k,x,ws,p⟩).2):=by
 obtain ⟨ho,_⟩:=hp;have hcore:qo x:=ho.core;have HWD:=Vh (show ∀ g',Qf L x g'→_ from fun g' hx'=>q8 (g:=g') hx' hcore.slab.n1 k.t.slot);have HWB:=Vh (J5 hcore.slab k.t.slot);obtain ⟨nx,er,had,her,hnx⟩:=qg2 k.t.dl k.t.per ho.t.dl ho.t.per;have HPE:=Vh (show 0≤k.t.per∧k.t.per<18446744073709551616 from ho.t.per);clear ho hcore;simp only [runT];obtain ⟨wd,hwd⟩:∃ wd,wd=x.slab.word k.t.slot:=⟨_,rfl⟩;rw [← hwd] at HWB HWD ⊢;have HSW:=Vh (qw8 wd HWB.out.1 HWB.out.2.1);have HGW:=Vh (q3a wd HWB.out.1 HWB.out.2.1);have HLS:=Vh (q1o wd HWB.out.1 HWB.out.2.1);have HAD:=Vh had;have HER:=Vh her;have HNX:=Vh hnx;generalize stW wd=sw at *;generalize Zp wd=gw at *;generalize Jd wd=lw at *;clear hwd HWB had her hnx;obtain ⟨R,hR⟩:∃ R:ST × ZT,R=(if sw≠4∨gw≠k.t.gen then (.nil,⟨{ k with saw:=wd },x,ws,p⟩) else if 0<k.t.per∧lw=false∧k.t.dl+k.t.per<18446744073709551616 then (.at none (.rearm1 (k.t.dl+k.t.per)),⟨{ k with saw:=wd },x,ws,p⟩) else (.at none .finishes,⟨{ k with saw:=wd },x,ws,p⟩)):=⟨_,rfl⟩;rw [← hR];have HR:=Vh hR;clear hR;obtain ⟨gd,gC,gW,gP,hd,hx,hw,hpp,rfl,rfl⟩:=hz;refine GO fun w HT=>?_
 have HT:=Vh (HT.out.sum (H':=[Qi kb L.fb pv (Qw L k) k,gd,e.1,gC,gW,gP]));have HX:=Vh hx;have HD:=Vh hd;have HW:=Vh hw;have HPP:=Vh hpp;clear hx hd hw hpp;go_enter func290,ntmps290
 go_wp2_with fail
 have HT:=Vh ((HT.out.alloc (k:=w.heap.size) rfl 129 #[Qb kb]).alloc (k:=w.heap.size+1) (by simp) 180 #[.nilFunc,.nilFunc]);generalize World.alloc (World.alloc w _) _=w1 at HT ⊢;generalize w.heap.size=bb at *;obtain ⟨ι,W,hW0,hend,hin⟩:∃ (ι:Type) (W:ι→World),(∃ i,World.drew w1=W i)∧(∀ i,∃ gx,Qf L x gx∧TG [Qi kb L.fb pv (Qw L k) k++(gd++e.1),gC++(gW++gP)] w [Qi kb L.fb pv (Qw L k) k,gd,e.1,gx,gW,gP,[cl bb 129 #[Qb kb]],[cl (bb+1) 180 #[.nilFunc,.nilFunc]]] (W i))∧(∀ w',(∃ gx,Qf L x gx∧TG [Qi kb L.fb pv (Qw L k) k++(gd++e.1),gC++(gW++gP)] w [Qi kb L.fb pv (Qw L k) k,gd,e.1,gx,gW,gP,[cl bb 129 #[Qb kb]],[cl (bb+1) 180 #[.nilFunc,.nilFunc]]] w')→∃ i,w'=W i):=⟨{w' // ∃ gx,Qf L x gx∧TG [Qi kb L.fb pv (Qw L k) k++(gd++e.1),gC++(gW++gP)] w [Qi kb L.fb pv (Qw L k) k,gd,e.1,gx,gW,gP,[cl bb 129 #[Qb kb]],[cl (bb+1) 180 #[.nilFunc,.nilFunc]]] w'},Subtype.val,⟨⟨_,gC,HX.out,HT.out.drew⟩,rfl⟩,fun i=>i.2,fun w' h=>⟨⟨w',h⟩,rfl⟩⟩;have hne:Nonempty ι:=hW0.elim fun i _=>⟨i⟩
 have b0:∀ i,(W i).cell? ⟨bb,0,none⟩=some (Qb kb):=fun i=>by obtain ⟨_,_,T⟩:=hend i;exact T.cell 6 0 rfl 0
 have k0:∀ i,(W i).cell? ⟨kb,0,none⟩=some (Qb L.fb):=fun i=>by obtain ⟨_,_,T⟩:=hend i;exact T.cell 0 0 rfl 0
 have k12:∀ i,(W i).cell? ⟨kb,12,none⟩=some (.int .i64 k.t.slot):=fun i=>by obtain ⟨_,_,T⟩:=hend i;exact T.cell 0 0 rfl 12
 have m1:∀ i,Calls prog 124 #[Qb L.fb] (W i) fun e w2=>e=.returned (Qb L.p.sb)∧∃ j,w2=W j:=fun i=>by
  obtain ⟨_,hg,T⟩:=hend i;refine (Qa.use ((Qk hg).does) T [3] rfl rfl).mono ?_
  rintro e w2 ⟨gs,⟨rfl,rfl⟩,T2⟩;exact ⟨rfl,hin _ ⟨_,hg,T2⟩⟩
 have m2:∀ i,Calls prog 172 #[Qb L.p.sb,.int .i64 k.t.slot] (W i) fun e w2=>e=.returned (.tuple #[.int .u64 wd,.int .i64 (x.slab.werr k.t.slot)])∧∃ j,w2=W j:=fun i=>by
  obtain ⟨_,hg,T⟩:=hend i;refine (Qa.use (HWD.out _ hg) T [3] rfl rfl).mono ?_
  rintro e w2 ⟨gs,⟨rfl,g3,hg3,rfl⟩,T2⟩;exact ⟨rfl,hin _ ⟨g3,hg3,T2⟩⟩
 refine Z9 W (by kernel_rfl) (by kernel_rfl) hW0 ?_
 repeat (go_big_quiet_step ((first | (go_at_call 124;with_reducible exact m1 _) | (go_at_call 172;with_reducible exact m2 _))))
 refine wpQuiet_nil ?_
 intro _ hw;obtain ⟨iq,hw2⟩:=hw;subst hw2;obtain ⟨g1,hx1,T⟩:=hend iq;have HT:=Vh T;generalize W iq=w1 at HT ⊢;clear T hend hin hW0 hne;have HX:=Vh hx1;clear hx1 b0 k0 k12 m1 m2;have b0:=HT.out.cell 6 0 rfl 0;simp only [GE4] at b0;have k16:=HT.out.cell 0 0 rfl 16;have fk16:=HT.out.free 0 0 rfl 16;simp only [Q9,GE3] at k16;go_wp2_with fail
 have HT:=Vh ((HT.out.set 0 0 rfl 16 (.int .u64 wd)).eq (H':=[Qi kb L.fb pv (Qw L k) { k with saw:=wd },gd,e.1,g1,gW,gP,[cl bb 129 #[Qb kb]],[cl (bb+1) 180 #[.nilFunc,.nilFunc]]]) rfl);clear k16 fk16 b0;generalize World.setCell _ _ _=w5 at HT ⊢;have b0:=HT.out.cell 6 0 rfl 0;simp only [GE4] at b0;have k13:=HT.out.cell 0 0 rfl 13;simp only [Q9,GE3] at k13;cases hb1:(sw != 4) with
 | true =>
   have hR:=HR.out;rw [if_pos (.inl (by simpa using hb1))] at hR;subst hR;go_quiet ((first | (go_at_call 173;with_reducible exact Qe.quiet (HSW.out) HT.out _ [] rfl rfl) | (go_at_call 195;with_reducible exact Qe.quiet (HGW.out) HT.out _ [] rfl rfl)))
   have HT:=Vh (HT.out.drewN nq);have HT:=Vh HT.out;generalize World.drewN _ _=wq at HT ⊢;clear b0 k13;obtain ⟨r0,r1⟩:=Ce2 (HT.out.cell 7 0 rfl) 0 1;obtain ⟨fr0,fr1⟩:=Ce2 (HT.out.free 7 0 rfl) 0 1;simp only [GE4] at r0 r1;go_wp2
   exact bodyPost_ret (v:=.agg #[_,_]) (by simp [results,results290,go_sem,r0,r1]) rfl ⟨_,MRT.of ⟨e,leT.refl e,_,_,[],_,_,rfl,⟨rfl,rfl,rfl⟩,⟨gd,_,_,gP,HD.out,HX.out,HW.out,HPP.out,(rfl:Qi kb L.fb pv (Qw L k) { k with saw:=wd }++(gd++e.1)=_),rfl⟩,rfl⟩,(((HT.out.set 7 0 rfl 0 _).set 7 0 rfl 1 _).pick [0,1,2,3,4,5] rfl).sum2⟩
 | false =>
   cases hb2:(gw != k.t.gen) with
   | true =>
     have hR:=HR.out;rw [if_pos (.inr (by simpa using hb2))] at hR;subst hR;go_quiet ((first | (go_at_call 173;with_reducible exact Qe.quiet (HSW.out) HT.out _ [] rfl rfl) | (go_at_call 195;with_reducible exact Qe.quiet (HGW.out) HT.out _ [] rfl rfl)))
     have HT:=Vh (HT.out.drewN nq);have HT:=Vh HT.out;generalize World.drewN _ _=wq at HT ⊢;clear b0 k13;obtain ⟨r0,r1⟩:=Ce2 (HT.out.cell 7 0 rfl) 0 1;obtain ⟨fr0,fr1⟩:=Ce2 (HT.out.free 7 0 rfl) 0 1;simp only [GE4] at r0 r1;go_wp2
     exact bodyPost_ret (v:=.agg #[_,_]) (by simp [results,results290,go_sem,r0,r1]) rfl ⟨_,MRT.of ⟨e,leT.refl e,_,_,[],_,_,rfl,⟨rfl,rfl,rfl⟩,⟨gd,_,_,gP,HD.out,HX.out,HW.out,HPP.out,(rfl:Qi kb L.fb pv (Qw L k) { k with saw:=wd }++(gd++e.1)=_),rfl⟩,rfl⟩,(((HT.out.set 7 0 rfl 0 _).set 7 0 rfl 1 _).pick [0,1,2,3,4,5] rfl).sum2⟩
   | false =>
     have hR:=HR.out;rw [if_neg (by simp only [bne_eq_false_iff_eq] at hb1 hb2;omega)] at hR;have HR:=Vh hR;go_quiet ((first | (go_at_call 173;with_reducible exact Qe.quiet (HSW.out) HT.out _ [] rfl rfl) | (go_at_call 195;with_reducible exact Qe.quiet (HGW.out) HT.out _ [] rfl rfl)))
     have HT:=Vh (HT.out.drewN nq);generalize World.drewN _ _=wz at HT ⊢;clear b0 k13 hR HSW HGW hb1 hb2 HWD;have b0:=HT.out.cell 6 0 rfl 0;simp only [GE4] at b0;obtain ⟨k14,k15⟩:=Ce2 (HT.out.cell 0 0 rfl) 14 15;simp only [Q9,GE3] at k14 k15;have ltb:=HT.out.lt 6 0 rfl;have ltk:=HT.out.lt 0 0 rfl;simp only [] at ltb ltk;go_wp2_with fail
     apply qnn (A:=fun (nb:Nat) w5=>TG [Qi kb L.fb pv (Qw L k) k++(gd++e.1),gC++(gW++gP)] w [Qi kb L.fb pv (Qw L k) { k with saw:=wd },gd,e.1,g1,gW,gP,[cl bb 129 #[Qb kb]],[cl (bb+1) 180 #[.nilFunc,.nilFunc]],[cl nb 30 #[.int .u64 nx]]] w5)
     case main =>
      intro key
      go_region_held3 (fun w'=>w'.cell? ⟨bb,0,none⟩=some (Qb kb)∧w'.cell? ⟨kb,14,none⟩=some (.int .u64 k.t.dl)∧w'.cell? ⟨kb,15,none⟩=some (.int .u64 k.t.per))
       (first
       | exact ⟨b0,k14,k15⟩
       | exact ⟨q1,q2,q3⟩
       | (refine ⟨?_,?_,?_⟩ <;> (simp [go_sem,b0,k14,k15,ltb,ltk,Nat.ne_of_lt ltb,Nat.ne_of_lt ltk,Nat.ne_of_gt ltb,Nat.ne_of_gt ltk];done))
       | (refine ⟨?_,?_,?_⟩ <;> (simp [go_sem,q1,q2,q3,l1,l2,Nat.ne_of_lt l1,Nat.ne_of_lt l2,Nat.ne_of_gt l1,Nat.ne_of_gt l2];done))
       | (refine ⟨?_,?_,?_⟩ <;> (simp [go_sem,q1,q2,q3,ltb,ltk,Nat.ne_of_lt ltb,Nat.ne_of_lt ltk,Nat.ne_of_gt ltb,Nat.ne_of_gt ltk];done))
       | exact ⟨s1,s2,s3⟩
       | exact ⟨((HT7.out.set 8 0 rfl 0 (.int .u64 nx)).cell 6 0 rfl 0),((HT7.out.set 8 0 rfl 0 (.int .u64 nx)).cell 0 0 rfl 14),((HT7.out.set 8 0 rfl 0 (.int .u64 nx)).cell 0 0 rfl 15)⟩
       | exact ⟨((HT7.out.alloc (k:=w7.heap.size) rfl 30 #[.int .u64 nx]).cell 6 0 rfl 0),((HT7.out.alloc (k:=w7.heap.size) rfl 30 #[.int .u64 nx]).cell 0 0 rfl 14),((HT7.out.alloc (k:=w7.heap.size) rfl 30 #[.int .u64 nx]).cell 0 0 rfl 15)⟩
       | exact ⟨(((HT7.out.alloc (k:=w7.heap.size) rfl 30 #[.int .u64 0]).set 8 0 rfl 0 (.int .u64 nx)).cell 6 0 rfl 0),(((HT7.out.alloc (k:=w7.heap.size) rfl 30 #[.int .u64 0]).set 8 0 rfl 0 (.int .u64 nx)).cell 0 0 rfl 14),(((HT7.out.alloc (k:=w7.heap.size) rfl 30 #[.int .u64 0]).set 8 0 rfl 0 (.int .u64 nx)).cell 0 0 rfl 15)⟩)
       (first
       | (go_at_call 120
          refine (Qe.use HAD.out HT.out.drew [] rfl rfl).mono ?_
          rintro e w7 ⟨rfl,mq,rfl⟩;have HT7:=Vh (HT.out.drew.drewN mq);have q1:=HT7.out.cell 6 0 rfl 0;obtain ⟨q2,q3⟩:=Ce2 (HT7.out.cell 0 0 rfl) 14 15;have l1:=HT7.out.lt 6 0 rfl;have l2:=HT7.out.lt 0 0 rfl;simp only [Q9,GE3] at q1 q2 q3 l1 l2
          generalize World.drewN _ _=w7 at HT7 q1 q2 q3 l1 l2 ⊢)
       | (go_at_call 120
          refine (Qe.use HAD.out (HT.out.alloc (k:=wz.heap.size) rfl 30 #[.int .u64 0]).drew [] rfl rfl).mono ?_
          rintro e w7 ⟨rfl,mq,rfl⟩;have HT7:=Vh ((HT.out.alloc (k:=wz.heap.size) rfl 30 #[.int .u64 0]).drew.drewN mq);have c0:=HT7.out.cell 8 0 rfl 0;have f0:=HT7.out.free 8 0 rfl 0;simp only [GE2] at c0;have q1:=HT7.out.cell 6 0 rfl 0;obtain ⟨q2,q3⟩:=Ce2 (HT7.out.cell 0 0 rfl) 14 15;have l1:=HT7.out.lt 6 0 rfl;have l2:=HT7.out.lt 0 0 rfl;simp only [Q9,GE3] at q1 q2 q3 l1 l2;generalize World.drewN _ _=w7 at HT7 c0 f0 q1 q2 q3 l1 l2 ⊢;have HT8:=HT7.out.set 8 0 rfl 0 (.int .u64 nx);have s1:=HT8.cell 6 0 rfl 0;obtain ⟨s2,s3⟩:=Ce2 (HT8.cell 0 0 rfl) 14 15
          simp only [Q9,GE3] at s1 s2 s3))
      ·have T5:=(HT7.out.alloc (k:=w7.heap.size) rfl 30 #[.int .u64 nx]).eq (H':=[Qi kb L.fb pv (Qw L k) { k with saw:=wd },gd,e.1,g1,gW,gP,[cl bb 129 #[Qb kb]],[cl (bb+1) 180 #[.nilFunc,.nilFunc]],[cl w7.heap.size 30 #[.int .u64 nx]]]) rfl
       clear HT7 q1 q2 q3 l1 l2;generalize World.alloc w7 _=w5 at T5 ⊢;generalize w7.heap.size=nb at T5 ⊢;exact key nb w5 T5
      ·have T5:=(HT7.out.set 8 0 rfl 0 (.int .u64 nx)).eq (H':=[Qi kb L.fb pv (Qw L k) { k with saw:=wd },gd,e.1,g1,gW,gP,[cl bb 129 #[Qb kb]],[cl (bb+1) 180 #[.nilFunc,.nilFunc]],[cl wz.heap.size 30 #[.int .u64 nx]]]) rfl
       clear HT7 q1 q2 q3 l1 l2 c0 f0 s1 s2 s3 HT8;generalize World.setCell w7 _ _=w5 at T5 ⊢;generalize wz.heap.size=nb at T5 ⊢;exact key nb w5 T5
     case key =>
      rintro nb w5 T5;have HT:=Vh T5;clear T5 b0 k14 k15 ltb ltk;have HNX:=HNX.out;have hper:=HPE.out;have b0:=HT.out.cell 6 0 rfl 0;simp only [GE4] at b0;have k15:=HT.out.cell 0 0 rfl 15;simp only [Q9,GE3] at k15;by_cases hp0:0<k.t.per
      ·cases lw with
       | false =>
         by_cases hov:k.t.dl+k.t.per<18446744073709551616
         ·have hR:=HR.out
          rw [if_pos ⟨hp0,rfl,hov⟩] at hR;subst hR;have her:=HER.out.2 hov;subst her;have hnx:=HNX hov;subst hnx;clear HNX hper HER;go_wp2_with fail
          refine (Qe.use (HLS.out) (HT.out) [] rfl rfl).mono ?_
          rintro e w1 ⟨rfl,mq,rfl⟩;have HT:=Vh (HT.out.drewN mq);generalize World.drewN _ _=wq at HT ⊢;clear b0 k15;go_wp2_with fail
          refine Qa.run (qkg _ _ _) (HT.out) [] ?_
          rintro e w1 gs ⟨rfl,rfl⟩ HT;simp only [PU] at HT;obtain ⟨r0,r1⟩:=Ce2 (HT.out.cell 7 0 rfl) 0 1;obtain ⟨fr0,fr1⟩:=Ce2 (HT.out.free 7 0 rfl) 0 1;simp only [GE4] at r0 r1;go_wp2
          exact bodyPost_ret (v:=.agg #[_,_]) (by simp [results,results290,go_sem,r0,r1]) rfl ⟨_,MRT.of ⟨(e.1++[cl bb 129 #[Qb kb],cl nb 30 #[.int .u64 (k.t.dl+k.t.per)]],e.2),leT.app e _,_,_,[],_,_,rfl,⟨rfl,rfl,⟨bb,nb,rfl,List.mem_append_right _ (List.mem_cons_self ..),List.mem_append_right _ (List.mem_cons_of_mem _ (List.mem_cons_self ..))⟩⟩,⟨gd,_,_,gP,HD.out,HX.out,HW.out,HPP.out,(rfl:Qi kb L.fb pv (Qw L k) { k with saw:=wd }++(gd++(e.1++[cl bb 129 #[Qb kb],cl nb 30 #[.int .u64 (k.t.dl+k.t.per)]]))=_),rfl⟩,rfl⟩,(((HT.out.set 7 0 rfl 0 _).set 7 0 rfl 1 _).pick [0,1,2,6,8,3,4,5] rfl).sum2⟩
         ·have hR:=HR.out
          rw [if_neg (fun h=>hov h.2.2)] at hR;subst hR;have heb:(er == 0)=false:=beq_eq_false_iff_ne.2 fun h=>hov (HER.out.1 h)
          clear HNX hper HER hov;go_wp2_with fail
          refine (Qe.use (HLS.out) (HT.out) [] rfl rfl).mono ?_
          rintro e w1 ⟨rfl,mq,rfl⟩;have HT:=Vh (HT.out.drewN mq);generalize World.drewN _ _=wq at HT ⊢;clear b0 k15;have b0:=HT.out.cell 6 0 rfl 0;simp only [GE4] at b0;go_wp2_with fail
          refine Qa.run (qkg _ _ _) (HT.out) [] ?_
          rintro e w1 gs ⟨rfl,rfl⟩ HT;simp only [PU] at HT;obtain ⟨r0,r1⟩:=Ce2 (HT.out.cell 7 0 rfl) 0 1;obtain ⟨fr0,fr1⟩:=Ce2 (HT.out.free 7 0 rfl) 0 1;simp only [GE4] at r0 r1;go_wp2
          exact bodyPost_ret (v:=.agg #[_,_]) (by simp [results,results290,go_sem,r0,r1]) rfl ⟨_,MRT.of ⟨e,leT.refl e,_,_,[],_,_,rfl,⟨rfl,rfl,rfl⟩,⟨gd,_,_,gP,HD.out,HX.out,HW.out,HPP.out,(rfl:Qi kb L.fb pv (Qw L k) { k with saw:=wd }++(gd++e.1)=_),rfl⟩,rfl⟩,(((HT.out.set 7 0 rfl 0 _).set 7 0 rfl 1 _).pick [0,1,2,3,4,5] rfl).sum2⟩
       | true =>
         have hR:=HR.out;rw [if_neg (fun h=>by cases h.2.1)] at hR;subst hR;clear HNX hper HER;go_wp2_with fail
         refine (Qe.use (HLS.out) (HT.out) [] rfl rfl).mono ?_
         rintro e w1 ⟨rfl,mq,rfl⟩;have HT:=Vh (HT.out.drewN mq);generalize World.drewN _ _=wq at HT ⊢;clear b0 k15;have b0:=HT.out.cell 6 0 rfl 0;simp only [GE4] at b0;go_wp2_with fail
         refine Qa.run (qkg _ _ _) (HT.out) [] ?_
         rintro e w1 gs ⟨rfl,rfl⟩ HT;simp only [PU] at HT;obtain ⟨r0,r1⟩:=Ce2 (HT.out.cell 7 0 rfl) 0 1;obtain ⟨fr0,fr1⟩:=Ce2 (HT.out.free 7 0 rfl) 0 1;simp only [GE4] at r0 r1;go_wp2
         exact bodyPost_ret (v:=.agg #[_,_]) (by simp [results,results290,go_sem,r0,r1]) rfl ⟨_,MRT.of ⟨e,leT.refl e,_,_,[],_,_,rfl,⟨rfl,rfl,rfl⟩,⟨gd,_,_,gP,HD.out,HX.out,HW.out,HPP.out,(rfl:Qi kb L.fb pv (Qw L k) { k with saw:=wd }++(gd++e.1)=_),rfl⟩,rfl⟩,(((HT.out.set 7 0 rfl 0 _).set 7 0 rfl 1 _).pick [0,1,2,3,4,5] rfl).sum2⟩
      ·have hR:=HR.out
       rw [if_neg (fun h=>hp0 h.1)] at hR;subst hR;have hper0:k.t.per=0:=by omega
       rw [hper0] at k15;clear HNX HER hper hp0 hper0 HAD HLS;go_wp2_with fail
       refine Qa.run (qkg _ _ _) (HT.out) [] ?_
       rintro e w1 gs ⟨rfl,rfl⟩ HT;simp only [PU] at HT;obtain ⟨r0,r1⟩:=Ce2 (HT.out.cell 7 0 rfl) 0 1;obtain ⟨fr0,fr1⟩:=Ce2 (HT.out.free 7 0 rfl) 0 1;simp only [GE4] at r0 r1;go_wp2
       exact bodyPost_ret (v:=.agg #[_,_]) (by simp [results,results290,go_sem,r0,r1]) rfl ⟨_,MRT.of ⟨e,leT.refl e,_,_,[],_,_,rfl,⟨rfl,rfl,rfl⟩,⟨gd,_,_,gP,HD.out,HX.out,HW.out,HPP.out,(rfl:Qi kb L.fb pv (Qw L k) { k with saw:=wd }++(gd++e.1)=_),rfl⟩,rfl⟩,(((HT.out.set 7 0 rfl 0 _).set 7 0 rfl 1 _).pick [0,1,2,3,4,5] rfl).sum2⟩
end
section
variable {L:Lay} {x:Qj} {ws:List Qg} {p:Qy} {e:ET} {g gC gK gF:List Blk} {kb:Nat} {pv sv:Value} {k:Xf}
def YRT (L:Lay) (kb:Nat) (pv:Value) (e:ET) (y:YT) (z:ZT) (en:Ending) (gs:GH):Prop :=
 ∃ gK' gF',en=.returned (.bool (qqj y z))∧Y0 L kb pv e z gK' gF'∧gs=[gK',gF']
theorem ART.of {z:ZT} {en:Ending} {gs:GH} (h:∃ e',leT e e'∧∃ gK' gF',en=.returned (.tuple #[])∧Y0 L kb pv e' z gK' gF'∧gs=[[],gK',gF']):ART L kb pv e z en gs:=h
theorem YRT.of {y:YT} {z:ZT} {en:Ending} {gs:GH} (h:∃ gK' gF',en=.returned (.bool (qqj y z))∧Y0 L kb pv e z gK' gF'∧gs=[gK',gF']):YRT L kb pv e y z en gs:=h
theorem q2s (d:Nat) (hz:Y0 L kb pv e ⟨k,x,ws,p⟩ gK gF) (hp:qe0 (.one2 d) ⟨k,x,ws,p⟩) (bk bd:Nat) (hb:zx kb bk e) (hbd:e.2[d]?=some bd) :
 Qa prog 231 #[Qb bk,Qb bd] [gK,gF] (MRT L kb pv e (runT (.one2 d) ⟨k,x,ws,p⟩).1 (runT (.one2 d) ⟨k,x,ws,p⟩).2):=by
 obtain ⟨ho,hh,hc,hth1⟩:=hp;obtain ⟨gd,gC,gW,gP,hd,hx,hw,hpp,rfl,rfl⟩:=hz;obtain ⟨i,q,s,S,hki,hq,hs,hS,hsv,hsh,hss,hwh,hwo,hrb,ht0,ht1⟩:=zm hx hw ho hh;have hth:0≤k.th∧k.th≤1000000:=⟨ho.th,hth1⟩;clear hth1
 rw [show runT (.one2 d) ⟨k,x,ws,p⟩=(.at none (.one21 d),⟨k,{ x with shs:=x.shs.set i { s with who:=qt5 s.who k.th,turns:=qtq s.who s.turns } },ws,p⟩) by
  simp only [runT,ZT.onSh,hss,hsh]]
 dsimp only
 have HLO:=Vh (fun (g:List Blk) (hg:Qf L x g)=>qae hg hq hs);have HLT:=Vh (fun (g:List Blk) (hg:Qf L x g)=>qc2 (v:=.bool (s.who == 0)) hg hq hs fun g hl=>qsz k.th hl ⟨hth.1,by omega⟩ ⟨ht0,by omega⟩);clear hth ho hh hc hki hq hs hS hsh hss hwh hwo hrb ht0 ht1;refine GO fun w HT=>?_
 have HT:=Vh (HT.out.sum (H':=[Qi kb L.fb pv (Qw L k) k,gd,e.1,gC,gW,gP]));have HX:=Vh hx;have HD:=Vh hd;have HW:=Vh hw;have HPP:=Vh hpp;have HSV:=Vh hsv;clear hx hd hw hpp hsv;have HBD:=Vh hbd;clear hbd;have HB:=Vh (show cl bk 129 #[Qb kb]∈e.1 from hb);clear hb;have ltb:=HT.out.mem_lt 2 HB.out;simp only [] at ltb;go_enter func231,ntmps231
 go_wp2_with fail
 have HT:=Vh (HT.out.alloc (k:=w.heap.size) rfl 180 #[.nilFunc,.nilFunc]);generalize World.alloc w _=w1 at HT ⊢;generalize w.heap.size=bs at *;obtain ⟨ι,W,hW0,hend,hin⟩:∃ (ι:Type) (W:ι→World),(∃ i,World.drew w1=W i)∧(∀ i,∃ gx,Qf L x gx∧TG [Qi kb L.fb pv (Qw L k) k++(gd++e.1),gC++(gW++gP)] w [Qi kb L.fb pv (Qw L k) k,gd,e.1,gx,gW,gP,[cl bs 180 #[.nilFunc,.nilFunc]]] (W i))∧(∀ w',(∃ gx,Qf L x gx∧TG [Qi kb L.fb pv (Qw L k) k++(gd++e.1),gC++(gW++gP)] w [Qi kb L.fb pv (Qw L k) k,gd,e.1,gx,gW,gP,[cl bs 180 #[.nilFunc,.nilFunc]]] w')→∃ i,w'=W i):=⟨{w' // ∃ gx,Qf L x gx∧TG [Qi kb L.fb pv (Qw L k) k++(gd++e.1),gC++(gW++gP)] w [Qi kb L.fb pv (Qw L k) k,gd,e.1,gx,gW,gP,[cl bs 180 #[.nilFunc,.nilFunc]]] w'},Subtype.val,⟨⟨_,gC,HX.out,HT.out.drew⟩,rfl⟩,fun i=>i.2,fun w' h=>⟨⟨w',h⟩,rfl⟩⟩;have hne:Nonempty ι:=hW0.elim fun i _=>⟨i⟩
 have b0:∀ i,(W i).cell? ⟨bk,0,none⟩=some (Qb kb):=fun i=>by obtain ⟨_,_,T⟩:=hend i;exact T.mem_cell 2 HB.out 0
 have k10:∀ i,(W i).cell? ⟨kb,10,none⟩=some (Qb q.b):=fun i=>by obtain ⟨_,_,T⟩:=hend i;exact HSV.out ▸ T.cell 0 0 rfl 10
 have k1:∀ i,(W i).cell? ⟨kb,1,none⟩=some (.int .i64 k.th):=fun i=>by obtain ⟨_,_,T⟩:=hend i;exact T.cell 0 0 rfl 1
 have m1:∀ i,Calls prog 229 #[Qb q.b] (W i) fun e w2=>e=.returned (Qb q.lb)∧∃ j,w2=W j:=fun i=>by
  obtain ⟨_,hg,T⟩:=hend i;refine (Qa.use (HLO.out _ hg) T [3] rfl rfl).mono ?_
  rintro e w2 ⟨gs,⟨rfl,g3,hg3,rfl⟩,T2⟩;exact ⟨rfl,hin _ ⟨g3,hg3,T2⟩⟩
 refine Zk (fun w'=>∃ i,w'=W i) 9 (by kernel_rfl) (by kernel_rfl) hW0 ?_
 simp only [TD4]
 repeat (go_big_quiet_step ((first | (go_at_call 229;with_reducible exact m1 _))))
 refine wpQuiet_nil ?_
 intro _ hw';obtain ⟨iq,hw''⟩:=hw';subst hw'';obtain ⟨g1,hx1,T⟩:=hend iq;have HT:=Vh T;generalize W iq=w1 at HT ⊢;clear T hend hin hW0 hne;have HX1:=Vh hx1;clear hx1 b0 k10 k1 m1;go_wp2_with fail
 refine (Qa.use (HLT.out _ HX1.out) (HT.out) [3] rfl rfl).mono ?_
 rintro e w1 ⟨gs,⟨rfl,g2,hx2,rfl⟩,Ta⟩;simp only [PU] at Ta;have HX:=Vh hx2;clear hx2;have HT:=Vh Ta;clear Ta;go_wp2_with fail
 refine ⟨rfl,?_⟩
 go_wp2_with fail
 refine Qa.run (qkg _ _ _) (HT.out) [] ?_
 rintro e w1 gs ⟨rfl,rfl⟩ HT;simp only [PU] at HT;obtain ⟨r0,r1⟩:=Ce2 (HT.out.cell 6 0 rfl) 0 1;obtain ⟨fr0,fr1⟩:=Ce2 (HT.out.free 6 0 rfl) 0 1;simp only [GE4] at r0 r1;go_wp2
 exact bodyPost_ret (v:=.agg #[_,_]) (by simp [results,results231,go_sem,r0,r1]) rfl ⟨_,MRT.of ⟨e,leT.refl e,_,_,[],_,_,rfl,⟨rfl,rfl,⟨bk,bd,rfl,HB.out,HBD.out⟩⟩,⟨gd,_,_,gP,HD.out,HX.out,HW.out,HPP.out,(rfl:Qi kb L.fb pv (Qw L k) k++(gd++e.1)=_),rfl⟩,rfl⟩,(((HT.out.set 6 0 rfl 0 _).set 6 0 rfl 1 _).pick [0,1,2,3,4,5] rfl).sum2⟩
theorem q2z (hz:Y0 L kb pv e ⟨k,x,ws,p⟩ gK gF) (hp:qvf .lock ⟨k,x,ws,p⟩) (bk:Nat) (hb:zx kb bk e) :
 Qa prog 228 #[Qb bk] [gK,gF] (YRT L kb pv e .lock ⟨k,x,ws,p⟩):=by
 obtain ⟨ho,hh⟩:=hp;obtain ⟨gd,gC,gW,gP,hd,hx,hw,hpp,rfl,rfl⟩:=hz;obtain ⟨i,q,s,S,hki,hq,hs,hS,hsv,hsh,hss,hwh,hwo,hrb,ht0,ht1⟩:=zm hx hw ho hh;have hm:qqj .lock ⟨k,x,ws,p⟩=(decide (0≤k.th) && s.who == 0):=by simp only [qqj,hss]
 have HLO:=Vh (fun (g:List Blk) (hg:Qf L x g)=>qae hg hq hs);have hlm:∀ (g:List Blk) (hg:Qf L x g),_:=fun (g:List Blk) (hg:Qf L x g)=>qc2 (v:=.bool (decide (0≤k.th) && s.who == 0)) hg hq hs fun g hl=>qru k.th hl
 rw [← hm,Yp hs] at hlm;have HLM:=Vh hlm;clear hm hlm ho hh hki hq hs hS hsh hss hwh hwo hrb ht0 ht1;generalize hmv:qqj .lock ⟨k,x,ws,p⟩=mv at *;have HMV:=Vh hmv;clear hmv;refine GO fun w HT=>?_
 have HT:=Vh (HT.out.sum (H':=[Qi kb L.fb pv (Qw L k) k,gd,e.1,gC,gW,gP]));have HX:=Vh hx;have HD:=Vh hd;have HW:=Vh hw;have HPP:=Vh hpp;have HSV:=Vh hsv;clear hx hd hw hpp hsv;have HB:=Vh (show cl bk 129 #[Qb kb]∈e.1 from hb);clear hb;have ltb:=HT.out.mem_lt 2 HB.out;simp only [] at ltb;go_enter func228,ntmps228
 go_wp2_with fail
 obtain ⟨ι,W,hW0,hend,hin⟩:∃ (ι:Type) (W:ι→World),(∃ i,World.drew w=W i)∧(∀ i,∃ gx,Qf L x gx∧TG [Qi kb L.fb pv (Qw L k) k++(gd++e.1),gC++(gW++gP)] w [Qi kb L.fb pv (Qw L k) k,gd,e.1,gx,gW,gP] (W i))∧(∀ w',(∃ gx,Qf L x gx∧TG [Qi kb L.fb pv (Qw L k) k++(gd++e.1),gC++(gW++gP)] w [Qi kb L.fb pv (Qw L k) k,gd,e.1,gx,gW,gP] w')→∃ i,w'=W i):=⟨{w' // ∃ gx,Qf L x gx∧TG [Qi kb L.fb pv (Qw L k) k++(gd++e.1),gC++(gW++gP)] w [Qi kb L.fb pv (Qw L k) k,gd,e.1,gx,gW,gP] w'},Subtype.val,⟨⟨_,gC,HX.out,HT.out.drew⟩,rfl⟩,fun i=>i.2,fun w' h=>⟨⟨w',h⟩,rfl⟩⟩;have hne:Nonempty ι:=hW0.elim fun i _=>⟨i⟩
 have b0:∀ i,(W i).cell? ⟨bk,0,none⟩=some (Qb kb):=fun i=>by obtain ⟨_,_,T⟩:=hend i;exact T.mem_cell 2 HB.out 0
 have k10:∀ i,(W i).cell? ⟨kb,10,none⟩=some (Qb q.b):=fun i=>by obtain ⟨_,_,T⟩:=hend i;exact HSV.out ▸ T.cell 0 0 rfl 10
 have k1:∀ i,(W i).cell? ⟨kb,1,none⟩=some (.int .i64 k.th):=fun i=>by obtain ⟨_,_,T⟩:=hend i;exact T.cell 0 0 rfl 1
 have m1:∀ i,Calls prog 229 #[Qb q.b] (W i) fun e w2=>e=.returned (Qb q.lb)∧∃ j,w2=W j:=fun i=>by
  obtain ⟨_,hg,T⟩:=hend i;refine (Qa.use (HLO.out _ hg) T [3] rfl rfl).mono ?_
  rintro e w2 ⟨gs,⟨rfl,g3,hg3,rfl⟩,T2⟩;exact ⟨rfl,hin _ ⟨g3,hg3,T2⟩⟩
 have m2:∀ i,Calls prog 230 #[Qb q.lb,.int .i64 k.th] (W i) fun e w2=>e=.returned (.bool mv)∧∃ j,w2=W j:=fun i=>by
  obtain ⟨_,hg,T⟩:=hend i;refine (Qa.use (HLM.out _ hg) T [3] rfl rfl).mono ?_
  rintro e w2 ⟨gs,⟨rfl,g3,hg3,rfl⟩,T2⟩;exact ⟨rfl,hin _ ⟨g3,hg3,T2⟩⟩
 refine Z9 W (by kernel_rfl) (by kernel_rfl) hW0 ?_
 repeat (go_big_quiet_step ((first | (go_at_call 229;with_reducible exact m1 _) | (go_at_call 230;with_reducible exact m2 _))))
 refine wpQuiet_nil ?_
 intro _ hw;obtain ⟨iq,hw2⟩:=hw;subst hw2;obtain ⟨g1,hx1,T⟩:=hend iq;have HT:=Vh T;generalize W iq=w1 at HT ⊢;clear T hend hin hW0 hne;have HX1:=Vh hx1;clear hx1 b0 k10 k1 m1 m2;go_wp2
 go_ret
 exact ⟨_,YRT.of ⟨_,_,by rw [HMV.out];rfl,⟨gd,g1,gW,gP,HD.out,HX1.out,HW.out,HPP.out,rfl,rfl⟩,rfl⟩,HT.out.sum2⟩
theorem qx8 (hz:Y0 L kb pv e ⟨k,x,ws,p⟩ gK gF) (hp:qfp .unlock ⟨k,x,ws,p⟩) (bk:Nat) (hb:zx kb bk e) :
 Qa prog 242 #[Qb bk] [gK,gF] (ART L kb pv e (Xv .unlock ⟨k,x,ws,p⟩)):=by
 obtain ⟨ho,hh,hwho,hth1⟩:=hp;obtain ⟨gd,gC,gW,gP,hd,hx,hw,hpp,rfl,rfl⟩:=hz;obtain ⟨i,q,s,S,hki,hq,hs,hS,hsv,hsh,hss,hwh,hwo,hrb,ht0,ht1⟩:=zm hx hw ho hh;rw [hss] at hwho;have hth:0≤k.th∧k.th≤1000000:=⟨ho.th,hth1⟩;clear hth1;have hwho:s.who=k.th+1:=hwho
 rw [show Xv .unlock ⟨k,x,ws,p⟩=⟨k,{ x with shs:=x.shs.set i { s with who:=0,turns:=s.turns } },ws,p⟩ by
  simp only [Xv,ZT.onSh,hss,hsh]]
 have HLO:=Vh (fun (g:List Blk) (hg:Qf L x g)=>qae hg hq hs);have HLT:=Vh (fun (g:List Blk) (hg:Qf L x g)=>qc2 (v:=.int .i64 0) hg hq hs fun g hl=>qlw k.th (hwho ▸ hl) ⟨hth.1,by omega⟩);clear hth ho hh hki hq hs hS hsh hss hwh hwo hrb ht0 ht1 hwho;refine GO fun w HT=>?_
 have HT:=Vh (HT.out.sum (H':=[Qi kb L.fb pv (Qw L k) k,gd,e.1,gC,gW,gP]));have HX:=Vh hx;have HD:=Vh hd;have HW:=Vh hw;have HPP:=Vh hpp;have HSV:=Vh hsv;clear hx hd hw hpp hsv;have HB:=Vh (show cl bk 129 #[Qb kb]∈e.1 from hb);clear hb;have ltb:=HT.out.mem_lt 2 HB.out;simp only [] at ltb;go_enter func242,ntmps242
 go_wp2_with fail
 obtain ⟨ι,W,hW0,hend,hin⟩:∃ (ι:Type) (W:ι→World),(∃ i,World.drew w=W i)∧(∀ i,∃ gx,Qf L x gx∧TG [Qi kb L.fb pv (Qw L k) k++(gd++e.1),gC++(gW++gP)] w [Qi kb L.fb pv (Qw L k) k,gd,e.1,gx,gW,gP] (W i))∧(∀ w',(∃ gx,Qf L x gx∧TG [Qi kb L.fb pv (Qw L k) k++(gd++e.1),gC++(gW++gP)] w [Qi kb L.fb pv (Qw L k) k,gd,e.1,gx,gW,gP] w')→∃ i,w'=W i):=⟨{w' // ∃ gx,Qf L x gx∧TG [Qi kb L.fb pv (Qw L k) k++(gd++e.1),gC++(gW++gP)] w [Qi kb L.fb pv (Qw L k) k,gd,e.1,gx,gW,gP] w'},Subtype.val,⟨⟨_,gC,HX.out,HT.out.drew⟩,rfl⟩,fun i=>i.2,fun w' h=>⟨⟨w',h⟩,rfl⟩⟩;have hne:Nonempty ι:=hW0.elim fun i _=>⟨i⟩
 have b0:∀ i,(W i).cell? ⟨bk,0,none⟩=some (Qb kb):=fun i=>by obtain ⟨_,_,T⟩:=hend i;exact T.mem_cell 2 HB.out 0
 have k10:∀ i,(W i).cell? ⟨kb,10,none⟩=some (Qb q.b):=fun i=>by obtain ⟨_,_,T⟩:=hend i;exact HSV.out ▸ T.cell 0 0 rfl 10
 have k1:∀ i,(W i).cell? ⟨kb,1,none⟩=some (.int .i64 k.th):=fun i=>by obtain ⟨_,_,T⟩:=hend i;exact T.cell 0 0 rfl 1
 have m1:∀ i,Calls prog 229 #[Qb q.b] (W i) fun e w2=>e=.returned (Qb q.lb)∧∃ j,w2=W j:=fun i=>by
  obtain ⟨_,hg,T⟩:=hend i;refine (Qa.use (HLO.out _ hg) T [3] rfl rfl).mono ?_
  rintro e w2 ⟨gs,⟨rfl,g3,hg3,rfl⟩,T2⟩;exact ⟨rfl,hin _ ⟨g3,hg3,T2⟩⟩
 refine Zk (fun w'=>∃ i,w'=W i) 9 (by kernel_rfl) (by kernel_rfl) hW0 ?_
 simp only [TD4]
 repeat (go_big_quiet_step ((first | (go_at_call 229;with_reducible exact m1 _))))
 refine wpQuiet_nil ?_
 intro _ hw';obtain ⟨iq,hw''⟩:=hw';subst hw'';obtain ⟨g1,hx1,T⟩:=hend iq;have HT:=Vh T;generalize W iq=w1 at HT ⊢;clear T hend hin hW0 hne;have HX1:=Vh hx1;clear hx1 b0 k10 k1 m1;go_wp2_with fail
 refine (Qa.use (HLT.out _ HX1.out) (HT.out) [3] rfl rfl).mono ?_
 rintro e w1 ⟨gs,⟨rfl,g2,hx2,rfl⟩,Ta⟩;simp only [PU] at Ta;have HX:=Vh hx2;clear hx2;have HT:=Vh Ta;clear Ta;go_wp2_with fail
 refine ⟨rfl,?_⟩
 go_wp2
 exact bodyPost_end (results_none rfl _ _ _) rfl ⟨_,ART.of ⟨e,leT.refl e,_,_,rfl,⟨gd,_,gW,gP,HD.out,HX.out,HW.out,HPP.out,rfl,rfl⟩,rfl⟩,HT.out.sum2⟩
end
section
variable {L:Lay} {x:Qj} {ws:List Qg} {p:Qy} {e:ET} {g gC gK gF:List Blk} {kb:Nat} {pv sv:Value} {k:Xf}
theorem qzp (hz:Y0 L kb pv e ⟨k,x,ws,p⟩ gK gF) (hp:qfp .leave1 ⟨k,x,ws,p⟩) (bk:Nat) (hb:zx kb bk e) :
 Qa prog 204 #[Qb bk] [gK,gF] (ART L kb pv e (Xv .leave1 ⟨k,x,ws,p⟩)):=by
 have hi0:=hp.1.core.i0;have hi1:=hp.1.core.i1;simp only at hi0 hi1;clear hp;simp only [Xv];obtain ⟨gd,gC,gW,gP,hd,hx,hw,hpp,rfl,rfl⟩:=hz;refine GO fun w HT=>?_
 have HT:=Vh (HT.out.sum (H':=[Qi kb L.fb pv (Qw L k) k,gd,e.1,gC,gW,gP]));have HX:=Vh hx;have HD:=Vh hd;have HW:=Vh hw;have HPP:=Vh hpp;clear hx hd hw hpp;have HLV:=Vh (qi7 HX.out ⟨hi0,hi1⟩);clear hi0 hi1;have HB:=Vh (show cl bk 129 #[Qb kb]∈e.1 from hb);clear hb;have b0:=HT.out.mem_cell 2 HB.out 0;have ltb:=HT.out.mem_lt 2 HB.out;simp only [GE2] at b0 ltb;have k0:=HT.out.cell 0 0 rfl 0;simp only [Q9,GE3] at k0;go_enter func204,ntmps204
 go_wp2_with fail
 refine (Qa.use (HLV.out) (HT.out) [3] rfl rfl).mono ?_
 rintro e w1 ⟨gs,⟨rfl,g2,hx2,rfl⟩,Ta⟩;simp only [PU] at Ta;have HX:=Vh hx2;clear hx2;have HT:=Vh Ta;clear Ta;go_wp2
 exact bodyPost_end (results_none rfl _ _ _) rfl ⟨_,ART.of ⟨e,leT.refl e,_,_,rfl,⟨gd,_,gW,gP,HD.out,HX.out,HW.out,HPP.out,rfl,rfl⟩,rfl⟩,HT.out.sum2⟩
theorem qzd (hz:Y0 L kb pv e ⟨k,x,ws,p⟩ gK gF) (hp:qfp .answer ⟨k,x,ws,p⟩) (bk:Nat) (hb:zx kb bk e) :
 Qa prog 205 #[Qb bk] [gK,gF] (ART L kb pv e (Xv .answer ⟨k,x,ws,p⟩)):=by
 have HTR:=Vh (show x.tr.length≤1000000 from hp.1.core.tr);clear hp;rw [show Xv .answer ⟨k,x,ws,p⟩=⟨k,{ x with tr:=x.tr++[evT k { ev0 with kind:=2,err:=k.err }] },ws,p⟩ from rfl];obtain ⟨gd,gC,gW,gP,hd,hx,hw,hpp,rfl,rfl⟩:=hz;refine GO fun w HT=>?_
 have HT:=Vh (HT.out.sum (H':=[Qi kb L.fb pv (Qw L k) k,gd,e.1,gC,gW,gP]));have HX:=Vh hx;have HD:=Vh hd;have HW:=Vh hw;have HPP:=Vh hpp;clear hx hd hw hpp;have hnt:=za (kb:=kb) (pv:=pv) (sv:=Qw L k) (k:=k) HX.out { ev0 with kind:=2,err:=k.err } HTR.out;simp only [EvS.cells,ev0] at hnt;have HNT:=Vh hnt;clear hnt HTR;have HB:=Vh (show cl bk 129 #[Qb kb]∈e.1 from hb);clear hb;have b0:=HT.out.mem_cell 2 HB.out 0;have ltb:=HT.out.mem_lt 2 HB.out;simp only [GE2] at b0 ltb;have k3:=HT.out.cell 0 0 rfl 3;simp only [Q9,GE3] at k3;go_enter func205,ntmps205
 go_wp2_with fail
 refine Qc 7 (by kernel_rfl) (by kernel_rfl) ?_
 simp only [TD4]
 repeat (go_big_quiet_step ((fail)))
 refine wpQuiet_nil (QE fun nq=>?_)
 have HT:=Vh (HT.out.drewN nq);go_wp2_with fail
 refine (Qa.use (HNT.out) (HT.out) [0,3] rfl rfl).mono ?_
 rintro e w1 ⟨gs,⟨rfl,g2,hx2,rfl⟩,Ta⟩;simp only [PU] at Ta;have HX:=Vh hx2;clear hx2;have HT:=Vh Ta;clear Ta;go_wp2_with fail
 refine ⟨rfl,?_⟩
 go_wp2
 exact bodyPost_end (results_none rfl _ _ _) rfl ⟨_,ART.of ⟨e,leT.refl e,_,_,rfl,⟨gd,_,gW,gP,HD.out,HX.out,HW.out,HPP.out,rfl,rfl⟩,rfl⟩,HT.out.sum2⟩
theorem q1y (hz:Y0 L kb pv e ⟨k,x,ws,p⟩ gK gF) (hp:qfp .drop ⟨k,x,ws,p⟩) (bk:Nat) (hb:zx kb bk e) :
 Qa prog 308 #[Qb bk] [gK,gF] (ART L kb pv e (Xv .drop ⟨k,x,ws,p⟩)):=by
 have hcore:qo x:=hp.1.core;clear hp;simp only [Xv];obtain ⟨gd,gC,gW,gP,hd,hx,hw,hpp,rfl,rfl⟩:=hz;refine GO fun w HT=>?_
 have HT:=Vh (HT.out.sum (H':=[Qi kb L.fb pv (Qw L k) k,gd,e.1,gC,gW,gP]));have HX:=Vh hx;have HD:=Vh hd;have HW:=Vh hw;have HPP:=Vh hpp;clear hx hd hw hpp;have HDR:=Vh (fun (g:List Blk) (hx:Qf L x g)=>qh4 hx hcore.slab.c0 (by have:=hcore.slab.c1;have:=hcore.slab.n1;omega));clear hcore;have HB:=Vh (show cl bk 129 #[Qb kb]∈e.1 from hb);clear hb;have b0:=HT.out.mem_cell 2 HB.out 0;have ltb:=HT.out.mem_lt 2 HB.out;simp only [GE2] at b0 ltb;have k0:=HT.out.cell 0 0 rfl 0;simp only [Q9,GE3] at k0;go_enter func308,ntmps308
 go_wp2_with fail
 refine (Qe.use (Qk HX.out) (HT.out) [3] rfl rfl).mono ?_
 rintro e w1 ⟨rfl,mq,rfl⟩;have HT:=Vh (HT.out.drewN mq);generalize World.drewN _ _=wq at HT ⊢;go_wp2_with fail
 refine (Qa.use (HDR.out _ HX.out) (HT.out) [3] rfl rfl).mono ?_
 rintro e w1 ⟨gs,⟨rfl,g2,hx2,rfl⟩,Ta⟩;simp only [PU] at Ta;have HX:=Vh hx2;clear hx2;have HT:=Vh Ta;clear Ta;go_wp2
 exact bodyPost_end (results_none rfl _ _ _) rfl ⟨_,ART.of ⟨e,leT.refl e,_,_,rfl,⟨gd,_,gW,gP,HD.out,HX.out,HW.out,HPP.out,rfl,rfl⟩,rfl⟩,HT.out.sum2⟩
theorem aPut (f:Q7) (hz:Y0 L kb pv e ⟨k,x,ws,p⟩ gK gF) (hp:qfp (.put f) ⟨k,x,ws,p⟩) (bk bf:Nat) (hb:zx kb bk e) (hbf:cl bf 82 f.vals.toArray∈e.1) :
 Qa prog 287 #[Qb bk,Qb bf] [gK,gF] (ART L kb pv e (Xv (.put f) ⟨k,x,ws,p⟩)):=by
 have hpo:qm9 p:=hp.1.pipe;clear hp;simp only [Xv];obtain ⟨gd,gC,gW,gP,hd,hx,hw,hpp,rfl,rfl⟩:=hz;refine GO fun w HT=>?_
 have HT:=Vh (HT.out.sum (H':=[Qi kb L.fb pv (Qw L k) k,gd,e.1,gC,gW,gP]));have HX:=Vh hx;have HD:=Vh hd;have HW:=Vh hw;have HPP:=Vh hpp;clear hx hd hw hpp;have hput:=qtg HPP.out f hpo.sp;simp only [Q7.vals] at hput hbf;have HPU:=Vh hput;clear hput hpo;have f0:=HT.out.mem_cell 2 hbf 0;have f1:=HT.out.mem_cell 2 hbf 1;have f2:=HT.out.mem_cell 2 hbf 2;have f3:=HT.out.mem_cell 2 hbf 3;have ltf:=HT.out.mem_lt 2 hbf;simp only [GE3] at f0 f1 f2 f3 ltf;clear hbf;have HB:=Vh (show cl bk 129 #[Qb kb]∈e.1 from hb);clear hb;have b0:=HT.out.mem_cell 2 HB.out 0;have ltb:=HT.out.mem_lt 2 HB.out;simp only [GE2] at b0 ltb;have k0:=HT.out.cell 0 0 rfl 0;simp only [Q9,GE3] at k0;go_enter func287,ntmps287
 go_wp2_with fail
 refine Qc 6 (by kernel_rfl) (by kernel_rfl) ?_
 simp only [TD4]
 repeat (go_big_quiet_step ((first | (go_at_call 70;with_reducible exact Qe.quiet (Jr HX.out) HT.out _ [3] rfl rfl))))
 refine wpQuiet_nil (QE fun nq=>?_)
 have HT:=Vh (HT.out.drewN nq);go_wp2_with fail
 refine (Qa.use (HPU.out) (HT.out) [5] rfl rfl).mono ?_
 rintro e w1 ⟨gs,⟨rfl,g2,hp2,rfl⟩,Ta⟩;simp only [PU] at Ta;have HPP:=Vh hp2;clear hp2;have HT:=Vh Ta;clear Ta;go_wp2_with fail
 refine ⟨rfl,?_⟩
 go_wp2
 exact bodyPost_end (results_none rfl _ _ _) rfl ⟨_,ART.of ⟨e,leT.refl e,_,_,rfl,⟨gd,_,gW,_,HD.out,HX.out,HW.out,HPP.out,rfl,rfl⟩,rfl⟩,HT.out.sum2⟩
theorem q2v (hz:Y0 L kb pv e ⟨k,x,ws,p⟩ gK gF) (hp:qfp .rel ⟨k,x,ws,p⟩) (bk:Nat) (hb:zx kb bk e) :
 Qa prog 307 #[Qb bk] [gK,gF] (ART L kb pv e (Xv .rel ⟨k,x,ws,p⟩)):=by
 have hok:qo x:=hp.1.core;obtain ⟨w0,w1,w2⟩:=J5 hok.slab k.t.slot;simp only [Xv];have HY:=Vh (show ∀ g',Qf L x g'→_ from fun g' hx'=>qch (g:=g') hx' hok.slab.n1 k.t.slot (x.slab.word k.t.slot) 10 w0 w1);have HWD:=Vh (show ∀ g',Qf L x g'→_ from fun g' hx'=>q8 (g:=g') hx' hok.slab.n1 k.t.slot);clear w0 w1 w2 hok hp;obtain ⟨gd,gC,gW,gP,hd,hx,hw,hpp,rfl,rfl⟩:=hz;refine GO fun w HT=>?_
 have HT:=Vh (HT.out.sum (H':=[Qi kb L.fb pv (Qw L k) k,gd,e.1,gC,gW,gP]));have HX:=Vh hx;have HD:=Vh hd;have HW:=Vh hw;have HPP:=Vh hpp;clear hx hd hw hpp;have HB:=Vh (show cl bk 129 #[Qb kb]∈e.1 from hb);clear hb;have b0:=HT.out.mem_cell 2 HB.out 0;have ltb:=HT.out.mem_lt 2 HB.out;simp only [GE2] at b0 ltb;obtain ⟨k0,k12⟩:=Ce2 (HT.out.cell 0 0 rfl) 0 12;simp only [Q9,GE3] at k0 k12;go_enter func307,ntmps307
 go_wp2_with fail
 refine Qc 10 (by kernel_rfl) (by kernel_rfl) ?_
 simp only [TD4]
 repeat (go_big_quiet_step ((first | (go_at_call 124;with_reducible exact Qe.quiet (Qk HX.out) HT.out _ [3] rfl rfl))))
 refine wpQuiet_nil (QE fun nq=>?_)
 have HT:=Vh (HT.out.drewN nq);go_wp2_with fail
 refine (Qa.use (HWD.out _ HX.out) (HT.out) [3] rfl rfl).mono ?_
 rintro e w1 ⟨gs,⟨rfl,g1,hx1,rfl⟩,Ta⟩;simp only [PU] at Ta;have HX:=Vh hx1;clear hx1 k0 k12 b0 ltb;have HT:=Vh Ta;clear Ta;go_wp2_with fail
 refine ⟨rfl,?_⟩
 have hb:=HB.out;have HB:=Vh (show cl bk 129 #[Qb kb]∈e.1 from hb);clear hb;have b0:=HT.out.mem_cell 2 HB.out 0;have ltb:=HT.out.mem_lt 2 HB.out;simp only [GE2] at b0 ltb;obtain ⟨k0,k12⟩:=Ce2 (HT.out.cell 0 0 rfl) 0 12;simp only [Q9,GE3] at k0 k12;go_wp2_with fail
 refine Qc 11 (by kernel_rfl) (by kernel_rfl) ?_
 simp only [TD4]
 repeat (go_big_quiet_step ((first | (go_at_call 124;with_reducible exact Qe.quiet (Qk HX.out) HT.out _ [3] rfl rfl))))
 refine wpQuiet_nil (QE fun nq=>?_)
 have HT:=Vh (HT.out.drewN nq);go_wp2_with fail
 refine (Qa.use (HY.out _ HX.out) (HT.out) [3] rfl rfl).mono ?_
 rintro e w1 ⟨gs,⟨rfl,g2,hx2,rfl⟩,Ta⟩;simp only [PU] at Ta;have HX2:=Vh hx2;clear hx2 k0 k12 b0;have HT:=Vh Ta;clear Ta;go_wp2_with fail
 refine ⟨rfl,?_⟩
 go_wp2
 exact bodyPost_end (results_none rfl _ _ _) rfl ⟨_,ART.of ⟨e,leT.refl e,_,_,rfl,⟨gd,_,gW,gP,HD.out,HX2.out,HW.out,HPP.out,rfl,rfl⟩,rfl⟩,HT.out.sum2⟩
theorem q0y (d:Nat) (hz:Y0 L kb pv e ⟨k,x,ws,p⟩ gK gF) (hp:qfp (.turnA d) ⟨k,x,ws,p⟩) (bk bd:Nat) (hb:zx kb bk e) (hbd:e.2[d]?=some bd) :
 Qa prog 237 #[Qb bk,Qb bd] [gK,gF] (ART L kb pv e (Xv (.turnA d) ⟨k,x,ws,p⟩)):=by
 obtain ⟨ho,hh,hc⟩:=hp;have hc:k.nd=d+1:=hc;obtain ⟨gd,gC,gW,gP,hd,hx,hw,hpp,rfl,rfl⟩:=hz;obtain ⟨i,q,s,S,hki,hq,hs,hS,hsv,hsh,hss,hwh,hwo,hrb,ht0,ht1⟩:=zm hx hw ho hh;obtain ⟨v0,gr,hr,rfl⟩:=qmc hd hc hbd;rw [show Xv (.turnA d) ⟨k,x,ws,p⟩=⟨{ k with due:=S.adv.2.map qa5.v },x,ws.set i S.adv.1,p⟩ by simp only [Xv,hsh,hwh]];have HTU:=Vh (qro hx hw hq hs hS hwo);have HL:=Vh (And.intro hd.1 (And.intro hc hbd));clear ho hh hc hd hr hki hq hs hS hsh hss hwh hwo hrb ht0 ht1 hbd;refine GO fun w HT=>?_
 have HT:=Vh (HT.out.sum (H':=[Qi kb L.fb pv (Qw L k) k,[cl bd 326 #[v0]],e.1,gC,gW,gP,gr]));have HPP:=Vh hpp;clear hx hw hpp;have HB:=Vh (show cl bk 129 #[Qb kb]∈e.1 from hb);clear hb;have b0:=HT.out.mem_cell 2 HB.out 0;have ltb:=HT.out.mem_lt 2 HB.out;simp only [GE2] at b0 ltb;have k10:=HT.out.cell 0 0 rfl 10;simp only [Q9,GE3,hsv] at k10;clear hsv;go_enter func237,ntmps237
 go_wp2_with fail
 refine (Qa.use (HTU.out) (HT.out) [3,4] rfl rfl).mono ?_
 rintro e w1 ⟨gs,⟨v,g5,rfl,hr,gC',gW',hx',hw',rfl⟩,Ta⟩;simp only [PU] at Ta;have HX:=Vh hx';have HW:=Vh hw';have HR:=Vh hr;clear hx' hw' k10 b0 ltb;have HT:=Vh Ta;clear Ta;obtain ⟨av,cap,rfl⟩:=hr.val;clear hr;have d0:=HT.out.cell 1 0 rfl 0;have fd0:=HT.out.free 1 0 rfl 0;simp only [GE4] at d0;go_wp2
 exact bodyPost_end (results_none rfl _ _ _) rfl ⟨_,ART.of ⟨e,leT.refl e,_,_,rfl,⟨[cl bd 326 #[.slice av S.adv.2.length cap]]++g5,_,_,_,⟨HL.out.1,.inr ⟨d,bd,_,g5,HL.out.2.1,HL.out.2.2,by rw [List.length_map];exact HR.out,rfl⟩⟩,HX.out,HW.out,HPP.out,(rfl:Qi kb L.fb pv (Qw L k) { k with due:=S.adv.2.map qa5.v }++(([cl bd 326 #[.slice av S.adv.2.length cap]]++g5)++e.1)=_),rfl⟩,rfl⟩,(((HT.out.set 1 0 rfl 0 (.slice av S.adv.2.length cap)).eq (H':=[Qi kb L.fb pv (Qw L k) { k with due:=S.adv.2.map qa5.v },[cl bd 326 #[.slice av S.adv.2.length cap]],e.1,gC',gW',gP,gr,g5]) rfl).pick [0,1,2,3,4,5,7] rfl).sum2⟩
theorem q0v (i:Nat) (hz:Y0 L kb pv e ⟨k,x,ws,p⟩ gK gF) (hp:qvf (.ready i) ⟨k,x,ws,p⟩) {q:ShP} (hq:L.qs[i]?=some q) :
 Qa prog 249 #[Qb q.b] [gK,gF] (YRT L kb pv e (.ready i) ⟨k,x,ws,p⟩):=by
 obtain ⟨ho,hi⟩:=hp;have hi:i<x.shs.length:=hi;have hs:x.shs[i]?=some x.shs[i]:=List.getElem?_eq_getElem hi;have hrb:qd x.shs[i].ring:=ho.core.ring _ (List.getElem_mem hi)
 have hm:qqj (.ready i) ⟨k,x,ws,p⟩=x.shs[i].ring.ready:=by
  simp only [qqj,List.getD_eq_getElem?_getD,hs,Option.getD_some]
 obtain ⟨gd,gC,gW,gP,hd,hx,hw,hpp,rfl,rfl⟩:=hz;intro w hw';have T:=(TG.refl hw').sum (H':=[Qi kb L.fb pv (Qw L k) k,gd,e.1,gC,gW,gP]);refine (Qa.use (qto hx hq hs hrb) T [3] rfl rfl).mono ?_
 rintro en w' ⟨gs,⟨rfl,g',hx',rfl⟩,T'⟩;simp only [PU] at T';exact ⟨_,YRT.of ⟨_,_,by rw [hm],⟨gd,g',gW,gP,hd,hx',hw,hpp,rfl,rfl⟩,rfl⟩,T'.sum2⟩
end
section
variable {L:Lay} {x:Qj} {ws:List Qg} {p:Qy} {e:ET} {g gC gK gF:List Blk} {kb:Nat} {pv sv:Value} {k:Xf}
theorem q1e (d:Nat) (hz:Y0 L kb pv e ⟨k,x,ws,p⟩ gK gF) (hp:qe0 (.one21 d) ⟨k,x,ws,p⟩) (bk bd:Nat) (hb:zx kb bk e) (hbd:e.2[d]?=some bd) :
 Qa prog 233 #[Qb bk,Qb bd] [gK,gF] (MRT L kb pv e (runT (.one21 d) ⟨k,x,ws,p⟩).1 (runT (.one21 d) ⟨k,x,ws,p⟩).2):=by
 obtain ⟨ho,hh,hc⟩:=hp;obtain ⟨gd,gC,gW,gP,hd,hx,hw,hpp,rfl,rfl⟩:=hz;obtain ⟨i,q,s,S,hki,hq,hs,hS,hsv,hsh,hss,hwh,hwo,hrb,ht0,ht1⟩:=zm hx hw ho hh;have hwt:=qkq hx hq hs hrb;have hpo:=q2d (kb:=kb) (pv:=pv) (k:=k) hq (s.ring.tail - s.ring.head);have hon:∀ (e':ET) gK gF,Y0 L kb pv e' ⟨k,x,ws,p⟩ gK gF→zx kb bk e'→e'.2[d]?=some bd→_:=fun e' gK gF hz h1 h2=>qq0 d hz bk bd h1 h2
 simp only [runT,hss,Yx,hsh];generalize s.ring.tail - s.ring.head=n at *;by_cases hn:n≤0
 ·rw [if_pos hn] at hpo ⊢
  obtain ⟨sq,hst⟩:∃ sq,zi d ⟨k,x,ws,p⟩=(sq,⟨k,x,ws,p⟩):=⟨_,rfl⟩;rw [hst] at hon ⊢;dsimp only at hon ⊢
  refine GO fun w HT=>?_
  have HT:=Vh (HT.out.sum (H':=[Qi kb L.fb pv (Qw L k) k,gd,e.1,gC,gW,gP]));have HD:=Vh hd;have HW:=Vh hw;have HPP:=Vh hpp;have HWT:=Vh hwt;rw [← hsv] at hpo;have HPO:=Vh hpo;have HON:=Vh hon;have HSV:=Vh hsv;have HB:=Vh (show cl bk 129 #[Qb kb]∈e.1 from hb);have HBD:=Vh hbd;clear ho hh hc hx hw hd hpp hki hq hs hS hsv hsh hss hwh hwo hrb ht0 ht1 hwt hpo hon hb hbd hn hst;go_enter func233,ntmps233
  go_wp2_with fail
  have HT:=Vh (HT.out.alloc (k:=w.heap.size) rfl 180 #[.nilFunc,.nilFunc]);generalize World.alloc w _=w1 at HT ⊢;generalize w.heap.size=sb at *;have b0:=HT.out.mem_cell 2 HB.out 0;have k10:=HT.out.cell 0 0 rfl 10;have ltb:=HT.out.mem_lt 2 HB.out;have ltk:=HT.out.lt 0 0 rfl;simp only [Q9,GE3,HSV.out] at b0 k10 ltb ltk
  go_region_held3 (fun w'=>w'.cell? ⟨bk,0,none⟩=some (Qb kb)∧w'.cell? ⟨kb,10,none⟩=some (Qb q.b))
   (first
   | exact ⟨b0,k10⟩
   | exact ⟨q1,q2⟩
   | exact ⟨r1,r2⟩
   | exact ⟨s1,s2⟩
   | exact ⟨t1,t2⟩)
   (first
   | (go_at_call 235
      refine (Qa.use HWT.out HT.out.drew [3] rfl rfl).mono ?_
      rintro e w7 ⟨gs,⟨rfl,g1,hx1,rfl⟩,Ta⟩;simp only [PU] at Ta;have HT7:=Vh Ta;have HX7:=Vh hx1;clear Ta hx1;have q1:=HT7.out.mem_cell 2 HB.out 0;have q2:=HT7.out.cell 0 0 rfl 10
      simp only [Q9,GE3,HSV.out] at q1 q2)
   | (go_at_call 234
      refine (Qa.use HPO.out HT7.out [0] rfl rfl).mono ?_
      rintro e w8 ⟨gs,⟨g2,l2,⟨m2,d2,rfl,hs2⟩,rfl⟩,Ta⟩;simp only [PU] at Ta;obtain ⟨rfl,rfl,rfl⟩:=hs2 (l2,[]) (fun _ h=>h);have HT8:=Vh (Ta.sum2 (H':=[Qi kb L.fb pv (Qw L k) k,gd,e.1,g1,gW,gP,[cl sb 180 #[.nilFunc,.nilFunc]],l2]));clear Ta hs2;have r1:=HT8.out.mem_cell 2 HB.out 0;have r2:=HT8.out.cell 0 0 rfl 10;simp only [Q9,GE3,HSV.out] at r1 r2;have hth:=qhv (first:=#[]) (caps:=#[Qb bk,Qb bd]) (enters_of func236 (by kernel_rfl) rfl) (HON.out (e.1++l2,e.2) (Qi kb L.fb pv (Qw L k) k++(gd++(e.1++l2))) (g1++(gW++gP)) ⟨gd,g1,gW,gP,HD.out,HX7.out,HW.out,HPP.out,rfl,rfl⟩ (List.mem_append_left _ HB.out) HBD.out) (fun _ _ h=>MRT.fv h);have HTH:=Vh hth
      clear hth)
   | (go_at_call 140
      refine (Qa.use HTH.out (HT8.out.sum2 (H':=[Qi kb L.fb pv (Qw L k) k++(gd++(e.1++l2)),g1++(gW++gP),[cl sb 180 #[.nilFunc,.nilFunc]]])) [0,1] rfl rfl).mono ?_
      rintro e w9 ⟨gs,⟨e2,hl2,m3,d3,g3,gK3,gF3,rfl,hs3,hz3,rfl⟩,Ta⟩;simp only [PU] at Ta;have HT9:=Vh Ta;have HL2:=Vh hl2;have hbx:cl bk 129 #[Qb kb]∈e2.1:=hl2.b _ (List.mem_append_left _ HB.out);obtain ⟨gd3,gC3,gW3,gP3,hd3,hx3,hw3,hpp3,rfl,rfl⟩:=hz3;have HZ3:=Vh (show Y0 L kb pv e2 ⟨k,x,ws,p⟩ _ _ from ⟨gd3,gC3,gW3,gP3,hd3,hx3,hw3,hpp3,rfl,rfl⟩);clear Ta hl2 hd3 hx3 hw3 hpp3;have hbm:cl bk 129 #[Qb kb]∈Qi kb L.fb pv (Qw L k) k++(gd3++e2.1):=List.mem_append_right _ (List.mem_append_right _ hbx);obtain ⟨z0,z1⟩:=Ce2 (HT9.out.cell 2 0 rfl) 0 1;obtain ⟨fz0,fz1⟩:=Ce2 (HT9.out.free 2 0 rfl) 0 1;have hv2:=(Qx L kb pv _).vals hs3;have HS:=Vh hs3;have s1:=HT9.out.mem_cell 1 hbm 0;have s2:=HT9.out.cell 1 0 rfl 10;simp only [Q9,GE3,HSV.out] at z0 z1 s1 s2;obtain ⟨st1,st2⟩:=Cli.store_fv2 (P:=prog) hv2.1 hv2.2 z0 fz0 z1 fz1;have HT10:=Vh ((HT9.out.set 2 0 rfl 0 m3).set 2 0 rfl 1 d3);have t1:=HT10.out.mem_cell 1 hbm 0;have t2:=HT10.out.cell 1 0 rfl 10;simp only [Q9,GE3,HSV.out] at t1 t2
      clear hv2 hs3 hbx hbm))
  all_goals
   obtain ⟨y0,y1⟩:=Ce2 (HT10.out.cell 2 0 rfl) 0 1;simp only [Array.set!,List.setIfInBounds_toArray,List.set_cons_zero,List.set_cons_succ,GE3] at y0 y1;clear b0 k10 q1 q2 r1 r2 s1 s2 t1 t2 z0 z1 fz0 fz1 st1 st2 HT7 HT8 HT9;generalize World.setCell (World.setCell w9 _ _) _ _=w5 at HT10 y0 y1 ⊢;go_wp2
   exact bodyPost_ret (v:=.agg #[_,_]) (by simp [results,results233,go_sem,y0,y1]) rfl ⟨_,MRT.of ⟨e2,(leT.app e l2).trans HL2.out,m3,d3,g3,_,_,rfl,HS.out,HZ3.out,rfl⟩,HT10.out.pick [0,1,3] rfl⟩
 ·rw [if_neg hn] at hpo ⊢
  rw [if_neg hn];dsimp only
  refine GO fun w HT=>?_
  have HT:=Vh (HT.out.sum (H':=[Qi kb L.fb pv (Qw L k) k,gd,e.1,gC,gW,gP]));have HD:=Vh hd;have HW:=Vh hw;have HPP:=Vh hpp;have HWT:=Vh hwt;rw [← hsv] at hpo;have HPO:=Vh hpo;have HSV:=Vh hsv;have HB:=Vh (show cl bk 129 #[Qb kb]∈e.1 from hb);have HBD:=Vh hbd;clear ho hh hc hx hw hd hpp hki hq hs hS hsv hsh hss hwh hwo hrb ht0 ht1 hwt hpo hon hb hbd hn;go_enter func233,ntmps233
  go_wp2_with fail
  have HT:=Vh (HT.out.alloc (k:=w.heap.size) rfl 180 #[.nilFunc,.nilFunc]);generalize World.alloc w _=w1 at HT ⊢;generalize w.heap.size=sb at *;have b0:=HT.out.mem_cell 2 HB.out 0;have k10:=HT.out.cell 0 0 rfl 10;have ltb:=HT.out.mem_lt 2 HB.out;have ltk:=HT.out.lt 0 0 rfl;simp only [Q9,GE3,HSV.out] at b0 k10 ltb ltk
  go_region_held3 (fun w'=>w'.cell? ⟨bk,0,none⟩=some (Qb kb)∧w'.cell? ⟨kb,10,none⟩=some (Qb q.b))
   (first
   | exact ⟨b0,k10⟩
   | exact ⟨q1,q2⟩
   | exact ⟨r1,r2⟩
   | exact ⟨s1,s2⟩
   | exact ⟨t1,t2⟩)
   (first
   | (go_at_call 235
      refine (Qa.use HWT.out HT.out.drew [3] rfl rfl).mono ?_
      rintro e w7 ⟨gs,⟨rfl,g1,hx1,rfl⟩,Ta⟩;simp only [PU] at Ta;have HT7:=Vh Ta;have HX7:=Vh hx1;clear Ta hx1;have q1:=HT7.out.mem_cell 2 HB.out 0;have q2:=HT7.out.cell 0 0 rfl 10
      simp only [Q9,GE3,HSV.out] at q1 q2)
   | (go_at_call 234
      refine (Qa.use HPO.out HT7.out [0] rfl rfl).mono ?_
      rintro e w8 ⟨gs,⟨g2,l2,⟨m2,d2,rfl,hs2⟩,rfl⟩,Ta⟩;simp only [PU] at Ta;have HT8:=Vh (Ta.sum2 (H':=[Qi kb L.fb pv (Qw L k) k,gd,e.1,g1,gW,gP,[cl sb 180 #[.nilFunc,.nilFunc]],l2,g2,[]]));have HS2:=Vh hs2;clear Ta hs2;have r1:=HT8.out.mem_cell 2 HB.out 0;have r2:=HT8.out.cell 0 0 rfl 10
      simp only [Q9,GE3,HSV.out] at r1 r2)
   | (go_at_call 140
      refine (Qa.use (Cli.prog_then_x (c:=(qh8 L kb pv).on (e.1++l2,e.2)) (s:=.at (some (.ready i)) (.pops1 n)) (f:=MT.one211 d) (v:=.func (.func 236) #[] #[Qb bk,Qb bd]) (gm:=[]) (Qx L kb pv _) rfl (HS2.out (e.1++l2,e.2) (fun b hb=>List.mem_append_right _ hb)) ⟨rfl,bk,bd,rfl,List.mem_append_left _ HB.out,HBD.out⟩) HT8.out [8,9] rfl rfl).mono ?_
      rintro e w9 ⟨gs,⟨bs,br,rfl,rfl⟩,Ta⟩;simp only [PU] at Ta;have HT9:=Vh Ta;clear Ta;have s1:=HT9.out.mem_cell 2 HB.out 0;have s2:=HT9.out.cell 0 0 rfl 10;obtain ⟨z0,z1⟩:=Ce2 (HT9.out.cell 6 0 rfl) 0 1;obtain ⟨fz0,fz1⟩:=Ce2 (HT9.out.free 6 0 rfl) 0 1;have hv2:=(Qx L kb pv _).vals (HS2.out (e.1++l2,e.2) (fun b hb=>List.mem_append_right _ hb));simp only [Q9,GE3,HSV.out] at s1 s2 z0 z1;obtain ⟨st1,st2⟩:=Cli.store_fv2 (P:=prog) (v':=.func (.func 167) #[] #[Qb bs,Qb br]) hv2.1 (Or.inr ⟨_,_,_,rfl⟩) z0 fz0 z1 fz1;have HT10:=Vh ((HT9.out.set 6 0 rfl 0 m2).set 6 0 rfl 1 (.func (.func 167) #[] #[Qb bs,Qb br]));have t1:=HT10.out.mem_cell 2 HB.out 0;have t2:=HT10.out.cell 0 0 rfl 10;simp only [Q9,GE3,HSV.out] at t1 t2
      clear hv2))
  all_goals
   have HS:=Vh (HS2.out (e.1++l2,e.2) (fun b hb=>List.mem_append_right _ hb));obtain ⟨y0,y1⟩:=Ce2 (HT10.out.cell 6 0 rfl) 0 1;simp only [Array.set!,List.setIfInBounds_toArray,List.set_cons_zero,List.set_cons_succ,GE3] at y0 y1;clear b0 k10 q1 q2 r1 r2 s1 s2 t1 t2 z0 z1 fz0 fz1 st1 st2 HT7 HT8 HT9;generalize World.setCell (World.setCell w9 _ _) _ _=w5 at HT10 y0 y1 ⊢;go_wp2
   exact bodyPost_ret (v:=.agg #[_,_]) (by simp [results,results233,go_sem,y0,y1]) rfl ⟨_,MRT.of ⟨(e.1++l2,e.2),leT.app e l2,_,_,_,_,_,rfl,⟨bs,br,_,_,g2,[],rfl,rfl,HS.out,⟨rfl,bk,bd,rfl,List.mem_append_left _ HB.out,HBD.out⟩,rfl⟩,⟨gd,g1,gW,gP,HD.out,HX7.out,HW.out,HPP.out,(rfl:Qi kb L.fb pv (Qw L k) k++(gd++(e.1++l2))=_),rfl⟩,rfl⟩,(HT10.out.pick [8,0,1,2,7,3,4,5] rfl).sum2⟩
end
end
end Go.Proofs.YtikpbibeagbccaaGreat
