import Derived.Test.YtcneeepdclgdcaaGreatSE22
import Derived.Test.YtcneeepdclgdcaaGreatSE14
set_option maxRecDepth 100000
set_option maxHeartbeats 4000000
namespace Go.Proofs.YtcneeepdclgdcaaGreat
open Go.Value renaming int->U1,nilFunc->U2,pointer->U4,func->U6,tuple->UE,agg->UL
open Go.IntKind renaming u64->U3,i64->U5
open Go.Fn renaming func->U7
open Go renaming wpQuiet_nil->U8,bodyPost_ret->UA,bodyPost_end->UI,results_none->UJ
open Go.Ending renaming returned->U9
open _root_.List renaming cons_append->UB,nil_append->UC,mem_of_getElem?->UG,getElem?_eq_getElem->UH,length_append->UM,length_set->UN
open _root_.Option renaming isSome_iff_exists->UD
open Go.World renaming setCell->UF,alloc->UK,drewN->UO
set_option linter.all false
open Go.Proofs.Tryz
section
open Go.RowKit Go.Shelf
theorem DV (n:Int) (h0:0<=n) (h1:n<18446744073709551616):Qd prog 229 #[U1 U3 n] [] (U1 U3 (Xv n)) :=
 fun w hw=>(F9 n w h0 h1).mono fun e w' ⟨he,hw'⟩=>⟨he,0,hw'.symm⟩
section
variable {L:Lay} {x:Qi} {gK gF:List ak} {kb:Nat} {pv:Value} {k:Qv}
theorem q7i (hz:kg L kb pv k x gK gF) (hp:qQ .tries (k,x)):Qa prog 188 #[Qb kb] [gK,gF] (fG L kb pv (J1 .tries (k,x))):=by
 obtain ⟨hok,hwk,_⟩:=hp;simp only at hok hwk;have hwb:=KS hok.aa k.slot k.aB k.event hwk.aB.1 hwk.aB.2.1 hwk.aB.2.2;have nE:=Vh (show ∀ g,Qf L x g->_ from fun g hx=>AO (g:=g) hx hok.aa.n1 k.slot k.aB k.event hwk.aB.1 hwk.aB.2.1)
 have hE:∀ s2 w2 er,x.aa.try k.slot k.aB k.event=(s2,w2,er)->J1 .tries (k,x) =
  if er≠0 then (if k.kind=3 then (.at none .again,({ k with gen:=Xv w2 },{ x with aa:=s2 })) else (.at none .looks,({ k with gen:=Xv w2 },{ x with aa:=s2 })))
  else if k.kind=3 then (.at none .fills,qc { bL with kind:=6,id:=k.id,gen:=Xv w2,dl:=k.jJ } (iQ { k with gen:=Xv w2 },{ x with aa:=s2 }))
  else if k.kind=5 then (.aj .aS,qc { bL with kind:=8,id:=k.id,gen:=Xv w2 } (iQ { k with gen:=Xv w2 },{ x with aa:=s2 }))
  else (.thn (.aO .bK .drop) .ends,qc { bL with kind:=7,id:=k.id,gen:=Xv w2 } (iQ { k with gen:=Xv w2 },{ x with aa:=s2 })):=by
  intro s2 w2 er h
  show (if (Zr (k,x)).2≠0 then _ else _)=_
  simp only [Zr,h]
 obtain ⟨s2,w2,er,hl⟩:∃ s2 w2 er,x.aa.try k.slot k.aB k.event=(s2,w2,er):=⟨_,_,_,rfl⟩;rw [hE s2 w2 er hl];rw [hl] at nE hwb;have gp:=Vh hwb;have dJ:=Vh (show ({ x with aa:=s2 }:Qi).tr.length<=1000000 from hok.tr);clear hE hl hok hwk hwb;by_cases h0:er=0
 ·rw [if_neg (by simpa using h0)]
  rw [h0] at nE;clear h0;by_cases h3:k.kind=3
  ·rw [if_pos h3]
   unfold fG;dsimp only [qc,iQ]
   obtain ⟨rv,tv,gq,gt,hr,ht,rfl,hx⟩:=hz;refine GO fun w HT=>?_
   have HT:=Vh (HT.out.m [Qt kb L.fb pv rv tv k,gq,gt,gF]);have HX:=Vh hx;have HR:=Vh hr;have dK:=Vh ht;clear hx hr ht;go_enter func188,ntmps188
   go_wp2
   have HT:=Vh ((HT.a 33 #[Qb kb]).alloc (k:=w.heap.size+1) (by simp) 153 #[U2,U2]);generalize UK _ _=wa at HT |-;simp only [UB,UC] at HT;have b0:=HT.c 4 0 0;simp only [aN] at b0;obtain ⟨k0,k16,k17⟩:=HT.c3 0 0 0 16 17;simp only [Qq,az] at k0 k16 k17;refine Mx 15 ?_
   simp only [bY]
   repeat (go_big_quiet_step ((first | (go_at_call 19;with_reducible exact Qd.quiet (Qn HX.out) HT.out _ [3] rfl rfl) | (go_at_call 226;with_reducible exact Qd.quiet (qx (L:=L)) HT.out _ [0] rfl rfl))))
   refine U8 (QT HT fun nq HT=>?_)
   go_wp2_with fail
   refine Qa.run (nE _ HX) (HT) [3] ?_
   rintro e w1 gs ⟨rfl,g1,hx1,rfl⟩ HT;simp only [PU] at HT;have HX:=Vh hx1;clear hx1 k0 k16 k17 b0;go_wp2_with fail
   refine ⟨rfl,?_⟩
   have b0:=HT.c 4 0 0;simp only [aN] at b0;have k18:=HT.c 0 0 18;have kD:=HT.f 0 0 18;simp only [Qq,az] at k18;go_wp2
   refine Mx 3 ?_
   simp only [bY]
   repeat (go_big_quiet_step ((first | (go_at_call 229;with_reducible exact Qd.quiet (DV _ gp.out.1 gp.out.2) HT.out _ [] rfl rfl))))
   refine U8 (QT HT fun nq HT=>?_)
   go_wp2_with fail
   refine ⟨rfl,?_⟩
   have HT:=Vh ((HT.set 0 0 rfl 18 (U1 U3 (Xv w2))).eq (H':=[Qt kb L.fb pv rv tv { k with gen:=Xv w2 },gq,gt,g1,[cl w.heap.size 33 #[Qb kb]],[cl (w.heap.size+1) 153 #[U2,U2]]]) rfl);clear b0 k18 kD;generalize UF _ _ _=w4 at HT |-;have b0:=HT.c 4 0 0;simp only [aN] at b0;obtain ⟨k3,k15,k18,k7,k8,k9,k10,k11⟩:=HT.c8 0 0 3 15 18 7 8 9 10 11;obtain ⟨p8,rH,rJ,iK,lu⟩:=HT.f5 0 0 7 8 9 10 11;simp only [Qq,az] at k3 k15 k18 k7 k8 k9 k10 k11;go_wp2
   refine Mx 10 ?_
   simp only [bY]
   repeat (go_big_quiet_step ((fail)))
   refine U8 (QT HT fun nq HT=>?_)
   go_wp2_with fail
   refine ⟨rfl,?_⟩
   have HT:=Vh ((((((HT.set 0 0 rfl 7 (U1 U5 0)).set 0 0 rfl 8 (.bool true)).set 0 0 rfl 9 (U1 U3 k.id)).set 0 0 rfl 10 (U1 U3 (Xv w2))).set 0 0 rfl 11 (.slice none 0 0)).eq (H':=[Qt kb L.fb pv rv tv { k with gen:=Xv w2,err:=0,ok:=true,nI:=k.id,iJ:=Xv w2 },gq,gt,g1,[cl w.heap.size 33 #[Qb kb]],[cl (w.heap.size+1) 153 #[U2,U2]]]) rfl);clear b0 k3 k15 k18 k7 k8 k9 k10 k11 p8 rH rJ iK lu;generalize UF _ _ _=w5 at HT |-;have b0:=HT.c 4 0 0;simp only [aN] at b0;obtain ⟨k3,k5,k15,k18⟩:=HT.c4 0 0 3 5 15 18;simp only [Qq,az] at k3 k5 k15 k18;rw [h3] at k3;clear h3;go_wp2
   refine Mx 15 ?_
   simp only [bY]
   repeat (go_big_quiet_step ((fail)))
   refine U8 (QT HT fun nq HT=>?_)
   go_wp2_with fail
   refine Qa.run (Yu HX { bL with kind:=6,id:=k.id,gen:=Xv w2,dl:=k.jJ } dJ) (HT) [0,3] ?_
   rintro e w1 gs ⟨rfl,g2,hx2,rfl⟩ HT;simp only [PU] at HT;have HX:=Vh hx2;clear hx2 k3 k5 k15 k18 b0;go_wp2_with fail
   refine ⟨rfl,?_⟩
   have b0:=HT.c 4 0 0;simp only [aN] at b0;go_wp2_with fail
   refine Qa.run Zb HT [] ?_
   rintro e w1 gs ⟨rfl,rfl⟩ HT;simp only [PU] at HT;obtain ⟨e0,e1⟩:=HT.c2 5 0 0 1;obtain ⟨ek,dZ⟩:=HT.f2 5 0 0 1;simp only [aN] at e0 e1;go_wp2
   exact UA (v:=.agg #[U2,U6 (U7 230) #[Qb kb] #[]]) (by simp [results,results188,go_sem,e0,e1]) rfl ⟨_,⟨_,_,[],_,_,rfl,⟨rfl,rfl,rfl⟩,⟨_,_,gq,gt,HR,dK,rfl,HX⟩,rfl⟩,(((HT.set 5 0 rfl 0 _).set 5 0 rfl 1 _).p [0,1,2,3]).sum⟩
  ·rw [if_neg h3]
   by_cases h5:k.kind=5
   ·rw [if_pos h5]
    clear h3;unfold fG;dsimp only [qc,iQ]
    obtain ⟨rv,tv,gq,gt,hr,ht,rfl,hx⟩:=hz;refine GO fun w HT=>?_
    have HT:=Vh (HT.out.m [Qt kb L.fb pv rv tv k,gq,gt,gF]);have HX:=Vh hx;have HR:=Vh hr;have dK:=Vh ht;clear hx hr ht;go_enter func188,ntmps188
    go_wp2
    have HT:=Vh ((HT.a 33 #[Qb kb]).alloc (k:=w.heap.size+1) (by simp) 153 #[U2,U2]);generalize UK _ _=wa at HT |-;simp only [UB,UC] at HT;have b0:=HT.c 4 0 0;simp only [aN] at b0;obtain ⟨k0,k16,k17⟩:=HT.c3 0 0 0 16 17;simp only [Qq,az] at k0 k16 k17;refine Mx 15 ?_
    simp only [bY]
    repeat (go_big_quiet_step ((first | (go_at_call 19;with_reducible exact Qd.quiet (Qn HX.out) HT.out _ [3] rfl rfl) | (go_at_call 226;with_reducible exact Qd.quiet (qx (L:=L)) HT.out _ [0] rfl rfl))))
    refine U8 (QT HT fun nq HT=>?_)
    go_wp2_with fail
    refine Qa.run (nE _ HX) (HT) [3] ?_
    rintro e w1 gs ⟨rfl,g1,hx1,rfl⟩ HT;simp only [PU] at HT;have HX:=Vh hx1;clear hx1 k0 k16 k17 b0;go_wp2_with fail
    refine ⟨rfl,?_⟩
    have b0:=HT.c 4 0 0;simp only [aN] at b0;have k18:=HT.c 0 0 18;have kD:=HT.f 0 0 18;simp only [Qq,az] at k18;go_wp2
    refine Mx 3 ?_
    simp only [bY]
    repeat (go_big_quiet_step ((first | (go_at_call 229;with_reducible exact Qd.quiet (DV _ gp.out.1 gp.out.2) HT.out _ [] rfl rfl))))
    refine U8 (QT HT fun nq HT=>?_)
    go_wp2_with fail
    refine ⟨rfl,?_⟩
    have HT:=Vh ((HT.set 0 0 rfl 18 (U1 U3 (Xv w2))).eq (H':=[Qt kb L.fb pv rv tv { k with gen:=Xv w2 },gq,gt,g1,[cl w.heap.size 33 #[Qb kb]],[cl (w.heap.size+1) 153 #[U2,U2]]]) rfl);clear b0 k18 kD;generalize UF _ _ _=w4 at HT |-;have b0:=HT.c 4 0 0;simp only [aN] at b0;obtain ⟨k3,k15,k18,k7,k8,k9,k10,k11⟩:=HT.c8 0 0 3 15 18 7 8 9 10 11;obtain ⟨p8,rH,rJ,iK,lu⟩:=HT.f5 0 0 7 8 9 10 11;simp only [Qq,az] at k3 k15 k18 k7 k8 k9 k10 k11;go_wp2
    refine Mx 10 ?_
    simp only [bY]
    repeat (go_big_quiet_step ((fail)))
    refine U8 (QT HT fun nq HT=>?_)
    go_wp2_with fail
    refine ⟨rfl,?_⟩
    have HT:=Vh ((((((HT.set 0 0 rfl 7 (U1 U5 0)).set 0 0 rfl 8 (.bool true)).set 0 0 rfl 9 (U1 U3 k.id)).set 0 0 rfl 10 (U1 U3 (Xv w2))).set 0 0 rfl 11 (.slice none 0 0)).eq (H':=[Qt kb L.fb pv rv tv { k with gen:=Xv w2,err:=0,ok:=true,nI:=k.id,iJ:=Xv w2 },gq,gt,g1,[cl w.heap.size 33 #[Qb kb]],[cl (w.heap.size+1) 153 #[U2,U2]]]) rfl);clear b0 k3 k15 k18 k7 k8 k9 k10 k11 p8 rH rJ iK lu;generalize UF _ _ _=w5 at HT |-;have b0:=HT.c 4 0 0;simp only [aN] at b0;obtain ⟨k3,k5,k15,k18⟩:=HT.c4 0 0 3 5 15 18;simp only [Qq,az] at k3 k5 k15 k18;rw [h5] at k3;clear h5;go_wp2
    refine Mx 10 ?_
    simp only [bY]
    repeat (go_big_quiet_step ((fail)))
    refine U8 (QT HT fun nq HT=>?_)
    go_wp2_with fail
    refine Qa.run (Yu HX { bL with kind:=8,id:=k.id,gen:=Xv w2 } dJ) (HT) [0,3] ?_
    rintro e w1 gs ⟨rfl,g2,hx2,rfl⟩ HT;simp only [PU] at HT;have HX:=Vh hx2;clear hx2 k3 k5 k15 k18 b0;go_wp2_with fail
    refine ⟨rfl,?_⟩
    have b0:=HT.c 4 0 0;simp only [aN] at b0;go_wp2_with fail
    refine Qa.run (Bp L kb pv) (HT) [] ?_
    rintro e w1 gs ⟨m2,d2,g2,rfl,hs2,rfl⟩ HT;simp only [PU] at HT;obtain ⟨e0,e1⟩:=HT.c2 5 0 0 1;obtain ⟨ek,dZ⟩:=HT.f2 5 0 0 1;simp only [aN] at e0 e1;have hv2:=(Xk L kb pv).vals hs2;obtain ⟨st1,st2⟩:=aV.aD (P:=prog) hv2.1 hv2.2 e0 ek e1 dZ;have HS:=Vh hs2;clear hv2 hs2;go_wp2
    exact UA (v:=.agg #[_,_]) (by simp [results,results188,go_sem,e0,e1]) rfl ⟨_,⟨m2,d2,g2,_,_,rfl,HS,⟨_,_,gq,gt,HR,dK,rfl,HX⟩,rfl⟩,(((HT.set 5 0 rfl 0 _).set 5 0 rfl 1 _).p [0,1,2,3,6]).sum⟩
   ·rw [if_neg h5]
    have hb3:(k.kind == 3)=false:=beq_eq_false_iff_ne.2 h3;have hb5:(k.kind == 5)=false:=beq_eq_false_iff_ne.2 h5;clear h3 h5;unfold fG;dsimp only [qc,iQ]
    obtain ⟨rv,tv,gq,gt,hr,ht,rfl,hx⟩:=hz;refine GO fun w HT=>?_
    have HT:=Vh (HT.out.m [Qt kb L.fb pv rv tv k,gq,gt,gF]);have HX:=Vh hx;have HR:=Vh hr;have dK:=Vh ht;clear hx hr ht;go_enter func188,ntmps188
    go_wp2
    have HT:=Vh ((HT.a 33 #[Qb kb]).alloc (k:=w.heap.size+1) (by simp) 153 #[U2,U2]);generalize UK _ _=wa at HT |-;simp only [UB,UC] at HT;have b0:=HT.c 4 0 0;simp only [aN] at b0;obtain ⟨k0,k16,k17⟩:=HT.c3 0 0 0 16 17;simp only [Qq,az] at k0 k16 k17;refine Mx 15 ?_
    simp only [bY]
    repeat (go_big_quiet_step ((first | (go_at_call 19;with_reducible exact Qd.quiet (Qn HX.out) HT.out _ [3] rfl rfl) | (go_at_call 226;with_reducible exact Qd.quiet (qx (L:=L)) HT.out _ [0] rfl rfl))))
    refine U8 (QT HT fun nq HT=>?_)
    go_wp2_with fail
    refine Qa.run (nE _ HX) (HT) [3] ?_
    rintro e w1 gs ⟨rfl,g1,hx1,rfl⟩ HT;simp only [PU] at HT;have HX:=Vh hx1;clear hx1 k0 k16 k17 b0;go_wp2_with fail
    refine ⟨rfl,?_⟩
    have b0:=HT.c 4 0 0;simp only [aN] at b0;have k18:=HT.c 0 0 18;have kD:=HT.f 0 0 18;simp only [Qq,az] at k18;go_wp2
    refine Mx 3 ?_
    simp only [bY]
    repeat (go_big_quiet_step ((first | (go_at_call 229;with_reducible exact Qd.quiet (DV _ gp.out.1 gp.out.2) HT.out _ [] rfl rfl))))
    refine U8 (QT HT fun nq HT=>?_)
    go_wp2_with fail
    refine ⟨rfl,?_⟩
    have HT:=Vh ((HT.set 0 0 rfl 18 (U1 U3 (Xv w2))).eq (H':=[Qt kb L.fb pv rv tv { k with gen:=Xv w2 },gq,gt,g1,[cl w.heap.size 33 #[Qb kb]],[cl (w.heap.size+1) 153 #[U2,U2]]]) rfl);clear b0 k18 kD;generalize UF _ _ _=w4 at HT |-;have b0:=HT.c 4 0 0;simp only [aN] at b0;obtain ⟨k3,k15,k18,k7,k8,k9,k10,k11⟩:=HT.c8 0 0 3 15 18 7 8 9 10 11;obtain ⟨p8,rH,rJ,iK,lu⟩:=HT.f5 0 0 7 8 9 10 11;simp only [Qq,az] at k3 k15 k18 k7 k8 k9 k10 k11;go_wp2
    refine Mx 10 ?_
    simp only [bY]
    repeat (go_big_quiet_step ((fail)))
    refine U8 (QT HT fun nq HT=>?_)
    go_wp2_with fail
    refine ⟨rfl,?_⟩
    have HT:=Vh ((((((HT.set 0 0 rfl 7 (U1 U5 0)).set 0 0 rfl 8 (.bool true)).set 0 0 rfl 9 (U1 U3 k.id)).set 0 0 rfl 10 (U1 U3 (Xv w2))).set 0 0 rfl 11 (.slice none 0 0)).eq (H':=[Qt kb L.fb pv rv tv { k with gen:=Xv w2,err:=0,ok:=true,nI:=k.id,iJ:=Xv w2 },gq,gt,g1,[cl w.heap.size 33 #[Qb kb]],[cl (w.heap.size+1) 153 #[U2,U2]]]) rfl);clear b0 k3 k15 k18 k7 k8 k9 k10 k11 p8 rH rJ iK lu;generalize UF _ _ _=w5 at HT |-;have b0:=HT.c 4 0 0;simp only [aN] at b0;obtain ⟨k3,k5,k15,k18⟩:=HT.c4 0 0 3 5 15 18;simp only [Qq,az] at k3 k5 k15 k18;go_wp2
    refine Mx 10 ?_
    simp only [bY]
    repeat (go_big_quiet_step ((fail)))
    refine U8 (QT HT fun nq HT=>?_)
    go_wp2_with fail
    refine Qa.run (Yu HX { bL with kind:=7,id:=k.id,gen:=Xv w2 } dJ) (HT) [0,3] ?_
    rintro e w1 gs ⟨rfl,g2,hx2,rfl⟩ HT;simp only [PU] at HT;have HX:=Vh hx2;clear hx2 k3 k5 k15 k18 b0;go_wp2_with fail
    refine ⟨rfl,?_⟩
    have b0:=HT.c 4 0 0;simp only [aN] at b0;go_wp2_with fail
    refine q5s (L:=L) (pv:=pv) (g0:=Qt kb L.fb pv rv tv { k with gen:=Xv w2,err:=0,ok:=true,nI:=k.id,iJ:=Xv w2 }) (g1:=gq) (g2:=gt) (g3:=g2) HT ?_
    intro w9 m2 d2 g9 Es Et Eu Ev v117 Ew Ex Ey hs2 T9;have hv2:=(Xk L kb pv).vals hs2;have HS2:=Vh hs2;have HT:=Vh T9;clear T9 hs2 b0;obtain ⟨e0,e1⟩:=HT.c2 5 0 0 1;simp only [aN] at e0 e1;go_wp2
    exact UA (v:=.agg #[m2,d2]) (by simp [results,results188,go_sem,e0,e1]) rfl ⟨_,⟨m2,d2,g9,_,_,rfl,HS2,⟨_,_,gq,gt,HR,dK,rfl,HX⟩,rfl⟩,(HT.p [0,1,2,3,4]).sum⟩
 ·rw [if_pos h0]
  have hbe:(er != 0)=true:=bne_iff_ne.2 h0;clear h0;by_cases h3:k.kind=3
  ·rw [if_pos h3]
   unfold fG;dsimp only [qc,iQ]
   obtain ⟨rv,tv,gq,gt,hr,ht,rfl,hx⟩:=hz;refine GO fun w HT=>?_
   have HT:=Vh (HT.out.m [Qt kb L.fb pv rv tv k,gq,gt,gF]);have HX:=Vh hx;have HR:=Vh hr;have dK:=Vh ht;clear hx hr ht;go_enter func188,ntmps188
   go_wp2
   have HT:=Vh ((HT.a 33 #[Qb kb]).alloc (k:=w.heap.size+1) (by simp) 153 #[U2,U2]);generalize UK _ _=wa at HT |-;simp only [UB,UC] at HT;have b0:=HT.c 4 0 0;simp only [aN] at b0;obtain ⟨k0,k16,k17⟩:=HT.c3 0 0 0 16 17;simp only [Qq,az] at k0 k16 k17;refine Mx 15 ?_
   simp only [bY]
   repeat (go_big_quiet_step ((first | (go_at_call 19;with_reducible exact Qd.quiet (Qn HX.out) HT.out _ [3] rfl rfl) | (go_at_call 226;with_reducible exact Qd.quiet (qx (L:=L)) HT.out _ [0] rfl rfl))))
   refine U8 (QT HT fun nq HT=>?_)
   go_wp2_with fail
   refine Qa.run (nE _ HX) (HT) [3] ?_
   rintro e w1 gs ⟨rfl,g1,hx1,rfl⟩ HT;simp only [PU] at HT;have HX:=Vh hx1;clear hx1 k0 k16 k17 b0;go_wp2_with fail
   refine ⟨rfl,?_⟩
   have b0:=HT.c 4 0 0;simp only [aN] at b0;have k18:=HT.c 0 0 18;have kD:=HT.f 0 0 18;simp only [Qq,az] at k18;go_wp2
   refine Mx 3 ?_
   simp only [bY]
   repeat (go_big_quiet_step ((first | (go_at_call 229;with_reducible exact Qd.quiet (DV _ gp.out.1 gp.out.2) HT.out _ [] rfl rfl))))
   refine U8 (QT HT fun nq HT=>?_)
   go_wp2_with fail
   refine ⟨rfl,?_⟩
   have HT:=Vh ((HT.set 0 0 rfl 18 (U1 U3 (Xv w2))).eq (H':=[Qt kb L.fb pv rv tv { k with gen:=Xv w2 },gq,gt,g1,[cl w.heap.size 33 #[Qb kb]],[cl (w.heap.size+1) 153 #[U2,U2]]]) rfl);clear b0 k18 kD;generalize UF _ _ _=w4 at HT |-;have b0:=HT.c 4 0 0;simp only [aN] at b0;have k3:=HT.c 0 0 3;simp only [Qq,az] at k3;rw [h3] at k3;clear h3;go_wp2_with fail
   refine Qa.run Zb HT [] ?_
   rintro e w1 gs ⟨rfl,rfl⟩ HT;simp only [PU] at HT;obtain ⟨e0,e1⟩:=HT.c2 5 0 0 1;obtain ⟨ek,dZ⟩:=HT.f2 5 0 0 1;simp only [aN] at e0 e1;go_wp2
   exact UA (v:=.agg #[U2,U6 (U7 221) #[Qb kb] #[]]) (by simp [results,results188,go_sem,e0,e1]) rfl ⟨_,⟨_,_,[],_,_,rfl,⟨rfl,rfl,rfl⟩,⟨_,_,gq,gt,HR,dK,rfl,HX⟩,rfl⟩,(((HT.set 5 0 rfl 0 _).set 5 0 rfl 1 _).p [0,1,2,3]).sum⟩
  ·rw [if_neg h3]
   have hb3:(k.kind == 3)=false:=beq_eq_false_iff_ne.2 h3;clear h3;unfold fG;dsimp only [qc,iQ]
   obtain ⟨rv,tv,gq,gt,hr,ht,rfl,hx⟩:=hz;refine GO fun w HT=>?_
   have HT:=Vh (HT.out.m [Qt kb L.fb pv rv tv k,gq,gt,gF]);have HX:=Vh hx;have HR:=Vh hr;have dK:=Vh ht;clear hx hr ht;go_enter func188,ntmps188
   go_wp2
   have HT:=Vh ((HT.a 33 #[Qb kb]).alloc (k:=w.heap.size+1) (by simp) 153 #[U2,U2]);generalize UK _ _=wa at HT |-;simp only [UB,UC] at HT;have b0:=HT.c 4 0 0;simp only [aN] at b0;obtain ⟨k0,k16,k17⟩:=HT.c3 0 0 0 16 17;simp only [Qq,az] at k0 k16 k17;refine Mx 15 ?_
   simp only [bY]
   repeat (go_big_quiet_step ((first | (go_at_call 19;with_reducible exact Qd.quiet (Qn HX.out) HT.out _ [3] rfl rfl) | (go_at_call 226;with_reducible exact Qd.quiet (qx (L:=L)) HT.out _ [0] rfl rfl))))
   refine U8 (QT HT fun nq HT=>?_)
   go_wp2_with fail
   refine Qa.run (nE _ HX) (HT) [3] ?_
   rintro e w1 gs ⟨rfl,g1,hx1,rfl⟩ HT;simp only [PU] at HT;have HX:=Vh hx1;clear hx1 k0 k16 k17 b0;go_wp2_with fail
   refine ⟨rfl,?_⟩
   have b0:=HT.c 4 0 0;simp only [aN] at b0;have k18:=HT.c 0 0 18;have kD:=HT.f 0 0 18;simp only [Qq,az] at k18;go_wp2
   refine Mx 3 ?_
   simp only [bY]
   repeat (go_big_quiet_step ((first | (go_at_call 229;with_reducible exact Qd.quiet (DV _ gp.out.1 gp.out.2) HT.out _ [] rfl rfl))))
   refine U8 (QT HT fun nq HT=>?_)
   go_wp2_with fail
   refine ⟨rfl,?_⟩
   have HT:=Vh ((HT.set 0 0 rfl 18 (U1 U3 (Xv w2))).eq (H':=[Qt kb L.fb pv rv tv { k with gen:=Xv w2 },gq,gt,g1,[cl w.heap.size 33 #[Qb kb]],[cl (w.heap.size+1) 153 #[U2,U2]]]) rfl);clear b0 k18 kD;generalize UF _ _ _=w4 at HT |-;have b0:=HT.c 4 0 0;simp only [aN] at b0;have k3:=HT.c 0 0 3;simp only [Qq,az] at k3;go_wp2_with fail
   refine Qa.run Zb HT [] ?_
   rintro e w1 gs ⟨rfl,rfl⟩ HT;simp only [PU] at HT;obtain ⟨e0,e1⟩:=HT.c2 5 0 0 1;obtain ⟨ek,dZ⟩:=HT.f2 5 0 0 1;simp only [aN] at e0 e1;go_wp2
   exact UA (v:=.agg #[U2,U6 (U7 144) #[Qb kb] #[]]) (by simp [results,results188,go_sem,e0,e1]) rfl ⟨_,⟨_,_,[],_,_,rfl,⟨rfl,rfl,rfl⟩,⟨_,_,gq,gt,HR,dK,rfl,HX⟩,rfl⟩,(((HT.set 5 0 rfl 0 _).set 5 0 rfl 1 _).p [0,1,2,3]).sum⟩
end
section
variable {L:Lay} {x:Qi} {gK gF:List ak} {kb:Nat} {pv:Value} {k:Qv}
theorem q4i (hz:kg L kb pv k x gK gF) (hp:qQ .aX (k,x)):Qa prog 186 #[Qb kb] [gK,gF] (fG L kb pv (J1 .aX (k,x))):=by
 obtain ⟨hok,hwk,hpr⟩:=hp;simp only at hok hwk hpr;obtain ⟨⟨i,t⟩,jc⟩:=UD.1 hpr;obtain ⟨htb,hi⟩:=hwk.tk i t jc;obtain ⟨s,hs⟩:∃ s,x.au[i]?=some s:=⟨_,UH hi⟩;have hrb:=hok.ring s (UG hs);have yE:=q46 hrb htb;have dJ:=Vh hok.tr
 have hE:J1 .aX (k,x)=Ze (k,x) i t s:=by
  show (match k.tk with | none=>_ | some (i,t)=>_)=_
  rw [jc]
  show (match x.au[i]? with | none=>_ | some s=>_)=_
  rw [hs]
 rw [hE];obtain ⟨rv,tv,gq,gt,hr,ht,rfl,hx⟩:=hz;rw [jc] at ht;obtain ⟨tb,qs,iE,rfl,rfl⟩:=ht;clear hE hwk hpr jc hi hok;obtain ⟨r2,t2,hr2⟩:∃ r2 t2,stepT s.ring t=(r2,t2):=⟨_,_,rfl⟩;rw [hr2] at yE;have pK:=yE.st;simp only at pK;clear yE;by_cases h0:t2.status=0
 ·have hst:(stepT s.ring t).2.status=0:=by rw [hr2];exact h0
  have HZ:Ze (k,x) i t s=(.at none .aX,({ k with tk:=some (i,t2) },{ x with au:=x.au.set i { s with ring:=r2 } })):=by unfold Ze;simp only [hr2];rw [if_pos h0]
  clear h0 pK;rw [HZ];unfold fG;dsimp only [Ql]
  clear HZ;refine GO fun w HT=>?_
  have HT:=Vh (HT.out.m [Qt kb L.fb pv rv (Qb tb) k,gq,Xo tb qs.rb t,gF]);have HX:=Vh hx;have HR:=Vh hr;have mo:=Vh iE;have om:=Vh (Dw hx iE hs tb t hrb htb);rw [hst,hr2] at om;clear hx hr iE hs hrb htb;have k14:=HT.c 0 0 14;simp only [Qq,az] at k14;have lt:=HT.l 0 0;simp only [] at lt;clear hst hr2;go_enter func186,ntmps186
  go_wp2_with fail
  refine Qa.run om (HT.a _ _) [2,3] ?_
  rintro e w1 gs ⟨rfl,g1,hx1,rfl⟩ HT;simp only [PU] at HT;have HX:=Vh hx1;clear hx1 k14 lt;have HT:=Vh (HT.out.eq (H':=[Qt kb L.fb pv rv (Qb tb) { k with tk:=some (i,t2) },gq,Xo tb qs.rb t2,g1,[cl w.heap.size 153 #[U2,U2]]]) rfl);have k3:=HT.c 0 0 3;simp only [Qq,az] at k3;clear k3;go_wp2_with fail
  refine Qa.run Zb HT [] ?_
  rintro e w1 gs ⟨rfl,rfl⟩ HT;simp only [PU] at HT;obtain ⟨e0,e1⟩:=HT.c2 4 0 0 1;obtain ⟨ek,dZ⟩:=HT.f2 4 0 0 1;simp only [aN] at e0 e1;go_wp2
  exact UA (v:=.agg #[U2,U6 (U7 186) #[Qb kb] #[]]) (by simp [results,results186,go_sem,e0,e1]) rfl ⟨_,⟨_,_,[],_,_,rfl,⟨rfl,rfl,rfl⟩,⟨_,_,gq,(Xo tb qs.rb t2),HR,⟨tb,qs,mo,rfl,rfl⟩,rfl,HX⟩,rfl⟩,(((HT.set 4 0 rfl 0 _).set 4 0 rfl 1 _).p [0,1,2,3]).sum⟩
 ·by_cases h1:t2.status=1
  ·have hst:(stepT s.ring t).2.status=1:=by rw [hr2];exact h1
   by_cases h3:k.kind=3
   ·have HZ:Ze (k,x) i t s=(Ji,Ql 2 ({ k with tk:=some (i,t2) },{ x with au:=x.au.set i { s with ring:=r2 } })):=by unfold Ze;simp only [hr2];rw [if_neg h0,if_pos ⟨h1,h3⟩]
    clear h0 h1 pK;rw [HZ];unfold fG;dsimp only [Ql]
    clear HZ;refine GO fun w HT=>?_
    have HT:=Vh (HT.out.m [Qt kb L.fb pv rv (Qb tb) k,gq,Xo tb qs.rb t,gF]);have HX:=Vh hx;have HR:=Vh hr;have mo:=Vh iE;have om:=Vh (Dw hx iE hs tb t hrb htb);rw [hst,hr2] at om;clear hx hr iE hs hrb htb;have k14:=HT.c 0 0 14;simp only [Qq,az] at k14;have lt:=HT.l 0 0;simp only [] at lt;clear hst hr2;go_enter func186,ntmps186
    go_wp2_with fail
    refine Qa.run om (HT.a _ _) [2,3] ?_
    rintro e w1 gs ⟨rfl,g1,hx1,rfl⟩ HT;simp only [PU] at HT;have HX:=Vh hx1;clear hx1 k14 lt;have HT:=Vh (HT.out.eq (H':=[Qt kb L.fb pv rv (Qb tb) { k with tk:=some (i,t2) },gq,Xo tb qs.rb t2,g1,[cl w.heap.size 153 #[U2,U2]]]) rfl);have k3:=HT.c 0 0 3;simp only [Qq,az] at k3;rw [h3] at k3;clear h3;go_wp2_with fail
    refine Qa.run (Jt HX 2 dJ) (HT) [0,3] ?_
    rintro e w1 gs ⟨rfl,g1,hx1,rfl⟩ HT;simp only [PU] at HT;have HX:=Vh hx1;clear hx1;clear k3;go_wp2_with fail
    refine Qa.run (DI L kb pv) (HT) [] ?_
    rintro e w1 gs ⟨m2,d2,g2,rfl,hs2,rfl⟩ HT;simp only [PU] at HT;obtain ⟨e0,e1⟩:=HT.c2 4 0 0 1;obtain ⟨ek,dZ⟩:=HT.f2 4 0 0 1;simp only [aN] at e0 e1;have hv2:=(Xk L kb pv).vals hs2;obtain ⟨st1,st2⟩:=aV.aD (P:=prog) hv2.1 hv2.2 e0 ek e1 dZ;have HS:=Vh hs2;clear hv2 hs2;go_wp2
    exact UA (v:=.agg #[_,_]) (by simp [results,results186,go_sem,e0,e1]) rfl ⟨_,⟨m2,d2,g2,_,_,rfl,HS,⟨_,_,gq,(Xo tb qs.rb t2),HR,⟨tb,qs,mo,rfl,rfl⟩,rfl,HX⟩,rfl⟩,(((HT.set 4 0 rfl 0 _).set 4 0 rfl 1 _).p [0,1,2,3,5]).sum⟩
   ·have HZ:Ze (k,x) i t s=(.thn (.aO .eB .drop) .leaves,({ k with tk:=some (i,t2) },{ x with au:=x.au.set i { s with ring:=r2 } })):=by unfold Ze;simp only [hr2];rw [if_neg h0,if_neg (fun h=>h3 h.2),if_pos h1]
    have hb3:(k.kind == 3)=false:=beq_eq_false_iff_ne.2 h3
    have hrow:∀ (b bf bl bi:Nat),(kv L kb pv).SV (.aO .eB .drop) U2 (U6 (U7 209) #[] #[Qb bf,Qb bl,Qb bi])
     ([cl bf 1 #[U6 (U7 219) #[Qb kb] #[]],cl bl 322 #[.slice (some ⟨b,0,none⟩) 2 2],cl bi 3 #[U1 U5 0],cl b 1 #[U6 (U7 219) #[Qb kb] #[],U6 (U7 220) #[Qb kb] #[]]]++[]++[]) :=
     fun b bf bl bi=>⟨rfl,bf,bl,bi,b,_,_,[],[],rfl,⟨rfl,rfl⟩,⟨rfl,rfl⟩,rfl⟩
    have fo:∀ (b bf bl bi:Nat),_:=fun b bf bl bi=>aV.dB (f:=MC.leaves) (v:=U6 (U7 181) #[Qb kb] #[]) (gm:=[]) (Xk L kb pv) rfl (hrow b bf bl bi) ⟨rfl,rfl⟩
    have nD:=Vh fo;clear h0 h1 pK h3 hrow fo;rw [HZ];unfold fG;dsimp only [Ql]
    clear HZ;refine GO fun w HT=>?_
    have HT:=Vh (HT.out.m [Qt kb L.fb pv rv (Qb tb) k,gq,Xo tb qs.rb t,gF]);have HX:=Vh hx;have HR:=Vh hr;have mo:=Vh iE;have om:=Vh (Dw hx iE hs tb t hrb htb);rw [hst,hr2] at om;clear hx hr iE hs hrb htb;have k14:=HT.c 0 0 14;simp only [Qq,az] at k14;have lt:=HT.l 0 0;simp only [] at lt;clear hst hr2;go_enter func186,ntmps186
    go_wp2_with fail
    refine Qa.run om (HT.a _ _) [2,3] ?_
    rintro e w1 gs ⟨rfl,g1,hx1,rfl⟩ HT;simp only [PU] at HT;have HX:=Vh hx1;clear hx1 k14 lt;have HT:=Vh (HT.out.eq (H':=[Qt kb L.fb pv rv (Qb tb) { k with tk:=some (i,t2) },gq,Xo tb qs.rb t2,g1,[cl w.heap.size 153 #[U2,U2]]]) rfl);have k3:=HT.c 0 0 3;simp only [Qq,az] at k3;go_wp2_with fail
    refine (Qa.use (aV.dY (b:=w1.heap.size) (o:=0) (D:=#[U6 (U7 219) #[Qb kb] #[],U6 (U7 220) #[Qb kb] #[]]) rfl 2 (.inr rfl)) (HT.a _ _) [5] rfl rfl).mono ?_
    rintro e w2 ⟨gs,⟨bf,bl,bi,rfl,rfl⟩,Ta⟩;simp only [PU] at Ta;have HT:=Vh Ta;clear Ta;clear k3;have HT:=Vh (HT.out.sum (H':=[Qt kb L.fb pv rv (Qb tb) { k with tk:=some (i,t2) },gq,Xo tb qs.rb t2,g1,[cl w.heap.size 153 #[U2,U2]],[cl bf 1 #[U6 (U7 219) #[Qb kb] #[]],cl bl 322 #[.slice (some ⟨w1.heap.size,0,none⟩) 2 2],cl bi 3 #[U1 U5 0],cl w1.heap.size 1 #[U6 (U7 219) #[Qb kb] #[],U6 (U7 220) #[Qb kb] #[]]]++[]++[],[]]));go_wp2_with fail
    refine Qa.run (nD _ _ _ _) (HT) [5,6] ?_
    rintro e w1 gs ⟨m2,d2,g2,rfl,hs2,rfl⟩ HT;simp only [PU] at HT;obtain ⟨e0,e1⟩:=HT.c2 4 0 0 1;obtain ⟨ek,dZ⟩:=HT.f2 4 0 0 1;simp only [aN] at e0 e1;have hv2:=(Xk L kb pv).vals hs2;obtain ⟨st1,st2⟩:=aV.aD (P:=prog) hv2.1 hv2.2 e0 ek e1 dZ;have HS:=Vh hs2;clear hv2 hs2;go_wp2
    exact UA (v:=.agg #[_,_]) (by simp [results,results186,go_sem,e0,e1]) rfl ⟨_,⟨m2,d2,g2,_,_,rfl,HS,⟨_,_,gq,Xo tb qs.rb t2,HR,⟨tb,qs,mo,rfl,rfl⟩,rfl,HX⟩,rfl⟩,(((HT.set 4 0 rfl 0 _).set 4 0 rfl 1 _).p [0,1,2,3,5]).sum⟩
  ·have h2:t2.status=2:=by omega
   have hst:(stepT s.ring t).2.status=2:=by rw [hr2];exact h2
   by_cases h3:k.kind=3
   ·have HZ:Ze (k,x) i t s=(.at none .again,({ k with tk:=some (i,t2) },{ x with au:=x.au.set i { s with ring:=r2 } })):=by unfold Ze;simp only [hr2];rw [if_neg h0,if_neg (fun h=>h1 h.1),if_neg h1,if_pos h3]
    clear h0 h1 pK h2;rw [HZ];unfold fG;dsimp only [Ql]
    clear HZ;refine GO fun w HT=>?_
    have HT:=Vh (HT.out.m [Qt kb L.fb pv rv (Qb tb) k,gq,Xo tb qs.rb t,gF]);have HX:=Vh hx;have HR:=Vh hr;have mo:=Vh iE;have om:=Vh (Dw hx iE hs tb t hrb htb);rw [hst,hr2] at om;clear hx hr iE hs hrb htb;have k14:=HT.c 0 0 14;simp only [Qq,az] at k14;have lt:=HT.l 0 0;simp only [] at lt;clear hst hr2;go_enter func186,ntmps186
    go_wp2_with fail
    refine Qa.run om (HT.a _ _) [2,3] ?_
    rintro e w1 gs ⟨rfl,g1,hx1,rfl⟩ HT;simp only [PU] at HT;have HX:=Vh hx1;clear hx1 k14 lt;have HT:=Vh (HT.out.eq (H':=[Qt kb L.fb pv rv (Qb tb) { k with tk:=some (i,t2) },gq,Xo tb qs.rb t2,g1,[cl w.heap.size 153 #[U2,U2]]]) rfl);have k3:=HT.c 0 0 3;simp only [Qq,az] at k3;rw [h3] at k3;clear h3;go_wp2_with fail
    refine Qa.run Zb HT [] ?_
    rintro e w1 gs ⟨rfl,rfl⟩ HT;simp only [PU] at HT;obtain ⟨e0,e1⟩:=HT.c2 4 0 0 1;obtain ⟨ek,dZ⟩:=HT.f2 4 0 0 1;simp only [aN] at e0 e1;go_wp2
    exact UA (v:=.agg #[U2,U6 (U7 221) #[Qb kb] #[]]) (by simp [results,results186,go_sem,e0,e1]) rfl ⟨_,⟨_,_,[],_,_,rfl,⟨rfl,rfl,rfl⟩,⟨_,_,gq,(Xo tb qs.rb t2),HR,⟨tb,qs,mo,rfl,rfl⟩,rfl,HX⟩,rfl⟩,(((HT.set 4 0 rfl 0 _).set 4 0 rfl 1 _).p [0,1,2,3]).sum⟩
   ·have HZ:Ze (k,x) i t s=(.at none .bU,({ k with tk:=some (i,t2) },{ x with au:=x.au.set i { s with ring:=r2 } })):=by unfold Ze;simp only [hr2];rw [if_neg h0,if_neg (fun h=>h1 h.1),if_neg h1,if_neg h3]
    have hb3:(k.kind == 3)=false:=beq_eq_false_iff_ne.2 h3;clear h0 h1 pK h2 h3;rw [HZ];unfold fG;dsimp only [Ql]
    clear HZ;refine GO fun w HT=>?_
    have HT:=Vh (HT.out.m [Qt kb L.fb pv rv (Qb tb) k,gq,Xo tb qs.rb t,gF]);have HX:=Vh hx;have HR:=Vh hr;have mo:=Vh iE;have om:=Vh (Dw hx iE hs tb t hrb htb);rw [hst,hr2] at om;clear hx hr iE hs hrb htb;have k14:=HT.c 0 0 14;simp only [Qq,az] at k14;have lt:=HT.l 0 0;simp only [] at lt;clear hst hr2;go_enter func186,ntmps186
    go_wp2_with fail
    refine Qa.run om (HT.a _ _) [2,3] ?_
    rintro e w1 gs ⟨rfl,g1,hx1,rfl⟩ HT;simp only [PU] at HT;have HX:=Vh hx1;clear hx1 k14 lt;have HT:=Vh (HT.out.eq (H':=[Qt kb L.fb pv rv (Qb tb) { k with tk:=some (i,t2) },gq,Xo tb qs.rb t2,g1,[cl w.heap.size 153 #[U2,U2]]]) rfl);have k3:=HT.c 0 0 3;simp only [Qq,az] at k3;go_wp2_with fail
    refine Qa.run Zb HT [] ?_
    rintro e w1 gs ⟨rfl,rfl⟩ HT;simp only [PU] at HT;obtain ⟨e0,e1⟩:=HT.c2 4 0 0 1;obtain ⟨ek,dZ⟩:=HT.f2 4 0 0 1;simp only [aN] at e0 e1;go_wp2
    exact UA (v:=.agg #[U2,U6 (U7 222) #[Qb kb] #[]]) (by simp [results,results186,go_sem,e0,e1]) rfl ⟨_,⟨_,_,[],_,_,rfl,⟨rfl,rfl,rfl⟩,⟨_,_,gq,(Xo tb qs.rb t2),HR,⟨tb,qs,mo,rfl,rfl⟩,rfl,HX⟩,rfl⟩,(((HT.set 4 0 rfl 0 _).set 4 0 rfl 1 _).p [0,1,2,3]).sum⟩
end
section
variable {L:Lay} {x:Qi} {gK gF:List ak} {kb:Nat} {pv:Value} {k:Qv}
theorem q0z (hz:kg L kb pv k x gK gF) (hp:qQ .bU (k,x)):Qa prog 222 #[Qb kb] [gK,gF] (fG L kb pv (J1 .bU (k,x))):=by
 have M3:=Vh (show ∀ g rv tv,Qf L x g->_ from fun g rv tv hx=>K6 (kb:=kb) (pv:=pv) (rv:=rv) (tv:=tv) (k:=k) (g:=g) hx hp.1 2);have dJ:=Vh (show ({ x with aa:=(qM k.slot 2 x.aa).1 }:Qi).tr.length<=1000000 from hp.1.tr);have HZ:=Vh (show J1 .bU (k,x)=(.at none .fills,(xB 2 k x.aa,xF (xB 2 k x.aa) { bL with kind:=3,id:=k.id,gen:=(xB 2 k x.aa).gen,dl:=k.jJ,per:=k.period } { x with aa:=(qM k.slot 2 x.aa).1 })) from rfl);rw [HZ.out];unfold fG;dsimp only
 obtain ⟨k2,hk2⟩:∃ k2,xB 2 k x.aa=k2:=⟨_,rfl⟩;have HK:=Vh (show k2.id=k.id/\k2.jJ=k.jJ/\k2.period=k.period/\k2.rq=k.rq/\k2.tk=k.tk from by subst hk2;exact ⟨rfl,rfl,rfl,rfl,rfl⟩);rw [hk2] at M3 |-;clear hp hk2 HZ;obtain ⟨rv,tv,gq,gt,hr,ht,rfl,hx⟩:=hz;refine GO fun w HT=>?_
 have HT:=Vh (HT.out.m [Qt kb L.fb pv rv tv k,gq,gt,gF]);have HX:=Vh hx;have HR:=Vh hr;have dK:=Vh ht;clear hx hr ht;have HT:=Vh (HT.out.a 153 #[U2,U2]);go_enter func222,ntmps222
 go_wp2_with fail
 refine Qa.run (M3 _ _ _ HX) (HT) [0,3] ?_
 rintro e w1 gs ⟨rfl,g1,hx1,rfl⟩ HT;simp only [PU] at HT;have HX:=Vh hx1;clear hx1;obtain ⟨k5,k15,k18⟩:=HT.c3 0 0 5 15 18;simp only [Qq,az] at k5 k15 k18;go_wp2
 refine Mx 17 ?_
 simp only [bY]
 repeat (go_big_quiet_step ((first | (go_at_call 142;with_reducible exact Qd.quiet (JJ (L:=L)) HT.out _ [0] rfl rfl))))
 refine U8 (QT HT fun nq HT=>?_)
 go_wp2_with fail
 refine Qa.run (Yu HX { bL with kind:=3,id:=k2.id,gen:=k2.gen,dl:=k2.jJ,per:=k2.period } dJ) (HT) [0,3] ?_
 rintro e w1 gs ⟨rfl,g2,hx2,rfl⟩ HT;simp only [PU] at HT;have HX:=Vh hx2;clear hx2 k5 k15 k18;go_wp2_with fail
 refine ⟨rfl,?_⟩
 rw [HK.out.1,HK.out.2.1,HK.out.2.2.1] at HX;go_wp2_with fail
 refine Qa.run Zb HT [] ?_
 rintro e w1 gs ⟨rfl,rfl⟩ HT;simp only [PU] at HT;obtain ⟨e0,e1⟩:=HT.c2 4 0 0 1;obtain ⟨ek,dZ⟩:=HT.f2 4 0 0 1;simp only [aN] at e0 e1;go_wp2
 exact UA (v:=.agg #[U2,U6 (U7 230) #[Qb kb] #[]]) (by simp [results,results222,go_sem,e0,e1]) rfl ⟨_,⟨_,_,[],_,_,rfl,⟨rfl,rfl,rfl⟩,⟨_,_,gq,gt,(HK.2.2.2.1 ▸ HR.out),(HK.2.2.2.2 ▸ dK.out),rfl,HX⟩,rfl⟩,(((HT.set 4 0 rfl 0 _).set 4 0 rfl 1 _).p [0,1,2,3]).sum⟩
theorem q7e (hz:kg L kb pv k x gK gF) (hp:qQ .fills (k,x)):Qa prog 230 #[Qb kb] [gK,gF] (fG L kb pv (J1 .fills (k,x))):=by
 obtain ⟨hok,hwk,hpr⟩:=hp;simp only at hok hwk hpr;obtain ⟨⟨i,t⟩,jc⟩:=UD.1 hpr;obtain ⟨htb,hi⟩:=hwk.tk i t jc;obtain ⟨s,hs⟩:∃ s,x.au[i]?=some s:=⟨_,UH hi⟩;have hrb:=hok.ring s (UG hs)
 have hE:Yo (qr (k,x)) (k,x)=({ k with tk:=some (i,(Zp s.ring t (qr (k,x))).2.1) },{ x with au:=x.au.set i { s with ring:=(Zp s.ring t (qr (k,x))).1 } }):=by
  unfold Yo;simp only [jc,hs]
 have HZ:J1 .fills (k,x)=(Ji,(iQ { k with tk:=some (i,(Zp s.ring t (qr (k,x))).2.1) },{ x with au:=x.au.set i { s with ring:=(Zp s.ring t (qr (k,x))).1 } })):=by
  show (Ji,(iQ (Yo (qr (k,x)) (k,x)).1,(Yo (qr (k,x)) (k,x)).2))=_
  rw [hE]
 rw [HZ];unfold fG;dsimp only [iQ]
 obtain ⟨rv,tv,gq,gt,hr,ht,rfl,hx⟩:=hz;rw [jc] at ht;obtain ⟨tb,qs,iE,rfl,rfl⟩:=ht;have rD:=Vh (Rw hx iE hs tb t hrb htb (qr (k,x)));have uo:=Vh (O6 hx hok.aa.n1 k.slot);have lh:=Vh (show (qr (k,x)).cells=#[U1 U3 k.id,U1 U5 k.slot,U1 U3 k.gen,U1 U3 k.jJ,U1 U3 (x.aa.period k.slot)] from rfl);rw [lh.out] at rD;generalize Zp s.ring t (qr (k,x))=rt at *;refine GO fun w HT=>?_
 have HT:=Vh (HT.out.m [Qt kb L.fb pv rv (Qb tb) k,gq,Xo tb qs.rb t,gF]);have HX:=Vh hx;have HR:=Vh hr;have mo:=Vh iE;clear hx hr iE hs hrb htb hE HZ hok hwk hpr jc hi;obtain ⟨k0,k5,k14,k15,k16,k18⟩:=HT.c6 0 0 0 5 14 15 16 18;simp only [Qq,az] at k0 k5 k14 k15 k16 k18;have lt:=HT.l 0 0;simp only [] at lt;go_enter func230,ntmps230
 go_wp2
 have HT:=Vh (HT.out.a 153 #[U2,U2]);refine Mx 32 ?_
 simp only [bY]
 repeat (go_big_quiet_step ((first | (go_at_call 19;with_reducible exact Qd.quiet (Qn HX.out) HT.out _ [3] rfl rfl) | (go_at_call 227;with_reducible exact Qd.quiet (uo.out) HT.out _ [3] rfl rfl))))
 refine U8 (QT HT fun nq HT=>?_)
 go_wp2_with fail
 refine Qa.run rD HT [2,3] ?_
 rintro e w1 gs ⟨rfl,g1,hx1,rfl⟩ HT;simp only [PU] at HT;have HX:=Vh hx1;clear hx1 k0 k5 k14 k15 k16 k18 lt;go_wp2_with fail
 refine ⟨rfl,?_⟩
 obtain ⟨k15,k18,k7,k8,k9,k10,k11⟩:=HT.c7 0 0 15 18 7 8 9 10 11;obtain ⟨p8,rH,rJ,iK,lu⟩:=HT.f5 0 0 7 8 9 10 11;simp only [Qq,az] at k15 k18 k7 k8 k9 k10 k11;go_wp2
 refine Mx 10 ?_
 simp only [bY]
 repeat (go_big_quiet_step ((fail)))
 refine U8 (QT HT fun nq HT=>?_)
 go_wp2_with fail
 refine ⟨rfl,?_⟩
 have HT:=Vh ((((((HT.set 0 0 rfl 7 (U1 U5 0)).set 0 0 rfl 8 (.bool true)).set 0 0 rfl 9 (U1 U3 k.id)).set 0 0 rfl 10 (U1 U3 k.gen)).set 0 0 rfl 11 (.slice none 0 0)).eq (H':=[Qt kb L.fb pv rv (Qb tb) { k with tk:=some (i,rt.2.1),err:=0,ok:=true,nI:=k.id,iJ:=k.gen },gq,Xo tb qs.rb rt.2.1,g1,[cl w.heap.size 153 #[U2,U2]]]) rfl);clear k15 k18 k7 k8 k9 k10 k11 p8 rH rJ iK lu;go_wp2_with fail
 refine Qa.run (DI L kb pv) (HT) [] ?_
 rintro e w1 gs ⟨m2,d2,g2,rfl,hs2,rfl⟩ HT;simp only [PU] at HT;obtain ⟨e0,e1⟩:=HT.c2 4 0 0 1;obtain ⟨ek,dZ⟩:=HT.f2 4 0 0 1;simp only [aN] at e0 e1;have hv2:=(Xk L kb pv).vals hs2;obtain ⟨st1,st2⟩:=aV.aD (P:=prog) hv2.1 hv2.2 e0 ek e1 dZ;have HS:=Vh hs2;clear hv2 hs2;go_wp2
 exact UA (v:=.agg #[_,_]) (by simp [results,results230,go_sem,e0,e1]) rfl ⟨_,⟨m2,d2,g2,_,_,rfl,HS,⟨_,_,gq,(Xo tb qs.rb rt.2.1),HR,⟨tb,qs,mo,rfl,rfl⟩,rfl,HX⟩,rfl⟩,(((HT.set 4 0 rfl 0 _).set 4 0 rfl 1 _).p [0,1,2,3,5]).sum⟩
end
section
variable {L:Lay} {x:Qi} {gK gF:List ak} {kb:Nat} {pv:Value} {k:Qv}
def AR (L:Lay) (kb:Nat) (pv:Value) (z:ZC) (e:Ending) (gs:GH):Prop:=∃ bg aJ,e=U9 (UE #[])/\kg L kb pv z.1 z.2 bg aJ/\gs=[[],bg,aJ]
theorem q81 (hz:kg L kb pv k x gK gF) (hp:xH .aS (k,x)) (bk:Nat):Qa prog 179 #[Qb bk] [[cl bk 33 #[Qb kb]],gK,gF] (AR L kb pv (bN .aS (k,x))):=by
 have dJ:=Vh hp.1.tr;simp only at dJ;clear hp;unfold AR;dsimp only [bN,qc]
 obtain ⟨rv,tv,gq,gt,hr,ht,rfl,hx⟩:=hz;refine GO fun w HT=>?_
 have HT:=Vh (HT.out.sum (H':=[Qt kb L.fb pv rv tv k,gq,gt,gF,[cl bk 33 #[Qb kb]]]));have HX:=Vh hx;have HR:=Vh hr;have dK:=Vh ht;clear hx hr ht;obtain ⟨k7,k9,k10⟩:=HT.c3 0 0 7 9 10;simp only [Qq,az] at k7 k9 k10;have b0:=HT.c 4 0 0;simp only [aN] at b0;go_enter func179,ntmps179
 go_wp2_with fail
 refine Mx 17 ?_
 simp only [bY]
 repeat (go_big_quiet_step ((fail)))
 refine U8 (QT HT fun nq HT=>?_)
 go_wp2_with fail
 refine Qa.run (Yu HX { bL with kind:=2,id:=k.nI,gen:=k.iJ,err:=k.err } dJ) (HT) [0,3] ?_
 rintro e w1 gs ⟨rfl,g2,hx2,rfl⟩ HT;simp only [PU] at HT;have HX:=Vh hx2;clear hx2 k7 k9 k10 b0;go_wp2_with fail
 refine ⟨rfl,?_⟩
 go_wp2
 exact UI (UJ rfl _ _ _) rfl ⟨_,⟨_,_,rfl,⟨_,_,gq,gt,HR,dK,rfl,HX⟩,rfl⟩,(HT.p [0,1,2,3]).sum⟩
theorem q3c (hz:kg L kb pv k x gK gF) (hp:xH .bJ (k,x)) (bk:Nat):Qa prog 212 #[Qb bk] [[cl bk 33 #[Qb kb]],gK,gF] (AR L kb pv (bN .bJ (k,x))):=by
 have HI:=Vh (And.intro hp.1.i0 hp.1.i1);simp only at HI;clear hp;unfold AR;dsimp only [bN]
 obtain ⟨rv,tv,gq,gt,hr,ht,rfl,hx⟩:=hz;refine GO fun w HT=>?_
 have HT:=Vh (HT.out.sum (H':=[Qt kb L.fb pv rv tv k,gq,gt,gF,[cl bk 33 #[Qb kb]]]));have HX:=Vh hx;have HR:=Vh hr;have dK:=Vh ht;clear hx hr ht;have k0:=HT.c 0 0 0;simp only [Qq,az] at k0;have b0:=HT.c 4 0 0;simp only [aN] at b0;go_enter func212,ntmps212
 go_wp2_with fail
 refine Qa.run (PY HX HI) (HT) [3] ?_
 rintro e w1 gs ⟨rfl,g2,hx2,rfl⟩ HT;simp only [PU] at HT;have HX:=Vh hx2;clear hx2 k0 b0;go_wp2
 exact UI (UJ rfl _ _ _) rfl ⟨_,⟨_,_,rfl,⟨_,_,gq,gt,HR,dK,rfl,HX⟩,rfl⟩,(HT.p [0,1,2,3]).sum⟩
theorem q6p (hz:kg L kb pv k x gK gF) (hp:xH .bK (k,x)) (bk:Nat):Qa prog 231 #[Qb bk] [[cl bk 33 #[Qb kb]],gK,gF] (AR L kb pv (bN .bK (k,x))):=by
 have BA:=Vh hp.1;simp only at BA;clear hp;unfold AR;dsimp only [bN,zj]
 obtain ⟨rv,tv,gq,gt,hr,ht,rfl,hx⟩:=hz;refine GO fun w HT=>?_
 have HT:=Vh (HT.out.sum (H':=[Qt kb L.fb pv rv tv k,gq,gt,gF,[cl bk 33 #[Qb kb]]]));have HX:=Vh hx;have HR:=Vh hr;have dK:=Vh ht;clear hx hr ht;have b0:=HT.c 4 0 0;simp only [aN] at b0;go_enter func231,ntmps231
 go_wp2_with fail
 refine Qa.run (K6 HX BA 10) (HT) [0,3] ?_
 rintro e w1 gs ⟨rfl,g2,hx2,rfl⟩ HT;simp only [PU] at HT;have HX:=Vh hx2;clear hx2 b0;go_wp2
 exact UI (UJ rfl _ _ _) rfl ⟨_,⟨_,_,rfl,⟨_,_,gq,gt,HR,dK,rfl,HX⟩,rfl⟩,(HT.p [0,1,2,3]).sum⟩
theorem q84 (hz:kg L kb pv k x gK gF) (hp:xH .eB (k,x)):Qa prog 219 #[Qb kb] [gK,gF] (AR L kb pv (bN .eB (k,x))):=by
 have BA:=Vh hp.1;simp only at BA;have dJ:=Vh (show ({ x with aa:=(qM k.slot 9 x.aa).1 }:Qi).tr.length<=1000000 from hp.1.tr);clear hp;unfold AR;dsimp only [bN,zj,Ql]
 obtain ⟨rv,tv,gq,gt,hr,ht,rfl,hx⟩:=hz;refine GO fun w HT=>?_
 have HT:=Vh (HT.out.m [Qt kb L.fb pv rv tv k,gq,gt,gF,[]]);have HX:=Vh hx;have HR:=Vh hr;have dK:=Vh ht;clear hx hr ht;go_enter func219,ntmps219
 go_wp2_with fail
 refine Qa.run (K6 HX BA 9) (HT) [0,3] ?_
 rintro e w1 gs ⟨rfl,g1,hx1,rfl⟩ HT;simp only [PU] at HT;have HX:=Vh hx1;clear hx1;go_wp2_with fail
 refine Qa.run (Jt HX 2 dJ) (HT) [0,3] ?_
 rintro e w1 gs ⟨rfl,g2,hx2,rfl⟩ HT;simp only [PU] at HT;have HX:=Vh hx2;clear hx2;go_wp2
 exact UI (UJ rfl _ _ _) rfl ⟨_,⟨_,_,rfl,⟨_,_,gq,gt,HR,dK,rfl,HX⟩,rfl⟩,(HT.p [0,1,2,3]).sum⟩
theorem q80 (hz:kg L kb pv k x gK gF) (hp:xH .drop (k,x)):Qa prog 220 #[Qb kb] [gK,gF] (AR L kb pv (bN .drop (k,x))):=by
 have HC:=Vh (And.intro hp.1.aa.c0 (show x.aa.count<=64 by have:=hp.1.aa.c1;have:=hp.1.aa.n1;simp only at *;omega));simp only at HC;clear hp;unfold AR;dsimp only [bN]
 obtain ⟨rv,tv,gq,gt,hr,ht,rfl,hx⟩:=hz;refine GO fun w HT=>?_
 have HT:=Vh (HT.out.m [Qt kb L.fb pv rv tv k,gq,gt,gF,[]]);have HX:=Vh hx;have HR:=Vh hr;have dK:=Vh ht;clear hx hr ht;have k0:=HT.c 0 0 0;simp only [Qq,az] at k0;go_enter func220,ntmps220
 go_wp2_with fail
 refine Qd.run (Qn HX) HT [3] ?_
 rintro e wq rfl HT;go_wp2_with fail
 refine Qa.run (KF HX HC.1 HC.2) (HT) [3] ?_
 rintro e w1 gs ⟨rfl,g2,hx2,rfl⟩ HT;simp only [PU] at HT;have HX:=Vh hx2;clear hx2 k0;go_wp2
 exact UI (UJ rfl _ _ _) rfl ⟨_,⟨_,_,rfl,⟨_,_,gq,gt,HR,dK,rfl,HX⟩,rfl⟩,(HT.p [0,1,2,3]).sum⟩
theorem q6k (hz:kg L kb pv k x gK gF) (hp:xH .bC (k,x)) (bk:Nat):Qa prog 255 #[Qb bk] [[cl bk 33 #[Qb kb]],gK,gF] (AR L kb pv (bN .bC (k,x))):=by
 obtain ⟨hok,hwk,hpr⟩:=hp;simp only at hok hwk hpr;obtain ⟨⟨i,t⟩,jc⟩:=UD.1 hpr;obtain ⟨htb,hi⟩:=hwk.tk i t jc;obtain ⟨s,hs⟩:∃ s,x.au[i]?=some s:=⟨_,UH hi⟩;have hrb:=hok.ring s (UG hs)
 have hE:bN .bC (k,x)=({ k with tk:=some (i,(Zp s.ring t { Qp.zero with slot:=-1 }).2.1) },{ x with au:=x.au.set i { s with ring:=(Zp s.ring t { Qp.zero with slot:=-1 }).1 } }):=by
  show Yo _ _=_
  unfold Yo;simp only [jc,hs]
 rw [hE];unfold AR;dsimp only
 obtain ⟨rv,tv,gq,gt,hr,ht,rfl,hx⟩:=hz;rw [jc] at ht;obtain ⟨tb,qs,iE,rfl,rfl⟩:=ht;have rD:=Vh (Rw hx iE hs tb t hrb htb { Qp.zero with slot:=-1 });have lh:=Vh (show ({ Qp.zero with slot:=-1 }:Qp).cells=#[U1 U3 0,U1 U5 (-1),U1 U3 0,U1 U3 0,U1 U3 0] from rfl);rw [lh.out] at rD;generalize Zp s.ring t { Qp.zero with slot:=-1 }=rt at *;refine GO fun w HT=>?_
 have HT:=Vh (HT.out.sum (H':=[Qt kb L.fb pv rv (Qb tb) k,gq,Xo tb qs.rb t,gF,[cl bk 33 #[Qb kb]]]));have HX:=Vh hx;have HR:=Vh hr;have mo:=Vh iE;clear hx hr iE hs hrb htb hE hok hwk hpr jc hi;have k14:=HT.c 0 0 14;simp only [Qq,az] at k14;have b0:=HT.c 4 0 0;simp only [aN] at b0;go_enter func255,ntmps255
 go_wp2_with fail
 refine Qa.run rD HT [2,3] ?_
 rintro e w1 gs ⟨rfl,g1,hx1,rfl⟩ HT;simp only [PU] at HT;have HX:=Vh hx1;clear hx1 k14 b0;go_wp2
 exact UI (UJ rfl _ _ _) rfl ⟨_,⟨_,_,rfl,⟨_,_,gq,Xo tb qs.rb rt.2.1,HR,⟨tb,qs,mo,rfl,rfl⟩,rfl,HX⟩,rfl⟩,((HT.p [0,1,2,3]).eq (H':=[Qt kb L.fb pv rv (Qb tb) { k with tk:=some (i,rt.2.1) },gq,Xo tb qs.rb rt.2.1,g1]) rfl).sum⟩
end
section
variable {L:Lay} {x:Qi} {g gK gF:List ak} {kb:Nat} {pv:Value} {k:Qv}
theorem q41 (hz:kg L kb pv k x gK gF):Qa prog 138 #[Qb kb] [gK,gF] (fG L kb pv (.aj .aS,(k,x))):=by
 intro w hw;refine (Qa.use (Bp L kb pv) (TG.refl hw) [] rfl rfl).mono ?_
 rintro e w' ⟨gs,⟨m,d,g',he,hs,rfl⟩,T⟩;exact ⟨_,⟨m,d,g',gK,gF,he,hs,hz,rfl⟩,T.p [2,0,1]⟩
theorem qxi (hz:kg L kb pv k x gK gF):Qa prog 181 #[Qb kb] [gK,gF] (fG L kb pv (Ji,(k,x))):=by
 intro w hw;refine (Qa.use (DI L kb pv) (TG.refl hw) [] rfl rfl).mono ?_
 rintro e w' ⟨gs,⟨m,d,g',he,hs,rfl⟩,T⟩;exact ⟨_,⟨m,d,g',gK,gF,he,hs,hz,rfl⟩,T.p [2,0,1]⟩
theorem o6 {fn:FuncId} {R:Ending->GH->Prop} (eg:∀ args w,(callFunc fn args).run prog w=.ok (.enter fn args) w) (h:Qa prog fn #[Qb kb] [gK,gF] R):ko prog (U6 (U7 fn) #[Qb kb] #[]) [[],gK,gF] R :=
 ⟨fn,#[Qb kb],#[],rfl,eg,Qa.pre (by simpa using h) (by simp)⟩
theorem EH {fn:FuncId} {bk:Nat} {gb:List ak} {R:Ending->GH->Prop} (eg:∀ args w,(callFunc fn args).run prog w=.ok (.enter fn args) w) (h:Qa prog fn #[Qb bk] [gb,gK,gF] R):ko prog (U6 (U7 fn) #[] #[Qb bk]) [gb,gK,gF] R :=
 ⟨fn,#[],#[Qb bk],rfl,eg,by simpa using h⟩
theorem vU (L:Lay) (kb:Nat) (pv:Value):(kv L kb pv).Ok where
 v:=Xk L kb pv
 y h:=h.elim
 m {f v g gK gF z} hv hz hp:=by
   obtain ⟨k,x⟩:=z;obtain ⟨rfl,rfl⟩:=hv;cases f with
   | right=>exact o6 (enters_of func81 (by kernel_rfl) rfl) (q7g hz hp)
   | enter=>exact o6 (enters_of func82 (by kernel_rfl) rfl) (q7d hz hp)
   | gate=>exact o6 (enters_of func83 (by kernel_rfl) rfl) (q9i hz hp)
   | asks=>exact o6 (enters_of func143 (by kernel_rfl) rfl) (q9h hz hp)
   | aX=>exact o6 (enters_of func186 (by kernel_rfl) rfl) (q4i hz hp)
   | bU=>exact o6 (enters_of func222 (by kernel_rfl) rfl) (q0z hz hp)
   | fills=>exact o6 (enters_of func230 (by kernel_rfl) rfl) (q7e hz hp)
   | looks=>exact o6 (enters_of func144 (by kernel_rfl) rfl) (q7f hz hp)
   | again=>exact o6 (enters_of func221 (by kernel_rfl) rfl) (q7c hz hp)
   | tries=>exact o6 (enters_of func188 (by kernel_rfl) rfl) (q7i hz hp)
   | ends=>exact o6 (enters_of func138 (by kernel_rfl) rfl) (q41 hz)
   | leaves=>exact o6 (enters_of func181 (by kernel_rfl) rfl) (qxi hz)
 a {f v g gK gF z} hv hz hp:=by
   obtain ⟨k,x⟩:=z;cases f with
   | aS=>obtain ⟨bk,rfl,rfl⟩:=hv;exact EH (enters_of func179 (by kernel_rfl) rfl) (q81 hz hp bk)
   | bJ=>obtain ⟨bk,rfl,rfl⟩:=hv;exact EH (enters_of func212 (by kernel_rfl) rfl) (q3c hz hp bk)
   | eB=>obtain ⟨rfl,rfl⟩:=hv;exact o6 (enters_of func219 (by kernel_rfl) rfl) (q84 hz hp)
   | drop=>obtain ⟨rfl,rfl⟩:=hv;exact o6 (enters_of func220 (by kernel_rfl) rfl) (q80 hz hp)
   | bK=>obtain ⟨bk,rfl,rfl⟩:=hv;exact EH (enters_of func231 (by kernel_rfl) rfl) (q6p hz hp bk)
   | bC=>obtain ⟨bk,rfl,rfl⟩:=hv;exact EH (enters_of func255 (by kernel_rfl) rfl) (q6k hz hp bk)
end
def CR (L:Lay) (kb:Nat) (pv:Value) (k:Qv) (gK:List ak):Prop :=
 ∃ rv tv gq gt,xu L.p.sb k.rq rv gq/\xw L k.tk tv gt/\gK=Qt kb L.fb pv rv tv k++(gq++gt)
theorem Le {L:Lay} {kb:Nat} {pv:Value} {k:Qv} {x:Qi} {gK gF:List ak}:kg L kb pv k x gK gF↔CR L kb pv k gK/\Qf L x gF :=
 ⟨fun ⟨rv,tv,gq,gt,a,b,c,d⟩=>⟨⟨rv,tv,gq,gt,a,b,c⟩,d⟩,fun ⟨⟨rv,tv,gq,gt,a,b,c⟩,d⟩=>⟨rv,tv,gq,gt,a,b,c,d⟩⟩
def zl (L:Lay) (kb:Nat) (s:SC) (n:Int) (k:Qv) (g:List ak):Prop :=
 ∃ pb m d cB gK,(kv L kb (Qb pb)).SV s m d cB/\CR L kb (Qb pb) k gK/\g=aV.aH pb m d n++(cB++gK)
theorem Fe:∀ (s:SC) (z:ZC),St.dx (fun (_:Empty) (_:ZC)=>True) s z
 | .nil,_=>trivial
 | .at none _,_=>trivial
 | .at (some y) _,_=>y.elim
 | .aj _,_=>trivial
 | .aO _ _,_=>trivial
 | .thn s _,z=>Fe s z
theorem Ll {L:Lay} {kb:Nat} {pv:Value}:∀ {s:SC} {m d:Value} {g:List ak},(kv L kb pv).SV s m d g->m=U2
 | .nil,_,_,_,h=>h.1
 | .at none _,_,_,_,h=>h.1
 | .at (some y) _,_,_,_,_=>y.elim
 | .aj _,_,_,_,h=>h.1
 | .aO _ _,_,_,_,h=>h.1
 | .thn s _,_,_,_,h=>by obtain ⟨bs,br,ds,vm,gs,gm,_,_,hv,_⟩:=h;exact Ll hv
def CY (s:SC) (z:ZC):Prop:=St.pre J1 bN qQ xH s z
def J5 (s:SC) (z:ZC):SC × ZC:=St.run J1 bN s z
structure Q0 where
 kind:Int
 id:Int
 dl:Int
 per:Int
def Q0.cells (c:Q0):Array Value:=#[U1 U5 c.kind,U1 U3 c.id,U1 U3 c.dl,U1 U3 c.per]
def fP (th no:Int) (c:Q0):Qv:=⟨th,no,c.kind,c.id,c.dl,c.per,0,false,0,0,c.id,0,0,0,none,none⟩
def Yp (kind:Int):SC:=if kind=1\/kind=2 then .at none .right else if kind=3 then .at none .enter else .at none .gate
def Ae (err:Int) (ok:Bool) (id gen:Int):Array Value:=#[U1 U5 err,.bool ok,U1 U3 id,U1 U3 gen,.slice none 0 0]
section
variable {L:Lay} {x:Qi} {g gF:List ak} {kb:Nat} {s:SC} {n:Int} {k:Qv}
theorem qzh (hc:zl L kb s n k g) (hx:Qf L x gF) (hp:CY s (k,x)) (hn:s.isNil=false) (hb:0<=n/\n<=1000000000) :
 Qa prog 16 #[Qb kb] [g,gF] fun e gs=>∃ g' aJ,e=U9 (.bool true)/\zl L kb (J5 s (k,x)).1 (n+1) (J5 s (k,x)).2.1 g'/\Qf L (J5 s (k,x)).2.2 aJ/\gs=[g',aJ]:=by
 obtain ⟨pb,m,d,cB,gK,hs,⟨rv,tv,gq,gt,hr,ht,rfl⟩,rfl⟩:=hc;have hm0:=Ll hs;subst hm0;have hok:=vU L kb (Qb pb);have hm:=aV.fO (x:=((k,x):ZC)) hok hn hs;have hd:=aV.fD (n:=n) hok hs (x:=((k,x):ZC)) (gK:=Qt kb L.fb (Qb pb) rv tv k++(gq++gt)) (gF:=gF) ⟨rv,tv,gq,gt,hr,ht,rfl,hx⟩ (Fe s _) hp pb hb hm;refine GO fun w HT=>?_
 have T1:=HT.m [Qt kb L.fb (Qb pb) rv tv k,aV.aH pb U2 d n,cB,gq,gt,gF];have k12:=T1.c 0 0 12;simp only [Qq,az] at k12;have HD:=Vh hd;have HT:=Vh (HT.out.m [aV.aH pb U2 d n,cB,Qt kb L.fb (Qb pb) rv tv k++(gq++gt),gF]);clear hs hr ht hx hp hn hb hok hm hd T1;go_enter func16,ntmps16
 go_wp2_with fail
 refine Qa.run HD HT [0,1,2,3] ?_
 rintro e w1 gs ⟨m',d',nL,bg,aJ,rfl,hs',hx',rfl⟩ HT;simp only [PU] at HT;have HS:=Vh hs';have HX:=Vh (Le.1 hx');clear hs' hx' k12;go_wp2
 go_ret
 exact ⟨_,⟨_,aJ,rfl,⟨pb,m',d',nL,bg,HS,HX.1,rfl⟩,HX.2,rfl⟩,HT.sum⟩
theorem qlm (hc:zl L kb .nil n k g) (hx:Qf L x gF) :
 Qa prog 16 #[Qb kb] [g,gF] fun e gs=>e=U9 (.bool false)/\∃ g' aJ,zl L kb .nil n k g'/\Qf L x aJ/\gs=[g',aJ]:=by
 obtain ⟨pb,m,d,cB,gK,hs,⟨rv,tv,gq,gt,hr,ht,rfl⟩,rfl⟩:=hc;have hok:=vU L kb (Qb pb);have hd:=aV.dU (n:=n) hok hs (x:=((k,x):ZC)) (gK:=Qt kb L.fb (Qb pb) rv tv k++(gq++gt)) (gF:=gF) ⟨rv,tv,gq,gt,hr,ht,rfl,hx⟩ (Fe .nil _) pb rfl;refine GO fun w HT=>?_
 have T1:=HT.m [Qt kb L.fb (Qb pb) rv tv k,aV.aH pb m d n,cB,gq,gt,gF];have k12:=T1.c 0 0 12;simp only [Qq,az] at k12;have HD:=Vh hd;have HS:=Vh hs;have HT:=Vh (HT.out.m [aV.aH pb m d n,cB,Qt kb L.fb (Qb pb) rv tv k++(gq++gt),gF]);clear hs hr ht hx hok hd T1;go_enter func16,ntmps16
 go_wp2_with fail
 refine Qa.run HD HT [0,1,2,3] ?_
 rintro e w1 gs ⟨bg,aJ,rfl,hx',rfl⟩ HT;simp only [PU] at HT;have HX:=Vh (Le.1 hx');clear hx' k12;go_wp2
 go_ret
 exact ⟨_,⟨rfl,_,aJ,⟨pb,m,d,cB,bg,HS,HX.1,rfl⟩,HX.2,rfl⟩,HT.sum⟩
theorem KJ (hc:zl L kb s n k g):Qd prog 89 #[Qb kb] [g] (.bool s.isNil):=by
 obtain ⟨pb,m,d,cB,gK,hs,⟨rv,tv,gq,gt,hr,ht,rfl⟩,rfl⟩:=hc;have hd:=aV.eP (vU L kb (Qb pb)) hs pb n;refine GO fun w HT=>?_
 have T1:=HT.m [Qt kb L.fb (Qb pb) rv tv k,aV.aH pb m d n,cB,gq,gt];have k12:=T1.c 0 0 12;simp only [Qq,az] at k12;have HD:=Vh hd;have HT:=Vh T1;clear hs hr ht hd T1;go_enter func89,ntmps89
 go_wp2_with fail
 refine (Qd.use HD HT [1] rfl rfl).mono ?_
 rintro e w1 ⟨rfl,mq,rfl⟩;go_wp2
 go_ret
 exact ⟨rfl,_,rfl⟩
theorem q3r (hc:zl L kb s n k g) (hx:Qf L x gF) :
 Qa prog 362 #[Qb kb] [g,gF] fun e gs=>e=U9 (.bool (!s.isNil))/\∃ g' aJ,zl L kb s n k g'/\Qf L x aJ/\gs=[g',aJ]:=by
 obtain ⟨pb,m,d,cB,gK,hs,⟨rv,tv,gq,gt,hr,ht,rfl⟩,rfl⟩:=hc;have hm0:=Ll hs;subst hm0;have hok:=vU L kb (Qb pb)
 have hm:St.may (M:=(kv L kb (Qb pb)).M) (A:=(kv L kb (Qb pb)).A) (Y:=(kv L kb (Qb pb)).Y) (α:=(kv L kb (Qb pb)).α) (kv L kb (Qb pb)).fC s ((k,x):ZC)=!s.isNil:=by
  cases hn:s.isNil
  ·exact aV.fO (x:=((k,x):ZC)) hok hn hs
  ·cases s <;> first | rfl | cases hn
 have hd:=aV.dS (n:=n) hok hs (x:=((k,x):ZC)) (gK:=Qt kb L.fb (Qb pb) rv tv k++(gq++gt)) (gF:=gF) ⟨rv,tv,gq,gt,hr,ht,rfl,hx⟩ (Fe s _) pb;rw [hm] at hd;refine GO fun w HT=>?_
 have T1:=HT.m [Qt kb L.fb (Qb pb) rv tv k,aV.aH pb U2 d n,cB,gq,gt,gF];have k12:=T1.c 0 0 12;simp only [Qq,az] at k12;have HD:=Vh hd;have HS:=Vh hs;have HT:=Vh (HT.out.m [aV.aH pb U2 d n,cB,Qt kb L.fb (Qb pb) rv tv k++(gq++gt),gF]);clear hs hr ht hx hok hd T1 hm;go_enter func362,ntmps362
 go_wp2_with fail
 refine Qa.run HD HT [0,1,2,3] ?_
 rintro e w1 gs ⟨bg,aJ,rfl,hx',rfl⟩ HT;simp only [PU] at HT;have HX:=Vh (Le.1 hx');clear hx' k12;go_wp2
 go_ret
 exact ⟨_,⟨rfl,_,aJ,⟨pb,U2,d,cB,bg,HS,HX.1,rfl⟩,HX.2,rfl⟩,HT.sum⟩
theorem qr4 (hc:zl L kb s n k g) (hn:s.isNil=true):Qa prog 21 #[Qb kb] [g] fun e gs =>
 e=U9 (UE #[.agg (Ae k.err k.ok k.nI k.iJ),U1 U5 0])/\gs=[g]:=by
 have hd:=KJ hc;rw [hn] at hd;obtain ⟨pb,m,d,cB,gK,hs,⟨rv,tv,gq,gt,hr,ht,rfl⟩,rfl⟩:=hc;refine GO fun w HT=>?_
 have HT:=Vh (HT.out.sum (H':=[aV.aH pb m d n++(cB++(Qt kb L.fb (Qb pb) rv tv k++(gq++gt)))]));have HD:=Vh hd;have lt:=(HT.m [Qt kb L.fb (Qb pb) rv tv k,aV.aH pb m d n,cB,gq,gt]).l 0 0;have HT:=Vh (HT.out.a 51 #[U1 U5 0,.bool false,U1 U3 0,U1 U3 0,.slice none 0 0]);simp only [] at lt;clear hs hr ht hd hn;go_enter func21,ntmps21
 go_wp2_with fail
 refine (Qd.use HD HT [0] rfl rfl).mono ?_
 rintro e w1 ⟨rfl,mq,rfl⟩;have HT:=Vh (HT.out.drewN mq);have HT:=Vh (HT.out.sum (H':=[Qt kb L.fb (Qb pb) rv tv k,aV.aH pb m d n,cB,gq,gt,[cl w.heap.size 51 #[U1 U5 0,.bool false,U1 U3 0,U1 U3 0,.slice none 0 0]]]));generalize UO _ _=wq at HT |-;obtain ⟨k7,k8,k9,k10,k11⟩:=HT.c5 0 0 7 8 9 10 11;simp only [Qq,az] at k7 k8 k9 k10 k11;obtain ⟨e0,e1,e2,e3,e4⟩:=HT.c5 5 0 0 1 2 3 4;obtain ⟨ek,dZ,EM,MO,zT⟩:=HT.f5 5 0 0 1 2 3 4;simp only [aN] at e0 e1 e2 e3 e4;go_wp2
 exact UA (v:=UE #[.agg (Ae k.err k.ok k.nI k.iJ),U1 U5 0]) (by simp [results,results21,go_sem,e0,e1,e2,e3,e4,Ae]) rfl ⟨_,⟨rfl,rfl⟩,(((((((HT.set 5 0 rfl 0 _).set 5 0 rfl 1 _).set 5 0 rfl 2 _).set 5 0 rfl 3 _).set 5 0 rfl 4 _).p [0,1,2,3,4]).sum)⟩
theorem qze (hc:zl L kb s n k g) (hn:s.isNil=false):Qa prog 21 #[Qb kb] [g] fun e gs =>
 e=U9 (UE #[.agg (Ae 0 false 0 0),U1 U5 10])/\gs=[g]:=by
 have hd:=KJ hc;rw [hn] at hd;obtain ⟨pb,m,d,cB,gK,hs,⟨rv,tv,gq,gt,hr,ht,rfl⟩,rfl⟩:=hc;refine GO fun w HT=>?_
 have HT:=Vh (HT.out.sum (H':=[aV.aH pb m d n++(cB++(Qt kb L.fb (Qb pb) rv tv k++(gq++gt)))]));have HD:=Vh hd;have lt:=(HT.m [Qt kb L.fb (Qb pb) rv tv k,aV.aH pb m d n,cB,gq,gt]).l 0 0;have HT:=Vh (HT.out.a 51 #[U1 U5 0,.bool false,U1 U3 0,U1 U3 0,.slice none 0 0]);simp only [] at lt;clear hs hr ht hd hn;go_enter func21,ntmps21
 go_wp2_with fail
 refine (Qd.use HD HT [0] rfl rfl).mono ?_
 rintro e w1 ⟨rfl,mq,rfl⟩;have HT:=Vh (HT.out.drewN mq);have HT:=Vh (HT.out.sum (H':=[Qt kb L.fb (Qb pb) rv tv k,aV.aH pb m d n,cB,gq,gt,[cl w.heap.size 51 #[U1 U5 0,.bool false,U1 U3 0,U1 U3 0,.slice none 0 0]]]));generalize UO _ _=wq at HT |-;obtain ⟨k7,k8,k9,k10,k11⟩:=HT.c5 0 0 7 8 9 10 11;simp only [Qq,az] at k7 k8 k9 k10 k11;obtain ⟨e0,e1,e2,e3,e4⟩:=HT.c5 5 0 0 1 2 3 4;obtain ⟨ek,dZ,EM,MO,zT⟩:=HT.f5 5 0 0 1 2 3 4;simp only [aN] at e0 e1 e2 e3 e4;go_wp2
 exact UA (v:=UE #[.agg (Ae 0 false 0 0),U1 U5 10]) (by simp [results,results21,go_sem,e0,e1,e2,e3,e4,Ae]) rfl ⟨_,⟨rfl,rfl⟩,(((((((HT.set 5 0 rfl 0 _).set 5 0 rfl 1 _).set 5 0 rfl 2 _).set 5 0 rfl 3 _).set 5 0 rfl 4 _).p [0,1,2,3,4]).sum)⟩
end
structure lG (N:Int) (r:Qz):Prop where
 n0:1<=r.slots.length
 n1:r.slots.length<=64
 t0:0<=r.tail
 t1:r.tail<=N
 h0:0<=r.head
 h1:r.head<=N
structure sZ (N:Int) (t:Xz):Prop where
 p0:0<=t.pos
 p1:t.pos<=N
 nx:t.next=0\/t.next=1\/t.next=2
 st:t.status=0\/t.status=1\/t.status=2
structure Zi (N:Nat) (x:Qi):Prop where
 aa:Xh x.aa
 i0:0<=x.f.inside
 i1:x.f.inside<=N
 tr:x.tr.length<=N
 sh:1<=x.au.length
 ring:∀ s∈x.au,lG N s.ring
structure Zn (N:Nat) (k:Qv) (x:Qi):Prop where
 c0:0<=k.jJ/\k.jJ<18446744073709551616
 c1:0<=k.iA/\k.iA<18446744073709551616
 id:0<=k.id/\k.id<18446744073709551616
 slot:0<=k.slot
 aB:0<=k.aB/\k.aB<18446744073709551616/\okW k.aB=true
 rq:∀ q,k.rq=some q->wE x.aa.recs.length q
 tk:∀ i t,k.tk=some (i,t)->sZ N t/\i<x.au.length
def tN:SC->Qv->Prop
 | .nil,_=>True
 | .at none .right,_=>True
 | .at none .enter,_=>True
 | .at none .gate,_=>True
 | .at none .looks,_=>True
 | .at none .asks,k=>k.rq.isSome=true/\∀ q,k.rq=some q->q.st=0
 | .at none .aX,k=>k.tk.isSome=true
 | .at none .bU,k=>k.tk.isSome=true
 | .at none .fills,k=>k.tk.isSome=true
 | .at none .again,k=>k.tk.isSome=true
 | .at none .tries,k=>k.kind=3->k.tk.isSome=true
 | .aj .aS,_=>True
 | .thn (.aj .bJ) .ends,_=>True
 | .thn (.aO .eB .drop) .leaves,_=>True
 | .thn (.aj .drop) .leaves,_=>True
 | .thn (.aj .bC) .leaves,k=>k.tk.isSome=true
 | .thn (.aO .bK .drop) .ends,_=>True
 | .thn (.aj .drop) .ends,_=>True
 | _,_=>False
theorem lG.mono {N M:Int} {r:Qz} (h:lG N r) (hm:N<=M):lG M r:=⟨h.n0,h.n1,h.t0,by have:=h.t1;omega,h.h0,by have:=h.h1;omega⟩
theorem lG.b {N:Int} {r:Qz} (h:lG N r) (hm:N<=1000000):zu r:=⟨h.n0,h.n1,h.t0,by have:=h.t1;omega,h.h0,by have:=h.h1;omega⟩
theorem sZ.mono {N M:Int} {t:Xz} (h:sZ N t) (hm:N<=M):sZ M t:=⟨h.p0,by have:=h.p1;omega,h.nx,h.st⟩
theorem sZ.b {N:Int} {t:Xz} (h:sZ N t) (hm:N<=1000000):sW t:=⟨h.p0,by have:=h.p1;omega,h.nx,h.st⟩
theorem Zi.ok {N:Nat} {x:Qi} (h:Zi N x) (hN:N<=1000000):pR x :=
 ⟨h.aa,h.i0,by have:=h.i1;omega,by have:=h.tr;omega,h.sh,fun s hs=>(h.ring s hs).b (by omega)⟩
theorem Zi.mono {N M:Nat} {x:Qi} (h:Zi N x) (hm:N<=M):Zi M x :=
 ⟨h.aa,h.i0,by have:=h.i1;omega,by have:=h.tr;omega,h.sh,fun s hs=>(h.ring s hs).mono (by omega)⟩
theorem Zi.rings {N M:Nat} {x:Qi} (h:Zi N x) (hm:N<=M):∀ s∈x.au,lG M s.ring:=fun s hs=>(h.ring s hs).mono (by omega)
theorem Zn.ok {N:Nat} {k:Qv} {x:Qi} (h:Zn N k x) (hN:N<=1000000):Gc k x :=
 ⟨h.c0,h.c1,h.id,h.slot,h.aB,h.rq,fun i t ht=>⟨(h.tk i t ht).1.b (by omega),(h.tk i t ht).2⟩⟩
theorem Zn.mono {N M:Nat} {k:Qv} {x:Qi} (h:Zn N k x) (hm:N<=M):Zn M k x :=
 ⟨h.c0,h.c1,h.id,h.slot,h.aB,h.rq,fun i t ht=>⟨(h.tk i t ht).1.mono (by omega),(h.tk i t ht).2⟩⟩
theorem Zn.core {N:Nat} {k:Qv} {x x':Qi} (h:Zn N k x) (h1:x'.aa.recs.length=x.aa.recs.length) (h2:x'.au.length=x.au.length):Zn N k x' :=
 ⟨h.c0,h.c1,h.id,h.slot,h.aB,fun q hq=>by rw [h1];exact h.rq q hq,fun i t ht=>⟨(h.tk i t ht).1,by rw [h2];exact (h.tk i t ht).2⟩⟩
theorem q47 {N:Int} {r:Qz} {t:Xz} (hr:lG N r) (ht:sZ N t):sZ N (stepT r t).2/\lG (N+1) (stepT r t).1:=by
 have h1:=hr.t0;have h2:=hr.t1;have ho:lG (N+1) r:=hr.mono (by omega);unfold stepT qP pV o9;split
 ·exact ⟨ht,ho⟩
 ·split
  ·exact ⟨⟨h1,h2,.inr (.inl rfl),ht.st⟩,ho⟩
  ·split
   ·split
    ·exact ⟨⟨ht.p0,ht.p1,.inl rfl,ht.st⟩,ho⟩
    ·split
     ·exact ⟨⟨ht.p0,ht.p1,ht.nx,.inr (.inl rfl)⟩,ho⟩
     ·exact ⟨⟨ht.p0,ht.p1,.inr (.inr rfl),ht.st⟩,ho⟩
   ·split
    ·exact ⟨⟨ht.p0,ht.p1,.inl rfl,.inr (.inr rfl)⟩,⟨hr.n0,hr.n1,by have:=ht.p0;simp only;omega,by have:=ht.p1;simp only;omega,hr.h0,by have:=hr.h1;simp only;omega⟩⟩
    ·exact ⟨⟨ht.p0,ht.p1,.inl rfl,ht.st⟩,ho⟩
theorem q37 {N:Int} {r:Qz} {t:Xz} (v:Qp) (hr:lG N r) (ht:sZ N t):sZ N (Zp r t v).2.1/\lG N (Zp r t v).1:=by
 unfold Zp;split
 ·exact ⟨⟨ht.p0,ht.p1,ht.nx,ht.st⟩,⟨by simp only [UN];exact hr.n0,by simp only [UN];exact hr.n1,hr.t0,hr.t1,hr.h0,hr.h1⟩⟩
 ·exact ⟨ht,hr⟩
theorem Lf {N:Int} {l:List Qu} {i:Nat} {s:Qu} (h:∀ s∈l,lG N s.ring) (hs:lG N s.ring):∀ a∈l.set i s,lG N a.ring:=by
 intro a ha;rcases List.mem_or_eq_of_mem_set ha with h1 | h1
 ·exact h a h1
 ·exact h1 ▸ hs
section
variable {N:Nat} {k:Qv} {x:Qi}
theorem Al (h:Zi N x) (E:EvS):Zi (N+1) (xF k E x) :=
 ⟨h.aa,h.i0,by have:=h.i1;show x.f.inside<=_;omega,by have:=h.tr;show (x.tr++[_]).length<=_;rw [UM];simp;omega,h.sh,h.rings (by omega)⟩
theorem Am (h:Zi N x) {s:Qj} (hs:Xh s):Zi N { x with aa:=s }:=⟨hs,h.i0,h.i1,h.tr,h.sh,h.ring⟩
theorem Yt (hc:Zi N x) (hk:Zn N k x) (e:Int):Zi (N+1) (Ql e (k,x)).2/\Zn (N+1) (Ql e (k,x)).1 (Ql e (k,x)).2 :=
 ⟨Al hc _,((⟨hk.c0,hk.c1,hk.id,hk.slot,hk.aB,hk.rq,hk.tk⟩:Zn N (Yb e k) x).mono (M:=N+1) (by omega)).core rfl rfl⟩
theorem L5 (hc:Zi N x) (hk:Zn N k x) (ev:Int):Zi N (zj ev (k,x)).2/\Zn N (zj ev (k,x)).1 (zj ev (k,x)).2:=by
 obtain ⟨h1,h2⟩:=sK hc.aa k.slot (x.aa.word k.slot) ev;exact ⟨Am hc h1,(⟨hk.c0,hk.c1,hk.id,hk.slot,hk.aB,hk.rq,hk.tk⟩:Zn N (xB ev k x.aa) x).core h2 rfl⟩
theorem NJ (hc:Zi N x) (hk:Zn N k x) (v:Qp):Zi N (Yo v (k,x)).2/\Zn N (Yo v (k,x)).1 (Yo v (k,x)).2:=by
 unfold Yo;simp only;split
 ·exact ⟨hc,hk⟩
 ·rename_i i t ht
  split
  ·exact ⟨hc,hk⟩
  ·rename_i s hs
   obtain ⟨htn,hi⟩:=hk.tk i t ht;have hrn:=hc.ring s (UG hs);obtain ⟨a,b⟩:=q37 v hrn htn;refine ⟨⟨hc.aa,hc.i0,hc.i1,hc.tr,by simpa using hc.sh,Lf hc.ring b⟩,⟨hk.c0,hk.c1,hk.id,hk.slot,hk.aB,hk.rq,fun i' t' h'=>?_⟩⟩
   cases h'
   exact ⟨a,by simpa using hi⟩
theorem IA (hc:Zi N x) (hk:Zn N k x) (a:AC):Zi (N+1) (bN a (k,x)).2/\Zn (N+1) (bN a (k,x)).1 (bN a (k,x)).2:=by
 cases a with
 | aS=>exact ⟨Al hc _,(hk.mono (M:=N+1) (by omega)).core rfl rfl⟩
 | bJ =>
   have h1:0<=Z5 x.f.inside/\Z5 x.f.inside<=N:=by have:=hc.i0;have:=hc.i1;unfold Z5;split <;> omega
   exact ⟨⟨hc.aa,h1.1,by have:=h1.2;show Z5 x.f.inside<=_;omega,by have:=hc.tr;show x.tr.length<=_;omega,hc.sh,hc.rings (by omega)⟩,(hk.mono (M:=N+1) (by omega)).core rfl rfl⟩
 | eB =>
   obtain ⟨h1,h2⟩:=L5 hc hk 9;exact Yt h1 h2 2
 | drop =>
   obtain ⟨h1,h2⟩:=D5 hc.aa;exact ⟨(Am hc h1).mono (M:=N+1) (by omega),(hk.mono (M:=N+1) (by omega)).core h2 rfl⟩
 | bK =>
   obtain ⟨h1,h2⟩:=L5 hc hk 10;exact ⟨h1.mono (M:=N+1) (by omega),h2.mono (M:=N+1) (by omega)⟩
 | bC =>
   obtain ⟨h1,h2⟩:=NJ hc hk { Qp.zero with slot:=-1 };exact ⟨h1.mono (M:=N+1) (by omega),h2.mono (M:=N+1) (by omega)⟩
structure JC (N:Nat) (s:SC) (z:ZC):Prop where
 core:Zi N z.2
 work:Zn N z.1 z.2
 fit:tN s z.1
theorem JC.pre {s:SC} {z:ZC} (h:JC N s z) (hN:N<1000000):CY s z:=by
 obtain ⟨k,x⟩:=z;obtain ⟨hc,hk,hf⟩:=h;simp only at hc hk hf;have ho:=hc.ok (by omega);have hw:=hk.ok (by omega);have hact:∀ a,pR (bN a (k,x)).2/\Gc (bN a (k,x)).1 (bN a (k,x)).2:=fun a=>⟨(IA hc hk a).1.ok (by omega),(IA hc hk a).2.ok (by omega)⟩
 match s,hf with
 | .nil,_=>trivial
 | .at none .right,_=>exact ⟨ho,hw,trivial⟩
 | .at none .enter,_=>exact ⟨ho,hw,trivial⟩
 | .at none .gate,_=>exact ⟨ho,hw,trivial⟩
 | .at none .looks,_=>exact ⟨ho,hw,trivial⟩
 | .at none .asks,hf=>exact ⟨ho,hw,hf⟩
 | .at none .aX,hf=>exact ⟨ho,hw,hf⟩
 | .at none .bU,_=>exact ⟨ho,hw,trivial⟩
 | .at none .fills,hf=>exact ⟨ho,hw,hf⟩
 | .at none .again,_=>exact ⟨ho,hw,trivial⟩
 | .at none .tries,_=>exact ⟨ho,hw,trivial⟩
 | .aj .aS,_=>exact ⟨ho,hw,trivial⟩
 | .thn (.aj .bJ) .ends,_=>exact ⟨⟨ho,hw,trivial⟩,fun _=>⟨(hact .bJ).1,(hact .bJ).2,trivial⟩⟩
 | .thn (.aO .eB .drop) .leaves,_=>exact ⟨⟨ho,hw,trivial⟩,fun h=>by cases h⟩
 | .thn (.aj .drop) .leaves,_=>exact ⟨⟨ho,hw,trivial⟩,fun _=>⟨(hact .drop).1,(hact .drop).2,trivial⟩⟩
 | .thn (.aj .bC) .leaves,hf=>exact ⟨⟨ho,hw,hf⟩,fun _=>⟨(hact .bC).1,(hact .bC).2,trivial⟩⟩
 | .thn (.aO .bK .drop) .ends,_=>exact ⟨⟨ho,hw,trivial⟩,fun h=>by cases h⟩
 | .thn (.aj .drop) .ends,_=>exact ⟨⟨ho,hw,trivial⟩,fun _=>⟨(hact .drop).1,(hact .drop).2,trivial⟩⟩
theorem Kq (k k2:Qv):tN (X2 k) k2:=by
 unfold X2 Ji;split <;> trivial
theorem q1i {s:Qj} {q:iC} (h:q.st=0):(Za s q).2.st=0\/(Za s q).2.st=1\/(Za s q).2.st=2:=by
 unfold Za;rw [if_neg (by omega)];split
 ·unfold qO;split <;> simp [h]
 ·split
  ·unfold pY;split <;> simp [h]
  ·unfold qc6;simp only;split <;> simp [h]
theorem LV (hc:Zi N x) (hk:Zn N k x):Zn N (lookW k x.aa).1 x:=by
 have hs:0<=x.aa.slot k.id:=by have:=hk.id.1;unfold Qj.slot;split <;> omega
 have hw:=Y4 hc.aa (x.aa.slot k.id);unfold lookW;split
 ·exact hk
 ·split
  ·exact ⟨hk.c0,hk.c1,hk.id,hs,hw,hk.rq,hk.tk⟩
  ·exact ⟨hk.c0,hk.c1,hk.id,hs,hw,hk.rq,hk.tk⟩
theorem Gh (hc:Zi N x) {slot:Int} (h:0<=slot):qi slot x<x.au.length:=by
 have hn:=hc.sh;have a:0<=slot % (x.au.length:Int):=Int.emod_nonneg _ (by omega);have b:slot % (x.au.length:Int)<x.au.length:=Int.emod_lt_of_pos _ (by omega);unfold qi;omega
theorem QQ:sZ N Xp:=⟨by decide,by show (0:Int)<=N;omega,.inl rfl,.inl rfl⟩
theorem q7m (hc:Zi N x) (hk:Zn N k x) (m:MC) (hf:tN (.at none m) k):JC (N+1) (J1 m (k,x)).1 (J1 m (k,x)).2:=by
 have hc':=hc.mono (M:=N+1) (by omega);have hk':=hk.mono (M:=N+1) (by omega);have hre:∀ e s,tN s (Yb e k)->JC (N+1) s (Ql e (k,x)):=fun e s hs=>⟨(Yt hc hk e).1,(Yt hc hk e).2,hs⟩
 cases m with
 | ends=>exact hf.elim
 | leaves=>exact hf.elim
 | right =>
   show JC (N+1) (if mP k then _ else _:SC × ZC).1 (if mP k then _ else _:SC × ZC).2
   split
   ·exact hre 1 _ trivial
   ·exact ⟨hc',hk',trivial⟩
 | enter=>exact ⟨⟨hc.aa,by have:=hc.i0;show 0<=x.f.inside+1;omega,by have:=hc.i1;show x.f.inside+1<=_;omega,hc'.tr,hc.sh,hc'.ring⟩,hk'.core rfl rfl,trivial⟩
 | gate =>
   show JC (N+1) (if x.f.closed=true then _ else _:SC × ZC).1 (if x.f.closed=true then _ else _:SC × ZC).2
   split
   ·exact hre 3 _ (Kq _ _)
   ·split
    ·refine ⟨hc',⟨hk'.c0,hk'.c1,hk'.id,hk'.slot,hk'.aB,fun q hq=>?_,hk'.tk⟩,rfl,fun q hq=>?_⟩
     ·cases hq
      have h1:=hk.c1;have h2:=hc.aa.n0;refine ⟨?_,?_,by simp,by simp;omega,.inl rfl⟩
      ·show 0<=k.period;unfold Qv.period;split <;> omega
      ·show k.period < _;unfold Qv.period;split <;> omega
     ·cases hq;rfl
    ·exact ⟨hc',hk',trivial⟩
 | asks =>
   obtain ⟨hr,hq0⟩:=hf;obtain ⟨q,hq⟩:=UD.1 hr;have hE:J1 .asks (k,x)=q7 (k,x) q:=by show (match k.rq with | none=>_ | some q=>_)=_;rw [hq]
   rw [hE];have hst:=hq0 q hq;obtain ⟨h1,h2,h3⟩:=RV hc.aa (hk.rq q hq);have hid:=RU hc.aa (hk.rq q hq) hst;have h4:=q1i (s:=x.aa) hst;unfold q7;simp only;generalize Za x.aa q=r at *;have cx:Zi N { x with aa:=r.1 }:=Am hc h1;have wk:Zn N { k with rq:=some r.2 } { x with aa:=r.1 }:=⟨hk.c0,hk.c1,hk.id,hk.slot,hk.aB,fun q' h'=>by cases h';show wE r.1.recs.length r.2;rw [h3];exact h2,hk.tk⟩;split
   ·exact ⟨(Yt cx wk 2).1,(Yt cx wk 2).2,trivial⟩
   ·split
    ·next h5 =>
     obtain ⟨i0,i1⟩:=hid h5;refine ⟨cx.mono (M:=N+1) (by omega),⟨wk.c0,wk.c1,⟨i0,i1⟩,by show 0<=r.2.id % 64;omega,wk.aB,wk.rq,fun i t ht=>?_⟩,rfl⟩
     cases ht
     exact ⟨QQ,Gh hc (by omega)⟩
    ·next h6 h5 =>
     exact ⟨cx.mono (M:=N+1) (by omega),wk.mono (M:=N+1) (by omega),rfl,fun q' h'=>by cases h';omega⟩
 | aX =>
   obtain ⟨⟨i,t⟩,htk⟩:=UD.1 hf;obtain ⟨htn,hi⟩:=hk.tk i t htk;obtain ⟨s,hs⟩:∃ s,x.au[i]?=some s:=⟨_,UH hi⟩
   have hE:J1 .aX (k,x)=Ze (k,x) i t s:=by
    show (match k.tk with | none=>_ | some (i,t)=>_)=_
    rw [htk]
    show (match x.au[i]? with | none=>_ | some s=>_)=_
    rw [hs]
   rw [hE];obtain ⟨a,b⟩:=q47 (hc.ring s (UG hs)) htn;unfold Ze;simp only;generalize stepT s.ring t=r at *;have cx:Zi (N+1) { x with au:=x.au.set i { s with ring:=r.1 } }:=⟨hc.aa,hc'.i0,hc'.i1,hc'.tr,by simpa using hc.sh,Lf hc'.ring (by simpa using b)⟩;have wk:Zn (N+1) { k with tk:=some (i,r.2) } { x with au:=x.au.set i { s with ring:=r.1 } }:=⟨hk.c0,hk.c1,hk.id,hk.slot,hk.aB,hk.rq,fun i' t' h'=>by cases h';exact ⟨a.mono (by omega),by simpa using hi⟩⟩;split
   ·exact ⟨cx,wk,rfl⟩
   ·split
    ·refine ⟨⟨cx.aa,cx.i0,cx.i1,?_,cx.sh,cx.ring⟩,(⟨wk.c0,wk.c1,wk.id,wk.slot,wk.aB,wk.rq,wk.tk⟩:Zn (N+1) (Yb 2 { k with tk:=some (i,r.2) }) { x with au:=x.au.set i { s with ring:=r.1 } }).core rfl rfl,trivial⟩
     have:=hc.tr
     show (x.tr++[_]).length<=_
     rw [UM];simp;omega
    ·split
     ·exact ⟨cx,wk,trivial⟩
     ·split
      ·exact ⟨cx,wk,rfl⟩
      ·exact ⟨cx,wk,rfl⟩
 | bU =>
   obtain ⟨h1,h2⟩:=L5 hc hk 2;exact ⟨Al h1 _,(h2.mono (M:=N+1) (by omega)).core rfl rfl,hf⟩
 | fills =>
   obtain ⟨h1,h2⟩:=NJ hc hk (qr (k,x));refine ⟨h1.mono (M:=N+1) (by omega),?_,trivial⟩
   have h3:=h2.mono (M:=N+1) (by omega);exact ⟨h3.c0,h3.c1,h3.id,h3.slot,h3.aB,h3.rq,h3.tk⟩
 | looks =>
   have wk:=LV hc hk;obtain ⟨e1,e2,e3,e4⟩:=Fw k x.aa hk.slot hk.id.1
   show JC (N+1) (if (lookW k x.aa).2=0 then _ else _:SC × ZC).1 (if (lookW k x.aa).2=0 then _ else _:SC × ZC).2
   split
   ·show JC (N+1) (if k.kind=3 then _ else _:SC × ZC).1 (if k.kind=3 then _ else _:SC × ZC).2
    split
    ·refine ⟨hc',⟨wk.c0,wk.c1,wk.id,wk.slot,wk.aB,wk.rq,fun i t ht=>?_⟩,rfl⟩
     cases ht
     exact ⟨QQ,Gh hc e4⟩
    ·next h3=>exact ⟨hc',wk.mono (M:=N+1) (by omega),fun h=>absurd (e1.symm.trans h) h3⟩
   ·show JC (N+1) (if (lookW k x.aa).2=1 then _ else _:SC × ZC).1 (if (lookW k x.aa).2=1 then _ else _:SC × ZC).2
    split
    ·exact ⟨(Yt hc wk 1).1,(Yt hc wk 1).2,Kq _ _⟩
    ·exact ⟨(Yt hc wk 0).1,(Yt hc wk 0).2,Kq _ _⟩
 | again =>
   have wk:=LV hc hk;obtain ⟨e1,e2,e3,e4⟩:=Fw k x.aa hk.slot hk.id.1;have hf':(lookW k x.aa).1.tk.isSome=true:=by rw [e3];exact hf
   show JC (N+1) (if (lookW k x.aa).2=0 then _ else _:SC × ZC).1 (if (lookW k x.aa).2=0 then _ else _:SC × ZC).2
   split
   ·exact ⟨hc',wk.mono (M:=N+1) (by omega),fun _=>hf'⟩
   ·exact ⟨(Yt hc wk 0).1,(Yt hc wk 0).2,hf'⟩
 | tries =>
   obtain ⟨h1,h2⟩:=sK hc.aa k.slot k.aB k.event;have cx:Zi N (Zr (k,x)).1.2:=Am hc h1;have wk:Zn N (Zr (k,x)).1.1 (Zr (k,x)).1.2:=(⟨hk.c0,hk.c1,hk.id,hk.slot,hk.aB,hk.rq,hk.tk⟩:Zn N (Zr (k,x)).1.1 x).core h2 rfl;have wo:Zn N (iQ (Zr (k,x)).1.1) (Zr (k,x)).1.2:=⟨wk.c0,wk.c1,wk.id,wk.slot,wk.aB,wk.rq,wk.tk⟩
   show JC (N+1) (if (Zr (k,x)).2≠0 then _ else _:SC × ZC).1 (if (Zr (k,x)).2≠0 then _ else _:SC × ZC).2
   split
   ·show JC (N+1) (if k.kind=3 then _ else _:SC × ZC).1 (if k.kind=3 then _ else _:SC × ZC).2
    split
    ·next h3=>exact ⟨cx.mono (M:=N+1) (by omega),wk.mono (M:=N+1) (by omega),hf h3⟩
    ·exact ⟨cx.mono (M:=N+1) (by omega),wk.mono (M:=N+1) (by omega),trivial⟩
   ·show JC (N+1) (if k.kind=3 then _ else _:SC × ZC).1 (if k.kind=3 then _ else _:SC × ZC).2
    split
    ·next h3=>exact ⟨Al cx _,(wo.mono (M:=N+1) (by omega)).core rfl rfl,hf h3⟩
    ·show JC (N+1) (if k.kind=5 then _ else _:SC × ZC).1 (if k.kind=5 then _ else _:SC × ZC).2
     split
     ·exact ⟨Al cx _,(wo.mono (M:=N+1) (by omega)).core rfl rfl,trivial⟩
     ·exact ⟨Al cx _,(wo.mono (M:=N+1) (by omega)).core rfl rfl,trivial⟩
theorem JC.step {s:SC} {z:ZC} (h:JC N s z):JC (N+1) (J5 s z).1 (J5 s z).2:=by
 obtain ⟨k,x⟩:=z;obtain ⟨hc,hk,hf⟩:=h;simp only at hc hk hf;have ha:=fun a=>IA hc hk a
 match s,hf with
 | .nil,_=>exact ⟨hc.mono (M:=N+1) (by omega),hk.mono (M:=N+1) (by omega),trivial⟩
 | .at none m,hf=>exact q7m hc hk m hf
 | .aj .aS,_=>exact ⟨(ha .aS).1,(ha .aS).2,trivial⟩
 | .thn (.aj .bJ) .ends,_=>exact ⟨(ha .bJ).1,(ha .bJ).2,trivial⟩
 | .thn (.aO .eB .drop) .leaves,_=>exact ⟨(ha .eB).1,(ha .eB).2,trivial⟩
 | .thn (.aj .drop) .leaves,_=>exact ⟨(ha .drop).1,(ha .drop).2,trivial⟩
 | .thn (.aj .bC) .leaves,_=>exact ⟨(ha .bC).1,(ha .bC).2,trivial⟩
 | .thn (.aO .bK .drop) .ends,_=>exact ⟨(ha .bK).1,(ha .bK).2,trivial⟩
 | .thn (.aj .drop) .ends,_=>exact ⟨(ha .drop).1,(ha .drop).2,trivial⟩
end
section
variable {L:Lay} {x:Qi} {gF:List ak}
def sO (L:Lay) (x:Qi) (th no:Int) (c:Q0) (e:Ending) (gs:GH):Prop :=
 ∃ kb g aJ,e=U9 (UE #[Qb kb,U1 U5 0])/\zl L kb (Yp c.kind) 0 (fP th no c) g/\Qf L (xF (fP th no c) { bL with kind:=1,id:=c.id,dl:=c.dl,per:=c.per } x) aJ/\gs=[g,aJ]
theorem qn9 (hx:Qf L x gF) (hn:x.tr.length<=1000000) (th no:Int) (c:Q0):Qa prog 15 #[Qb L.fb,U1 U5 th,U1 U5 no,.agg { c with kind:=1 }.cells] [gF] (sO L x th no { c with kind:=1 }):=by
 unfold sO;have HS:=Vh (show ∀ kb pv,(kv L kb pv).SV (.at none .right) U2 (U6 (U7 81) #[Qb kb] #[]) [] from fun kb pv=>⟨rfl,rfl,rfl⟩);have kz:=Vh (show ∀ kb,_ from fun kb=>aV.ic (vU L kb (U4 none)) (HS kb (U4 none)));have uW:=Vh (show Yp 1=.at none .right from by simp [Yp]);refine GO fun w HT=>?_
 have HX:=Vh hx;have dJ:=Vh hn;clear hx hn;simp only [Q0.cells];go_enter func15,ntmps15
 go_wp2_with fail
 have HT:=Vh ((HT.a 38 #[U1 U5 1,U1 U3 c.id,U1 U3 c.dl,U1 U3 c.per]).alloc (k:=w.heap.size+1) (by simp) 149 (Qq L.fb (U4 none) (U4 none) (U4 none) (fP th no { c with kind:=1 })));simp only [UB,UC] at HT;refine (Qa.use Zb HT [] rfl rfl).mono ?_
 rintro e w1 ⟨gs,⟨rfl,rfl⟩,Ta⟩;simp only [PU] at Ta;have HT:=Vh (Ta.sum (H':=[gF,[cl w.heap.size 38 #[U1 U5 1,U1 U3 c.id,U1 U3 c.dl,U1 U3 c.per]],Qt (w.heap.size+1) L.fb (U4 none) (U4 none) (U4 none) (fP th no { c with kind:=1 }),[]]));clear Ta;go_wp2_with fail
 refine Qa.run (kz _) (HT) [3] ?_
 rintro e w1 gs ⟨pb,rfl,rfl⟩ HT;simp only [PU] at HT;have k12:=HT.c 2 0 12;have jS:=HT.f 2 0 12;simp only [Qq,az] at k12;obtain ⟨b0,b1,b2,b3⟩:=HT.c4 1 0 0 1 2 3;simp only [aN] at b0 b1 b2 b3;go_wp2_with fail
 have HT:=Vh ((HT.set 2 0 rfl 12 (Qb pb)).eq (H':=[gF,[cl w.heap.size 38 #[U1 U5 1,U1 U3 c.id,U1 U3 c.dl,U1 U3 c.per]],Qt (w.heap.size+1) L.fb (Qb pb) (U4 none) (U4 none) (fP th no { c with kind:=1 }),[],aV.aH pb U2 (U6 (U7 81) #[Qb (w.heap.size+1)] #[]) 0]) rfl);go_wp2_with fail
 refine Qa.run (Yu HX { bL with kind:=1,id:=c.id,dl:=c.dl,per:=c.per } dJ) (HT) [2,0] ?_
 rintro e w1 gs ⟨rfl,g1,hx1,rfl⟩ HT;simp only [PU] at HT;have HX:=Vh hx1;clear hx1 k12 jS b0 b1 b2 b3;go_wp2
 go_ret2
 exact ⟨_,⟨_,_,g1,rfl,by rw [uW.out];exact ⟨pb,_,_,[],_,HS _ _,⟨_,_,[],[],⟨rfl,rfl⟩,⟨rfl,rfl⟩,rfl⟩,rfl⟩,HX,rfl⟩,((HT.p [2,0,4]).eq (H':=[[cl (w.heap.size+1) 149 (Qq L.fb (Qb pb) (U4 none) (U4 none) (fP th no { c with kind:=1 }))],g1,aV.aH pb U2 (U6 (U7 81) #[Qb (w.heap.size+1)] #[]) 0]) rfl).sum (H':=[aV.aH pb U2 (U6 (U7 81) #[Qb (w.heap.size+1)] #[]) 0++([]++([cl (w.heap.size+1) 149 (Qq L.fb (Qb pb) (U4 none) (U4 none) (fP th no { c with kind:=1 }))]++([]++[]))),g1])⟩
theorem qoa (hx:Qf L x gF) (hn:x.tr.length<=1000000) (th no:Int) (c:Q0):Qa prog 15 #[Qb L.fb,U1 U5 th,U1 U5 no,.agg { c with kind:=2 }.cells] [gF] (sO L x th no { c with kind:=2 }):=by
 unfold sO;have HS:=Vh (show ∀ kb pv,(kv L kb pv).SV (.at none .right) U2 (U6 (U7 81) #[Qb kb] #[]) [] from fun kb pv=>⟨rfl,rfl,rfl⟩);have kz:=Vh (show ∀ kb,_ from fun kb=>aV.ic (vU L kb (U4 none)) (HS kb (U4 none)));have uW:=Vh (show Yp 2=.at none .right from by simp [Yp]);refine GO fun w HT=>?_
 have HX:=Vh hx;have dJ:=Vh hn;clear hx hn;simp only [Q0.cells];go_enter func15,ntmps15
 go_wp2_with fail
 have HT:=Vh ((HT.a 38 #[U1 U5 2,U1 U3 c.id,U1 U3 c.dl,U1 U3 c.per]).alloc (k:=w.heap.size+1) (by simp) 149 (Qq L.fb (U4 none) (U4 none) (U4 none) (fP th no { c with kind:=2 })));simp only [UB,UC] at HT;refine (Qa.use Zb HT [] rfl rfl).mono ?_
 rintro e w1 ⟨gs,⟨rfl,rfl⟩,Ta⟩;simp only [PU] at Ta;have HT:=Vh (Ta.sum (H':=[gF,[cl w.heap.size 38 #[U1 U5 2,U1 U3 c.id,U1 U3 c.dl,U1 U3 c.per]],Qt (w.heap.size+1) L.fb (U4 none) (U4 none) (U4 none) (fP th no { c with kind:=2 }),[]]));clear Ta;go_wp2_with fail
 refine Qa.run (kz _) (HT) [3] ?_
 rintro e w1 gs ⟨pb,rfl,rfl⟩ HT;simp only [PU] at HT;have k12:=HT.c 2 0 12;have jS:=HT.f 2 0 12;simp only [Qq,az] at k12;obtain ⟨b0,b1,b2,b3⟩:=HT.c4 1 0 0 1 2 3;simp only [aN] at b0 b1 b2 b3;go_wp2_with fail
 have HT:=Vh ((HT.set 2 0 rfl 12 (Qb pb)).eq (H':=[gF,[cl w.heap.size 38 #[U1 U5 2,U1 U3 c.id,U1 U3 c.dl,U1 U3 c.per]],Qt (w.heap.size+1) L.fb (Qb pb) (U4 none) (U4 none) (fP th no { c with kind:=2 }),[],aV.aH pb U2 (U6 (U7 81) #[Qb (w.heap.size+1)] #[]) 0]) rfl);go_wp2_with fail
 refine Qa.run (Yu HX { bL with kind:=1,id:=c.id,dl:=c.dl,per:=c.per } dJ) (HT) [2,0] ?_
 rintro e w1 gs ⟨rfl,g1,hx1,rfl⟩ HT;simp only [PU] at HT;have HX:=Vh hx1;clear hx1 k12 jS b0 b1 b2 b3;go_wp2
 go_ret2
 exact ⟨_,⟨_,_,g1,rfl,by rw [uW.out];exact ⟨pb,_,_,[],_,HS _ _,⟨_,_,[],[],⟨rfl,rfl⟩,⟨rfl,rfl⟩,rfl⟩,rfl⟩,HX,rfl⟩,((HT.p [2,0,4]).eq (H':=[[cl (w.heap.size+1) 149 (Qq L.fb (Qb pb) (U4 none) (U4 none) (fP th no { c with kind:=2 }))],g1,aV.aH pb U2 (U6 (U7 81) #[Qb (w.heap.size+1)] #[]) 0]) rfl).sum (H':=[aV.aH pb U2 (U6 (U7 81) #[Qb (w.heap.size+1)] #[]) 0++([]++([cl (w.heap.size+1) 149 (Qq L.fb (Qb pb) (U4 none) (U4 none) (fP th no { c with kind:=2 }))]++([]++[]))),g1])⟩
theorem qob (hx:Qf L x gF) (hn:x.tr.length<=1000000) (th no:Int) (c:Q0):Qa prog 15 #[Qb L.fb,U1 U5 th,U1 U5 no,.agg { c with kind:=3 }.cells] [gF] (sO L x th no { c with kind:=3 }):=by
 unfold sO;have HS:=Vh (show ∀ kb pv,(kv L kb pv).SV (.at none .enter) U2 (U6 (U7 82) #[Qb kb] #[]) [] from fun kb pv=>⟨rfl,rfl,rfl⟩);have kz:=Vh (show ∀ kb,_ from fun kb=>aV.ic (vU L kb (U4 none)) (HS kb (U4 none)));have uW:=Vh (show Yp 3=.at none .enter from by simp [Yp]);refine GO fun w HT=>?_
 have HX:=Vh hx;have dJ:=Vh hn;clear hx hn;simp only [Q0.cells];go_enter func15,ntmps15
 go_wp2_with fail
 have HT:=Vh ((HT.a 38 #[U1 U5 3,U1 U3 c.id,U1 U3 c.dl,U1 U3 c.per]).alloc (k:=w.heap.size+1) (by simp) 149 (Qq L.fb (U4 none) (U4 none) (U4 none) (fP th no { c with kind:=3 })));simp only [UB,UC] at HT;refine (Qa.use Zb HT [] rfl rfl).mono ?_
 rintro e w1 ⟨gs,⟨rfl,rfl⟩,Ta⟩;simp only [PU] at Ta;have HT:=Vh (Ta.sum (H':=[gF,[cl w.heap.size 38 #[U1 U5 3,U1 U3 c.id,U1 U3 c.dl,U1 U3 c.per]],Qt (w.heap.size+1) L.fb (U4 none) (U4 none) (U4 none) (fP th no { c with kind:=3 }),[]]));clear Ta;go_wp2_with fail
 refine Qa.run (kz _) (HT) [3] ?_
 rintro e w1 gs ⟨pb,rfl,rfl⟩ HT;simp only [PU] at HT;have k12:=HT.c 2 0 12;have jS:=HT.f 2 0 12;simp only [Qq,az] at k12;obtain ⟨b0,b1,b2,b3⟩:=HT.c4 1 0 0 1 2 3;simp only [aN] at b0 b1 b2 b3;go_wp2_with fail
 have HT:=Vh ((HT.set 2 0 rfl 12 (Qb pb)).eq (H':=[gF,[cl w.heap.size 38 #[U1 U5 3,U1 U3 c.id,U1 U3 c.dl,U1 U3 c.per]],Qt (w.heap.size+1) L.fb (Qb pb) (U4 none) (U4 none) (fP th no { c with kind:=3 }),[],aV.aH pb U2 (U6 (U7 82) #[Qb (w.heap.size+1)] #[]) 0]) rfl);go_wp2_with fail
 refine Qa.run (Yu HX { bL with kind:=1,id:=c.id,dl:=c.dl,per:=c.per } dJ) (HT) [2,0] ?_
 rintro e w1 gs ⟨rfl,g1,hx1,rfl⟩ HT;simp only [PU] at HT;have HX:=Vh hx1;clear hx1 k12 jS b0 b1 b2 b3;go_wp2
 go_ret2
 exact ⟨_,⟨_,_,g1,rfl,by rw [uW.out];exact ⟨pb,_,_,[],_,HS _ _,⟨_,_,[],[],⟨rfl,rfl⟩,⟨rfl,rfl⟩,rfl⟩,rfl⟩,HX,rfl⟩,((HT.p [2,0,4]).eq (H':=[[cl (w.heap.size+1) 149 (Qq L.fb (Qb pb) (U4 none) (U4 none) (fP th no { c with kind:=3 }))],g1,aV.aH pb U2 (U6 (U7 82) #[Qb (w.heap.size+1)] #[]) 0]) rfl).sum (H':=[aV.aH pb U2 (U6 (U7 82) #[Qb (w.heap.size+1)] #[]) 0++([]++([cl (w.heap.size+1) 149 (Qq L.fb (Qb pb) (U4 none) (U4 none) (fP th no { c with kind:=3 }))]++([]++[]))),g1])⟩
theorem qoc (hx:Qf L x gF) (hn:x.tr.length<=1000000) (th no:Int) (c:Q0):Qa prog 15 #[Qb L.fb,U1 U5 th,U1 U5 no,.agg { c with kind:=4 }.cells] [gF] (sO L x th no { c with kind:=4 }):=by
 unfold sO;have HS:=Vh (show ∀ kb pv,(kv L kb pv).SV (.at none .gate) U2 (U6 (U7 83) #[Qb kb] #[]) [] from fun kb pv=>⟨rfl,rfl,rfl⟩);have kz:=Vh (show ∀ kb,_ from fun kb=>aV.ic (vU L kb (U4 none)) (HS kb (U4 none)));have uW:=Vh (show Yp 4=.at none .gate from by simp [Yp]);refine GO fun w HT=>?_
 have HX:=Vh hx;have dJ:=Vh hn;clear hx hn;simp only [Q0.cells];go_enter func15,ntmps15
 go_wp2_with fail
 have HT:=Vh ((HT.a 38 #[U1 U5 4,U1 U3 c.id,U1 U3 c.dl,U1 U3 c.per]).alloc (k:=w.heap.size+1) (by simp) 149 (Qq L.fb (U4 none) (U4 none) (U4 none) (fP th no { c with kind:=4 })));simp only [UB,UC] at HT;refine (Qa.use Zb HT [] rfl rfl).mono ?_
 rintro e w1 ⟨gs,⟨rfl,rfl⟩,Ta⟩;simp only [PU] at Ta;have HT:=Vh (Ta.sum (H':=[gF,[cl w.heap.size 38 #[U1 U5 4,U1 U3 c.id,U1 U3 c.dl,U1 U3 c.per]],Qt (w.heap.size+1) L.fb (U4 none) (U4 none) (U4 none) (fP th no { c with kind:=4 }),[]]));clear Ta;go_wp2_with fail
 refine Qa.run (kz _) (HT) [3] ?_
 rintro e w1 gs ⟨pb,rfl,rfl⟩ HT;simp only [PU] at HT;have k12:=HT.c 2 0 12;have jS:=HT.f 2 0 12;simp only [Qq,az] at k12;obtain ⟨b0,b1,b2,b3⟩:=HT.c4 1 0 0 1 2 3;simp only [aN] at b0 b1 b2 b3;go_wp2_with fail
 have HT:=Vh ((HT.set 2 0 rfl 12 (Qb pb)).eq (H':=[gF,[cl w.heap.size 38 #[U1 U5 4,U1 U3 c.id,U1 U3 c.dl,U1 U3 c.per]],Qt (w.heap.size+1) L.fb (Qb pb) (U4 none) (U4 none) (fP th no { c with kind:=4 }),[],aV.aH pb U2 (U6 (U7 83) #[Qb (w.heap.size+1)] #[]) 0]) rfl);go_wp2_with fail
 refine Qa.run (Yu HX { bL with kind:=1,id:=c.id,dl:=c.dl,per:=c.per } dJ) (HT) [2,0] ?_
 rintro e w1 gs ⟨rfl,g1,hx1,rfl⟩ HT;simp only [PU] at HT;have HX:=Vh hx1;clear hx1 k12 jS b0 b1 b2 b3;go_wp2
 go_ret2
 exact ⟨_,⟨_,_,g1,rfl,by rw [uW.out];exact ⟨pb,_,_,[],_,HS _ _,⟨_,_,[],[],⟨rfl,rfl⟩,⟨rfl,rfl⟩,rfl⟩,rfl⟩,HX,rfl⟩,((HT.p [2,0,4]).eq (H':=[[cl (w.heap.size+1) 149 (Qq L.fb (Qb pb) (U4 none) (U4 none) (fP th no { c with kind:=4 }))],g1,aV.aH pb U2 (U6 (U7 83) #[Qb (w.heap.size+1)] #[]) 0]) rfl).sum (H':=[aV.aH pb U2 (U6 (U7 83) #[Qb (w.heap.size+1)] #[]) 0++([]++([cl (w.heap.size+1) 149 (Qq L.fb (Qb pb) (U4 none) (U4 none) (fP th no { c with kind:=4 }))]++([]++[]))),g1])⟩
theorem qod (hx:Qf L x gF) (hn:x.tr.length<=1000000) (th no:Int) (c:Q0):Qa prog 15 #[Qb L.fb,U1 U5 th,U1 U5 no,.agg { c with kind:=5 }.cells] [gF] (sO L x th no { c with kind:=5 }):=by
 unfold sO;have HS:=Vh (show ∀ kb pv,(kv L kb pv).SV (.at none .gate) U2 (U6 (U7 83) #[Qb kb] #[]) [] from fun kb pv=>⟨rfl,rfl,rfl⟩);have kz:=Vh (show ∀ kb,_ from fun kb=>aV.ic (vU L kb (U4 none)) (HS kb (U4 none)));have uW:=Vh (show Yp 5=.at none .gate from by simp [Yp]);refine GO fun w HT=>?_
 have HX:=Vh hx;have dJ:=Vh hn;clear hx hn;simp only [Q0.cells];go_enter func15,ntmps15
 go_wp2_with fail
 have HT:=Vh ((HT.a 38 #[U1 U5 5,U1 U3 c.id,U1 U3 c.dl,U1 U3 c.per]).alloc (k:=w.heap.size+1) (by simp) 149 (Qq L.fb (U4 none) (U4 none) (U4 none) (fP th no { c with kind:=5 })));simp only [UB,UC] at HT;refine (Qa.use Zb HT [] rfl rfl).mono ?_
 rintro e w1 ⟨gs,⟨rfl,rfl⟩,Ta⟩;simp only [PU] at Ta;have HT:=Vh (Ta.sum (H':=[gF,[cl w.heap.size 38 #[U1 U5 5,U1 U3 c.id,U1 U3 c.dl,U1 U3 c.per]],Qt (w.heap.size+1) L.fb (U4 none) (U4 none) (U4 none) (fP th no { c with kind:=5 }),[]]));clear Ta;go_wp2_with fail
 refine Qa.run (kz _) (HT) [3] ?_
 rintro e w1 gs ⟨pb,rfl,rfl⟩ HT;simp only [PU] at HT;have k12:=HT.c 2 0 12;have jS:=HT.f 2 0 12;simp only [Qq,az] at k12;obtain ⟨b0,b1,b2,b3⟩:=HT.c4 1 0 0 1 2 3;simp only [aN] at b0 b1 b2 b3;go_wp2_with fail
 have HT:=Vh ((HT.set 2 0 rfl 12 (Qb pb)).eq (H':=[gF,[cl w.heap.size 38 #[U1 U5 5,U1 U3 c.id,U1 U3 c.dl,U1 U3 c.per]],Qt (w.heap.size+1) L.fb (Qb pb) (U4 none) (U4 none) (fP th no { c with kind:=5 }),[],aV.aH pb U2 (U6 (U7 83) #[Qb (w.heap.size+1)] #[]) 0]) rfl);go_wp2_with fail
 refine Qa.run (Yu HX { bL with kind:=1,id:=c.id,dl:=c.dl,per:=c.per } dJ) (HT) [2,0] ?_
 rintro e w1 gs ⟨rfl,g1,hx1,rfl⟩ HT;simp only [PU] at HT;have HX:=Vh hx1;clear hx1 k12 jS b0 b1 b2 b3;go_wp2
 go_ret2
 exact ⟨_,⟨_,_,g1,rfl,by rw [uW.out];exact ⟨pb,_,_,[],_,HS _ _,⟨_,_,[],[],⟨rfl,rfl⟩,⟨rfl,rfl⟩,rfl⟩,rfl⟩,HX,rfl⟩,((HT.p [2,0,4]).eq (H':=[[cl (w.heap.size+1) 149 (Qq L.fb (Qb pb) (U4 none) (U4 none) (fP th no { c with kind:=5 }))],g1,aV.aH pb U2 (U6 (U7 83) #[Qb (w.heap.size+1)] #[]) 0]) rfl).sum (H':=[aV.aH pb U2 (U6 (U7 83) #[Qb (w.heap.size+1)] #[]) 0++([]++([cl (w.heap.size+1) 149 (Qq L.fb (Qb pb) (U4 none) (U4 none) (fP th no { c with kind:=5 }))]++([]++[]))),g1])⟩
theorem qvf (hx:Qf L x gF) (hn:x.tr.length<=1000000) (th no:Int) (c:Q0) (h1:1<=c.kind) (h5:c.kind<=5):Qa prog 15 #[Qb L.fb,U1 U5 th,U1 U5 no,.agg c.cells] [gF] (sO L x th no c):=by
 obtain ⟨kd,id,dl,per⟩:=c;simp only at h1 h5;have h:kd=1\/kd=2\/kd=3\/kd=4\/kd=5:=by omega
 rcases h with rfl | rfl | rfl | rfl | rfl
 ·exact qn9 hx hn th no ⟨1,id,dl,per⟩
 ·exact qoa hx hn th no ⟨2,id,dl,per⟩
 ·exact qob hx hn th no ⟨3,id,dl,per⟩
 ·exact qoc hx hn th no ⟨4,id,dl,per⟩
 ·exact qod hx hn th no ⟨5,id,dl,per⟩
theorem qjv (hx:Qf L x gF) (th no:Int) (c:Q0) (h:c.kind<1\/5<c.kind):Qa prog 15 #[Qb L.fb,U1 U5 th,U1 U5 no,.agg c.cells] [gF] fun e gs=>e=U9 (UE #[U4 none,U1 U5 1])/\gs=[gF]:=by
 refine GO fun w HT=>?_
 have b1:(c.kind == 1)=false:=beq_eq_false_iff_ne.2 (by omega);have b2:(c.kind == 2)=false:=beq_eq_false_iff_ne.2 (by omega);have b3:(c.kind == 3)=false:=beq_eq_false_iff_ne.2 (by omega);have b4:(c.kind == 4)=false:=beq_eq_false_iff_ne.2 (by omega);have b5:(c.kind == 5)=false:=beq_eq_false_iff_ne.2 (by omega);clear h hx;simp only [Q0.cells];go_enter func15,ntmps15
 go_wp2
 go_ret2
 exact ⟨_,⟨rfl,rfl⟩,(HT.aT _).aT _⟩
end
def NY (c:Cfg):Qi:=⟨⟨c,false,0,0,0⟩,Zx c.cap.toNat,[],List.replicate c.sh.toNat (Qr c.ring.toNat)⟩
structure Xj where
 id:Int
 gen:Int
 dl:Int
 tick:Int
def Xj.vals (f:Xj):List Value:=[U1 U3 f.id,U1 U3 f.gen,U1 U3 f.dl,U1 U3 f.tick]
structure Q2 where
 room:Nat
 ch:List Xj
 sp:List Xj
 most:Int
 shut:Bool
def Lr (n:Nat):Q2:=⟨n,[],[],0,false⟩
abbrev X6 (pb cb lb:Nat) (p:Q2):List ak:=[cl pb 185 #[.chan (some cb),Qb lb,U1 U5 p.most,.bool p.shut]]
def Zd (pb:Nat) (p:Q2) (g:List ak):Prop:=∃ (cb lb hb a b:Nat) (l:List Nd) (gl:List ak),Yr lb hb l gl/\l.map Nd.v=p.sp.map Xj.vals /\
 g=X6 pb cb lb p++([(cb,.chan p.room (p.ch.map fun f=>UL f.vals.toArray).toArray false a b false)]++gl)
theorem RF (cb n:Nat) (buf:Array Value) (cz:Bool) (a b:Nat) (w:World) (h:w.heap[cb]?=some (.chan n buf cz a b false)) :
 (Builtin.len_ #[182] 3 #[.chan (some cb)]).run prog w=.ok (U1 U5 buf.size) w:=by
 have hg:(getObj cb).run prog w=.ok (.chan n buf cz a b false) w:=by simp [getObj,Sem.run,h]
 simp [Builtin.len_,run_underlying underlying182,hg,goInt]
def Q2.mR (p:Q2):Int:=if p.shut then 3 else 0
section
variable {pb:Nat} {p:Q2} {g:List ak}
theorem qtf (hg:Zd pb p g):Qa prog 198 #[Qb pb] [g] fun e gs=>e=U9 (U1 U5 p.mR)/\∃ g',Zd pb { p with shut:=true } g'/\gs=[g']:=by
 obtain ⟨cb,lb,hb,a,b,l,gl,h1,h2,rfl⟩:=hg;cases hs:p.shut with
 | false =>
   have HE:=Vh (show p.mR=0 from by unfold Q2.mR;rw [hs];rfl);rw [HE.out];refine GO fun w HT=>?_
   have HT:=Vh (HT.out.m [X6 pb cb lb p,[(cb,.chan p.room (p.ch.map fun f=>UL f.vals.toArray).toArray false a b false)]++gl]);have H1:=Vh h1;have H2:=Vh h2;have c3:=HT.c 0 0 3;have EL:=HT.f 0 0 3;simp only [hs,az] at c3;clear h1 h2 hs;go_enter func198,ntmps198
   go_wp2
   go_ret
   exact ⟨_,⟨rfl,_,⟨cb,lb,hb,a,b,l,gl,H1,H2,rfl⟩,rfl⟩,((HT.set 0 0 rfl 3 _).eq (H':=[X6 pb cb lb { p with shut:=true },[(cb,.chan p.room (p.ch.map fun f=>UL f.vals.toArray).toArray false a b false)]++gl]) rfl).sum⟩
 | true =>
   have hsame:({ p with shut:=true }:Q2)=p:=by rw [<- hs]
   rw [hsame];have HE:=Vh (show p.mR=3 from by unfold Q2.mR;rw [hs];rfl);rw [HE.out];refine GO fun w HT=>?_
   have HT:=Vh (HT.out.m [X6 pb cb lb p,[(cb,.chan p.room (p.ch.map fun f=>UL f.vals.toArray).toArray false a b false)]++gl]);have H1:=Vh h1;have H2:=Vh h2;have c3:=HT.c 0 0 3;simp only [hs,az] at c3;clear h1 h2 hs;go_enter func198,ntmps198
   go_wp2
   go_ret
   exact ⟨_,⟨rfl,_,⟨cb,lb,hb,a,b,l,gl,H1,H2,rfl⟩,rfl⟩,HT.sum⟩
theorem qmq (hg:Zd pb p g):Qd prog 239 #[Qb pb] [g] (.bool (p.shut && decide (p.ch=[]))):=by
 obtain ⟨cb,lb,hb,a,b,l,gl,h1,h2,rfl⟩:=hg;refine GO fun w HT=>?_
 have HT:=Vh (HT.out.m [X6 pb cb lb p,[(cb,.chan p.room (p.ch.map fun f=>UL f.vals.toArray).toArray false a b false)]++gl]);have b1:=HT.obj 1 0 rfl;simp only [] at b1;have hlc:=RF cb p.room _ false a b w b1;simp only [List.size_toArray,List.length_map] at hlc;have hz:((p.ch.length:Int) == 0)=decide (p.ch=[]):=by cases p.ch <;> simp <;> omega
 clear h1 h2;generalize p.ch.length=n at *;generalize decide (p.ch=[])=e at *;cases hs:p.shut with
 | false =>
   obtain ⟨c0,c3⟩:=HT.c2 0 0 0 3;simp only [hs,X6,az] at c0 c3;go_enter func239,ntmps239
   go_wp2
   go_ret
   exact ⟨rfl,0,rfl⟩
 | true =>
   obtain ⟨c0,c3⟩:=HT.c2 0 0 0 3;simp only [hs,X6,az] at c0 c3;go_enter func239,ntmps239
   go_wp2
   go_ret
   exact ⟨rfl,0,rfl⟩
end
end
end Go.Proofs.YtcneeepdclgdcaaGreat
