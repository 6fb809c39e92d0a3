import Derived.Test.YtcneeepdclgdcaaGreatPF33
import Derived.Test.YtcneeepdclgdcaaGreatPF16
import Derived.Test.YtcneeepdclgdcaaGreatPF32
set_option maxRecDepth 100000
set_option maxHeartbeats 4000000
namespace Go.Proofs.YtcneeepdclgdcaaGreat
open Go.IntKind renaming i64->WK
open _root_.Int renaming le_refl->WL,emod_nonneg->XA
open Go.Value renaming int->WM
open _root_.List renaming getD_eq_getElem?_getD->WN,getElem?_set->WO,getElem?_eq_some_iff->WQ,getElem?_eq_getElem->WR,mem_of_getElem?->WT,length_set->WV,getElem?_cons_zero->WX,append_toArray->XB,size_toArray->XC,push_toArray->XD,getElem?_append_left->XE,length_cons->XF,cons_append->XG,length_nil->XH,nil_append->XI,getElem?_map->XL
open Go.Ending renaming returned->WS
open _root_.Classical renaming byContradiction->WU
open _root_.Option.some renaming injEq->WW
open _root_.Array renaming replicate_succ->WY,replicate_zero->WZ
open Go renaming callsIn_wide->XJ,results_none->XK
open _root_.And renaming intro->XM
open _root_.Nat renaming le_trans->XN
set_option linter.all false
open Go.Proofs.Tryz
section
open Go.RowKit Go.Shelf
attribute [local go_sem] Oper.semAt_some
def PlS.iy (P:PlS):Nat:=P.S.own.length+P.S.aL.length
theorem qza (S:SvS) (i:Int):(S.stepS i).1.own=S.own/\(S.stepS i).1.aL.length=S.aL.length:=by
 unfold SvS.stepS;split
 ·exact ⟨rfl,rfl⟩
 ·split
  ·next t _ =>
   cases h:t.2 with
   | eH a=>exact ⟨rfl,rfl⟩
   | fQ i=>exact ⟨rfl,WV⟩
  ·exact ⟨rfl,rfl⟩
theorem q3i (P:PlS) (a:Nat):(P.step a).iy=P.iy:=by
 obtain ⟨h1,h2⟩:=qza P.S a;unfold PlS.step PlS.iy;split
 ·show ((P.S.stepS a).1.own.length+(P.S.stepS a).1.aL.length)=_
  rw [h1,h2]
 ·show ((P.S.stepS a).1.own.length+(P.S.stepS a).1.aL.length)=_
  rw [h1,h2]
theorem GI:∀ (l:List Nat) (P:PlS),(l.foldl PlS.step P).iy=P.iy
 | [],_=>rfl
 | a::l,P=>by rw [List.foldl_cons,GI l,q3i]
theorem RX:∀ (n:Nat) (P:PlS),(PlS.rounds n P).iy=P.iy
 | 0,_=>rfl
 | n+1,P=>by rw [PlS.gU];unfold PlS.round;rw [GI,RX n]
theorem M8 (P:PlS):P.S.bM.length<=P.iy:=by
 have h1:=He P.S.own 0;have h2:=MK P.S.aL P.S.own.length 0;refine XN (m:=P.S.iH.length) ?_ ?_
 ·unfold SvS.bM
  rw [List.length_map];exact List.length_filter_le _ _
 ·unfold SvS.iH PlS.iy
  rw [List.length_append];omega
section
variable {N:Nat} {L:Lay} {pb sb:Nat} {P:PlS} {g:List ak}
theorem BA {h H:GH} {w w1:World} (T:TG h w H w1) (i:Nat) (hi:H.getD i []=g) (hp:qc N L pb sb P g):w1.cell? ⟨pb,0,none⟩=some (Qb sb)/\pb<w1.heap.size:=by
 obtain ⟨mb,gS,gM,_,rfl⟩:=hp;exact ⟨T.cell i 0 (b:=pb) (by rw [hi];rfl) 0,T.lt i 0 (p:=(pb,_)) (by rw [hi];rfl)⟩
theorem zbu (h:qc N L pb sb P g) (hN:N<999998):Qa prog 59 #[Qb sb] [g] fun e gs =>
 ∃ v gl g',e=WS v/\Q1 3 1 v P.S.bM.length (vP P.S.bM) gl/\qc N L pb sb P g'/\gs=[g',gl]:=by
 obtain ⟨mb,gS,gM,hi,rfl⟩:=h;intro w hw;have T:=(TG.refl hw).bG (H':=[fE pb sb mb P.cO P.steps P.dJ,gS,gM]);refine (Qa.use (Oa hi.sv hN) T [1] rfl rfl).mono ?_
 rintro e w' ⟨gs,⟨v,gl,g',he,hr,hs,rfl⟩,T'⟩;exact ⟨_,⟨v,gl,_,he,hr,⟨mb,g',gM,⟨hs,hi.mp,hi.pn⟩,rfl⟩,rfl⟩,TG.bG (H:=[fE pb sb mb P.cO P.steps P.dJ,g',gM,gl]) T'⟩
theorem Hy (h:qc N L pb sb P g) (hN:N<999998):Qa prog 55 #[Qb sb] [g] fun e gs=>∃ g',e=WS (.bool P.S.idle)/\qc N L pb sb P g'/\gs=[g']:=by
 obtain ⟨mb,gS,gM,hi,rfl⟩:=h;intro w hw;have T:=(TG.refl hw).bG (H':=[fE pb sb mb P.cO P.steps P.dJ,gS,gM]);refine (Qa.use (zba hi.sv hN) T [1] rfl rfl).mono ?_
 rintro e w' ⟨gs,⟨g',he,hs,rfl⟩,T'⟩;exact ⟨_,⟨_,he,⟨mb,g',gM,⟨hs,hi.mp,hi.pn⟩,rfl⟩,rfl⟩,TG.bG (H:=[fE pb sb mb P.cO P.steps P.dJ,g',gM]) T'⟩
theorem zbt (h:qc N L pb sb P g) (hN:N<999998):Qa prog 116 #[Qb sb] [g] fun e gs=>∃ v gv g',e=WS v/\Q1 63 4 v P.S.z.lg.length (fires P.S.z.lg) gv/\qc N L pb sb P g'/\gs=[g',gv]:=by
 obtain ⟨mb,gS,gM,hi,rfl⟩:=h;intro w hw;have T:=(TG.refl hw).bG (H':=[fE pb sb mb P.cO P.steps P.dJ,gS,gM]);refine (Qa.use (JE hi.sv hN) T [1] rfl rfl).mono ?_
 rintro e w' ⟨gs,⟨v,gv,g',he,hv,hs,rfl⟩,T'⟩;exact ⟨_,⟨v,gv,_,he,hv,⟨mb,g',gM,⟨hs,hi.mp,hi.pn⟩,rfl⟩,rfl⟩,TG.bG (H:=[fE pb sb mb P.cO P.steps P.dJ,g',gM,gv]) T'⟩
theorem q2r (h:qc N L pb sb P g) (hN:N<999998) (no:Int):Qa prog 58 #[Qb sb,WM WK no] [g] fun e gs =>
 ∃ v gv g',e=WS (.tuple #[.agg ((P.S.dh no).cells v),WM WK (P.S.dh no).code])/\Q1 36 1 v (P.S.dh no).left.length (kv (P.S.dh no).left) gv/\qc N L pb sb P g'/\gs=[g',gv]:=by
 obtain ⟨mb,gS,gM,hi,rfl⟩:=h;intro w hw;have T:=(TG.refl hw).bG (H':=[fE pb sb mb P.cO P.steps P.dJ,gS,gM]);refine (Qa.use (q5b hi.sv hN no) T [1] rfl rfl).mono ?_
 rintro e w' ⟨gs,⟨v,gv,g',he,hv,hs,rfl⟩,T'⟩;exact ⟨_,⟨v,gv,_,he,hv,⟨mb,g',gM,⟨hs,hi.mp,hi.pn⟩,rfl⟩,rfl⟩,TG.bG (H:=[fE pb sb mb P.cO P.steps P.dJ,g',gM,gv]) T'⟩
theorem qyc (h:qc N L pb sb P g):∀ t∈P.S.bM,t<1000000:=by
 obtain ⟨mb,gS,gM,hi,rfl⟩:=h;exact (Mo hi.sv).2
theorem TK:Qa prog 128 #[Qb pb] [] fun e gs=>∃ bx,e=WS (.func (.func 170) #[] #[Qb bx])/\gs=[[cl bx 110 #[Qb pb]]]:=by
 refine GO fun w HT=>?_
 go_enter func128,ntmps128
 go_wp2
 go_ret
 exact ⟨_,⟨_,rfl,rfl⟩,HT.alloc rfl _ _⟩
end
def Kv (N0 T:Nat) (L:Lay) (pb sb bx:Nat) (P0:PlS):IU where
 σ:=Nat
 O k Oy:=∃ g,qc (N0+k*T) L pb sb (PlS.rounds k P0) g/\Oy=[g,[cl bx 110 #[Qb pb]]]
 step k x k':=x=#[WM WK ((k:Int)+1)]/\k'=k+1
 fin _:=False
theorem Ro (L:Lay) (pb sb bx:Nat) {P0:PlS} {N0 T bound:Nat} (hT:P0.iy<=T) (hbd:bound<=1000000) (hN:N0+bound*T<999990):QC prog 170 #[Qb bx] (Kv N0 T L pb sb bx P0) (fun (k:Nat)=>k<bound) (0:Nat):=by
 intro ly J Jx hok hY H0 O0 W hJ0 hO hH;obtain ⟨g0,hg0,rfl⟩:=hO;have HT0:=Vh (TG.refl hH);have HJ:=Vh hJ0;have On:=Vh hg0;have lT:=Vh hok;have HY:=Vh hY;clear hH hY hok hJ0 hg0;refine (XJ (n:=9)).1 (callsIn_of_wp func170 rfl trivial ?_ rfl)
 simp only [ntmps170,XC,XF,XH,Nat.reduceAdd,Nat.reduceSub,WY,WZ,XD,XB,XI,XG];gi_wp2
 gi_loopw [3] (fun i wr=>∃ (k:Nat) (H:GH) (g:List ak),i=WM WK ((k:Int)+1)/\J k H/\qc (N0+k*T) L pb sb (PlS.rounds k P0) g/\TG (H0++[g0,[cl bx 110 #[Qb pb]]]) W (H++[g,[cl bx 110 #[Qb pb]]]) wr) (fun i _=>bound+2 - (intOf i).toNat)
 case atStart=>exact ⟨0,H0,g0,rfl,HJ,On,HT0⟩
 case round =>
  obtain ⟨k,H,g,rfl,hj,hg,T1⟩:=hrel;clear HJ On HT0;have hkb:k<bound:=lT.out k H hj
  have OU:N0+k*T+T<999990:=by
   have h1:(k+1)*T<=bound*T:=Nat.mul_le_mul_right _ hkb;rw [Nat.add_mul,Nat.one_mul] at h1;omega
  have HT1:=Vh T1;have HJ:=Vh hj;have HL:=Vh (TG.refl T1.has.right);have CF:=Vh (show (PlS.rounds k P0).S.bM.length<=T from XN (M8 _) (by rw [RX];exact hT));have Cw:=Vh (PlS.gU k P0);obtain ⟨PK,Kh⟩:∃ PK,PlS.rounds k P0=PK:=⟨_,rfl⟩;rw [Kh] at hg CF Cw;have xH:=Vh (zbu hg (by omega));obtain ⟨p0,eT⟩:=BA HL 0 rfl hg;have c0:=HL.c 1 0 0;have bI:=HL.l 1 0;simp only [bR] at c0 bI;obtain ⟨NK,Kg⟩:∃ NK,N0+k*T=NK:=⟨_,rfl⟩;rw [Kg] at OU xH hg;have HNK:=Vh Kg;have Ow:=Vh Kh;clear T1 hj hg Kh Kg;gi_wp2
  refine ⟨trivial,(XJ (n:=8)).2 ((Qa.use xH HL [0] rfl rfl).mono ?_)⟩
  rintro e w1 ⟨gs,⟨v,gl,g1,rfl,hrow,hg1,rfl⟩,Ta⟩;simp only [PU] at Ta;have hmt:=qyc hg1;obtain ⟨av,cap,hv⟩:=Q1.val hrow;subst hv;have sH:=Vh hrow;have Cv:=Vh hmt;have kF:=Vh hg1;have HL:=Vh Ta;clear Ta hrow hg1 p0 eT c0 bI hmt;obtain ⟨M,hM⟩:∃ M,PK.S.bM.length=M:=⟨_,rfl⟩;have oz:=Vh hM;have hMT:M<=T:=by rw [<- hM];exact CF
  clear hM;rw [oz.out];gi_wp2
  gi_loopw [14] (fun i wr2=>∃ (j:Nat) (g2:List ak),j<=M/\i=WM WK j/\qc (NK+j) L pb sb ((PK.S.bM.take j).foldl PlS.step PK) g2/\TG [g,[cl bx 110 #[Qb pb]]] wr [g2,[cl bx 110 #[Qb pb]],gl] wr2) (fun i _=>M+1 - (intOf i).toNat)
  case atStart=>exact ⟨0,g1,Nat.zero_le _,rfl,kF,HL⟩
  case round =>
   obtain ⟨j,g2,hjM,rfl,hg2,T2⟩:=hrel;clear HL kF;have c0:=T2.c 1 0 0;have bI:=T2.l 1 0;simp only [bR] at c0 bI;by_cases hlt:j<M
   ·obtain ⟨t,ht⟩:∃ t,PK.S.bM[j]?=some t:=⟨_,WR (by rw [oz.out];exact hlt)⟩
    have Ks:=Cv.out t (WT ht);obtain ⟨rb,cp,hv,hb⟩:=xu sH T2 2 rfl (by simp) (k:=j) (x:=WM WK (t:Int)) (by unfold vP;rw [XL,ht];rfl);rw [oz.out] at hv;obtain ⟨rfl,rfl⟩:av=some ⟨rb,0,none⟩/\cap=cp:=by cases hv;exact ⟨rfl,rfl⟩
    have HT2:=Vh T2;have HST:=Vh (q9p hg2 (by omega) t Ks)
    have lS:=Vh (show (PK.S.bM.take (j+1)).foldl PlS.step PK=((PK.S.bM.take j).foldl PlS.step PK).step t by
     obtain ⟨h1,h2⟩:=WQ.1 ht;rw [List.take_succ_eq_append_getElem h1,h2,List.foldl_append]
     rfl)
    clear T2 ht hv hg2;gi_wp2
    refine ⟨trivial,(XJ (n:=8)).2 ((Qa.use HST HT2 [0] rfl rfl).mono ?_)⟩
    rintro e w3 ⟨gs,⟨g3,rfl,hg3,rfl⟩,Ta⟩;simp only [PU] at Ta;have HX:=Vh (XM hg3 Ta);clear hg3 Ta hb c0 bI;gi_wp2
    go_roundw
    case rel=>exact ⟨j+1,g3,by omega,by go_num,by rw [lS.out];exact HX.1,HX.2⟩
    case measure=>simp [intOf];omega
   ·obtain rfl:j=M:=by omega
    have hfin:(PK.S.bM.take j).foldl PlS.step PK=PlS.rounds (k+1) P0:=by rw [List.take_of_length_le (Nat.le_of_eq oz.out),Cw.out];rfl
    rw [hfin] at hg2;have hg3:qc (N0+(k+1)*T) L pb sb (PlS.rounds (k+1) P0) g2:=hg2.mono (by have:=HNK.out;rw [Nat.add_mul,Nat.one_mul];omega);have T3:=T2.p [0,1];have T4:=HT1.trans (TG.sO (T3.eq (H':=[g2,[cl bx 110 #[Qb pb]]]) rfl) HT1.has);have hy0:=HY.out k #[WM WK ((k:Int)+1)] (k+1) H [g2,[cl bx 110 #[Qb pb]]] _ HJ ⟨rfl,rfl⟩ ⟨g2,hg3,rfl⟩ T4.has;obtain ⟨fn,tmps,assign,body,hy,hR⟩:=Zw (n:=8) hy0;have HRR:=Vh hR;have CE:=Vh T4;clear T2 T3 T4 hy0 hR hg3 hg2 hfin c0 bI hjM hlt;gi_wp2
    refine HRR.mono ?_
    rintro e W' ⟨H',iX,hT',⟨g3,hg3,rfl⟩,hj'⟩;have Ox:=Vh (CE.out.trans hT');rcases hj' with ⟨rfl,hj'⟩ | ⟨rfl,hj'⟩
    ·have HJ2:=Vh (XM hj' hg3)
     clear hj' hg3 hT' hy;gi_wp2
     go_roundw
     case rel=>exact ⟨k+1,H',g3,by go_num,HJ2.1,HJ2.2,Ox⟩
     case measure=>simp [intOf];omega
    ·have HJ2:=Vh (XM hj' hg3)
     clear hj' hg3 hT' hy;gi_wp2
     refine bodyPost_ret (XK rfl _ _ _) rfl ?_
     exact ⟨⟨_,rfl⟩,k+1,H',_,Ox,⟨g3,HJ2.2,rfl⟩,.inr HJ2.1⟩
section
variable {N:Nat} {L:Lay} {pb sb:Nat} {P:PlS} {g:List ak}
theorem q9o (h:qc N L pb sb P g) {T:Nat} (hT:P.iy<=T) (n:Nat) (hn:n<=1000000) (hN:N+n*T<999990):Qa prog 127 #[Qb pb,WM WK n] [g] fun e gs =>
 ∃ g',e=WS (.tuple #[])/\qc (N+n*T) L pb sb (PlS.rounds n P) g'/\gs=[g']:=by
 by_cases h0:n=0
 ·subst h0
  have HG:=Vh h;refine GO fun w HT=>?_
  clear h;refine Xf func127 rfl ?_
  simp only [ntmps127,XC,XF,XH,Nat.reduceAdd,Nat.reduceSub,WY,WZ,XD,XB,XI,XG];go_wp2
  exact GA (XK rfl _ _ _) ⟨_,⟨g,rfl,by rw [Nat.zero_mul];exact HG,rfl⟩,HT.aN _⟩
 ·have HI:=Vh (show ∀ bx,_ from fun bx=>Ro L pb sb bx (P0:=P) (N0:=N) (T:=T) (bound:=n) hT hn hN)
  have eg:=enters_of func170 (P:=prog) (by kernel_rfl) rfl;have HG:=Vh h;have hn1:1<=n:=by omega
  refine GO fun w HT=>?_
  clear h h0;refine Xf func127 rfl ?_
  simp only [ntmps127,XC,XF,XH,Nat.reduceAdd,Nat.reduceSub,WY,WZ,XD,XB,XI,XG];go_wp2_with fail
  obtain ⟨nb,hnb⟩:∃ nb,w.heap.size=nb:=⟨_,rfl⟩;have HT:=Vh (HT.out.alloc (k:=nb) hnb.symm 3 #[WM WK n]);rw [hnb];clear hnb;go_wp2_with fail
  refine Qa.run TK HT [] ?_
  rintro e w1 gs ⟨bx,rfl,rfl⟩ HT;simp only [PU] at HT;have T0:=HT.re (H':=[[cl nb 3 #[WM WK n]]]++[g,[cl bx 110 #[Qb pb]]]) (List.Perm.swap _ _ _ |>.flatten);go_wp2_with fail
  refine Tp (H0:=[[cl nb 3 #[WM WK n]]]) (O0:=[g,[cl bx 110 #[Qb pb]]]) rfl eg (HI bx) ?hps T0 ⟨g,by rw [Nat.zero_mul];exact HG,rfl⟩ (fun (k:Nat) H=>k<n/\H=[[cl nb 3 #[WM WK n]]]) (fun (k:Nat) cd H=>cd=.ret/\k=n/\H=[[cl nb 3 #[WM WK n]]]) ?h0 ?hT ?hbody ?hdone ?hstop
  case hps=>rintro s x s' ⟨rfl,_⟩;rfl
  case h0=>exact ⟨by omega,rfl⟩
  case hT=>exact fun s H h=>h.1
  case hbody =>
   rintro (k:Nat) x (k':Nat) H Oy W ly ⟨hk,rfl⟩ ⟨rfl,rfl⟩ ⟨g2,hg2,rfl⟩ hH;have qV:=Vh hg2;have HH:=Vh hH;clear hg2 hH T0 HG;refine Xq (n:=9) ?_
   gi_wp2
   refine ⟨_,TG.refl HH,fun Wb hb=>?_⟩
   have c0:=(TG.refl hb).c 0 0 0;have bI:=(TG.refl hb).l 0 0;simp only [bR] at c0 bI;have HT:=Vh (TG.refl hb);clear hb HH;by_cases hkn:k+1=n
   ·have hq:((k:Int)+1 == (n:Int))=true:=by rw [beq_iff_eq];omega
    refine Xq (n:=9) ?_
    gi_wp2
    exact ⟨_,⟨_,_,rfl,⟨rfl,hkn,rfl⟩,⟨g2,qV,rfl⟩⟩,HT⟩
   ·have hq:((k:Int)+1 == (n:Int))=false:=by rw [beq_eq_false_iff_ne];omega
    refine Xq (n:=9) ?_
    gi_wp2
    exact ⟨_,⟨_,_,rfl,⟨by omega,rfl⟩,⟨g2,qV,rfl⟩⟩,HT⟩
  case hdone=>intro s H O W D h;exact h.elim
  case hstop =>
   rintro (k:Nat) cd H O W D ⟨rfl,rfl,rfl⟩ ⟨g2,hg2,rfl⟩ hT;have T3:=hT.bY (.deferred none);refine wp_ret (Z5 hT.has.last (XK rfl _ _ _) ?_)
   exact ⟨_,⟨g2,rfl,hg2,rfl⟩,(T3.p [1])⟩
end
end
section
open Go.RowKit Go.Shelf
def vG:SC->Qt->Int
 | .nil,_=>0
 | .at none .right,_=>0
 | .at none .enter,_=>0
 | .ai .aR,_=>0
 | _,k=>if k.kind<=3 then 1 else 0
def xe:SC->Qt->Prop
 | .nil,k=>True
 | .at none .right,k=>k.kind=1\/k.kind=2
 | .at none .enter,k=>1<=k.kind/\k.kind<=3
 | .at none .gate,k=>1<=k.kind/\k.kind<=5
 | .at none .looks,k=>3<=k.kind/\k.kind<=5
 | .at none .asks,k=>k.kind=1\/k.kind=2
 | .at none .bu,k=>1<=k.kind/\k.kind<=3
 | .at none .bW,k=>k.kind=1\/k.kind=2
 | .at none .fills,k=>1<=k.kind/\k.kind<=3
 | .at none .again,k=>k.kind=3
 | .at none .tries,k=>3<=k.kind/\k.kind<=5
 | .ai .aR,k=>True
 | .thn (.ai .bL) .ends,k=>1<=k.kind/\k.kind<=3
 | .thn (.aP .eG .drop) .leaves,k=>k.kind=1\/k.kind=2
 | .thn (.ai .drop) .leaves,k=>k.kind=1\/k.kind=2
 | .thn (.ai .bC) .leaves,k=>k.kind=3
 | .thn (.aP .bN .drop) .ends,k=>k.kind=4
 | .thn (.ai .drop) .ends,k=>k.kind=4
 | _,_=>False
def mf (k:Qt):Prop:=∀ i t,k.tk=some (i,t)->¬ (t.status=2/\t.filled=false)
def qF (k:Qt):Prop:=∃ i t,k.tk=some (i,t)/\t.status=2/\t.filled=false
def yo:SC->Qt->Prop
 | .at none .bu,k=>∃ i t,k.tk=some (i,t)/\t.status=0/\t.filled=false
 | .at none .bW,k=>qF k
 | .at none .fills,k=>qF k
 | .at none .again,k=>qF k
 | .at none .tries,k=>if k.kind=3 then qF k else mf k
 | .thn (.ai .bC) .leaves,k=>qF k
 | _,k=>mf k
inductive wZ (f:Prop) (k k':Qt) (x x':Qi):Prop where
 | none (h1:x'.au=x.au) (h2:k'.tk=k.tk):wZ f k k' x x'
 | new (h1:x'.au=x.au) (h0:mf k) (i:Nat) (hi:i<x.au.length) (h2:k'.tk=some (i,X6)):wZ f k k' x x'
 | step (i:Nat) (t:Xv) (s:Qs) (h0:k.tk=some (i,t)) (ht:t.status=0) (hf:t.filled=false) (hs:x.au[i]?=some s) (h1:x'.au=x.au.set i { s with ring:=(stepT s.ring t).1 }) (h2:k'.tk=some (i,(stepT s.ring t).2)):wZ f k k' x x'
 | fill (i:Nat) (t:Xv) (s:Qs) (v:Qn) (h0:k.tk=some (i,t)) (ht:t.status=2) (hf:t.filled=false) (hs:x.au[i]?=some s) (hv:(v=qt (k,x)/\f)\/v.slot<0) (h1:x'.au=x.au.set i { s with ring:=(Zn s.ring t v).1 }) (h2:k'.tk=some (i,(Zn s.ring t v).2.1)):wZ f k k' x x'
structure y8 (s:SC) (k:Qt) (x:Qi) (r:SC × ZC):Prop where
 kind:r.2.1.kind=k.kind
 fit:xe r.1 r.2.1
 tk:yo r.1 r.2.1
 ins:r.2.2.f.inside=x.f.inside+vG r.1 r.2.1 - vG s k
 vk:wZ (s=.at none .fills) k r.2.1 x r.2.2
theorem mf.tk {k k':Qt} (h:mf k) (e:k'.tk=k.tk):mf k':=fun i t ht=>h i t (e ▸ ht)
theorem qF.tk {k k':Qt} (h:qF k) (e:k'.tk=k.tk):qF k':=by
 obtain ⟨i,t,h1,h2⟩:=h;exact ⟨i,t,e.trans h1,h2⟩
theorem Un {k k2:Qt} (h:1<=k.kind/\k.kind<=5) (e:k2.kind=k.kind) (hf:mf k2):xe (Zl k) k2/\yo (Zl k) k2/\vG (Zl k) k2=if k.kind<=3 then 1 else 0:=by
 unfold Zl;split
 ·exact ⟨trivial,hf,by rw [if_neg (by omega)];rfl⟩
 ·refine ⟨by show 1<=k2.kind/\k2.kind<=3;omega,hf,?_⟩
  show (if k2.kind<=3 then (1:Int) else 0)=_
  rw [e]
theorem Bz (k:Qt) (s:Qj):(lookW k s).1.tk=k.tk/\(lookW k s).1.kind=k.kind:=by
 unfold lookW;split
 ·exact ⟨rfl,rfl⟩
 ·split <;> exact ⟨rfl,rfl⟩
theorem q26 {r:Qx} {t:Xv} (h:t.status=0):((stepT r t).2.status=0\/(stepT r t).2.status=1\/(stepT r t).2.status=2)/\(stepT r t).2.filled=t.filled:=by
 unfold stepT rG qE oU;rw [if_neg (by omega)];split
 ·exact ⟨.inl h,rfl⟩
 ·split
  ·split
   ·exact ⟨.inl h,rfl⟩
   ·split
    ·exact ⟨.inr (.inl rfl),rfl⟩
    ·exact ⟨.inl h,rfl⟩
  ·split
   ·exact ⟨.inr (.inr rfl),rfl⟩
   ·exact ⟨.inl h,rfl⟩
section
variable {N:Nat} {k:Qt} {x:Qi}
theorem q2h (z:ZC):(Q0 z).1.1.tk=z.1.tk/\(Q0 z).1.1.kind=z.1.kind/\(Q0 z).1.2=z.2:=⟨(Bz _ _).1,(Bz _ _).2,rfl⟩
theorem GM (hk:Zm N k x) (v:Qn) (h:qF k):∃ i t s,k.tk=some (i,t)/\t.status=2/\t.filled=false/\x.au[i]?=some s/\Yn v (k,x)=({ k with tk:=some (i,(Zn s.ring t v).2.1) },{ x with au:=x.au.set i { s with ring:=(Zn s.ring t v).1 } })/\(Zn s.ring t v).2.1={ t with filled:=true }:=by
 obtain ⟨i,t,h1,h2,h3⟩:=h;have hi:=(hk.tk i t h1).2;refine ⟨i,t,x.au[i],h1,h2,h3,WR hi,?_,?_⟩
 ·unfold Yn
  simp only [h1,WR hi]
 ·unfold Zn
  rw [if_pos ⟨h2,h3⟩]
theorem S9 {k':Qt} {i:Nat} {t:Xv} (h:k'.tk=some (i,{ t with filled:=true })):mf k':=by
 intro j u hu;rw [h] at hu;simp only [WW,Prod.mk.injEq] at hu;obtain ⟨_,rfl⟩:=hu;intro hh;cases hh.2
theorem q9e (hc:Zg N x) (hk:Zm N k x) (m:MC) (hf:uL (.at none m) k) (h1:xe (.at none m) k) (h2:yo (.at none m) k):y8 (.at none m) k x (Jk m (k,x)):=by
 cases m with
 | right =>
   have h1:k.kind=1\/k.kind=2:=h1;have h2:mf k:=h2
   show y8 _ k x (if mR k then (.ai .aR,Qo 1 (k,x)) else (.at none .enter,(k,x)))
   split
   ·exact ⟨rfl,trivial,h2.tk rfl,by show x.f.inside=x.f.inside+0 - 0;omega,.none rfl rfl⟩
   ·exact ⟨rfl,by show 1<=k.kind/\k.kind<=3;omega,h2,by show x.f.inside=x.f.inside+0 - 0;omega,.none rfl rfl⟩
 | enter =>
   have h1:1<=k.kind/\k.kind<=3:=h1;have h2:mf k:=h2;exact ⟨rfl,by show 1<=k.kind/\k.kind<=5;omega,h2,by show x.f.inside+1=x.f.inside+(if k.kind<=3 then 1 else 0) - 0;rw [if_pos h1.2];omega,.none rfl rfl⟩
 | gate =>
   have h1:1<=k.kind/\k.kind<=5:=h1;have h2:mf k:=h2
   show y8 _ k x (if x.f.closed=true then (Zl k,Qo 3 (k,x)) else if k.kind=1\/k.kind=2 then (.at none .asks,({ k with rq:=some ⟨k.period,0,0,0,0,0⟩ },x)) else (.at none .looks,(k,x)))
   split
   ·obtain ⟨a,b,c⟩:=Un (k:=k) (k2:=Y1 3 k) h1 rfl (h2.tk rfl)
    exact ⟨rfl,a,b,by show x.f.inside=x.f.inside+vG (Zl k) (Y1 3 k) - (if k.kind<=3 then 1 else 0);rw [c];omega,.none rfl rfl⟩
   ·split
    ·exact ⟨rfl,by show k.kind=1\/k.kind=2;assumption,h2.tk rfl,by show x.f.inside=x.f.inside+(if k.kind<=3 then 1 else 0) - (if k.kind<=3 then 1 else 0);omega,.none rfl rfl⟩
    ·exact ⟨rfl,by show 3<=k.kind/\k.kind<=5;omega,h2,by show x.f.inside=x.f.inside+(if k.kind<=3 then 1 else 0) - (if k.kind<=3 then 1 else 0);omega,.none rfl rfl⟩
 | asks =>
   have h1:k.kind=1\/k.kind=2:=h1;have h2:mf k:=h2;obtain ⟨q,hq⟩:=Option.isSome_iff_exists.1 hf.1;have e:Jk .asks (k,x)=ql (k,x) q:=by show (match k.rq with | none=>_ | some q=>_)=_;rw [hq]
   rw [e];unfold ql;simp only [];split
   ·exact ⟨rfl,by show 1<=k.kind/\k.kind<=3;omega,h2.tk rfl,by show x.f.inside=x.f.inside+(if k.kind<=3 then 1 else 0) - (if k.kind<=3 then 1 else 0);omega,.none rfl rfl⟩
   ·split
    ·rename_i ha hb
     refine ⟨rfl,by show 1<=k.kind/\k.kind<=3;omega,⟨_,_,rfl,rfl,rfl⟩,by show x.f.inside=x.f.inside+(if k.kind<=3 then 1 else 0) - (if k.kind<=3 then 1 else 0);omega,.new rfl h2 _ ?_ rfl⟩
     exact H7 (N:=N) hc (XA _ (by omega))
    ·exact ⟨rfl,h1,h2.tk rfl,by show x.f.inside=x.f.inside+(if k.kind<=3 then 1 else 0) - (if k.kind<=3 then 1 else 0);omega,.none rfl rfl⟩
 | bu =>
   have h1:1<=k.kind/\k.kind<=3:=h1;obtain ⟨i,t,ht,hst,hfl⟩:=(show ∃ i t,k.tk=some (i,t)/\t.status=0/\t.filled=false from h2);have hi:=(hk.tk i t ht).2;have hs:=WR hi
   have e:Jk .bu (k,x)=X8 (k,x) i t x.au[i]:=by
    show (match k.tk with | none=>_ | some (i,t)=>_)=_
    rw [ht];simp only [hs]
   rw [e];obtain ⟨hcase,wN⟩:=q26 (r:=x.au[i].ring) hst;rw [hfl] at wN;unfold X8;simp only [];split
   ·rename_i h
    exact ⟨rfl,h1,⟨_,_,rfl,h,wN⟩,by show x.f.inside=x.f.inside+(if k.kind<=3 then 1 else 0) - (if k.kind<=3 then 1 else 0);omega,.step i t _ ht hst hfl hs rfl rfl⟩
   ·rename_i hn0
    have hfree:(stepT x.au[i].ring t).2.status=1->∀ k':Qt,k'.tk=some (i,(stepT x.au[i].ring t).2)->mf k':=by
     intro h k' hk' j u hu;rw [hk'] at hu;simp only [WW,Prod.mk.injEq] at hu;obtain ⟨_,rfl⟩:=hu;omega
    split
    ·rename_i h
     exact ⟨rfl,h1,hfree h.1 _ rfl,by show x.f.inside=x.f.inside+(if k.kind<=3 then 1 else 0) - (if k.kind<=3 then 1 else 0);omega,.step i t _ ht hst hfl hs rfl rfl⟩
    ·rename_i hn1
     split
     ·rename_i h
      exact ⟨rfl,by show k.kind=1\/k.kind=2;omega,hfree h _ rfl,by show x.f.inside=x.f.inside+(if k.kind<=3 then 1 else 0) - (if k.kind<=3 then 1 else 0);omega,.step i t _ ht hst hfl hs rfl rfl⟩
     ·rename_i hn2
      have h3:(stepT x.au[i].ring t).2.status=2:=by omega
      split
      ·exact ⟨rfl,by show k.kind=3;assumption,⟨_,_,rfl,h3,wN⟩,by show x.f.inside=x.f.inside+(if k.kind<=3 then 1 else 0) - (if k.kind<=3 then 1 else 0);omega,.step i t _ ht hst hfl hs rfl rfl⟩
      ·exact ⟨rfl,by show k.kind=1\/k.kind=2;omega,⟨_,_,rfl,h3,wN⟩,by show x.f.inside=x.f.inside+(if k.kind<=3 then 1 else 0) - (if k.kind<=3 then 1 else 0);omega,.step i t _ ht hst hfl hs rfl rfl⟩
 | bW =>
   have h1:k.kind=1\/k.kind=2:=h1;have h2:qF k:=h2;exact ⟨rfl,by show 1<=k.kind/\k.kind<=3;omega,h2.tk rfl,by show x.f.inside=x.f.inside+(if k.kind<=3 then 1 else 0) - (if k.kind<=3 then 1 else 0);omega,.none rfl rfl⟩
 | fills =>
   have h1:1<=k.kind/\k.kind<=3:=h1;obtain ⟨i,t,s,a1,a2,a3,a4,a5,a6⟩:=GM hk (qt (k,x)) h2;have e:Jk .fills (k,x)=(Ji,(iV (Yn (qt (k,x)) (k,x)).1,(Yn (qt (k,x)) (k,x)).2)):=rfl;rw [e,a5];refine ⟨rfl,h1,S9 (i:=i) (t:=t) (by rw [<- a6];rfl),by show x.f.inside=x.f.inside+(if k.kind<=3 then 1 else 0) - (if k.kind<=3 then 1 else 0);omega,.fill i t s (qt (k,x)) a1 a2 a3 a4 (.inl ⟨rfl,rfl⟩) rfl rfl⟩
 | looks =>
   have h1:3<=k.kind/\k.kind<=5:=h1;have h2:mf k:=h2;obtain ⟨l1,l2⟩:=Bz k x.aa;have hl2:(Q0 (k,x)).1.1.kind=k.kind:=l2;have hl1:mf (Q0 (k,x)).1.1:=h2.tk l1
   show y8 _ k x (if (Q0 (k,x)).2=0 then (if k.kind=3 then (.at none .bu,({ (Q0 (k,x)).1.1 with tk:=some (kQ (Q0 (k,x)).1.1.slot x,X6) },x)) else (.at none .tries,(Q0 (k,x)).1)) else if (Q0 (k,x)).2=1 then (Zl k,Qo 1 (Q0 (k,x)).1) else (Zl k,Qo 0 (Q0 (k,x)).1))
   split
   ·split
    ·refine ⟨l2,by show 1<=(Q0 (k,x)).1.1.kind/\(Q0 (k,x)).1.1.kind<=3;omega,⟨_,_,rfl,rfl,rfl⟩,by show x.f.inside=x.f.inside+(if (Q0 (k,x)).1.1.kind<=3 then 1 else 0) - (if k.kind<=3 then 1 else 0);rw [hl2];omega,.new rfl h2 _ ?_ rfl⟩
     exact H7 (N:=N) hc ((N7 hc hk).slot)
    ·rename_i hk3
     refine ⟨l2,by show 3<=(Q0 (k,x)).1.1.kind/\(Q0 (k,x)).1.1.kind<=5;omega,?_,by show x.f.inside=x.f.inside+(if (Q0 (k,x)).1.1.kind<=3 then 1 else 0) - (if k.kind<=3 then 1 else 0);rw [hl2];omega,.none rfl l1⟩
     show if (Q0 (k,x)).1.1.kind=3 then _ else _
     rw [hl2,if_neg hk3];exact hl1
   ·have hov:=fun e=>Un (k:=k) (k2:=Y1 e (Q0 (k,x)).1.1) ⟨by omega,h1.2⟩ l2 (hl1.tk rfl)
    split
    ·exact ⟨l2,(hov 1).1,(hov 1).2.1,by show x.f.inside=x.f.inside+vG (Zl k) (Y1 1 (Q0 (k,x)).1.1) - (if k.kind<=3 then 1 else 0);rw [(hov 1).2.2];omega,.none rfl l1⟩
    ·exact ⟨l2,(hov 0).1,(hov 0).2.1,by show x.f.inside=x.f.inside+vG (Zl k) (Y1 0 (Q0 (k,x)).1.1) - (if k.kind<=3 then 1 else 0);rw [(hov 0).2.2];omega,.none rfl l1⟩
 | again =>
   have h1:k.kind=3:=h1;have h2:qF k:=h2;obtain ⟨l1,l2⟩:=Bz k x.aa;have hl2:(Q0 (k,x)).1.1.kind=k.kind:=l2;have hl1:qF (Q0 (k,x)).1.1:=h2.tk l1
   show y8 _ k x (if (Q0 (k,x)).2=0 then (.at none .tries,(Q0 (k,x)).1) else (.thn (.ai .bC) .leaves,Qo 0 (Q0 (k,x)).1))
   split
   ·refine ⟨l2,by show 3<=(Q0 (k,x)).1.1.kind/\(Q0 (k,x)).1.1.kind<=5;omega,?_,by show x.f.inside=x.f.inside+(if (Q0 (k,x)).1.1.kind<=3 then 1 else 0) - (if k.kind<=3 then 1 else 0);rw [hl2];omega,.none rfl l1⟩
    show if (Q0 (k,x)).1.1.kind=3 then _ else _
    rw [hl2,if_pos h1];exact hl1
   ·exact ⟨l2,by show (Q0 (k,x)).1.1.kind=3;omega,hl1.tk rfl,by show x.f.inside=x.f.inside+(if (Q0 (k,x)).1.1.kind<=3 then 1 else 0) - (if k.kind<=3 then 1 else 0);rw [hl2];omega,.none rfl l1⟩
 | tries =>
   have h1:3<=k.kind/\k.kind<=5:=h1;have h2:if k.kind=3 then qF k else mf k:=h2
   have l1:(Zo (k,x)).1.1.tk=k.tk:=rfl;have l2:(Zo (k,x)).1.1.kind=k.kind:=rfl
   show y8 _ k x (if (Zo (k,x)).2≠0 then (if k.kind=3 then (.at none .again,(Zo (k,x)).1) else (.at none .looks,(Zo (k,x)).1)) else if k.kind=3 then (.at none .fills,qq { bO with kind:=6,id:=k.id,gen:=(Zo (k,x)).1.1.gen,dl:=k.j5 } (iV (Zo (k,x)).1.1,(Zo (k,x)).1.2))
    else if k.kind=5 then (.ai .aR,qq { bO with kind:=8,id:=k.id,gen:=(Zo (k,x)).1.1.gen } (iV (Zo (k,x)).1.1,(Zo (k,x)).1.2))
    else (.thn (.aP .bN .drop) .ends,qq { bO with kind:=7,id:=k.id,gen:=(Zo (k,x)).1.1.gen } (iV (Zo (k,x)).1.1,(Zo (k,x)).1.2)))
   split
   ·split
    ·rename_i h3
     rw [if_pos h3] at h2;exact ⟨rfl,h3,h2.tk rfl,by show x.f.inside=x.f.inside+(if k.kind<=3 then 1 else 0) - (if k.kind<=3 then 1 else 0);omega,.none rfl rfl⟩
    ·rename_i h3
     rw [if_neg h3] at h2;exact ⟨rfl,h1,h2.tk rfl,by show x.f.inside=x.f.inside+(if k.kind<=3 then 1 else 0) - (if k.kind<=3 then 1 else 0);omega,.none rfl rfl⟩
   ·split
    ·rename_i h3
     rw [if_pos h3] at h2;exact ⟨rfl,by show 1<=k.kind/\k.kind<=3;omega,h2.tk rfl,by show x.f.inside=x.f.inside+(if k.kind<=3 then 1 else 0) - (if k.kind<=3 then 1 else 0);omega,.none rfl rfl⟩
    ·rename_i h3
     rw [if_neg h3] at h2;split
     ·exact ⟨rfl,trivial,h2.tk rfl,by show x.f.inside=x.f.inside+0 - (if k.kind<=3 then 1 else 0);rw [if_neg (by omega)];omega,.none rfl rfl⟩
     ·exact ⟨rfl,by show k.kind=4;omega,h2.tk rfl,by show x.f.inside=x.f.inside+(if k.kind<=3 then 1 else 0) - (if k.kind<=3 then 1 else 0);omega,.none rfl rfl⟩
 | ends=>exact hf.elim
 | leaves=>exact hf.elim
theorem Nw {s:SC} (hj:JC N s (k,x)) (h1:xe s k) (h2:yo s k) (hi:vG s k<=x.f.inside):y8 s k x (J5 s (k,x)):=by
 obtain ⟨hc,hk,hf⟩:=hj;simp only at hc hk hf
 match s,hf,h1,h2,hi with
 | .nil,_,_,h2,_=>exact ⟨rfl,trivial,h2,by show x.f.inside=x.f.inside+0 - 0;omega,.none rfl rfl⟩
 | .at none m,hf,h1,h2,_=>exact q9e hc hk m hf h1 h2
 | .ai .aR,_,_,h2,_=>exact ⟨rfl,trivial,h2,by show x.f.inside=x.f.inside+0 - 0;omega,.none rfl rfl⟩
 | .thn (.ai .bL) .ends,_,h1,h2,hi =>
   have h1:1<=k.kind/\k.kind<=3:=h1;have hi:(if k.kind<=3 then (1:Int) else 0)<=x.f.inside:=hi;rw [if_pos h1.2] at hi;refine ⟨rfl,trivial,h2,?_,.none rfl rfl⟩
   show Z2 x.f.inside=x.f.inside+0 - (if k.kind<=3 then 1 else 0)
   unfold Z2;rw [if_neg (by omega),if_pos h1.2];omega
 | .thn (.aP .eG .drop) .leaves,_,h1,h2,_=>exact ⟨rfl,h1,h2,by show x.f.inside=x.f.inside+(if k.kind<=3 then 1 else 0) - (if k.kind<=3 then 1 else 0);omega,.none rfl rfl⟩
 | .thn (.ai .drop) .leaves,_,h1,h2,_ =>
   have h1:k.kind=1\/k.kind=2:=h1;exact ⟨rfl,by show 1<=k.kind/\k.kind<=3;omega,h2,by show x.f.inside=x.f.inside+(if k.kind<=3 then 1 else 0) - (if k.kind<=3 then 1 else 0);omega,.none rfl rfl⟩
 | .thn (.ai .bC) .leaves,_,h1,h2,_ =>
   have h1:k.kind=3:=h1;obtain ⟨i,t,s,a1,a2,a3,a4,a5,a6⟩:=GM hk { Qn.zero with slot:=-1 } h2;have e:J5 (.thn (.ai .bC) .leaves) (k,x)=(Ji,Yn { Qn.zero with slot:=-1 } (k,x)):=rfl;rw [e,a5];exact ⟨rfl,by show 1<=k.kind/\k.kind<=3;omega,S9 (i:=i) (t:=t) (by rw [<- a6]),by show x.f.inside=x.f.inside+(if k.kind<=3 then 1 else 0) - (if k.kind<=3 then 1 else 0);omega,.fill i t s _ a1 a2 a3 a4 (.inr (show (-1:Int)<0 by decide)) rfl rfl⟩
 | .thn (.aP .bN .drop) .ends,_,h1,h2,_=>exact ⟨rfl,h1,h2,by show x.f.inside=x.f.inside+(if k.kind<=3 then 1 else 0) - (if k.kind<=3 then 1 else 0);omega,.none rfl rfl⟩
 | .thn (.ai .drop) .ends,_,h1,h2,_ =>
   have h1:k.kind=4:=h1;exact ⟨rfl,trivial,h2,by show x.f.inside=x.f.inside+0 - (if k.kind<=3 then 1 else 0);rw [if_neg (by omega)];omega,.none rfl rfl⟩
end
structure qc3 (r:Qx):Prop where
 n1:1<=r.slots.length
 h0:0<=r.head
 ht:r.head<=r.tail
 tn:r.tail<=r.head+r.slots.length
 sq:∀ p,r.head<=p->p<r.head+r.slots.length->(r.slot p).seq=2*p\/(p<r.tail/\(r.slot p).seq=2*p+1)
theorem US {n p q h:Int} (h1:h<=p) (h2:p<h+n) (h3:h<=q) (h4:q<h+n) (e:p % n=q % n):p=q:=by
 have hd:=Int.emod_emod_of_dvd (p - q) (Int.dvd_refl n);have h0:(p - q) % n=0:=Int.emod_eq_emod_iff_emod_sub_eq_zero.1 e;obtain ⟨c,hc⟩:=Int.dvd_of_emod_eq_zero h0;have hn:0<n:=by omega
 rcases Int.lt_trichotomy c 0 with h | h | h
 ·have:n*c<=n*(-1):=Int.mul_le_mul_of_nonneg_left (by omega) (by omega)
  omega
 ·subst h;rw [Int.mul_zero] at hc;omega
 ·have:n*1<=n*c:=Int.mul_le_mul_of_nonneg_left (by omega) (by omega)
  omega
theorem q90 {r:Qx} (h:1<=r.slots.length) (p:Int):r.at p<r.slots.length:=by
 unfold Qx.at;have h1:=XA p (b:=(r.slots.length:Int)) (by omega);have h2:=Int.emod_lt_of_pos p (b:=(r.slots.length:Int)) (by omega);omega
theorem P9 {r:Qx} (h:1<=r.slots.length) {p q:Int} (e:r.at p=r.at q):p % (r.slots.length:Int)=q % (r.slots.length:Int):=by
 unfold Qx.at at e;have h1:=XA p (b:=(r.slots.length:Int)) (by omega);have h2:=XA q (b:=(r.slots.length:Int)) (by omega);omega
theorem Tg {r:Qx} {r':Qx} (hn:1<=r.slots.length) {p:Int} {v:lZ} (hs:r'.slots=r.slots.set (r.at p) v) (q:Int):r'.slot q=if r.at q=r.at p then v else r.slot q:=by
 have hl:r'.slots.length=r.slots.length:=by rw [hs,WV]
 have ha:r'.at q=r.at q:=by unfold Qx.at;rw [hl]
 unfold Qx.slot;rw [ha,hs,WN,WO];split
 ·rename_i h
  rw [if_pos h.symm,if_pos (by rw [h];exact q90 hn q)];rfl
 ·rename_i h
  rw [if_neg (fun e=>h e.symm),WN]
structure x9 (r:Qx) (t:Xv):Prop where
 w:t.status=0->t.next=2->2*t.pos<=(r.slot t.pos).seq
 c:t.status=2->t.filled=false->r.head<=t.pos/\t.pos<r.tail/\(r.slot t.pos).seq=2*t.pos
theorem qx0 (r:Qx):x9 r X6:=⟨fun _ h=>(by cases h),fun h=>(by cases h)⟩
section
variable {r:Qx} {t:Xv}
theorem zam (hr:qc3 r) (ht:x9 r t) (hs:t.status=0) (hn:t.next=2) (he:r.tail=t.pos):qc3 { r with tail:=t.pos+1 }/\r.head<=t.pos/\(r.slot t.pos).seq=2*t.pos:=by
 have hw:=ht.w hs hn;have h1:=hr.ht
 have hlt:t.pos<r.head+r.slots.length:=by
  rcases Int.lt_or_le t.pos (r.head+r.slots.length) with h | h
  ·exact h
  ·exfalso
   have e:t.pos=r.head+r.slots.length:=by have:=hr.tn;omega
   have hsl:r.slot t.pos=r.slot r.head:=by
    unfold Qx.slot Qx.at;rw [e,Int.add_emod_right]
   rw [hsl] at hw;have:=hr.n1;rcases hr.sq r.head (WL _) (by omega) with h | h <;> omega
 refine ⟨⟨hr.n1,hr.h0,by show r.head<=t.pos+1;omega,by show t.pos+1<=r.head+r.slots.length;omega,fun p h1 h2=>?_⟩,by omega,?_⟩
 ·rcases hr.sq p h1 h2 with h | ⟨h,h'⟩
  ·exact .inl h
  ·exact .inr ⟨by show p<t.pos+1;omega,h'⟩
 ·rcases hr.sq t.pos (by omega) hlt with h | h
  ·exact h
  ·omega
structure Nt (r r':Qx):Prop where
 len:r'.slots.length=r.slots.length
 seq:∀ p,(r.slot p).seq<=(r'.slot p).seq
theorem x9.F7 {r':Qx} (h:x9 r t) (hl:Nt r r'):t.status=0->t.next=2->2*t.pos<=(r'.slot t.pos).seq :=
 fun a b=>Int.le_trans (h.w a b) (hl.seq _)
theorem q8x (hr:qc3 r) (h1:r.head<=t.pos) (h2:t.pos<r.tail) (h3:(r.slot t.pos).seq=2*t.pos) (v:Qn) {r':Qx} (e:r'={ r with slots:=r.slots.set (r.at t.pos) ⟨2*t.pos+1,v⟩ }) :
 qc3 r'/\Nt r r'/\(∀ q,r.head<=q->q<r.tail->q≠t.pos->(r'.slot q).seq=(r.slot q).seq)/\(r'.slot t.pos).seq=2*t.pos+1:=by
 subst e;have hs:=fun q=>Tg (r:=r) (r':={ r with slots:=r.slots.set (r.at t.pos) ⟨2*t.pos+1,v⟩ }) hr.n1 rfl q
 have htn:=hr.tn
 have hoth:∀ q,r.head<=q->q<r.head+r.slots.length->q≠t.pos->(Qx.slot { r with slots:=r.slots.set (r.at t.pos) ⟨2*t.pos+1,v⟩ } q)=r.slot q:=by
  intro q a b c;rw [hs,if_neg (fun e=>c (US a b h1 (by omega) (P9 hr.n1 e)))]
 have hown:(Qx.slot { r with slots:=r.slots.set (r.at t.pos) ⟨2*t.pos+1,v⟩ } t.pos).seq=2*t.pos+1:=by rw [hs,if_pos rfl]
 have hlen:(r.slots.set (r.at t.pos) ⟨2*t.pos+1,v⟩).length=r.slots.length:=WV;refine ⟨⟨by show 1<=(List.set _ _ _).length;rw [hlen];exact hr.n1,hr.h0,hr.ht,by show r.tail<=r.head+((List.set _ _ _).length:Int);rw [hlen];exact hr.tn,fun p a b=>?_⟩,⟨hlen,fun p=>?_⟩,fun q a b c=>?_,hown⟩
 ·change r.head<=p at a
  change p<r.head+((r.slots.set (r.at t.pos) ⟨2*t.pos+1,v⟩).length:Int) at b
  rw [hlen] at b;by_cases c:p=t.pos
  ·subst c;exact .inr ⟨h2,hown⟩
  ·rw [hoth p a b c];exact hr.sq p a b
 ·rw [hs]
  split
  ·rename_i e
   have:r.slot p=r.slot t.pos:=by unfold Qx.slot;rw [e]
   rw [this,h3]
   show 2*t.pos<=2*t.pos+1
   omega
  ·exact WL _
 ·rw [hoth q a (by omega) c]
theorem QM (hr:qc3 r) (hp:r.ready=true):qc3 (J4 r).1/\Nt r (J4 r).1/\(J4 r).1.head=r.head+1/\(J4 r).1.tail=r.tail/\r.head<r.tail/\(∀ q,r.head+1<=q->q<r.tail->((J4 r).1.slot q).seq=(r.slot q).seq):=by
 have e:(J4 r).1={ r with slots:=r.slots.set (r.at r.head) ⟨2*(r.head+r.slots.length),Qn.zero⟩,head:=r.head+1 }:=by unfold J4;rw [if_pos hp]
 have hq:(r.slot r.head).seq=2*r.head+1:=by simpa [Qx.ready] using hp
 have hn:=hr.n1;have htn:=hr.tn
 have hlt:r.head<r.tail:=by
  rcases hr.sq r.head (WL _) (by omega) with h | h
  ·omega
  ·exact h.1
 rw [e];have hs:=fun q=>Tg (r:=r) (r':={ r with slots:=r.slots.set (r.at r.head) ⟨2*(r.head+r.slots.length),Qn.zero⟩,head:=r.head+1 }) hr.n1 rfl q
 have hlen:(r.slots.set (r.at r.head) ⟨2*(r.head+r.slots.length),Qn.zero⟩).length=r.slots.length:=WV
 have hoth:∀ q,r.head+1<=q->q<r.head+r.slots.length->(Qx.slot { r with slots:=r.slots.set (r.at r.head) ⟨2*(r.head+r.slots.length),Qn.zero⟩,head:=r.head+1 } q)=r.slot q:=by
  intro q a b;rw [hs,if_neg (fun e=>by have:=US (h:=r.head) (by omega) b (WL _) (by omega) (P9 hr.n1 e);omega)]
 refine ⟨⟨by show 1<=(List.set _ _ _).length;rw [hlen];exact hr.n1,by show 0<=r.head+1;have:=hr.h0;omega,hlt,by show r.tail<=r.head+1+((List.set _ _ _).length:Int);rw [hlen];omega,fun p a b=>?_⟩,⟨hlen,fun p=>?_⟩,rfl,rfl,hlt,fun q a b=>by rw [hoth q a (by omega)]⟩
 ·change r.head+1<=p at a
  change p<r.head+1+((r.slots.set (r.at r.head) ⟨2*(r.head+r.slots.length),Qn.zero⟩).length:Int) at b
  rw [hlen] at b;by_cases c:p<r.head+r.slots.length
  ·rw [hoth p a c];exact hr.sq p (by omega) c
  ·have e2:p=r.head+r.slots.length:=by omega
   refine .inl ?_
   have:r.at p=r.at r.head:=by unfold Qx.at;rw [e2,Int.add_emod_right]
   rw [hs,if_pos this,e2]
 ·rw [hs]
  split
  ·rename_i e
   have:r.slot p=r.slot r.head:=by unfold Qx.slot;rw [e]
   rw [this,hq]
   show 2*r.head+1<=2*(r.head+r.slots.length)
   omega
  ·exact WL _
end
def vT (t:Xv):Prop:=t.status=2/\t.filled=false
abbrev IX:Type:=List (Option (Nat × Xv))
structure iY (T:IX) (R:Nat->Option Qx):Prop where
 ring:∀ i r,R i=some r->qc3 r
 tick:∀ (a i:Nat) (t:Xv) (r:Qx),T[a]?=some (some (i,t))->R i=some r->x9 r t
 uniq:∀ (a b i:Nat) (t u:Xv),T[a]?=some (some (i,t))->T[b]?=some (some (i,u))->vT t->vT u->t.pos=u.pos->a=b
 uZ:∀ i r p,R i=some r->r.head<=p->p<r.tail->(r.slot p).seq=2*p+1\/∃ (a:Nat) (t:Xv),T[a]?=some (some (i,t))/\vT t/\t.pos=p
def lK (R:Nat->Option Qx) (i:Nat) (r:Qx):Nat->Option Qx:=fun n=>if n=i then some r else R n
theorem Jl {α:Type} {l:List α} {a b:Nat} {x y:α} (h:(l.set a x)[b]?=some y):(b=a/\y=x)\/(b≠a/\l[b]?=some y):=by
 rw [WO] at h;split at h
 ·rename_i e
  split at h
  ·exact .inl ⟨e.symm,by cases h;rfl⟩
  ·cases h
 ·rename_i e
  exact .inr ⟨fun e'=>e e'.symm,h⟩
theorem xn {α:Type} {l:List α} {a b:Nat} {x y:α} (h:l[b]?=some y) (hb:b≠a):(l.set a x)[b]?=some y:=by
 rw [WO,if_neg (fun e=>hb e.symm)];exact h
theorem get_set_same {α:Type} {l:List α} {a:Nat} {x y:α} (h:l[a]?=some y):(l.set a x)[a]?=some x:=by
 rw [WO,if_pos rfl,if_pos (WQ.1 h).1]
section
variable {T:IX} {R:Nat->Option Qx} {a i:Nat} {o o':Option (Nat × Xv)} {t t':Xv} {r r':Qx}
theorem qyi:lK R i r i=some r:=if_pos rfl
theorem Y0 {n:Nat} {q:Qx} (h:lK R i r n=some q):(n=i/\q=r)\/(n≠i/\R n=some q):=by
 unfold lK at h;split at h
 ·exact .inl ⟨by assumption,by cases h;rfl⟩
 ·exact .inr ⟨by assumption,h⟩
theorem iY.calm (h:iY T R) (hT:T[a]?=some o) (h0:∀ i t,o=some (i,t)->¬ vT t) (h1:∀ i t,o'=some (i,t)->¬ vT t/\∀ r,R i=some r->x9 r t):iY (T.set a o') R where
 ring:=h.ring
 tick b i t r hb hr:=by
  rcases Jl hb with ⟨_,e⟩ | ⟨_,hB⟩
  ·exact (h1 i t e.symm).2 r hr
  ·exact h.tick b i t r hB hr
 uniq b c i t u hb hc k1 k2 e:=by
  rcases Jl hb with ⟨_,e1⟩ | ⟨_,hB⟩
  ·exact absurd k1 (h1 i t e1.symm).1
  ·rcases Jl hc with ⟨_,e1⟩ | ⟨_,hC⟩
   ·exact absurd k2 (h1 i u e1.symm).1
   ·exact h.uniq b c i t u hB hC k1 k2 e
 uZ i r p hr a1 a2:=by
  rcases h.uZ i r p hr a1 a2 with h' | ⟨b,t,hb,hc,hp⟩
  ·exact .inl h'
  ·refine .inr ⟨b,t,xn hb (fun e=>?_),hc,hp⟩
   subst e;rw [hT] at hb;exact h0 i t (Option.some.inj hb) hc
theorem iY.take (h:iY T R) (hT:T[a]?=some (some (i,t))) (hr:R i=some r) (hs:t.status=0) (hn:t.next=2) (he:r.tail=t.pos) (h1:t'.status=2) (h2:t'.filled=false) (h3:t'.pos=t.pos) (hr':r'={ r with tail:=t.pos+1 }) :
 iY (T.set a (some (i,t'))) (lK R i r'):=by
 subst hr';have hk:=h.tick a i t r hT hr;obtain ⟨k1,k2,k3⟩:=zam (h.ring i r hr) hk hs hn he;have hsl:∀ q,Qx.slot { r with tail:=t.pos+1 } q=r.slot q:=fun q=>rfl
 have hold:∀ u,x9 r u->x9 { r with tail:=t.pos+1 } u:=fun u hu=>⟨hu.w,fun x y=>⟨(hu.c x y).1,by have:=(hu.c x y).2.1;show u.pos<t.pos+1;omega,(hu.c x y).2.2⟩⟩
 refine ⟨fun n q hq=>?_,fun b n u q hb hq=>?_,fun b c n u v hb hc c1 c2 e=>?_,fun n q p hq a1 a2=>?_⟩
 ·rcases Y0 hq with ⟨_,rfl⟩ | ⟨_,hq⟩
  ·exact k1
  ·exact h.ring n q hq
 ·rcases Jl hb with ⟨_,e⟩ | ⟨_,hB⟩
  ·cases e
   rcases Y0 hq with ⟨_,rfl⟩ | ⟨x,_⟩
   ·exact ⟨fun x=>by omega,fun _ _=>⟨by rw [h3];exact k2,by show t'.pos<t.pos+1;omega,by rw [h3,hsl];exact k3⟩⟩
   ·exact absurd rfl x
  ·rcases Y0 hq with ⟨rfl,rfl⟩ | ⟨_,hq⟩
   ·exact hold u (h.tick b _ u r hB hr)
   ·exact h.tick b n u q hB hq
 ·have hlt:∀ d (w:Xv),T[d]?=some (some (i,w))->vT w->w.pos<t.pos:=fun d w hd hw=>by
   have:=((h.tick d i w r hd hr).c hw.1 hw.2).2.1;omega
  rcases Jl hb with ⟨rfl,e1⟩ | ⟨nb,hB⟩
  ·cases e1
   rcases Jl hc with ⟨rfl,_⟩ | ⟨_,hC⟩
   ·rfl
   ·have:=hlt c v hC c2;omega
  ·rcases Jl hc with ⟨rfl,e1⟩ | ⟨_,hC⟩
   ·cases e1
    have:=hlt b u hB c1;omega
   ·exact h.uniq b c n u v hB hC c1 c2 e
 ·have hnc:¬ vT t:=fun x=>by have:=x.1;omega
  rcases Y0 hq with ⟨rfl,rfl⟩ | ⟨hni,hq⟩
  ·change r.head<=p at a1
   change p<t.pos+1 at a2
   by_cases c:p=t.pos
   ·exact .inr ⟨a,t',get_set_same hT,⟨h1,h2⟩,by rw [h3,c]⟩
   ·rcases h.uZ n r p hr a1 (by omega) with h' | ⟨b,u,hb,hc,hp⟩
    ·exact .inl h'
    ·refine .inr ⟨b,u,xn hb (fun e=>?_),hc,hp⟩
     subst e;rw [hT] at hb;cases hb
     exact hnc hc
  ·rcases h.uZ n q p hq a1 a2 with h' | ⟨b,u,hb,hc,hp⟩
   ·exact .inl h'
   ·refine .inr ⟨b,u,xn hb (fun e=>?_),hc,hp⟩
    subst e;rw [hT] at hb;cases hb
    exact hnc hc
theorem iY.fill (h:iY T R) (hT:T[a]?=some (some (i,t))) (hr:R i=some r) (hs:t.status=2) (hf:t.filled=false) (h1:¬ vT t') (h2:t'.status=2) (v:Qn) (hr':r'={ r with slots:=r.slots.set (r.at t.pos) ⟨2*t.pos+1,v⟩ }) :
 iY (T.set a (some (i,t'))) (lK R i r'):=by
 obtain ⟨b1,b2,b3⟩:=(h.tick a i t r hT hr).c hs hf;obtain ⟨k1,k2,k3,k4⟩:=q8x (h.ring i r hr) b1 b2 b3 v hr';have hh:r'.head=r.head/\r'.tail=r.tail:=by rw [hr'];exact ⟨rfl,rfl⟩
 refine ⟨fun n q hq=>?_,fun b n u q hb hq=>?_,fun b c n u v hb hc c1 c2 e=>?_,fun n q p hq a1 a2=>?_⟩
 ·rcases Y0 hq with ⟨_,rfl⟩ | ⟨_,hq⟩
  ·exact k1
  ·exact h.ring n q hq
 ·rcases Jl hb with ⟨_,e⟩ | ⟨nb,hB⟩
  ·cases e
   exact ⟨fun x=>by omega,fun x y=>absurd ⟨x,y⟩ h1⟩
  ·rcases Y0 hq with ⟨rfl,rfl⟩ | ⟨_,hq⟩
   ·have hu:=h.tick b n u r hB hr
    refine ⟨hu.F7 k2,fun x y=>?_⟩
    obtain ⟨d1,d2,d3⟩:=hu.c x y;have hne:u.pos≠t.pos:=fun e=>nb (h.uniq b a n u t hB hT ⟨x,y⟩ ⟨hs,hf⟩ e)
    exact ⟨by rw [hh.1];exact d1,by rw [hh.2];exact d2,by rw [k3 _ d1 d2 hne];exact d3⟩
   ·exact h.tick b n u q hB hq
 ·rcases Jl hb with ⟨rfl,e1⟩ | ⟨nb,hB⟩
  ·cases e1;exact absurd c1 h1
  ·rcases Jl hc with ⟨rfl,e1⟩ | ⟨_,hC⟩
   ·cases e1;exact absurd c2 h1
   ·exact h.uniq b c n u v hB hC c1 c2 e
 ·rcases Y0 hq with ⟨rfl,rfl⟩ | ⟨hni,hq⟩
  ·rw [hh.1] at a1
   rw [hh.2] at a2;by_cases c:p=t.pos
   ·exact .inl (by rw [c];exact k4)
   ·rcases h.uZ n r p hr a1 a2 with h' | ⟨b,u,hb,hc,hp⟩
    ·exact .inl (by rw [k3 p a1 a2 c];exact h')
    ·refine .inr ⟨b,u,xn hb (fun e=>?_),hc,hp⟩
     subst e;rw [hT] at hb;cases hb
     exact c hp.symm
  ·rcases h.uZ n q p hq a1 a2 with h' | ⟨b,u,hb,hc,hp⟩
   ·exact .inl h'
   ·refine .inr ⟨b,u,xn hb (fun e=>?_),hc,hp⟩
    subst e;rw [hT] at hb;cases hb
    exact hni rfl
theorem iY.pop (h:iY T R) (hr:R i=some r) (hp:r.ready=true):iY T (lK R i (J4 r).1):=by
 obtain ⟨k1,k2,k3,k4,k5,k6⟩:=QM (h.ring i r hr) hp;have hq:(r.slot r.head).seq=2*r.head+1:=by simpa [Qx.ready] using hp
 refine ⟨fun n q hq=>?_,fun b n u q hb hq=>?_,h.uniq,fun n q p hq a1 a2=>?_⟩
 ·rcases Y0 hq with ⟨_,rfl⟩ | ⟨_,hq⟩
  ·exact k1
  ·exact h.ring n q hq
 ·rcases Y0 hq with ⟨rfl,rfl⟩ | ⟨_,hq⟩
  ·have hu:=h.tick b n u r hb hr
   refine ⟨hu.F7 k2,fun x y=>?_⟩
   obtain ⟨d1,d2,d3⟩:=hu.c x y;have hne:u.pos≠r.head:=fun e=>by rw [e] at d3;omega
   exact ⟨by rw [k3];omega,by rw [k4];exact d2,by rw [k6 _ (by omega) d2];exact d3⟩
  ·exact h.tick b n u q hb hq
 ·rcases Y0 hq with ⟨rfl,rfl⟩ | ⟨hni,hq⟩
  ·rw [k3] at a1
   rw [k4] at a2;rcases h.uZ n r p hr (by omega) a2 with h' | h'
   ·exact .inl (by rw [k6 p a1 a2];exact h')
   ·exact .inr h'
  ·exact h.uZ n q p hq a1 a2
theorem iY.step (h:iY T R) (hT:T[a]?=some (some (i,t))) (hr:R i=some r) (hs:t.status=0) (hf:t.filled=false) (hn:t.next=0\/t.next=1\/t.next=2):iY (T.set a (some (i,(stepT r t).2))) (lK R i (stepT r t).1):=by
 have hnc:∀ j u,some (i,t)=some (j,u)->¬ vT u:=fun j u e x=>by cases e;have:=x.1;omega
 have hsame:lK R i r=R:=by
  funext n
  unfold lK;split
  ·rename_i e;rw [e,hr]
  ·rfl
 have hcalm:∀ t':Xv,¬ vT t'->x9 r t'->iY (T.set a (some (i,t'))) (lK R i r):=fun t' c1 c2=>by
  rw [hsame];refine h.calm hT hnc (fun j u e=>?_)
  cases e
  exact ⟨c1,fun q hq=>by rw [hr] at hq;cases hq;exact c2⟩
 unfold stepT;rw [if_neg (by omega)];split
 ·exact hcalm _ (fun x=>by have:=x.1;simp only [rG] at this;omega) ⟨fun _ x=>by simp only [rG] at x;omega,fun x=>by simp only [rG] at x;omega⟩
 ·split
  ·refine hcalm _ ?_ ?_
   ·unfold qE
    split
    ·exact fun x=>by have:=x.1;simp only at this;omega
    ·split
     ·exact fun x=>by have:=x.1;simp only at this;omega
     ·exact fun x=>by have:=x.1;simp only at this;omega
   ·unfold qE
    split
    ·exact ⟨fun _ x=>by simp only at x;omega,fun x=>by simp only at x;omega⟩
    ·split
     ·exact ⟨fun x=>by simp only at x;omega,fun x=>by simp only at x;omega⟩
     ·rename_i w1 w2
      exact ⟨fun _ _=>by simp only;omega,fun x=>by simp only at x;omega⟩
  ·unfold oU
   split
   ·exact h.take hT hr hs (by omega) (by assumption) rfl hf rfl rfl
   ·exact hcalm _ (fun x=>by have:=x.1;simp only at this;omega) ⟨fun _ x=>by simp only at x;omega,fun x=>by simp only at x;omega⟩
theorem iY.snoc (h:iY T R) (h0:∀ i t,o=some (i,t)->False):iY (T++[o]) R:=by
 have hg:∀ (b:Nat) i t,(T++[o])[b]?=some (some (i,t))->T[b]?=some (some (i,t)):=by
  intro b i t hb;rcases Nat.lt_or_ge b T.length with hl | hl
  ·rwa [XE hl] at hb
  ·rw [List.getElem?_append_right hl] at hb
   rcases Nat.eq_zero_or_pos (b - T.length) with e | e
   ·rw [e] at hb;simp only [WX,WW] at hb;exact (h0 _ _ hb).elim
   ·rw [List.getElem?_eq_none (by simp;omega)] at hb;cases hb
 exact ⟨h.ring,fun b i t r hb=>h.tick b i t r (hg b i t hb),fun b c i t u hb hc=>h.uniq b c i t u (hg _ _ _ hb) (hg _ _ _ hc),fun i r p hr a1 a2=>(h.uZ i r p hr a1 a2).imp id fun ⟨b,t,hb,hc,hp⟩=>⟨b,t,by rw [XE (WQ.1 hb).1];exact hb,hc,hp⟩⟩
end
def Wk.tk:Wk->Option (Nat × Xv)
 | .call _ k=>k.tk
 | _=>none
def Qi.rg (x:Qi) (i:Nat):Option Qx:=(x.au[i]?).map Qs.ring
theorem N8 {α:Type} {l:List α} {a:Nat} {x:α} (h:l[a]?=some x):l.set a x=l:=by
 apply List.ext_getElem?
 intro b;rw [WO];split
 ·rename_i e
  subst e;rw [if_pos (WQ.1 h).1,h]
 ·rfl
theorem Ah {x x':Qi} {i:Nat} {s:Qs} {r:Qx} (hs:x.au[i]?=some s) (h:x'.au=x.au.set i { s with ring:=r }):x'.rg=lK x.rg i r:=by
 funext n
 unfold Qi.rg lK;rw [h,WO];split
 ·rename_i e
  subst e;rw [if_pos (WQ.1 hs).1,if_pos rfl];rfl
 ·rename_i e
  rw [if_neg (fun e'=>e e'.symm)]
theorem z9 {x x':Qi} (h:x'.au=x.au):x'.rg=x.rg:=by funext n;unfold Qi.rg;rw [h]
theorem qwj {N:Nat} {T:IX} {a:Nat} {k k':Qt} {x x':Qi} (h:iY T x.rg) (hT:T[a]?=some k.tk) (hk:Zm N k x) {f:Prop} (e:wZ f k k' x x'):iY (T.set a k'.tk) x'.rg:=by
 have hrg:∀ {i:Nat} {s:Qs},x.au[i]?=some s->x.rg i=some s.ring:=fun hs=>by unfold Qi.rg;rw [hs];rfl
 cases e with
 | none h1 h2=>rw [z9 h1,h2,N8 hT];exact h
 | new h1 h0 i hi h2 =>
   rw [z9 h1,h2];refine h.calm hT (fun j t e c=>h0 j t e c) (fun j t e=>?_)
   cases e
   exact ⟨fun c=>by have:=c.1;simp [X6] at this,fun r _=>qx0 r⟩
 | step i t s h0 ht hf hs h1 h2 =>
   rw [Ah hs h1,h2];rw [h0] at hT;exact h.step hT (hrg hs) ht hf (hk.tk i t h0).1.nx
 | fill i t s v h0 ht hf hs hv h1 h2 =>
   rw [Ah hs h1,h2];rw [h0] at hT;have e:Zn s.ring t v=({ s.ring with slots:=s.ring.slots.set (s.ring.at t.pos) ⟨2*t.pos+1,v⟩ },{ t with filled:=true },0):=by unfold Zn;rw [if_pos ⟨ht,hf⟩]
   rw [e];exact h.fill hT (hrg hs) ht hf (fun c=>by cases c.2) ht v rfl
def St.allM {M A Y:Type} (p:M->Prop) (q:A->Prop):St M A Y->Prop
 | .nil=>True
 | .at _ m=>p m
 | .ai a=>q a
 | .aP a _=>q a
 | .thn s m=>s.allM p q/\p m
theorem St.tQ {M A Y α:Type} {runM:M->α->St M A Y × α} {bP:A->α->α} {R:α->α->Prop} {p:M->Prop} {q:A->Prop} (hr:∀ z,R z z) (ht:∀ x y z,R x y->R y z->R x z) (hm:∀ m z,p m->R z (runM m z).2) (ha:∀ a z,q a->R z (bP a z)) :
 ∀ (s:St M A Y) (z:α),s.allM p q->R z (St.run runM bP s z).2
 | .nil,z,_=>hr z
 | .at _ m,z,h=>hm m z h
 | .ai a,z,h=>ha a z h
 | .aP a _,z,h=>ha a z h
 | .thn s m,z,h=>by
   have h1:=St.tQ (Y:=Y) hr ht hm ha s z h.1
   show R z (Qd runM (s.run runM bP z).1 m (s.run runM bP z).2).2
   unfold Qd;split
   ·exact ht _ _ _ h1 (hm m _ h.2)
   ·exact h1
theorem qqh {M A Y α:Type} {runM:M->α->St M A Y × α} {R:α->α->Prop} (hr:∀ z,R z z) {m:M} (hm:∀ z,R z (runM m z).2) (s:St M A Y) (z:α):R z (Qd runM s m z).2:=by
 unfold Qd;split
 ·exact hm z
 ·exact hr z
structure Zz (z z':ZT):Prop where
 inside:z'.x.f.inside=z.x.f.inside
 rg:z'.x.rg=z.x.rg
 who:xk z.x z'.x
 s:z'.k.s=z.k.s
theorem Zz.refl (z:ZT):Zz z z:=⟨rfl,rfl,fun _=>rfl,rfl⟩
theorem Zz.trans {x y z:ZT} (a:Zz x y) (b:Zz y z):Zz x z:=⟨b.inside.trans a.inside,b.rg.trans a.rg,fun j=>(b.who j).trans (a.who j),b.s.trans a.s⟩
def KC:MT->Prop
 | .enter=>False
 | .tick=>False
 | .ae _=>False
 | .dI _=>False
 | .bK _=>False
 | _=>True
def KB:AT->Prop
 | .leave1=>False
 | .unlock=>False
 | _=>True
theorem Ym {z z':ZT} (h1:z'.x.f.inside=z.x.f.inside) (h2:z'.x.au=z.x.au) (h3:z'.k.s=z.k.s):Zz z z':=⟨h1,z9 h2,fun j=>by rw [h2],h3⟩
theorem Ri (st:Int) (z:ZT):Zz z (Qr st z).1:=Ym rfl rfl rfl
theorem Yd (ev:Int) (z:ZT):Zz z (Qk ev z).1:=Ym rfl rfl rfl
theorem Sr (E:EvS) (z:ZT):Zz z (z.note E):=Ym rfl rfl rfl
theorem qwn (z:ZT):Zz z (jk z):=Ym rfl rfl rfl
theorem RB (d i:Nat) (z:ZT):Zz z (Qm d i z).2:=by
 unfold Qm;split
 ·exact Zz.refl z
 ·exact Ym rfl rfl rfl
theorem Mr (m:MT) (z:ZT) (h:KC m):Zz z (runT m z).2:=by
 cases m with
 | enter=>exact h.elim
 | tick=>exact h.elim
 | ae i=>exact h.elim
 | dI d=>exact h.elim
 | bK n=>exact h.elim
 | gate =>
   show Zz z ((if z.x.f.closed=true then Yr 3 z else (.at none .tick,z)):ST × ZT).2
   split
   ·exact Ym rfl rfl rfl
   ·exact Zz.refl z
 | bX d =>
   show Zz z ((if z.aU.ring.tail - z.aU.ring.head<=0 then J1 d z else (.thn (Q2 (z.aU.ring.tail - z.aU.ring.head) z) (.af d),z)):ST × ZT).2
   split <;> exact Zz.refl z
 | af d=>exact Zz.refl z
 | aM d =>
   show Zz z ((match z.k.due[0]? with | none=>(.ai .unlock,z) | some _=>(.thn (Qm d 0 z).1 .ay,(Qm d 0 z).2)):ST × ZT).2
   split
   ·exact Zz.refl z
   ·exact RB d 0 z
 | ay=>exact Zz.refl z
 | ax n=>exact Zz.refl z
 | bz =>
   show Zz z ((if (Qr 2 z).2=true then (.at none .aH,(Qr 2 z).1) else (.nil,(Qr 2 z).1)):ST × ZT).2
   split <;> exact Ri 2 z
 | aH =>
   show Zz z ((if (Qk 3 z).2=true then (.nil,jk (Qk 3 z).1) else (Qv (Qk 3 z).1,(Qk 3 z).1)):ST × ZT).2
   split
   ·exact (Yd 3 z).trans (qwn _)
   ·exact Yd 3 z
 | aD d i=>exact RB d (i+1) z
 | looks =>
   show Zz z ((if (Qr 3 z).2=true then (.at none .bE,(Qr 3 z).1) else (.nil,(Qr 3 z).1)):ST × ZT).2
   split <;> exact Ri 3 z
 | bE =>
   show Zz z ((if (Qk 4 z).2=true then (.thn (.ai (.put ⟨z.k.t.id,z.k.t.gen,z.k.t.dl,z.k.now⟩)) .bB,(Qk 4 z).1.note { bO with kind:=5,id:=z.k.t.id,gen:=z.k.t.gen,dl:=z.k.t.dl,tick:=z.k.now }) else (.at none .looks,(Qk 4 z).1)):ST × ZT).2
   split
   ·exact (Yd 4 z).trans (Sr _ _)
   ·exact Yd 4 z
 | bB=>exact Zz.refl z
 | behind =>
   show Zz z ((if bA (z.x.aa.word z.k.t.slot)≠4\/X7 (z.x.aa.word z.k.t.slot)≠z.k.t.gen then (St.nil,({ z with k:={ z.k with aA:=z.x.aa.word z.k.t.slot } }:ZT))
    else if 0<z.k.t.per/\Xk (z.x.aa.word z.k.t.slot)=false/\z.k.t.dl+z.k.t.per<18446744073709551616 then (.at none (.aV (z.k.t.dl+z.k.t.per)),{ z with k:={ z.k with aA:=z.x.aa.word z.k.t.slot } }) else (.at none .aS,{ z with k:={ z.k with aA:=z.x.aa.word z.k.t.slot } })):ST × ZT).2
   split
   ·exact Ym rfl rfl rfl
   ·split <;> exact Ym rfl rfl rfl
 | aV next =>
   show Zz z ((if (Qk 5 z).2=true then (.nil,jk { (Qk 5 z).1 with k:={ z.k with t:={ z.k.t with gen:=z.k.t.gen+1,dl:=next } } }) else (.at none .behind,(Qk 5 z).1)):ST × ZT).2
   split
   ·exact Ym rfl rfl rfl
   ·exact Yd 5 z
 | aS =>
   show Zz z ((if (Qk 9 z).2=true then (.aP .rel .drop,if 0<z.k.t.per/\Xk z.k.aA=false then (Qk 9 z).1.note { bO with kind:=14,id:=z.k.t.id,gen:=z.k.t.gen } else (Qk 9 z).1) else (.at none .behind,(Qk 9 z).1)):ST × ZT).2
   split
   ·show Zz z (if _ then _ else _)
    split
    ·exact (Yd 9 z).trans (Sr _ _)
    ·exact Yd 9 z
   ·exact Yd 9 z
theorem q06 (a:AT) (z:ZT) (h:KB a):Zz z (Q3 a z):=by
 cases a with
 | leave1=>exact h.elim
 | unlock=>exact h.elim
 | answer=>exact Ym rfl rfl rfl
 | bH d=>exact Ym rfl rfl rfl
 | put f=>exact Ym rfl rfl rfl
 | rel=>exact Ym rfl rfl rfl
 | drop=>exact Ym rfl rfl rfl
theorem RD (s:ST) (z:ZT) (h:s.allM KC KB):Zz z (St.run runT Q3 s z).2 :=
 St.tQ (Y:=YT) Zz.refl (fun _ _ _=>Zz.trans) Mr q06 s z h
def Be:ST->Int
 | .nil=>0
 | .at none .enter=>0
 | .ai .answer=>0
 | _=>1
def ES:ST->Prop
 | .at none (.bX _)=>True
 | .ai .unlock=>True
 | .thn _ (.aM _)=>True
 | .thn _ (.af _)=>True
 | .thn _ .ay=>True
 | _=>False
def Gh:ST->Prop
 | .thn X (.ae _)=>ES X
 | _=>False
def rV (n:Int) (i:Nat) (x:Qi):Prop:=∀ r,x.rg i=some r->n<=r.tail - r.head
def qO:ST->Qi->Prop
 | .thn (.thn (.at (some (.ready _)) (.bK n)) (.af _)) (.ae i),x=>1<=n/\rV n i x
 | .thn (.thn (.thn _ (.ax n)) (.af _)) (.ae i),x=>rV (n - 1) i x
 | _,_=>True
theorem SE (Y:ST) (i:Nat) (x:Qi):qO (.thn (.thn Y .ay) (.ae i)) x:=by
 unfold qO;split
 ·rename_i h;cases h
 ·rename_i h;cases h
 ·trivial
def q4z (s:ST) (k:Xd) (x:Qi):Prop:=∀ j,(x.au.getD j (Qp 1)).who≠0->Gh s/\k.s=some j
structure y9 (s:ST) (z:ZT) (r:ST × ZT):Prop where
 ins:r.2.x.f.inside=z.x.f.inside+Be r.1 - Be s
 rings:r.2.x.rg=z.x.rg\/∃ i q,z.x.rg i=some q/\q.ready=true/\r.2.x.rg=lK z.x.rg i (J4 q).1
 fit:qO r.1 r.2.x
 who:q4z r.1 r.2.k r.2.x
section
variable {s:ST} {z:ZT}
theorem LA {M A Y α:Type} {runM:M->α->St M A Y × α} {m:M} {z:α}:Qd runM (.nil:St M A Y) m z=runM m z:=rfl
theorem Xt {M A Y α:Type} {runM:M->α->St M A Y × α} {m:M} {z:α} {s:St M A Y} (h:s≠.nil):Qd runM s m z=(.thn s m,z):=by
 cases s <;> first | rfl | exact absurd rfl h
theorem Gy {X X':ST} {i:Nat} {z z':ZT} (hw:q4z (.thn X (.ae i)) z.k z.x) (hr:(St.run runT Q3 X z)=(X',z')) (hn:X'≠.nil) (hl:ES X') (hc:z'.x.f.inside=z.x.f.inside) (hwho:xk z.x z'.x) (hs:z'.k.s=z.k.s)
 (hrg:z'.x.rg=z.x.rg\/∃ i q,z.x.rg i=some q/\q.ready=true/\z'.x.rg=lK z.x.rg i (J4 q).1) (hf:qO (.thn X' (.ae i)) z'.x):y9 (.thn X (.ae i)) z (Qw (.thn X (.ae i)) z):=by
 have e:Qw (.thn X (.ae i)) z=(.thn X' (.ae i),z'):=by
  show Qd runT (St.run runT Q3 X z).1 (.ae i) (St.run runT Q3 X z).2=_
  rw [hr];exact Xt hn
 rw [e];refine ⟨by rw [hc];show _=_+1 - 1;omega,hrg,hf,fun j hj=>⟨hl,?_⟩⟩
 have:=(hw j (by rw [<- hwho j];exact hj)).2;rw [hs];exact this
theorem BH {X X':ST} {i:Nat} {z z':ZT} (hw:q4z (.thn X (.ae i)) z.k z.x) (hr:(St.run runT Q3 X z)=(X',z')) (hn:X'≠.nil) (hl:ES X') (hc:Zz z z') (hf:qO (.thn X' (.ae i)) z'.x):y9 (.thn X (.ae i)) z (Qw (.thn X (.ae i)) z) :=
 Gy hw hr hn hl hc.inside hc.who hc.s (.inl hc.rg) hf
theorem Nk {z:ZT} {i:Nat} (hs:z.k.s=some i) (hi:i<z.x.au.length):z.x.au[i]?=some z.aU/\z.sh=i:=by
 have e:z.sh=i:=by unfold ZT.sh;rw [hs];rfl
 refine ⟨?_,e⟩
 unfold ZT.aU;rw [e,WN,WR hi];rfl
theorem PD {z:ZT} {i:Nat} (hs:z.k.s=some i) (hi:i<z.x.au.length):z.x.rg i=some z.aU.ring:=by
 unfold Qi.rg;rw [(Nk hs hi).1];rfl
theorem Br {n:Int} {z:ZT} (h:¬ n<=0):Q2 n z=.at (some (.ready z.sh)) (.bK n):=if_neg h
theorem G9 {n:Int} {z:ZT} (h:n<=0):Q2 n z=.nil:=if_pos h
theorem Nf {X:ST} {i:Nat} {d:Nat} {n:Int} {z z':ZT} (hw:q4z (.thn X (.ae i)) z.k z.x) (hr:(St.run runT Q3 X z)=Qd runT (Q2 n z') (.af d) z') (hc:z'.x.f.inside=z.x.f.inside) (hwho:xk z.x z'.x) (hs:z'.k.s=z.k.s)
 (hrg:z'.x.rg=z.x.rg\/∃ i q,z.x.rg i=some q/\q.ready=true/\z'.x.rg=lK z.x.rg i (J4 q).1) (hp:rV n i z'.x):y9 (.thn X (.ae i)) z (Qw (.thn X (.ae i)) z):=by
 by_cases h:n<=0
 ·rw [G9 h] at hr
  exact Gy hw hr (by intro e;cases e) trivial hc hwho hs hrg trivial
 ·rw [Br h,Xt (by intro e;cases e)] at hr
  exact Gy hw hr (by intro e;cases e) trivial hc hwho hs hrg ⟨by omega,hp⟩
theorem Me {l:List Qs} {i j:Nat} {s d:Qs} (h:j≠i):(l.set i s).getD j d=l.getD j d:=by
 rw [WN,WN,WO,if_neg (fun e=>h e.symm)]
theorem Us {l:List Qs} {i:Nat} {s d:Qs} (h:i<l.length):(l.set i s).getD i d=s:=by
 rw [WN,WO,if_pos rfl,if_pos h];rfl
theorem Vf {x x':Qi} {i:Nat} {s s':Qs} (hs:x.au[i]?=some s) (e:s'.ring=s.ring) (h:x'.au=x.au.set i s'):x'.rg=x.rg:=by
 funext n
 unfold Qi.rg;rw [h,WO];split
 ·rename_i en
  subst en;rw [if_pos (WQ.1 hs).1,hs];simp [e]
 ·rfl
theorem q7p {X:ST} {i:Nat} (hs:z.k.s=some i) (hil:i<z.x.au.length) (hX:ky X z.k z.x i) (hring:∀ i r,z.x.rg i=some r->qc3 r) :
 (mO (.thn X (.ae i)) z=true)->qO (.thn X (.ae i)) z.x->q4z (.thn X (.ae i)) z.k z.x->y9 (.thn X (.ae i)) z (Qw (.thn X (.ae i)) z):=by
 obtain ⟨hget,hsh⟩:=Nk hs hil
 match X,hX with
 | .at (some .lock) (.dI d),hX =>
   intro hm hf hw;have h0:∀ j,(z.x.au.getD j (Qp 1)).who=0:=fun j=>WU fun e=>(hw j e).1
   have hr:St.run runT Q3 (.at (some .lock) (.dI d)) z=(.at none (.bX d),z.cZ { z.aU with who:=ow z.aU.who z.k.th,turns:=nC z.aU.who z.aU.turns }):=rfl;have e:Qw (.thn (.at (some .lock) (.dI d)) (.ae i)) z=(.thn (.at none (.bX d)) (.ae i),z.cZ { z.aU with who:=ow z.aU.who z.k.th,turns:=nC z.aU.who z.aU.turns }):=rfl;rw [e];refine ⟨by show z.x.f.inside=z.x.f.inside+1 - 1;omega,.inl ?_,trivial,fun j hj=>⟨trivial,?_⟩⟩
   ·exact Vf (i:=z.sh) (s:=z.aU) (by rw [hsh];exact hget) (by rfl) rfl
   ·by_cases hji:j=i
    ·rw [hji];exact hs
    ·exfalso
     apply hj
     show ((z.x.au.set z.sh _).getD j (Qp 1)).who=0
     rw [hsh,Me hji];exact h0 j
 | .at none (.bX d),hX =>
   intro hm hf hw;by_cases ht:z.aU.ring.tail - z.aU.ring.head<=0
   ·have hr:St.run runT Q3 (.at none (.bX d)) z=(.thn (.ai (.bH d)) (.aM d),z):=if_pos ht
    exact BH hw hr (by intro e;cases e) trivial (Zz.refl z) trivial
   ·have hr:St.run runT Q3 (.at none (.bX d)) z=(.thn (Q2 (z.aU.ring.tail - z.aU.ring.head) z) (.af d),z):=if_neg ht
    rw [Br ht] at hr;refine BH hw hr (by intro e;cases e) trivial (Zz.refl z) ⟨by omega,fun r hrr=>?_⟩
    rw [PD hs hil] at hrr;cases hrr
    exact WL _
 | .thn (.ai (.bH d)) (.aM e),hX =>
   intro hm hf hw;have hc:=RD (.thn (.ai (.bH d)) (.aM e)) z ⟨trivial,trivial⟩;obtain ⟨r,hr⟩:∃ r,St.run runT Q3 (.thn (.ai (.bH d)) (.aM e)) z=r:=⟨_,rfl⟩;have hr':=hr;rw [hr] at hc;have e2:r=runT (.aM e) (Q3 (.bH d) z):=hr.symm
   have hn:r.1≠.nil/\ES r.1/\∀ x,qO (.thn r.1 (.ae i)) x:=by
    rw [e2];generalize Q3 (.bH d) z=w;have e3:runT (.aM e) w=(match w.k.due[0]? with | none=>((.ai .unlock,w):ST × ZT) | some _=>(.thn (Qm e 0 w).1 .ay,(Qm e 0 w).2)):=rfl;rw [e3];cases w.k.due[0]? with
    | none=>exact ⟨(by intro e;cases e),trivial,fun _=>trivial⟩
    | some t=>exact ⟨(by intro e;cases e),trivial,fun _=>SE _ _ _⟩
   exact BH hw (X':=r.1) (z':=r.2) hr hn.1 hn.2.1 hc (hn.2.2 _)
 | .thn (.at (some (.ready j)) (.bK n)) (.af d),hX =>
   intro hm hf hw;obtain ⟨_,_,rfl,hn0,_⟩:=hX
   have hrd:z.aU.ring.ready=true:=by
    have hm:(z.x.au.getD j (Qp 1)).ring.ready=true:=hm;unfold ZT.aU;rw [hsh];exact hm
   obtain ⟨hn1,hp⟩:=(show 1<=n/\rV n j z.x from hf);have hrg:=PD hs hil;obtain ⟨_,_,k3,k4,_,_⟩:=QM (hring j _ hrg) hrd;obtain ⟨z',hz'⟩:∃ z':ZT,{ (z.cZ { z.aU with ring:=(J4 z.aU.ring).1 }) with k:={ z.k with t:=(J4 z.aU.ring).2.1 } }=z':=⟨_,rfl⟩
   have hrr:z'.x.rg=lK z.x.rg j (J4 z.aU.ring).1:=by
    rw [<- hz'];exact Ah (x:=z.x) (s:=z.aU) hget (by rw [<- hsh];rfl)
   have hpn:rV (n - 1) j z'.x:=fun r hr=>by
    rw [hrr,qyi] at hr;cases hr
    have:=hp _ hrg;rw [k3,k4];omega
   have hin:z'.x.f.inside=z.x.f.inside:=by rw [<- hz'];rfl
   have hss:z'.k.s=z.k.s:=by rw [<- hz']
   have hwho:xk z.x z'.x:=fun i'=>by
    rw [<- hz']
    show ((z.x.au.set z.sh _).getD i' (Qp 1)).who=_
    rw [hsh];by_cases e:i'=j
    ·rw [e,Us hil]
     show z.aU.who=_
     unfold ZT.aU;rw [hsh]
    ·rw [Me e]
   have hrun:St.run runT Q3 (.thn (.at (some (.ready j)) (.bK n)) (.af d)) z=Qd runT (if z'.k.t.slot<0 then (Q2 (n - 1) z',z') else ((.thn (.at none .bz) (.ax n),z'):ST × ZT)).1 (.af d) (if z'.k.t.slot<0 then (Q2 (n - 1) z',z') else ((.thn (.at none .bz) (.ax n),z'):ST × ZT)).2:=by rw [<- hz'];rfl
   have hor:z'.x.rg=z.x.rg\/∃ i q,z.x.rg i=some q/\q.ready=true/\z'.x.rg=lK z.x.rg i (J4 q).1:=.inr ⟨j,_,hrg,hrd,hrr⟩;by_cases hsl:z'.k.t.slot<0
   ·rw [if_pos hsl] at hrun
    exact Nf hw hrun hin hwho hss hor hpn
   ·rw [if_neg hsl] at hrun
    rw [Xt (by intro e;cases e)] at hrun;exact Gy hw hrun (by intro e;cases e) trivial hin hwho hss hor hpn
 | .thn (.thn (.at none .bz) (.ax n)) (.af d),hX =>
   intro hm hf hw;have hf:rV (n - 1) i z.x:=hf;have hc:=Mr .bz z trivial;have e1:runT .bz z=(if (Qr 2 z).2=true then (.at none .aH,(Qr 2 z).1) else (.nil,(Qr 2 z).1)):=rfl;obtain ⟨z',hz'⟩:∃ z',(runT .bz z).2=z':=⟨_,rfl⟩;rw [hz'] at hc;have hp:rV (n - 1) i z'.x:=fun r hr=>hf r (by rw [<- hc.rg];exact hr)
   have hrun:St.run runT Q3 (.thn (.thn (.at none .bz) (.ax n)) (.af d)) z=Qd runT (Qd runT (runT .bz z).1 (.ax n) z').1 (.af d) (Qd runT (runT .bz z).1 (.ax n) z').2:=by rw [<- hz'];rfl
   by_cases hl:(Qr 2 z).2=true
   ·rw [e1,if_pos hl,Xt (by intro e;cases e),Xt (by intro e;cases e)] at hrun
    exact BH hw hrun (by intro e;cases e) trivial hc hp
   ·rw [e1,if_neg hl,LA] at hrun
    exact Nf hw hrun hc.inside hc.who hc.s (.inl hc.rg) hp
 | .thn (.thn (.at none .aH) (.ax n)) (.af d),hX =>
   intro hm hf hw;have hf:rV (n - 1) i z.x:=hf;have hc:=Mr .aH z trivial;obtain ⟨z',hz'⟩:∃ z',(runT .aH z).2=z':=⟨_,rfl⟩;rw [hz'] at hc;have hp:rV (n - 1) i z'.x:=fun r hr=>hf r (by rw [<- hc.rg];exact hr)
   have hrun:St.run runT Q3 (.thn (.thn (.at none .aH) (.ax n)) (.af d)) z=Qd runT (Qd runT (runT .aH z).1 (.ax n) z').1 (.af d) (Qd runT (runT .aH z).1 (.ax n) z').2:=by rw [<- hz'];rfl
   have hcase:(runT .aH z).1=.nil\/(runT .aH z).1=.at none .bz:=by
    show ((if (Qk 3 z).2=true then (.nil,jk (Qk 3 z).1) else (Qv (Qk 3 z).1,(Qk 3 z).1)):ST × ZT).1=_\/((if (Qk 3 z).2=true then (.nil,jk (Qk 3 z).1) else (Qv (Qk 3 z).1,(Qk 3 z).1)):ST × ZT).1=_
    split
    ·exact .inl rfl
    ·show Qv _=_\/Qv _=_
     unfold Qv;split
     ·exact .inl rfl
     ·exact .inr rfl
   rcases hcase with hl | hl
   ·rw [hl,LA] at hrun
    exact Nf hw hrun hc.inside hc.who hc.s (.inl hc.rg) hp
   ·rw [hl,Xt (by intro e;cases e),Xt (by intro e;cases e)] at hrun
    exact BH hw hrun (by intro e;cases e) trivial hc hp
 | .thn (.thn G (.aD d n)) .ay,hX =>
   intro hm hf hw;obtain ⟨_,_,_,_,hG⟩:=hX
   have hall:G.allM KC KB:=by
    match G,hG with
    | .at none .looks,_=>trivial
    | .at none .bE,_=>trivial
    | .thn (.ai (.put _)) .bB,_=>exact ⟨trivial,trivial⟩
    | .at none .behind,_=>trivial
    | .at none (.aV next),_=>trivial
    | .at none .aS,_=>trivial
    | .aP .rel .drop,_=>trivial
    | .ai .drop,_=>trivial
   have hc:=RD (.thn (.thn G (.aD d n)) .ay) z ⟨⟨hall,trivial⟩,trivial⟩;obtain ⟨r,hr⟩:∃ r,St.run runT Q3 (.thn (.thn G (.aD d n)) .ay) z=r:=⟨_,rfl⟩;rw [hr] at hc;have e2:r=Qd runT (St.run runT Q3 (.thn G (.aD d n)) z).1 .ay (St.run runT Q3 (.thn G (.aD d n)) z).2:=hr.symm
   have hn:r.1≠.nil/\ES r.1/\∀ x,qO (.thn r.1 (.ae i)) x:=by
    rw [e2];by_cases e:(St.run runT Q3 (.thn G (.aD d n)) z).1=.nil
    ·rw [e,LA]
     exact ⟨(by intro e;cases e),trivial,fun _=>trivial⟩
    ·rw [Xt e]
     exact ⟨(by intro e;cases e),trivial,fun _=>SE _ _ _⟩
   exact BH hw (X':=r.1) (z':=r.2) hr hn.1 hn.2.1 hc (hn.2.2 _)
 | .ai .unlock,hX =>
   intro hm hf hw;have e:Qw (.thn (.ai .unlock) (.ae i)) z=Q7 (i+1) (z.cZ { z.aU with who:=0 }):=rfl;rw [e]
   have hz0:∀ j,((z.cZ { z.aU with who:=0 }).x.au.getD j (Qp 1)).who=0:=fun j=>by
    show ((z.x.au.set z.sh _).getD j (Qp 1)).who=0
    rw [hsh];by_cases hji:j=i
    ·rw [hji,Us hil]
    ·rw [Me hji]
     refine WU fun hne=>?_
     have:=(hw j hne).2;rw [hs] at this;cases this
     exact hji rfl
   have hrg:(z.cZ { z.aU with who:=0 }).x.rg=z.x.rg:=Vf (i:=z.sh) (s:=z.aU) (by rw [hsh];exact hget) (by rfl) rfl;generalize hz':z.cZ { z.aU with who:=0 }=z' at hz0 hrg |-;have hin:z'.x.f.inside=z.x.f.inside:=by rw [<- hz'];rfl
   unfold Q7;split
   ·exact ⟨by show z'.x.f.inside=z.x.f.inside+1 - 1;omega,.inl hrg,trivial,fun j hj=>absurd (hz0 j) hj⟩
   ·exact ⟨by show z'.x.f.inside=z.x.f.inside+1 - 1;omega,.inl hrg,trivial,fun j hj=>absurd (hz0 j) hj⟩
theorem PR {N:Nat} (hb:TB N z) (h:rM s z.k z.x) (hm:mO s z=true) (hf:qO s z.x) (hi:Be s<=z.x.f.inside) (hw:q4z s z.k z.x) (hring:∀ i r,z.x.rg i=some r->qc3 r):y9 s z (Qw s z):=by
 have h0:(¬ Gh s)->∀ j,(z.x.au.getD j (Qp 1)).who=0:=fun hl j=>WU fun e=>hl (hw j e).1
 match s,h,hm,hf,hi,hw with
 | .nil,_,hm,_,_,_=>exact absurd hm (by simp [mO,St.may])
 | .at none .enter,_,_,_,_,_ =>
   have h0:=h0 (fun e=>e);exact ⟨by show z.x.f.inside+1=z.x.f.inside+1 - 0;omega,.inl rfl,trivial,fun j hj=>absurd (h0 j) hj⟩
 | .at none .gate,_,_,_,_,_ =>
   have h0:=h0 (fun e=>e)
   show y9 _ z ((if z.x.f.closed=true then Yr 3 z else (.at none .tick,z)):ST × ZT)
   split
   ·exact ⟨by show z.x.f.inside=z.x.f.inside+1 - 1;omega,.inl rfl,trivial,fun j hj=>absurd (h0 j) hj⟩
   ·exact ⟨by show z.x.f.inside=z.x.f.inside+1 - 1;omega,.inl rfl,trivial,fun j hj=>absurd (h0 j) hj⟩
 | .at none .tick,_,_,_,_,_ =>
   have h0:=h0 (fun e=>e)
   show y9 _ z (Q7 0 (({ z with x:={ z.x with f:={ z.x.f with now:=z.x.f.now+1 } },k:={ z.k with now:=z.x.f.now+1 } }:ZT).note { bO with kind:=11,tick:=z.x.f.now+1 }))
   unfold Q7;split
   ·exact ⟨by show z.x.f.inside=z.x.f.inside+1 - 1;omega,.inl rfl,trivial,fun j hj=>absurd (h0 j) hj⟩
   ·exact ⟨by show z.x.f.inside=z.x.f.inside+1 - 1;omega,.inl rfl,trivial,fun j hj=>absurd (h0 j) hj⟩
 | .aP .leave1 .answer,_,_,_,hi,_ =>
   have h0:=h0 (fun e=>e);have hi:(1:Int)<=z.x.f.inside:=hi;refine ⟨?_,.inl rfl,trivial,fun j hj=>absurd (h0 j) hj⟩
   show Z2 z.x.f.inside=z.x.f.inside+0 - 1
   unfold Z2;rw [if_neg (by omega)];omega
 | .ai .answer,_,_,_,_,_ =>
   have h0:=h0 (fun e=>e);exact ⟨by show z.x.f.inside=z.x.f.inside+0 - 0;omega,.inl rfl,trivial,fun j hj=>absurd (h0 j) hj⟩
 | .thn X (.ae i),h,hm,hf,hi,hw =>
   obtain ⟨hs,hil,_,hX⟩:=h;exact q7p hs hil hX hring hm hf hw
end
def kC:Wk->Int
 | .call s k=>vG s k
 | .turn s _=>Be s
 | .dL _ _=>0
def za:SS->Qz->Prop
 | .at (some .idle) _,p=>p.shut=true
 | _,_=>True
def FQ (z:ZF):Wk->Prop
 | .call s k=>xe s k/\yo s k
 | .turn s k=>qO s z.x
 | .dL s k=>za s z.p
def Jr (l:List Int):Int:=l.foldr (·+·) 0
structure qz (S:SvS):Prop where
 go:∀ (a:Nat) (j:J2),S.all[a]?=some j->FQ S.z j.w
 ins:S.z.x.f.inside=Jr (S.all.map fun j=>kC j.w)
 rg:iY (S.all.map fun j=>j.w.tk) S.z.x.rg
 who:∀ i,(S.z.x.au.getD i (Qp 1)).who≠0->∃ (a:Nat) (j:J2) (s:ST) (k:Xd),S.all[a]?=some j/\j.w=.turn s k/\Gh s/\k.s=some i
 busy:S.z.x.f.busy=Jr (S.aL.map fun c=>(c.k.holds.length:Int))
 own:∀ (a:Nat) (j:J2),S.all[a]?=some j->j.w.done=false->∃ i:Nat,S.own[i]?=some (some a)
 aL:1<=S.aL.length
theorem qp {α:Type} {f:α->Int}:∀ {l:List α} {a:Nat} {x y:α},l[a]?=some x->Jr ((l.set a y).map f)=Jr (l.map f) - f x+f y
 | b::l,0,x,y,h=>by
   simp only [WX,WW] at h;subst h
   show f y+Jr (l.map f)=f b+Jr (l.map f) - f b+f y
   omega
 | b::l,a+1,x,y,h=>by
   have:=qp (f:=f) (l:=l) (a:=a) (y:=y) h
   show f b+Jr ((l.set a y).map f)=f b+Jr (l.map f) - f x+f y
   rw [this];omega
theorem z6 {α:Type} {f:α->Int}:∀ {l:List α} {a:Nat} {x:α},(∀ x,0<=f x)->l[a]?=some x->f x<=Jr (l.map f)
 | b::l,0,x,hf,h=>by
   simp only [WX,WW] at h;subst h;have:0<=Jr (l.map f):=uR l hf
   show f b<=f b+Jr (l.map f)
   omega
 | b::l,a+1,x,hf,h=>by
   have:=z6 (f:=f) (l:=l) (a:=a) hf h;have:=hf b
   show f x<=f b+Jr (l.map f)
   omega
where uR {α:Type} {f:α->Int}:∀ l:List α,(∀ x,0<=f x)->0<=Jr (l.map f)
 | [],_=>WL _
 | b::l,hf=>by
   have:=uR l hf;have:=hf b
   show 0<=f b+Jr (l.map f)
   omega
theorem Bp {α:Type} {f:α->Int}:∀ {l:List α},(∀ x∈l,f x=0)->Jr (l.map f)=0
 | [],_=>rfl
 | b::l,h=>by
   have h1:=Bp (f:=f) (l:=l) (fun x hx=>h x (List.mem_cons_of_mem _ hx));have h2:=h b List.mem_cons_self
   show f b+Jr (l.map f)=0
   omega
theorem M5 {α:Type} {f:α->Int} (l:List α) (x:α):Jr ((l++[x]).map f)=Jr (l.map f)+f x:=by
 induction l with
 | nil=>show f x+0=0+f x;omega
 | cons b l ih =>
   show f b+Jr ((l++[x]).map f)=f b+Jr (l.map f)+f x
   rw [ih];omega
theorem Hm (w:Wk):0<=kC w:=by
 cases w with
 | call s k=>show 0<=vG s k;unfold vG;split <;> first | exact WL _ | (split <;> decide)
 | turn s k=>show 0<=Be s;unfold Be;split <;> decide
 | dL s k=>exact WL _
def uC (x x':Qi):Prop:=∀ i r',x'.rg i=some r'->∃ r,x.rg i=some r/\r.tail - r.head<=r'.tail - r'.head
theorem uC.same {x x':Qi} (h:x'.rg=x.rg):uC x x':=fun i r' hr=>⟨r',by rw [<- h];exact hr,WL _⟩
theorem Va {x x':Qi} (h:uC x x') {n:Int} {i:Nat} (hp:rV n i x):rV n i x':=fun r' hr=>by
 obtain ⟨r,h1,h2⟩:=h i r' hr;have:=hp r h1;omega
theorem ED {x x':Qi} (h:uC x x') {s:ST} (hf:qO s x):qO s x':=by
 revert hf
 unfold qO;split
 ·exact fun hf=>⟨hf.1,Va h hf.2⟩
 ·exact fun hf=>Va h hf
 ·exact fun _=>trivial
theorem qzb (r:Qx) (t:Xv):(stepT r t).1.head=r.head/\r.tail<=(stepT r t).1.tail:=by
 unfold stepT rG qE oU;split
 ·exact ⟨rfl,WL _⟩
 ·split
  ·exact ⟨rfl,WL _⟩
  ·split
   ·exact ⟨rfl,WL _⟩
   ·split
    ·exact ⟨rfl,by show r.tail<=t.pos+1;omega⟩
    ·exact ⟨rfl,WL _⟩
theorem qw0 (r:Qx) (t:Xv) (v:Qn):(Zn r t v).1.head=r.head/\(Zn r t v).1.tail=r.tail:=by
 unfold Zn;split <;> exact ⟨rfl,rfl⟩
theorem q1r {f:Prop} {k k':Qt} {x x':Qi} (e:wZ f k k' x x'):uC x x':=by
 have hrg:∀ {i:Nat} {s:Qs},x.au[i]?=some s->x.rg i=some s.ring:=fun hs=>by unfold Qi.rg;rw [hs];rfl
 cases e with
 | none h1 h2=>exact uC.same (z9 h1)
 | new h1 h0 i hi h2=>exact uC.same (z9 h1)
 | step i t s h0 ht hf hs h1 h2 =>
   intro n r' hr;rw [Ah hs h1] at hr;rcases Y0 hr with ⟨rfl,rfl⟩ | ⟨_,hr⟩
   ·have:=qzb s.ring t
    exact ⟨_,hrg hs,by omega⟩
   ·exact ⟨r',hr,WL _⟩
 | fill i t s v h0 ht hf hs hv h1 h2 =>
   intro n r' hr;rw [Ah hs h1] at hr;rcases Y0 hr with ⟨rfl,rfl⟩ | ⟨_,hr⟩
   ·have:=qw0 s.ring t v
    exact ⟨_,hrg hs,by omega⟩
   ·exact ⟨r',hr,WL _⟩
section
variable {N:Nat} {S:SvS}
theorem Uj {α β:Type} (f:α->β) (l:List α) (a:Nat) (x:α):(l.set a x).map f=(l.map f).set a (f x):=List.map_set ..
theorem yj {α β:Type} {f:α->β} {l:List α} {a:Nat} {x:α} (h:l[a]?=some x):(l.map f)[a]?=some (f x):=by rw [XL,h];rfl
theorem M7 (hn:dV N S) (h:qz S) {a:Nat} {j:J2} {s:ST} {k:Xd} (ha:S.all[a]?=some j) (hj:j.w=.turn s k) (hd:s.isNil=false):q4z s k S.z.x:=by
 intro i hi;obtain ⟨b,jb,s2,k2,h1,h2,h3,h4⟩:=h.who i hi
 have hnil:s2.isNil=false:=by cases s2 with
  | nil=>exact h3.elim
  | _=>rfl
 have e1:=hn.turn a j ha (by rw [hj];rfl) (by rw [hj];exact hd);have e2:=hn.turn b jb h1 (by rw [h2];rfl) (by rw [h2];exact hnil);rw [e1] at e2;cases e2
 rw [ha] at h1;cases h1
 rw [hj] at h2;cases h2
 exact ⟨h3,h4⟩
theorem M6 (hn:dV N S) (h:qz S) {a:Nat} {j:J2} (ha:S.all[a]?=some j) (hd:j.w.done=false) (n':Int) {w':Wk} {z':ZF}
 (h1:FQ z' w') (h2:z'.x.f.inside=S.z.x.f.inside+kC w' - kC j.w) (h3:iY ((S.all.map fun j=>j.w.tk).set a w'.tk) z'.x.rg)
 (h4:∀ (b:Nat) (jb:J2),b≠a->S.all[b]?=some jb->FQ z' jb.w)
 (h5:∀ i,(z'.x.au.getD i (Qp 1)).who≠0->(∃ s k,w'=.turn s k/\Gh s/\k.s=some i)\/((S.z.x.au.getD i (Qp 1)).who≠0/\j.w.isTurn=false))
 (h6:z'.x.f.busy=S.z.x.f.busy):qz { S with all:=S.all.set a ⟨j.kb,n',w'⟩,z:=z' }:=by
 refine ⟨fun b jb hb=>?_,?_,?_,fun i hi=>?_,by rw [show ({ S with all:=S.all.set a ⟨j.kb,n',w'⟩,z:=z' }:SvS).z.x.f.busy=z'.x.f.busy from rfl,h6];exact h.busy,fun b jb hb hdb=>?_,h.aL⟩
 ·rcases B5 hb with ⟨_,rfl⟩ | ⟨hne,hb⟩
  ·exact h1
  ·exact h4 b jb hne hb
 ·show z'.x.f.inside=Jr ((S.all.set a ⟨j.kb,n',w'⟩).map fun j=>kC j.w)
  rw [qp (f:=fun j:J2=>kC j.w) ha,h2,h.ins]
  show _+kC w' - kC j.w=_ - kC j.w+kC w'
  omega
 ·show iY ((S.all.set a ⟨j.kb,n',w'⟩).map fun j=>j.w.tk) z'.x.rg
  rw [Uj];exact h3
 ·rcases h5 i hi with ⟨s,k,e1,e2,e3⟩ | ⟨hw,hit⟩
  ·exact ⟨a,_,s,k,get_set_same ha,e1,e2,e3⟩
  ·obtain ⟨b,jb,s2,k2,g1,g2,g3,g4⟩:=h.who i hw
   refine ⟨b,jb,s2,k2,xn g1 (fun e=>?_),g2,g3,g4⟩
   subst e;rw [ha] at g1;cases g1
   rw [g2] at hit;cases hit
 ·rcases B5 hb with ⟨rfl,_⟩ | ⟨hne,hb⟩
  ·exact h.own b j ha hd
  ·exact h.own b jb hb hdb
theorem qxg (hn:dV N S) (h:qz S) {a:Nat} {j:J2} (ha:S.all[a]?=some j) {s:SC} {k:Qt} (hj:j.w=.call s k) (hd:s.isNil=false) (n':Int):qz { S with all:=S.all.set a ⟨j.kb,n',(j.w.step S.z).1⟩,z:=(j.w.step S.z).2 }:=by
 obtain ⟨hjn,_,_⟩:=hn.fe _ (WT ha);have hgo:=h.go a j ha;have jL:kC j.w<=S.z.x.f.inside:=by rw [h.ins];exact z6 (f:=fun j:J2=>kC j.w) (fun x=>Hm x.w) ha
 rw [hj] at hjn hgo jL;have hjc:JC N s (k,S.z.x):=⟨hn.eY.zn.core,hjn.wk,hjn.fit⟩;have g:=Nw hjc hgo.1 hgo.2 jL;obtain ⟨q1,_⟩:=Tt hjc hjn.gen;have hT:(S.all.map fun j=>j.w.tk)[a]?=some k.tk:=by rw [yj ha,hj];rfl
 have hwin:=q1r g.vk;refine M6 hn h ha (by rw [hj];exact hd) n' ?_ ?_ ?_ (fun b jb hne hb=>?_) (fun i hi=>?_) ?_
 ·rw [hj];exact ⟨g.fit,g.tk⟩
 ·rw [hj];exact g.ins
 ·rw [hj];exact qwj h.rg hT hjn.wk g.vk
 ·have:=h.go b jb hb
  rw [hj];revert this
  cases jb.w with
  | call s2 k2=>exact fun e=>e
  | turn s2 k2=>exact fun e=>ED hwin e
  | dL s2 k2=>exact fun e=>e
 ·rw [hj] at hi |-
  exact .inr ⟨by rw [<- q1.who i];exact hi,rfl⟩
 ·rw [hj];exact q1.busy
theorem qxh (hn:dV N S) (h:qz S) {a:Nat} {j:J2} (ha:S.all[a]?=some j) {s:ST} {k:Xd} (hj:j.w=.turn s k) (hm:j.w.may S.z=true) (n':Int):qz { S with all:=S.all.set a ⟨j.kb,n',(j.w.step S.z).1⟩,z:=(j.w.step S.z).2 }:=by
 have hd:=Zi hm;obtain ⟨hjn,_,_⟩:=hn.fe _ (WT ha);have hgo:=h.go a j ha;have jL:kC j.w<=S.z.x.f.inside:=by rw [h.ins];exact z6 (f:=fun j:J2=>kC j.w) (fun x=>Hm x.w) ha
 rw [hj] at hjn hgo jL hm;have hd':s.isNil=false:=by rw [hj] at hd;exact hd
 have hb:TB N ⟨k,S.z.x,S.z.ws,S.z.p⟩:=⟨hn.eY.zn.core,hn.eY.zn.rest,hjn.wk,hn.eY.ws,hn.eY.iG⟩;have g:=PR (s:=s) hb hjn.fit hm hgo jL (M7 hn h ha hj hd') h.rg.ring;have q:=U6 s ⟨k,S.z.x,S.z.ws,S.z.p⟩;have hT:(S.all.map fun j=>j.w.tk)[a]?=some none:=by rw [yj ha,hj];rfl
 have Kq:iY ((S.all.map fun j=>j.w.tk).set a none) (Qw s ⟨k,S.z.x,S.z.ws,S.z.p⟩).2.x.rg:=by
  rw [N8 hT];rcases g.rings with e | ⟨i,r,e1,e2,e3⟩
  ·rw [e];exact h.rg
  ·rw [e3];exact h.rg.pop e1 e2
 refine M6 hn h ha hd n' ?_ ?_ ?_ (fun b jb hne hb=>?_) (fun i hi=>?_) ?_
 ·rw [hj];exact g.fit
 ·rw [hj];exact g.ins
 ·rw [hj];exact Kq
 ·have hg:=h.go b jb hb
  rw [hj];cases hw:jb.w with
  | call s2 k2=>rw [hw] at hg;exact hg
  | turn s2 k2 =>
    have hnil:s2=.nil:=by
     refine WU fun hne2=>?_
     have hd2:s2.isNil=false:=by cases s2 with
      | nil=>exact absurd rfl hne2
      | _=>rfl
     have e1:=hn.turn a j ha (by rw [hj];rfl) hd;have e2:=hn.turn b jb hb (by rw [hw];rfl) (by rw [hw];exact hd2);rw [e1] at e2;cases e2
     exact hne rfl
    subst hnil;trivial
  | dL s2 k2 =>
    rw [hw] at hg
    show za s2 (Qw s ⟨k,S.z.x,S.z.ws,S.z.p⟩).2.p
    have hg:za s2 S.z.p:=hg;revert hg
    unfold za;split
    ·exact fun e=>by rw [q.shut];exact e
    ·exact fun _=>trivial
 ·rw [hj] at hi
  obtain ⟨e1,e2⟩:=g.who i hi;exact .inl ⟨_,_,by rw [hj];rfl,e1,e2⟩
 ·rw [hj];exact q.busy
structure PW (z z':ZS):Prop where
 inside:z'.x.f.inside=z.x.f.inside
 shut:z.p.shut=true->z'.p.shut=true
theorem q5o (s:SS) (z:ZS):PW z (stepS s z).2:=by
 refine St.keep (R:=PW) (runM:=Xu) (bP:=Ya) (fun z=>⟨rfl,id⟩) (fun _ _ _ a b=>⟨b.inside.trans a.inside,fun e=>b.shut (a.shut e)⟩) (fun m z=>?_) (fun a z=>?_) s z
 ·cases m with
  | shuts=>dsimp only [Xu];split <;> exact ⟨rfl,id⟩
  | bQ=>exact ⟨rfl,id⟩
  | az i=>exact ⟨rfl,id⟩
  | waits=>exact ⟨rfl,id⟩
  | bJ i=>dsimp only [Xu];split <;> exact ⟨rfl,id⟩
  | aB i=>dsimp only [Xu];split <;> exact ⟨rfl,id⟩
  | cK=>exact ⟨rfl,id⟩
 ·cases a with
  | dE=>exact ⟨rfl,fun _=>rfl⟩
  | _=>exact ⟨rfl,id⟩
theorem Y9 (i:Int) (z:ZS) (p:Qz):za (Zv i z) p:=by
 unfold Zv uf;split <;> trivial
theorem q1b {s:SS} {z:ZS} (hf:xY s z.k) (hm:uG s z=true):za (stepS s z).1 (stepS s z).2.p:=by
 have wT:∀ (X:SS) (m:MS),(∀ z:ZS,za (Xu m z).1 (Xu m z).2.p)->za (Qd Xu (St.run Xu Ya X z).1 m (St.run Xu Ya X z).2).1 (Qd Xu (St.run Xu Ya X z).1 m (St.run Xu Ya X z).2).2.p:=by
  intro X m hmm;by_cases e:(St.run Xu Ya X z).1=.nil
  ·rw [e];exact hmm _
  ·rw [Xt e];trivial
 match s,hf,hm with
 | .nil,_,hm=>exact absurd hm (by simp [uG,St.may])
 | .at none .shuts,_,_ =>
   show za ((if z.x.f.closed=true then (.ai .aR,{ (z.note { bO with kind:=9,err:=3 }) with k:={ z.k with err:=3,ok:=false,fB:=false } }) else (.at (some .inside) .bQ,({ z with x:={ z.x with f:={ z.x.f with closed:=true } } }:ZS).note { bO with kind:=10 })):SS × ZS).1 _
   split <;> trivial
 | .at (some .inside) .bQ,_,_=>exact Y9 0 z _
 | .at (some .idle) .cK,_,_=>trivial
 | .ai .aR,_,_=>trivial
 | .thn (.ai .dE) .waits,_,_=>exact rfl
 | .thn (.at none (.bJ i)) (.az j),_,_=>exact wT _ _ fun z=>Y9 _ z _
 | .thn (.at none (.aB i)) (.az j),_,_=>exact wT _ _ fun z=>Y9 _ z _
 | .thn (.aP (.release _) .drop) (.az j),_,_=>exact wT _ _ fun z=>Y9 _ z _
 | .thn (.ai .drop) (.az j),_,_=>exact wT _ _ fun z=>Y9 _ z _
theorem q2b (hn:dV N S) (h:qz S) {a:Nat} {j:J2} (ha:S.all[a]?=some j) {s:SS} {k:Yv} (hj:j.w=.dL s k) (hm:j.w.may S.z=true) (n':Int):qz { S with all:=S.all.set a ⟨j.kb,n',(j.w.step S.z).1⟩,z:=(j.w.step S.z).2 }:=by
 have hd:=Zi hm;obtain ⟨hjn,_,_⟩:=hn.fe _ (WT ha);rw [hj] at hjn hm;have q:=Hr s ⟨k,S.z.x,S.z.p⟩;have c:=q5o s ⟨k,S.z.x,S.z.p⟩;have w:=q1b (s:=s) (z:=⟨k,S.z.x,S.z.p⟩) hjn.fit hm;have hT:(S.all.map fun j=>j.w.tk)[a]?=some none:=by rw [yj ha,hj];rfl
 have hrg:(stepS s ⟨k,S.z.x,S.z.p⟩).2.x.rg=S.z.x.rg:=z9 q.au;refine M6 hn h ha hd n' ?_ ?_ ?_ (fun b jb hne hb=>?_) (fun i hi=>?_) ?_
 ·rw [hj];exact w
 ·rw [hj];show (stepS s ⟨k,S.z.x,S.z.p⟩).2.x.f.inside=S.z.x.f.inside+0 - 0;rw [c.inside];show S.z.x.f.inside=_;omega
 ·rw [hj]
  show iY ((S.all.map fun j=>j.w.tk).set a none) (stepS s ⟨k,S.z.x,S.z.p⟩).2.x.rg
  rw [N8 hT,hrg];exact h.rg
 ·have hg:=h.go b jb hb
  rw [hj];revert hg
  cases jb.w with
  | call s2 k2=>exact fun e=>e
  | turn s2 k2=>exact fun e=>ED (uC.same hrg) e
  | dL s2 k2 =>
    show za s2 S.z.p->za s2 (stepS s ⟨k,S.z.x,S.z.p⟩).2.p
    unfold za;split
    ·exact c.shut
    ·exact id
 ·rw [hj] at hi |-
  refine .inr ⟨?_,rfl⟩
  have e:(stepS s ⟨k,S.z.x,S.z.p⟩).2.x.au=S.z.x.au:=q.au;rw [<- e];exact hi
 ·rw [hj];exact q.busy
theorem q2c (hn:dV N S) (h:qz S) (hN:N<999998) {i:Nat} {c:dz} (hc:S.aL[i]?=some c):qz { S with aL:=S.aL.set i (c.step S.z).1,z:=(c.step S.z).2 }:=by
 have hcn:=hn.aL _ (WT hc);obtain ⟨wb,s,n,k⟩:=c;have hb:=h.busy;have hge:(k.holds.length:Int)<=S.z.x.f.busy:=by rw [hb];exact z6 (f:=fun c:dz=>(c.k.holds.length:Int)) (fun x=>by omega) hc
 have hsum:=fun y=>qp (f:=fun c:dz=>(c.k.holds.length:Int)) (y:=y) hc
 obtain ⟨t1,t2,t3,t4⟩:=Vp hn.eY.zn.rest.ch;rcases hcn.fit with ⟨h1,h2⟩ | ⟨h1,h2⟩
 ·obtain rfl:s=Jy:=h1
  have h2:k.holds=[]:=h2;refine ⟨fun a j ha=>?_,h.ins,h.rg,h.who,?_,h.own,by show 1<=(S.aL.set i _).length;rw [WV];exact h.aL⟩
  ·have:=h.go a j ha
   revert this
   cases j.w with
   | call s2 k2=>exact fun e=>e
   | turn s2 k2=>exact fun e=>ED (x:=S.z.x) (x':={ S.z.x with f:={ S.z.x.f with busy:=S.z.x.f.busy+1 } }) (uC.same rfl) e
   | dL s2 k2 =>
     show za s2 S.z.p->za s2 S.z.p.take.1
     unfold za;split
     ·exact fun e=>by rw [t4];exact e
     ·exact id
  ·show S.z.x.f.busy+1=Jr ((S.aL.set i _).map _)
   rw [hsum,<- hb]
   show _=_ - (k.holds.length:Int)+((k.holds++[_]).length:Int)
   rw [h2];simp
 ·obtain rfl:s=.thn (.ai .jy) .takes:=h1
  have h2:k.holds.length=1:=h2;refine ⟨fun a j ha=>?_,h.ins,h.rg,h.who,?_,h.own,by show 1<=(S.aL.set i _).length;rw [WV];exact h.aL⟩
  ·have:=h.go a j ha
   revert this
   cases j.w with
   | call s2 k2=>exact fun e=>e
   | turn s2 k2=>exact fun e=>ED (x:=S.z.x) (x':={ S.z.x with f:={ S.z.x.f with busy:=Z2 S.z.x.f.busy } }) (uC.same rfl) e
   | dL s2 k2=>exact fun e=>e
  show Z2 S.z.x.f.busy=Jr ((S.aL.set i _).map _)
  rw [hsum,<- hb]
  show _=_ - (k.holds.length:Int)+(([]:List Xm).length:Int)
  unfold Z2;rw [if_neg (by omega),h2];simp
theorem q24 (hn:dV N S) (h:qz S) {t:Th} (ht:t.here S) (hN:N<999998) (hm:t.may S=true):qz (t.step S):=by
 cases t with
 | eH a =>
   have ha:=Xj ht;have hm:(S.ah a).w.may S.z=true:=hm;have hd:=Zi hm;cases hw:(S.ah a).w with
   | call s k=>exact qxg hn h ha hw (by rw [hw] at hd;exact hd) _
   | turn s k=>exact qxh hn h ha hw hm _
   | dL s k=>exact q2b hn h ha hw hm _
 | fQ i=>exact q2c hn h hN (Jp ht)
end
end
end Go.Proofs.YtcneeepdclgdcaaGreat
