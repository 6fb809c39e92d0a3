import Derived.Test.YtikpbibeagbccaaGreatSV42
import Derived.Test.YtikpbibeagbccaaGreatPlayRoundsM1
set_option maxRecDepth 100000
set_option maxHeartbeats 4000000
namespace Go.Proofs.YtikpbibeagbccaaGreat
set_option linter.unusedVariables false
set_option linter.unusedSimpArgs false
open Go.Proofs.Tryz
section
open Go.RowKit Go.Shelf Go.ChangeShapes
theorem Zl.tr_le {N:Nat} {L:Lay} {pb sb:Nat} {P:PlS} {g:List Blk} (h:Zl N L pb sb P g) (hN:N≤1000000000):P.S.z.x.tr.length≤1000000000:=by
 obtain ⟨mb,gS,gM,hi,_⟩:=h;exact Go.Proofs.YtikpbibeagbccaaGreat.tr_le hi.sv hN
theorem q0m (P:PlS):∀ t∈P.S.mays,t<P.thr:=by
 intro t ht;obtain ⟨u,hu,rfl⟩:=List.mem_map.1 ht;have h1:=qtd (List.mem_filter.1 hu).1;unfold PlS.thr;omega
theorem PlS.rounds_add:∀ (a b:Nat) (P:PlS),PlS.rounds b (PlS.rounds a P)=PlS.rounds (a+b) P
 | 0,b,P=>by rw [Nat.zero_add];rfl
 | a+1,b,P=>by rw [show a+1+b=(a+b)+1 by omega];exact PlS.rounds_add a b P.round
theorem qi0 (m:Nat) (h:m≤255):Ent.ok ⟨4,m,0,0,0,0⟩=true:=by
 unfold Ent.ok;simp
 omega
theorem q0k (m:Nat) (h:m≤255):Ent.ok ⟨3,m,0,0,0,0⟩=true:=by
 unfold Ent.ok;simp
 omega
theorem playRounds_law (p q:Int) (hp:0≤p∧p≤255) (hq:0≤q∧q≤255) (ua:Option Addr) (ca:Nat) (A:List Int) (pn pm:Int) (hn:0≤pn∧pn≤255) (hm:0≤pm∧pm≤255) (w:World) (ha:qi2 w ua ca A) :
 Calls prog 7 #[.int .u8 p,.int .u8 q,.slice ua A.length ca,.int .u8 pn,.int .u8 pm] w fun e w'=>e=.returned (.bool true)∧Below w.heap.size w w':=by
 have hA9:A.length≤9223372036854775807:=Nat.le_trans ha.le ha.max;have HT:=Vh (TG.ofW (w:=w));obtain ⟨la,hla⟩:∃ la,A.length=la:=⟨_,rfl⟩;have HL:=Vh hla;have hca9:=ha.max;have HA:=Vh ha;unfold maxLen at hca9;rw [hla] at hA9 ⊢;clear hla ha;by_cases hbig:900<la
 ·clear hp hq hn hm HA
  go_enter func7,ntmps7
  go_wp2_with fail
  refine Qa.run (qfv) (HT.out) [] ?_
  rintro e w1 gs ⟨rfl,rfl⟩ HT;simp only [PU] at HT;go_wp2
  go_ret
  exact ⟨rfl,HT.out.bel⟩
 have HCH:=Vh (show Xq A.length≤150 by rw [HL.out];unfold Xq;omega);obtain ⟨i,ei,hi⟩:∃ i:Nat,pn % 20=(i:Int)∧i<20:=⟨(pn % 20).toNat,by omega,by omega⟩;obtain ⟨k,ek,hk⟩:∃ k:Nat,pm % 20=(k:Int)∧k<20:=⟨(pm % 20).toNat,by omega,by omega⟩;have HPL:=Vh (qh6 p q (by omega) (by omega));have HNW:=Vh (show Qa prog 34 #[.agg (Yp p q).cells] [] fun e gs=>∃ L pb sb g,e=.returned (.tuple #[Qb pb,.int .i64 0])∧Zl 0 L pb sb (pl0 (Yp p q)) g∧gs=[g] from qws _ (qch p q));have HTH:=Vh (qly p q);generalize Yp p q=c at HPL HNW HTH;obtain ⟨sh,cap,ring,room,wk,cli⟩:=c;simp only [Cfg.cells] at HPL HNW;generalize pl0 _=P0 at HNW HTH;obtain ⟨P1,hP1⟩:∃ P1,P0.runE (qat A (Xq A.length))=P1:=⟨_,rfl⟩;have HRN:=Vh hP1;have HTH1:=Vh (show P1.thr≤9 by rw [← hP1,qi1];exact HTH.out);clear hP1;obtain ⟨hp0,hp1⟩:=hp;obtain ⟨hq0,hq1⟩:=hq;obtain ⟨hn0,hn1⟩:=hn;obtain ⟨hm0,hm1⟩:=hm;go_enter func7,ntmps7
 go_wp2_with fail
 refine Qa.run (qfv) (HT.out) [] ?_
 rintro e w1 gs ⟨rfl,rfl⟩ HT;simp only [PU] at HT;go_wp2_with fail
 refine Qa.run (HPL.out) (HT.out) [] ?_
 rintro e w1 gs ⟨rfl,rfl⟩ HT;simp only [PU] at HT;go_wp2_with fail
 refine Qa.run (HNW.out) (HT.out.alloc (k:=w1.heap.size) rfl 28 #[.int .i64 sh,.int .i64 cap,.int .i64 ring,.int .i64 room,.int .i64 wk,.int .i64 cli]) [] ?_
 rintro e w1 gs ⟨L1,pb1,sb1,g1,rfl,hp1',rfl⟩ HT;simp only [PU] at HT;have HP1:=Vh hp1';clear hp1';obtain ⟨b0,b1,b2,b3,b4,b5⟩:=Ce6 (HT.out.cell 0 0 rfl) 0 1 2 3 4 5;simp only [GE4] at b0 b1 b2 b3 b4 b5;have ltb:=HT.out.lt 0 0 rfl;simp only [] at ltb;go_wp2_with fail
 refine Qa.run (HNW.out) (HT.out) [] ?_
 rintro e w1 gs ⟨L2,pb2,sb2,g2,rfl,hp2,rfl⟩ HT;simp only [PU] at HT;have HP2:=Vh hp2;clear hp2 b0 b1 b2 b3 b4 b5 ltb;obtain ⟨b0,b1,b2,b3,b4,b5⟩:=Ce6 (HT.out.cell 0 0 rfl) 0 1 2 3 4 5;simp only [GE4] at b0 b1 b2 b3 b4 b5;have ltb:=HT.out.lt 0 0 rfl;simp only [] at ltb;go_wp2_with fail
 refine Qa.run (HNW.out) (HT.out) [] ?_
 rintro e w1 gs ⟨L3,pb3,sb3,g3,rfl,hp3,rfl⟩ HT;simp only [PU] at HT;have HP3:=Vh hp3;clear hp3 b0 b1 b2 b3 b4 b5 ltb;go_wp2_with fail
 have hrn:=J6 (qnj HP1.out (T:=9) HTH.out (by decide) (HT.out.pick [1] rfl).has (HA.out.arg.off HT.out (fun p hp=>List.mem_flatten.2 ⟨g1,by simp,hp⟩)) (by rw [HL.out];omega) HA.out.le hca9 (by have:=HCH.out;omega)) HT.out [1] rfl rfl;rw [HRN.out,HL.out] at hrn;refine hrn.mono ?_
 rintro e w2 ⟨gs,⟨g1,rfl,hp1,rfl⟩,Ta⟩;simp only [PU] at Ta;have HT:=Vh Ta;have HP1:=Vh (show Zl 345600 L1 pb1 sb1 P1 g1 from hp1.mono (by have:=HCH.out;rw [HL.out] at this;omega));clear hrn hp1 Ta;go_wp2_with fail
 have hrn:=J6 (qnj HP2.out (T:=9) HTH.out (by decide) (HT.out.pick [2] rfl).has (HA.out.arg.off HT.out (fun p hp=>List.mem_flatten.2 ⟨g2,by simp,hp⟩)) (by rw [HL.out];omega) HA.out.le hca9 (by have:=HCH.out;omega)) HT.out [2] rfl rfl;rw [HRN.out,HL.out] at hrn;refine hrn.mono ?_
 rintro e w2 ⟨gs,⟨g2,rfl,hp2,rfl⟩,Ta⟩;simp only [PU] at Ta;have HT:=Vh Ta;have HP2:=Vh (show Zl 345600 L2 pb2 sb2 P1 g2 from hp2.mono (by have:=HCH.out;rw [HL.out] at this;omega));clear hrn hp2 Ta;go_wp2_with fail
 have hrn:=J6 (qnj HP3.out (T:=9) HTH.out (by decide) (HT.out.pick [3] rfl).has (HA.out.arg.off HT.out (fun p hp=>List.mem_flatten.2 ⟨g3,by simp,hp⟩)) (by rw [HL.out];omega) HA.out.le hca9 (by have:=HCH.out;omega)) HT.out [3] rfl rfl;rw [HRN.out,HL.out] at hrn;refine hrn.mono ?_
 rintro e w2 ⟨gs,⟨g3,rfl,hp3,rfl⟩,Ta⟩;simp only [PU] at Ta;have HT:=Vh Ta;have HP3:=Vh (show Zl 345600 L3 pb3 sb3 P1 g3 from hp3.mono (by have:=HCH.out;rw [HL.out] at this;omega));clear hrn hp3 Ta;have HT:=Vh (HT.out.pick [1,2,3] rfl);have HDX:=Vh (show Qa prog 26 #[Qb pb1,.agg #[.int .i64 4,.int .i64 i,.int .i64 0,.int .u64 0,.int .u64 0,.int .u64 0]] [g1] fun e gs=>∃ g',e=.returned (.tuple #[])∧Zl (345600+i*9) L1 pb1 sb1 (PlS.rounds i P1) g'∧gs=[g'] from zf HP1.out HTH1.out i (by omega) (by omega) 0 0 0 0 (qi0 i (by omega)));have HDY:=Vh (show Qa prog 26 #[Qb pb2,.agg #[.int .i64 4,.int .i64 ((i:Int)+k),.int .i64 0,.int .u64 0,.int .u64 0,.int .u64 0]] [g2] fun e gs=>∃ g',e=.returned (.tuple #[])∧Zl (345600+(i+k)*9) L2 pb2 sb2 (PlS.rounds (i+k) P1) g'∧gs=[g'] from zf HP2.out HTH1.out (i+k) (by omega) (by omega) 0 0 0 0 (qi0 (i+k) (by omega)));go_wp2_with fail
 refine Qa.run (HDX.out) (HT.out) [0] ?_
 rintro e w1 gs ⟨gx,rfl,hpx,rfl⟩ HT;simp only [PU] at HT;have HDX:=Vh (show Qa prog 26 #[Qb pb1,.agg #[.int .i64 4,.int .i64 k,.int .i64 0,.int .u64 0,.int .u64 0,.int .u64 0]] [gx] fun e gs=>∃ g',e=.returned (.tuple #[])∧Zl (345600+i*9+k*9) L1 pb1 sb1 (PlS.rounds k (PlS.rounds i P1)) g'∧gs=[g'] from zf hpx (by rw [q8];exact HTH1.out) k (by omega) (by omega) 0 0 0 0 (qi0 k (by omega)));clear hpx;go_wp2_with fail
 refine Qa.run (HDX.out) (HT.out) [0] ?_
 rintro e w1 gs ⟨gx2,rfl,hpx,rfl⟩ HT;simp only [PU] at HT;go_wp2_with fail
 refine Qa.run (HDY.out) (HT.out) [1] ?_
 rintro e w1 gs ⟨gy,rfl,hpy,rfl⟩ HT;simp only [PU] at HT;have HPX:=Vh (show Zl 400000 L1 pb1 sb1 (PlS.rounds (i+k) P1) gx2 by rw [← PlS.rounds_add];exact hpx.mono (by omega));have HPY:=Vh (show Zl 400000 L2 pb2 sb2 (PlS.rounds (i+k) P1) gy from hpy.mono (by omega));clear hpx hpy HDX HDY HP1 HP2 HRN HCH HNW HPL HA HL HTH;go_wp2_with fail
 have T1:=HT.out
 go_loopw [20] (fun rv wr=>∃ (r:Nat) (gz:List Blk),r≤i+k∧rv=.int .i64 r∧Zl (345600+r*9) L3 pb3 sb3 (PlS.rounds r P1) gz∧TG [] w [gx2,gy,gz] wr) (fun rv _=>i+k+1 - (intOf rv).toNat)
 case atStart=>exact ⟨0,g3,Nat.zero_le _,rfl,HP3.out,T1⟩
 case round =>
  obtain ⟨r,gz,hr,rfl,hpz,T⟩:=hrel;clear T1 HP3;by_cases hlt:r<i+k
  ·have hnx:=PlS.rounds_next r P1
   have hth:(PlS.rounds r P1).thr≤9:=by rw [q8];exact HTH1.out
   generalize PlS.rounds r P1=PK at hnx hth hpz;have HNXT:=Vh hnx;have HML:=Vh (q0m PK);have HMY:=Vh (q3b hpz (by omega));have HSV:=Vh (Zn hpz);have HT:=Vh T;obtain ⟨M,hM⟩:∃ M,PK.S.mays.length=M:=⟨_,rfl⟩;have hMT:M≤9:=by rw [← hM];exact Nat.le_trans (qos PK) hth
   have HMM:=Vh hM;clear hM hnx hpz T;go_wp2_with fail
   refine Qa.run (HSV.out) (HT.out) [2] ?_
   rintro e w1 gs ⟨rfl,rfl⟩ HT;simp only [PU] at HT;go_wp2_with fail
   refine Qa.run (HMY.out) (HT.out) [2] ?_
   rintro e w1 gs ⟨v,gl,gz1,rfl,hrow,hpz,rfl⟩ HT;simp only [PU] at HT;obtain ⟨av,cpl,hv⟩:=Qr.val hrow;subst hv;have HROW:=Vh hrow;have HPZ:=Vh hpz;clear hrow hpz;rw [HMM.out];go_wp2_with fail
   have T1:=HT.out
   go_loopw [22] (fun tv wr2=>∃ (j:Nat) (g2:List Blk),j≤M∧tv=.int .i64 j∧Zl (345600+r*9+j) L3 pb3 sb3 ((PK.S.mays.take j).foldl PlS.step PK) g2∧TG [] w [gx2,gy,g2,gl] wr2) (fun tv _=>M+1 - (intOf tv).toNat)
   case atStart=>exact ⟨0,gz1,Nat.zero_le _,rfl,HPZ.out,T1⟩
   case round =>
    obtain ⟨j,g2,hjM,rfl,hg2,T2⟩:=hrel;clear T1 HPZ;by_cases hlt2:j<M
    ·obtain ⟨t,ht⟩:∃ t,PK.S.mays[j]?=some t:=⟨_,List.getElem?_eq_getElem (by rw [HMM.out];exact hlt2)⟩
     have ht6:t<9:=Nat.lt_of_lt_of_le (HML.out t (List.mem_of_getElem? ht)) hth;obtain ⟨rb,cp,hv,hb⟩:=Jv HROW.out T2 3 rfl (by simp) (k:=j) (x:=.int .i64 (t:Int)) (by unfold qd7;rw [List.getElem?_map,ht];rfl);rw [HMM.out] at hv;obtain ⟨rfl,rfl⟩:av=some ⟨rb,0,none⟩∧cpl=cp:=by cases hv;exact ⟨rfl,rfl⟩
     have HT:=Vh T2;have HST:=Vh (show Qa prog 26 #[Qb pb3,.agg #[.int .i64 3,.int .i64 t,.int .i64 0,.int .u64 0,.int .u64 0,.int .u64 0]] [g2] fun e gs=>∃ g',e=.returned (.tuple #[])∧Zl (345600+r*9+j+1) L3 pb3 sb3 (((PK.S.mays.take j).foldl PlS.step PK).step t) g'∧gs=[g'] from qki hg2 (by omega) t (by omega) 0 0 0 0 (q0k t (by omega)))
     have HNX:=Vh (show (PK.S.mays.take (j+1)).foldl PlS.step PK=((PK.S.mays.take j).foldl PlS.step PK).step t by
      obtain ⟨h1,h2⟩:=List.getElem?_eq_some_iff.1 ht;rw [List.take_succ_eq_append_getElem h1,h2,List.foldl_append]
      rfl)
     clear T2 ht hv hg2;go_wp2_with fail
     refine Qa.run (HST.out) (HT.out) [2] ?_
     rintro e w1 gs ⟨g4,rfl,hg4,rfl⟩ HT;simp only [PU] at HT;rw [← HNX.out] at hg4;have HG4:=Vh hg4;clear hg4 hb;go_wp2
     first
     | (go_roundw
        case rel=>exact ⟨j+1,g4,by omega,by go_num,HG4.out,HT.out⟩
        case measure=>simp [intOf];omega)
     | exact ⟨⟨j+1,g4,by omega,by go_num,HG4.out,HT.out⟩,by simp [intOf];omega⟩
     | ((repeat apply Exists.intro);exact ⟨⟨⟨j+1,g4,by omega,by go_num,HG4.out,HT.out⟩,rfl⟩,by simp [intOf];omega⟩)
    ·obtain rfl:j=M:=by omega
     have hfin:(PK.S.mays.take j).foldl PlS.step PK=PlS.rounds (r+1) P1:=by rw [List.take_of_length_le (Nat.le_of_eq HMM.out),HNXT.out];rfl
     rw [hfin] at hg2;have HG4:=Vh (show Zl (345600+(r+1)*9) L3 pb3 sb3 (PlS.rounds (r+1) P1) g2 from hg2.mono (by omega));have HT:=Vh (T2.pick [0,1,2] rfl);clear T2 hfin hg2;go_wp2
     first
     | (go_roundw
        case rel=>exact ⟨r+1,g2,by omega,by go_num,HG4.out,HT.out⟩
        case measure=>simp [intOf];omega)
     | exact ⟨⟨r+1,g2,by omega,by go_num,HG4.out,HT.out⟩,by simp [intOf];omega⟩
     | ((repeat apply Exists.intro);exact ⟨⟨⟨r+1,g2,by omega,by go_num,HG4.out,HT.out⟩,rfl⟩,by simp [intOf];omega⟩)
  ·obtain rfl:r=i+k:=by omega
   have HT:=Vh T;have HPZ:=Vh (show Zl 400000 L3 pb3 sb3 (PlS.rounds (i+k) P1) gz from hpz.mono (by omega));clear T hpz;generalize PlS.rounds (i+k) P1=Q at HPX HPY HPZ;have htr:=HPX.out.tr_le (by decide);have HS0:=Vh (Zn HPX.out);have HT0:=Vh (qag HPX.out (by decide));go_wp2_with fail
   refine Qa.run (HS0.out) (HT.out) [0] ?_
   rintro e w1 gs ⟨rfl,rfl⟩ HT;simp only [PU] at HT;go_wp2_with fail
   refine Qa.run (HT0.out) (HT.out) [0] ?_
   rintro e w1 gs ⟨va,gva,gvap,rfl,hva,hpp,rfl⟩ HT;simp only [PU] at HT;obtain ⟨ava,cva,hv1⟩:=Qr.val hva;subst hv1;have Hva:=Vh hva;have HPX:=Vh hpp;clear hva hpp HS0 HT0;have HS0:=Vh (Zn HPY.out);have HT0:=Vh (qag HPY.out (by decide));go_wp2_with fail
   refine Qa.run (HS0.out) (HT.out) [1] ?_
   rintro e w1 gs ⟨rfl,rfl⟩ HT;simp only [PU] at HT;go_wp2_with fail
   refine Qa.run (HT0.out) (HT.out) [1] ?_
   rintro e w1 gs ⟨vb,gvb,gvbp,rfl,hvb,hpp,rfl⟩ HT;simp only [PU] at HT;obtain ⟨avb,cvb,hv1⟩:=Qr.val hvb;subst hv1;have Hvb:=Vh hvb;have HPY:=Vh hpp;clear hvb hpp HS0 HT0;go_wp2_with fail
   refine (Qe.use (qhm Hva.out Hvb.out htr) (HT.out) [3,4] rfl rfl).mono ?_
   rintro e w1 ⟨rfl,mq,rfl⟩;have HT:=Vh (HT.out.drewN mq);generalize World.drewN _ _=wq at HT ⊢;have HS0:=Vh (Zn HPY.out);have HT0:=Vh (qag HPY.out (by decide));go_wp2_with fail
   refine Qa.run (HS0.out) (HT.out) [1] ?_
   rintro e w1 gs ⟨rfl,rfl⟩ HT;simp only [PU] at HT;go_wp2_with fail
   refine Qa.run (HT0.out) (HT.out) [1] ?_
   rintro e w1 gs ⟨vc,gvc,gvcp,rfl,hvc,hpp,rfl⟩ HT;simp only [PU] at HT;obtain ⟨avc,cvc,hv1⟩:=Qr.val hvc;subst hv1;have Hvc:=Vh hvc;have HPY:=Vh hpp;clear hvc hpp HS0 HT0;have HS0:=Vh (Zn HPZ.out);have HT0:=Vh (qag HPZ.out (by decide));go_wp2_with fail
   refine Qa.run (HS0.out) (HT.out) [2] ?_
   rintro e w1 gs ⟨rfl,rfl⟩ HT;simp only [PU] at HT;go_wp2_with fail
   refine Qa.run (HT0.out) (HT.out) [2] ?_
   rintro e w1 gs ⟨vd,gvd,gvdp,rfl,hvd,hpp,rfl⟩ HT;simp only [PU] at HT;obtain ⟨avd,cvd,hv1⟩:=Qr.val hvd;subst hv1;have Hvd:=Vh hvd;have HPZ:=Vh hpp;clear hvd hpp HS0 HT0;go_wp2_with fail
   refine (Qe.use (qhm Hvc.out Hvd.out htr) (HT.out) [5,6] rfl rfl).mono ?_
   rintro e w1 ⟨rfl,mq,rfl⟩;have HT:=Vh (HT.out.drewN mq);generalize World.drewN _ _=wq at HT ⊢;have HSX:=Vh (qax HPX.out);have HSY:=Vh (qax HPY.out);have HSZ:=Vh (qax HPZ.out);have HLY:=Vh (qb3 HPY.out);have HLZ:=Vh (qb3 HPZ.out);go_wp2_with fail
   refine Qa.run (HSX.out) (HT.out) [0] ?_
   rintro e w1 gs ⟨rfl,rfl⟩ HT;simp only [PU] at HT;go_wp2_with fail
   refine Qa.run (HSY.out) (HT.out) [1] ?_
   rintro e w1 gs ⟨rfl,rfl⟩ HT;simp only [PU] at HT;go_wp2_with fail
   refine Qa.run (HSY.out) (HT.out) [1] ?_
   rintro e w1 gs ⟨rfl,rfl⟩ HT;simp only [PU] at HT;go_wp2_with fail
   refine Qa.run (HSZ.out) (HT.out) [2] ?_
   rintro e w1 gs ⟨rfl,rfl⟩ HT;simp only [PU] at HT;go_wp2_with fail
   refine Qa.run (HLY.out) (HT.out) [1] ?_
   rintro e w1 gs ⟨rfl,rfl⟩ HT;simp only [PU] at HT;go_wp2_with fail
   refine Qa.run (HLZ.out) (HT.out) [2] ?_
   rintro e w1 gs ⟨rfl,rfl⟩ HT;simp only [PU] at HT;go_wp2
   go_ret
   exact ⟨rfl,(HT.out.pick [] rfl).bel⟩
end
end Go.Proofs.YtikpbibeagbccaaGreat
