import Derived.Test.YtikpbibeagbccaaGreatGV37
import Derived.Test.YtikpbibeagbccaaGreatGV26
set_option maxRecDepth 100000
set_option maxHeartbeats 4000000
namespace Go.Proofs.YtikpbibeagbccaaGreat
set_option linter.unusedVariables false
set_option linter.unusedSimpArgs false
open Go.Proofs.Tryz
section
open Go.RowKit Go.Shelf
theorem qot (sa:Option Addr) (n cap:Nat) (h:n≤400):Qa prog 11 #[.slice sa n cap] [] fun e gs=>e=.returned (.int .i64 0)∧gs=[]:=by
 refine GO fun w HT=>?_
 go_enter func11,ntmps11
 go_wp2
 go_ret
 exact ⟨_,⟨rfl,rfl⟩,HT.out⟩
theorem qk9 (sa:Option Addr) (n cap:Nat) (h:400<n):Qa prog 11 #[.slice sa n cap] [] fun e gs=>e=.returned (.int .i64 1)∧gs=[]:=by
 refine GO fun w HT=>?_
 go_enter func11,ntmps11
 go_wp2
 go_ret
 exact ⟨_,⟨rfl,rfl⟩,HT.out⟩
theorem TG.oldCell {H:GH} {w w':World} (T:TG [] w H w') {b:Nat} (hb:b<w.heap.size) (o:Nat):w'.cell? ⟨b,o,none⟩=w.cell? ⟨b,o,none⟩:=T.old (p:=⟨b,o,none⟩) hb
theorem qnb.at {w:World} {sa:Option Addr} {es:List qm7} (h:qnb w sa es) {k:Nat} (hk:k<es.length):∃ b off e,sa=some ⟨b,off,none⟩∧b<w.heap.size∧es[k]?=some e∧∀ {H:GH} {w':World},TG [] w H w' →
 w'.cell? ⟨b,off+k*6,none⟩=some (.int .i64 e.kind)∧w'.cell? ⟨b,off+k*6+1,none⟩=some (.int .i64 e.n)∧w'.cell? ⟨b,off+k*6+2,none⟩=some (.int .i64 e.c.kind)∧w'.cell? ⟨b,off+k*6+3,none⟩=some (.int .u64 e.c.id)∧w'.cell? ⟨b,off+k*6+4,none⟩=some (.int .u64 e.c.dl)∧w'.cell? ⟨b,off+k*6+5,none⟩=some (.int .u64 e.c.per):=by
 rcases h with rfl | ⟨b,off,rfl,hb,hc⟩
 ·simp at hk
 ·refine ⟨b,off,es.getD k qm7.zero,rfl,hb,by rw [List.getD_eq_getElem?_getD,List.getElem?_eq_getElem hk];rfl,fun T=>?_⟩
  have q:=fun j (hj:j<6)=>(T.oldCell hb (off+(k*6+j))).trans (hc k j hk hj)
  simp only [← Nat.add_assoc] at q;exact ⟨q 0 (by omega),q 1 (by omega),q 2 (by omega),q 3 (by omega),q 4 (by omega),q 5 (by omega)⟩
theorem qlv {N:Nat} {L:Lay} {sb:Nat} {B:SvS} {g:List Blk} (h:isB N L sb B g):B.mays.length≤2000:=by
 obtain ⟨S,rfl,hn,_⟩:=h;rw [qbu];exact Nat.le_trans (by unfold SvS.mays;rw [List.length_map];exact List.length_filter_le _ _) (ql9 hn)
theorem serviceGoes_law (a b:Int) (ha:0≤a∧a≤255) (hb:0≤b∧b≤255) (sa:Option Addr) (cap:Nat) (es:List qm7) (w:World) (h:qnb w sa es) (h9:es.length≤9223372036854775807) (hw:∀ z∈es,z.c.wf) :
 Calls prog 3 #[.int .u8 a,.int .u8 b,.slice sa es.length cap] w fun e w'=>e=.returned (.bool true)∧Below w.heap.size w w':=by
 by_cases hbig:400<es.length
 ·have HG:=Vh (qk9 sa es.length cap hbig)
  have HT:=Vh (TG.ofW (w:=w));clear h hw;go_enter func3,ntmps3
  go_wp2_with fail
  refine Qa.run (qrk) (HT.out) [] ?_
  rintro e w1 gs ⟨rfl,rfl⟩ HT;simp only [PU] at HT;go_wp2_with fail
  refine Qa.run (HG.out) (HT.out) [] ?_
  rintro e w1 gs ⟨rfl,rfl⟩ HT;simp only [PU] at HT;go_wp2
  go_ret
  exact ⟨rfl,HT.out.bel⟩
 ·have HG:=Vh (qot sa es.length cap (by omega))
  have HPL:=Vh (qya a b (by omega) (by omega));have HPY:=Vh (q0x (qgr a b) (qjd a b));have HL0:=Vh (q3h (qgr a b) (qjd a b));have HA:=Vh h;have HW:=Vh hw;have HT:=Vh (TG.ofW (w:=w));obtain ⟨n,hn⟩:∃ n,es.length=n:=⟨_,rfl⟩;have hn4:n≤400:=by omega
  rw [hn] at HG ⊢;have HN:=Vh hn;clear h hw hn hbig h9;go_enter func3,ntmps3
  go_wp2_with fail
  refine Qa.run (qrk) (HT.out) [] ?_
  rintro e w1 gs ⟨rfl,rfl⟩ HT;simp only [PU] at HT;go_wp2_with fail
  refine Qa.run (HG.out) (HT.out) [] ?_
  rintro e w1 gs ⟨rfl,rfl⟩ HT;simp only [PU] at HT;go_wp2_with fail
  refine Qa.run (HPL.out) (HT.out) [] ?_
  rintro e w1 gs ⟨rfl,rfl⟩ HT;simp only [PU] at HT;go_wp2_with fail
  refine Qa.run (HPY.out) (HT.out) [] ?_
  rintro e w1 gs ⟨La,pa,ga,rfl,hba,rfl⟩ HT;simp only [PU] at HT;have HB0:=Vh hba;clear hba;go_wp2_with fail
  have T1:=HT.out
  go_loopw [8] (fun i wr=>∃ (k:Nat) (B:SvS) (ga:List Blk),k≤n∧i=.int .i64 k∧isB k La pa B ga∧Yi B∧TG [] w [ga] wr) (fun i _=>n+1 - (intOf i).toNat)
  case atStart=>exact ⟨0,_,ga,Nat.zero_le _,rfl,HB0.out,HL0.out,T1⟩
  case round =>
   obtain ⟨k,B,ga,hk,rfl,hba,hlv,T⟩:=hrel;clear T1 HB0;by_cases hlt:k<n
   ·obtain ⟨bs,off,e,rfl,hbs,hek,hcells⟩:=HA.out.at (k:=k) (by rw [HN.out];exact hlt)
    have hcw:=HW.out e (List.mem_of_getElem? hek);obtain ⟨c0,c1,c2,c3,c4,c5⟩:=hcells T;have hbs2:bs<wr.heap.size:=Nat.lt_of_lt_of_le hbs T.bel.size;obtain ⟨kd,x,kc,id,dl,per⟩:=e;simp only at c0 c1 c2 c3 c4 c5 hcw;have HT:=Vh T;have HBA:=Vh hba;have HCW:=Vh hcw;have HLV:=Vh hlv;have hnB:=qux hba;have HNB:=Vh hnB;clear T hba hek hcw hlv hnB;by_cases h0:kd=0
    ·subst h0
     have HCA:=Vh (qy9 HBA.out (by omega) x ⟨kc,id,dl,per⟩ HCW.out);simp only [Qr.cells] at HCA;have HL1:=Vh (qok HNB.out HLV.out 0 x ⟨kc,id,dl,per⟩);go_wp2_with fail
     refine Qc 11 (by kernel_rfl) (by kernel_rfl) ?_
     simp only [TD4]
     repeat (go_big_quiet_step ((fail)))
     refine wpQuiet_nil (QE fun nq=>?_)
     have HT:=Vh (HT.out.drewN nq);go_wp2_with fail
     refine Qa.run (HCA.out) (HT.out) [0] ?_
     rintro e w1 gs ⟨ga1,rfl,hba1,rfl⟩ HT;simp only [PU] at HT;go_wp2_with fail
     refine ⟨rfl,?_⟩
     clear hcells;have HB1:=Vh hba1;obtain ⟨B1,hB1⟩:∃ B1,(B.callS 0 x ⟨kc,id,dl,per⟩)=B1:=⟨_,rfl⟩;rw [hB1] at HB1 HL1;have hgo:=goes (qux HB1.out) HL1.out;have hI:=qtu HB1.out (by omega)
     have hid:B1.idle=((B1.mays.length:Int) == 0):=by
      rw [hgo];by_cases e:B1.mays.length=0
      ·rw [e];rfl
      ·rw [decide_eq_false e];symm;simpa using e
     rw [hid] at hI;have HI:=Vh hI;have hM9:=qlv HB1.out;clear hgo hI hid hba1 c0 c1 c2 c3 c4 c5;go_wp2_with fail
     refine Qa.run (HI.out) (HT.out) [0] ?_
     rintro e w1 gs ⟨ga2,rfl,hba2,rfl⟩ HT;simp only [PU] at HT;have HM:=Vh (q23 hba2 (by omega));clear hba2;go_wp2_with fail
     refine Qa.run (HM.out) (HT.out) [0] ?_
     rintro e w1 gs ⟨vl,gl,ga3,rfl,hl,hba3,rfl⟩ HT;simp only [PU] at HT;obtain ⟨av,cpl,hvl⟩:=Qu.val hl;subst hvl;have HB3:=Vh hba3;clear hl hba3 HI HM;obtain ⟨M,hM⟩:∃ M,B1.mays.length=M:=⟨_,rfl⟩;rw [hM] at hM9;rw [hM];clear hM;go_wp2
     first
     | (go_roundw
        case rel=>exact ⟨k+1,B1,ga3,by omega,by go_num,HB3.out,HL1.out,HT.out.pick [0] rfl⟩
        case measure=>simp [intOf];omega)
     | exact ⟨⟨k+1,B1,ga3,by omega,by go_num,HB3.out,HL1.out,HT.out.pick [0] rfl⟩,by simp [intOf];omega⟩
     | ((repeat apply Exists.intro);exact ⟨⟨⟨k+1,B1,ga3,by omega,by go_num,HB3.out,HL1.out,HT.out.pick [0] rfl⟩,rfl⟩,by simp [intOf];omega⟩)
    ·have hq:(kd == 0)=false:=beq_eq_false_iff_ne.2 h0
     by_cases h1:kd=1
     ·subst h1
      have HST:=Vh (q2r HBA.out (by omega) x);have HL1:=Vh (qf1 HNB.out HLV.out (by omega) x);go_wp2_with fail
      refine Qa.run (HST.out) (HT.out) [0] ?_
      rintro e w1 gs ⟨ga1,rfl,hba1,rfl⟩ HT;simp only [PU] at HT;clear hcells;have HB1:=Vh hba1;obtain ⟨B1,hB1⟩:∃ B1,(B.stepS x).1=B1:=⟨_,rfl⟩;rw [hB1] at HB1 HL1;have hgo:=goes (qux HB1.out) HL1.out;have hI:=qtu HB1.out (by omega)
      have hid:B1.idle=((B1.mays.length:Int) == 0):=by
       rw [hgo];by_cases e:B1.mays.length=0
       ·rw [e];rfl
       ·rw [decide_eq_false e];symm;simpa using e
      rw [hid] at hI;have HI:=Vh hI;have hM9:=qlv HB1.out;clear hgo hI hid hba1 c0 c1 c2 c3 c4 c5;go_wp2_with fail
      refine Qa.run (HI.out) (HT.out) [0] ?_
      rintro e w1 gs ⟨ga2,rfl,hba2,rfl⟩ HT;simp only [PU] at HT;have HM:=Vh (q23 hba2 (by omega));clear hba2;go_wp2_with fail
      refine Qa.run (HM.out) (HT.out) [0] ?_
      rintro e w1 gs ⟨vl,gl,ga3,rfl,hl,hba3,rfl⟩ HT;simp only [PU] at HT;obtain ⟨av,cpl,hvl⟩:=Qu.val hl;subst hvl;have HB3:=Vh hba3;clear hl hba3 HI HM;obtain ⟨M,hM⟩:∃ M,B1.mays.length=M:=⟨_,rfl⟩;rw [hM] at hM9;rw [hM];clear hM;go_wp2
      first
      | (go_roundw
         case rel=>exact ⟨k+1,B1,ga3,by omega,by go_num,HB3.out,HL1.out,HT.out.pick [0] rfl⟩
         case measure=>simp [intOf];omega)
      | exact ⟨⟨k+1,B1,ga3,by omega,by go_num,HB3.out,HL1.out,HT.out.pick [0] rfl⟩,by simp [intOf];omega⟩
      | ((repeat apply Exists.intro);exact ⟨⟨⟨k+1,B1,ga3,by omega,by go_num,HB3.out,HL1.out,HT.out.pick [0] rfl⟩,rfl⟩,by simp [intOf];omega⟩)
     ·have hq1:(kd == 1)=false:=beq_eq_false_iff_ne.2 h1
      have HPA:=Vh (qzr HBA.out (by omega) x);have HL1:=Vh (qpw HNB.out HLV.out (by omega) x);go_wp2_with fail
      refine Qa.run (HPA.out) (HT.out) [0] ?_
      rintro e w1 gs ⟨ga1,rfl,hba1,rfl⟩ HT;simp only [PU] at HT;clear hcells;have HB1:=Vh hba1;obtain ⟨B1,hB1⟩:∃ B1,(B.pickS x).1=B1:=⟨_,rfl⟩;rw [hB1] at HB1 HL1;have hgo:=goes (qux HB1.out) HL1.out;have hI:=qtu HB1.out (by omega)
      have hid:B1.idle=((B1.mays.length:Int) == 0):=by
       rw [hgo];by_cases e:B1.mays.length=0
       ·rw [e];rfl
       ·rw [decide_eq_false e];symm;simpa using e
      rw [hid] at hI;have HI:=Vh hI;have hM9:=qlv HB1.out;clear hgo hI hid hba1 c0 c1 c2 c3 c4 c5;go_wp2_with fail
      refine Qa.run (HI.out) (HT.out) [0] ?_
      rintro e w1 gs ⟨ga2,rfl,hba2,rfl⟩ HT;simp only [PU] at HT;have HM:=Vh (q23 hba2 (by omega));clear hba2;go_wp2_with fail
      refine Qa.run (HM.out) (HT.out) [0] ?_
      rintro e w1 gs ⟨vl,gl,ga3,rfl,hl,hba3,rfl⟩ HT;simp only [PU] at HT;obtain ⟨av,cpl,hvl⟩:=Qu.val hl;subst hvl;have HB3:=Vh hba3;clear hl hba3 HI HM;obtain ⟨M,hM⟩:∃ M,B1.mays.length=M:=⟨_,rfl⟩;rw [hM] at hM9;rw [hM];clear hM;go_wp2
      first
      | (go_roundw
         case rel=>exact ⟨k+1,B1,ga3,by omega,by go_num,HB3.out,HL1.out,HT.out.pick [0] rfl⟩
         case measure=>simp [intOf];omega)
      | exact ⟨⟨k+1,B1,ga3,by omega,by go_num,HB3.out,HL1.out,HT.out.pick [0] rfl⟩,by simp [intOf];omega⟩
      | ((repeat apply Exists.intro);exact ⟨⟨⟨k+1,B1,ga3,by omega,by go_num,HB3.out,HL1.out,HT.out.pick [0] rfl⟩,rfl⟩,by simp [intOf];omega⟩)
   ·go_wp2
    go_ret
    exact ⟨rfl,(T.pick [] rfl).bel⟩
end
end Go.Proofs.YtikpbibeagbccaaGreat
