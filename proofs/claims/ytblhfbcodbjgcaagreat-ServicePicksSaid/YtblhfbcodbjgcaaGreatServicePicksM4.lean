import Derived.Test.YtblhfbcodbjgcaaGreatServicePicksM3
import Derived.Test.YtblhfbcodbjgcaaGreatServicePicksM2
namespace Go.Proofs.YtblhfbcodbjgcaaGreat
set_option linter.unusedVariables false
set_option linter.unusedSimpArgs false
section
open Go.RowKit Go.Shelf
set_option maxRecDepth 100000 in
theorem great20_no (sa:Option Addr) (n cap:Nat) (h:n≤400):DoesG Tryz.prog 59 #[.slice sa n cap] [] fun e gs=>e=.returned (.int .i64 0)∧gs=[]:=by
 intro w hw
 have T0:=TG.refl hw
 have HT:=Lib.hid T0
 clear hw T0
 go_enter Tryz.func59,Tryz.ntmps59
 go_wp2
 go_ret
 exact ⟨_,⟨rfl,rfl⟩,HT.out⟩
set_option maxRecDepth 100000 in
theorem great20_yes (sa:Option Addr) (n cap:Nat) (h:400<n):DoesG Tryz.prog 59 #[.slice sa n cap] [] fun e gs=>e=.returned (.int .i64 1)∧gs=[]:=by
 intro w hw
 have T0:=TG.refl hw
 have HT:=Lib.hid T0
 clear hw T0
 go_enter Tryz.func59,Tryz.ntmps59
 go_wp2
 go_ret
 exact ⟨_,⟨rfl,rfl⟩,HT.out⟩
theorem TG.oldCell {H:GH} {w w':World} (T:TG [] w H w') {b:Nat} (hb:b<w.heap.size) (o:Nat):w'.cell? ⟨b,o,none⟩=w.cell? ⟨b,o,none⟩:=T.old (p:=⟨b,o,none⟩) hb
theorem ActsAt.at {w:World} {sa:Option Addr} {es:List ActV} (h:ActsAt w sa es) {k:Nat} (hk:k<es.length):∃ b off e,sa=some ⟨b,off,none⟩∧b<w.heap.size∧es[k]?=some e∧∀ {H:GH} {w':World},TG [] w H w' →
 w'.cell? ⟨b,off+k*6,none⟩=some (.int .i64 e.kind)∧w'.cell? ⟨b,off+k*6+1,none⟩=some (.int .i64 e.n)∧w'.cell? ⟨b,off+k*6+2,none⟩=some (.int .i64 e.c.kind)∧w'.cell? ⟨b,off+k*6+3,none⟩=some (.int .u64 e.c.id)∧w'.cell? ⟨b,off+k*6+4,none⟩=some (.int .u64 e.c.dl)∧w'.cell? ⟨b,off+k*6+5,none⟩=some (.int .u64 e.c.per):=by
 rcases h with rfl | ⟨b,off,rfl,hb,hc⟩
 ·simp at hk
 ·refine ⟨b,off,es.getD k ActV.zero,rfl,hb,by rw [List.getD_eq_getElem?_getD,List.getElem?_eq_getElem hk];rfl,fun T=>?_⟩
  have q:=fun j (hj:j<6)=>(T.oldCell hb (off+(k*6+j))).trans (hc k j hk hj)
  simp only [← Nat.add_assoc] at q
  exact ⟨q 0 (by omega),q 1 (by omega),q 2 (by omega),q 3 (by omega),q 4 (by omega),q 5 (by omega)⟩
theorem mays_le {N:Nat} {L:Lay} {sb:Nat} {B:SvS} {g:List Blk} (h:isB N L sb B g):B.mays.length≤2000:=by
 obtain ⟨S,rfl,hn,_⟩:=h
 rw [bare_mays]
 exact Nat.le_trans (by unfold SvS.mays;rw [List.length_map];exact List.length_filter_le _ _) (ths_len hn)
theorem tr_le {N:Nat} {L:Lay} {sb:Nat} {B:SvS} {g:List Blk} (h:isB N L sb B g) (hN:N≤1000000000):B.z.x.tr.length≤1000000000:=by
 obtain ⟨S,rfl,hn,_⟩:=h
 exact Nat.le_trans hn.glo.zn.core.tr hN
theorem lg_le {N:Nat} {L:Lay} {sb:Nat} {B:SvS} {g:List Blk} (h:isB N L sb B g) (hN:N≤1000000000):B.z.lg.length≤1000000000:=by
 obtain ⟨S,rfl,hn,_⟩:=h
 exact Nat.le_trans hn.glo.zn.lg hN
set_option maxRecDepth 100000 in
set_option maxHeartbeats 4000000 in
theorem servicePicks_law (a b:Int) (ha:0≤a∧a≤255) (hb:0≤b∧b≤255) (sa:Option Addr) (cap:Nat) (es:List ActV) (w:World) (h:ActsAt w sa es) (h9:es.length≤9223372036854775807) (hw:∀ z∈es,z.c.wf) :
 Calls Tryz.prog 8 #[.int .u8 a,.int .u8 b,.slice sa es.length cap] w fun e w'=>e=.returned (.bool true)∧Below w.heap.size w w':=by
 by_cases hbig:400<es.length
 ·have HG:=Lib.hid (great20_yes sa es.length cap hbig)
  have HT:=Lib.hid (TG.ofW (w:=w))
  clear h hw
  go_enter Tryz.func8,Tryz.ntmps8
  go_wp2_with fail
  refine (DoesG.use (alive20) (HT.out) [] rfl rfl).mono ?_
  rintro e w1 ⟨gs,⟨rfl,rfl⟩,Ta⟩
  simp only [PU] at Ta
  have HT:=Lib.hid Ta
  clear Ta
  go_wp2_with fail
  refine (DoesG.use (HG.out) (HT.out) [] rfl rfl).mono ?_
  rintro e w1 ⟨gs,⟨rfl,rfl⟩,Ta⟩
  simp only [PU] at Ta
  have HT:=Lib.hid Ta
  clear Ta
  go_wp2
  go_ret
  exact ⟨rfl,HT.out.bel⟩
 ·have HG:=Lib.hid (great20_no sa es.length cap (by omega))
  have HPL:=Lib.hid (plain20 a b (by omega) (by omega))
  have HPY:=Lib.hid (play20 (plainC a b) (plainC_ok a b))
  have HA:=Lib.hid h
  have HW:=Lib.hid hw
  have HT:=Lib.hid (TG.ofW (w:=w))
  obtain ⟨n,hn⟩:∃ n,es.length=n:=⟨_,rfl⟩
  have hn4:n≤400:=by omega
  rw [hn] at HG ⊢
  have HN:=Lib.hid hn
  clear h hw hn hbig h9
  go_enter Tryz.func8,Tryz.ntmps8
  go_wp2_with fail
  refine (DoesG.use (alive20) (HT.out) [] rfl rfl).mono ?_
  rintro e w1 ⟨gs,⟨rfl,rfl⟩,Ta⟩
  simp only [PU] at Ta
  have HT:=Lib.hid Ta
  clear Ta
  go_wp2_with fail
  refine (DoesG.use (HG.out) (HT.out) [] rfl rfl).mono ?_
  rintro e w1 ⟨gs,⟨rfl,rfl⟩,Ta⟩
  simp only [PU] at Ta
  have HT:=Lib.hid Ta
  clear Ta
  go_wp2_with fail
  refine (DoesG.use (HPL.out) (HT.out) [] rfl rfl).mono ?_
  rintro e w1 ⟨gs,⟨rfl,rfl⟩,Ta⟩
  simp only [PU] at Ta
  have HT:=Lib.hid Ta
  clear Ta
  go_wp2_with fail
  refine (DoesG.use (HPY.out) (HT.out) [] rfl rfl).mono ?_
  rintro e w1 ⟨gs,⟨La,pa,ga,rfl,hba,rfl⟩,Ta⟩
  simp only [PU] at Ta
  have HT:=Lib.hid Ta
  clear Ta
  go_wp2_with fail
  refine (DoesG.use (HPL.out) (HT.out) [] rfl rfl).mono ?_
  rintro e w1 ⟨gs,⟨rfl,rfl⟩,Ta⟩
  simp only [PU] at Ta
  have HT:=Lib.hid Ta
  clear Ta
  go_wp2_with fail
  refine (DoesG.use (HPY.out) (HT.out) [] rfl rfl).mono ?_
  rintro e w1 ⟨gs,⟨Lb,pb,gb,rfl,hbb,rfl⟩,Ta⟩
  simp only [PU] at Ta
  have HT:=Lib.hid Ta
  clear Ta
  have HB0:=Lib.hid (And.intro hba hbb)
  clear hba hbb
  go_wp2_with fail
  have T1:=HT.out
  go_loopw [9] (fun i wr=>∃ (k:Nat) (B:SvS) (ga gb:List Blk),k≤n∧i=.int .i64 k∧isB k La pa B ga∧isB k Lb pb B gb∧TG [] w [ga,gb] wr) (fun i _=>n+1 - (intOf i).toNat)
  case atStart=>exact ⟨0,_,ga,gb,Nat.zero_le _,rfl,HB0.out.1,HB0.out.2,T1⟩
  case round =>
   obtain ⟨k,B,ga,gb,hk,rfl,hba,hbb,T⟩:=hrel
   clear T1 HB0
   by_cases hlt:k<n
   ·obtain ⟨bs,off,e,rfl,hbs,hek,hcells⟩:=HA.out.at (k:=k) (by rw [HN.out];exact hlt)
    have hcw:=HW.out e (List.mem_of_getElem? hek)
    obtain ⟨c0,c1,c2,c3,c4,c5⟩:=hcells T
    have hbs2:bs<wr.heap.size:=Nat.lt_of_lt_of_le hbs T.bel.size
    obtain ⟨kd,x,kc,id,dl,per⟩:=e
    simp only at c0 c1 c2 c3 c4 c5 hcw
    have HT:=Lib.hid (T.alloc (k:=wr.heap.size) rfl 97 #[.int .i64 kd,.int .i64 x,.int .i64 kc,.int .u64 id,.int .u64 dl,.int .u64 per])
    have HBA:=Lib.hid hba
    have HBB:=Lib.hid hbb
    have HCW:=Lib.hid hcw
    clear T hba hbb hek hcells hcw
    by_cases h0:kd=0
    ·subst h0
     have HCA:=Lib.hid (bCall HBA.out (by omega) x ⟨kc,id,dl,per⟩ HCW.out)
     have HCB:=Lib.hid (bCall HBB.out (by omega) x ⟨kc,id,dl,per⟩ HCW.out)
     simp only [CallC.cells] at HCA HCB
     go_wp2_with fail
     refine (DoesG.use (HCA.out) (HT.out) [0] rfl rfl).mono ?_
     rintro e w1 ⟨gs,⟨ga1,rfl,hba1,rfl⟩,Ta⟩
     simp only [PU] at Ta
     have HT:=Lib.hid Ta
     clear Ta
     have d0:=HT.out.cell 2 0 rfl 0
     have d1:=HT.out.cell 2 0 rfl 1
     have d2:=HT.out.cell 2 0 rfl 2
     have d3:=HT.out.cell 2 0 rfl 3
     have d4:=HT.out.cell 2 0 rfl 4
     have d5:=HT.out.cell 2 0 rfl 5
     simp only [GE4] at d0 d1 d2 d3 d4 d5
     go_wp2_with fail
     refine (DoesG.use (HCB.out) (HT.out) [1] rfl rfl).mono ?_
     rintro e w1 ⟨gs,⟨gb1,rfl,hbb1,rfl⟩,Ta⟩
     simp only [PU] at Ta
     have HT:=Lib.hid Ta
     clear Ta
     have HB1:=Lib.hid (And.intro hba1 hbb1)
     clear hba1 hbb1 c0 c1 c2 c3 c4 c5 d0 d1 d2 d3 d4 d5
     go_wp2
     first
     | (go_roundw
        case rel=>exact ⟨k+1,_,ga1,gb1,by omega,by go_num,HB1.out.1,HB1.out.2,HT.out.pick [0,1] rfl⟩
        case measure=>simp [intOf];omega)
     | exact ⟨⟨k+1,_,ga1,gb1,by omega,by go_num,HB1.out.1,HB1.out.2,HT.out.pick [0,1] rfl⟩,by simp [intOf];omega⟩
     | ((repeat apply Exists.intro);exact ⟨⟨⟨k+1,_,ga1,gb1,by omega,by go_num,HB1.out.1,HB1.out.2,HT.out.pick [0,1] rfl⟩,rfl⟩,by simp [intOf];omega⟩)
    ·have hq:(kd == 0)=false:=beq_eq_false_iff_ne.2 h0
     have HMB:=Lib.hid (bMay HBB.out (by omega))
     have HPA:=Lib.hid (bPick HBA.out (by omega) x)
     go_wp2_with fail
     refine (DoesG.use (HMB.out) (HT.out) [1] rfl rfl).mono ?_
     rintro e w1 ⟨gs,⟨vl,gl,gb1,rfl,hl,hbb1,rfl⟩,Ta⟩
     simp only [PU] at Ta
     have HT:=Lib.hid Ta
     clear Ta
     obtain ⟨av,cpl,hvl⟩:=rowG.val hl
     subst hvl
     have HL:=Lib.hid hl
     have HBB:=Lib.hid hbb1
     clear hl hbb1 c0 c1 c2 c3 c4 c5
     have d0:=HT.out.cell 2 0 rfl 0
     have d1:=HT.out.cell 2 0 rfl 1
     have d2:=HT.out.cell 2 0 rfl 2
     have d3:=HT.out.cell 2 0 rfl 3
     have d4:=HT.out.cell 2 0 rfl 4
     have d5:=HT.out.cell 2 0 rfl 5
     simp only [GE4] at d0 d1 d2 d3 d4 d5
     go_wp2_with fail
     refine (DoesG.use (HPA.out) (HT.out) [0] rfl rfl).mono ?_
     rintro e w1 ⟨gs,⟨ga1,rfl,hba1,rfl⟩,Ta⟩
     simp only [PU] at Ta
     have HT:=Lib.hid Ta
     clear Ta
     clear d0 d1 d2 d3 d4 d5
     have d0:=HT.out.cell 2 0 rfl 0
     have d1:=HT.out.cell 2 0 rfl 1
     have d2:=HT.out.cell 2 0 rfl 2
     have d3:=HT.out.cell 2 0 rfl 3
     have d4:=HT.out.cell 2 0 rfl 4
     have d5:=HT.out.cell 2 0 rfl 5
     simp only [GE4] at d0 d1 d2 d3 d4 d5
     by_cases hm:B.mays.length=0
     ·rw [pick_no hm] at hba1 ⊢
      have HBA:=Lib.hid (show isB (k+1) La pa B ga1 from hba1)
      have hb0:((B.mays.length:Int) == 0)=true:=by rw [hm];rfl
      clear hba1
      go_wp2
      first
      | (go_roundw
         case rel=>exact ⟨k+1,B,ga1,gb1,by omega,by go_num,HBA.out,HBB.out.mono (by omega),HT.out.pick [0,1] rfl⟩
         case measure=>simp [intOf];omega)
      | exact ⟨⟨k+1,B,ga1,gb1,by omega,by go_num,HBA.out,HBB.out.mono (by omega),HT.out.pick [0,1] rfl⟩,by simp [intOf];omega⟩
      | ((repeat apply Exists.intro);exact ⟨⟨⟨k+1,B,ga1,gb1,by omega,by go_num,HBA.out,HBB.out.mono (by omega),HT.out.pick [0,1] rfl⟩,rfl⟩,by simp [intOf];omega⟩)
     ·rw [pick_yes hm] at hba1 ⊢
      have HBA:=Lib.hid (show isB (k+1) La pa (B.stepS (B.pickAt x)).1 ga1 from hba1)
      have HST:=bStep HBB.out (by omega) (B.pickAt x)
      rw [step_may (pickAt_mem hm x)] at HST
      have HST:=Lib.hid HST
      have hb0:((B.mays.length:Int) == 0)=false:=by simpa using hm
      obtain ⟨m,hmx⟩:∃ m:Nat,max 0 x=(m:Int):=⟨(max 0 x).toNat,by omega⟩
      have hn0:0<B.mays.length:=by omega
      have hat:B.mays[m % B.mays.length]?=some (B.pickAt x):=by
       unfold SvS.pickAt
       rw [hmx]
       have:(((m:Int) % (B.mays.length:Int))).toNat=m % B.mays.length:=by omega
       rw [this,List.getD_eq_getElem?_getD,List.getElem?_eq_getElem (Nat.mod_lt _ hn0)]
       rfl
      have hlen:=hba1
      obtain ⟨rb,cp,hv,hcell⟩:=rowV_at HL.out HT.out 3 rfl (by simp) (k:=m % B.mays.length) (x:=.int .i64 (B.pickAt x)) (by unfold intsV;rw [List.getElem?_map,hat];rfl)
      obtain ⟨rfl,rfl⟩:av=some ⟨rb,0,none⟩∧cpl=cp:=by cases hv;exact ⟨rfl,rfl⟩
      have hlt2:m % B.mays.length<B.mays.length:=Nat.mod_lt _ hn0
      obtain ⟨P,hP⟩:∃ P,B.pickAt x=P:=⟨_,rfl⟩
      rw [hP] at hcell HBA HST ⊢
      obtain ⟨M,hM⟩:∃ M,B.mays.length=M:=⟨_,rfl⟩
      rw [hM] at hcell hlt2 hn0 hb0
      have hM9:M≤2000:=by rw [← hM];exact mays_le HBB.out
      clear hba1 hlen hv hat HL hm hP HPA HMB
      rw [hM]
      go_wp2_with fail
      refine (DoesG.use (HST.out) (HT.out) [1] rfl rfl).mono ?_
      rintro e w1 ⟨gs,⟨gb2,rfl,hbb2,rfl⟩,Ta⟩
      simp only [PU] at Ta
      have HT:=Lib.hid Ta
      clear Ta
      have HBB2:=Lib.hid hbb2
      clear hbb2 hcell d0 d1 d2 d3 d4 d5
      go_wp2
      first
      | (go_roundw
         case rel=>exact ⟨k+1,_,ga1,gb2,by omega,by go_num,HBA.out,HBB2.out,HT.out.pick [0,1] rfl⟩
         case measure=>simp [intOf];omega)
      | exact ⟨⟨k+1,_,ga1,gb2,by omega,by go_num,HBA.out,HBB2.out,HT.out.pick [0,1] rfl⟩,by simp [intOf];omega⟩
      | ((repeat apply Exists.intro);exact ⟨⟨⟨k+1,_,ga1,gb2,by omega,by go_num,HBA.out,HBB2.out,HT.out.pick [0,1] rfl⟩,rfl⟩,by simp [intOf];omega⟩)
   ·obtain rfl:k=n:=by omega
    have HT:=Lib.hid T
    have HTA:=Lib.hid (bTrace hba (by omega))
    have HTB:=Lib.hid (bTrace hbb (by omega))
    clear T hba hbb
    go_wp2_with fail
    refine (DoesG.use (HTA.out) (HT.out) [0] rfl rfl).mono ?_
    rintro e w1 ⟨gs,⟨va,gva,ga1,rfl,hva,hba,rfl⟩,Ta⟩
    simp only [PU] at Ta
    have HT:=Lib.hid Ta
    clear Ta
    obtain ⟨av,cv,hv1⟩:=rowG.val hva
    subst hv1
    have HVA:=Lib.hid hva
    have HLA:=Lib.hid (bLog hba (by omega))
    have htl:B.z.x.tr.length≤1000000000:=tr_le hba (by omega)
    have hll:B.z.lg.length≤1000000000:=lg_le hba (by omega)
    clear hva hba
    go_wp2_with fail
    refine (DoesG.use (HTB.out) (HT.out) [1] rfl rfl).mono ?_
    rintro e w1 ⟨gs,⟨vb,gvb,gb1,rfl,hvb,hbb,rfl⟩,Ta⟩
    simp only [PU] at Ta
    have HT:=Lib.hid Ta
    clear Ta
    obtain ⟨bv,dv,hv1⟩:=rowG.val hvb
    subst hv1
    have HVB:=Lib.hid hvb
    have HLB:=Lib.hid (bLog hbb (by omega))
    clear hvb hbb
    go_wp2_with fail
    refine (ReadsG.use (events_r HVA.out HVB.out htl) (HT.out) [2,3] rfl rfl).mono ?_
    rintro e w1 ⟨rfl,mq,rfl⟩
    have HT:=Lib.hid (HT.out.drewN mq)
    generalize World.drewN _ _=wq at HT ⊢
    go_wp2_with fail
    refine (DoesG.use (HLA.out) (HT.out) [0] rfl rfl).mono ?_
    rintro e w1 ⟨gs,⟨vla,gla,ga2,rfl,hla,hba,rfl⟩,Ta⟩
    simp only [PU] at Ta
    have HT:=Lib.hid Ta
    clear Ta
    obtain ⟨av2,cv2,hv1⟩:=rowG.val hla
    subst hv1
    have HLGA:=Lib.hid hla
    clear hla hba
    go_wp2_with fail
    refine (DoesG.use (HLB.out) (HT.out) [1] rfl rfl).mono ?_
    rintro e w1 ⟨gs,⟨vlb,glb,gb2,rfl,hlb,hbb,rfl⟩,Ta⟩
    simp only [PU] at Ta
    have HT:=Lib.hid Ta
    clear Ta
    obtain ⟨bv2,dv2,hv1⟩:=rowG.val hlb
    subst hv1
    have HLGB:=Lib.hid hlb
    clear hlb hbb
    go_wp2_with fail
    refine (ReadsG.use (sameF_r HLGA.out HLGB.out hll) (HT.out) [4,5] rfl rfl).mono ?_
    rintro e w1 ⟨rfl,mq,rfl⟩
    have HT:=Lib.hid (HT.out.drewN mq)
    generalize World.drewN _ _=wq at HT ⊢
    go_wp2
    go_ret
    exact ⟨rfl,(HT.out.pick [] rfl).bel⟩
end
end Go.Proofs.YtblhfbcodbjgcaaGreat
