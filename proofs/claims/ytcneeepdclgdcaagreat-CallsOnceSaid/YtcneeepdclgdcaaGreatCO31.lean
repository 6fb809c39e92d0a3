import Derived.Test.YtcneeepdclgdcaaGreatCO30
import Derived.Test.YtcneeepdclgdcaaGreatCO24
import Derived.Test.YtcneeepdclgdcaaGreatCO23
import Derived.Test.YtcneeepdclgdcaaGreatCO4
import Derived.Test.YtcneeepdclgdcaaGreatCO29
import Derived.Outline
import Derived.Deep.CutBlock
import Derived.Deep.DeepCutAuto
set_option maxRecDepth 100000
set_option maxHeartbeats 4000000
namespace Go.Proofs.YtcneeepdclgdcaaGreat
set_option linter.unusedVariables false
set_option linter.unusedSimpArgs false
open Go.Proofs.Tryz
section
open Go.RowKit Go.Shelf Go.Maps
def qk8 (w:World) (L:Lay) (cap a N:Nat) (l:Value) (wr:World):Prop :=
 ∃ (m:Nat) (js:List CJ) (x:Qk) (gl gJ gF:List Blk),js.length=m∧OI N js x∧x.slab.recs.length=cap∧x.shs.length=2∧m≤a∧J5 33 1 l m (X9 js) gl∧qd8 L js gJ∧Qh L x gF∧TG [] w [gl,gJ,gF] wr
theorem qbt {js:List CJ} {a:Nat} {j j':CJ} (h:js[a]?=some j) (hk:j'.kb=j.kb):X9 (js.set a j')=X9 js:=by
 unfold X9;rw [List.map_set,hk];exact Ym (by rw [List.getElem?_map,h];rfl)
def Jh (K:CJ→Prop) (js:List CJ) (i:Nat) (m:Lit→Option Value):Prop:=∀ kl v,m kl=some v→∃ (id:Int) (b:Nat) (j:CJ),kl=.int .u64 id∧v=.int .i64 1∧b<i∧js[b]?=some j∧j.k.ok=true∧K j∧j.k.aid=id
theorem Jh.mono {K:CJ→Prop} {js:List CJ} {i:Nat} {m:Lit→Option Value} (h:Jh K js i m):Jh K js (i+1) m:=fun kl v e=>by
 obtain ⟨id,b,j,h1,h2,h3,h4⟩:=h kl v e;exact ⟨id,b,j,h1,h2,by omega,h4⟩
theorem Jh.set {K:CJ→Prop} {js:List CJ} {i:Nat} {m:Lit→Option Value} (h:Jh K js i m) (j':CJ):Jh K (js.set i j') i m:=fun kl v e=>by
 obtain ⟨id,b,j,h1,h2,h3,h4,h5⟩:=h kl v e;exact ⟨id,b,j,h1,h2,h3,Z3 h4 (by omega),h5⟩
theorem Jh.put {K:CJ→Prop} {js:List CJ} {i:Nat} {m:Lit→Option Value} (h:Jh K js i m) {j:CJ} (hj:js[i]?=some j) (ho:j.k.ok=true) (hk:K j):Jh K js (i+1) (qjz m (.int .u64 j.k.aid) (.int .i64 1)):=fun kl v e=>by
 unfold qjz at e;split at e
 ·next he=>cases e;exact ⟨j.k.aid,i,j,he,rfl,by omega,hj,ho,hk,rfl⟩
 ·exact h.mono kl v e
theorem Jh.fresh {K:CJ→Prop} {js:List CJ} {i:Nat} {m:Lit→Option Value} (h:Jh K js i m) (hu:∀ (a b:Nat) (ja jb:CJ),js[a]?=some ja→js[b]?=some jb→ja.k.ok=true→K ja→jb.k.ok=true→K jb→ja.k.aid=jb.k.aid→a=b) {j:CJ} (hj:js[i]?=some j) (ho:j.k.ok=true) (hk:K j):m (.int .u64 j.k.aid)=none:=by
 cases e:m (.int .u64 j.k.aid) with
 | none=>rfl
 | some v =>
   exfalso
   obtain ⟨id,b,jb,h1,h2,h3,h4,h5,h6,h7⟩:=h _ _ e;injection h1 with _ h1
   have:=hu b i jb j h4 hj h5 h6 ho hk (by omega);omega
theorem Jh.le {K:CJ→Prop} {js:List CJ} {i:Nat} {m:Lit→Option Value} (h:Jh K js i m) (kl:Lit):(m kl).getD (.int .i64 0)=.int .i64 0∨(m kl).getD (.int .i64 0)=.int .i64 1:=by
 cases e:m kl with
 | none=>exact .inl rfl
 | some v=>obtain ⟨id,b,j,h1,h2,_⟩:=h _ _ e;exact .inr h2
theorem OI.given {N:Nat} {js:List CJ} {x:Qk} (h:OI N js x):∀ (a b:Nat) (ja jb:CJ),js[a]?=some ja→js[b]?=some jb→ja.k.ok=true→ja.k.kind≤2→jb.k.ok=true→jb.k.kind≤2→ja.k.aid=jb.k.aid→a=b:=fun a b ja jb ha hb h1 h2 h3 h4 h5=>by
 obtain ⟨_,_,q,q1,q2,q3⟩:=(h.job a ja ha).2.2.2.2.1.okq h1 |>.imp id (·.imp id (· h2));obtain ⟨_,_,r,r1,r2,r3⟩:=(h.job b jb hb).2.2.2.2.1.okq h3 |>.imp id (·.imp id (· h4));exact h.giv a b ja jb q r ha hb q1 q2 r1 r2 (by omega)
theorem OI.aid {N:Nat} {js:List CJ} {x:Qk} (h:OI N js x) {a:Nat} {j:CJ} (ha:js[a]?=some j):0≤j.k.aid∧j.k.aid<18446744073709551616:=by
 obtain ⟨w1,_,_,_,o,_⟩:=h.job a j ha;cases hk:j.k.ok with
 | true=>rw [(o.okq hk).2.1];exact w1.id
 | false=>rw [o.nok hk];exact ⟨Int.le_refl _,by decide⟩
theorem OI.inside {N:Nat} {js:List CJ} {x:Qk} (h:OI N js x) (hn:∀ (b:Nat) (j:CJ),b<js.length→js[b]?=some j→j.s=.nil):x.f.inside=0:=by
 rw [h.ins];refine z7 fun j hj=>?_
 obtain ⟨b,hb⟩:=List.mem_iff_getElem?.1 hj;rw [hn b j (List.getElem?_eq_some_iff.1 hb).1 hb];rfl
def qlw (w:World) (L:Lay) (mg md m i N:Nat) (l:Value) (wr:World):Prop :=
 ∃ (js:List CJ) (x:Qk) (gl gJ gF:List Blk) (mG:Lit→Option Value) (zG:Nat) (gG:List Blk) (mD:Lit→Option Value) (zD:Nat) (gD:List Blk),js.length=m∧OI N js x∧J5 33 1 l m (X9 js) gl∧qd8 L js gJ∧Qh L x gF ∧
   (∀ (b:Nat) (j:CJ),b<i→js[b]?=some j→j.s=.nil)∧Jh (fun j=>j.k.kind≤2) js i mG∧Jh (fun j=>j.k.kind=4) js i mD∧qgq prog 36 mg i mG zG gG∧qgq prog 36 md i mD zD gD∧TG [] w [gl,gJ,gF,gG,gD] wr
theorem qq {P:Program} {K T E:TypeId} {b n z:Nat} {m:Lit→Option Value} {g:List Blk} {h H:GH} {w w1:World} {ops:Array Oper} {rest:List Oper} {o:Oper} {a:Act} {Q:Exit→Act→World→Prop}
 (hw:Region.wanted o (yielded ops a.tmps)=true) (mo x:Operand) (hop:o.op=Op.lookup T mo x false) (hK:Keyed P K) (ht:P.underlying T=some (.map K E)) (zero:Value) (hz:∀ w,(zeroValue E).run P w=.ok zero w)
 (TT:TG h w H w1) (i:Nat) (hi:H.getD i []=g) (r:qgq P K b n m z g) (hm:a.eval mo=.map (some b)) (key:Value) (kl:Lit) (hx:a.eval x=key) (hkey:keyOf P K key=some kl)
 (hk:wpList P ops Q rest (a.put o.dst ((m kl).getD zero)) w1):wpList P ops Q (o::rest) a w1:=by
 refine wpList_step fun K' hK'=>?_
 rw [if_pos hw];obtain ⟨D,hown,hv⟩:=TT.ownMap i hi r;obtain ⟨v,ps,hrun,hR⟩:=hown.lookup hK ht (hz w1) (zd:=.held zero) (zp:=[]) rfl hkey
 have e:v=(m kl).getD zero:=by
  rw [(hv.2.2 kl (hK.key hkey)).2 zero] at hR;simp only [qhf,Option.some.injEq,Prod.mk.injEq,DataW.held.injEq] at hR;exact hR.1
 subst e;unfold Oper.wp;simp [execOp,hop,hm,hx,hrun,Result.andThen]
 exact hK' _ _ hk
theorem Tryz.zeroInt (w:World):(zeroValue 3).run prog w=.ok (.int .i64 0) w:=by kernel_rfl
theorem Tryz.keyU64o:Keyed prog 36:=int_keyed underlying36
theorem J1 (n:Int) (h0:0≤n∧n<18446744073709551616):keyOf prog 36 (.int .u64 n)=some (.int .u64 n):=keyOf_int_mk underlying36 (WalkArith.wf_u64 ⟨h0.1,by omega⟩)
theorem qgh (a b c d:Int) (W:World):(Instr.field 38 (.agg #[.int .i64 a,.int .u64 b,.int .u64 c,.int .u64 d]) 0).run prog W=.ok (.int .i64 a) W:=by kernel_rfl
theorem Tryz.infoWork:(prog.info? 33).map (fun i=>(i.zero,i.size,i.bytes))=some (some (.pointer none),1,8):=by kernel_rfl
theorem lawOnce_walk (room ring:Int) (hro:0≤room∧room≤255) (hri:0≤ring∧ring≤255) (ba:Option Addr) (bcap:Nat) (zs:List Q9) (pa:Option Addr) (pcap:Nat) (ps:List Int) (w:World) (hb:qbq w ba zs) (hzw:∀ z∈zs,z.wf) (hp:qji w pa ps) (h9:zs.length≤9223372036854775807) (h8:ps.length≤9223372036854775807) :
 Calls prog 3 #[.int .u8 room,.int .u8 ring,.slice ba zs.length bcap,.slice pa ps.length pcap] w fun e w'=>e=.returned (.bool true)∧Below w.heap.size w w':=by
 have HT:=Vh (TG.ofW (w:=w));have HB:=Vh hb;have HZ:=Vh hzw;have HP:=Vh hp;clear hb hzw hp;by_cases hbig:40<zs.length
 ·have b1:decide (((zs.length:Nat):Int) > 40)=true:=decide_eq_true (by omega)
  go_enter func3,ntmps3
  go_wp2_with fail
  refine Qa.run (qab) (HT.out) [] ?_
  rintro e w1 gs ⟨rfl,rfl⟩ HT;simp only [PU] at HT;go_wp2
  go_ret
  exact ⟨rfl,HT.out.bel⟩
 by_cases hbig2:400<ps.length
 ·go_enter func3,ntmps3
  go_wp2_with fail
  refine Qa.run (qab) (HT.out) [] ?_
  rintro e w1 gs ⟨rfl,rfl⟩ HT;simp only [PU] at HT;go_wp2
  go_ret
  exact ⟨rfl,HT.out.bel⟩
 obtain ⟨nb,hnb⟩:∃ nb,zs.length=nb:=⟨_,rfl⟩;obtain ⟨np,hnp⟩:∃ np,ps.length=np:=⟨_,rfl⟩;have nb40:nb≤40:=by omega
 have np400:np≤400:=by omega
 rw [hnb,hnp];have HNB:=Vh hnb;have HNP:=Vh hnp;clear hbig hbig2 hnb hnp h9 h8;obtain ⟨cp,hcp⟩:∃ cp:Nat,1+room % 8=cp:=Int.eq_ofNat_of_zero_le (by omega);have cp1:1≤cp:=by omega
 have cp8:cp≤8:=by omega
 obtain ⟨rg,hrg⟩:∃ rg:Nat,1+ring % 8=rg:=Int.eq_ofNat_of_zero_le (by omega);have rg1:1≤rg:=by omega
 have rg8:rg≤8:=by omega
 have HCP:=Vh hcp;have HRG:=Vh hrg;clear hcp hrg;have hfine:=qct (room:=cp) (ring:=rg) (by omega) (by omega) (by omega) (by omega);have HOI:=Vh (oi0 hfine (by show ((cp:Int)).toNat≤12;omega));go_enter func3,ntmps3
 go_wp2_with fail
 refine Qa.run (qab) (HT.out) [] ?_
 rintro e w1 gs ⟨rfl,rfl⟩ HT;simp only [PU] at HT;go_wp2_with fail
 rw [HCP.out,HRG.out];go_wp2_with fail
 refine Qa.run (qg1 cp rg) (HT.out) [] ?_
 rintro e w1 gs ⟨rfl,rfl⟩ HT;simp only [PU] at HT;go_wp2_with fail
 refine Qa.run (qg2 (Y2 cp rg) hfine) (HT.out) [] ?_
 rintro e w1 gs ⟨L,gF,gP,gL,rfl,hx,hp,rfl,rfl⟩ HT;simp only [PU] at HT;have HR:=Vh (show qk8 w L cp 0 0 (.slice none 0 0) w1 from ⟨0,[],_,[],[],gF,rfl,HOI.out,by show (List.replicate (cp:Int).toNat Rec.zero).length=cp;rw [List.length_replicate];omega,rfl,Nat.le_refl _,qz _ _,rfl,hx,(HT.out.pick [0] rfl).sum⟩);clear hx hp hfine HOI HT;go_wp2
 go_loopw [11,12,13] (fun l at_ i wr=>∃ k a:Nat,k≤np∧i=.int .i64 k∧at_=.int .i64 a∧a≤nb∧qk8 w L cp a (4*k) l wr) (fun _ _ i _=>np - (intOf i).toNat)
 case atStart=>exact ⟨0,0,Nat.zero_le _,rfl,rfl,Nat.zero_le _,HR.out⟩
 case round =>
  obtain ⟨k,a,hk,rfl,rfl,ha,m,js,x,gl,gJ,gF,hm,hoi,hcap,hsh,hjl,hrow,hon,hx,T⟩:=hrel;obtain ⟨al,acap,rfl⟩:=J5.val hrow;have HT:=Vh T;have HO:=Vh hoi;have HCA:=Vh hcap;have HSH:=Vh hsh;have HRW:=Vh hrow;have HJ:=Vh hon;have HX:=Vh hx;clear T hoi hcap hsh hrow hon hx HR;have HM:=Vh hm;by_cases hlt:k<np
  ·obtain ⟨b,off,p,rfl,hpk,p0,p1,hc⟩:=HP.out.at (i:=k) (by rw [HNP.out];exact hlt)
   have d0:=hc HT.out;clear hpk hm;by_cases hp60:p<60
   ·by_cases hanb:a<nb
    ·obtain ⟨b2,off2,ea,hb2,⟨kd,id,dl,per⟩,hz,hzm,c0,c1,c2,c3⟩:=HB.out.cells (k:=a) (by rw [HNB.out];exact hanb) HT.out
     have hwf:=HZ.out _ hzm;cases ea
     simp only at c0 c1 c2 c3;have hwf2:=hwf;obtain ⟨w1_,w2_,w3_⟩:=hwf2;have htr:=HO.out.core.tr;have HWF:=Vh hwf;clear hz hzm hwf;by_cases hkd:1≤kd∧kd≤5
     ·have HBG:=qcf HX.out (by omega) 0 a ⟨kd,id,dl,per⟩ hkd.1 hkd.2
      have HO1:=Vh (show ∀ kb,OI (4*k+1) (js++[⟨kb,0,Qu kd,Zj 0 a ⟨kd,id,dl,per⟩⟩]) (Yj (Zj 0 a ⟨kd,id,dl,per⟩) { ev0 with kind:=1,id:=id,dl:=dl,per:=per } x) from fun kb=>HO.out.begin 0 a ⟨kd,id,dl,per⟩ kb hkd.1 hkd.2 HWF.out.id HWF.out.dl HWF.out.per _);simp only [Q9.cells] at HBG;have HBG2:=Vh HBG;clear HBG hkd w1_ w2_ w3_ htr;go_wp2_with fail
      refine Qa.run (HBG2.out) (HT.out) [2] ?_
      rintro e w1 gs ⟨kb,g1,gF1,rfl,hcl,hx1,rfl⟩ HT;simp only [PU] at HT;have HCL:=Vh hcl;have HX1:=Vh hx1;clear hcl hx1 c0 c1 c2 c3 d0;go_wp2_with (at_builtin;(with_reducible refine Ji rfl (.tmp 87) (.tmp 89) 32 rfl 33 1 8 _ underlying32 Tryz.infoWork rfl (by decide) ((HT.out).alloc0 _) 0 rfl rfl (HRW.out) rfl ⟨w1.heap.size,0,none⟩ 1 1 [Qd kb] rfl rfl (qc _ _ _) (by simp [Value.oneCell']) (by unfold maxLen;omega) (by omega) ?_);intro v1 w2 gr1 r1 T1;simp only [List.set_cons_zero,List.set_cons_succ] at T1;have T1:=Vh T1;have r1:=Vh r1)
      go_roundw
      case rel=>exact ⟨k+1,a+1,by omega,by go_num,by go_num,by omega,m+1,js++[⟨kb,0,Qu kd,Zj 0 a ⟨kd,id,dl,per⟩⟩],Yj (Zj 0 a ⟨kd,id,dl,per⟩) { ev0 with kind:=1,id:=id,dl:=dl,per:=per } x,gr1,gJ++g1,gF1,by rw [List.length_append,HM.out];rfl,(HO1.out kb).mono (by omega),HCA.out,HSH.out,by omega,by unfold X9;rw [List.map_append];exact r1.out,qcg.snoc HJ.out HCL.out,HX1.out,T1.out.sum⟩
      case measure=>simp [intOf];omega
     ·have HBD:=qb6 HX.out 0 a ⟨kd,id,dl,per⟩ (by show kd<1∨5<kd;omega)
      simp only [Q9.cells] at HBD;have HBD2:=Vh HBD;clear HBD hkd w1_ w2_ w3_ htr;go_wp2_with fail
      refine Qa.run (HBD2.out) (HT.out) [2] ?_
      rintro e w1 gs ⟨rfl,rfl⟩ HT;simp only [PU] at HT;clear c0 c1 c2 c3 d0;go_wp2
      go_roundw
      case rel=>exact ⟨k+1,a+1,by omega,by go_num,by go_num,by omega,m,js,x,gl,gJ,gF,HM.out,HO.out.mono (by omega),HCA.out,HSH.out,by omega,HRW.out,HJ.out,HX.out,HT.out⟩
      case measure=>simp [intOf];omega
    ·have e1:decide (p<60)=true:=decide_eq_true hp60
     have e2:decide (a<nb)=false:=decide_eq_false hanb;obtain ⟨bz,hz2⟩:∃ bz,decide (0<m)=bz:=⟨_,rfl⟩;have hz1:decide ((0:Int)<(m:Int))=bz:=by rw [← hz2];exact decide_eq_decide.2 (by omega)
     have HBZ:=Vh hz2;go_upto_if 93 with fail
     clear hz1 hz2;go_cut [] from 94 to 105 (fun wx=>qk8 w L cp a (4*k+1) (.slice al m acap) wx)
     case first =>
      cases bz with
      | false =>
        go_wp2_with fail
        go_meet
        exact ⟨m,js,x,gl,gJ,gF,HM.out,HO.out.mono (by omega),HCA.out,HSH.out,hjl,HRW.out,HJ.out,HX.out,HT.out⟩
      | true =>
        have h0:0<m:=of_decide_eq_true HBZ.out;have hi0:0≤p % (m:Int):=Int.emod_nonneg _ (by omega);have hi1:p % (m:Int)<m:=Int.emod_lt_of_pos _ (by omega);obtain ⟨i,hi⟩:=Int.eq_ofNat_of_zero_le hi0;have hil:i<js.length:=by rw [HM.out];omega
        obtain ⟨j,hj⟩:∃ j,js[i]?=some j:=⟨_,List.getElem?_eq_getElem hil⟩;obtain ⟨b1,cap1,hv1,hc1⟩:=Z6 HRW.out HT.out 0 rfl (by simp) (k:=i) (x:=Qd j.kb) (by unfold X9;rw [List.getElem?_map,hj];rfl);cases hv1
        have him:(i:Int)<(m:Int):=by omega
        obtain ⟨k1,k2⟩:=HO.out.keep hj;have HST:=Vh (show OI (4*k+1) (js.set i (j.step x)) (j.next x) from HO.out.step hj);have HSL:=Vh (show (js.set i (j.step x)).length=m by rw [List.length_set,HM.out]);have HK:=Vh (show (j.next x).slab.recs.length=cp∧(j.next x).shs.length=2 from ⟨k1.trans HCA.out,k2.trans HSH.out⟩);have HRW1:=Vh (show J5 33 1 (.slice (some ⟨b1,0,none⟩) m acap) m (X9 (js.set i (j.step x))) gl from by rw [qbt (j':=j.step x) hj rfl];exact HRW.out);clear hil k1 k2;by_cases hnil:j.s=.nil
        ·have HS:=Vh (Y5 HJ.out HX.out hj hnil)
         clear hnil hj;go_wp2_with fail
         refine Qa.run (HS.out) (HT.out) [1,2] ?_
         rintro e w1 gs ⟨gJ1,gF1,rfl,hj1,hx1,rfl⟩ HT;simp only [PU] at HT;have HJ1:=Vh hj1;have HX1:=Vh hx1;clear hj1 hx1 hi hi0 hi1 hc1 him h0;go_wp2_with fail
         go_meet
         exact ⟨m,js,x,gl,gJ1,gF1,HM.out,HO.out.mono (by omega),HCA.out,HSH.out,hjl,HRW.out,HJ1.out,HX1.out,HT.out⟩
        ·have HS:=Vh (qis HJ.out HX.out HO.out hj hnil (by omega))
         clear hnil hj;go_wp2_with fail
         refine Qa.run (HS.out) (HT.out) [1,2] ?_
         rintro e w1 gs ⟨gJ1,gF1,rfl,hj1,hx1,rfl⟩ HT;simp only [PU] at HT;have HJ1:=Vh hj1;have HX1:=Vh hx1;clear hj1 hx1 hi hi0 hi1 hc1 him h0;go_wp2_with fail
         go_meet
         exact ⟨m,js.set i (j.step x),j.next x,gl,gJ1,gF1,HSL.out,HST.out,HK.out.1,HK.out.2,hjl,HRW1.out,HJ1.out,HX1.out,HT.out⟩
     case rest =>
      have HT1:=Vh hcut;clear hcut HT HO HCA HSH HRW HJ HX HM hjl d0 HBZ;go_wp2_with fail
      go_loopw [16] (fun q wx=>∃ n:Nat,n≤2∧q=.int .i64 n∧qk8 w L cp a (4*k+1+n) (.slice al m acap) wx) (fun q _=>2 - (intOf q).toNat)
      case atStart=>exact ⟨0,by omega,rfl,HT1.out⟩
      case round =>
       obtain ⟨n,hn,rfl,m',js,x,gl,gJ,gF,hm,hoi,hcap,hsh,hjl,hrow,hon,hx,T⟩:=hrel;have d0:=hc T;obtain ⟨_,_,he⟩:=J5.val hrow;cases he
       have HT:=Vh T;have HO:=Vh hoi;have HCA:=Vh hcap;have HSH:=Vh hsh;have HRW:=Vh hrow;have HJ:=Vh hon;have HX:=Vh hx;have HM:=Vh hm;clear T hoi hcap hsh hrow hon hx HT1 hm;by_cases h250:250<p
       ·exact absurd h250 (by omega)
       ·have hct0:=HO.out.core.slab.c0
        have hct1:=HO.out.core.slab.c1;rw [HCA.out] at hct1;have hct2:x.slab.count≤1+room % 8:=by rw [HCP.out];exact hct1
        have hcn:=zk HX.out;have HSL:=Vh (Qq HX.out);obtain ⟨ct,hct⟩:∃ ct,x.slab.count=ct:=⟨_,rfl⟩;rw [hct] at hcn hct0 hct1 hct2;have HCN:=Vh hcn;clear hct hcn;go_wp2_with fail
        refine (Qi.use (HSL.out) (HT.out) [2] rfl rfl).mono ?_
        rintro e w1 ⟨rfl,mq,rfl⟩;have HT:=Vh (HT.out.drewN mq);generalize World.drewN _ _=wq at HT ⊢;go_wp2_with fail
        refine Qa.run (HCN.out) (HT.out) [2] ?_
        rintro e w1 gs ⟨rfl,gF1,hx1,rfl⟩ HT;simp only [PU] at HT;have HX1:=Vh hx1;clear hx1 d0;go_wp2
        go_roundw
        case rel=>exact ⟨k+1,a,by omega,by go_num,rfl,ha,_,js,x,gl,gJ,gF1,HM.out,HO.out.mono (by omega),HCA.out,HSH.out,hjl,HRW.out,HJ.out,HX1.out,HT.out⟩
        case measure=>simp [intOf];omega
   ·have e1:decide (p<60)=false:=decide_eq_false hp60
    obtain ⟨bz,hz2⟩:∃ bz,decide (0<m)=bz:=⟨_,rfl⟩;have hz1:decide ((0:Int)<(m:Int))=bz:=by rw [← hz2];exact decide_eq_decide.2 (by omega)
    have HBZ:=Vh hz2;go_upto_if 93 with fail
    clear hz1 hz2;go_cut [] from 94 to 105 (fun wx=>qk8 w L cp a (4*k+1) (.slice al m acap) wx)
    case first =>
     cases bz with
     | false =>
       go_wp2_with fail
       go_meet
       exact ⟨m,js,x,gl,gJ,gF,HM.out,HO.out.mono (by omega),HCA.out,HSH.out,hjl,HRW.out,HJ.out,HX.out,HT.out⟩
     | true =>
       have h0:0<m:=of_decide_eq_true HBZ.out;have hi0:0≤p % (m:Int):=Int.emod_nonneg _ (by omega);have hi1:p % (m:Int)<m:=Int.emod_lt_of_pos _ (by omega);obtain ⟨i,hi⟩:=Int.eq_ofNat_of_zero_le hi0;have hil:i<js.length:=by rw [HM.out];omega
       obtain ⟨j,hj⟩:∃ j,js[i]?=some j:=⟨_,List.getElem?_eq_getElem hil⟩;obtain ⟨b1,cap1,hv1,hc1⟩:=Z6 HRW.out HT.out 0 rfl (by simp) (k:=i) (x:=Qd j.kb) (by unfold X9;rw [List.getElem?_map,hj];rfl);cases hv1
       have him:(i:Int)<(m:Int):=by omega
       obtain ⟨k1,k2⟩:=HO.out.keep hj;have HST:=Vh (show OI (4*k+1) (js.set i (j.step x)) (j.next x) from HO.out.step hj);have HSL:=Vh (show (js.set i (j.step x)).length=m by rw [List.length_set,HM.out]);have HK:=Vh (show (j.next x).slab.recs.length=cp∧(j.next x).shs.length=2 from ⟨k1.trans HCA.out,k2.trans HSH.out⟩);have HRW1:=Vh (show J5 33 1 (.slice (some ⟨b1,0,none⟩) m acap) m (X9 (js.set i (j.step x))) gl from by rw [qbt (j':=j.step x) hj rfl];exact HRW.out);clear hil k1 k2;by_cases hnil:j.s=.nil
       ·have HS:=Vh (Y5 HJ.out HX.out hj hnil)
        clear hnil hj;go_wp2_with fail
        refine Qa.run (HS.out) (HT.out) [1,2] ?_
        rintro e w1 gs ⟨gJ1,gF1,rfl,hj1,hx1,rfl⟩ HT;simp only [PU] at HT;have HJ1:=Vh hj1;have HX1:=Vh hx1;clear hj1 hx1 hi hi0 hi1 hc1 him h0;go_wp2_with fail
        go_meet
        exact ⟨m,js,x,gl,gJ1,gF1,HM.out,HO.out.mono (by omega),HCA.out,HSH.out,hjl,HRW.out,HJ1.out,HX1.out,HT.out⟩
       ·have HS:=Vh (qis HJ.out HX.out HO.out hj hnil (by omega))
        clear hnil hj;go_wp2_with fail
        refine Qa.run (HS.out) (HT.out) [1,2] ?_
        rintro e w1 gs ⟨gJ1,gF1,rfl,hj1,hx1,rfl⟩ HT;simp only [PU] at HT;have HJ1:=Vh hj1;have HX1:=Vh hx1;clear hj1 hx1 hi hi0 hi1 hc1 him h0;go_wp2_with fail
        go_meet
        exact ⟨m,js.set i (j.step x),j.next x,gl,gJ1,gF1,HSL.out,HST.out,HK.out.1,HK.out.2,hjl,HRW1.out,HJ1.out,HX1.out,HT.out⟩
    case rest =>
     have HT1:=Vh hcut;clear hcut HT HO HCA HSH HRW HJ HX HM hjl d0 HBZ;go_wp2_with fail
     go_loopw [16] (fun q wx=>∃ n:Nat,n≤2∧q=.int .i64 n∧qk8 w L cp a (4*k+1+n) (.slice al m acap) wx) (fun q _=>2 - (intOf q).toNat)
     case atStart=>exact ⟨0,by omega,rfl,HT1.out⟩
     case round =>
      obtain ⟨n,hn,rfl,m',js,x,gl,gJ,gF,hm,hoi,hcap,hsh,hjl,hrow,hon,hx,T⟩:=hrel;have d0:=hc T;obtain ⟨_,_,he⟩:=J5.val hrow;cases he
      have HT:=Vh T;have HO:=Vh hoi;have HCA:=Vh hcap;have HSH:=Vh hsh;have HRW:=Vh hrow;have HJ:=Vh hon;have HX:=Vh hx;have HM:=Vh hm;clear T hoi hcap hsh hrow hon hx HT1 hm;by_cases h250:250<p
      ·by_cases hn2:n<2
       ·have hnl:n<x.shs.length:=by rw [HSH.out];exact hn2
        obtain ⟨q,hq,hqv⟩:=qlm HX.out hnl;obtain ⟨s,hs⟩:∃ s,x.shs[n]?=some s:=⟨_,List.getElem?_eq_getElem hnl⟩;have hsr:=qbf HX.out (n:Int);rw [hqv] at hsr;have HSR:=Vh hsr;clear hsr;have HPO:=Vh (qkx HX.out hq hs ((HO.out.core.ring s (List.mem_of_getElem? hs)).b (by omega)));have HO1:=Vh (show OI (4*k+1+(n+1)) js { x with shs:=x.shs.set n { s with ring:=(J0 s.ring).1 } } from HO.out.pop hs);have HSH1:=Vh (show ({ x with shs:=x.shs.set n { s with ring:=(J0 s.ring).1 } }:Qk).shs.length=2 from by show (x.shs.set n _).length=2;rw [List.length_set];exact HSH.out);clear hnl hq hqv hs;go_wp2_with fail
        refine (Qi.use (HSR.out) (HT.out) [2] rfl rfl).mono ?_
        rintro e w1 ⟨rfl,mq,rfl⟩;have HT:=Vh (HT.out.drewN mq);generalize World.drewN _ _=wq at HT ⊢;go_wp2_with fail
        refine Qa.run (HPO.out) (HT.out) [2] ?_
        rintro e w1 gs ⟨rfl,gF1,hx1,rfl⟩ HT;simp only [PU] at HT;have HX1:=Vh hx1;clear hx1 d0;go_wp2
        go_roundw
        case rel=>exact ⟨n+1,by omega,by go_num,_,js,_,gl,gJ,gF1,HM.out,HO1.out,HCA.out,HSH1.out,hjl,HRW.out,HJ.out,HX1.out,HT.out⟩
        case measure=>simp [intOf];omega
       ·have hct0:=HO.out.core.slab.c0
        have hct1:=HO.out.core.slab.c1;rw [HCA.out] at hct1;have hct2:x.slab.count≤1+room % 8:=by rw [HCP.out];exact hct1
        have hcn:=zk HX.out;have HSL:=Vh (Qq HX.out);obtain ⟨ct,hct⟩:∃ ct,x.slab.count=ct:=⟨_,rfl⟩;rw [hct] at hcn hct0 hct1 hct2;have HCN:=Vh hcn;clear hct hcn;go_wp2_with fail
        refine (Qi.use (HSL.out) (HT.out) [2] rfl rfl).mono ?_
        rintro e w1 ⟨rfl,mq,rfl⟩;have HT:=Vh (HT.out.drewN mq);generalize World.drewN _ _=wq at HT ⊢;go_wp2_with fail
        refine Qa.run (HCN.out) (HT.out) [2] ?_
        rintro e w1 gs ⟨rfl,gF1,hx1,rfl⟩ HT;simp only [PU] at HT;have HX1:=Vh hx1;clear hx1 d0;go_wp2
        go_roundw
        case rel=>exact ⟨k+1,a,by omega,by go_num,rfl,ha,_,js,x,gl,gJ,gF1,HM.out,HO.out.mono (by omega),HCA.out,HSH.out,hjl,HRW.out,HJ.out,HX1.out,HT.out⟩
        case measure=>simp [intOf];omega
      ·have hct0:=HO.out.core.slab.c0
       have hct1:=HO.out.core.slab.c1;rw [HCA.out] at hct1;have hct2:x.slab.count≤1+room % 8:=by rw [HCP.out];exact hct1
       have hcn:=zk HX.out;have HSL:=Vh (Qq HX.out);obtain ⟨ct,hct⟩:∃ ct,x.slab.count=ct:=⟨_,rfl⟩;rw [hct] at hcn hct0 hct1 hct2;have HCN:=Vh hcn;clear hct hcn;go_wp2_with fail
       refine (Qi.use (HSL.out) (HT.out) [2] rfl rfl).mono ?_
       rintro e w1 ⟨rfl,mq,rfl⟩;have HT:=Vh (HT.out.drewN mq);generalize World.drewN _ _=wq at HT ⊢;go_wp2_with fail
       refine Qa.run (HCN.out) (HT.out) [2] ?_
       rintro e w1 gs ⟨rfl,gF1,hx1,rfl⟩ HT;simp only [PU] at HT;have HX1:=Vh hx1;clear hx1 d0;go_wp2
       go_roundw
       case rel=>exact ⟨k+1,a,by omega,by go_num,rfl,ha,_,js,x,gl,gJ,gF1,HM.out,HO.out.mono (by omega),HCA.out,HSH.out,hjl,HRW.out,HJ.out,HX1.out,HT.out⟩
       case measure=>simp [intOf];omega
  ·obtain rfl:k=np:=by omega
   have HR:=Vh (show ∀ mg md w2,TG [] w [gl,gJ,gF,[(mg,.map #[] 0)],[(md,.map #[] 0)]] w2→qlw w L mg md m 0 2000 (.slice al m acap) w2 from fun mg md w2 T=>⟨js,x,gl,gJ,gF,noK,0,_,noK,0,_,HM.out,HO.out.mono (by omega),HRW.out,HJ.out,HX.out,fun b j hb=>by omega,fun kl v e=>(by cases e),fun kl v e=>(by cases e),qe3 _ _ _,qe3 _ _ _,T⟩);have hm40:m≤40:=by omega
   have hmm:=@run_makeMap prog;have HT2:=Vh ((HT.out.put rfl (.map #[] 0)).put (k:=wr.heap.size+1) (by simp) (.map #[] 0));clear HT HO HCA HSH HRW HJ HX HM hm hjl HB HZ HP;go_wp2_with fail
   have HE:=Vh (HR.out _ _ _ HT2.out);clear HR HT2 hmm;generalize hmg:wr.heap.size=mg at *;generalize hw2:(wr.alloc (.map #[] 0)).alloc (.map #[] 0)=w2 at *;clear hmg hw2
   go_loopw [19] (fun i wr=>∃ q:Nat,q≤m∧i=.int .i64 q∧qlw w L mg (mg+1) m q (2000+3000*q) (.slice al m acap) wr) (fun i _=>m - (intOf i).toNat)
   case atStart=>exact ⟨0,by omega,rfl,HE.out⟩
   case round =>
    obtain ⟨q,hq,rfl,js,x,gl,gJ,gF,mG,zG,gG,mD,zD,gD,hm,hoi,hrow,hon,hx,hnil,hcg,hcd,hmg,hmd,T⟩:=hrel;clear HE;have HT:=Vh T;have HO:=Vh hoi;have HRW:=Vh hrow;have HJ:=Vh hon;have HX:=Vh hx;have HM:=Vh hm;have HNL:=Vh hnil;have HCG:=Vh hcg;have HCD:=Vh hcd;have HMG:=Vh hmg;have HMD:=Vh hmd;clear T hoi hrow hon hx hm hnil hcg hcd hmg hmd;by_cases hlt:q<m
    ·obtain ⟨j,hj⟩:∃ j,js[q]?=some j:=⟨_,List.getElem?_eq_getElem (by rw [HM.out];exact hlt)⟩
     have hj0:=HO.out.job q j hj;have hcb:=qfe j.s j.k x HO.out.cap;have HGJ:=Vh hj;have HJS:=Vh (show js.set q j=js from qg6 hj);have HS0:=Vh (show OI (2000+3000*q) (js.set q j) x∧qd8 L (js.set q j) gJ from by rw [HJS.out];exact ⟨HO.out,HJ.out⟩);have HC0:=Vh hcb.2;clear hj hj0 hcb;go_wp2_with fail
     go_loopw [20] (fun n wr=>∃ (n':Nat) (j':CJ) (x':Qk) (gJ' gF':List Blk),n=.int .i64 n'∧OI (2000+3000*q+n') (js.set q j') x'∧j'.kb=j.kb∧Xp j'.s j'.k x'+n'≤400∧qd8 L (js.set q j') gJ'∧Qh L x' gF'∧TG [] w [gl,gJ',gF',gG,gD] wr) (fun n _=>401 - (intOf n).toNat)
     case atStart=>exact ⟨0,j,x,gJ,gF,rfl,HS0.out.1,rfl,by have:=HC0.out;omega,HS0.out.2,HX.out,HT.out⟩
     case round =>
      obtain ⟨n',j',x',gJ',gF',rfl,hoi,hkb,hco,hon,hx,T⟩:=hrel;have hj':(js.set q j')[q]?=some j':=get_set_same HGJ.out;have hcb:=qfe j'.s j'.k x' hoi.cap;have hn4:n'≤400:=by omega
      obtain ⟨b1,cap1,hv1,hc1⟩:=Z6 HRW.out T 0 rfl (by simp) (k:=q) (x:=Qd j'.kb) (by unfold X9;rw [List.getElem?_map,HGJ.out,hkb];rfl);cases hv1
      have HT:=Vh T;have HO':=Vh hoi;have HJ':=Vh hon;have HX':=Vh hx;have HKB:=Vh hkb;have HCO:=Vh hco;by_cases hnil:j'.s=.nil
      ·have HS:=Vh (Y5 hon hx hj' hnil)
       have HAN:=Vh (show ∀ g,qd8 L (js.set q j') g→_ from fun g hg=>qe2 hg hj' hnil);have HNJ:=Vh hnil;have HGJ':=Vh hj';clear hnil hj' hcb hoi hon hx hkb hco T HS0 HC0 HJS HX HJ HO;go_wp2_with fail
       refine Qa.run (HS.out) (HT.out) [1,2] ?_
       rintro e w1 gs ⟨gJ1,gF1,rfl,hj1,hx1,rfl⟩ HT;simp only [PU] at HT;have HX1:=Vh hx1;have HAN1:=Vh (HAN.out _ hj1);clear hj1 hx1 HAN HS HX' HJ' hc1;obtain ⟨_,_,hv2,hc2⟩:=Z6 HRW.out HT.out 0 rfl (by simp) (k:=q) (x:=Qd j'.kb) (by unfold X9;rw [List.getElem?_map,HGJ.out,HKB.out];rfl);cases hv2
       go_wp2_with fail
       refine Qa.run (HAN1.out) (HT.out) [1] ?_
       rintro e w1 gs ⟨gJ2,rfl,hj2,rfl⟩ HT;simp only [PU] at HT;have HJ2:=Vh hj2;have hok:=(HO'.out.job q j' HGJ'.out).2.2.2.2.1;have haid:=HO'.out.aid HGJ'.out;have HFR:=Vh (show j'.k.ok=true→(j'.k.kind≤2→mG (.int .u64 j'.k.aid)=none)∧(j'.k.kind=4→mD (.int .u64 j'.k.aid)=none) from fun ho=>⟨fun hk=>(HCG.out.set j').fresh HO'.out.given HGJ'.out ho hk,fun hk=>(HCD.out.set j').fresh HO'.out.dead HGJ'.out ho hk⟩);have HPT:=Vh (show j'.k.ok=true→(j'.k.kind≤2→Jh (fun j=>j.k.kind≤2) (js.set q j') (q+1) (qjz mG (.int .u64 j'.k.aid) (.int .i64 1)))∧(j'.k.kind=4→Jh (fun j=>j.k.kind=4) (js.set q j') (q+1) (qjz mD (.int .u64 j'.k.aid) (.int .i64 1))) from fun ho=>⟨fun hk=>(HCG.out.set j').put HGJ'.out ho hk,fun hk=>(HCD.out.set j').put HGJ'.out ho hk⟩);have HER:=Vh (show j'.k.ok=true→j'.k.err=0 from fun ho=>(hok.okq ho).1);have HML:=Vh (show (js.set q j').length=m from by rw [List.length_set];exact HM.out);have HPR:=Vh (show X9 (js.set q j')=X9 js from qbt HGJ.out HKB.out)
       have HNI:=Vh (show ∀ (b:Nat) (jb:CJ),b<q+1→(js.set q j')[b]?=some jb→jb.s=.nil from fun b jb hb he=>by
        rcases Xb he with ⟨_,rfl⟩ | ⟨hne,he⟩
        ·exact HNJ.out
        ·exact HNL.out b jb (by omega) he)
       have HCL:=Vh (show ∀ g,qd8 L (js.set q j') g→_ from fun g hg=>qlt hg HGJ'.out);clear hj2 hok hc2 HAN1;obtain ⟨kd,hkd⟩:∃ kd,j'.k.kind=kd:=⟨_,rfl⟩;obtain ⟨ok,hok⟩:∃ ok,j'.k.ok=ok:=⟨_,rfl⟩;obtain ⟨er,her⟩:∃ er,j'.k.err=er:=⟨_,rfl⟩;obtain ⟨id,hid⟩:∃ id,j'.k.aid=id:=⟨_,rfl⟩;obtain ⟨gn,hgn⟩:∃ gn,j'.k.agen=gn:=⟨_,rfl⟩;simp only [hkd,hok,her,hid] at HFR HPT HER HCL haid;simp only [qfq];rw [her,hok,hid,hgn];clear hkd hok her hid hgn;have HT:=Vh (HT.out.alloc (k:=w1.heap.size) rfl 51 #[.int .i64 er,.bool ok,.int .u64 id,.int .u64 gn,.slice none 0 0]);obtain ⟨e0,e1,e2⟩:=Ce3 (HT.out.cell 5 0 rfl) 0 1 2;simp only [GE4] at e0 e1 e2;cases ok with
       | false =>
         go_wp2
         first
         | (go_roundw
            case rel=>exact ⟨q+1,by omega,by go_num,js.set q j',x',gl,gJ2,gF1,mG,_,_,mD,_,_,HML.out,HO'.out.mono (by omega),by rw [HPR.out];exact HRW.out,HJ2.out,HX1.out,HNI.out,(HCG.out.set j').mono,(HCD.out.set j').mono,Q0 HMG.out (by omega),Q0 HMD.out (by omega),HT.out.pick [0,1,2,3,4] rfl⟩
            case measure=>simp [intOf];omega)
         | exact ⟨⟨q+1,by omega,by go_num,js.set q j',x',gl,gJ2,gF1,mG,_,_,mD,_,_,HML.out,HO'.out.mono (by omega),by rw [HPR.out];exact HRW.out,HJ2.out,HX1.out,HNI.out,(HCG.out.set j').mono,(HCD.out.set j').mono,Q0 HMG.out (by omega),Q0 HMD.out (by omega),HT.out.pick [0,1,2,3,4] rfl⟩,by simp [intOf];omega⟩
         | ((repeat apply Exists.intro);exact ⟨⟨⟨q+1,by omega,by go_num,js.set q j',x',gl,gJ2,gF1,mG,_,_,mD,_,_,HML.out,HO'.out.mono (by omega),by rw [HPR.out];exact HRW.out,HJ2.out,HX1.out,HNI.out,(HCG.out.set j').mono,(HCD.out.set j').mono,Q0 HMG.out (by omega),Q0 HMD.out (by omega),HT.out.pick [0,1,2,3,4] rfl⟩,rfl⟩,by simp [intOf];omega⟩)
       | true =>
         have he0:=HER.out rfl;subst he0;obtain ⟨hf1,hf2⟩:=HFR.out rfl;obtain ⟨hp1,hp2⟩:=HPT.out rfl;have HF1:=Vh hf1;have HF2:=Vh hf2;have HP1:=Vh hp1;have HP2:=Vh hp2;clear hf1 hf2 hp1 hp2 HFR HPT HER;obtain ⟨_,_,hv3,hc3⟩:=Z6 HRW.out HT.out 0 rfl (by simp) (k:=q) (x:=Qd j'.kb) (by unfold X9;rw [List.getElem?_map,HGJ.out,HKB.out];rfl);cases hv3
         go_wp2_with fail
         refine Qa.run (HCL.out _ HJ2.out) (HT.out) [1] ?_
         rintro e w1 gs ⟨gJ3,rfl,hj3,rfl⟩ HT;simp only [PU] at HT;have HJ3:=Vh hj3;have HCL3:=Vh (HCL.out _ hj3);clear hj3 HCL hc3 e0 e1 e2;obtain ⟨e0,e1,e2⟩:=Ce3 (HT.out.cell 5 0 rfl) 0 1 2;simp only [GE4] at e0 e1 e2;obtain ⟨_,_,hv4,hc4⟩:=Z6 HRW.out HT.out 0 rfl (by simp) (k:=q) (x:=Qd j'.kb) (by unfold X9;rw [List.getElem?_map,HGJ.out,HKB.out];rfl);cases hv4
         have hfi:=qgh kd j'.k.cid j'.k.cdl j'.k.cper;by_cases hk2:kd≤2
         ·have hk4:(kd == 4)=false:=beq_eq_false_iff_ne.2 (by omega)
          have HL:=Vh (HF1.out hk2);have HPG:=Vh (HP1.out hk2);go_wp2_with (first | (at_lookup;(with_reducible refine Zs rfl _ _ rfl Tryz.keyU64o underlying48 (.int .i64 0) Tryz.zeroInt HT.out 3 rfl HMG.out rfl (.int .u64 id) (.int .u64 id) rfl (J1 id haid) ?_);rw [HL.out,Option.getD_none]) | (at_mapUpdate;(with_reducible refine Jk rfl _ _ _ rfl Tryz.keyU64o underlying48 HT.out 3 rfl rfl HMG.out (by unfold maxLen;omega) rfl (.int .u64 id) (.int .i64 1) (.int .u64 id) rfl rfl (J1 id haid) ?_);intro w5 gM1 RM1 T6;simp only [List.set_cons_zero,List.set_cons_succ] at T6;have RM:=Vh RM1;clear e0 e1 e2 hc4;have e1:=T6.cell 5 0 rfl 1;simp only [GE4] at e1;obtain ⟨_,_,hv5,hc5⟩:=Z6 HRW.out T6 0 rfl (by simp) (k:=q) (x:=Qd j'.kb) (by unfold X9;rw [List.getElem?_map,HGJ.out,HKB.out];rfl);cases hv5;have HT:=Vh T6;clear T6 RM1))
          refine (Qa.use HCL3.out HT.out [1] rfl rfl).mono ?_
          rintro e w1 ⟨gs,⟨gJ4,rfl,hj4,rfl⟩,Ta⟩;simp only [PU] at Ta;have HT:=Vh Ta;have HJ4:=Vh hj4;clear Ta hj4;go_wp2
          first
          | (go_roundw
             case rel=>exact ⟨q+1,by omega,by go_num,js.set q j',x',gl,gJ4,gF1,_,_,_,mD,_,_,HML.out,HO'.out.mono (by omega),by rw [HPR.out];exact HRW.out,HJ4.out,HX1.out,HNI.out,HPG.out,(HCD.out.set j').mono,RM.out,Q0 HMD.out (by omega),HT.out.pick [0,1,2,3,4] rfl⟩
             case measure=>simp [intOf];omega)
          | exact ⟨⟨q+1,by omega,by go_num,js.set q j',x',gl,gJ4,gF1,_,_,_,mD,_,_,HML.out,HO'.out.mono (by omega),by rw [HPR.out];exact HRW.out,HJ4.out,HX1.out,HNI.out,HPG.out,(HCD.out.set j').mono,RM.out,Q0 HMD.out (by omega),HT.out.pick [0,1,2,3,4] rfl⟩,by simp [intOf];omega⟩
          | ((repeat apply Exists.intro);exact ⟨⟨⟨q+1,by omega,by go_num,js.set q j',x',gl,gJ4,gF1,_,_,_,mD,_,_,HML.out,HO'.out.mono (by omega),by rw [HPR.out];exact HRW.out,HJ4.out,HX1.out,HNI.out,HPG.out,(HCD.out.set j').mono,RM.out,Q0 HMD.out (by omega),HT.out.pick [0,1,2,3,4] rfl⟩,rfl⟩,by simp [intOf];omega⟩)
         ·have hk2':decide (kd≤2)=false:=decide_eq_false hk2
          go_wp2_with fail
          refine Qa.run (HCL3.out) (HT.out) [1] ?_
          rintro e w1 gs ⟨gJ4,rfl,hj4,rfl⟩ HT;simp only [PU] at HT;have HJ4:=Vh hj4;clear hj4 e0 e1 e2 hc4;by_cases hk4:kd=4
          ·have HL:=Vh (HF2.out hk4)
           have HPG:=Vh (HP2.out hk4);subst hk4;obtain ⟨e0,e1,e2⟩:=Ce3 (HT.out.cell 5 0 rfl) 0 1 2;simp only [GE4] at e0 e1 e2;go_wp2_with (first | (at_lookup;(with_reducible refine Zs rfl _ _ rfl Tryz.keyU64o underlying48 (.int .i64 0) Tryz.zeroInt HT.out 4 rfl HMD.out rfl (.int .u64 id) (.int .u64 id) rfl (J1 id haid) ?_);rw [HL.out,Option.getD_none]) | (at_mapUpdate;(with_reducible refine Jk rfl _ _ _ rfl Tryz.keyU64o underlying48 HT.out 4 rfl rfl HMD.out (by unfold maxLen;omega) rfl (.int .u64 id) (.int .i64 1) (.int .u64 id) rfl rfl (J1 id haid) ?_);intro w5 gM1 RM1 T6;simp only [List.set_cons_zero,List.set_cons_succ] at T6;have RM:=Vh RM1;clear e0 e1 e2;have e1:=T6.cell 5 0 rfl 1;simp only [GE4] at e1;obtain ⟨_,_,hv5,hc5⟩:=Z6 HRW.out T6 0 rfl (by simp) (k:=q) (x:=Qd j'.kb) (by unfold X9;rw [List.getElem?_map,HGJ.out,HKB.out];rfl);cases hv5;have HT:=Vh T6;clear T6 RM1))
           first
           | (go_roundw
              case rel=>exact ⟨q+1,by omega,by go_num,js.set q j',x',gl,gJ4,gF1,mG,_,_,_,_,_,HML.out,HO'.out.mono (by omega),by rw [HPR.out];exact HRW.out,HJ4.out,HX1.out,HNI.out,(HCG.out.set j').mono,HPG.out,Q0 HMG.out (by omega),RM.out,HT.out.pick [0,1,2,3,4] rfl⟩
              case measure=>simp [intOf];omega)
           | exact ⟨⟨q+1,by omega,by go_num,js.set q j',x',gl,gJ4,gF1,mG,_,_,_,_,_,HML.out,HO'.out.mono (by omega),by rw [HPR.out];exact HRW.out,HJ4.out,HX1.out,HNI.out,(HCG.out.set j').mono,HPG.out,Q0 HMG.out (by omega),RM.out,HT.out.pick [0,1,2,3,4] rfl⟩,by simp [intOf];omega⟩
           | ((repeat apply Exists.intro);exact ⟨⟨⟨q+1,by omega,by go_num,js.set q j',x',gl,gJ4,gF1,mG,_,_,_,_,_,HML.out,HO'.out.mono (by omega),by rw [HPR.out];exact HRW.out,HJ4.out,HX1.out,HNI.out,(HCG.out.set j').mono,HPG.out,Q0 HMG.out (by omega),RM.out,HT.out.pick [0,1,2,3,4] rfl⟩,rfl⟩,by simp [intOf];omega⟩)
          ·have hk4':(kd == 4)=false:=beq_eq_false_iff_ne.2 hk4
           go_wp2
           first
           | (go_roundw
              case rel=>exact ⟨q+1,by omega,by go_num,js.set q j',x',gl,gJ4,gF1,mG,_,_,mD,_,_,HML.out,HO'.out.mono (by omega),by rw [HPR.out];exact HRW.out,HJ4.out,HX1.out,HNI.out,(HCG.out.set j').mono,(HCD.out.set j').mono,Q0 HMG.out (by omega),Q0 HMD.out (by omega),HT.out.pick [0,1,2,3,4] rfl⟩
              case measure=>simp [intOf];omega)
           | exact ⟨⟨q+1,by omega,by go_num,js.set q j',x',gl,gJ4,gF1,mG,_,_,mD,_,_,HML.out,HO'.out.mono (by omega),by rw [HPR.out];exact HRW.out,HJ4.out,HX1.out,HNI.out,(HCG.out.set j').mono,(HCD.out.set j').mono,Q0 HMG.out (by omega),Q0 HMD.out (by omega),HT.out.pick [0,1,2,3,4] rfl⟩,by simp [intOf];omega⟩
           | ((repeat apply Exists.intro);exact ⟨⟨⟨q+1,by omega,by go_num,js.set q j',x',gl,gJ4,gF1,mG,_,_,mD,_,_,HML.out,HO'.out.mono (by omega),by rw [HPR.out];exact HRW.out,HJ4.out,HX1.out,HNI.out,(HCG.out.set j').mono,(HCD.out.set j').mono,Q0 HMG.out (by omega),Q0 HMD.out (by omega),HT.out.pick [0,1,2,3,4] rfl⟩,rfl⟩,by simp [intOf];omega⟩)
      ·have HS:=Vh (qis hon hx hoi hj' hnil (by omega))
       have hst:=hoi.step hj';have hcs:=hoi.cost hj' hnil (by omega);rw [List.set_set] at hst;have HO1:=Vh hst;have HC1:=Vh (show Xp (j'.step x').s (j'.step x').k (j'.next x')+((n'+1:Nat):Int)≤400 by omega);have HK1:=Vh (show (j'.step x').kb=j.kb from hkb);clear hnil hj' hcb hoi hon hx hkb hco T HS0 HC0 HJS HX HJ HO hst hcs;go_wp2_with fail
       refine Qa.run (HS.out) (HT.out) [1,2] ?_
       rintro e w1 gs ⟨gJ1,gF1,rfl,hj1,hx1,rfl⟩ HT;simp only [PU] at HT;rw [List.set_set] at hj1;have HJ1:=Vh hj1;have HX1:=Vh hx1;clear hj1 hx1 hc1;go_wp2
       first
       | (go_roundw
          case rel=>exact ⟨n'+1,j'.step x',j'.next x',gJ1,gF1,by go_num,HO1.out,HK1.out,HC1.out,HJ1.out,HX1.out,HT.out⟩
          case measure=>simp [intOf];omega)
       | exact ⟨⟨n'+1,j'.step x',j'.next x',gJ1,gF1,by go_num,HO1.out,HK1.out,HC1.out,HJ1.out,HX1.out,HT.out⟩,by simp [intOf];omega⟩
       | ((repeat apply Exists.intro);exact ⟨⟨⟨n'+1,j'.step x',j'.next x',gJ1,gF1,by go_num,HO1.out,HK1.out,HC1.out,HJ1.out,HX1.out,HT.out⟩,rfl⟩,by simp [intOf];omega⟩)
    ·obtain rfl:q=m:=by omega
     have hin:=qgm HX.out;rw [HO.out.inside (fun b j hb he=>HNL.out b j (by rw [← HM.out];exact hb) he)] at hin;have HIN:=Vh hin;have T2:=HT.out;have HJ0:=HJ;clear hin;go_wp2_with fail
     go_loopw [23] (fun i wr=>∃ (r:Nat) (gJ':List Blk),r≤q∧i=.int .i64 r∧qd8 L js gJ'∧TG [] w [gl,gJ',gF,gG,gD] wr) (fun i _=>q - (intOf i).toNat)
     case atStart=>exact ⟨0,gJ,by omega,rfl,HJ.out,T2⟩
     case round =>
      obtain ⟨r,gJ',hr,rfl,hon,T⟩:=hrel;clear T2 HT HJ HJ0;by_cases hlr:r<q
      ·obtain ⟨j,hj⟩:∃ j,js[r]?=some j:=⟨_,List.getElem?_eq_getElem (by rw [HM.out];exact hlr)⟩
       have HAN:=Vh (qe2 hon hj (HNL.out r j hlr hj));have haid:=HO.out.aid hj;obtain ⟨b1,cap1,hv1,hc1⟩:=Z6 HRW.out T 0 rfl (by simp) (k:=r) (x:=Qd j.kb) (by unfold X9;rw [List.getElem?_map,hj];rfl);cases hv1
       have HT:=Vh T;clear T hon hj;go_wp2_with fail
       refine Qa.run (HAN.out) (HT.out) [1] ?_
       rintro e w1 gs ⟨gJ1,rfl,hj1,rfl⟩ HT;simp only [PU] at HT;have HJ1:=Vh hj1;clear hj1 hc1 HAN;obtain ⟨er,her⟩:∃ er,j.k.err=er:=⟨_,rfl⟩;obtain ⟨ok,hok⟩:∃ ok,j.k.ok=ok:=⟨_,rfl⟩;obtain ⟨id,hid⟩:∃ id,j.k.aid=id:=⟨_,rfl⟩;obtain ⟨gn,hgn⟩:∃ gn,j.k.agen=gn:=⟨_,rfl⟩;simp only [qfq];rw [hid] at haid;rw [her,hok,hid,hgn];clear her hok hid hgn
       obtain ⟨a1,ha1,ha1'⟩:∃ a1:Int,(mG (.int .u64 id)).getD (.int .i64 0)=.int .i64 a1∧a1≤1:=by
        rcases HCG.out.le (.int .u64 id) with h | h <;> exact ⟨_,h,by decide⟩
       obtain ⟨a2,ha2,ha2'⟩:∃ a2:Int,(mD (.int .u64 id)).getD (.int .i64 0)=.int .i64 a2∧a2≤1:=by
        rcases HCD.out.le (.int .u64 id) with h | h <;> exact ⟨_,h,by decide⟩
       have HA1:=Vh ha1;have HA2:=Vh ha2;clear ha1 ha2;have HT:=Vh (HT.out.alloc (k:=w1.heap.size) rfl 51 #[.int .i64 er,.bool ok,.int .u64 id,.int .u64 gn,.slice none 0 0]);obtain ⟨e0,e1,e2⟩:=Ce3 (HT.out.cell 5 0 rfl) 0 1 2;simp only [GE4] at e0 e1 e2;go_wp2_with (first | (at_lookup;(with_reducible refine Zs rfl _ _ rfl Tryz.keyU64o underlying48 (.int .i64 0) Tryz.zeroInt HT.out 3 rfl HMG.out rfl (.int .u64 id) (.int .u64 id) rfl (J1 id haid) ?_);rw [HA1.out]) | (at_lookup;(with_reducible refine qq rfl _ _ rfl Tryz.keyU64o underlying48 (.int .i64 0) Tryz.zeroInt HT.out 4 rfl HMD.out rfl (.int .u64 id) (.int .u64 id) rfl (J1 id haid) ?_);rw [HA2.out]))
       first
       | (go_roundw
          case rel=>exact ⟨r+1,gJ1,by omega,by go_num,HJ1.out,HT.out.pick [0,1,2,3,4] rfl⟩
          case measure=>simp [intOf];omega)
       | exact ⟨⟨r+1,gJ1,by omega,by go_num,HJ1.out,HT.out.pick [0,1,2,3,4] rfl⟩,by simp [intOf];omega⟩
       | ((repeat apply Exists.intro);exact ⟨⟨⟨r+1,gJ1,by omega,by go_num,HJ1.out,HT.out.pick [0,1,2,3,4] rfl⟩,rfl⟩,by simp [intOf];omega⟩)
      ·have HT:=Vh T
       clear T hon;go_wp2_with fail
       refine Qa.run (HIN.out) (HT.out) [2] ?_
       rintro e w1 gs ⟨rfl,gF1,_,rfl⟩ HT;simp only [PU] at HT;go_wp2
       go_ret
       exact ⟨rfl,(HT.out.pick [] rfl).bel⟩
end
end Go.Proofs.YtcneeepdclgdcaaGreat
