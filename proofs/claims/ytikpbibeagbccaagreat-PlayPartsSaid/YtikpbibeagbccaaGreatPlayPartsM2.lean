import Derived.Test.YtikpbibeagbccaaGreatSV42
import Derived.Test.YtikpbibeagbccaaGreatPlayPartsM1
set_option maxRecDepth 100000
set_option maxHeartbeats 4000000
namespace Go.Proofs.YtikpbibeagbccaaGreat
set_option linter.unusedVariables false
set_option linter.unusedSimpArgs false
open Go.Proofs.Tryz
section
open Go.RowKit Go.Shelf Go.ChangeShapes
theorem qje {A B:List Int} {m n:Nat} (hA:A.length=6*m):qat (A++B) (m+n)=qat A m++qat B n:=by
 unfold qat;rw [List.range_add,List.map_append,List.map_map];congr 1
 ·refine List.map_congr_left (fun k hk=>?_)
  rw [qe4 hA (List.mem_range.1 hk)]
 ·refine List.map_congr_left (fun k hk=>?_)
  simp only [Function.comp];rw [qd1 hA]
theorem qng (P:PlS) (l l':List Ent):P.runE (l++l')=(P.runE l).runE l':=by unfold PlS.runE;rw [List.foldl_append]
theorem Zl.tr_le {N:Nat} {L:Lay} {pb sb:Nat} {P:PlS} {g:List Blk} (h:Zl N L pb sb P g) (hN:N≤1000000000):P.S.z.x.tr.length≤1000000000:=by
 obtain ⟨mb,gS,gM,hi,_⟩:=h;exact Go.Proofs.YtikpbibeagbccaaGreat.tr_le hi.sv hN
theorem Zl.lg_le {N:Nat} {L:Lay} {pb sb:Nat} {P:PlS} {g:List Blk} (h:Zl N L pb sb P g) (hN:N≤1000000000):P.S.z.lg.length≤1000000000:=by
 obtain ⟨mb,gS,gM,hi,_⟩:=h;exact Go.Proofs.YtikpbibeagbccaaGreat.lg_le hi.sv hN
theorem playParts_law (p q:Int) (hp:0≤p∧p≤255) (hq:0≤q∧q≤255) (ua ub:Option Addr) (ca cb:Nat) (A B:List Int) (w:World) (ha:qi2 w ua ca A) (hb:qi2 w ub cb B) (hs:A.length+B.length≤9223372036854775807) :
 Calls prog 6 #[.int .u8 p,.int .u8 q,.slice ua A.length ca,.slice ub B.length cb] w fun e w'=>e=.returned (.bool true)∧Below w.heap.size w w':=by
 have hA9:A.length≤9223372036854775807:=Nat.le_trans ha.le ha.max;have hB9:B.length≤9223372036854775807:=Nat.le_trans hb.le hb.max;have HT:=Vh (TG.ofW (w:=w));by_cases hbig:900<A.length+B.length
 ·clear ha hb
  go_enter func6,ntmps6
  go_wp2_with fail
  refine Qa.run (qfv) (HT.out) [] ?_
  rintro e w1 gs ⟨rfl,rfl⟩ HT;simp only [PU] at HT;go_wp2
  go_ret
  exact ⟨rfl,HT.out.bel⟩
 obtain ⟨m,r,hm,hr⟩:∃ m r,A.length=6*m+r∧r<6:=⟨A.length / 6,A.length % 6,by omega,by omega⟩;have ha':=ha.take (6*m);have hlen:(A.take (6*m)).length=6*m:=by rw [List.length_take];omega
 have hAca:=ha.le;generalize A.take (6*m)=A' at ha' hlen;generalize hla:A.length=la at *;have e1:((la:Int) / 6)=(m:Int):=by omega
 have e2:(((m:Int)*6)).toNat=6*m:=by omega
 have e3:(m:Int)*6≤ca:=by omega
 have hchB:m+Xq B.length≤150:=by unfold Xq;omega
 obtain ⟨lb,hlb⟩:∃ lb,B.length=lb:=⟨_,rfl⟩;rw [hlb] at hB9 hbig ⊢;have hlb9:lb≤900:=by omega
 have hm9:6*m+lb≤900:=by omega
 have hca9:=ha'.max;have hcb9:=hb.max;unfold maxLen at hca9 hcb9;have HA:=Vh ha';have HB:=Vh hb;have HL:=Vh hlen;have HLB:=Vh hlb;have HCH:=Vh hchB;have HPL:=Vh (qh6 p q (by omega) (by omega));have HNW:=Vh (show Qa prog 34 #[.agg (Yp p q).cells] [] fun e gs=>∃ L pb sb g,e=.returned (.tuple #[Qb pb,.int .i64 0])∧Zl 0 L pb sb (pl0 (Yp p q)) g∧gs=[g] from qws _ (qch p q));have HTH:=Vh (qly p q);generalize Yp p q=c at HPL HNW HTH;obtain ⟨sh,cap,ring,room,wk,cli⟩:=c;simp only [Cfg.cells] at HPL HNW;generalize pl0 _=P0 at HNW HTH;clear ha ha' hb hlen hm hlb hchB hla;obtain ⟨hp0,hp1⟩:=hp;obtain ⟨hq0,hq1⟩:=hq;go_enter func6,ntmps6
 go_wp2_with fail
 refine Qa.run (qfv) (HT.out) [] ?_
 rintro e w1 gs ⟨rfl,rfl⟩ HT;simp only [PU] at HT;go_wp2_with fail
 refine Qa.run (HPL.out) (HT.out) [] ?_
 rintro e w1 gs ⟨rfl,rfl⟩ HT;simp only [PU] at HT;go_wp2_with fail
 refine Qa.run (HNW.out) (HT.out.alloc (k:=w1.heap.size) rfl 28 #[.int .i64 sh,.int .i64 cap,.int .i64 ring,.int .i64 room,.int .i64 wk,.int .i64 cli]) [] ?_
 rintro e w1 gs ⟨L,pb,sb,g,rfl,hpx,rfl⟩ HT;simp only [PU] at HT;have HPX:=Vh hpx;clear hpx;obtain ⟨b0,b1,b2,b3,b4,b5⟩:=Ce6 (HT.out.cell 0 0 rfl) 0 1 2 3 4 5;simp only [GE4] at b0 b1 b2 b3 b4 b5;have ltb:=HT.out.lt 0 0 rfl;simp only [] at ltb;go_wp2_with fail
 refine Qa.run (HNW.out) (HT.out) [] ?_
 rintro e w1 gs ⟨L2,pb2,sb2,gy,rfl,hpy,rfl⟩ HT;simp only [PU] at HT;have HPY:=Vh hpy;clear hpy b0 b1 b2 b3 b4 b5 ltb;obtain ⟨nb,hnb⟩:∃ nb,Xq lb=nb:=⟨_,rfl⟩;have hmb:m+nb≤150:=by have:=HCH.out;rw [HLB.out,hnb] at this;exact this
 have HNB:=Vh hnb;clear hnb;go_wp2_with fail
 have hrn:=J6 (qnj HPX.out (T:=9) HTH.out (by decide) (HT.out.pick [1] rfl).has (HA.out.arg.off HT.out (fun p hp=>List.mem_flatten.2 ⟨g,by simp,hp⟩)) (by rw [HL.out];omega) HA.out.le hca9 (by rw [HL.out,qgw];omega)) HT.out [1] rfl rfl;rw [HL.out,qgw] at hrn;refine hrn.mono ?_
 rintro e w2 ⟨gs,⟨gx,rfl,hpx,rfl⟩,Ta⟩;simp only [PU] at Ta;have HT:=Vh Ta;have HPX:=Vh hpx;clear hrn hpx Ta;go_wp2_with fail
 have hrn:=J6 (qnj HPX.out (T:=9) (by rw [qi1];exact HTH.out) (by decide) (HT.out.pick [1] rfl).has (HB.out.arg.off HT.out (fun p hp=>List.mem_flatten.2 ⟨gx,by simp,hp⟩)) (by rw [HLB.out];omega) HB.out.le hcb9 (by rw [HLB.out,HNB.out];omega)) HT.out [1] rfl rfl;rw [HLB.out,HNB.out,← qng] at hrn;refine hrn.mono ?_
 rintro e w3 ⟨gs,⟨gx2,rfl,hpx,rfl⟩,Ta⟩;simp only [PU] at Ta;have HT:=Vh Ta;have HPX:=Vh (hpx.mono (M:=400000) (by omega));clear hrn hpx Ta;have HS1:=Vh (show ∀ (H:GH) (w':World),TG [] w H w'→(ua=none∧6*m=0∧ca=0)∨∃ ad,ua=some ad∧∀ j u,(A'.map (Value.int .u8))[j]?=some u→w'.cell? (ad.add j)=some u by rw [← HL.out];exact fun _ _ T=>HA.out.src T);have HS2:=Vh (show ∀ (H:GH) (w':World),TG [] w H w'→(ub=none∧lb=0∧cb=0)∨∃ ad,ub=some ad∧∀ j u,(B.map (Value.int .u8))[j]?=some u→w'.cell? (ad.add j)=some u by rw [← HLB.out];exact fun _ _ T=>HB.out.src T);have HM1:=Vh (show (A'.map (Value.int .u8)).length=6*m*1 by rw [List.length_map,HL.out];omega);have HM2:=Vh (show (B.map (Value.int .u8)).length=lb*1 by rw [List.length_map,HLB.out];omega)
 go_wp2_with (first
  | (at_builtin
     (with_reducible refine zz rfl (.tmp 67) (.tmp 68) 54 rfl 5 1 1 _ underlying54 Tryz.infoU8 rfl (by decide) (HT.out.alloc rfl _ _) 3 rfl rfl (qea _ 1 _ 0 0 #[] (Nat.le_refl _) (by decide) rfl) rfl ua (6*m) ca (A'.map (Value.int .u8)) rfl HM1.out (HS1.out _ _ (HT.out.alloc rfl _ _)) (qyl _) (by unfold maxLen;omega) (by omega) ?_)
     intro v1 w4 g1 r1 T1;simp only [List.set_cons_zero,List.set_cons_succ,List.cons_append,List.nil_append] at T1;have T1:=Vh T1
     have r1:=Vh r1)
  | (at_builtin
     go_loud (with_reducible refine zz rfl (.tmp 69) (.tmp 70) 54 rfl 5 1 1 _ underlying54 Tryz.infoU8 rfl (by decide) T1.out 3 rfl rfl r1.out rfl ub lb cb (B.map (Value.int .u8)) rfl HM2.out (HS2.out _ _ T1.out) (qyl _) (by unfold maxLen;omega) (by omega) ?_)
     intro v2 w5 g2 r2 T2;simp only [List.set_cons_zero,List.set_cons_succ,List.cons_append,List.nil_append] at T2;have T2:=Vh T2
     have r2:=Vh r2))
 have r3:Qr 5 1 v2 (A'++B).length ((A'++B).map (Value.int .u8)) g2:=by
  have hr:Qr 5 1 v2 (0+6*m+lb) (([]++A'.map (Value.int .u8))++B.map (Value.int .u8)) g2:=r2.out;rw [List.nil_append,Nat.zero_add] at hr;rw [List.map_append,List.length_append,HL.out,HLB.out];exact hr
 have hz:∀ x∈A'++B,0≤x∧x≤255:=fun x hx=>(List.mem_append.1 hx).elim (HA.out.arg.1 x) (HB.out.arg.1 x)
 obtain ⟨az,cz,rfl,hle,hcz,hoff⟩:=que T2.out (i:=2) (j:=3) (by decide) rfl rfl r3 hz;have hln:(A'++B).length=6*m+lb:=by rw [List.length_append,HL.out,HLB.out]
 have hch:Xq (A'++B).length=m+nb:=by rw [hln,qpw,HNB.out]
 have hen:qat (A'++B) (m+nb)=qat A' m++qat B nb:=qje HL.out;have hrn:=J6 (qnj HPY.out (T:=9) HTH.out (by decide) (T2.out.pick [2] rfl).has hoff (by omega) hle hcz (by rw [hch];omega)) T2.out [2] rfl rfl;rw [hch,hen] at hrn;refine hrn.mono ?_
 rintro e w6 ⟨gs,⟨gy2,rfl,hpy,rfl⟩,Ta⟩;simp only [PU] at Ta;have HT:=Vh (Ta.pick [1,2] rfl);have HPY:=Vh (hpy.mono (M:=400000) (by omega));clear hrn hpy Ta r3 hz hle hcz hoff hln hch hen HA HB HL HLB HCH HTH HNB HS1 HS2 HM1 HM2 r1 r2 T1 T2 HPL HNW;generalize P0.runE _=Q at HPX HPY;have HSX:=Vh (qax HPX.out);have HSY:=Vh (qax HPY.out);have HLX:=Vh (qb3 HPX.out);have HLY:=Vh (qb3 HPY.out);have HVX:=Vh (Zn HPX.out);have HVY:=Vh (Zn HPY.out);have htr:=HPX.out.tr_le (by decide);have hlg:=HPX.out.lg_le (by decide);have HTRX:=Vh (qag HPX.out (by decide));have HTRY:=Vh (qag HPY.out (by decide));clear HPX HPY;rw [Int.natCast_add];go_wp2_with fail
 refine Qa.run (HSX.out) (HT.out) [0] ?_
 rintro e w1 gs ⟨rfl,rfl⟩ HT;simp only [PU] at HT;go_wp2_with fail
 refine Qa.run (HSY.out) (HT.out) [1] ?_
 rintro e w1 gs ⟨rfl,rfl⟩ HT;simp only [PU] at HT;go_wp2_with fail
 refine Qa.run (HLX.out) (HT.out) [0] ?_
 rintro e w1 gs ⟨rfl,rfl⟩ HT;simp only [PU] at HT;go_wp2_with fail
 refine Qa.run (HLY.out) (HT.out) [1] ?_
 rintro e w1 gs ⟨rfl,rfl⟩ HT;simp only [PU] at HT;go_wp2_with fail
 refine Qa.run (HVX.out) (HT.out) [0] ?_
 rintro e w1 gs ⟨rfl,rfl⟩ HT;simp only [PU] at HT;go_wp2_with fail
 refine Qa.run (HTRX.out) (HT.out) [0] ?_
 rintro e w1 gs ⟨va,gva,ga1,rfl,hva,hpx,rfl⟩ HT;simp only [PU] at HT;obtain ⟨av,cv,hv1⟩:=Qr.val hva;subst hv1;have HVA:=Vh hva;have HVX:=Vh (Zn hpx);have HLX:=Vh (qzh hpx (by decide));clear hva hpx;go_wp2_with fail
 refine Qa.run (HVY.out) (HT.out) [1] ?_
 rintro e w1 gs ⟨rfl,rfl⟩ HT;simp only [PU] at HT;go_wp2_with fail
 refine Qa.run (HTRY.out) (HT.out) [1] ?_
 rintro e w1 gs ⟨vb,gvb,gb1,rfl,hvb,hpy,rfl⟩ HT;simp only [PU] at HT;obtain ⟨bv,dv,hv1⟩:=Qr.val hvb;subst hv1;have HVB:=Vh hvb;have HVY:=Vh (Zn hpy);have HLY:=Vh (qzh hpy (by decide));clear hvb hpy;go_wp2_with fail
 refine (Qe.use (qhm HVA.out HVB.out htr) (HT.out) [2,3] rfl rfl).mono ?_
 rintro e w1 ⟨rfl,mq,rfl⟩;have HT:=Vh (HT.out.drewN mq);generalize World.drewN _ _=wq at HT ⊢;go_wp2_with fail
 refine Qa.run (HVX.out) (HT.out) [0] ?_
 rintro e w1 gs ⟨rfl,rfl⟩ HT;simp only [PU] at HT;go_wp2_with fail
 refine Qa.run (HLX.out) (HT.out) [0] ?_
 rintro e w1 gs ⟨vla,gla,ga2,rfl,hla,hpx,rfl⟩ HT;simp only [PU] at HT;obtain ⟨av2,cv2,hv1⟩:=Qr.val hla;subst hv1;have HLGA:=Vh hla;clear hla hpx;go_wp2_with fail
 refine Qa.run (HVY.out) (HT.out) [1] ?_
 rintro e w1 gs ⟨rfl,rfl⟩ HT;simp only [PU] at HT;go_wp2_with fail
 refine Qa.run (HLY.out) (HT.out) [1] ?_
 rintro e w1 gs ⟨vlb,glb,gb2,rfl,hlb,hpy,rfl⟩ HT;simp only [PU] at HT;obtain ⟨bv2,dv2,hv1⟩:=Qr.val hlb;subst hv1;have HLGB:=Vh hlb;clear hlb hpy;go_wp2_with fail
 refine (Qe.use (q0q HLGA.out HLGB.out hlg) (HT.out) [4,5] rfl rfl).mono ?_
 rintro e w1 ⟨rfl,mq,rfl⟩;have HT:=Vh (HT.out.drewN mq);generalize World.drewN _ _=wq at HT ⊢;go_wp2
 go_ret
 exact ⟨rfl,(HT.out.pick [] rfl).bel⟩
end
end Go.Proofs.YtikpbibeagbccaaGreat
