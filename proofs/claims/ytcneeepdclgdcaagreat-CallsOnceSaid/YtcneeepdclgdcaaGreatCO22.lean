import Derived.Test.YtcneeepdclgdcaaGreatCO21
import Derived.Test.YtcneeepdclgdcaaGreatCO6
import Derived.Test.YtcneeepdclgdcaaGreatCO14
set_option maxRecDepth 100000
set_option maxHeartbeats 4000000
namespace Go.Proofs.YtcneeepdclgdcaaGreat
set_option linter.unusedVariables false
set_option linter.unusedSimpArgs false
open Go.Proofs.Tryz
section
open Go.RowKit Go.Shelf
section
variable {L:Lay} {kb:Nat} {pv:Value}
theorem qkf {u0 u3 u4 u5 u6 u7 u8 u9 u10 u11 u12 u13 u14 u15 u16 u17 u18 u19 u20 u21 u22 u23 u24 u25 u26 u27 u28 u29 u30 u31 u32 u33 u34 u35 u36 u37 u38 u39 u40 u41 u42 u43 u44 u45 u46 u47 u48 u49 u50 u51 u52 u53 u54 u55 u56 u57 u58 u59 u60 u61 u62 u63 u64 u65 u66 u67 u68 u69 u70 u71 u72 u73 u74 u75 u76 u77 u78 u79 u80 u81 u82 u83 u84 u85 u86 u87 u88 u89 u90 u91 u92 u93 u94 u95 u96 u97 u98 u99 u100 u101 u102 u103 u104 u105 u106 u107 u108 u109 u110 u111 u112 u113 u114 u115 u116 u117 u118 u119 u120:Value} {bb rb:Nat} {K:Act→World→Prop} {Q':Exit→Act→World→Prop} {g0 g1 g2 g3:List Blk} {w0 w:World} {h:GH} (T:TG h w0 [g0,g1,g2,g3,[cl bb 33 #[Qd kb]],[cl rb 153 #[.nilFunc,.nilFunc]]] w)
 (hK:∀ w' m d g v113 v114 v115 v116 v117 v118 v119 v120,(qdc L kb pv).SV (.thn (.row2 .tries1 .drop) .ends) m d g→TG h w0 [g0,g1,g2,g3,g,[cl rb 153 #[m,d]]] w'→K { tmps:=#[u0,Qd bb,Qd rb,u3,u4,u5,u6,u7,u8,u9,u10,u11,u12,u13,u14,u15,u16,u17,u18,u19,u20,u21,u22,u23,u24,u25,u26,u27,u28,u29,u30,u31,u32,u33,u34,u35,u36,u37,u38,u39,u40,u41,u42,u43,u44,u45,u46,u47,u48,u49,u50,u51,u52,u53,u54,u55,u56,u57,u58,u59,u60,u61,u62,u63,u64,u65,u66,u67,u68,u69,u70,u71,u72,u73,u74,u75,u76,u77,u78,u79,u80,u81,u82,u83,u84,u85,u86,u87,u88,u89,u90,u91,u92,u93,u94,u95,u96,u97,u98,u99,u100,u101,u102,u103,u104,u105,u106,u107,u108,u109,u110,u111,u112,v113,v114,v115,v116,v117,v118,v119,v120],defers:=[] } w') :
 (qkw 16 Tryz.f188).wp prog (Exit.then K Q') { tmps:=#[u0,Qd bb,Qd rb,u3,u4,u5,u6,u7,u8,u9,u10,u11,u12,u13,u14,u15,u16,u17,u18,u19,u20,u21,u22,u23,u24,u25,u26,u27,u28,u29,u30,u31,u32,u33,u34,u35,u36,u37,u38,u39,u40,u41,u42,u43,u44,u45,u46,u47,u48,u49,u50,u51,u52,u53,u54,u55,u56,u57,u58,u59,u60,u61,u62,u63,u64,u65,u66,u67,u68,u69,u70,u71,u72,u73,u74,u75,u76,u77,u78,u79,u80,u81,u82,u83,u84,u85,u86,u87,u88,u89,u90,u91,u92,u93,u94,u95,u96,u97,u98,u99,u100,u101,u102,u103,u104,u105,u106,u107,u108,u109,u110,u111,u112,u113,u114,u115,u116,u117,u118,u119,u120],defers:=[] } w:=by
 refine qi0 (by rfl) ?_
 have hrow:∀ (bk b bf bl bi:Nat),(qdc L kb pv).SV (.row2 .tries1 .drop) .nilFunc (.func (.func 209) #[] #[Qd bf,Qd bl,Qd bi])
  ([cl bf 1 #[.func (.func 231) #[] #[Qd bk]],cl bl 322 #[.slice (some ⟨b,0,none⟩) 2 2],cl bi 3 #[.int .i64 0],cl b 1 #[.func (.func 231) #[] #[Qd bk],.func (.func 220) #[Qd kb] #[]]]++[cl bk 33 #[Qd kb]]++[]) :=
  fun bk b bf bl bi=>⟨rfl,bf,bl,bi,b,_,_,_,[],rfl,⟨bk,rfl,rfl⟩,⟨rfl,rfl⟩,rfl⟩
 have hthen:∀ (bk b bf bl bi:Nat),_:=fun bk b bf bl bi=>Cli.prog_then_x (f:=MC.ends) (v:=.func (.func 138) #[Qd kb] #[]) (gm:=[]) (Qt L kb pv) rfl (hrow bk b bf bl bi) ⟨rfl,rfl⟩
 have hrow':=hrow;have HTH:=Vh hthen;have HT:=Vh T;have HK:=Vh hK;have b0:=T.cell 4 0 rfl 0;have ltb:=T.lt 4 0 rfl;have ltr:=T.lt 5 0 rfl;simp only [GE2] at b0 ltb ltr;clear T hK hrow hthen;have HRW:=Vh hrow';clear hrow'
 go_region_held3 (fun w'=>w'.cell? ⟨bb,0,none⟩=some (Qd kb))
  (first
  | exact HT2.out.cell 4 6 rfl 0
  | exact HT1.out.cell 4 4 rfl 0
  | exact (HT.out.drew.alloc (k:=w.heap.size) rfl _ _).cell 4 0 rfl 0
  | exact HT.out.drew.cell 4 0 rfl 0
  | exact HT.out.cell 4 0 rfl 0
  | exact ((HT2.out.set 5 0 rfl 0 _).set 5 0 rfl 1 _).cell 4 6 rfl 0)
  (first
  | (go_at_call 178
     refine (Qa.use (Cli.row_1 (b:=w.heap.size) (o:=0) (D:=#[.func (.func 231) #[] #[Qd bb],.func (.func 220) #[Qd kb] #[]]) rfl 2 (.inr rfl)) (HT.out.drew.alloc (k:=w.heap.size) rfl _ _) [6] rfl rfl).mono ?_
     rintro e w7 ⟨gs,⟨bf,bl,bi,rfl,rfl⟩,Ta⟩;simp only [PU] at Ta;have HT1:=Vh (Ta.sum (H':=[g0,g1,g2,g3,[cl bf 1 #[.func (.func 231) #[] #[Qd bb]],cl bl 322 #[.slice (some ⟨w.heap.size,0,none⟩) 2 2],cl bi 3 #[.int .i64 0],cl w.heap.size 1 #[.func (.func 231) #[] #[Qd bb],.func (.func 220) #[Qd kb] #[]]]++[cl bb 33 #[Qd kb]]++[],[cl rb 153 #[.nilFunc,.nilFunc]],[]]))
     clear Ta)
  | (go_at_call 196
     refine (Qa.use (HTH.out _ _ _ _ _) HT1.out [4,6] rfl rfl).mono ?_
     rintro e w8 ⟨gs,⟨bs,br,rfl,rfl⟩,Ta⟩;simp only [qae,List.set_cons_zero,List.set_cons_succ] at Ta;obtain ⟨e0,e1⟩:=Ce2 (Ta.cell 5 0 rfl) 0 1;obtain ⟨f0,f1⟩:=Ce2 (Ta.free 5 0 rfl) 0 1;simp only [GE3] at e0 e1;have HT2:=Vh Ta
     clear Ta))
 all_goals
  exact HK.out _ _ _ _ _ _ _ _ _ _ _ _ ⟨bs,br,_,_,_,_,rfl,rfl,HRW.out _ _ _ _ _,⟨rfl,rfl⟩,rfl⟩ ((((HT2.out.set 5 0 rfl 0 _).set 5 0 rfl 1 _).pick [0,1,2,3,4,5] rfl).eq rfl)
end
theorem qh3 (n:Int) (h0:0≤n) (h1:n<18446744073709551616):Qi prog 229 #[.int .u64 n] [] (.int .u64 (X0 n)) :=
 fun w hw=>(zq n w h0 h1).mono fun e w' ⟨he,hw'⟩=>⟨he,0,hw'.symm⟩
section
variable {L:Lay} {x:Qk} {gK gF:List Blk} {kb:Nat} {pv:Value} {k:Ql}
theorem qlf (hz:q9 L kb pv k x gK gF) (hp:qr .tries (k,x)):Qa prog 188 #[Qd kb] [gK,gF] (MRz L kb pv (Xq .tries (k,x))):=by
 obtain ⟨hok,hwk,_⟩:=hp;simp only at hok hwk;have hwb:=qen hok.slab k.slot k.saw k.event hwk.saw.1 hwk.saw.2.1 hwk.saw.2.2;have HTRY:=Vh (show ∀ g,Qh L x g→_ from fun g hx=>qhh (g:=g) hx hok.slab.n1 k.slot k.saw k.event hwk.saw.1 hwk.saw.2.1)
 have hE:∀ s2 w2 er,x.slab.try k.slot k.saw k.event=(s2,w2,er)→Xq .tries (k,x) =
  if er≠0 then (if k.kind=3 then (.at none .again,({ k with gen:=X0 w2 },{ x with slab:=s2 })) else (.at none .looks,({ k with gen:=X0 w2 },{ x with slab:=s2 })))
  else if k.kind=3 then (.at none .fills,Zi { ev0 with kind:=6,id:=k.id,gen:=X0 w2,dl:=k.cdl } (okC { k with gen:=X0 w2 },{ x with slab:=s2 }))
  else if k.kind=5 then (.row1 .ends1,Zi { ev0 with kind:=8,id:=k.id,gen:=X0 w2 } (okC { k with gen:=X0 w2 },{ x with slab:=s2 }))
  else (.thn (.row2 .tries1 .drop) .ends,Zi { ev0 with kind:=7,id:=k.id,gen:=X0 w2 } (okC { k with gen:=X0 w2 },{ x with slab:=s2 })):=by
  intro s2 w2 er h
  show (if (Xc (k,x)).2≠0 then _ else _)=_
  simp only [Xc,h]
 obtain ⟨s2,w2,er,hl⟩:∃ s2 w2 er,x.slab.try k.slot k.saw k.event=(s2,w2,er):=⟨_,_,_,rfl⟩;rw [hE s2 w2 er hl];rw [hl] at HTRY hwb;have HWB:=Vh hwb;have HLN:=Vh (show ({ x with slab:=s2 }:Qk).tr.length≤1000000 from hok.tr);clear hE hl hok hwk hwb;by_cases h0:er=0
 ·rw [if_neg (by simpa using h0)]
  rw [h0] at HTRY;clear h0;by_cases h3:k.kind=3
  ·rw [if_pos h3]
   unfold MRz;dsimp only [Zi,okC]
   obtain ⟨rv,tv,gq,gt,hr,ht,rfl,hx⟩:=hz;refine GO fun w HT=>?_
   have HT:=Vh (HT.out.sum (H':=[Qm kb L.fb pv rv tv k,gq,gt,gF]));have HX:=Vh hx;have HR:=Vh hr;have HTK:=Vh ht;clear hx hr ht;go_enter func188,ntmps188
   go_wp2
   have HT:=Vh ((HT.out.alloc (k:=w.heap.size) rfl 33 #[Qd kb]).alloc (k:=w.heap.size+1) (by simp) 153 #[.nilFunc,.nilFunc]);generalize World.alloc _ _=wa at HT ⊢;simp only [List.cons_append,List.nil_append] at HT;have b0:=HT.out.cell 4 0 rfl 0;simp only [GE4] at b0;obtain ⟨k0,k16,k17⟩:=Ce3 (HT.out.cell 0 0 rfl) 0 16 17;simp only [Qj,GE3] at k0 k16 k17;refine Qc 15 (by kernel_rfl) (by kernel_rfl) ?_
   simp only [TD4]
   repeat (go_big_quiet_step ((first | (go_at_call 19;with_reducible exact Qi.quiet (Qq HX.out) HT.out _ [3] rfl rfl) | (go_at_call 226;with_reducible exact Qi.quiet (Zq (L:=L)) HT.out _ [0] rfl rfl))))
   refine wpQuiet_nil (QE fun nq=>?_)
   have HT:=Vh (HT.out.drewN nq);go_wp2_with fail
   refine (Qa.use (HTRY.out _ HX.out) (HT.out) [3] rfl rfl).mono ?_
   rintro e w1 ⟨gs,⟨rfl,g1,hx1,rfl⟩,Ta⟩;simp only [PU] at Ta;have HX:=Vh hx1;clear hx1 k0 k16 k17 b0;have HT:=Vh Ta;clear Ta;go_wp2_with fail
   refine ⟨rfl,?_⟩
   have b0:=HT.out.cell 4 0 rfl 0;simp only [GE4] at b0;have k18:=HT.out.cell 0 0 rfl 18;have fk18:=HT.out.free 0 0 rfl 18;simp only [Qj,GE3] at k18;go_wp2
   refine Qc 3 (by kernel_rfl) (by kernel_rfl) ?_
   simp only [TD4]
   repeat (go_big_quiet_step ((first | (go_at_call 229;with_reducible exact Qi.quiet (qh3 _ HWB.out.1 HWB.out.2) HT.out _ [] rfl rfl))))
   refine wpQuiet_nil (QE fun nq=>?_)
   have HT:=Vh (HT.out.drewN nq);go_wp2_with fail
   refine ⟨rfl,?_⟩
   have HT:=Vh ((HT.out.set 0 0 rfl 18 (.int .u64 (X0 w2))).eq (H':=[Qm kb L.fb pv rv tv { k with gen:=X0 w2 },gq,gt,g1,[cl w.heap.size 33 #[Qd kb]],[cl (w.heap.size+1) 153 #[.nilFunc,.nilFunc]]]) rfl);clear b0 k18 fk18;generalize World.setCell _ _ _=w4 at HT ⊢;have b0:=HT.out.cell 4 0 rfl 0;simp only [GE4] at b0;obtain ⟨k3,k15,k18,k7,k8,k9,k10,k11⟩:=Ce8 (HT.out.cell 0 0 rfl) 3 15 18 7 8 9 10 11;obtain ⟨fk7,fk8,fk9,fk10,fk11⟩:=Ce5 (HT.out.free 0 0 rfl) 7 8 9 10 11;simp only [Qj,GE3] at k3 k15 k18 k7 k8 k9 k10 k11;go_wp2
   refine Qc 10 (by kernel_rfl) (by kernel_rfl) ?_
   simp only [TD4]
   repeat (go_big_quiet_step ((fail)))
   refine wpQuiet_nil (QE fun nq=>?_)
   have HT:=Vh (HT.out.drewN nq);go_wp2_with fail
   refine ⟨rfl,?_⟩
   have HT:=Vh ((((((HT.out.set 0 0 rfl 7 (.int .i64 0)).set 0 0 rfl 8 (.bool true)).set 0 0 rfl 9 (.int .u64 k.id)).set 0 0 rfl 10 (.int .u64 (X0 w2))).set 0 0 rfl 11 (.slice none 0 0)).eq (H':=[Qm kb L.fb pv rv tv { k with gen:=X0 w2,err:=0,ok:=true,aid:=k.id,agen:=X0 w2 },gq,gt,g1,[cl w.heap.size 33 #[Qd kb]],[cl (w.heap.size+1) 153 #[.nilFunc,.nilFunc]]]) rfl);clear b0 k3 k15 k18 k7 k8 k9 k10 k11 fk7 fk8 fk9 fk10 fk11;generalize World.setCell _ _ _=w5 at HT ⊢;have b0:=HT.out.cell 4 0 rfl 0;simp only [GE4] at b0;obtain ⟨k3,k5,k15,k18⟩:=Ce4 (HT.out.cell 0 0 rfl) 3 5 15 18;simp only [Qj,GE3] at k3 k5 k15 k18;rw [h3] at k3;clear h3;go_wp2
   refine Qc 15 (by kernel_rfl) (by kernel_rfl) ?_
   simp only [TD4]
   repeat (go_big_quiet_step ((fail)))
   refine wpQuiet_nil (QE fun nq=>?_)
   have HT:=Vh (HT.out.drewN nq);go_wp2_with fail
   refine (Qa.use (X7 HX.out { ev0 with kind:=6,id:=k.id,gen:=X0 w2,dl:=k.cdl } HLN.out) (HT.out) [0,3] rfl rfl).mono ?_
   rintro e w1 ⟨gs,⟨rfl,g2,hx2,rfl⟩,Ta⟩;simp only [PU] at Ta;have HX:=Vh hx2;clear hx2 k3 k5 k15 k18 b0;have HT:=Vh Ta;clear Ta;go_wp2_with fail
   refine ⟨rfl,?_⟩
   have b0:=HT.out.cell 4 0 rfl 0;simp only [GE4] at b0;go_wp2_with fail
   refine Qa.run (Q7) (HT.out) [] ?_
   rintro e w1 gs ⟨rfl,rfl⟩ HT;simp only [PU] at HT;obtain ⟨e0,e1⟩:=Ce2 (HT.out.cell 5 0 rfl) 0 1;obtain ⟨fe0,fe1⟩:=Ce2 (HT.out.free 5 0 rfl) 0 1;simp only [GE4] at e0 e1;go_wp2
   exact bodyPost_ret (v:=.agg #[.nilFunc,.func (.func 230) #[Qd kb] #[]]) (by simp [results,results188,go_sem,e0,e1]) rfl ⟨_,⟨_,_,[],_,_,rfl,⟨rfl,rfl,rfl⟩,⟨_,_,gq,gt,HR.out,HTK.out,rfl,HX.out⟩,rfl⟩,(((HT.out.set 5 0 rfl 0 _).set 5 0 rfl 1 _).pick [0,1,2,3] rfl).sum⟩
  ·rw [if_neg h3]
   by_cases h5:k.kind=5
   ·rw [if_pos h5]
    clear h3;unfold MRz;dsimp only [Zi,okC]
    obtain ⟨rv,tv,gq,gt,hr,ht,rfl,hx⟩:=hz;refine GO fun w HT=>?_
    have HT:=Vh (HT.out.sum (H':=[Qm kb L.fb pv rv tv k,gq,gt,gF]));have HX:=Vh hx;have HR:=Vh hr;have HTK:=Vh ht;clear hx hr ht;go_enter func188,ntmps188
    go_wp2
    have HT:=Vh ((HT.out.alloc (k:=w.heap.size) rfl 33 #[Qd kb]).alloc (k:=w.heap.size+1) (by simp) 153 #[.nilFunc,.nilFunc]);generalize World.alloc _ _=wa at HT ⊢;simp only [List.cons_append,List.nil_append] at HT;have b0:=HT.out.cell 4 0 rfl 0;simp only [GE4] at b0;obtain ⟨k0,k16,k17⟩:=Ce3 (HT.out.cell 0 0 rfl) 0 16 17;simp only [Qj,GE3] at k0 k16 k17;refine Qc 15 (by kernel_rfl) (by kernel_rfl) ?_
    simp only [TD4]
    repeat (go_big_quiet_step ((first | (go_at_call 19;with_reducible exact Qi.quiet (Qq HX.out) HT.out _ [3] rfl rfl) | (go_at_call 226;with_reducible exact Qi.quiet (Zq (L:=L)) HT.out _ [0] rfl rfl))))
    refine wpQuiet_nil (QE fun nq=>?_)
    have HT:=Vh (HT.out.drewN nq);go_wp2_with fail
    refine (Qa.use (HTRY.out _ HX.out) (HT.out) [3] rfl rfl).mono ?_
    rintro e w1 ⟨gs,⟨rfl,g1,hx1,rfl⟩,Ta⟩;simp only [PU] at Ta;have HX:=Vh hx1;clear hx1 k0 k16 k17 b0;have HT:=Vh Ta;clear Ta;go_wp2_with fail
    refine ⟨rfl,?_⟩
    have b0:=HT.out.cell 4 0 rfl 0;simp only [GE4] at b0;have k18:=HT.out.cell 0 0 rfl 18;have fk18:=HT.out.free 0 0 rfl 18;simp only [Qj,GE3] at k18;go_wp2
    refine Qc 3 (by kernel_rfl) (by kernel_rfl) ?_
    simp only [TD4]
    repeat (go_big_quiet_step ((first | (go_at_call 229;with_reducible exact Qi.quiet (qh3 _ HWB.out.1 HWB.out.2) HT.out _ [] rfl rfl))))
    refine wpQuiet_nil (QE fun nq=>?_)
    have HT:=Vh (HT.out.drewN nq);go_wp2_with fail
    refine ⟨rfl,?_⟩
    have HT:=Vh ((HT.out.set 0 0 rfl 18 (.int .u64 (X0 w2))).eq (H':=[Qm kb L.fb pv rv tv { k with gen:=X0 w2 },gq,gt,g1,[cl w.heap.size 33 #[Qd kb]],[cl (w.heap.size+1) 153 #[.nilFunc,.nilFunc]]]) rfl);clear b0 k18 fk18;generalize World.setCell _ _ _=w4 at HT ⊢;have b0:=HT.out.cell 4 0 rfl 0;simp only [GE4] at b0;obtain ⟨k3,k15,k18,k7,k8,k9,k10,k11⟩:=Ce8 (HT.out.cell 0 0 rfl) 3 15 18 7 8 9 10 11;obtain ⟨fk7,fk8,fk9,fk10,fk11⟩:=Ce5 (HT.out.free 0 0 rfl) 7 8 9 10 11;simp only [Qj,GE3] at k3 k15 k18 k7 k8 k9 k10 k11;go_wp2
    refine Qc 10 (by kernel_rfl) (by kernel_rfl) ?_
    simp only [TD4]
    repeat (go_big_quiet_step ((fail)))
    refine wpQuiet_nil (QE fun nq=>?_)
    have HT:=Vh (HT.out.drewN nq);go_wp2_with fail
    refine ⟨rfl,?_⟩
    have HT:=Vh ((((((HT.out.set 0 0 rfl 7 (.int .i64 0)).set 0 0 rfl 8 (.bool true)).set 0 0 rfl 9 (.int .u64 k.id)).set 0 0 rfl 10 (.int .u64 (X0 w2))).set 0 0 rfl 11 (.slice none 0 0)).eq (H':=[Qm kb L.fb pv rv tv { k with gen:=X0 w2,err:=0,ok:=true,aid:=k.id,agen:=X0 w2 },gq,gt,g1,[cl w.heap.size 33 #[Qd kb]],[cl (w.heap.size+1) 153 #[.nilFunc,.nilFunc]]]) rfl);clear b0 k3 k15 k18 k7 k8 k9 k10 k11 fk7 fk8 fk9 fk10 fk11;generalize World.setCell _ _ _=w5 at HT ⊢;have b0:=HT.out.cell 4 0 rfl 0;simp only [GE4] at b0;obtain ⟨k3,k5,k15,k18⟩:=Ce4 (HT.out.cell 0 0 rfl) 3 5 15 18;simp only [Qj,GE3] at k3 k5 k15 k18;rw [h5] at k3;clear h5;go_wp2
    refine Qc 10 (by kernel_rfl) (by kernel_rfl) ?_
    simp only [TD4]
    repeat (go_big_quiet_step ((fail)))
    refine wpQuiet_nil (QE fun nq=>?_)
    have HT:=Vh (HT.out.drewN nq);go_wp2_with fail
    refine (Qa.use (X7 HX.out { ev0 with kind:=8,id:=k.id,gen:=X0 w2 } HLN.out) (HT.out) [0,3] rfl rfl).mono ?_
    rintro e w1 ⟨gs,⟨rfl,g2,hx2,rfl⟩,Ta⟩;simp only [PU] at Ta;have HX:=Vh hx2;clear hx2 k3 k5 k15 k18 b0;have HT:=Vh Ta;clear Ta;go_wp2_with fail
    refine ⟨rfl,?_⟩
    have b0:=HT.out.cell 4 0 rfl 0;simp only [GE4] at b0;go_wp2_with fail
    refine Qa.run (qgn L kb pv) (HT.out) [] ?_
    rintro e w1 gs ⟨m2,d2,g2,rfl,hs2,rfl⟩ HT;simp only [PU] at HT;obtain ⟨e0,e1⟩:=Ce2 (HT.out.cell 5 0 rfl) 0 1;obtain ⟨fe0,fe1⟩:=Ce2 (HT.out.free 5 0 rfl) 0 1;simp only [GE4] at e0 e1;have hv2:=(Qt L kb pv).vals hs2;obtain ⟨st1,st2⟩:=Cli.store_fv2 (P:=prog) hv2.1 hv2.2 e0 fe0 e1 fe1;have HS:=Vh hs2;clear hv2 hs2;go_wp2
    exact bodyPost_ret (v:=.agg #[_,_]) (by simp [results,results188,go_sem,e0,e1]) rfl ⟨_,⟨m2,d2,g2,_,_,rfl,HS.out,⟨_,_,gq,gt,HR.out,HTK.out,rfl,HX.out⟩,rfl⟩,(((HT.out.set 5 0 rfl 0 _).set 5 0 rfl 1 _).pick [0,1,2,3,6] rfl).sum⟩
   ·rw [if_neg h5]
    have hb3:(k.kind == 3)=false:=beq_eq_false_iff_ne.2 h3;have hb5:(k.kind == 5)=false:=beq_eq_false_iff_ne.2 h5;clear h3 h5;unfold MRz;dsimp only [Zi,okC]
    obtain ⟨rv,tv,gq,gt,hr,ht,rfl,hx⟩:=hz;refine GO fun w HT=>?_
    have HT:=Vh (HT.out.sum (H':=[Qm kb L.fb pv rv tv k,gq,gt,gF]));have HX:=Vh hx;have HR:=Vh hr;have HTK:=Vh ht;clear hx hr ht;go_enter func188,ntmps188
    go_wp2
    have HT:=Vh ((HT.out.alloc (k:=w.heap.size) rfl 33 #[Qd kb]).alloc (k:=w.heap.size+1) (by simp) 153 #[.nilFunc,.nilFunc]);generalize World.alloc _ _=wa at HT ⊢;simp only [List.cons_append,List.nil_append] at HT;have b0:=HT.out.cell 4 0 rfl 0;simp only [GE4] at b0;obtain ⟨k0,k16,k17⟩:=Ce3 (HT.out.cell 0 0 rfl) 0 16 17;simp only [Qj,GE3] at k0 k16 k17;refine Qc 15 (by kernel_rfl) (by kernel_rfl) ?_
    simp only [TD4]
    repeat (go_big_quiet_step ((first | (go_at_call 19;with_reducible exact Qi.quiet (Qq HX.out) HT.out _ [3] rfl rfl) | (go_at_call 226;with_reducible exact Qi.quiet (Zq (L:=L)) HT.out _ [0] rfl rfl))))
    refine wpQuiet_nil (QE fun nq=>?_)
    have HT:=Vh (HT.out.drewN nq);go_wp2_with fail
    refine (Qa.use (HTRY.out _ HX.out) (HT.out) [3] rfl rfl).mono ?_
    rintro e w1 ⟨gs,⟨rfl,g1,hx1,rfl⟩,Ta⟩;simp only [PU] at Ta;have HX:=Vh hx1;clear hx1 k0 k16 k17 b0;have HT:=Vh Ta;clear Ta;go_wp2_with fail
    refine ⟨rfl,?_⟩
    have b0:=HT.out.cell 4 0 rfl 0;simp only [GE4] at b0;have k18:=HT.out.cell 0 0 rfl 18;have fk18:=HT.out.free 0 0 rfl 18;simp only [Qj,GE3] at k18;go_wp2
    refine Qc 3 (by kernel_rfl) (by kernel_rfl) ?_
    simp only [TD4]
    repeat (go_big_quiet_step ((first | (go_at_call 229;with_reducible exact Qi.quiet (qh3 _ HWB.out.1 HWB.out.2) HT.out _ [] rfl rfl))))
    refine wpQuiet_nil (QE fun nq=>?_)
    have HT:=Vh (HT.out.drewN nq);go_wp2_with fail
    refine ⟨rfl,?_⟩
    have HT:=Vh ((HT.out.set 0 0 rfl 18 (.int .u64 (X0 w2))).eq (H':=[Qm kb L.fb pv rv tv { k with gen:=X0 w2 },gq,gt,g1,[cl w.heap.size 33 #[Qd kb]],[cl (w.heap.size+1) 153 #[.nilFunc,.nilFunc]]]) rfl);clear b0 k18 fk18;generalize World.setCell _ _ _=w4 at HT ⊢;have b0:=HT.out.cell 4 0 rfl 0;simp only [GE4] at b0;obtain ⟨k3,k15,k18,k7,k8,k9,k10,k11⟩:=Ce8 (HT.out.cell 0 0 rfl) 3 15 18 7 8 9 10 11;obtain ⟨fk7,fk8,fk9,fk10,fk11⟩:=Ce5 (HT.out.free 0 0 rfl) 7 8 9 10 11;simp only [Qj,GE3] at k3 k15 k18 k7 k8 k9 k10 k11;go_wp2
    refine Qc 10 (by kernel_rfl) (by kernel_rfl) ?_
    simp only [TD4]
    repeat (go_big_quiet_step ((fail)))
    refine wpQuiet_nil (QE fun nq=>?_)
    have HT:=Vh (HT.out.drewN nq);go_wp2_with fail
    refine ⟨rfl,?_⟩
    have HT:=Vh ((((((HT.out.set 0 0 rfl 7 (.int .i64 0)).set 0 0 rfl 8 (.bool true)).set 0 0 rfl 9 (.int .u64 k.id)).set 0 0 rfl 10 (.int .u64 (X0 w2))).set 0 0 rfl 11 (.slice none 0 0)).eq (H':=[Qm kb L.fb pv rv tv { k with gen:=X0 w2,err:=0,ok:=true,aid:=k.id,agen:=X0 w2 },gq,gt,g1,[cl w.heap.size 33 #[Qd kb]],[cl (w.heap.size+1) 153 #[.nilFunc,.nilFunc]]]) rfl);clear b0 k3 k15 k18 k7 k8 k9 k10 k11 fk7 fk8 fk9 fk10 fk11;generalize World.setCell _ _ _=w5 at HT ⊢;have b0:=HT.out.cell 4 0 rfl 0;simp only [GE4] at b0;obtain ⟨k3,k5,k15,k18⟩:=Ce4 (HT.out.cell 0 0 rfl) 3 5 15 18;simp only [Qj,GE3] at k3 k5 k15 k18;go_wp2
    refine Qc 10 (by kernel_rfl) (by kernel_rfl) ?_
    simp only [TD4]
    repeat (go_big_quiet_step ((fail)))
    refine wpQuiet_nil (QE fun nq=>?_)
    have HT:=Vh (HT.out.drewN nq);go_wp2_with fail
    refine (Qa.use (X7 HX.out { ev0 with kind:=7,id:=k.id,gen:=X0 w2 } HLN.out) (HT.out) [0,3] rfl rfl).mono ?_
    rintro e w1 ⟨gs,⟨rfl,g2,hx2,rfl⟩,Ta⟩;simp only [PU] at Ta;have HX:=Vh hx2;clear hx2 k3 k5 k15 k18 b0;have HT:=Vh Ta;clear Ta;go_wp2_with fail
    refine ⟨rfl,?_⟩
    have b0:=HT.out.cell 4 0 rfl 0;simp only [GE4] at b0;go_wp2_with fail
    refine qkf (L:=L) (pv:=pv) (g0:=Qm kb L.fb pv rv tv { k with gen:=X0 w2,err:=0,ok:=true,aid:=k.id,agen:=X0 w2 }) (g1:=gq) (g2:=gt) (g3:=g2) HT.out ?_
    intro w9 m2 d2 g9 v113 v114 v115 v116 v117 v118 v119 v120 hs2 T9;have hv2:=(Qt L kb pv).vals hs2;have HS2:=Vh hs2;have HT:=Vh T9;clear T9 hs2 b0;obtain ⟨e0,e1⟩:=Ce2 (HT.out.cell 5 0 rfl) 0 1;simp only [GE4] at e0 e1;go_wp2
    exact bodyPost_ret (v:=.agg #[m2,d2]) (by simp [results,results188,go_sem,e0,e1]) rfl ⟨_,⟨m2,d2,g9,_,_,rfl,HS2.out,⟨_,_,gq,gt,HR.out,HTK.out,rfl,HX.out⟩,rfl⟩,(HT.out.pick [0,1,2,3,4] rfl).sum⟩
 ·rw [if_pos h0]
  have hbe:(er != 0)=true:=bne_iff_ne.2 h0;clear h0;by_cases h3:k.kind=3
  ·rw [if_pos h3]
   unfold MRz;dsimp only [Zi,okC]
   obtain ⟨rv,tv,gq,gt,hr,ht,rfl,hx⟩:=hz;refine GO fun w HT=>?_
   have HT:=Vh (HT.out.sum (H':=[Qm kb L.fb pv rv tv k,gq,gt,gF]));have HX:=Vh hx;have HR:=Vh hr;have HTK:=Vh ht;clear hx hr ht;go_enter func188,ntmps188
   go_wp2
   have HT:=Vh ((HT.out.alloc (k:=w.heap.size) rfl 33 #[Qd kb]).alloc (k:=w.heap.size+1) (by simp) 153 #[.nilFunc,.nilFunc]);generalize World.alloc _ _=wa at HT ⊢;simp only [List.cons_append,List.nil_append] at HT;have b0:=HT.out.cell 4 0 rfl 0;simp only [GE4] at b0;obtain ⟨k0,k16,k17⟩:=Ce3 (HT.out.cell 0 0 rfl) 0 16 17;simp only [Qj,GE3] at k0 k16 k17;refine Qc 15 (by kernel_rfl) (by kernel_rfl) ?_
   simp only [TD4]
   repeat (go_big_quiet_step ((first | (go_at_call 19;with_reducible exact Qi.quiet (Qq HX.out) HT.out _ [3] rfl rfl) | (go_at_call 226;with_reducible exact Qi.quiet (Zq (L:=L)) HT.out _ [0] rfl rfl))))
   refine wpQuiet_nil (QE fun nq=>?_)
   have HT:=Vh (HT.out.drewN nq);go_wp2_with fail
   refine (Qa.use (HTRY.out _ HX.out) (HT.out) [3] rfl rfl).mono ?_
   rintro e w1 ⟨gs,⟨rfl,g1,hx1,rfl⟩,Ta⟩;simp only [PU] at Ta;have HX:=Vh hx1;clear hx1 k0 k16 k17 b0;have HT:=Vh Ta;clear Ta;go_wp2_with fail
   refine ⟨rfl,?_⟩
   have b0:=HT.out.cell 4 0 rfl 0;simp only [GE4] at b0;have k18:=HT.out.cell 0 0 rfl 18;have fk18:=HT.out.free 0 0 rfl 18;simp only [Qj,GE3] at k18;go_wp2
   refine Qc 3 (by kernel_rfl) (by kernel_rfl) ?_
   simp only [TD4]
   repeat (go_big_quiet_step ((first | (go_at_call 229;with_reducible exact Qi.quiet (qh3 _ HWB.out.1 HWB.out.2) HT.out _ [] rfl rfl))))
   refine wpQuiet_nil (QE fun nq=>?_)
   have HT:=Vh (HT.out.drewN nq);go_wp2_with fail
   refine ⟨rfl,?_⟩
   have HT:=Vh ((HT.out.set 0 0 rfl 18 (.int .u64 (X0 w2))).eq (H':=[Qm kb L.fb pv rv tv { k with gen:=X0 w2 },gq,gt,g1,[cl w.heap.size 33 #[Qd kb]],[cl (w.heap.size+1) 153 #[.nilFunc,.nilFunc]]]) rfl);clear b0 k18 fk18;generalize World.setCell _ _ _=w4 at HT ⊢;have b0:=HT.out.cell 4 0 rfl 0;simp only [GE4] at b0;have k3:=HT.out.cell 0 0 rfl 3;simp only [Qj,GE3] at k3;rw [h3] at k3;clear h3;go_wp2_with fail
   refine Qa.run (Q7) (HT.out) [] ?_
   rintro e w1 gs ⟨rfl,rfl⟩ HT;simp only [PU] at HT;obtain ⟨e0,e1⟩:=Ce2 (HT.out.cell 5 0 rfl) 0 1;obtain ⟨fe0,fe1⟩:=Ce2 (HT.out.free 5 0 rfl) 0 1;simp only [GE4] at e0 e1;go_wp2
   exact bodyPost_ret (v:=.agg #[.nilFunc,.func (.func 221) #[Qd kb] #[]]) (by simp [results,results188,go_sem,e0,e1]) rfl ⟨_,⟨_,_,[],_,_,rfl,⟨rfl,rfl,rfl⟩,⟨_,_,gq,gt,HR.out,HTK.out,rfl,HX.out⟩,rfl⟩,(((HT.out.set 5 0 rfl 0 _).set 5 0 rfl 1 _).pick [0,1,2,3] rfl).sum⟩
  ·rw [if_neg h3]
   have hb3:(k.kind == 3)=false:=beq_eq_false_iff_ne.2 h3;clear h3;unfold MRz;dsimp only [Zi,okC]
   obtain ⟨rv,tv,gq,gt,hr,ht,rfl,hx⟩:=hz;refine GO fun w HT=>?_
   have HT:=Vh (HT.out.sum (H':=[Qm kb L.fb pv rv tv k,gq,gt,gF]));have HX:=Vh hx;have HR:=Vh hr;have HTK:=Vh ht;clear hx hr ht;go_enter func188,ntmps188
   go_wp2
   have HT:=Vh ((HT.out.alloc (k:=w.heap.size) rfl 33 #[Qd kb]).alloc (k:=w.heap.size+1) (by simp) 153 #[.nilFunc,.nilFunc]);generalize World.alloc _ _=wa at HT ⊢;simp only [List.cons_append,List.nil_append] at HT;have b0:=HT.out.cell 4 0 rfl 0;simp only [GE4] at b0;obtain ⟨k0,k16,k17⟩:=Ce3 (HT.out.cell 0 0 rfl) 0 16 17;simp only [Qj,GE3] at k0 k16 k17;refine Qc 15 (by kernel_rfl) (by kernel_rfl) ?_
   simp only [TD4]
   repeat (go_big_quiet_step ((first | (go_at_call 19;with_reducible exact Qi.quiet (Qq HX.out) HT.out _ [3] rfl rfl) | (go_at_call 226;with_reducible exact Qi.quiet (Zq (L:=L)) HT.out _ [0] rfl rfl))))
   refine wpQuiet_nil (QE fun nq=>?_)
   have HT:=Vh (HT.out.drewN nq);go_wp2_with fail
   refine (Qa.use (HTRY.out _ HX.out) (HT.out) [3] rfl rfl).mono ?_
   rintro e w1 ⟨gs,⟨rfl,g1,hx1,rfl⟩,Ta⟩;simp only [PU] at Ta;have HX:=Vh hx1;clear hx1 k0 k16 k17 b0;have HT:=Vh Ta;clear Ta;go_wp2_with fail
   refine ⟨rfl,?_⟩
   have b0:=HT.out.cell 4 0 rfl 0;simp only [GE4] at b0;have k18:=HT.out.cell 0 0 rfl 18;have fk18:=HT.out.free 0 0 rfl 18;simp only [Qj,GE3] at k18;go_wp2
   refine Qc 3 (by kernel_rfl) (by kernel_rfl) ?_
   simp only [TD4]
   repeat (go_big_quiet_step ((first | (go_at_call 229;with_reducible exact Qi.quiet (qh3 _ HWB.out.1 HWB.out.2) HT.out _ [] rfl rfl))))
   refine wpQuiet_nil (QE fun nq=>?_)
   have HT:=Vh (HT.out.drewN nq);go_wp2_with fail
   refine ⟨rfl,?_⟩
   have HT:=Vh ((HT.out.set 0 0 rfl 18 (.int .u64 (X0 w2))).eq (H':=[Qm kb L.fb pv rv tv { k with gen:=X0 w2 },gq,gt,g1,[cl w.heap.size 33 #[Qd kb]],[cl (w.heap.size+1) 153 #[.nilFunc,.nilFunc]]]) rfl);clear b0 k18 fk18;generalize World.setCell _ _ _=w4 at HT ⊢;have b0:=HT.out.cell 4 0 rfl 0;simp only [GE4] at b0;have k3:=HT.out.cell 0 0 rfl 3;simp only [Qj,GE3] at k3;go_wp2_with fail
   refine Qa.run (Q7) (HT.out) [] ?_
   rintro e w1 gs ⟨rfl,rfl⟩ HT;simp only [PU] at HT;obtain ⟨e0,e1⟩:=Ce2 (HT.out.cell 5 0 rfl) 0 1;obtain ⟨fe0,fe1⟩:=Ce2 (HT.out.free 5 0 rfl) 0 1;simp only [GE4] at e0 e1;go_wp2
   exact bodyPost_ret (v:=.agg #[.nilFunc,.func (.func 144) #[Qd kb] #[]]) (by simp [results,results188,go_sem,e0,e1]) rfl ⟨_,⟨_,_,[],_,_,rfl,⟨rfl,rfl,rfl⟩,⟨_,_,gq,gt,HR.out,HTK.out,rfl,HX.out⟩,rfl⟩,(((HT.out.set 5 0 rfl 0 _).set 5 0 rfl 1 _).pick [0,1,2,3] rfl).sum⟩
end
section
variable {L:Lay} {x:Qk} {gK gF:List Blk} {kb:Nat} {pv:Value} {k:Ql}
theorem qki (hz:q9 L kb pv k x gK gF) (hp:qr .queues (k,x)):Qa prog 186 #[Qd kb] [gK,gF] (MRz L kb pv (Xq .queues (k,x))):=by
 obtain ⟨hok,hwk,hpr⟩:=hp;simp only at hok hwk hpr;obtain ⟨⟨i,t⟩,htke⟩:=Option.isSome_iff_exists.1 hpr;obtain ⟨htb,hi⟩:=hwk.tk i t htke;obtain ⟨s,hs⟩:∃ s,x.shs[i]?=some s:=⟨_,List.getElem?_eq_getElem hi⟩;have hrb:=hok.ring s (List.mem_of_getElem? hs);have htb2:=qkk hrb htb;have HLN:=Vh hok.tr
 have hE:Xq .queues (k,x)=Q8 (k,x) i t s:=by
  show (match k.tk with | none=>_ | some (i,t)=>_)=_
  rw [htke]
  show (match x.shs[i]? with | none=>_ | some s=>_)=_
  rw [hs]
 rw [hE];obtain ⟨rv,tv,gq,gt,hr,ht,rfl,hx⟩:=hz;rw [htke] at ht;obtain ⟨tb,qs,hqs,rfl,rfl⟩:=ht;clear hE hwk hpr htke hi hok;obtain ⟨r2,t2,hr2⟩:∃ r2 t2,stepT s.ring t=(r2,t2):=⟨_,_,rfl⟩;rw [hr2] at htb2;have hst3:=htb2.st;simp only at hst3;clear htb2;by_cases h0:t2.status=0
 ·have hst:(stepT s.ring t).2.status=0:=by rw [hr2];exact h0
  have HZ:Q8 (k,x) i t s=(.at none .queues,({ k with tk:=some (i,t2) },{ x with shs:=x.shs.set i { s with ring:=r2 } })):=by unfold Q8;simp only [hr2];rw [if_pos h0]
  clear h0 hst3;rw [HZ];unfold MRz;dsimp only [Qf]
  clear HZ;refine GO fun w HT=>?_
  have HT:=Vh (HT.out.sum (H':=[Qm kb L.fb pv rv (Qd tb) k,gq,Qv tb qs.rb t,gF]));have HX:=Vh hx;have HR:=Vh hr;have HQS:=Vh hqs;have HTI:=Vh (Yy hx hqs hs tb t hrb htb);rw [hst,hr2] at HTI;clear hx hr hqs hs hrb htb;have k14:=HT.out.cell 0 0 rfl 14;simp only [Qj,GE3] at k14;have lt:=HT.out.lt 0 0 rfl;simp only [] at lt;clear hst hr2;go_enter func186,ntmps186
  go_wp2_with fail
  refine (Qa.use (HTI.out) (HT.out.alloc (k:=w.heap.size) rfl _ _) [2,3] rfl rfl).mono ?_
  rintro e w1 ⟨gs,⟨rfl,g1,hx1,rfl⟩,Ta⟩;simp only [PU] at Ta;have HX:=Vh hx1;clear hx1 k14 lt;have HT:=Vh Ta;clear Ta;have HT:=Vh (HT.out.eq (H':=[Qm kb L.fb pv rv (Qd tb) { k with tk:=some (i,t2) },gq,Qv tb qs.rb t2,g1,[cl w.heap.size 153 #[.nilFunc,.nilFunc]]]) rfl);have k3:=HT.out.cell 0 0 rfl 3;simp only [Qj,GE3] at k3;clear k3;go_wp2_with fail
  refine Qa.run (Q7) (HT.out) [] ?_
  rintro e w1 gs ⟨rfl,rfl⟩ HT;simp only [PU] at HT;obtain ⟨e0,e1⟩:=Ce2 (HT.out.cell 4 0 rfl) 0 1;obtain ⟨fe0,fe1⟩:=Ce2 (HT.out.free 4 0 rfl) 0 1;simp only [GE4] at e0 e1;go_wp2
  exact bodyPost_ret (v:=.agg #[.nilFunc,.func (.func 186) #[Qd kb] #[]]) (by simp [results,results186,go_sem,e0,e1]) rfl ⟨_,⟨_,_,[],_,_,rfl,⟨rfl,rfl,rfl⟩,⟨_,_,gq,(Qv tb qs.rb t2),HR.out,⟨tb,qs,HQS.out,rfl,rfl⟩,rfl,HX.out⟩,rfl⟩,(((HT.out.set 4 0 rfl 0 _).set 4 0 rfl 1 _).pick [0,1,2,3] rfl).sum⟩
 ·by_cases h1:t2.status=1
  ·have hst:(stepT s.ring t).2.status=1:=by rw [hr2];exact h1
   by_cases h3:k.kind=3
   ·have HZ:Q8 (k,x) i t s=(Xj,Qf 2 ({ k with tk:=some (i,t2) },{ x with shs:=x.shs.set i { s with ring:=r2 } })):=by unfold Q8;simp only [hr2];rw [if_neg h0,if_pos ⟨h1,h3⟩]
    clear h0 h1 hst3;rw [HZ];unfold MRz;dsimp only [Qf]
    clear HZ;refine GO fun w HT=>?_
    have HT:=Vh (HT.out.sum (H':=[Qm kb L.fb pv rv (Qd tb) k,gq,Qv tb qs.rb t,gF]));have HX:=Vh hx;have HR:=Vh hr;have HQS:=Vh hqs;have HTI:=Vh (Yy hx hqs hs tb t hrb htb);rw [hst,hr2] at HTI;clear hx hr hqs hs hrb htb;have k14:=HT.out.cell 0 0 rfl 14;simp only [Qj,GE3] at k14;have lt:=HT.out.lt 0 0 rfl;simp only [] at lt;clear hst hr2;go_enter func186,ntmps186
    go_wp2_with fail
    refine (Qa.use (HTI.out) (HT.out.alloc (k:=w.heap.size) rfl _ _) [2,3] rfl rfl).mono ?_
    rintro e w1 ⟨gs,⟨rfl,g1,hx1,rfl⟩,Ta⟩;simp only [PU] at Ta;have HX:=Vh hx1;clear hx1 k14 lt;have HT:=Vh Ta;clear Ta;have HT:=Vh (HT.out.eq (H':=[Qm kb L.fb pv rv (Qd tb) { k with tk:=some (i,t2) },gq,Qv tb qs.rb t2,g1,[cl w.heap.size 153 #[.nilFunc,.nilFunc]]]) rfl);have k3:=HT.out.cell 0 0 rfl 3;simp only [Qj,GE3] at k3;rw [h3] at k3;clear h3;go_wp2_with fail
    refine (Qa.use (Xu HX.out 2 HLN.out) (HT.out) [0,3] rfl rfl).mono ?_
    rintro e w1 ⟨gs,⟨rfl,g1,hx1,rfl⟩,Ta⟩;simp only [PU] at Ta;have HX:=Vh hx1;clear hx1;have HT:=Vh Ta;clear Ta;clear k3;go_wp2_with fail
    refine Qa.run (zt L kb pv) (HT.out) [] ?_
    rintro e w1 gs ⟨m2,d2,g2,rfl,hs2,rfl⟩ HT;simp only [PU] at HT;obtain ⟨e0,e1⟩:=Ce2 (HT.out.cell 4 0 rfl) 0 1;obtain ⟨fe0,fe1⟩:=Ce2 (HT.out.free 4 0 rfl) 0 1;simp only [GE4] at e0 e1;have hv2:=(Qt L kb pv).vals hs2;obtain ⟨st1,st2⟩:=Cli.store_fv2 (P:=prog) hv2.1 hv2.2 e0 fe0 e1 fe1;have HS:=Vh hs2;clear hv2 hs2;go_wp2
    exact bodyPost_ret (v:=.agg #[_,_]) (by simp [results,results186,go_sem,e0,e1]) rfl ⟨_,⟨m2,d2,g2,_,_,rfl,HS.out,⟨_,_,gq,(Qv tb qs.rb t2),HR.out,⟨tb,qs,HQS.out,rfl,rfl⟩,rfl,HX.out⟩,rfl⟩,(((HT.out.set 4 0 rfl 0 _).set 4 0 rfl 1 _).pick [0,1,2,3,5] rfl).sum⟩
   ·have HZ:Q8 (k,x) i t s=(.thn (.row2 .undo .drop) .leaves,({ k with tk:=some (i,t2) },{ x with shs:=x.shs.set i { s with ring:=r2 } })):=by unfold Q8;simp only [hr2];rw [if_neg h0,if_neg (fun h=>h3 h.2),if_pos h1]
    have hb3:(k.kind == 3)=false:=beq_eq_false_iff_ne.2 h3
    have hrow:∀ (b bf bl bi:Nat),(qdc L kb pv).SV (.row2 .undo .drop) .nilFunc (.func (.func 209) #[] #[Qd bf,Qd bl,Qd bi])
     ([cl bf 1 #[.func (.func 219) #[Qd kb] #[]],cl bl 322 #[.slice (some ⟨b,0,none⟩) 2 2],cl bi 3 #[.int .i64 0],cl b 1 #[.func (.func 219) #[Qd kb] #[],.func (.func 220) #[Qd kb] #[]]]++[]++[]) :=
     fun b bf bl bi=>⟨rfl,bf,bl,bi,b,_,_,[],[],rfl,⟨rfl,rfl⟩,⟨rfl,rfl⟩,rfl⟩
    have hthen:∀ (b bf bl bi:Nat),_:=fun b bf bl bi=>Cli.prog_then_cons (f:=MC.leaves) (v:=.func (.func 181) #[Qd kb] #[]) (gm:=[]) (Qt L kb pv) rfl (hrow b bf bl bi) ⟨rfl,rfl⟩
    have HTH:=Vh hthen;clear h0 h1 hst3 h3 hrow hthen;rw [HZ];unfold MRz;dsimp only [Qf]
    clear HZ;refine GO fun w HT=>?_
    have HT:=Vh (HT.out.sum (H':=[Qm kb L.fb pv rv (Qd tb) k,gq,Qv tb qs.rb t,gF]));have HX:=Vh hx;have HR:=Vh hr;have HQS:=Vh hqs;have HTI:=Vh (Yy hx hqs hs tb t hrb htb);rw [hst,hr2] at HTI;clear hx hr hqs hs hrb htb;have k14:=HT.out.cell 0 0 rfl 14;simp only [Qj,GE3] at k14;have lt:=HT.out.lt 0 0 rfl;simp only [] at lt;clear hst hr2;go_enter func186,ntmps186
    go_wp2_with fail
    refine (Qa.use (HTI.out) (HT.out.alloc (k:=w.heap.size) rfl _ _) [2,3] rfl rfl).mono ?_
    rintro e w1 ⟨gs,⟨rfl,g1,hx1,rfl⟩,Ta⟩;simp only [PU] at Ta;have HX:=Vh hx1;clear hx1 k14 lt;have HT:=Vh Ta;clear Ta;have HT:=Vh (HT.out.eq (H':=[Qm kb L.fb pv rv (Qd tb) { k with tk:=some (i,t2) },gq,Qv tb qs.rb t2,g1,[cl w.heap.size 153 #[.nilFunc,.nilFunc]]]) rfl);have k3:=HT.out.cell 0 0 rfl 3;simp only [Qj,GE3] at k3;go_wp2_with fail
    refine (Qa.use (Cli.row_1 (b:=w1.heap.size) (o:=0) (D:=#[.func (.func 219) #[Qd kb] #[],.func (.func 220) #[Qd kb] #[]]) rfl 2 (.inr rfl)) (HT.out.alloc (k:=w1.heap.size) rfl _ _) [5] rfl rfl).mono ?_
    rintro e w2 ⟨gs,⟨bf,bl,bi,rfl,rfl⟩,Ta⟩;simp only [PU] at Ta;have HT:=Vh Ta;clear Ta;clear k3;have HT:=Vh (HT.out.sum (H':=[Qm kb L.fb pv rv (Qd tb) { k with tk:=some (i,t2) },gq,Qv tb qs.rb t2,g1,[cl w.heap.size 153 #[.nilFunc,.nilFunc]],[cl bf 1 #[.func (.func 219) #[Qd kb] #[]],cl bl 322 #[.slice (some ⟨w1.heap.size,0,none⟩) 2 2],cl bi 3 #[.int .i64 0],cl w1.heap.size 1 #[.func (.func 219) #[Qd kb] #[],.func (.func 220) #[Qd kb] #[]]]++[]++[],[]]));go_wp2_with fail
    refine Qa.run (HTH.out _ _ _ _) (HT.out) [5,6] ?_
    rintro e w1 gs ⟨m2,d2,g2,rfl,hs2,rfl⟩ HT;simp only [PU] at HT;obtain ⟨e0,e1⟩:=Ce2 (HT.out.cell 4 0 rfl) 0 1;obtain ⟨fe0,fe1⟩:=Ce2 (HT.out.free 4 0 rfl) 0 1;simp only [GE4] at e0 e1;have hv2:=(Qt L kb pv).vals hs2;obtain ⟨st1,st2⟩:=Cli.store_fv2 (P:=prog) hv2.1 hv2.2 e0 fe0 e1 fe1;have HS:=Vh hs2;clear hv2 hs2;go_wp2
    exact bodyPost_ret (v:=.agg #[_,_]) (by simp [results,results186,go_sem,e0,e1]) rfl ⟨_,⟨m2,d2,g2,_,_,rfl,HS.out,⟨_,_,gq,Qv tb qs.rb t2,HR.out,⟨tb,qs,HQS.out,rfl,rfl⟩,rfl,HX.out⟩,rfl⟩,(((HT.out.set 4 0 rfl 0 _).set 4 0 rfl 1 _).pick [0,1,2,3,5] rfl).sum⟩
  ·have h2:t2.status=2:=by omega
   have hst:(stepT s.ring t).2.status=2:=by rw [hr2];exact h2
   by_cases h3:k.kind=3
   ·have HZ:Q8 (k,x) i t s=(.at none .again,({ k with tk:=some (i,t2) },{ x with shs:=x.shs.set i { s with ring:=r2 } })):=by unfold Q8;simp only [hr2];rw [if_neg h0,if_neg (fun h=>h1 h.1),if_neg h1,if_pos h3]
    clear h0 h1 hst3 h2;rw [HZ];unfold MRz;dsimp only [Qf]
    clear HZ;refine GO fun w HT=>?_
    have HT:=Vh (HT.out.sum (H':=[Qm kb L.fb pv rv (Qd tb) k,gq,Qv tb qs.rb t,gF]));have HX:=Vh hx;have HR:=Vh hr;have HQS:=Vh hqs;have HTI:=Vh (Yy hx hqs hs tb t hrb htb);rw [hst,hr2] at HTI;clear hx hr hqs hs hrb htb;have k14:=HT.out.cell 0 0 rfl 14;simp only [Qj,GE3] at k14;have lt:=HT.out.lt 0 0 rfl;simp only [] at lt;clear hst hr2;go_enter func186,ntmps186
    go_wp2_with fail
    refine (Qa.use (HTI.out) (HT.out.alloc (k:=w.heap.size) rfl _ _) [2,3] rfl rfl).mono ?_
    rintro e w1 ⟨gs,⟨rfl,g1,hx1,rfl⟩,Ta⟩;simp only [PU] at Ta;have HX:=Vh hx1;clear hx1 k14 lt;have HT:=Vh Ta;clear Ta;have HT:=Vh (HT.out.eq (H':=[Qm kb L.fb pv rv (Qd tb) { k with tk:=some (i,t2) },gq,Qv tb qs.rb t2,g1,[cl w.heap.size 153 #[.nilFunc,.nilFunc]]]) rfl);have k3:=HT.out.cell 0 0 rfl 3;simp only [Qj,GE3] at k3;rw [h3] at k3;clear h3;go_wp2_with fail
    refine Qa.run (Q7) (HT.out) [] ?_
    rintro e w1 gs ⟨rfl,rfl⟩ HT;simp only [PU] at HT;obtain ⟨e0,e1⟩:=Ce2 (HT.out.cell 4 0 rfl) 0 1;obtain ⟨fe0,fe1⟩:=Ce2 (HT.out.free 4 0 rfl) 0 1;simp only [GE4] at e0 e1;go_wp2
    exact bodyPost_ret (v:=.agg #[.nilFunc,.func (.func 221) #[Qd kb] #[]]) (by simp [results,results186,go_sem,e0,e1]) rfl ⟨_,⟨_,_,[],_,_,rfl,⟨rfl,rfl,rfl⟩,⟨_,_,gq,(Qv tb qs.rb t2),HR.out,⟨tb,qs,HQS.out,rfl,rfl⟩,rfl,HX.out⟩,rfl⟩,(((HT.out.set 4 0 rfl 0 _).set 4 0 rfl 1 _).pick [0,1,2,3] rfl).sum⟩
   ·have HZ:Q8 (k,x) i t s=(.at none .submits,({ k with tk:=some (i,t2) },{ x with shs:=x.shs.set i { s with ring:=r2 } })):=by unfold Q8;simp only [hr2];rw [if_neg h0,if_neg (fun h=>h1 h.1),if_neg h1,if_neg h3]
    have hb3:(k.kind == 3)=false:=beq_eq_false_iff_ne.2 h3;clear h0 h1 hst3 h2 h3;rw [HZ];unfold MRz;dsimp only [Qf]
    clear HZ;refine GO fun w HT=>?_
    have HT:=Vh (HT.out.sum (H':=[Qm kb L.fb pv rv (Qd tb) k,gq,Qv tb qs.rb t,gF]));have HX:=Vh hx;have HR:=Vh hr;have HQS:=Vh hqs;have HTI:=Vh (Yy hx hqs hs tb t hrb htb);rw [hst,hr2] at HTI;clear hx hr hqs hs hrb htb;have k14:=HT.out.cell 0 0 rfl 14;simp only [Qj,GE3] at k14;have lt:=HT.out.lt 0 0 rfl;simp only [] at lt;clear hst hr2;go_enter func186,ntmps186
    go_wp2_with fail
    refine (Qa.use (HTI.out) (HT.out.alloc (k:=w.heap.size) rfl _ _) [2,3] rfl rfl).mono ?_
    rintro e w1 ⟨gs,⟨rfl,g1,hx1,rfl⟩,Ta⟩;simp only [PU] at Ta;have HX:=Vh hx1;clear hx1 k14 lt;have HT:=Vh Ta;clear Ta;have HT:=Vh (HT.out.eq (H':=[Qm kb L.fb pv rv (Qd tb) { k with tk:=some (i,t2) },gq,Qv tb qs.rb t2,g1,[cl w.heap.size 153 #[.nilFunc,.nilFunc]]]) rfl);have k3:=HT.out.cell 0 0 rfl 3;simp only [Qj,GE3] at k3;go_wp2_with fail
    refine Qa.run (Q7) (HT.out) [] ?_
    rintro e w1 gs ⟨rfl,rfl⟩ HT;simp only [PU] at HT;obtain ⟨e0,e1⟩:=Ce2 (HT.out.cell 4 0 rfl) 0 1;obtain ⟨fe0,fe1⟩:=Ce2 (HT.out.free 4 0 rfl) 0 1;simp only [GE4] at e0 e1;go_wp2
    exact bodyPost_ret (v:=.agg #[.nilFunc,.func (.func 222) #[Qd kb] #[]]) (by simp [results,results186,go_sem,e0,e1]) rfl ⟨_,⟨_,_,[],_,_,rfl,⟨rfl,rfl,rfl⟩,⟨_,_,gq,(Qv tb qs.rb t2),HR.out,⟨tb,qs,HQS.out,rfl,rfl⟩,rfl,HX.out⟩,rfl⟩,(((HT.out.set 4 0 rfl 0 _).set 4 0 rfl 1 _).pick [0,1,2,3] rfl).sum⟩
end
section
variable {L:Lay} {x:Qk} {gK gF:List Blk} {kb:Nat} {pv:Value} {k:Ql}
theorem qjr (hz:q9 L kb pv k x gK gF) (hp:qr .submits (k,x)):Qa prog 222 #[Qd kb] [gK,gF] (MRz L kb pv (Xq .submits (k,x))):=by
 have HEV:=Vh (show ∀ g rv tv,Qh L x g→_ from fun g rv tv hx=>zf (kb:=kb) (pv:=pv) (rv:=rv) (tv:=tv) (k:=k) (g:=g) hx hp.1 2);have HLN:=Vh (show ({ x with slab:=(Z9 k.slot 2 x.slab).1 }:Qk).tr.length≤1000000 from hp.1.tr);have HZ:=Vh (show Xq .submits (k,x)=(.at none .fills,(qg 2 k x.slab,Yj (qg 2 k x.slab) { ev0 with kind:=3,id:=k.id,gen:=(qg 2 k x.slab).gen,dl:=k.cdl,per:=k.period } { x with slab:=(Z9 k.slot 2 x.slab).1 })) from rfl);rw [HZ.out];unfold MRz;dsimp only
 obtain ⟨k2,hk2⟩:∃ k2,qg 2 k x.slab=k2:=⟨_,rfl⟩;have HK:=Vh (show k2.id=k.id∧k2.cdl=k.cdl∧k2.period=k.period∧k2.rq=k.rq∧k2.tk=k.tk from by subst hk2;exact ⟨rfl,rfl,rfl,rfl,rfl⟩);rw [hk2] at HEV ⊢;clear hp hk2 HZ;obtain ⟨rv,tv,gq,gt,hr,ht,rfl,hx⟩:=hz;refine GO fun w HT=>?_
 have HT:=Vh (HT.out.sum (H':=[Qm kb L.fb pv rv tv k,gq,gt,gF]));have HX:=Vh hx;have HR:=Vh hr;have HTK:=Vh ht;clear hx hr ht;have HT:=Vh (HT.out.alloc (k:=w.heap.size) rfl 153 #[.nilFunc,.nilFunc]);go_enter func222,ntmps222
 go_wp2_with fail
 refine (Qa.use (HEV.out _ _ _ HX.out) (HT.out) [0,3] rfl rfl).mono ?_
 rintro e w1 ⟨gs,⟨rfl,g1,hx1,rfl⟩,Ta⟩;simp only [PU] at Ta;have HX:=Vh hx1;clear hx1;have HT:=Vh Ta;clear Ta;obtain ⟨k5,k15,k18⟩:=Ce3 (HT.out.cell 0 0 rfl) 5 15 18;simp only [Qj,GE3] at k5 k15 k18;go_wp2
 refine Qc 17 (by kernel_rfl) (by kernel_rfl) ?_
 simp only [TD4]
 repeat (go_big_quiet_step ((first | (go_at_call 142;with_reducible exact Qi.quiet (Jg (L:=L)) HT.out _ [0] rfl rfl))))
 refine wpQuiet_nil (QE fun nq=>?_)
 have HT:=Vh (HT.out.drewN nq);go_wp2_with fail
 refine (Qa.use (X7 HX.out { ev0 with kind:=3,id:=k2.id,gen:=k2.gen,dl:=k2.cdl,per:=k2.period } HLN.out) (HT.out) [0,3] rfl rfl).mono ?_
 rintro e w1 ⟨gs,⟨rfl,g2,hx2,rfl⟩,Ta⟩;simp only [PU] at Ta;have HX:=Vh hx2;clear hx2 k5 k15 k18;have HT:=Vh Ta;clear Ta;go_wp2_with fail
 refine ⟨rfl,?_⟩
 rw [HK.out.1,HK.out.2.1,HK.out.2.2.1] at HX;go_wp2_with fail
 refine Qa.run (Q7) (HT.out) [] ?_
 rintro e w1 gs ⟨rfl,rfl⟩ HT;simp only [PU] at HT;obtain ⟨e0,e1⟩:=Ce2 (HT.out.cell 4 0 rfl) 0 1;obtain ⟨fe0,fe1⟩:=Ce2 (HT.out.free 4 0 rfl) 0 1;simp only [GE4] at e0 e1;go_wp2
 exact bodyPost_ret (v:=.agg #[.nilFunc,.func (.func 230) #[Qd kb] #[]]) (by simp [results,results222,go_sem,e0,e1]) rfl ⟨_,⟨_,_,[],_,_,rfl,⟨rfl,rfl,rfl⟩,⟨_,_,gq,gt,(HK.out.2.2.2.1 ▸ HR.out),(HK.out.2.2.2.2 ▸ HTK.out),rfl,HX.out⟩,rfl⟩,(((HT.out.set 4 0 rfl 0 _).set 4 0 rfl 1 _).pick [0,1,2,3] rfl).sum⟩
theorem qlk (hz:q9 L kb pv k x gK gF) (hp:qr .fills (k,x)):Qa prog 230 #[Qd kb] [gK,gF] (MRz L kb pv (Xq .fills (k,x))):=by
 obtain ⟨hok,hwk,hpr⟩:=hp;simp only at hok hwk hpr;obtain ⟨⟨i,t⟩,htke⟩:=Option.isSome_iff_exists.1 hpr;obtain ⟨htb,hi⟩:=hwk.tk i t htke;obtain ⟨s,hs⟩:∃ s,x.shs[i]?=some s:=⟨_,List.getElem?_eq_getElem hi⟩;have hrb:=hok.ring s (List.mem_of_getElem? hs)
 have hE:Xh (Ze (k,x)) (k,x)=({ k with tk:=some (i,(Xi s.ring t (Ze (k,x))).2.1) },{ x with shs:=x.shs.set i { s with ring:=(Xi s.ring t (Ze (k,x))).1 } }):=by
  unfold Xh;simp only [htke,hs]
 have HZ:Xq .fills (k,x)=(Xj,(okC { k with tk:=some (i,(Xi s.ring t (Ze (k,x))).2.1) },{ x with shs:=x.shs.set i { s with ring:=(Xi s.ring t (Ze (k,x))).1 } })):=by
  show (Xj,(okC (Xh (Ze (k,x)) (k,x)).1,(Xh (Ze (k,x)) (k,x)).2))=_
  rw [hE]
 rw [HZ];unfold MRz;dsimp only [okC]
 obtain ⟨rv,tv,gq,gt,hr,ht,rfl,hx⟩:=hz;rw [htke] at ht;obtain ⟨tb,qs,hqs,rfl,rfl⟩:=ht;have HFI:=Vh (qez hx hqs hs tb t hrb htb (Ze (k,x)));have HPE:=Vh (qi hx hok.slab.n1 k.slot);have HTA:=Vh (show (Ze (k,x)).cells=#[.int .u64 k.id,.int .i64 k.slot,.int .u64 k.gen,.int .u64 k.cdl,.int .u64 (x.slab.period k.slot)] from rfl);rw [HTA.out] at HFI;generalize Xi s.ring t (Ze (k,x))=rt at *;refine GO fun w HT=>?_
 have HT:=Vh (HT.out.sum (H':=[Qm kb L.fb pv rv (Qd tb) k,gq,Qv tb qs.rb t,gF]));have HX:=Vh hx;have HR:=Vh hr;have HQS:=Vh hqs;clear hx hr hqs hs hrb htb hE HZ hok hwk hpr htke hi;obtain ⟨k0,k5,k14,k15,k16,k18⟩:=Ce6 (HT.out.cell 0 0 rfl) 0 5 14 15 16 18;simp only [Qj,GE3] at k0 k5 k14 k15 k16 k18;have lt:=HT.out.lt 0 0 rfl;simp only [] at lt;go_enter func230,ntmps230
 go_wp2
 have HT:=Vh (HT.out.alloc (k:=w.heap.size) rfl 153 #[.nilFunc,.nilFunc]);refine Qc 32 (by kernel_rfl) (by kernel_rfl) ?_
 simp only [TD4]
 repeat (go_big_quiet_step ((first | (go_at_call 19;with_reducible exact Qi.quiet (Qq HX.out) HT.out _ [3] rfl rfl) | (go_at_call 227;with_reducible exact Qi.quiet (HPE.out) HT.out _ [3] rfl rfl))))
 refine wpQuiet_nil (QE fun nq=>?_)
 have HT:=Vh (HT.out.drewN nq);go_wp2_with fail
 refine (Qa.use (HFI.out) (HT.out) [2,3] rfl rfl).mono ?_
 rintro e w1 ⟨gs,⟨rfl,g1,hx1,rfl⟩,Ta⟩;simp only [PU] at Ta;have HX:=Vh hx1;clear hx1 k0 k5 k14 k15 k16 k18 lt;have HT:=Vh Ta;clear Ta;go_wp2_with fail
 refine ⟨rfl,?_⟩
 obtain ⟨k15,k18,k7,k8,k9,k10,k11⟩:=Ce7 (HT.out.cell 0 0 rfl) 15 18 7 8 9 10 11;obtain ⟨fk7,fk8,fk9,fk10,fk11⟩:=Ce5 (HT.out.free 0 0 rfl) 7 8 9 10 11;simp only [Qj,GE3] at k15 k18 k7 k8 k9 k10 k11;go_wp2
 refine Qc 10 (by kernel_rfl) (by kernel_rfl) ?_
 simp only [TD4]
 repeat (go_big_quiet_step ((fail)))
 refine wpQuiet_nil (QE fun nq=>?_)
 have HT:=Vh (HT.out.drewN nq);go_wp2_with fail
 refine ⟨rfl,?_⟩
 have HT:=Vh ((((((HT.out.set 0 0 rfl 7 (.int .i64 0)).set 0 0 rfl 8 (.bool true)).set 0 0 rfl 9 (.int .u64 k.id)).set 0 0 rfl 10 (.int .u64 k.gen)).set 0 0 rfl 11 (.slice none 0 0)).eq (H':=[Qm kb L.fb pv rv (Qd tb) { k with tk:=some (i,rt.2.1),err:=0,ok:=true,aid:=k.id,agen:=k.gen },gq,Qv tb qs.rb rt.2.1,g1,[cl w.heap.size 153 #[.nilFunc,.nilFunc]]]) rfl);clear k15 k18 k7 k8 k9 k10 k11 fk7 fk8 fk9 fk10 fk11;go_wp2_with fail
 refine Qa.run (zt L kb pv) (HT.out) [] ?_
 rintro e w1 gs ⟨m2,d2,g2,rfl,hs2,rfl⟩ HT;simp only [PU] at HT;obtain ⟨e0,e1⟩:=Ce2 (HT.out.cell 4 0 rfl) 0 1;obtain ⟨fe0,fe1⟩:=Ce2 (HT.out.free 4 0 rfl) 0 1;simp only [GE4] at e0 e1;have hv2:=(Qt L kb pv).vals hs2;obtain ⟨st1,st2⟩:=Cli.store_fv2 (P:=prog) hv2.1 hv2.2 e0 fe0 e1 fe1;have HS:=Vh hs2;clear hv2 hs2;go_wp2
 exact bodyPost_ret (v:=.agg #[_,_]) (by simp [results,results230,go_sem,e0,e1]) rfl ⟨_,⟨m2,d2,g2,_,_,rfl,HS.out,⟨_,_,gq,(Qv tb qs.rb rt.2.1),HR.out,⟨tb,qs,HQS.out,rfl,rfl⟩,rfl,HX.out⟩,rfl⟩,(((HT.out.set 4 0 rfl 0 _).set 4 0 rfl 1 _).pick [0,1,2,3,5] rfl).sum⟩
end
section
variable {L:Lay} {x:Qk} {gK gF:List Blk} {kb:Nat} {pv:Value} {k:Ql}
def AR (L:Lay) (kb:Nat) (pv:Value) (z:ZC) (e:Ending) (gs:GH):Prop:=∃ gK' gF',e=.returned (.tuple #[])∧q9 L kb pv z.1 z.2 gK' gF'∧gs=[[],gK',gF']
theorem qmm (hz:q9 L kb pv k x gK gF) (hp:qc2 .ends1 (k,x)) (bk:Nat):Qa prog 179 #[Qd bk] [[cl bk 33 #[Qd kb]],gK,gF] (AR L kb pv (runA .ends1 (k,x))):=by
 have HLN:=Vh hp.1.tr;simp only at HLN;clear hp;unfold AR;dsimp only [runA,Zi]
 obtain ⟨rv,tv,gq,gt,hr,ht,rfl,hx⟩:=hz;refine GO fun w HT=>?_
 have HT:=Vh (HT.out.sum (H':=[Qm kb L.fb pv rv tv k,gq,gt,gF,[cl bk 33 #[Qd kb]]]));have HX:=Vh hx;have HR:=Vh hr;have HTK:=Vh ht;clear hx hr ht;obtain ⟨k7,k9,k10⟩:=Ce3 (HT.out.cell 0 0 rfl) 7 9 10;simp only [Qj,GE3] at k7 k9 k10;have b0:=HT.out.cell 4 0 rfl 0;simp only [GE4] at b0;go_enter func179,ntmps179
 go_wp2_with fail
 refine Qc 17 (by kernel_rfl) (by kernel_rfl) ?_
 simp only [TD4]
 repeat (go_big_quiet_step ((fail)))
 refine wpQuiet_nil (QE fun nq=>?_)
 have HT:=Vh (HT.out.drewN nq);go_wp2_with fail
 refine (Qa.use (X7 HX.out { ev0 with kind:=2,id:=k.aid,gen:=k.agen,err:=k.err } HLN.out) (HT.out) [0,3] rfl rfl).mono ?_
 rintro e w1 ⟨gs,⟨rfl,g2,hx2,rfl⟩,Ta⟩;simp only [PU] at Ta;have HX:=Vh hx2;clear hx2 k7 k9 k10 b0;have HT:=Vh Ta;clear Ta;go_wp2_with fail
 refine ⟨rfl,?_⟩
 go_wp2
 exact bodyPost_end (results_none rfl _ _ _) rfl ⟨_,⟨_,_,rfl,⟨_,_,gq,gt,HR.out,HTK.out,rfl,HX.out⟩,rfl⟩,(HT.out.pick [0,1,2,3] rfl).sum⟩
theorem qkq (hz:q9 L kb pv k x gK gF) (hp:qc2 .leaves1 (k,x)) (bk:Nat):Qa prog 212 #[Qd bk] [[cl bk 33 #[Qd kb]],gK,gF] (AR L kb pv (runA .leaves1 (k,x))):=by
 have HI:=Vh (And.intro hp.1.i0 hp.1.i1);simp only at HI;clear hp;unfold AR;dsimp only [runA]
 obtain ⟨rv,tv,gq,gt,hr,ht,rfl,hx⟩:=hz;refine GO fun w HT=>?_
 have HT:=Vh (HT.out.sum (H':=[Qm kb L.fb pv rv tv k,gq,gt,gF,[cl bk 33 #[Qd kb]]]));have HX:=Vh hx;have HR:=Vh hr;have HTK:=Vh ht;clear hx hr ht;have k0:=HT.out.cell 0 0 rfl 0;simp only [Qj,GE3] at k0;have b0:=HT.out.cell 4 0 rfl 0;simp only [GE4] at b0;go_enter func212,ntmps212
 go_wp2_with fail
 refine (Qa.use (qh0 HX.out HI.out) (HT.out) [3] rfl rfl).mono ?_
 rintro e w1 ⟨gs,⟨rfl,g2,hx2,rfl⟩,Ta⟩;simp only [PU] at Ta;have HX:=Vh hx2;clear hx2 k0 b0;have HT:=Vh Ta;clear Ta;go_wp2
 exact bodyPost_end (results_none rfl _ _ _) rfl ⟨_,⟨_,_,rfl,⟨_,_,gq,gt,HR.out,HTK.out,rfl,HX.out⟩,rfl⟩,(HT.out.pick [0,1,2,3] rfl).sum⟩
theorem ql8 (hz:q9 L kb pv k x gK gF) (hp:qc2 .tries1 (k,x)) (bk:Nat):Qa prog 231 #[Qd bk] [[cl bk 33 #[Qd kb]],gK,gF] (AR L kb pv (runA .tries1 (k,x))):=by
 have HOK:=Vh hp.1;simp only at HOK;clear hp;unfold AR;dsimp only [runA,Ja]
 obtain ⟨rv,tv,gq,gt,hr,ht,rfl,hx⟩:=hz;refine GO fun w HT=>?_
 have HT:=Vh (HT.out.sum (H':=[Qm kb L.fb pv rv tv k,gq,gt,gF,[cl bk 33 #[Qd kb]]]));have HX:=Vh hx;have HR:=Vh hr;have HTK:=Vh ht;clear hx hr ht;have b0:=HT.out.cell 4 0 rfl 0;simp only [GE4] at b0;go_enter func231,ntmps231
 go_wp2_with fail
 refine (Qa.use (zf HX.out HOK.out 10) (HT.out) [0,3] rfl rfl).mono ?_
 rintro e w1 ⟨gs,⟨rfl,g2,hx2,rfl⟩,Ta⟩;simp only [PU] at Ta;have HX:=Vh hx2;clear hx2 b0;have HT:=Vh Ta;clear Ta;go_wp2
 exact bodyPost_end (results_none rfl _ _ _) rfl ⟨_,⟨_,_,rfl,⟨_,_,gq,gt,HR.out,HTK.out,rfl,HX.out⟩,rfl⟩,(HT.out.pick [0,1,2,3] rfl).sum⟩
theorem qml (hz:q9 L kb pv k x gK gF) (hp:qc2 .undo (k,x)):Qa prog 219 #[Qd kb] [gK,gF] (AR L kb pv (runA .undo (k,x))):=by
 have HOK:=Vh hp.1;simp only at HOK;have HLN:=Vh (show ({ x with slab:=(Z9 k.slot 9 x.slab).1 }:Qk).tr.length≤1000000 from hp.1.tr);clear hp;unfold AR;dsimp only [runA,Ja,Qf]
 obtain ⟨rv,tv,gq,gt,hr,ht,rfl,hx⟩:=hz;refine GO fun w HT=>?_
 have HT:=Vh (HT.out.sum (H':=[Qm kb L.fb pv rv tv k,gq,gt,gF,[]]));have HX:=Vh hx;have HR:=Vh hr;have HTK:=Vh ht;clear hx hr ht;go_enter func219,ntmps219
 go_wp2_with fail
 refine (Qa.use (zf HX.out HOK.out 9) (HT.out) [0,3] rfl rfl).mono ?_
 rintro e w1 ⟨gs,⟨rfl,g1,hx1,rfl⟩,Ta⟩;simp only [PU] at Ta;have HX:=Vh hx1;clear hx1;have HT:=Vh Ta;clear Ta;go_wp2_with fail
 refine (Qa.use (Xu HX.out 2 HLN.out) (HT.out) [0,3] rfl rfl).mono ?_
 rintro e w1 ⟨gs,⟨rfl,g2,hx2,rfl⟩,Ta⟩;simp only [PU] at Ta;have HX:=Vh hx2;clear hx2;have HT:=Vh Ta;clear Ta;go_wp2
 exact bodyPost_end (results_none rfl _ _ _) rfl ⟨_,⟨_,_,rfl,⟨_,_,gq,gt,HR.out,HTK.out,rfl,HX.out⟩,rfl⟩,(HT.out.pick [0,1,2,3] rfl).sum⟩
theorem qme (hz:q9 L kb pv k x gK gF) (hp:qc2 .drop (k,x)):Qa prog 220 #[Qd kb] [gK,gF] (AR L kb pv (runA .drop (k,x))):=by
 have HC:=Vh (And.intro hp.1.slab.c0 (show x.slab.count≤64 by have:=hp.1.slab.c1;have:=hp.1.slab.n1;simp only at *;omega));simp only at HC;clear hp;unfold AR;dsimp only [runA]
 obtain ⟨rv,tv,gq,gt,hr,ht,rfl,hx⟩:=hz;refine GO fun w HT=>?_
 have HT:=Vh (HT.out.sum (H':=[Qm kb L.fb pv rv tv k,gq,gt,gF,[]]));have HX:=Vh hx;have HR:=Vh hr;have HTK:=Vh ht;clear hx hr ht;have k0:=HT.out.cell 0 0 rfl 0;simp only [Qj,GE3] at k0;go_enter func220,ntmps220
 go_wp2_with fail
 refine (Qi.use (Qq HX.out) (HT.out) [3] rfl rfl).mono ?_
 rintro e w1 ⟨rfl,mq,rfl⟩;have HT:=Vh (HT.out.drewN mq);generalize World.drewN _ _=wq at HT ⊢;go_wp2_with fail
 refine (Qa.use (qi3 HX.out HC.out.1 HC.out.2) (HT.out) [3] rfl rfl).mono ?_
 rintro e w1 ⟨gs,⟨rfl,g2,hx2,rfl⟩,Ta⟩;simp only [PU] at Ta;have HX:=Vh hx2;clear hx2 k0;have HT:=Vh Ta;clear Ta;go_wp2
 exact bodyPost_end (results_none rfl _ _ _) rfl ⟨_,⟨_,_,rfl,⟨_,_,gq,gt,HR.out,HTK.out,rfl,HX.out⟩,rfl⟩,(HT.out.pick [0,1,2,3] rfl).sum⟩
theorem qle (hz:q9 L kb pv k x gK gF) (hp:qc2 .again1 (k,x)) (bk:Nat):Qa prog 255 #[Qd bk] [[cl bk 33 #[Qd kb]],gK,gF] (AR L kb pv (runA .again1 (k,x))):=by
 obtain ⟨hok,hwk,hpr⟩:=hp;simp only at hok hwk hpr;obtain ⟨⟨i,t⟩,htke⟩:=Option.isSome_iff_exists.1 hpr;obtain ⟨htb,hi⟩:=hwk.tk i t htke;obtain ⟨s,hs⟩:∃ s,x.shs[i]?=some s:=⟨_,List.getElem?_eq_getElem hi⟩;have hrb:=hok.ring s (List.mem_of_getElem? hs)
 have hE:runA .again1 (k,x)=({ k with tk:=some (i,(Xi s.ring t { Qn.zero with slot:=-1 }).2.1) },{ x with shs:=x.shs.set i { s with ring:=(Xi s.ring t { Qn.zero with slot:=-1 }).1 } }):=by
  show Xh _ _=_
  unfold Xh;simp only [htke,hs]
 rw [hE];unfold AR;dsimp only
 obtain ⟨rv,tv,gq,gt,hr,ht,rfl,hx⟩:=hz;rw [htke] at ht;obtain ⟨tb,qs,hqs,rfl,rfl⟩:=ht;have HFI:=Vh (qez hx hqs hs tb t hrb htb { Qn.zero with slot:=-1 });have HTA:=Vh (show ({ Qn.zero with slot:=-1 }:Qn).cells=#[.int .u64 0,.int .i64 (-1),.int .u64 0,.int .u64 0,.int .u64 0] from rfl);rw [HTA.out] at HFI;generalize Xi s.ring t { Qn.zero with slot:=-1 }=rt at *;refine GO fun w HT=>?_
 have HT:=Vh (HT.out.sum (H':=[Qm kb L.fb pv rv (Qd tb) k,gq,Qv tb qs.rb t,gF,[cl bk 33 #[Qd kb]]]));have HX:=Vh hx;have HR:=Vh hr;have HQS:=Vh hqs;clear hx hr hqs hs hrb htb hE hok hwk hpr htke hi;have k14:=HT.out.cell 0 0 rfl 14;simp only [Qj,GE3] at k14;have b0:=HT.out.cell 4 0 rfl 0;simp only [GE4] at b0;go_enter func255,ntmps255
 go_wp2_with fail
 refine (Qa.use (HFI.out) (HT.out) [2,3] rfl rfl).mono ?_
 rintro e w1 ⟨gs,⟨rfl,g1,hx1,rfl⟩,Ta⟩;simp only [PU] at Ta;have HX:=Vh hx1;clear hx1 k14 b0;have HT:=Vh Ta;clear Ta;go_wp2
 exact bodyPost_end (results_none rfl _ _ _) rfl ⟨_,⟨_,_,rfl,⟨_,_,gq,Qv tb qs.rb rt.2.1,HR.out,⟨tb,qs,HQS.out,rfl,rfl⟩,rfl,HX.out⟩,rfl⟩,((HT.out.pick [0,1,2,3] rfl).eq (H':=[Qm kb L.fb pv rv (Qd tb) { k with tk:=some (i,rt.2.1) },gq,Qv tb qs.rb rt.2.1,g1]) rfl).sum⟩
end
section
variable {L:Lay} {x:Qk} {g gK gF:List Blk} {kb:Nat} {pv:Value} {k:Ql}
theorem qkz (hz:q9 L kb pv k x gK gF):Qa prog 138 #[Qd kb] [gK,gF] (MRz L kb pv (.row1 .ends1,(k,x))):=by
 intro w hw;refine (Qa.use (qgn L kb pv) (TG.refl hw) [] rfl rfl).mono ?_
 rintro e w' ⟨gs,⟨m,d,g',he,hs,rfl⟩,T⟩;exact ⟨_,⟨m,d,g',gK,gF,he,hs,hz,rfl⟩,T.pick [2,0,1] rfl⟩
theorem qhs (hz:q9 L kb pv k x gK gF):Qa prog 181 #[Qd kb] [gK,gF] (MRz L kb pv (Xj,(k,x))):=by
 intro w hw;refine (Qa.use (zt L kb pv) (TG.refl hw) [] rfl rfl).mono ?_
 rintro e w' ⟨gs,⟨m,d,g',he,hs,rfl⟩,T⟩;exact ⟨_,⟨m,d,g',gK,gF,he,hs,hz,rfl⟩,T.pick [2,0,1] rfl⟩
theorem mFn {fn:FuncId} {R:Ending→GH→Prop} (eg:∀ args w,(callFunc fn args).run prog w=.ok (.enter fn args) w) (h:Qa prog fn #[Qd kb] [gK,gF] R):FnG prog (.func (.func fn) #[Qd kb] #[]) [[],gK,gF] R :=
 ⟨fn,#[Qd kb],#[],rfl,eg,Qa.pre (by simpa using h) (by simp)⟩
theorem aFn {fn:FuncId} {bk:Nat} {gb:List Blk} {R:Ending→GH→Prop} (eg:∀ args w,(callFunc fn args).run prog w=.ok (.enter fn args) w) (h:Qa prog fn #[Qd bk] [gb,gK,gF] R):FnG prog (.func (.func fn) #[] #[Qd bk]) [gb,gK,gF] R :=
 ⟨fn,#[],#[Qd bk],rfl,eg,by simpa using h⟩
theorem Jp (L:Lay) (kb:Nat) (pv:Value):(qdc L kb pv).Ok where
 v:=Qt L kb pv
 y h:=h.elim
 m {f v g gK gF z} hv hz hp:=by
   obtain ⟨k,x⟩:=z;obtain ⟨rfl,rfl⟩:=hv;cases f with
   | right=>exact mFn (enters_of func81 (by kernel_rfl) rfl) (ql1 hz hp)
   | enter=>exact mFn (enters_of func82 (by kernel_rfl) rfl) (qln hz hp)
   | gate=>exact mFn (enters_of func83 (by kernel_rfl) rfl) (qmh hz hp)
   | asks=>exact mFn (enters_of func143 (by kernel_rfl) rfl) (qmq hz hp)
   | queues=>exact mFn (enters_of func186 (by kernel_rfl) rfl) (qki hz hp)
   | submits=>exact mFn (enters_of func222 (by kernel_rfl) rfl) (qjr hz hp)
   | fills=>exact mFn (enters_of func230 (by kernel_rfl) rfl) (qlk hz hp)
   | looks=>exact mFn (enters_of func144 (by kernel_rfl) rfl) (qlv hz hp)
   | again=>exact mFn (enters_of func221 (by kernel_rfl) rfl) (qma hz hp)
   | tries=>exact mFn (enters_of func188 (by kernel_rfl) rfl) (qlf hz hp)
   | ends=>exact mFn (enters_of func138 (by kernel_rfl) rfl) (qkz hz)
   | leaves=>exact mFn (enters_of func181 (by kernel_rfl) rfl) (qhs hz)
 a {f v g gK gF z} hv hz hp:=by
   obtain ⟨k,x⟩:=z;cases f with
   | ends1=>obtain ⟨bk,rfl,rfl⟩:=hv;exact aFn (enters_of func179 (by kernel_rfl) rfl) (qmm hz hp bk)
   | leaves1=>obtain ⟨bk,rfl,rfl⟩:=hv;exact aFn (enters_of func212 (by kernel_rfl) rfl) (qkq hz hp bk)
   | undo=>obtain ⟨rfl,rfl⟩:=hv;exact mFn (enters_of func219 (by kernel_rfl) rfl) (qml hz hp)
   | drop=>obtain ⟨rfl,rfl⟩:=hv;exact mFn (enters_of func220 (by kernel_rfl) rfl) (qme hz hp)
   | tries1=>obtain ⟨bk,rfl,rfl⟩:=hv;exact aFn (enters_of func231 (by kernel_rfl) rfl) (ql8 hz hp bk)
   | again1=>obtain ⟨bk,rfl,rfl⟩:=hv;exact aFn (enters_of func255 (by kernel_rfl) rfl) (qle hz hp bk)
end
def isWk (L:Lay) (kb:Nat) (pv:Value) (k:Ql) (gK:List Blk):Prop :=
 ∃ rv tv gq gt,qj0 L.p.sb k.rq rv gq∧qj5 L k.tk tv gt∧gK=Qm kb L.fb pv rv tv k++(gq++gt)
theorem qe1 {L:Lay} {kb:Nat} {pv:Value} {k:Ql} {x:Qk} {gK gF:List Blk}:q9 L kb pv k x gK gF↔isWk L kb pv k gK∧Qh L x gF :=
 ⟨fun ⟨rv,tv,gq,gt,a,b,c,d⟩=>⟨⟨rv,tv,gq,gt,a,b,c⟩,d⟩,fun ⟨⟨rv,tv,gq,gt,a,b,c⟩,d⟩=>⟨rv,tv,gq,gt,a,b,c,d⟩⟩
def Ya (L:Lay) (kb:Nat) (s:SC) (n:Int) (k:Ql) (g:List Blk):Prop :=
 ∃ pb m d gst gK,(qdc L kb (Qd pb)).SV s m d gst∧isWk L kb (Qd pb) k gK∧g=Cli.progB pb m d n++(gst++gK)
theorem qkl:∀ (s:SC) (z:ZC),St.preY (fun (_:Empty) (_:ZC)=>True) s z
 | .nil,_=>trivial
 | .at none _,_=>trivial
 | .at (some y) _,_=>y.elim
 | .row1 _,_=>trivial
 | .row2 _ _,_=>trivial
 | .thn s _,z=>qkl s z
theorem qhd {L:Lay} {kb:Nat} {pv:Value}:∀ {s:SC} {m d:Value} {g:List Blk},(qdc L kb pv).SV s m d g→m=.nilFunc
 | .nil,_,_,_,h=>h.1
 | .at none _,_,_,_,h=>h.1
 | .at (some y) _,_,_,_,_=>y.elim
 | .row1 _,_,_,_,h=>h.1
 | .row2 _ _,_,_,_,h=>h.1
 | .thn s _,_,_,_,h=>by obtain ⟨bs,br,ds,vm,gs,gm,_,_,hv,_⟩:=h;exact qhd hv
def preC (s:SC) (z:ZC):Prop:=St.pre Xq runA qr qc2 s z
def Xn (s:SC) (z:ZC):SC × ZC:=St.run Xq runA s z
structure Q9 where
 kind:Int
 id:Int
 dl:Int
 per:Int
def Q9.cells (c:Q9):Array Value:=#[.int .i64 c.kind,.int .u64 c.id,.int .u64 c.dl,.int .u64 c.per]
def Zj (th no:Int) (c:Q9):Ql:=⟨th,no,c.kind,c.id,c.dl,c.per,0,false,0,0,c.id,0,0,0,none,none⟩
def Qu (kind:Int):SC:=if kind=1∨kind=2 then .at none .right else if kind=3 then .at none .enter else .at none .gate
def qfq (err:Int) (ok:Bool) (id gen:Int):Array Value:=#[.int .i64 err,.bool ok,.int .u64 id,.int .u64 gen,.slice none 0 0]
section
variable {L:Lay} {x:Qk} {g gF:List Blk} {kb:Nat} {s:SC} {n:Int} {k:Ql}
theorem qek (hc:Ya L kb s n k g) (hx:Qh L x gF) (hp:preC s (k,x)) (hn:s.isNil=false) (hb:0≤n∧n≤1000000000) :
 Qa prog 16 #[Qd kb] [g,gF] fun e gs=>∃ g' gF',e=.returned (.bool true)∧Ya L kb (Xn s (k,x)).1 (n+1) (Xn s (k,x)).2.1 g'∧Qh L (Xn s (k,x)).2.2 gF'∧gs=[g',gF']:=by
 obtain ⟨pb,m,d,gst,gK,hs,⟨rv,tv,gq,gt,hr,ht,rfl⟩,rfl⟩:=hc;have hm0:=qhd hs;subst hm0;have hok:=Jp L kb (Qd pb);have hm:=Cli.may_nil (x:=((k,x):ZC)) hok hn hs;have hd:=Cli.prog_step (n:=n) hok hs (x:=((k,x):ZC)) (gK:=Qm kb L.fb (Qd pb) rv tv k++(gq++gt)) (gF:=gF) ⟨rv,tv,gq,gt,hr,ht,rfl,hx⟩ (qkl s _) hp pb hb hm;refine GO fun w HT=>?_
 have T1:=HT.out.sum (H':=[Qm kb L.fb (Qd pb) rv tv k,Cli.progB pb .nilFunc d n,gst,gq,gt,gF]);have k12:=T1.cell 0 0 rfl 12;simp only [Qj,GE3] at k12;have HD:=Vh hd;have HT:=Vh (HT.out.sum (H':=[Cli.progB pb .nilFunc d n,gst,Qm kb L.fb (Qd pb) rv tv k++(gq++gt),gF]));clear hs hr ht hx hp hn hb hok hm hd T1;go_enter func16,ntmps16
 go_wp2_with fail
 refine (Qa.use (HD.out) (HT.out) [0,1,2,3] rfl rfl).mono ?_
 rintro e w1 ⟨gs,⟨m',d',gst',gK',gF',rfl,hs',hx',rfl⟩,Ta⟩;simp only [PU] at Ta;have HS:=Vh hs';have HX:=Vh (qe1.1 hx');clear hs' hx' k12;have HT:=Vh Ta;clear Ta;go_wp2
 go_ret
 exact ⟨_,⟨_,gF',rfl,⟨pb,m',d',gst',gK',HS.out,HX.out.1,rfl⟩,HX.out.2,rfl⟩,HT.out.sum⟩
theorem qh (hc:Ya L kb .nil n k g) (hx:Qh L x gF) :
 Qa prog 16 #[Qd kb] [g,gF] fun e gs=>e=.returned (.bool false)∧∃ g' gF',Ya L kb .nil n k g'∧Qh L x gF'∧gs=[g',gF']:=by
 obtain ⟨pb,m,d,gst,gK,hs,⟨rv,tv,gq,gt,hr,ht,rfl⟩,rfl⟩:=hc;have hok:=Jp L kb (Qd pb);have hd:=Cli.prog_step_no (n:=n) hok hs (x:=((k,x):ZC)) (gK:=Qm kb L.fb (Qd pb) rv tv k++(gq++gt)) (gF:=gF) ⟨rv,tv,gq,gt,hr,ht,rfl,hx⟩ (qkl .nil _) pb rfl;refine GO fun w HT=>?_
 have T1:=HT.out.sum (H':=[Qm kb L.fb (Qd pb) rv tv k,Cli.progB pb m d n,gst,gq,gt,gF]);have k12:=T1.cell 0 0 rfl 12;simp only [Qj,GE3] at k12;have HD:=Vh hd;have HS:=Vh hs;have HT:=Vh (HT.out.sum (H':=[Cli.progB pb m d n,gst,Qm kb L.fb (Qd pb) rv tv k++(gq++gt),gF]));clear hs hr ht hx hok hd T1;go_enter func16,ntmps16
 go_wp2_with fail
 refine (Qa.use (HD.out) (HT.out) [0,1,2,3] rfl rfl).mono ?_
 rintro e w1 ⟨gs,⟨gK',gF',rfl,hx',rfl⟩,Ta⟩;simp only [PU] at Ta;have HX:=Vh (qe1.1 hx');clear hx' k12;have HT:=Vh Ta;clear Ta;go_wp2
 go_ret
 exact ⟨_,⟨rfl,_,gF',⟨pb,m,d,gst,gK',HS.out,HX.out.1,rfl⟩,HX.out.2,rfl⟩,HT.out.sum⟩
theorem qeo (hc:Ya L kb s n k g):Qi prog 89 #[Qd kb] [g] (.bool s.isNil):=by
 obtain ⟨pb,m,d,gst,gK,hs,⟨rv,tv,gq,gt,hr,ht,rfl⟩,rfl⟩:=hc;have hd:=Cli.prog_done (Jp L kb (Qd pb)) hs pb n;refine GO fun w HT=>?_
 have T1:=HT.out.sum (H':=[Qm kb L.fb (Qd pb) rv tv k,Cli.progB pb m d n,gst,gq,gt]);have k12:=T1.cell 0 0 rfl 12;simp only [Qj,GE3] at k12;have HD:=Vh hd;have HT:=Vh T1;clear hs hr ht hd T1;go_enter func89,ntmps89
 go_wp2_with fail
 refine (Qi.use (HD.out) (HT.out) [1] rfl rfl).mono ?_
 rintro e w1 ⟨rfl,mq,rfl⟩;go_wp2
 go_ret
 exact ⟨rfl,_,rfl⟩
theorem qaz (hc:Ya L kb s n k g) (hn:s.isNil=true):Qa prog 21 #[Qd kb] [g] fun e gs =>
 e=.returned (.tuple #[.agg (qfq k.err k.ok k.aid k.agen),.int .i64 0])∧gs=[g]:=by
 have hd:=qeo hc;rw [hn] at hd;obtain ⟨pb,m,d,gst,gK,hs,⟨rv,tv,gq,gt,hr,ht,rfl⟩,rfl⟩:=hc;refine GO fun w HT=>?_
 have HT:=Vh (HT.out.sum (H':=[Cli.progB pb m d n++(gst++(Qm kb L.fb (Qd pb) rv tv k++(gq++gt)))]));have HD:=Vh hd;have lt:=(HT.out.sum (H':=[Qm kb L.fb (Qd pb) rv tv k,Cli.progB pb m d n,gst,gq,gt])).lt 0 0 rfl;have HT:=Vh (HT.out.alloc (k:=w.heap.size) rfl 51 #[.int .i64 0,.bool false,.int .u64 0,.int .u64 0,.slice none 0 0]);simp only [] at lt;clear hs hr ht hd hn;go_enter func21,ntmps21
 go_wp2_with fail
 refine (Qi.use (HD.out) (HT.out) [0] rfl rfl).mono ?_
 rintro e w1 ⟨rfl,mq,rfl⟩;have HT:=Vh (HT.out.drewN mq);have HT:=Vh (HT.out.sum (H':=[Qm kb L.fb (Qd pb) rv tv k,Cli.progB pb m d n,gst,gq,gt,[cl w.heap.size 51 #[.int .i64 0,.bool false,.int .u64 0,.int .u64 0,.slice none 0 0]]]));generalize World.drewN _ _=wq at HT ⊢;obtain ⟨k7,k8,k9,k10,k11⟩:=Ce5 (HT.out.cell 0 0 rfl) 7 8 9 10 11;simp only [Qj,GE3] at k7 k8 k9 k10 k11;obtain ⟨e0,e1,e2,e3,e4⟩:=Ce5 (HT.out.cell 5 0 rfl) 0 1 2 3 4;obtain ⟨fe0,fe1,fe2,fe3,fe4⟩:=Ce5 (HT.out.free 5 0 rfl) 0 1 2 3 4;simp only [GE4] at e0 e1 e2 e3 e4;go_wp2
 exact bodyPost_ret (v:=.tuple #[.agg (qfq k.err k.ok k.aid k.agen),.int .i64 0]) (by simp [results,results21,go_sem,e0,e1,e2,e3,e4,qfq]) rfl ⟨_,⟨rfl,rfl⟩,(((((((HT.out.set 5 0 rfl 0 _).set 5 0 rfl 1 _).set 5 0 rfl 2 _).set 5 0 rfl 3 _).set 5 0 rfl 4 _).pick [0,1,2,3,4] rfl).sum)⟩
end
structure J4 (N:Int) (r:Qo):Prop where
 n0:1≤r.slots.length
 n1:r.slots.length≤64
 t0:0≤r.tail
 t1:r.tail≤N
 h0:0≤r.head
 h1:r.head≤N
structure zv (N:Int) (t:Q4):Prop where
 p0:0≤t.pos
 p1:t.pos≤N
 nx:t.next=0∨t.next=1∨t.next=2
 st:t.status=0∨t.status=1∨t.status=2
structure Xo (N:Nat) (x:Qk):Prop where
 slab:Xm x.slab
 i0:0≤x.f.inside
 i1:x.f.inside≤N
 tr:x.tr.length≤N
 sh:1≤x.shs.length
 ring:∀ s∈x.shs,J4 N s.ring
structure Xk (N:Nat) (k:Ql) (x:Qk):Prop where
 c0:0≤k.cdl∧k.cdl<18446744073709551616
 c1:0≤k.cper∧k.cper<18446744073709551616
 id:0≤k.id∧k.id<18446744073709551616
 slot:0≤k.slot
 saw:0≤k.saw∧k.saw<18446744073709551616∧okW k.saw=true
 rq:∀ q,k.rq=some q→qbi x.slab.recs.length q
 tk:∀ i t,k.tk=some (i,t)→zv N t∧i<x.shs.length
def qgp:SC→Ql→Prop
 | .nil,_=>True
 | .at none .right,_=>True
 | .at none .enter,_=>True
 | .at none .gate,_=>True
 | .at none .looks,_=>True
 | .at none .asks,k=>k.rq.isSome=true∧∀ q,k.rq=some q→q.st=0
 | .at none .queues,k=>k.tk.isSome=true
 | .at none .submits,k=>k.tk.isSome=true
 | .at none .fills,k=>k.tk.isSome=true
 | .at none .again,k=>k.tk.isSome=true
 | .at none .tries,k=>k.kind=3→k.tk.isSome=true
 | .row1 .ends1,_=>True
 | .thn (.row1 .leaves1) .ends,_=>True
 | .thn (.row2 .undo .drop) .leaves,_=>True
 | .thn (.row1 .drop) .leaves,_=>True
 | .thn (.row1 .again1) .leaves,k=>k.tk.isSome=true
 | .thn (.row2 .tries1 .drop) .ends,_=>True
 | .thn (.row1 .drop) .ends,_=>True
 | _,_=>False
theorem J4.mono {N M:Int} {r:Qo} (h:J4 N r) (hm:N≤M):J4 M r:=⟨h.n0,h.n1,h.t0,by have:=h.t1;omega,h.h0,by have:=h.h1;omega⟩
theorem J4.b {N:Int} {r:Qo} (h:J4 N r) (hm:N≤1000000):Yp r:=⟨h.n0,h.n1,h.t0,by have:=h.t1;omega,h.h0,by have:=h.h1;omega⟩
theorem zv.mono {N M:Int} {t:Q4} (h:zv N t) (hm:N≤M):zv M t:=⟨h.p0,by have:=h.p1;omega,h.nx,h.st⟩
theorem zv.b {N:Int} {t:Q4} (h:zv N t) (hm:N≤1000000):zg t:=⟨h.p0,by have:=h.p1;omega,h.nx,h.st⟩
theorem Xo.ok {N:Nat} {x:Qk} (h:Xo N x) (hN:N≤1000000):qas x :=
 ⟨h.slab,h.i0,by have:=h.i1;omega,by have:=h.tr;omega,h.sh,fun s hs=>(h.ring s hs).b (by omega)⟩
theorem Xo.mono {N M:Nat} {x:Qk} (h:Xo N x) (hm:N≤M):Xo M x :=
 ⟨h.slab,h.i0,by have:=h.i1;omega,by have:=h.tr;omega,h.sh,fun s hs=>(h.ring s hs).mono (by omega)⟩
theorem Xo.rings {N M:Nat} {x:Qk} (h:Xo N x) (hm:N≤M):∀ s∈x.shs,J4 M s.ring:=fun s hs=>(h.ring s hs).mono (by omega)
theorem Xk.ok {N:Nat} {k:Ql} {x:Qk} (h:Xk N k x) (hN:N≤1000000):qe0 k x :=
 ⟨h.c0,h.c1,h.id,h.slot,h.saw,h.rq,fun i t ht=>⟨(h.tk i t ht).1.b (by omega),(h.tk i t ht).2⟩⟩
theorem Xk.mono {N M:Nat} {k:Ql} {x:Qk} (h:Xk N k x) (hm:N≤M):Xk M k x :=
 ⟨h.c0,h.c1,h.id,h.slot,h.saw,h.rq,fun i t ht=>⟨(h.tk i t ht).1.mono (by omega),(h.tk i t ht).2⟩⟩
theorem Xk.core {N:Nat} {k:Ql} {x x':Qk} (h:Xk N k x) (h1:x'.slab.recs.length=x.slab.recs.length) (h2:x'.shs.length=x.shs.length):Xk N k x' :=
 ⟨h.c0,h.c1,h.id,h.slot,h.saw,fun q hq=>by rw [h1];exact h.rq q hq,fun i t ht=>⟨(h.tk i t ht).1,by rw [h2];exact (h.tk i t ht).2⟩⟩
theorem qkh {N:Int} {r:Qo} {t:Q4} (hr:J4 N r) (ht:zv N t):zv N (stepT r t).2∧J4 (N+1) (stepT r t).1:=by
 have h1:=hr.t0;have h2:=hr.t1;have ho:J4 (N+1) r:=hr.mono (by omega);unfold stepT qak Jm qo;split
 ·exact ⟨ht,ho⟩
 ·split
  ·exact ⟨⟨h1,h2,.inr (.inl rfl),ht.st⟩,ho⟩
  ·split
   ·split
    ·exact ⟨⟨ht.p0,ht.p1,.inl rfl,ht.st⟩,ho⟩
    ·split
     ·exact ⟨⟨ht.p0,ht.p1,ht.nx,.inr (.inl rfl)⟩,ho⟩
     ·exact ⟨⟨ht.p0,ht.p1,.inr (.inr rfl),ht.st⟩,ho⟩
   ·split
    ·exact ⟨⟨ht.p0,ht.p1,.inl rfl,.inr (.inr rfl)⟩,⟨hr.n0,hr.n1,by have:=ht.p0;simp only;omega,by have:=ht.p1;simp only;omega,hr.h0,by have:=hr.h1;simp only;omega⟩⟩
    ·exact ⟨⟨ht.p0,ht.p1,.inl rfl,ht.st⟩,ho⟩
theorem qk1 {N:Int} {r:Qo} {t:Q4} (v:Qn) (hr:J4 N r) (ht:zv N t):zv N (Xi r t v).2.1∧J4 N (Xi r t v).1:=by
 unfold Xi;split
 ·exact ⟨⟨ht.p0,ht.p1,ht.nx,ht.st⟩,⟨by simp only [List.length_set];exact hr.n0,by simp only [List.length_set];exact hr.n1,hr.t0,hr.t1,hr.h0,hr.h1⟩⟩
 ·exact ⟨ht,hr⟩
theorem qbd {N:Int} {l:List Qy} {i:Nat} {s:Qy} (h:∀ s∈l,J4 N s.ring) (hs:J4 N s.ring):∀ a∈l.set i s,J4 N a.ring:=by
 intro a ha;rcases List.mem_or_eq_of_mem_set ha with h1 | h1
 ·exact h a h1
 ·exact h1 ▸ hs
section
variable {N:Nat} {k:Ql} {x:Qk}
theorem Zg (h:Xo N x) (E:EvS):Xo (N+1) (Yj k E x) :=
 ⟨h.slab,h.i0,by have:=h.i1;show x.f.inside≤_;omega,by have:=h.tr;show (x.tr++[_]).length≤_;rw [List.length_append];simp;omega,h.sh,h.rings (by omega)⟩
theorem Ys (h:Xo N x) {s:Qg} (hs:Xm s):Xo N { x with slab:=s }:=⟨hs,h.i0,h.i1,h.tr,h.sh,h.ring⟩
theorem Zb (hc:Xo N x) (hk:Xk N k x) (e:Int):Xo (N+1) (Qf e (k,x)).2∧Xk (N+1) (Qf e (k,x)).1 (Qf e (k,x)).2 :=
 ⟨Zg hc _,((⟨hk.c0,hk.c1,hk.id,hk.slot,hk.saw,hk.rq,hk.tk⟩:Xk N (X1 e k) x).mono (M:=N+1) (by omega)).core rfl rfl⟩
theorem qdy (hc:Xo N x) (hk:Xk N k x) (ev:Int):Xo N (Ja ev (k,x)).2∧Xk N (Ja ev (k,x)).1 (Ja ev (k,x)).2:=by
 obtain ⟨h1,h2⟩:=qj6 hc.slab k.slot (x.slab.word k.slot) ev;exact ⟨Ys hc h1,(⟨hk.c0,hk.c1,hk.id,hk.slot,hk.saw,hk.rq,hk.tk⟩:Xk N (qg ev k x.slab) x).core h2 rfl⟩
theorem qj4 (hc:Xo N x) (hk:Xk N k x) (v:Qn):Xo N (Xh v (k,x)).2∧Xk N (Xh v (k,x)).1 (Xh v (k,x)).2:=by
 unfold Xh;simp only;split
 ·exact ⟨hc,hk⟩
 ·rename_i i t ht
  split
  ·exact ⟨hc,hk⟩
  ·rename_i s hs
   obtain ⟨htn,hi⟩:=hk.tk i t ht;have hrn:=hc.ring s (List.mem_of_getElem? hs);obtain ⟨a,b⟩:=qk1 v hrn htn;refine ⟨⟨hc.slab,hc.i0,hc.i1,hc.tr,by simpa using hc.sh,qbd hc.ring b⟩,⟨hk.c0,hk.c1,hk.id,hk.slot,hk.saw,hk.rq,fun i' t' h'=>?_⟩⟩
   cases h'
   exact ⟨a,by simpa using hi⟩
theorem qky (hc:Xo N x) (hk:Xk N k x) (a:AC):Xo (N+1) (runA a (k,x)).2∧Xk (N+1) (runA a (k,x)).1 (runA a (k,x)).2:=by
 cases a with
 | ends1=>exact ⟨Zg hc _,(hk.mono (M:=N+1) (by omega)).core rfl rfl⟩
 | leaves1 =>
   have h1:0≤Yr x.f.inside∧Yr x.f.inside≤N:=by have:=hc.i0;have:=hc.i1;unfold Yr;split <;> omega
   exact ⟨⟨hc.slab,h1.1,by have:=h1.2;show Yr x.f.inside≤_;omega,by have:=hc.tr;show x.tr.length≤_;omega,hc.sh,hc.rings (by omega)⟩,(hk.mono (M:=N+1) (by omega)).core rfl rfl⟩
 | undo =>
   obtain ⟨h1,h2⟩:=qdy hc hk 9;exact Zb h1 h2 2
 | drop =>
   obtain ⟨h1,h2⟩:=qks hc.slab;exact ⟨(Ys hc h1).mono (M:=N+1) (by omega),(hk.mono (M:=N+1) (by omega)).core h2 rfl⟩
 | tries1 =>
   obtain ⟨h1,h2⟩:=qdy hc hk 10;exact ⟨h1.mono (M:=N+1) (by omega),h2.mono (M:=N+1) (by omega)⟩
 | again1 =>
   obtain ⟨h1,h2⟩:=qj4 hc hk { Qn.zero with slot:=-1 };exact ⟨h1.mono (M:=N+1) (by omega),h2.mono (M:=N+1) (by omega)⟩
structure JC (N:Nat) (s:SC) (z:ZC):Prop where
 core:Xo N z.2
 work:Xk N z.1 z.2
 fit:qgp s z.1
theorem JC.pre {s:SC} {z:ZC} (h:JC N s z) (hN:N<1000000):preC s z:=by
 obtain ⟨k,x⟩:=z;obtain ⟨hc,hk,hf⟩:=h;simp only at hc hk hf;have ho:=hc.ok (by omega);have hw:=hk.ok (by omega);have hact:∀ a,qas (runA a (k,x)).2∧qe0 (runA a (k,x)).1 (runA a (k,x)).2:=fun a=>⟨(qky hc hk a).1.ok (by omega),(qky hc hk a).2.ok (by omega)⟩
 match s,hf with
 | .nil,_=>trivial
 | .at none .right,_=>exact ⟨ho,hw,trivial⟩
 | .at none .enter,_=>exact ⟨ho,hw,trivial⟩
 | .at none .gate,_=>exact ⟨ho,hw,trivial⟩
 | .at none .looks,_=>exact ⟨ho,hw,trivial⟩
 | .at none .asks,hf=>exact ⟨ho,hw,hf⟩
 | .at none .queues,hf=>exact ⟨ho,hw,hf⟩
 | .at none .submits,_=>exact ⟨ho,hw,trivial⟩
 | .at none .fills,hf=>exact ⟨ho,hw,hf⟩
 | .at none .again,_=>exact ⟨ho,hw,trivial⟩
 | .at none .tries,_=>exact ⟨ho,hw,trivial⟩
 | .row1 .ends1,_=>exact ⟨ho,hw,trivial⟩
 | .thn (.row1 .leaves1) .ends,_=>exact ⟨⟨ho,hw,trivial⟩,fun _=>⟨(hact .leaves1).1,(hact .leaves1).2,trivial⟩⟩
 | .thn (.row2 .undo .drop) .leaves,_=>exact ⟨⟨ho,hw,trivial⟩,fun h=>by cases h⟩
 | .thn (.row1 .drop) .leaves,_=>exact ⟨⟨ho,hw,trivial⟩,fun _=>⟨(hact .drop).1,(hact .drop).2,trivial⟩⟩
 | .thn (.row1 .again1) .leaves,hf=>exact ⟨⟨ho,hw,hf⟩,fun _=>⟨(hact .again1).1,(hact .again1).2,trivial⟩⟩
 | .thn (.row2 .tries1 .drop) .ends,_=>exact ⟨⟨ho,hw,trivial⟩,fun h=>by cases h⟩
 | .thn (.row1 .drop) .ends,_=>exact ⟨⟨ho,hw,trivial⟩,fun _=>⟨(hact .drop).1,(hact .drop).2,trivial⟩⟩
theorem zr (k k2:Ql):qgp (Q2 k) k2:=by
 unfold Q2 Xj;split <;> trivial
theorem qi6 {s:Qg} {q:Req} (h:q.st=0):(Q3 s q).2.st=0∨(Q3 s q).2.st=1∨(Q3 s q).2.st=2:=by
 unfold Q3;rw [if_neg (by omega)];split
 ·unfold Yu;split <;> simp [h]
 ·split
  ·unfold Jn;split <;> simp [h]
  ·unfold Jd;simp only;split <;> simp [h]
theorem qh2 (hc:Xo N x) (hk:Xk N k x):Xk N (lookW k x.slab).1 x:=by
 have hs:0≤x.slab.slot k.id:=by have:=hk.id.1;unfold Qg.slot;split <;> omega
 have hw:=qds hc.slab (x.slab.slot k.id);unfold lookW;split
 ·exact hk
 ·split
  ·exact ⟨hk.c0,hk.c1,hk.id,hs,hw,hk.rq,hk.tk⟩
  ·exact ⟨hk.c0,hk.c1,hk.id,hs,hw,hk.rq,hk.tk⟩
theorem qfb (hc:Xo N x) {slot:Int} (h:0≤slot):Zk slot x<x.shs.length:=by
 have hn:=hc.sh;have a:0≤slot % (x.shs.length:Int):=Int.emod_nonneg _ (by omega);have b:slot % (x.shs.length:Int)<x.shs.length:=Int.emod_lt_of_pos _ (by omega);unfold Zk;omega
theorem qcv:zv N Qx:=⟨by decide,by show (0:Int)≤N;omega,.inl rfl,.inl rfl⟩
theorem ql4 (hc:Xo N x) (hk:Xk N k x) (m:MC) (hf:qgp (.at none m) k):JC (N+1) (Xq m (k,x)).1 (Xq m (k,x)).2:=by
 have hc':=hc.mono (M:=N+1) (by omega);have hk':=hk.mono (M:=N+1) (by omega);have hre:∀ e s,qgp s (X1 e k)→JC (N+1) s (Qf e (k,x)):=fun e s hs=>⟨(Zb hc hk e).1,(Zb hc hk e).2,hs⟩
 cases m with
 | ends=>exact hf.elim
 | leaves=>exact hf.elim
 | right =>
   show JC (N+1) (if qdm k then _ else _:SC × ZC).1 (if qdm k then _ else _:SC × ZC).2
   split
   ·exact hre 1 _ trivial
   ·exact ⟨hc',hk',trivial⟩
 | enter=>exact ⟨⟨hc.slab,by have:=hc.i0;show 0≤x.f.inside+1;omega,by have:=hc.i1;show x.f.inside+1≤_;omega,hc'.tr,hc.sh,hc'.ring⟩,hk'.core rfl rfl,trivial⟩
 | gate =>
   show JC (N+1) (if x.f.closed=true then _ else _:SC × ZC).1 (if x.f.closed=true then _ else _:SC × ZC).2
   split
   ·exact hre 3 _ (zr _ _)
   ·split
    ·refine ⟨hc',⟨hk'.c0,hk'.c1,hk'.id,hk'.slot,hk'.saw,fun q hq=>?_,hk'.tk⟩,rfl,fun q hq=>?_⟩
     ·cases hq
      have h1:=hk.c1;have h2:=hc.slab.n0;refine ⟨?_,?_,by simp,by simp;omega,.inl rfl⟩
      ·show 0≤k.period;unfold Ql.period;split <;> omega
      ·show k.period < _;unfold Ql.period;split <;> omega
     ·cases hq;rfl
    ·exact ⟨hc',hk',trivial⟩
 | asks =>
   obtain ⟨hr,hq0⟩:=hf;obtain ⟨q,hq⟩:=Option.isSome_iff_exists.1 hr;have hE:Xq .asks (k,x)=Zp (k,x) q:=by show (match k.rq with | none=>_ | some q=>_)=_;rw [hq]
   rw [hE];have hst:=hq0 q hq;obtain ⟨h1,h2,h3⟩:=qjs hc.slab (hk.rq q hq);have hid:=qeu hc.slab (hk.rq q hq) hst;have h4:=qi6 (s:=x.slab) hst;unfold Zp;simp only;generalize Q3 x.slab q=r at *;have cx:Xo N { x with slab:=r.1 }:=Ys hc h1;have wk:Xk N { k with rq:=some r.2 } { x with slab:=r.1 }:=⟨hk.c0,hk.c1,hk.id,hk.slot,hk.saw,fun q' h'=>by cases h';show qbi r.1.recs.length r.2;rw [h3];exact h2,hk.tk⟩;split
   ·exact ⟨(Zb cx wk 2).1,(Zb cx wk 2).2,trivial⟩
   ·split
    ·next h5 =>
     obtain ⟨i0,i1⟩:=hid h5;refine ⟨cx.mono (M:=N+1) (by omega),⟨wk.c0,wk.c1,⟨i0,i1⟩,by show 0≤r.2.id % 64;omega,wk.saw,wk.rq,fun i t ht=>?_⟩,rfl⟩
     cases ht
     exact ⟨qcv,qfb hc (by omega)⟩
    ·next h6 h5 =>
     exact ⟨cx.mono (M:=N+1) (by omega),wk.mono (M:=N+1) (by omega),rfl,fun q' h'=>by cases h';omega⟩
 | queues =>
   obtain ⟨⟨i,t⟩,htk⟩:=Option.isSome_iff_exists.1 hf;obtain ⟨htn,hi⟩:=hk.tk i t htk;obtain ⟨s,hs⟩:∃ s,x.shs[i]?=some s:=⟨_,List.getElem?_eq_getElem hi⟩
   have hE:Xq .queues (k,x)=Q8 (k,x) i t s:=by
    show (match k.tk with | none=>_ | some (i,t)=>_)=_
    rw [htk]
    show (match x.shs[i]? with | none=>_ | some s=>_)=_
    rw [hs]
   rw [hE];obtain ⟨a,b⟩:=qkh (hc.ring s (List.mem_of_getElem? hs)) htn;unfold Q8;simp only;generalize stepT s.ring t=r at *;have cx:Xo (N+1) { x with shs:=x.shs.set i { s with ring:=r.1 } }:=⟨hc.slab,hc'.i0,hc'.i1,hc'.tr,by simpa using hc.sh,qbd hc'.ring (by simpa using b)⟩;have wk:Xk (N+1) { k with tk:=some (i,r.2) } { x with shs:=x.shs.set i { s with ring:=r.1 } }:=⟨hk.c0,hk.c1,hk.id,hk.slot,hk.saw,hk.rq,fun i' t' h'=>by cases h';exact ⟨a.mono (by omega),by simpa using hi⟩⟩;split
   ·exact ⟨cx,wk,rfl⟩
   ·split
    ·refine ⟨⟨cx.slab,cx.i0,cx.i1,?_,cx.sh,cx.ring⟩,(⟨wk.c0,wk.c1,wk.id,wk.slot,wk.saw,wk.rq,wk.tk⟩:Xk (N+1) (X1 2 { k with tk:=some (i,r.2) }) { x with shs:=x.shs.set i { s with ring:=r.1 } }).core rfl rfl,trivial⟩
     have:=hc.tr
     show (x.tr++[_]).length≤_
     rw [List.length_append];simp;omega
    ·split
     ·exact ⟨cx,wk,trivial⟩
     ·split
      ·exact ⟨cx,wk,rfl⟩
      ·exact ⟨cx,wk,rfl⟩
 | submits =>
   obtain ⟨h1,h2⟩:=qdy hc hk 2;exact ⟨Zg h1 _,(h2.mono (M:=N+1) (by omega)).core rfl rfl,hf⟩
 | fills =>
   obtain ⟨h1,h2⟩:=qj4 hc hk (Ze (k,x));refine ⟨h1.mono (M:=N+1) (by omega),?_,trivial⟩
   have h3:=h2.mono (M:=N+1) (by omega);exact ⟨h3.c0,h3.c1,h3.id,h3.slot,h3.saw,h3.rq,h3.tk⟩
 | looks =>
   have wk:=qh2 hc hk;obtain ⟨e1,e2,e3,e4⟩:=Ju k x.slab hk.slot hk.id.1
   show JC (N+1) (if (lookW k x.slab).2=0 then _ else _:SC × ZC).1 (if (lookW k x.slab).2=0 then _ else _:SC × ZC).2
   split
   ·show JC (N+1) (if k.kind=3 then _ else _:SC × ZC).1 (if k.kind=3 then _ else _:SC × ZC).2
    split
    ·refine ⟨hc',⟨wk.c0,wk.c1,wk.id,wk.slot,wk.saw,wk.rq,fun i t ht=>?_⟩,rfl⟩
     cases ht
     exact ⟨qcv,qfb hc e4⟩
    ·next h3=>exact ⟨hc',wk.mono (M:=N+1) (by omega),fun h=>absurd (e1.symm.trans h) h3⟩
   ·show JC (N+1) (if (lookW k x.slab).2=1 then _ else _:SC × ZC).1 (if (lookW k x.slab).2=1 then _ else _:SC × ZC).2
    split
    ·exact ⟨(Zb hc wk 1).1,(Zb hc wk 1).2,zr _ _⟩
    ·exact ⟨(Zb hc wk 0).1,(Zb hc wk 0).2,zr _ _⟩
 | again =>
   have wk:=qh2 hc hk;obtain ⟨e1,e2,e3,e4⟩:=Ju k x.slab hk.slot hk.id.1;have hf':(lookW k x.slab).1.tk.isSome=true:=by rw [e3];exact hf
   show JC (N+1) (if (lookW k x.slab).2=0 then _ else _:SC × ZC).1 (if (lookW k x.slab).2=0 then _ else _:SC × ZC).2
   split
   ·exact ⟨hc',wk.mono (M:=N+1) (by omega),fun _=>hf'⟩
   ·exact ⟨(Zb hc wk 0).1,(Zb hc wk 0).2,hf'⟩
 | tries =>
   obtain ⟨h1,h2⟩:=qj6 hc.slab k.slot k.saw k.event;have cx:Xo N (Xc (k,x)).1.2:=Ys hc h1;have wk:Xk N (Xc (k,x)).1.1 (Xc (k,x)).1.2:=(⟨hk.c0,hk.c1,hk.id,hk.slot,hk.saw,hk.rq,hk.tk⟩:Xk N (Xc (k,x)).1.1 x).core h2 rfl;have wo:Xk N (okC (Xc (k,x)).1.1) (Xc (k,x)).1.2:=⟨wk.c0,wk.c1,wk.id,wk.slot,wk.saw,wk.rq,wk.tk⟩
   show JC (N+1) (if (Xc (k,x)).2≠0 then _ else _:SC × ZC).1 (if (Xc (k,x)).2≠0 then _ else _:SC × ZC).2
   split
   ·show JC (N+1) (if k.kind=3 then _ else _:SC × ZC).1 (if k.kind=3 then _ else _:SC × ZC).2
    split
    ·next h3=>exact ⟨cx.mono (M:=N+1) (by omega),wk.mono (M:=N+1) (by omega),hf h3⟩
    ·exact ⟨cx.mono (M:=N+1) (by omega),wk.mono (M:=N+1) (by omega),trivial⟩
   ·show JC (N+1) (if k.kind=3 then _ else _:SC × ZC).1 (if k.kind=3 then _ else _:SC × ZC).2
    split
    ·next h3=>exact ⟨Zg cx _,(wo.mono (M:=N+1) (by omega)).core rfl rfl,hf h3⟩
    ·show JC (N+1) (if k.kind=5 then _ else _:SC × ZC).1 (if k.kind=5 then _ else _:SC × ZC).2
     split
     ·exact ⟨Zg cx _,(wo.mono (M:=N+1) (by omega)).core rfl rfl,trivial⟩
     ·exact ⟨Zg cx _,(wo.mono (M:=N+1) (by omega)).core rfl rfl,trivial⟩
theorem JC.step {s:SC} {z:ZC} (h:JC N s z):JC (N+1) (Xn s z).1 (Xn s z).2:=by
 obtain ⟨k,x⟩:=z;obtain ⟨hc,hk,hf⟩:=h;simp only at hc hk hf;have ha:=fun a=>qky hc hk a
 match s,hf with
 | .nil,_=>exact ⟨hc.mono (M:=N+1) (by omega),hk.mono (M:=N+1) (by omega),trivial⟩
 | .at none m,hf=>exact ql4 hc hk m hf
 | .row1 .ends1,_=>exact ⟨(ha .ends1).1,(ha .ends1).2,trivial⟩
 | .thn (.row1 .leaves1) .ends,_=>exact ⟨(ha .leaves1).1,(ha .leaves1).2,trivial⟩
 | .thn (.row2 .undo .drop) .leaves,_=>exact ⟨(ha .undo).1,(ha .undo).2,trivial⟩
 | .thn (.row1 .drop) .leaves,_=>exact ⟨(ha .drop).1,(ha .drop).2,trivial⟩
 | .thn (.row1 .again1) .leaves,_=>exact ⟨(ha .again1).1,(ha .again1).2,trivial⟩
 | .thn (.row2 .tries1 .drop) .ends,_=>exact ⟨(ha .tries1).1,(ha .tries1).2,trivial⟩
 | .thn (.row1 .drop) .ends,_=>exact ⟨(ha .drop).1,(ha .drop).2,trivial⟩
def itC:Nat→SC→ZC→SC × ZC
 | 0,s,z=>(s,z)
 | n+1,s,z=>itC n (Xn s z).1 (Xn s z).2
theorem JC.it {N:Nat}:∀ (n:Nat) {N:Nat} {s:SC} {z:ZC},JC N s z→JC (N+n) (itC n s z).1 (itC n s z).2
 | 0,_,_,_,h=>h
 | n+1,N,s,z,h=>by
   have:=JC.it (N:=N) n h.step;rwa [show N+1+n=N+(n+1) by omega] at this
end
end
end Go.Proofs.YtcneeepdclgdcaaGreat
