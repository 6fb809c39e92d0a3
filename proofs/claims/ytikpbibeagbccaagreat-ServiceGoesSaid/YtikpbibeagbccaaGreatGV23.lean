import Derived.Test.YtikpbibeagbccaaGreatGV22
import Derived.Test.YtikpbibeagbccaaGreatGV6
import Derived.Test.YtikpbibeagbccaaGreatGV14
set_option maxRecDepth 100000
set_option maxHeartbeats 4000000
namespace Go.Proofs.YtikpbibeagbccaaGreat
set_option linter.unusedVariables false
set_option linter.unusedSimpArgs false
open Go.Proofs.Tryz
section
open Go.RowKit Go.Shelf
section
variable {L:Lay} {kb:Nat} {pv:Value}
theorem qx7 {u0 u3 u4 u5 u6 u7 u8 u9 u10 u11 u12 u13 u14 u15 u16 u17 u18 u19 u20 u21 u22 u23 u24 u25 u26 u27 u28 u29 u30 u31 u32 u33 u34 u35 u36 u37 u38 u39 u40 u41 u42 u43 u44 u45 u46 u47 u48 u49 u50 u51 u52 u53 u54 u55 u56 u57 u58 u59 u60 u61 u62 u63 u64 u65 u66 u67 u68 u69 u70 u71 u72 u73 u74 u75 u76 u77 u78 u79 u80 u81 u82 u83 u84 u85 u86 u87 u88 u89 u90 u91 u92 u93 u94 u95 u96 u97 u98 u99 u100 u101 u102 u103 u104 u105 u106 u107 u108 u109 u110 u111 u112 u113 u114 u115 u116 u117 u118 u119 u120:Value} {bb rb:Nat} {K:Act→World→Prop} {Q':Exit→Act→World→Prop} {g0 g1 g2 g3:List Blk} {w0 w:World} {h:GH} (T:TG h w0 [g0,g1,g2,g3,[cl bb 135 #[Qb kb]],[cl rb 180 #[.nilFunc,.nilFunc]]] w)
 (hK:∀ w' m d g v113 v114 v115 v116 v117 v118 v119 v120,(qfe L kb pv).SV (.thn (.row2 .tries1 .drop) .ends) m d g→TG h w0 [g0,g1,g2,g3,g,[cl rb 180 #[m,d]]] w'→K { tmps:=#[u0,Qb bb,Qb rb,u3,u4,u5,u6,u7,u8,u9,u10,u11,u12,u13,u14,u15,u16,u17,u18,u19,u20,u21,u22,u23,u24,u25,u26,u27,u28,u29,u30,u31,u32,u33,u34,u35,u36,u37,u38,u39,u40,u41,u42,u43,u44,u45,u46,u47,u48,u49,u50,u51,u52,u53,u54,u55,u56,u57,u58,u59,u60,u61,u62,u63,u64,u65,u66,u67,u68,u69,u70,u71,u72,u73,u74,u75,u76,u77,u78,u79,u80,u81,u82,u83,u84,u85,u86,u87,u88,u89,u90,u91,u92,u93,u94,u95,u96,u97,u98,u99,u100,u101,u102,u103,u104,u105,u106,u107,u108,u109,u110,u111,u112,v113,v114,v115,v116,v117,v118,v119,v120],defers:=[] } w') :
 (qyk 16 Tryz.f155).wp prog (Exit.then K Q') { tmps:=#[u0,Qb bb,Qb rb,u3,u4,u5,u6,u7,u8,u9,u10,u11,u12,u13,u14,u15,u16,u17,u18,u19,u20,u21,u22,u23,u24,u25,u26,u27,u28,u29,u30,u31,u32,u33,u34,u35,u36,u37,u38,u39,u40,u41,u42,u43,u44,u45,u46,u47,u48,u49,u50,u51,u52,u53,u54,u55,u56,u57,u58,u59,u60,u61,u62,u63,u64,u65,u66,u67,u68,u69,u70,u71,u72,u73,u74,u75,u76,u77,u78,u79,u80,u81,u82,u83,u84,u85,u86,u87,u88,u89,u90,u91,u92,u93,u94,u95,u96,u97,u98,u99,u100,u101,u102,u103,u104,u105,u106,u107,u108,u109,u110,u111,u112,u113,u114,u115,u116,u117,u118,u119,u120],defers:=[] } w:=by
 refine qt8 (by rfl) ?_
 have hrow:∀ (bk b bf bl bi:Nat),(qfe L kb pv).SV (.row2 .tries1 .drop) .nilFunc (.func (.func 166) #[] #[Qb bf,Qb bl,Qb bi])
  ([cl bf 1 #[.func (.func 197) #[] #[Qb bk]],cl bl 282 #[.slice (some ⟨b,0,none⟩) 2 2],cl bi 3 #[.int .i64 0],cl b 1 #[.func (.func 197) #[] #[Qb bk],.func (.func 186) #[Qb kb] #[]]]++[cl bk 135 #[Qb kb]]++[]) :=
  fun bk b bf bl bi=>⟨rfl,bf,bl,bi,b,_,_,_,[],rfl,⟨bk,rfl,rfl⟩,⟨rfl,rfl⟩,rfl⟩
 have hthen:∀ (bk b bf bl bi:Nat),_:=fun bk b bf bl bi=>Cli.prog_then_x (f:=MC.ends) (v:=.func (.func 122) #[Qb kb] #[]) (gm:=[]) (Q5 L kb pv) rfl (hrow bk b bf bl bi) ⟨rfl,rfl⟩
 have hrow':=hrow;have HTH:=Vh hthen;have HT:=Vh T;have HK:=Vh hK;have b0:=T.cell 4 0 rfl 0;have ltb:=T.lt 4 0 rfl;have ltr:=T.lt 5 0 rfl;simp only [GE2] at b0 ltb ltr;clear T hK hrow hthen;have HRW:=Vh hrow';clear hrow'
 go_region_held3 (fun w'=>w'.cell? ⟨bb,0,none⟩=some (Qb kb))
  (first
  | exact HT2.out.cell 4 6 rfl 0
  | exact HT1.out.cell 4 4 rfl 0
  | exact (HT.out.drew.alloc (k:=w.heap.size) rfl _ _).cell 4 0 rfl 0
  | exact HT.out.drew.cell 4 0 rfl 0
  | exact HT.out.cell 4 0 rfl 0
  | exact ((HT2.out.set 5 0 rfl 0 _).set 5 0 rfl 1 _).cell 4 6 rfl 0)
  (first
  | (go_at_call 138
     refine (Qa.use (Cli.row_1 (b:=w.heap.size) (o:=0) (D:=#[.func (.func 197) #[] #[Qb bb],.func (.func 186) #[Qb kb] #[]]) rfl 2 (.inr rfl)) (HT.out.drew.alloc (k:=w.heap.size) rfl _ _) [6] rfl rfl).mono ?_
     rintro e w7 ⟨gs,⟨bf,bl,bi,rfl,rfl⟩,Ta⟩;simp only [PU] at Ta;have HT1:=Vh (Ta.sum (H':=[g0,g1,g2,g3,[cl bf 1 #[.func (.func 197) #[] #[Qb bb]],cl bl 282 #[.slice (some ⟨w.heap.size,0,none⟩) 2 2],cl bi 3 #[.int .i64 0],cl w.heap.size 1 #[.func (.func 197) #[] #[Qb bb],.func (.func 186) #[Qb kb] #[]]]++[cl bb 135 #[Qb kb]]++[],[cl rb 180 #[.nilFunc,.nilFunc]],[]]))
     clear Ta)
  | (go_at_call 140
     refine (Qa.use (HTH.out _ _ _ _ _) HT1.out [4,6] rfl rfl).mono ?_
     rintro e w8 ⟨gs,⟨bs,br,rfl,rfl⟩,Ta⟩;simp only [qc8,List.set_cons_zero,List.set_cons_succ] at Ta;obtain ⟨e0,e1⟩:=Ce2 (Ta.cell 5 0 rfl) 0 1;obtain ⟨f0,f1⟩:=Ce2 (Ta.free 5 0 rfl) 0 1;simp only [GE3] at e0 e1;have HT2:=Vh Ta
     clear Ta))
 all_goals
  exact HK.out _ _ _ _ _ _ _ _ _ _ _ _ ⟨bs,br,_,_,_,_,rfl,rfl,HRW.out _ _ _ _ _,⟨rfl,rfl⟩,rfl⟩ ((((HT2.out.set 5 0 rfl 0 _).set 5 0 rfl 1 _).pick [0,1,2,3,4,5] rfl).eq rfl)
end
theorem qqs (n:Int) (h0:0≤n) (h1:n<18446744073709551616):Qe prog 195 #[.int .u64 n] [] (.int .u64 (Zp n)) :=
 fun w hw=>(qbo n w h0 h1).mono fun e w' ⟨he,hw'⟩=>⟨he,0,hw'.symm⟩
section
variable {L:Lay} {x:Qj} {gK gF:List Blk} {kb:Nat} {pv:Value} {k:Qt}
theorem q0b (hz:qec L kb pv k x gK gF) (hp:qdq .tries (k,x)):Qa prog 155 #[Qb kb] [gK,gF] (MRz L kb pv (zr .tries (k,x))):=by
 obtain ⟨hok,hwk,_⟩:=hp;simp only at hok hwk;have hwb:=qh5 hok.slab k.slot k.saw k.event hwk.saw.1 hwk.saw.2.1 hwk.saw.2.2;have HTRY:=Vh (show ∀ g,Qf L x g→_ from fun g hx=>qch (g:=g) hx hok.slab.n1 k.slot k.saw k.event hwk.saw.1 hwk.saw.2.1)
 have hE:∀ s2 w2 er,x.slab.try k.slot k.saw k.event=(s2,w2,er)→zr .tries (k,x) =
  if er≠0 then (if k.kind=3 then (.at none .again,({ k with gen:=Zp w2 },{ x with slab:=s2 })) else (.at none .looks,({ k with gen:=Zp w2 },{ x with slab:=s2 })))
  else if k.kind=3 then (.at none .fills,z8 { ev0 with kind:=6,id:=k.id,gen:=Zp w2,dl:=k.cdl } (okC { k with gen:=Zp w2 },{ x with slab:=s2 }))
  else if k.kind=5 then (.row1 .ends1,z8 { ev0 with kind:=8,id:=k.id,gen:=Zp w2 } (okC { k with gen:=Zp w2 },{ x with slab:=s2 }))
  else (.thn (.row2 .tries1 .drop) .ends,z8 { ev0 with kind:=7,id:=k.id,gen:=Zp w2 } (okC { k with gen:=Zp w2 },{ x with slab:=s2 })):=by
  intro s2 w2 er h
  show (if (qx (k,x)).2≠0 then _ else _)=_
  simp only [qx,h]
 obtain ⟨s2,w2,er,hl⟩:∃ s2 w2 er,x.slab.try k.slot k.saw k.event=(s2,w2,er):=⟨_,_,_,rfl⟩;rw [hE s2 w2 er hl];rw [hl] at HTRY hwb;have HWB:=Vh hwb;have HLN:=Vh (show ({ x with slab:=s2 }:Qj).tr.length≤1000000 from hok.tr);clear hE hl hok hwk hwb;by_cases h0:er=0
 ·rw [if_neg (by simpa using h0)]
  rw [h0] at HTRY;clear h0;by_cases h3:k.kind=3
  ·rw [if_pos h3]
   unfold MRz;dsimp only [z8,okC]
   obtain ⟨rv,tv,gq,gt,hr,ht,rfl,hx⟩:=hz;refine GO fun w HT=>?_
   have HT:=Vh (HT.out.sum (H':=[Qq kb L.fb pv rv tv k,gq,gt,gF]));have HX:=Vh hx;have HR:=Vh hr;have HTK:=Vh ht;clear hx hr ht;go_enter func155,ntmps155
   go_wp2
   have HT:=Vh ((HT.out.alloc (k:=w.heap.size) rfl 135 #[Qb kb]).alloc (k:=w.heap.size+1) (by simp) 180 #[.nilFunc,.nilFunc]);generalize World.alloc _ _=wa at HT ⊢;simp only [List.cons_append,List.nil_append] at HT;have b0:=HT.out.cell 4 0 rfl 0;simp only [GE4] at b0;obtain ⟨k0,k16,k17⟩:=Ce3 (HT.out.cell 0 0 rfl) 0 16 17;simp only [Qo,GE3] at k0 k16 k17;refine Qc 15 (by kernel_rfl) (by kernel_rfl) ?_
   simp only [TD4]
   repeat (go_big_quiet_step ((first | (go_at_call 124;with_reducible exact Qe.quiet (Qk HX.out) HT.out _ [3] rfl rfl) | (go_at_call 192;with_reducible exact Qe.quiet (Yr (L:=L)) HT.out _ [0] rfl rfl))))
   refine wpQuiet_nil (QE fun nq=>?_)
   have HT:=Vh (HT.out.drewN nq);go_wp2_with fail
   refine (Qa.use (HTRY.out _ HX.out) (HT.out) [3] rfl rfl).mono ?_
   rintro e w1 ⟨gs,⟨rfl,g1,hx1,rfl⟩,Ta⟩;simp only [PU] at Ta;have HX:=Vh hx1;clear hx1 k0 k16 k17 b0;have HT:=Vh Ta;clear Ta;go_wp2_with fail
   refine ⟨rfl,?_⟩
   have b0:=HT.out.cell 4 0 rfl 0;simp only [GE4] at b0;have k18:=HT.out.cell 0 0 rfl 18;have fk18:=HT.out.free 0 0 rfl 18;simp only [Qo,GE3] at k18;go_wp2
   refine Qc 3 (by kernel_rfl) (by kernel_rfl) ?_
   simp only [TD4]
   repeat (go_big_quiet_step ((first | (go_at_call 195;with_reducible exact Qe.quiet (qqs _ HWB.out.1 HWB.out.2) HT.out _ [] rfl rfl))))
   refine wpQuiet_nil (QE fun nq=>?_)
   have HT:=Vh (HT.out.drewN nq);go_wp2_with fail
   refine ⟨rfl,?_⟩
   have HT:=Vh ((HT.out.set 0 0 rfl 18 (.int .u64 (Zp w2))).eq (H':=[Qq kb L.fb pv rv tv { k with gen:=Zp w2 },gq,gt,g1,[cl w.heap.size 135 #[Qb kb]],[cl (w.heap.size+1) 180 #[.nilFunc,.nilFunc]]]) rfl);clear b0 k18 fk18;generalize World.setCell _ _ _=w4 at HT ⊢;have b0:=HT.out.cell 4 0 rfl 0;simp only [GE4] at b0;obtain ⟨k3,k15,k18,k7,k8,k9,k10,k11⟩:=Ce8 (HT.out.cell 0 0 rfl) 3 15 18 7 8 9 10 11;obtain ⟨fk7,fk8,fk9,fk10,fk11⟩:=Ce5 (HT.out.free 0 0 rfl) 7 8 9 10 11;simp only [Qo,GE3] at k3 k15 k18 k7 k8 k9 k10 k11;go_wp2
   refine Qc 10 (by kernel_rfl) (by kernel_rfl) ?_
   simp only [TD4]
   repeat (go_big_quiet_step ((fail)))
   refine wpQuiet_nil (QE fun nq=>?_)
   have HT:=Vh (HT.out.drewN nq);go_wp2_with fail
   refine ⟨rfl,?_⟩
   have HT:=Vh ((((((HT.out.set 0 0 rfl 7 (.int .i64 0)).set 0 0 rfl 8 (.bool true)).set 0 0 rfl 9 (.int .u64 k.id)).set 0 0 rfl 10 (.int .u64 (Zp w2))).set 0 0 rfl 11 (.slice none 0 0)).eq (H':=[Qq kb L.fb pv rv tv { k with gen:=Zp w2,err:=0,ok:=true,aid:=k.id,agen:=Zp w2 },gq,gt,g1,[cl w.heap.size 135 #[Qb kb]],[cl (w.heap.size+1) 180 #[.nilFunc,.nilFunc]]]) rfl);clear b0 k3 k15 k18 k7 k8 k9 k10 k11 fk7 fk8 fk9 fk10 fk11;generalize World.setCell _ _ _=w5 at HT ⊢;have b0:=HT.out.cell 4 0 rfl 0;simp only [GE4] at b0;obtain ⟨k3,k5,k15,k18⟩:=Ce4 (HT.out.cell 0 0 rfl) 3 5 15 18;simp only [Qo,GE3] at k3 k5 k15 k18;rw [h3] at k3;clear h3;go_wp2
   refine Qc 15 (by kernel_rfl) (by kernel_rfl) ?_
   simp only [TD4]
   repeat (go_big_quiet_step ((fail)))
   refine wpQuiet_nil (QE fun nq=>?_)
   have HT:=Vh (HT.out.drewN nq);go_wp2_with fail
   refine (Qa.use (Js HX.out { ev0 with kind:=6,id:=k.id,gen:=Zp w2,dl:=k.cdl } HLN.out) (HT.out) [0,3] rfl rfl).mono ?_
   rintro e w1 ⟨gs,⟨rfl,g2,hx2,rfl⟩,Ta⟩;simp only [PU] at Ta;have HX:=Vh hx2;clear hx2 k3 k5 k15 k18 b0;have HT:=Vh Ta;clear Ta;go_wp2_with fail
   refine ⟨rfl,?_⟩
   have b0:=HT.out.cell 4 0 rfl 0;simp only [GE4] at b0;go_wp2_with fail
   refine Qa.run (Xr) (HT.out) [] ?_
   rintro e w1 gs ⟨rfl,rfl⟩ HT;simp only [PU] at HT;obtain ⟨e0,e1⟩:=Ce2 (HT.out.cell 5 0 rfl) 0 1;obtain ⟨fe0,fe1⟩:=Ce2 (HT.out.free 5 0 rfl) 0 1;simp only [GE4] at e0 e1;go_wp2
   exact bodyPost_ret (v:=.agg #[.nilFunc,.func (.func 196) #[Qb kb] #[]]) (by simp [results,results155,go_sem,e0,e1]) rfl ⟨_,⟨_,_,[],_,_,rfl,⟨rfl,rfl,rfl⟩,⟨_,_,gq,gt,HR.out,HTK.out,rfl,HX.out⟩,rfl⟩,(((HT.out.set 5 0 rfl 0 _).set 5 0 rfl 1 _).pick [0,1,2,3] rfl).sum⟩
  ·rw [if_neg h3]
   by_cases h5:k.kind=5
   ·rw [if_pos h5]
    clear h3;unfold MRz;dsimp only [z8,okC]
    obtain ⟨rv,tv,gq,gt,hr,ht,rfl,hx⟩:=hz;refine GO fun w HT=>?_
    have HT:=Vh (HT.out.sum (H':=[Qq kb L.fb pv rv tv k,gq,gt,gF]));have HX:=Vh hx;have HR:=Vh hr;have HTK:=Vh ht;clear hx hr ht;go_enter func155,ntmps155
    go_wp2
    have HT:=Vh ((HT.out.alloc (k:=w.heap.size) rfl 135 #[Qb kb]).alloc (k:=w.heap.size+1) (by simp) 180 #[.nilFunc,.nilFunc]);generalize World.alloc _ _=wa at HT ⊢;simp only [List.cons_append,List.nil_append] at HT;have b0:=HT.out.cell 4 0 rfl 0;simp only [GE4] at b0;obtain ⟨k0,k16,k17⟩:=Ce3 (HT.out.cell 0 0 rfl) 0 16 17;simp only [Qo,GE3] at k0 k16 k17;refine Qc 15 (by kernel_rfl) (by kernel_rfl) ?_
    simp only [TD4]
    repeat (go_big_quiet_step ((first | (go_at_call 124;with_reducible exact Qe.quiet (Qk HX.out) HT.out _ [3] rfl rfl) | (go_at_call 192;with_reducible exact Qe.quiet (Yr (L:=L)) HT.out _ [0] rfl rfl))))
    refine wpQuiet_nil (QE fun nq=>?_)
    have HT:=Vh (HT.out.drewN nq);go_wp2_with fail
    refine (Qa.use (HTRY.out _ HX.out) (HT.out) [3] rfl rfl).mono ?_
    rintro e w1 ⟨gs,⟨rfl,g1,hx1,rfl⟩,Ta⟩;simp only [PU] at Ta;have HX:=Vh hx1;clear hx1 k0 k16 k17 b0;have HT:=Vh Ta;clear Ta;go_wp2_with fail
    refine ⟨rfl,?_⟩
    have b0:=HT.out.cell 4 0 rfl 0;simp only [GE4] at b0;have k18:=HT.out.cell 0 0 rfl 18;have fk18:=HT.out.free 0 0 rfl 18;simp only [Qo,GE3] at k18;go_wp2
    refine Qc 3 (by kernel_rfl) (by kernel_rfl) ?_
    simp only [TD4]
    repeat (go_big_quiet_step ((first | (go_at_call 195;with_reducible exact Qe.quiet (qqs _ HWB.out.1 HWB.out.2) HT.out _ [] rfl rfl))))
    refine wpQuiet_nil (QE fun nq=>?_)
    have HT:=Vh (HT.out.drewN nq);go_wp2_with fail
    refine ⟨rfl,?_⟩
    have HT:=Vh ((HT.out.set 0 0 rfl 18 (.int .u64 (Zp w2))).eq (H':=[Qq kb L.fb pv rv tv { k with gen:=Zp w2 },gq,gt,g1,[cl w.heap.size 135 #[Qb kb]],[cl (w.heap.size+1) 180 #[.nilFunc,.nilFunc]]]) rfl);clear b0 k18 fk18;generalize World.setCell _ _ _=w4 at HT ⊢;have b0:=HT.out.cell 4 0 rfl 0;simp only [GE4] at b0;obtain ⟨k3,k15,k18,k7,k8,k9,k10,k11⟩:=Ce8 (HT.out.cell 0 0 rfl) 3 15 18 7 8 9 10 11;obtain ⟨fk7,fk8,fk9,fk10,fk11⟩:=Ce5 (HT.out.free 0 0 rfl) 7 8 9 10 11;simp only [Qo,GE3] at k3 k15 k18 k7 k8 k9 k10 k11;go_wp2
    refine Qc 10 (by kernel_rfl) (by kernel_rfl) ?_
    simp only [TD4]
    repeat (go_big_quiet_step ((fail)))
    refine wpQuiet_nil (QE fun nq=>?_)
    have HT:=Vh (HT.out.drewN nq);go_wp2_with fail
    refine ⟨rfl,?_⟩
    have HT:=Vh ((((((HT.out.set 0 0 rfl 7 (.int .i64 0)).set 0 0 rfl 8 (.bool true)).set 0 0 rfl 9 (.int .u64 k.id)).set 0 0 rfl 10 (.int .u64 (Zp w2))).set 0 0 rfl 11 (.slice none 0 0)).eq (H':=[Qq kb L.fb pv rv tv { k with gen:=Zp w2,err:=0,ok:=true,aid:=k.id,agen:=Zp w2 },gq,gt,g1,[cl w.heap.size 135 #[Qb kb]],[cl (w.heap.size+1) 180 #[.nilFunc,.nilFunc]]]) rfl);clear b0 k3 k15 k18 k7 k8 k9 k10 k11 fk7 fk8 fk9 fk10 fk11;generalize World.setCell _ _ _=w5 at HT ⊢;have b0:=HT.out.cell 4 0 rfl 0;simp only [GE4] at b0;obtain ⟨k3,k5,k15,k18⟩:=Ce4 (HT.out.cell 0 0 rfl) 3 5 15 18;simp only [Qo,GE3] at k3 k5 k15 k18;rw [h5] at k3;clear h5;go_wp2
    refine Qc 10 (by kernel_rfl) (by kernel_rfl) ?_
    simp only [TD4]
    repeat (go_big_quiet_step ((fail)))
    refine wpQuiet_nil (QE fun nq=>?_)
    have HT:=Vh (HT.out.drewN nq);go_wp2_with fail
    refine (Qa.use (Js HX.out { ev0 with kind:=8,id:=k.id,gen:=Zp w2 } HLN.out) (HT.out) [0,3] rfl rfl).mono ?_
    rintro e w1 ⟨gs,⟨rfl,g2,hx2,rfl⟩,Ta⟩;simp only [PU] at Ta;have HX:=Vh hx2;clear hx2 k3 k5 k15 k18 b0;have HT:=Vh Ta;clear Ta;go_wp2_with fail
    refine ⟨rfl,?_⟩
    have b0:=HT.out.cell 4 0 rfl 0;simp only [GE4] at b0;go_wp2_with fail
    refine Qa.run (qoe L kb pv) (HT.out) [] ?_
    rintro e w1 gs ⟨m2,d2,g2,rfl,hs2,rfl⟩ HT;simp only [PU] at HT;obtain ⟨e0,e1⟩:=Ce2 (HT.out.cell 5 0 rfl) 0 1;obtain ⟨fe0,fe1⟩:=Ce2 (HT.out.free 5 0 rfl) 0 1;simp only [GE4] at e0 e1;have hv2:=(Q5 L kb pv).vals hs2;obtain ⟨st1,st2⟩:=Cli.store_fv2 (P:=prog) hv2.1 hv2.2 e0 fe0 e1 fe1;have HS:=Vh hs2;clear hv2 hs2;go_wp2
    exact bodyPost_ret (v:=.agg #[_,_]) (by simp [results,results155,go_sem,e0,e1]) rfl ⟨_,⟨m2,d2,g2,_,_,rfl,HS.out,⟨_,_,gq,gt,HR.out,HTK.out,rfl,HX.out⟩,rfl⟩,(((HT.out.set 5 0 rfl 0 _).set 5 0 rfl 1 _).pick [0,1,2,3,6] rfl).sum⟩
   ·rw [if_neg h5]
    have hb3:(k.kind == 3)=false:=beq_eq_false_iff_ne.2 h3;have hb5:(k.kind == 5)=false:=beq_eq_false_iff_ne.2 h5;clear h3 h5;unfold MRz;dsimp only [z8,okC]
    obtain ⟨rv,tv,gq,gt,hr,ht,rfl,hx⟩:=hz;refine GO fun w HT=>?_
    have HT:=Vh (HT.out.sum (H':=[Qq kb L.fb pv rv tv k,gq,gt,gF]));have HX:=Vh hx;have HR:=Vh hr;have HTK:=Vh ht;clear hx hr ht;go_enter func155,ntmps155
    go_wp2
    have HT:=Vh ((HT.out.alloc (k:=w.heap.size) rfl 135 #[Qb kb]).alloc (k:=w.heap.size+1) (by simp) 180 #[.nilFunc,.nilFunc]);generalize World.alloc _ _=wa at HT ⊢;simp only [List.cons_append,List.nil_append] at HT;have b0:=HT.out.cell 4 0 rfl 0;simp only [GE4] at b0;obtain ⟨k0,k16,k17⟩:=Ce3 (HT.out.cell 0 0 rfl) 0 16 17;simp only [Qo,GE3] at k0 k16 k17;refine Qc 15 (by kernel_rfl) (by kernel_rfl) ?_
    simp only [TD4]
    repeat (go_big_quiet_step ((first | (go_at_call 124;with_reducible exact Qe.quiet (Qk HX.out) HT.out _ [3] rfl rfl) | (go_at_call 192;with_reducible exact Qe.quiet (Yr (L:=L)) HT.out _ [0] rfl rfl))))
    refine wpQuiet_nil (QE fun nq=>?_)
    have HT:=Vh (HT.out.drewN nq);go_wp2_with fail
    refine (Qa.use (HTRY.out _ HX.out) (HT.out) [3] rfl rfl).mono ?_
    rintro e w1 ⟨gs,⟨rfl,g1,hx1,rfl⟩,Ta⟩;simp only [PU] at Ta;have HX:=Vh hx1;clear hx1 k0 k16 k17 b0;have HT:=Vh Ta;clear Ta;go_wp2_with fail
    refine ⟨rfl,?_⟩
    have b0:=HT.out.cell 4 0 rfl 0;simp only [GE4] at b0;have k18:=HT.out.cell 0 0 rfl 18;have fk18:=HT.out.free 0 0 rfl 18;simp only [Qo,GE3] at k18;go_wp2
    refine Qc 3 (by kernel_rfl) (by kernel_rfl) ?_
    simp only [TD4]
    repeat (go_big_quiet_step ((first | (go_at_call 195;with_reducible exact Qe.quiet (qqs _ HWB.out.1 HWB.out.2) HT.out _ [] rfl rfl))))
    refine wpQuiet_nil (QE fun nq=>?_)
    have HT:=Vh (HT.out.drewN nq);go_wp2_with fail
    refine ⟨rfl,?_⟩
    have HT:=Vh ((HT.out.set 0 0 rfl 18 (.int .u64 (Zp w2))).eq (H':=[Qq kb L.fb pv rv tv { k with gen:=Zp w2 },gq,gt,g1,[cl w.heap.size 135 #[Qb kb]],[cl (w.heap.size+1) 180 #[.nilFunc,.nilFunc]]]) rfl);clear b0 k18 fk18;generalize World.setCell _ _ _=w4 at HT ⊢;have b0:=HT.out.cell 4 0 rfl 0;simp only [GE4] at b0;obtain ⟨k3,k15,k18,k7,k8,k9,k10,k11⟩:=Ce8 (HT.out.cell 0 0 rfl) 3 15 18 7 8 9 10 11;obtain ⟨fk7,fk8,fk9,fk10,fk11⟩:=Ce5 (HT.out.free 0 0 rfl) 7 8 9 10 11;simp only [Qo,GE3] at k3 k15 k18 k7 k8 k9 k10 k11;go_wp2
    refine Qc 10 (by kernel_rfl) (by kernel_rfl) ?_
    simp only [TD4]
    repeat (go_big_quiet_step ((fail)))
    refine wpQuiet_nil (QE fun nq=>?_)
    have HT:=Vh (HT.out.drewN nq);go_wp2_with fail
    refine ⟨rfl,?_⟩
    have HT:=Vh ((((((HT.out.set 0 0 rfl 7 (.int .i64 0)).set 0 0 rfl 8 (.bool true)).set 0 0 rfl 9 (.int .u64 k.id)).set 0 0 rfl 10 (.int .u64 (Zp w2))).set 0 0 rfl 11 (.slice none 0 0)).eq (H':=[Qq kb L.fb pv rv tv { k with gen:=Zp w2,err:=0,ok:=true,aid:=k.id,agen:=Zp w2 },gq,gt,g1,[cl w.heap.size 135 #[Qb kb]],[cl (w.heap.size+1) 180 #[.nilFunc,.nilFunc]]]) rfl);clear b0 k3 k15 k18 k7 k8 k9 k10 k11 fk7 fk8 fk9 fk10 fk11;generalize World.setCell _ _ _=w5 at HT ⊢;have b0:=HT.out.cell 4 0 rfl 0;simp only [GE4] at b0;obtain ⟨k3,k5,k15,k18⟩:=Ce4 (HT.out.cell 0 0 rfl) 3 5 15 18;simp only [Qo,GE3] at k3 k5 k15 k18;go_wp2
    refine Qc 10 (by kernel_rfl) (by kernel_rfl) ?_
    simp only [TD4]
    repeat (go_big_quiet_step ((fail)))
    refine wpQuiet_nil (QE fun nq=>?_)
    have HT:=Vh (HT.out.drewN nq);go_wp2_with fail
    refine (Qa.use (Js HX.out { ev0 with kind:=7,id:=k.id,gen:=Zp w2 } HLN.out) (HT.out) [0,3] rfl rfl).mono ?_
    rintro e w1 ⟨gs,⟨rfl,g2,hx2,rfl⟩,Ta⟩;simp only [PU] at Ta;have HX:=Vh hx2;clear hx2 k3 k5 k15 k18 b0;have HT:=Vh Ta;clear Ta;go_wp2_with fail
    refine ⟨rfl,?_⟩
    have b0:=HT.out.cell 4 0 rfl 0;simp only [GE4] at b0;go_wp2_with fail
    refine qx7 (L:=L) (pv:=pv) (g0:=Qq kb L.fb pv rv tv { k with gen:=Zp w2,err:=0,ok:=true,aid:=k.id,agen:=Zp w2 }) (g1:=gq) (g2:=gt) (g3:=g2) HT.out ?_
    intro w9 m2 d2 g9 v113 v114 v115 v116 v117 v118 v119 v120 hs2 T9;have hv2:=(Q5 L kb pv).vals hs2;have HS2:=Vh hs2;have HT:=Vh T9;clear T9 hs2 b0;obtain ⟨e0,e1⟩:=Ce2 (HT.out.cell 5 0 rfl) 0 1;simp only [GE4] at e0 e1;go_wp2
    exact bodyPost_ret (v:=.agg #[m2,d2]) (by simp [results,results155,go_sem,e0,e1]) rfl ⟨_,⟨m2,d2,g9,_,_,rfl,HS2.out,⟨_,_,gq,gt,HR.out,HTK.out,rfl,HX.out⟩,rfl⟩,(HT.out.pick [0,1,2,3,4] rfl).sum⟩
 ·rw [if_pos h0]
  have hbe:(er != 0)=true:=bne_iff_ne.2 h0;clear h0;by_cases h3:k.kind=3
  ·rw [if_pos h3]
   unfold MRz;dsimp only [z8,okC]
   obtain ⟨rv,tv,gq,gt,hr,ht,rfl,hx⟩:=hz;refine GO fun w HT=>?_
   have HT:=Vh (HT.out.sum (H':=[Qq kb L.fb pv rv tv k,gq,gt,gF]));have HX:=Vh hx;have HR:=Vh hr;have HTK:=Vh ht;clear hx hr ht;go_enter func155,ntmps155
   go_wp2
   have HT:=Vh ((HT.out.alloc (k:=w.heap.size) rfl 135 #[Qb kb]).alloc (k:=w.heap.size+1) (by simp) 180 #[.nilFunc,.nilFunc]);generalize World.alloc _ _=wa at HT ⊢;simp only [List.cons_append,List.nil_append] at HT;have b0:=HT.out.cell 4 0 rfl 0;simp only [GE4] at b0;obtain ⟨k0,k16,k17⟩:=Ce3 (HT.out.cell 0 0 rfl) 0 16 17;simp only [Qo,GE3] at k0 k16 k17;refine Qc 15 (by kernel_rfl) (by kernel_rfl) ?_
   simp only [TD4]
   repeat (go_big_quiet_step ((first | (go_at_call 124;with_reducible exact Qe.quiet (Qk HX.out) HT.out _ [3] rfl rfl) | (go_at_call 192;with_reducible exact Qe.quiet (Yr (L:=L)) HT.out _ [0] rfl rfl))))
   refine wpQuiet_nil (QE fun nq=>?_)
   have HT:=Vh (HT.out.drewN nq);go_wp2_with fail
   refine (Qa.use (HTRY.out _ HX.out) (HT.out) [3] rfl rfl).mono ?_
   rintro e w1 ⟨gs,⟨rfl,g1,hx1,rfl⟩,Ta⟩;simp only [PU] at Ta;have HX:=Vh hx1;clear hx1 k0 k16 k17 b0;have HT:=Vh Ta;clear Ta;go_wp2_with fail
   refine ⟨rfl,?_⟩
   have b0:=HT.out.cell 4 0 rfl 0;simp only [GE4] at b0;have k18:=HT.out.cell 0 0 rfl 18;have fk18:=HT.out.free 0 0 rfl 18;simp only [Qo,GE3] at k18;go_wp2
   refine Qc 3 (by kernel_rfl) (by kernel_rfl) ?_
   simp only [TD4]
   repeat (go_big_quiet_step ((first | (go_at_call 195;with_reducible exact Qe.quiet (qqs _ HWB.out.1 HWB.out.2) HT.out _ [] rfl rfl))))
   refine wpQuiet_nil (QE fun nq=>?_)
   have HT:=Vh (HT.out.drewN nq);go_wp2_with fail
   refine ⟨rfl,?_⟩
   have HT:=Vh ((HT.out.set 0 0 rfl 18 (.int .u64 (Zp w2))).eq (H':=[Qq kb L.fb pv rv tv { k with gen:=Zp w2 },gq,gt,g1,[cl w.heap.size 135 #[Qb kb]],[cl (w.heap.size+1) 180 #[.nilFunc,.nilFunc]]]) rfl);clear b0 k18 fk18;generalize World.setCell _ _ _=w4 at HT ⊢;have b0:=HT.out.cell 4 0 rfl 0;simp only [GE4] at b0;have k3:=HT.out.cell 0 0 rfl 3;simp only [Qo,GE3] at k3;rw [h3] at k3;clear h3;go_wp2_with fail
   refine Qa.run (Xr) (HT.out) [] ?_
   rintro e w1 gs ⟨rfl,rfl⟩ HT;simp only [PU] at HT;obtain ⟨e0,e1⟩:=Ce2 (HT.out.cell 5 0 rfl) 0 1;obtain ⟨fe0,fe1⟩:=Ce2 (HT.out.free 5 0 rfl) 0 1;simp only [GE4] at e0 e1;go_wp2
   exact bodyPost_ret (v:=.agg #[.nilFunc,.func (.func 187) #[Qb kb] #[]]) (by simp [results,results155,go_sem,e0,e1]) rfl ⟨_,⟨_,_,[],_,_,rfl,⟨rfl,rfl,rfl⟩,⟨_,_,gq,gt,HR.out,HTK.out,rfl,HX.out⟩,rfl⟩,(((HT.out.set 5 0 rfl 0 _).set 5 0 rfl 1 _).pick [0,1,2,3] rfl).sum⟩
  ·rw [if_neg h3]
   have hb3:(k.kind == 3)=false:=beq_eq_false_iff_ne.2 h3;clear h3;unfold MRz;dsimp only [z8,okC]
   obtain ⟨rv,tv,gq,gt,hr,ht,rfl,hx⟩:=hz;refine GO fun w HT=>?_
   have HT:=Vh (HT.out.sum (H':=[Qq kb L.fb pv rv tv k,gq,gt,gF]));have HX:=Vh hx;have HR:=Vh hr;have HTK:=Vh ht;clear hx hr ht;go_enter func155,ntmps155
   go_wp2
   have HT:=Vh ((HT.out.alloc (k:=w.heap.size) rfl 135 #[Qb kb]).alloc (k:=w.heap.size+1) (by simp) 180 #[.nilFunc,.nilFunc]);generalize World.alloc _ _=wa at HT ⊢;simp only [List.cons_append,List.nil_append] at HT;have b0:=HT.out.cell 4 0 rfl 0;simp only [GE4] at b0;obtain ⟨k0,k16,k17⟩:=Ce3 (HT.out.cell 0 0 rfl) 0 16 17;simp only [Qo,GE3] at k0 k16 k17;refine Qc 15 (by kernel_rfl) (by kernel_rfl) ?_
   simp only [TD4]
   repeat (go_big_quiet_step ((first | (go_at_call 124;with_reducible exact Qe.quiet (Qk HX.out) HT.out _ [3] rfl rfl) | (go_at_call 192;with_reducible exact Qe.quiet (Yr (L:=L)) HT.out _ [0] rfl rfl))))
   refine wpQuiet_nil (QE fun nq=>?_)
   have HT:=Vh (HT.out.drewN nq);go_wp2_with fail
   refine (Qa.use (HTRY.out _ HX.out) (HT.out) [3] rfl rfl).mono ?_
   rintro e w1 ⟨gs,⟨rfl,g1,hx1,rfl⟩,Ta⟩;simp only [PU] at Ta;have HX:=Vh hx1;clear hx1 k0 k16 k17 b0;have HT:=Vh Ta;clear Ta;go_wp2_with fail
   refine ⟨rfl,?_⟩
   have b0:=HT.out.cell 4 0 rfl 0;simp only [GE4] at b0;have k18:=HT.out.cell 0 0 rfl 18;have fk18:=HT.out.free 0 0 rfl 18;simp only [Qo,GE3] at k18;go_wp2
   refine Qc 3 (by kernel_rfl) (by kernel_rfl) ?_
   simp only [TD4]
   repeat (go_big_quiet_step ((first | (go_at_call 195;with_reducible exact Qe.quiet (qqs _ HWB.out.1 HWB.out.2) HT.out _ [] rfl rfl))))
   refine wpQuiet_nil (QE fun nq=>?_)
   have HT:=Vh (HT.out.drewN nq);go_wp2_with fail
   refine ⟨rfl,?_⟩
   have HT:=Vh ((HT.out.set 0 0 rfl 18 (.int .u64 (Zp w2))).eq (H':=[Qq kb L.fb pv rv tv { k with gen:=Zp w2 },gq,gt,g1,[cl w.heap.size 135 #[Qb kb]],[cl (w.heap.size+1) 180 #[.nilFunc,.nilFunc]]]) rfl);clear b0 k18 fk18;generalize World.setCell _ _ _=w4 at HT ⊢;have b0:=HT.out.cell 4 0 rfl 0;simp only [GE4] at b0;have k3:=HT.out.cell 0 0 rfl 3;simp only [Qo,GE3] at k3;go_wp2_with fail
   refine Qa.run (Xr) (HT.out) [] ?_
   rintro e w1 gs ⟨rfl,rfl⟩ HT;simp only [PU] at HT;obtain ⟨e0,e1⟩:=Ce2 (HT.out.cell 5 0 rfl) 0 1;obtain ⟨fe0,fe1⟩:=Ce2 (HT.out.free 5 0 rfl) 0 1;simp only [GE4] at e0 e1;go_wp2
   exact bodyPost_ret (v:=.agg #[.nilFunc,.func (.func 128) #[Qb kb] #[]]) (by simp [results,results155,go_sem,e0,e1]) rfl ⟨_,⟨_,_,[],_,_,rfl,⟨rfl,rfl,rfl⟩,⟨_,_,gq,gt,HR.out,HTK.out,rfl,HX.out⟩,rfl⟩,(((HT.out.set 5 0 rfl 0 _).set 5 0 rfl 1 _).pick [0,1,2,3] rfl).sum⟩
end
section
variable {L:Lay} {x:Qj} {gK gF:List Blk} {kb:Nat} {pv:Value} {k:Qt}
theorem qxn (hz:qec L kb pv k x gK gF) (hp:qdq .queues (k,x)):Qa prog 153 #[Qb kb] [gK,gF] (MRz L kb pv (zr .queues (k,x))):=by
 obtain ⟨hok,hwk,hpr⟩:=hp;simp only at hok hwk hpr;obtain ⟨⟨i,t⟩,htke⟩:=Option.isSome_iff_exists.1 hpr;obtain ⟨htb,hi⟩:=hwk.tk i t htke;obtain ⟨s,hs⟩:∃ s,x.shs[i]?=some s:=⟨_,List.getElem?_eq_getElem hi⟩;have hrb:=hok.ring s (List.mem_of_getElem? hs);have htb2:=qzk hrb htb;have HLN:=Vh hok.tr
 have hE:zr .queues (k,x)=Z1 (k,x) i t s:=by
  show (match k.tk with | none=>_ | some (i,t)=>_)=_
  rw [htke]
  show (match x.shs[i]? with | none=>_ | some s=>_)=_
  rw [hs]
 rw [hE];obtain ⟨rv,tv,gq,gt,hr,ht,rfl,hx⟩:=hz;rw [htke] at ht;obtain ⟨tb,qs,hqs,rfl,rfl⟩:=ht;clear hE hwk hpr htke hi hok;obtain ⟨r2,t2,hr2⟩:∃ r2 t2,stepT s.ring t=(r2,t2):=⟨_,_,rfl⟩;rw [hr2] at htb2;have hst3:=htb2.st;simp only at hst3;clear htb2;by_cases h0:t2.status=0
 ·have hst:(stepT s.ring t).2.status=0:=by rw [hr2];exact h0
  have HZ:Z1 (k,x) i t s=(.at none .queues,({ k with tk:=some (i,t2) },{ x with shs:=x.shs.set i { s with ring:=r2 } })):=by unfold Z1;simp only [hr2];rw [if_pos h0]
  clear h0 hst3;rw [HZ];unfold MRz;dsimp only [Ql]
  clear HZ;refine GO fun w HT=>?_
  have HT:=Vh (HT.out.sum (H':=[Qq kb L.fb pv rv (Qb tb) k,gq,Xa tb qs.rb t,gF]));have HX:=Vh hx;have HR:=Vh hr;have HQS:=Vh hqs;have HTI:=Vh (qb6 hx hqs hs tb t hrb htb);rw [hst,hr2] at HTI;clear hx hr hqs hs hrb htb;have k14:=HT.out.cell 0 0 rfl 14;simp only [Qo,GE3] at k14;have lt:=HT.out.lt 0 0 rfl;simp only [] at lt;clear hst hr2;go_enter func153,ntmps153
  go_wp2_with fail
  refine (Qa.use (HTI.out) (HT.out.alloc (k:=w.heap.size) rfl _ _) [2,3] rfl rfl).mono ?_
  rintro e w1 ⟨gs,⟨rfl,g1,hx1,rfl⟩,Ta⟩;simp only [PU] at Ta;have HX:=Vh hx1;clear hx1 k14 lt;have HT:=Vh Ta;clear Ta;have HT:=Vh (HT.out.eq (H':=[Qq kb L.fb pv rv (Qb tb) { k with tk:=some (i,t2) },gq,Xa tb qs.rb t2,g1,[cl w.heap.size 180 #[.nilFunc,.nilFunc]]]) rfl);have k3:=HT.out.cell 0 0 rfl 3;simp only [Qo,GE3] at k3;clear k3;go_wp2_with fail
  refine Qa.run (Xr) (HT.out) [] ?_
  rintro e w1 gs ⟨rfl,rfl⟩ HT;simp only [PU] at HT;obtain ⟨e0,e1⟩:=Ce2 (HT.out.cell 4 0 rfl) 0 1;obtain ⟨fe0,fe1⟩:=Ce2 (HT.out.free 4 0 rfl) 0 1;simp only [GE4] at e0 e1;go_wp2
  exact bodyPost_ret (v:=.agg #[.nilFunc,.func (.func 153) #[Qb kb] #[]]) (by simp [results,results153,go_sem,e0,e1]) rfl ⟨_,⟨_,_,[],_,_,rfl,⟨rfl,rfl,rfl⟩,⟨_,_,gq,(Xa tb qs.rb t2),HR.out,⟨tb,qs,HQS.out,rfl,rfl⟩,rfl,HX.out⟩,rfl⟩,(((HT.out.set 4 0 rfl 0 _).set 4 0 rfl 1 _).pick [0,1,2,3] rfl).sum⟩
 ·by_cases h1:t2.status=1
  ·have hst:(stepT s.ring t).2.status=1:=by rw [hr2];exact h1
   by_cases h3:k.kind=3
   ·have HZ:Z1 (k,x) i t s=(Ji,Ql 2 ({ k with tk:=some (i,t2) },{ x with shs:=x.shs.set i { s with ring:=r2 } })):=by unfold Z1;simp only [hr2];rw [if_neg h0,if_pos ⟨h1,h3⟩]
    clear h0 h1 hst3;rw [HZ];unfold MRz;dsimp only [Ql]
    clear HZ;refine GO fun w HT=>?_
    have HT:=Vh (HT.out.sum (H':=[Qq kb L.fb pv rv (Qb tb) k,gq,Xa tb qs.rb t,gF]));have HX:=Vh hx;have HR:=Vh hr;have HQS:=Vh hqs;have HTI:=Vh (qb6 hx hqs hs tb t hrb htb);rw [hst,hr2] at HTI;clear hx hr hqs hs hrb htb;have k14:=HT.out.cell 0 0 rfl 14;simp only [Qo,GE3] at k14;have lt:=HT.out.lt 0 0 rfl;simp only [] at lt;clear hst hr2;go_enter func153,ntmps153
    go_wp2_with fail
    refine (Qa.use (HTI.out) (HT.out.alloc (k:=w.heap.size) rfl _ _) [2,3] rfl rfl).mono ?_
    rintro e w1 ⟨gs,⟨rfl,g1,hx1,rfl⟩,Ta⟩;simp only [PU] at Ta;have HX:=Vh hx1;clear hx1 k14 lt;have HT:=Vh Ta;clear Ta;have HT:=Vh (HT.out.eq (H':=[Qq kb L.fb pv rv (Qb tb) { k with tk:=some (i,t2) },gq,Xa tb qs.rb t2,g1,[cl w.heap.size 180 #[.nilFunc,.nilFunc]]]) rfl);have k3:=HT.out.cell 0 0 rfl 3;simp only [Qo,GE3] at k3;rw [h3] at k3;clear h3;go_wp2_with fail
    refine (Qa.use (Z7 HX.out 2 HLN.out) (HT.out) [0,3] rfl rfl).mono ?_
    rintro e w1 ⟨gs,⟨rfl,g1,hx1,rfl⟩,Ta⟩;simp only [PU] at Ta;have HX:=Vh hx1;clear hx1;have HT:=Vh Ta;clear Ta;clear k3;go_wp2_with fail
    refine Qa.run (qeh L kb pv) (HT.out) [] ?_
    rintro e w1 gs ⟨m2,d2,g2,rfl,hs2,rfl⟩ HT;simp only [PU] at HT;obtain ⟨e0,e1⟩:=Ce2 (HT.out.cell 4 0 rfl) 0 1;obtain ⟨fe0,fe1⟩:=Ce2 (HT.out.free 4 0 rfl) 0 1;simp only [GE4] at e0 e1;have hv2:=(Q5 L kb pv).vals hs2;obtain ⟨st1,st2⟩:=Cli.store_fv2 (P:=prog) hv2.1 hv2.2 e0 fe0 e1 fe1;have HS:=Vh hs2;clear hv2 hs2;go_wp2
    exact bodyPost_ret (v:=.agg #[_,_]) (by simp [results,results153,go_sem,e0,e1]) rfl ⟨_,⟨m2,d2,g2,_,_,rfl,HS.out,⟨_,_,gq,(Xa tb qs.rb t2),HR.out,⟨tb,qs,HQS.out,rfl,rfl⟩,rfl,HX.out⟩,rfl⟩,(((HT.out.set 4 0 rfl 0 _).set 4 0 rfl 1 _).pick [0,1,2,3,5] rfl).sum⟩
   ·have HZ:Z1 (k,x) i t s=(.thn (.row2 .undo .drop) .leaves,({ k with tk:=some (i,t2) },{ x with shs:=x.shs.set i { s with ring:=r2 } })):=by unfold Z1;simp only [hr2];rw [if_neg h0,if_neg (fun h=>h3 h.2),if_pos h1]
    have hb3:(k.kind == 3)=false:=beq_eq_false_iff_ne.2 h3
    have hrow:∀ (b bf bl bi:Nat),(qfe L kb pv).SV (.row2 .undo .drop) .nilFunc (.func (.func 166) #[] #[Qb bf,Qb bl,Qb bi])
     ([cl bf 1 #[.func (.func 185) #[Qb kb] #[]],cl bl 282 #[.slice (some ⟨b,0,none⟩) 2 2],cl bi 3 #[.int .i64 0],cl b 1 #[.func (.func 185) #[Qb kb] #[],.func (.func 186) #[Qb kb] #[]]]++[]++[]) :=
     fun b bf bl bi=>⟨rfl,bf,bl,bi,b,_,_,[],[],rfl,⟨rfl,rfl⟩,⟨rfl,rfl⟩,rfl⟩
    have hthen:∀ (b bf bl bi:Nat),_:=fun b bf bl bi=>Cli.prog_then_cons (f:=MC.leaves) (v:=.func (.func 148) #[Qb kb] #[]) (gm:=[]) (Q5 L kb pv) rfl (hrow b bf bl bi) ⟨rfl,rfl⟩
    have HTH:=Vh hthen;clear h0 h1 hst3 h3 hrow hthen;rw [HZ];unfold MRz;dsimp only [Ql]
    clear HZ;refine GO fun w HT=>?_
    have HT:=Vh (HT.out.sum (H':=[Qq kb L.fb pv rv (Qb tb) k,gq,Xa tb qs.rb t,gF]));have HX:=Vh hx;have HR:=Vh hr;have HQS:=Vh hqs;have HTI:=Vh (qb6 hx hqs hs tb t hrb htb);rw [hst,hr2] at HTI;clear hx hr hqs hs hrb htb;have k14:=HT.out.cell 0 0 rfl 14;simp only [Qo,GE3] at k14;have lt:=HT.out.lt 0 0 rfl;simp only [] at lt;clear hst hr2;go_enter func153,ntmps153
    go_wp2_with fail
    refine (Qa.use (HTI.out) (HT.out.alloc (k:=w.heap.size) rfl _ _) [2,3] rfl rfl).mono ?_
    rintro e w1 ⟨gs,⟨rfl,g1,hx1,rfl⟩,Ta⟩;simp only [PU] at Ta;have HX:=Vh hx1;clear hx1 k14 lt;have HT:=Vh Ta;clear Ta;have HT:=Vh (HT.out.eq (H':=[Qq kb L.fb pv rv (Qb tb) { k with tk:=some (i,t2) },gq,Xa tb qs.rb t2,g1,[cl w.heap.size 180 #[.nilFunc,.nilFunc]]]) rfl);have k3:=HT.out.cell 0 0 rfl 3;simp only [Qo,GE3] at k3;go_wp2_with fail
    refine (Qa.use (Cli.row_1 (b:=w1.heap.size) (o:=0) (D:=#[.func (.func 185) #[Qb kb] #[],.func (.func 186) #[Qb kb] #[]]) rfl 2 (.inr rfl)) (HT.out.alloc (k:=w1.heap.size) rfl _ _) [5] rfl rfl).mono ?_
    rintro e w2 ⟨gs,⟨bf,bl,bi,rfl,rfl⟩,Ta⟩;simp only [PU] at Ta;have HT:=Vh Ta;clear Ta;clear k3;have HT:=Vh (HT.out.sum (H':=[Qq kb L.fb pv rv (Qb tb) { k with tk:=some (i,t2) },gq,Xa tb qs.rb t2,g1,[cl w.heap.size 180 #[.nilFunc,.nilFunc]],[cl bf 1 #[.func (.func 185) #[Qb kb] #[]],cl bl 282 #[.slice (some ⟨w1.heap.size,0,none⟩) 2 2],cl bi 3 #[.int .i64 0],cl w1.heap.size 1 #[.func (.func 185) #[Qb kb] #[],.func (.func 186) #[Qb kb] #[]]]++[]++[],[]]));go_wp2_with fail
    refine Qa.run (HTH.out _ _ _ _) (HT.out) [5,6] ?_
    rintro e w1 gs ⟨m2,d2,g2,rfl,hs2,rfl⟩ HT;simp only [PU] at HT;obtain ⟨e0,e1⟩:=Ce2 (HT.out.cell 4 0 rfl) 0 1;obtain ⟨fe0,fe1⟩:=Ce2 (HT.out.free 4 0 rfl) 0 1;simp only [GE4] at e0 e1;have hv2:=(Q5 L kb pv).vals hs2;obtain ⟨st1,st2⟩:=Cli.store_fv2 (P:=prog) hv2.1 hv2.2 e0 fe0 e1 fe1;have HS:=Vh hs2;clear hv2 hs2;go_wp2
    exact bodyPost_ret (v:=.agg #[_,_]) (by simp [results,results153,go_sem,e0,e1]) rfl ⟨_,⟨m2,d2,g2,_,_,rfl,HS.out,⟨_,_,gq,Xa tb qs.rb t2,HR.out,⟨tb,qs,HQS.out,rfl,rfl⟩,rfl,HX.out⟩,rfl⟩,(((HT.out.set 4 0 rfl 0 _).set 4 0 rfl 1 _).pick [0,1,2,3,5] rfl).sum⟩
  ·have h2:t2.status=2:=by omega
   have hst:(stepT s.ring t).2.status=2:=by rw [hr2];exact h2
   by_cases h3:k.kind=3
   ·have HZ:Z1 (k,x) i t s=(.at none .again,({ k with tk:=some (i,t2) },{ x with shs:=x.shs.set i { s with ring:=r2 } })):=by unfold Z1;simp only [hr2];rw [if_neg h0,if_neg (fun h=>h1 h.1),if_neg h1,if_pos h3]
    clear h0 h1 hst3 h2;rw [HZ];unfold MRz;dsimp only [Ql]
    clear HZ;refine GO fun w HT=>?_
    have HT:=Vh (HT.out.sum (H':=[Qq kb L.fb pv rv (Qb tb) k,gq,Xa tb qs.rb t,gF]));have HX:=Vh hx;have HR:=Vh hr;have HQS:=Vh hqs;have HTI:=Vh (qb6 hx hqs hs tb t hrb htb);rw [hst,hr2] at HTI;clear hx hr hqs hs hrb htb;have k14:=HT.out.cell 0 0 rfl 14;simp only [Qo,GE3] at k14;have lt:=HT.out.lt 0 0 rfl;simp only [] at lt;clear hst hr2;go_enter func153,ntmps153
    go_wp2_with fail
    refine (Qa.use (HTI.out) (HT.out.alloc (k:=w.heap.size) rfl _ _) [2,3] rfl rfl).mono ?_
    rintro e w1 ⟨gs,⟨rfl,g1,hx1,rfl⟩,Ta⟩;simp only [PU] at Ta;have HX:=Vh hx1;clear hx1 k14 lt;have HT:=Vh Ta;clear Ta;have HT:=Vh (HT.out.eq (H':=[Qq kb L.fb pv rv (Qb tb) { k with tk:=some (i,t2) },gq,Xa tb qs.rb t2,g1,[cl w.heap.size 180 #[.nilFunc,.nilFunc]]]) rfl);have k3:=HT.out.cell 0 0 rfl 3;simp only [Qo,GE3] at k3;rw [h3] at k3;clear h3;go_wp2_with fail
    refine Qa.run (Xr) (HT.out) [] ?_
    rintro e w1 gs ⟨rfl,rfl⟩ HT;simp only [PU] at HT;obtain ⟨e0,e1⟩:=Ce2 (HT.out.cell 4 0 rfl) 0 1;obtain ⟨fe0,fe1⟩:=Ce2 (HT.out.free 4 0 rfl) 0 1;simp only [GE4] at e0 e1;go_wp2
    exact bodyPost_ret (v:=.agg #[.nilFunc,.func (.func 187) #[Qb kb] #[]]) (by simp [results,results153,go_sem,e0,e1]) rfl ⟨_,⟨_,_,[],_,_,rfl,⟨rfl,rfl,rfl⟩,⟨_,_,gq,(Xa tb qs.rb t2),HR.out,⟨tb,qs,HQS.out,rfl,rfl⟩,rfl,HX.out⟩,rfl⟩,(((HT.out.set 4 0 rfl 0 _).set 4 0 rfl 1 _).pick [0,1,2,3] rfl).sum⟩
   ·have HZ:Z1 (k,x) i t s=(.at none .submits,({ k with tk:=some (i,t2) },{ x with shs:=x.shs.set i { s with ring:=r2 } })):=by unfold Z1;simp only [hr2];rw [if_neg h0,if_neg (fun h=>h1 h.1),if_neg h1,if_neg h3]
    have hb3:(k.kind == 3)=false:=beq_eq_false_iff_ne.2 h3;clear h0 h1 hst3 h2 h3;rw [HZ];unfold MRz;dsimp only [Ql]
    clear HZ;refine GO fun w HT=>?_
    have HT:=Vh (HT.out.sum (H':=[Qq kb L.fb pv rv (Qb tb) k,gq,Xa tb qs.rb t,gF]));have HX:=Vh hx;have HR:=Vh hr;have HQS:=Vh hqs;have HTI:=Vh (qb6 hx hqs hs tb t hrb htb);rw [hst,hr2] at HTI;clear hx hr hqs hs hrb htb;have k14:=HT.out.cell 0 0 rfl 14;simp only [Qo,GE3] at k14;have lt:=HT.out.lt 0 0 rfl;simp only [] at lt;clear hst hr2;go_enter func153,ntmps153
    go_wp2_with fail
    refine (Qa.use (HTI.out) (HT.out.alloc (k:=w.heap.size) rfl _ _) [2,3] rfl rfl).mono ?_
    rintro e w1 ⟨gs,⟨rfl,g1,hx1,rfl⟩,Ta⟩;simp only [PU] at Ta;have HX:=Vh hx1;clear hx1 k14 lt;have HT:=Vh Ta;clear Ta;have HT:=Vh (HT.out.eq (H':=[Qq kb L.fb pv rv (Qb tb) { k with tk:=some (i,t2) },gq,Xa tb qs.rb t2,g1,[cl w.heap.size 180 #[.nilFunc,.nilFunc]]]) rfl);have k3:=HT.out.cell 0 0 rfl 3;simp only [Qo,GE3] at k3;go_wp2_with fail
    refine Qa.run (Xr) (HT.out) [] ?_
    rintro e w1 gs ⟨rfl,rfl⟩ HT;simp only [PU] at HT;obtain ⟨e0,e1⟩:=Ce2 (HT.out.cell 4 0 rfl) 0 1;obtain ⟨fe0,fe1⟩:=Ce2 (HT.out.free 4 0 rfl) 0 1;simp only [GE4] at e0 e1;go_wp2
    exact bodyPost_ret (v:=.agg #[.nilFunc,.func (.func 188) #[Qb kb] #[]]) (by simp [results,results153,go_sem,e0,e1]) rfl ⟨_,⟨_,_,[],_,_,rfl,⟨rfl,rfl,rfl⟩,⟨_,_,gq,(Xa tb qs.rb t2),HR.out,⟨tb,qs,HQS.out,rfl,rfl⟩,rfl,HX.out⟩,rfl⟩,(((HT.out.set 4 0 rfl 0 _).set 4 0 rfl 1 _).pick [0,1,2,3] rfl).sum⟩
end
section
variable {L:Lay} {x:Qj} {gK gF:List Blk} {kb:Nat} {pv:Value} {k:Qt}
theorem quk (hz:qec L kb pv k x gK gF) (hp:qdq .submits (k,x)):Qa prog 188 #[Qb kb] [gK,gF] (MRz L kb pv (zr .submits (k,x))):=by
 have HEV:=Vh (show ∀ g rv tv,Qf L x g→_ from fun g rv tv hx=>qey (kb:=kb) (pv:=pv) (rv:=rv) (tv:=tv) (k:=k) (g:=g) hx hp.1 2);have HLN:=Vh (show ({ x with slab:=(qd8 k.slot 2 x.slab).1 }:Qj).tr.length≤1000000 from hp.1.tr);have HZ:=Vh (show zr .submits (k,x)=(.at none .fills,(qc5 2 k x.slab,qi8 (qc5 2 k x.slab) { ev0 with kind:=3,id:=k.id,gen:=(qc5 2 k x.slab).gen,dl:=k.cdl,per:=k.period } { x with slab:=(qd8 k.slot 2 x.slab).1 })) from rfl);rw [HZ.out];unfold MRz;dsimp only
 obtain ⟨k2,hk2⟩:∃ k2,qc5 2 k x.slab=k2:=⟨_,rfl⟩;have HK:=Vh (show k2.id=k.id∧k2.cdl=k.cdl∧k2.period=k.period∧k2.rq=k.rq∧k2.tk=k.tk from by subst hk2;exact ⟨rfl,rfl,rfl,rfl,rfl⟩);rw [hk2] at HEV ⊢;clear hp hk2 HZ;obtain ⟨rv,tv,gq,gt,hr,ht,rfl,hx⟩:=hz;refine GO fun w HT=>?_
 have HT:=Vh (HT.out.sum (H':=[Qq kb L.fb pv rv tv k,gq,gt,gF]));have HX:=Vh hx;have HR:=Vh hr;have HTK:=Vh ht;clear hx hr ht;have HT:=Vh (HT.out.alloc (k:=w.heap.size) rfl 180 #[.nilFunc,.nilFunc]);go_enter func188,ntmps188
 go_wp2_with fail
 refine (Qa.use (HEV.out _ _ _ HX.out) (HT.out) [0,3] rfl rfl).mono ?_
 rintro e w1 ⟨gs,⟨rfl,g1,hx1,rfl⟩,Ta⟩;simp only [PU] at Ta;have HX:=Vh hx1;clear hx1;have HT:=Vh Ta;clear Ta;obtain ⟨k5,k15,k18⟩:=Ce3 (HT.out.cell 0 0 rfl) 5 15 18;simp only [Qo,GE3] at k5 k15 k18;go_wp2
 refine Qc 17 (by kernel_rfl) (by kernel_rfl) ?_
 simp only [TD4]
 repeat (go_big_quiet_step ((first | (go_at_call 126;with_reducible exact Qe.quiet (qad (L:=L)) HT.out _ [0] rfl rfl))))
 refine wpQuiet_nil (QE fun nq=>?_)
 have HT:=Vh (HT.out.drewN nq);go_wp2_with fail
 refine (Qa.use (Js HX.out { ev0 with kind:=3,id:=k2.id,gen:=k2.gen,dl:=k2.cdl,per:=k2.period } HLN.out) (HT.out) [0,3] rfl rfl).mono ?_
 rintro e w1 ⟨gs,⟨rfl,g2,hx2,rfl⟩,Ta⟩;simp only [PU] at Ta;have HX:=Vh hx2;clear hx2 k5 k15 k18;have HT:=Vh Ta;clear Ta;go_wp2_with fail
 refine ⟨rfl,?_⟩
 rw [HK.out.1,HK.out.2.1,HK.out.2.2.1] at HX;go_wp2_with fail
 refine Qa.run (Xr) (HT.out) [] ?_
 rintro e w1 gs ⟨rfl,rfl⟩ HT;simp only [PU] at HT;obtain ⟨e0,e1⟩:=Ce2 (HT.out.cell 4 0 rfl) 0 1;obtain ⟨fe0,fe1⟩:=Ce2 (HT.out.free 4 0 rfl) 0 1;simp only [GE4] at e0 e1;go_wp2
 exact bodyPost_ret (v:=.agg #[.nilFunc,.func (.func 196) #[Qb kb] #[]]) (by simp [results,results188,go_sem,e0,e1]) rfl ⟨_,⟨_,_,[],_,_,rfl,⟨rfl,rfl,rfl⟩,⟨_,_,gq,gt,(HK.out.2.2.2.1 ▸ HR.out),(HK.out.2.2.2.2 ▸ HTK.out),rfl,HX.out⟩,rfl⟩,(((HT.out.set 4 0 rfl 0 _).set 4 0 rfl 1 _).pick [0,1,2,3] rfl).sum⟩
theorem q0z (hz:qec L kb pv k x gK gF) (hp:qdq .fills (k,x)):Qa prog 196 #[Qb kb] [gK,gF] (MRz L kb pv (zr .fills (k,x))):=by
 obtain ⟨hok,hwk,hpr⟩:=hp;simp only at hok hwk hpr;obtain ⟨⟨i,t⟩,htke⟩:=Option.isSome_iff_exists.1 hpr;obtain ⟨htb,hi⟩:=hwk.tk i t htke;obtain ⟨s,hs⟩:∃ s,x.shs[i]?=some s:=⟨_,List.getElem?_eq_getElem hi⟩;have hrb:=hok.ring s (List.mem_of_getElem? hs)
 have hE:Y2 (zv (k,x)) (k,x)=({ k with tk:=some (i,(Zs s.ring t (zv (k,x))).2.1) },{ x with shs:=x.shs.set i { s with ring:=(Zs s.ring t (zv (k,x))).1 } }):=by
  unfold Y2;simp only [htke,hs]
 have HZ:zr .fills (k,x)=(Ji,(okC { k with tk:=some (i,(Zs s.ring t (zv (k,x))).2.1) },{ x with shs:=x.shs.set i { s with ring:=(Zs s.ring t (zv (k,x))).1 } })):=by
  show (Ji,(okC (Y2 (zv (k,x)) (k,x)).1,(Y2 (zv (k,x)) (k,x)).2))=_
  rw [hE]
 rw [HZ];unfold MRz;dsimp only [okC]
 obtain ⟨rv,tv,gq,gt,hr,ht,rfl,hx⟩:=hz;rw [htke] at ht;obtain ⟨tb,qs,hqs,rfl,rfl⟩:=ht;have HFI:=Vh (qna hx hqs hs tb t hrb htb (zv (k,x)));have HPE:=Vh (qdd hx hok.slab.n1 k.slot);have HTA:=Vh (show (zv (k,x)).cells=#[.int .u64 k.id,.int .i64 k.slot,.int .u64 k.gen,.int .u64 k.cdl,.int .u64 (x.slab.period k.slot)] from rfl);rw [HTA.out] at HFI;generalize Zs s.ring t (zv (k,x))=rt at *;refine GO fun w HT=>?_
 have HT:=Vh (HT.out.sum (H':=[Qq kb L.fb pv rv (Qb tb) k,gq,Xa tb qs.rb t,gF]));have HX:=Vh hx;have HR:=Vh hr;have HQS:=Vh hqs;clear hx hr hqs hs hrb htb hE HZ hok hwk hpr htke hi;obtain ⟨k0,k5,k14,k15,k16,k18⟩:=Ce6 (HT.out.cell 0 0 rfl) 0 5 14 15 16 18;simp only [Qo,GE3] at k0 k5 k14 k15 k16 k18;have lt:=HT.out.lt 0 0 rfl;simp only [] at lt;go_enter func196,ntmps196
 go_wp2
 have HT:=Vh (HT.out.alloc (k:=w.heap.size) rfl 180 #[.nilFunc,.nilFunc]);refine Qc 32 (by kernel_rfl) (by kernel_rfl) ?_
 simp only [TD4]
 repeat (go_big_quiet_step ((first | (go_at_call 124;with_reducible exact Qe.quiet (Qk HX.out) HT.out _ [3] rfl rfl) | (go_at_call 193;with_reducible exact Qe.quiet (HPE.out) HT.out _ [3] rfl rfl))))
 refine wpQuiet_nil (QE fun nq=>?_)
 have HT:=Vh (HT.out.drewN nq);go_wp2_with fail
 refine (Qa.use (HFI.out) (HT.out) [2,3] rfl rfl).mono ?_
 rintro e w1 ⟨gs,⟨rfl,g1,hx1,rfl⟩,Ta⟩;simp only [PU] at Ta;have HX:=Vh hx1;clear hx1 k0 k5 k14 k15 k16 k18 lt;have HT:=Vh Ta;clear Ta;go_wp2_with fail
 refine ⟨rfl,?_⟩
 obtain ⟨k15,k18,k7,k8,k9,k10,k11⟩:=Ce7 (HT.out.cell 0 0 rfl) 15 18 7 8 9 10 11;obtain ⟨fk7,fk8,fk9,fk10,fk11⟩:=Ce5 (HT.out.free 0 0 rfl) 7 8 9 10 11;simp only [Qo,GE3] at k15 k18 k7 k8 k9 k10 k11;go_wp2
 refine Qc 10 (by kernel_rfl) (by kernel_rfl) ?_
 simp only [TD4]
 repeat (go_big_quiet_step ((fail)))
 refine wpQuiet_nil (QE fun nq=>?_)
 have HT:=Vh (HT.out.drewN nq);go_wp2_with fail
 refine ⟨rfl,?_⟩
 have HT:=Vh ((((((HT.out.set 0 0 rfl 7 (.int .i64 0)).set 0 0 rfl 8 (.bool true)).set 0 0 rfl 9 (.int .u64 k.id)).set 0 0 rfl 10 (.int .u64 k.gen)).set 0 0 rfl 11 (.slice none 0 0)).eq (H':=[Qq kb L.fb pv rv (Qb tb) { k with tk:=some (i,rt.2.1),err:=0,ok:=true,aid:=k.id,agen:=k.gen },gq,Xa tb qs.rb rt.2.1,g1,[cl w.heap.size 180 #[.nilFunc,.nilFunc]]]) rfl);clear k15 k18 k7 k8 k9 k10 k11 fk7 fk8 fk9 fk10 fk11;go_wp2_with fail
 refine Qa.run (qeh L kb pv) (HT.out) [] ?_
 rintro e w1 gs ⟨m2,d2,g2,rfl,hs2,rfl⟩ HT;simp only [PU] at HT;obtain ⟨e0,e1⟩:=Ce2 (HT.out.cell 4 0 rfl) 0 1;obtain ⟨fe0,fe1⟩:=Ce2 (HT.out.free 4 0 rfl) 0 1;simp only [GE4] at e0 e1;have hv2:=(Q5 L kb pv).vals hs2;obtain ⟨st1,st2⟩:=Cli.store_fv2 (P:=prog) hv2.1 hv2.2 e0 fe0 e1 fe1;have HS:=Vh hs2;clear hv2 hs2;go_wp2
 exact bodyPost_ret (v:=.agg #[_,_]) (by simp [results,results196,go_sem,e0,e1]) rfl ⟨_,⟨m2,d2,g2,_,_,rfl,HS.out,⟨_,_,gq,(Xa tb qs.rb rt.2.1),HR.out,⟨tb,qs,HQS.out,rfl,rfl⟩,rfl,HX.out⟩,rfl⟩,(((HT.out.set 4 0 rfl 0 _).set 4 0 rfl 1 _).pick [0,1,2,3,5] rfl).sum⟩
end
section
variable {L:Lay} {x:Qj} {gK gF:List Blk} {kb:Nat} {pv:Value} {k:Qt}
def AR (L:Lay) (kb:Nat) (pv:Value) (z:ZC) (e:Ending) (gs:GH):Prop:=∃ gK' gF',e=.returned (.tuple #[])∧qec L kb pv z.1 z.2 gK' gF'∧gs=[[],gK',gF']
theorem q27 (hz:qec L kb pv k x gK gF) (hp:qj9 .ends1 (k,x)) (bk:Nat):Qa prog 147 #[Qb bk] [[cl bk 135 #[Qb kb]],gK,gF] (AR L kb pv (runA .ends1 (k,x))):=by
 have HLN:=Vh hp.1.tr;simp only at HLN;clear hp;unfold AR;dsimp only [runA,z8]
 obtain ⟨rv,tv,gq,gt,hr,ht,rfl,hx⟩:=hz;refine GO fun w HT=>?_
 have HT:=Vh (HT.out.sum (H':=[Qq kb L.fb pv rv tv k,gq,gt,gF,[cl bk 135 #[Qb kb]]]));have HX:=Vh hx;have HR:=Vh hr;have HTK:=Vh ht;clear hx hr ht;obtain ⟨k7,k9,k10⟩:=Ce3 (HT.out.cell 0 0 rfl) 7 9 10;simp only [Qo,GE3] at k7 k9 k10;have b0:=HT.out.cell 4 0 rfl 0;simp only [GE4] at b0;go_enter func147,ntmps147
 go_wp2_with fail
 refine Qc 17 (by kernel_rfl) (by kernel_rfl) ?_
 simp only [TD4]
 repeat (go_big_quiet_step ((fail)))
 refine wpQuiet_nil (QE fun nq=>?_)
 have HT:=Vh (HT.out.drewN nq);go_wp2_with fail
 refine (Qa.use (Js HX.out { ev0 with kind:=2,id:=k.aid,gen:=k.agen,err:=k.err } HLN.out) (HT.out) [0,3] rfl rfl).mono ?_
 rintro e w1 ⟨gs,⟨rfl,g2,hx2,rfl⟩,Ta⟩;simp only [PU] at Ta;have HX:=Vh hx2;clear hx2 k7 k9 k10 b0;have HT:=Vh Ta;clear Ta;go_wp2_with fail
 refine ⟨rfl,?_⟩
 go_wp2
 exact bodyPost_end (results_none rfl _ _ _) rfl ⟨_,⟨_,_,rfl,⟨_,_,gq,gt,HR.out,HTK.out,rfl,HX.out⟩,rfl⟩,(HT.out.pick [0,1,2,3] rfl).sum⟩
theorem qxw (hz:qec L kb pv k x gK gF) (hp:qj9 .leaves1 (k,x)) (bk:Nat):Qa prog 176 #[Qb bk] [[cl bk 135 #[Qb kb]],gK,gF] (AR L kb pv (runA .leaves1 (k,x))):=by
 have HI:=Vh (And.intro hp.1.i0 hp.1.i1);simp only at HI;clear hp;unfold AR;dsimp only [runA]
 obtain ⟨rv,tv,gq,gt,hr,ht,rfl,hx⟩:=hz;refine GO fun w HT=>?_
 have HT:=Vh (HT.out.sum (H':=[Qq kb L.fb pv rv tv k,gq,gt,gF,[cl bk 135 #[Qb kb]]]));have HX:=Vh hx;have HR:=Vh hr;have HTK:=Vh ht;clear hx hr ht;have k0:=HT.out.cell 0 0 rfl 0;simp only [Qo,GE3] at k0;have b0:=HT.out.cell 4 0 rfl 0;simp only [GE4] at b0;go_enter func176,ntmps176
 go_wp2_with fail
 refine (Qa.use (qi7 HX.out HI.out) (HT.out) [3] rfl rfl).mono ?_
 rintro e w1 ⟨gs,⟨rfl,g2,hx2,rfl⟩,Ta⟩;simp only [PU] at Ta;have HX:=Vh hx2;clear hx2 k0 b0;have HT:=Vh Ta;clear Ta;go_wp2
 exact bodyPost_end (results_none rfl _ _ _) rfl ⟨_,⟨_,_,rfl,⟨_,_,gq,gt,HR.out,HTK.out,rfl,HX.out⟩,rfl⟩,(HT.out.pick [0,1,2,3] rfl).sum⟩
theorem q2a (hz:qec L kb pv k x gK gF) (hp:qj9 .tries1 (k,x)) (bk:Nat):Qa prog 197 #[Qb bk] [[cl bk 135 #[Qb kb]],gK,gF] (AR L kb pv (runA .tries1 (k,x))):=by
 have HOK:=Vh hp.1;simp only at HOK;clear hp;unfold AR;dsimp only [runA,Y8]
 obtain ⟨rv,tv,gq,gt,hr,ht,rfl,hx⟩:=hz;refine GO fun w HT=>?_
 have HT:=Vh (HT.out.sum (H':=[Qq kb L.fb pv rv tv k,gq,gt,gF,[cl bk 135 #[Qb kb]]]));have HX:=Vh hx;have HR:=Vh hr;have HTK:=Vh ht;clear hx hr ht;have b0:=HT.out.cell 4 0 rfl 0;simp only [GE4] at b0;go_enter func197,ntmps197
 go_wp2_with fail
 refine (Qa.use (qey HX.out HOK.out 10) (HT.out) [0,3] rfl rfl).mono ?_
 rintro e w1 ⟨gs,⟨rfl,g2,hx2,rfl⟩,Ta⟩;simp only [PU] at Ta;have HX:=Vh hx2;clear hx2 b0;have HT:=Vh Ta;clear Ta;go_wp2
 exact bodyPost_end (results_none rfl _ _ _) rfl ⟨_,⟨_,_,rfl,⟨_,_,gq,gt,HR.out,HTK.out,rfl,HX.out⟩,rfl⟩,(HT.out.pick [0,1,2,3] rfl).sum⟩
theorem q3f (hz:qec L kb pv k x gK gF) (hp:qj9 .undo (k,x)):Qa prog 185 #[Qb kb] [gK,gF] (AR L kb pv (runA .undo (k,x))):=by
 have HOK:=Vh hp.1;simp only at HOK;have HLN:=Vh (show ({ x with slab:=(qd8 k.slot 9 x.slab).1 }:Qj).tr.length≤1000000 from hp.1.tr);clear hp;unfold AR;dsimp only [runA,Y8,Ql]
 obtain ⟨rv,tv,gq,gt,hr,ht,rfl,hx⟩:=hz;refine GO fun w HT=>?_
 have HT:=Vh (HT.out.sum (H':=[Qq kb L.fb pv rv tv k,gq,gt,gF,[]]));have HX:=Vh hx;have HR:=Vh hr;have HTK:=Vh ht;clear hx hr ht;go_enter func185,ntmps185
 go_wp2_with fail
 refine (Qa.use (qey HX.out HOK.out 9) (HT.out) [0,3] rfl rfl).mono ?_
 rintro e w1 ⟨gs,⟨rfl,g1,hx1,rfl⟩,Ta⟩;simp only [PU] at Ta;have HX:=Vh hx1;clear hx1;have HT:=Vh Ta;clear Ta;go_wp2_with fail
 refine (Qa.use (Z7 HX.out 2 HLN.out) (HT.out) [0,3] rfl rfl).mono ?_
 rintro e w1 ⟨gs,⟨rfl,g2,hx2,rfl⟩,Ta⟩;simp only [PU] at Ta;have HX:=Vh hx2;clear hx2;have HT:=Vh Ta;clear Ta;go_wp2
 exact bodyPost_end (results_none rfl _ _ _) rfl ⟨_,⟨_,_,rfl,⟨_,_,gq,gt,HR.out,HTK.out,rfl,HX.out⟩,rfl⟩,(HT.out.pick [0,1,2,3] rfl).sum⟩
theorem q2j (hz:qec L kb pv k x gK gF) (hp:qj9 .drop (k,x)):Qa prog 186 #[Qb kb] [gK,gF] (AR L kb pv (runA .drop (k,x))):=by
 have HC:=Vh (And.intro hp.1.slab.c0 (show x.slab.count≤64 by have:=hp.1.slab.c1;have:=hp.1.slab.n1;simp only at *;omega));simp only at HC;clear hp;unfold AR;dsimp only [runA]
 obtain ⟨rv,tv,gq,gt,hr,ht,rfl,hx⟩:=hz;refine GO fun w HT=>?_
 have HT:=Vh (HT.out.sum (H':=[Qq kb L.fb pv rv tv k,gq,gt,gF,[]]));have HX:=Vh hx;have HR:=Vh hr;have HTK:=Vh ht;clear hx hr ht;have k0:=HT.out.cell 0 0 rfl 0;simp only [Qo,GE3] at k0;go_enter func186,ntmps186
 go_wp2_with fail
 refine (Qe.use (Qk HX.out) (HT.out) [3] rfl rfl).mono ?_
 rintro e w1 ⟨rfl,mq,rfl⟩;have HT:=Vh (HT.out.drewN mq);generalize World.drewN _ _=wq at HT ⊢;go_wp2_with fail
 refine (Qa.use (qh4 HX.out HC.out.1 HC.out.2) (HT.out) [3] rfl rfl).mono ?_
 rintro e w1 ⟨gs,⟨rfl,g2,hx2,rfl⟩,Ta⟩;simp only [PU] at Ta;have HX:=Vh hx2;clear hx2 k0;have HT:=Vh Ta;clear Ta;go_wp2
 exact bodyPost_end (results_none rfl _ _ _) rfl ⟨_,⟨_,_,rfl,⟨_,_,gq,gt,HR.out,HTK.out,rfl,HX.out⟩,rfl⟩,(HT.out.pick [0,1,2,3] rfl).sum⟩
theorem q1q (hz:qec L kb pv k x gK gF) (hp:qj9 .again1 (k,x)) (bk:Nat):Qa prog 221 #[Qb bk] [[cl bk 135 #[Qb kb]],gK,gF] (AR L kb pv (runA .again1 (k,x))):=by
 obtain ⟨hok,hwk,hpr⟩:=hp;simp only at hok hwk hpr;obtain ⟨⟨i,t⟩,htke⟩:=Option.isSome_iff_exists.1 hpr;obtain ⟨htb,hi⟩:=hwk.tk i t htke;obtain ⟨s,hs⟩:∃ s,x.shs[i]?=some s:=⟨_,List.getElem?_eq_getElem hi⟩;have hrb:=hok.ring s (List.mem_of_getElem? hs)
 have hE:runA .again1 (k,x)=({ k with tk:=some (i,(Zs s.ring t { Qm.zero with slot:=-1 }).2.1) },{ x with shs:=x.shs.set i { s with ring:=(Zs s.ring t { Qm.zero with slot:=-1 }).1 } }):=by
  show Y2 _ _=_
  unfold Y2;simp only [htke,hs]
 rw [hE];unfold AR;dsimp only
 obtain ⟨rv,tv,gq,gt,hr,ht,rfl,hx⟩:=hz;rw [htke] at ht;obtain ⟨tb,qs,hqs,rfl,rfl⟩:=ht;have HFI:=Vh (qna hx hqs hs tb t hrb htb { Qm.zero with slot:=-1 });have HTA:=Vh (show ({ Qm.zero with slot:=-1 }:Qm).cells=#[.int .u64 0,.int .i64 (-1),.int .u64 0,.int .u64 0,.int .u64 0] from rfl);rw [HTA.out] at HFI;generalize Zs s.ring t { Qm.zero with slot:=-1 }=rt at *;refine GO fun w HT=>?_
 have HT:=Vh (HT.out.sum (H':=[Qq kb L.fb pv rv (Qb tb) k,gq,Xa tb qs.rb t,gF,[cl bk 135 #[Qb kb]]]));have HX:=Vh hx;have HR:=Vh hr;have HQS:=Vh hqs;clear hx hr hqs hs hrb htb hE hok hwk hpr htke hi;have k14:=HT.out.cell 0 0 rfl 14;simp only [Qo,GE3] at k14;have b0:=HT.out.cell 4 0 rfl 0;simp only [GE4] at b0;go_enter func221,ntmps221
 go_wp2_with fail
 refine (Qa.use (HFI.out) (HT.out) [2,3] rfl rfl).mono ?_
 rintro e w1 ⟨gs,⟨rfl,g1,hx1,rfl⟩,Ta⟩;simp only [PU] at Ta;have HX:=Vh hx1;clear hx1 k14 b0;have HT:=Vh Ta;clear Ta;go_wp2
 exact bodyPost_end (results_none rfl _ _ _) rfl ⟨_,⟨_,_,rfl,⟨_,_,gq,Xa tb qs.rb rt.2.1,HR.out,⟨tb,qs,HQS.out,rfl,rfl⟩,rfl,HX.out⟩,rfl⟩,((HT.out.pick [0,1,2,3] rfl).eq (H':=[Qq kb L.fb pv rv (Qb tb) { k with tk:=some (i,rt.2.1) },gq,Xa tb qs.rb rt.2.1,g1]) rfl).sum⟩
end
section
variable {L:Lay} {x:Qj} {g gK gF:List Blk} {kb:Nat} {pv:Value} {k:Qt}
theorem qxu (hz:qec L kb pv k x gK gF):Qa prog 122 #[Qb kb] [gK,gF] (MRz L kb pv (.row1 .ends1,(k,x))):=by
 intro w hw;refine (Qa.use (qoe L kb pv) (TG.refl hw) [] rfl rfl).mono ?_
 rintro e w' ⟨gs,⟨m,d,g',he,hs,rfl⟩,T⟩;exact ⟨_,⟨m,d,g',gK,gF,he,hs,hz,rfl⟩,T.pick [2,0,1] rfl⟩
theorem qsc (hz:qec L kb pv k x gK gF):Qa prog 148 #[Qb kb] [gK,gF] (MRz L kb pv (Ji,(k,x))):=by
 intro w hw;refine (Qa.use (qeh L kb pv) (TG.refl hw) [] rfl rfl).mono ?_
 rintro e w' ⟨gs,⟨m,d,g',he,hs,rfl⟩,T⟩;exact ⟨_,⟨m,d,g',gK,gF,he,hs,hz,rfl⟩,T.pick [2,0,1] rfl⟩
theorem mFn {fn:FuncId} {R:Ending→GH→Prop} (eg:∀ args w,(callFunc fn args).run prog w=.ok (.enter fn args) w) (h:Qa prog fn #[Qb kb] [gK,gF] R):FnG prog (.func (.func fn) #[Qb kb] #[]) [[],gK,gF] R :=
 ⟨fn,#[Qb kb],#[],rfl,eg,Qa.pre (by simpa using h) (by simp)⟩
theorem aFn {fn:FuncId} {bk:Nat} {gb:List Blk} {R:Ending→GH→Prop} (eg:∀ args w,(callFunc fn args).run prog w=.ok (.enter fn args) w) (h:Qa prog fn #[Qb bk] [gb,gK,gF] R):FnG prog (.func (.func fn) #[] #[Qb bk]) [gb,gK,gF] R :=
 ⟨fn,#[],#[Qb bk],rfl,eg,by simpa using h⟩
theorem qy (L:Lay) (kb:Nat) (pv:Value):(qfe L kb pv).Ok where
 v:=Q5 L kb pv
 y h:=h.elim
 m {f v g gK gF z} hv hz hp:=by
   obtain ⟨k,x⟩:=z;obtain ⟨rfl,rfl⟩:=hv;cases f with
   | right=>exact mFn (enters_of func93 (by kernel_rfl) rfl) (q1r hz hp)
   | enter=>exact mFn (enters_of func94 (by kernel_rfl) rfl) (q0i hz hp)
   | gate=>exact mFn (enters_of func95 (by kernel_rfl) rfl) (q2u hz hp)
   | asks=>exact mFn (enters_of func127 (by kernel_rfl) rfl) (q2w hz hp)
   | queues=>exact mFn (enters_of func153 (by kernel_rfl) rfl) (qxn hz hp)
   | submits=>exact mFn (enters_of func188 (by kernel_rfl) rfl) (quk hz hp)
   | fills=>exact mFn (enters_of func196 (by kernel_rfl) rfl) (q0z hz hp)
   | looks=>exact mFn (enters_of func128 (by kernel_rfl) rfl) (q0o hz hp)
   | again=>exact mFn (enters_of func187 (by kernel_rfl) rfl) (q02 hz hp)
   | tries=>exact mFn (enters_of func155 (by kernel_rfl) rfl) (q0b hz hp)
   | ends=>exact mFn (enters_of func122 (by kernel_rfl) rfl) (qxu hz)
   | leaves=>exact mFn (enters_of func148 (by kernel_rfl) rfl) (qsc hz)
 a {f v g gK gF z} hv hz hp:=by
   obtain ⟨k,x⟩:=z;cases f with
   | ends1=>obtain ⟨bk,rfl,rfl⟩:=hv;exact aFn (enters_of func147 (by kernel_rfl) rfl) (q27 hz hp bk)
   | leaves1=>obtain ⟨bk,rfl,rfl⟩:=hv;exact aFn (enters_of func176 (by kernel_rfl) rfl) (qxw hz hp bk)
   | undo=>obtain ⟨rfl,rfl⟩:=hv;exact mFn (enters_of func185 (by kernel_rfl) rfl) (q3f hz hp)
   | drop=>obtain ⟨rfl,rfl⟩:=hv;exact mFn (enters_of func186 (by kernel_rfl) rfl) (q2j hz hp)
   | tries1=>obtain ⟨bk,rfl,rfl⟩:=hv;exact aFn (enters_of func197 (by kernel_rfl) rfl) (q2a hz hp bk)
   | again1=>obtain ⟨bk,rfl,rfl⟩:=hv;exact aFn (enters_of func221 (by kernel_rfl) rfl) (q1q hz hp bk)
end
def isWk (L:Lay) (kb:Nat) (pv:Value) (k:Qt) (gK:List Blk):Prop :=
 ∃ rv tv gq gt,qw3 L.p.sb k.rq rv gq∧qwz L k.tk tv gt∧gK=Qq kb L.fb pv rv tv k++(gq++gt)
theorem qhy {L:Lay} {kb:Nat} {pv:Value} {k:Qt} {x:Qj} {gK gF:List Blk}:qec L kb pv k x gK gF↔isWk L kb pv k gK∧Qf L x gF :=
 ⟨fun ⟨rv,tv,gq,gt,a,b,c,d⟩=>⟨⟨rv,tv,gq,gt,a,b,c⟩,d⟩,fun ⟨⟨rv,tv,gq,gt,a,b,c⟩,d⟩=>⟨rv,tv,gq,gt,a,b,c,d⟩⟩
def zo (L:Lay) (kb:Nat) (s:SC) (n:Int) (k:Qt) (g:List Blk):Prop :=
 ∃ pb m d gst gK,(qfe L kb (Qb pb)).SV s m d gst∧isWk L kb (Qb pb) k gK∧g=Cli.progB pb m d n++(gst++gK)
theorem quh:∀ (s:SC) (z:ZC),St.preY (fun (_:Empty) (_:ZC)=>True) s z
 | .nil,_=>trivial
 | .at none _,_=>trivial
 | .at (some y) _,_=>y.elim
 | .row1 _,_=>trivial
 | .row2 _ _,_=>trivial
 | .thn s _,z=>quh s z
theorem qlz {L:Lay} {kb:Nat} {pv:Value}:∀ {s:SC} {m d:Value} {g:List Blk},(qfe L kb pv).SV s m d g→m=.nilFunc
 | .nil,_,_,_,h=>h.1
 | .at none _,_,_,_,h=>h.1
 | .at (some y) _,_,_,_,_=>y.elim
 | .row1 _,_,_,_,h=>h.1
 | .row2 _ _,_,_,_,h=>h.1
 | .thn s _,_,_,_,h=>by obtain ⟨bs,br,ds,vm,gs,gm,_,_,hv,_⟩:=h;exact qlz hv
def preC (s:SC) (z:ZC):Prop:=St.pre zr runA qdq qj9 s z
def qan (s:SC) (z:ZC):SC × ZC:=St.run zr runA s z
structure Qr where
 kind:Int
 id:Int
 dl:Int
 per:Int
def Qr.cells (c:Qr):Array Value:=#[.int .i64 c.kind,.int .u64 c.id,.int .u64 c.dl,.int .u64 c.per]
def zu (th no:Int) (c:Qr):Qt:=⟨th,no,c.kind,c.id,c.dl,c.per,0,false,0,0,c.id,0,0,0,none,none⟩
def J9 (kind:Int):SC:=if kind=1∨kind=2 then .at none .right else if kind=3 then .at none .enter else .at none .gate
section
variable {L:Lay} {x:Qj} {g gF:List Blk} {kb:Nat} {s:SC} {n:Int} {k:Qt}
theorem qvv (hc:zo L kb s n k g) (hx:Qf L x gF) (hp:preC s (k,x)) (hn:s.isNil=false) (hb:0≤n∧n≤1000000000) :
 Qa prog 341 #[Qb kb] [g,gF] fun e gs=>∃ g' gF',e=.returned (.bool true)∧zo L kb (qan s (k,x)).1 (n+1) (qan s (k,x)).2.1 g'∧Qf L (qan s (k,x)).2.2 gF'∧gs=[g',gF']:=by
 obtain ⟨pb,m,d,gst,gK,hs,⟨rv,tv,gq,gt,hr,ht,rfl⟩,rfl⟩:=hc;have hm0:=qlz hs;subst hm0;have hok:=qy L kb (Qb pb);have hm:=Cli.may_nil (x:=((k,x):ZC)) hok hn hs;have hd:=Cli.prog_step (n:=n) hok hs (x:=((k,x):ZC)) (gK:=Qq kb L.fb (Qb pb) rv tv k++(gq++gt)) (gF:=gF) ⟨rv,tv,gq,gt,hr,ht,rfl,hx⟩ (quh s _) hp pb hb hm;refine GO fun w HT=>?_
 have T1:=HT.out.sum (H':=[Qq kb L.fb (Qb pb) rv tv k,Cli.progB pb .nilFunc d n,gst,gq,gt,gF]);have k12:=T1.cell 0 0 rfl 12;simp only [Qo,GE3] at k12;have HD:=Vh hd;have HT:=Vh (HT.out.sum (H':=[Cli.progB pb .nilFunc d n,gst,Qq kb L.fb (Qb pb) rv tv k++(gq++gt),gF]));clear hs hr ht hx hp hn hb hok hm hd T1;go_enter func341,ntmps341
 go_wp2_with fail
 refine (Qa.use (HD.out) (HT.out) [0,1,2,3] rfl rfl).mono ?_
 rintro e w1 ⟨gs,⟨m',d',gst',gK',gF',rfl,hs',hx',rfl⟩,Ta⟩;simp only [PU] at Ta;have HS:=Vh hs';have HX:=Vh (qhy.1 hx');clear hs' hx' k12;have HT:=Vh Ta;clear Ta;go_wp2
 go_ret
 exact ⟨_,⟨_,gF',rfl,⟨pb,m',d',gst',gK',HS.out,HX.out.1,rfl⟩,HX.out.2,rfl⟩,HT.out.sum⟩
theorem qiy (hc:zo L kb .nil n k g) (hx:Qf L x gF) :
 Qa prog 341 #[Qb kb] [g,gF] fun e gs=>e=.returned (.bool false)∧∃ g' gF',zo L kb .nil n k g'∧Qf L x gF'∧gs=[g',gF']:=by
 obtain ⟨pb,m,d,gst,gK,hs,⟨rv,tv,gq,gt,hr,ht,rfl⟩,rfl⟩:=hc;have hok:=qy L kb (Qb pb);have hd:=Cli.prog_step_no (n:=n) hok hs (x:=((k,x):ZC)) (gK:=Qq kb L.fb (Qb pb) rv tv k++(gq++gt)) (gF:=gF) ⟨rv,tv,gq,gt,hr,ht,rfl,hx⟩ (quh .nil _) pb rfl;refine GO fun w HT=>?_
 have T1:=HT.out.sum (H':=[Qq kb L.fb (Qb pb) rv tv k,Cli.progB pb m d n,gst,gq,gt,gF]);have k12:=T1.cell 0 0 rfl 12;simp only [Qo,GE3] at k12;have HD:=Vh hd;have HS:=Vh hs;have HT:=Vh (HT.out.sum (H':=[Cli.progB pb m d n,gst,Qq kb L.fb (Qb pb) rv tv k++(gq++gt),gF]));clear hs hr ht hx hok hd T1;go_enter func341,ntmps341
 go_wp2_with fail
 refine (Qa.use (HD.out) (HT.out) [0,1,2,3] rfl rfl).mono ?_
 rintro e w1 ⟨gs,⟨gK',gF',rfl,hx',rfl⟩,Ta⟩;simp only [PU] at Ta;have HX:=Vh (qhy.1 hx');clear hx' k12;have HT:=Vh Ta;clear Ta;go_wp2
 go_ret
 exact ⟨_,⟨rfl,_,gF',⟨pb,m,d,gst,gK',HS.out,HX.out.1,rfl⟩,HX.out.2,rfl⟩,HT.out.sum⟩
theorem que (hc:zo L kb s n k g):Qe prog 339 #[Qb kb] [g] (.bool s.isNil):=by
 obtain ⟨pb,m,d,gst,gK,hs,⟨rv,tv,gq,gt,hr,ht,rfl⟩,rfl⟩:=hc;have hd:=Cli.prog_done (qy L kb (Qb pb)) hs pb n;refine GO fun w HT=>?_
 have T1:=HT.out.sum (H':=[Qq kb L.fb (Qb pb) rv tv k,Cli.progB pb m d n,gst,gq,gt]);have k12:=T1.cell 0 0 rfl 12;simp only [Qo,GE3] at k12;have HD:=Vh hd;have HT:=Vh T1;clear hs hr ht hd T1;go_enter func339,ntmps339
 go_wp2_with fail
 refine (Qe.use (HD.out) (HT.out) [1] rfl rfl).mono ?_
 rintro e w1 ⟨rfl,mq,rfl⟩;go_wp2
 go_ret
 exact ⟨rfl,_,rfl⟩
theorem qzx (hc:zo L kb s n k g) (hx:Qf L x gF) :
 Qa prog 340 #[Qb kb] [g,gF] fun e gs=>e=.returned (.bool (!s.isNil))∧∃ g' gF',zo L kb s n k g'∧Qf L x gF'∧gs=[g',gF']:=by
 obtain ⟨pb,m,d,gst,gK,hs,⟨rv,tv,gq,gt,hr,ht,rfl⟩,rfl⟩:=hc;have hm0:=qlz hs;subst hm0;have hok:=qy L kb (Qb pb)
 have hm:St.may (M:=(qfe L kb (Qb pb)).M) (A:=(qfe L kb (Qb pb)).A) (Y:=(qfe L kb (Qb pb)).Y) (α:=(qfe L kb (Qb pb)).α) (qfe L kb (Qb pb)).mayY s ((k,x):ZC)=!s.isNil:=by
  cases hn:s.isNil
  ·exact Cli.may_nil (x:=((k,x):ZC)) hok hn hs
  ·cases s <;> first | rfl | cases hn
 have hd:=Cli.prog_may (n:=n) hok hs (x:=((k,x):ZC)) (gK:=Qq kb L.fb (Qb pb) rv tv k++(gq++gt)) (gF:=gF) ⟨rv,tv,gq,gt,hr,ht,rfl,hx⟩ (quh s _) pb;rw [hm] at hd;refine GO fun w HT=>?_
 have T1:=HT.out.sum (H':=[Qq kb L.fb (Qb pb) rv tv k,Cli.progB pb .nilFunc d n,gst,gq,gt,gF]);have k12:=T1.cell 0 0 rfl 12;simp only [Qo,GE3] at k12;have HD:=Vh hd;have HS:=Vh hs;have HT:=Vh (HT.out.sum (H':=[Cli.progB pb .nilFunc d n,gst,Qq kb L.fb (Qb pb) rv tv k++(gq++gt),gF]));clear hs hr ht hx hok hd T1 hm;go_enter func340,ntmps340
 go_wp2_with fail
 refine (Qa.use (HD.out) (HT.out) [0,1,2,3] rfl rfl).mono ?_
 rintro e w1 ⟨gs,⟨gK',gF',rfl,hx',rfl⟩,Ta⟩;simp only [PU] at Ta;have HX:=Vh (qhy.1 hx');clear hx' k12;have HT:=Vh Ta;clear Ta;go_wp2
 go_ret
 exact ⟨_,⟨rfl,_,gF',⟨pb,.nilFunc,d,gst,gK',HS.out,HX.out.1,rfl⟩,HX.out.2,rfl⟩,HT.out.sum⟩
end
structure zg (N:Int) (r:Qs):Prop where
 n0:1≤r.slots.length
 n1:r.slots.length≤64
 t0:0≤r.tail
 t1:r.tail≤N
 h0:0≤r.head
 h1:r.head≤N
structure qem (N:Int) (t:Xt):Prop where
 p0:0≤t.pos
 p1:t.pos≤N
 nx:t.next=0∨t.next=1∨t.next=2
 st:t.status=0∨t.status=1∨t.status=2
structure Zr (N:Nat) (x:Qj):Prop where
 slab:Zm x.slab
 i0:0≤x.f.inside
 i1:x.f.inside≤N
 tr:x.tr.length≤N
 sh:1≤x.shs.length
 ring:∀ s∈x.shs,zg N s.ring
structure Zo (N:Nat) (k:Qt) (x:Qj):Prop where
 c0:0≤k.cdl∧k.cdl<18446744073709551616
 c1:0≤k.cper∧k.cper<18446744073709551616
 id:0≤k.id∧k.id<18446744073709551616
 slot:0≤k.slot
 saw:0≤k.saw∧k.saw<18446744073709551616∧okW k.saw=true
 rq:∀ q,k.rq=some q→qhc x.slab.recs.length q
 tk:∀ i t,k.tk=some (i,t)→qem N t∧i<x.shs.length
def qyw:SC→Qt→Prop
 | .nil,_=>True
 | .at none .right,_=>True
 | .at none .enter,_=>True
 | .at none .gate,_=>True
 | .at none .looks,_=>True
 | .at none .asks,k=>k.rq.isSome=true∧∀ q,k.rq=some q→q.st=0
 | .at none .queues,k=>k.tk.isSome=true
 | .at none .submits,k=>k.tk.isSome=true
 | .at none .fills,k=>k.tk.isSome=true
 | .at none .again,k=>k.tk.isSome=true
 | .at none .tries,k=>k.kind=3→k.tk.isSome=true
 | .row1 .ends1,_=>True
 | .thn (.row1 .leaves1) .ends,_=>True
 | .thn (.row2 .undo .drop) .leaves,_=>True
 | .thn (.row1 .drop) .leaves,_=>True
 | .thn (.row1 .again1) .leaves,k=>k.tk.isSome=true
 | .thn (.row2 .tries1 .drop) .ends,_=>True
 | .thn (.row1 .drop) .ends,_=>True
 | _,_=>False
theorem zg.mono {N M:Int} {r:Qs} (h:zg N r) (hm:N≤M):zg M r:=⟨h.n0,h.n1,h.t0,by have:=h.t1;omega,h.h0,by have:=h.h1;omega⟩
theorem zg.b {N:Int} {r:Qs} (h:zg N r) (hm:N≤1000000):qd r:=⟨h.n0,h.n1,h.t0,by have:=h.t1;omega,h.h0,by have:=h.h1;omega⟩
theorem qem.mono {N M:Int} {t:Xt} (h:qem N t) (hm:N≤M):qem M t:=⟨h.p0,by have:=h.p1;omega,h.nx,h.st⟩
theorem qem.b {N:Int} {t:Xt} (h:qem N t) (hm:N≤1000000):qet t:=⟨h.p0,by have:=h.p1;omega,h.nx,h.st⟩
theorem Zr.ok {N:Nat} {x:Qj} (h:Zr N x) (hN:N≤1000000):qo x :=
 ⟨h.slab,h.i0,by have:=h.i1;omega,by have:=h.tr;omega,h.sh,fun s hs=>(h.ring s hs).b (by omega)⟩
theorem Zr.mono {N M:Nat} {x:Qj} (h:Zr N x) (hm:N≤M):Zr M x :=
 ⟨h.slab,h.i0,by have:=h.i1;omega,by have:=h.tr;omega,h.sh,fun s hs=>(h.ring s hs).mono (by omega)⟩
theorem Zr.rings {N M:Nat} {x:Qj} (h:Zr N x) (hm:N≤M):∀ s∈x.shs,zg M s.ring:=fun s hs=>(h.ring s hs).mono (by omega)
theorem Zo.ok {N:Nat} {k:Qt} {x:Qj} (h:Zo N k x) (hN:N≤1000000):qmn k x :=
 ⟨h.c0,h.c1,h.id,h.slot,h.saw,h.rq,fun i t ht=>⟨(h.tk i t ht).1.b (by omega),(h.tk i t ht).2⟩⟩
theorem Zo.mono {N M:Nat} {k:Qt} {x:Qj} (h:Zo N k x) (hm:N≤M):Zo M k x :=
 ⟨h.c0,h.c1,h.id,h.slot,h.saw,h.rq,fun i t ht=>⟨(h.tk i t ht).1.mono (by omega),(h.tk i t ht).2⟩⟩
theorem Zo.core {N:Nat} {k:Qt} {x x':Qj} (h:Zo N k x) (h1:x'.slab.recs.length=x.slab.recs.length) (h2:x'.shs.length=x.shs.length):Zo N k x' :=
 ⟨h.c0,h.c1,h.id,h.slot,h.saw,fun q hq=>by rw [h1];exact h.rq q hq,fun i t ht=>⟨(h.tk i t ht).1,by rw [h2];exact (h.tk i t ht).2⟩⟩
theorem qxf {N:Int} {r:Qs} {t:Xt} (hr:zg N r) (ht:qem N t):qem N (stepT r t).2∧zg (N+1) (stepT r t).1:=by
 have h1:=hr.t0;have h2:=hr.t1;have ho:zg (N+1) r:=hr.mono (by omega);unfold stepT qes qal qdr;split
 ·exact ⟨ht,ho⟩
 ·split
  ·exact ⟨⟨h1,h2,.inr (.inl rfl),ht.st⟩,ho⟩
  ·split
   ·split
    ·exact ⟨⟨ht.p0,ht.p1,.inl rfl,ht.st⟩,ho⟩
    ·split
     ·exact ⟨⟨ht.p0,ht.p1,ht.nx,.inr (.inl rfl)⟩,ho⟩
     ·exact ⟨⟨ht.p0,ht.p1,.inr (.inr rfl),ht.st⟩,ho⟩
   ·split
    ·exact ⟨⟨ht.p0,ht.p1,.inl rfl,.inr (.inr rfl)⟩,⟨hr.n0,hr.n1,by have:=ht.p0;simp only;omega,by have:=ht.p1;simp only;omega,hr.h0,by have:=hr.h1;simp only;omega⟩⟩
    ·exact ⟨⟨ht.p0,ht.p1,.inl rfl,ht.st⟩,ho⟩
theorem qx2 {N:Int} {r:Qs} {t:Xt} (v:Qm) (hr:zg N r) (ht:qem N t):qem N (Zs r t v).2.1∧zg N (Zs r t v).1:=by
 unfold Zs;split
 ·exact ⟨⟨ht.p0,ht.p1,ht.nx,ht.st⟩,⟨by simp only [List.length_set];exact hr.n0,by simp only [List.length_set];exact hr.n1,hr.t0,hr.t1,hr.h0,hr.h1⟩⟩
 ·exact ⟨ht,hr⟩
theorem qh2 {N:Int} {l:List Q0} {i:Nat} {s:Q0} (h:∀ s∈l,zg N s.ring) (hs:zg N s.ring):∀ a∈l.set i s,zg N a.ring:=by
 intro a ha;rcases List.mem_or_eq_of_mem_set ha with h1 | h1
 ·exact h a h1
 ·exact h1 ▸ hs
section
variable {N:Nat} {k:Qt} {x:Qj}
theorem qw (h:Zr N x) (E:EvS):Zr (N+1) (qi8 k E x) :=
 ⟨h.slab,h.i0,by have:=h.i1;show x.f.inside≤_;omega,by have:=h.tr;show (x.tr++[_]).length≤_;rw [List.length_append];simp;omega,h.sh,h.rings (by omega)⟩
theorem qr (h:Zr N x) {s:Qn} (hs:Zm s):Zr N { x with slab:=s }:=⟨hs,h.i0,h.i1,h.tr,h.sh,h.ring⟩
theorem Jz (hc:Zr N x) (hk:Zo N k x) (e:Int):Zr (N+1) (Ql e (k,x)).2∧Zo (N+1) (Ql e (k,x)).1 (Ql e (k,x)).2 :=
 ⟨qw hc _,((⟨hk.c0,hk.c1,hk.id,hk.slot,hk.saw,hk.rq,hk.tk⟩:Zo N (Jl e k) x).mono (M:=N+1) (by omega)).core rfl rfl⟩
theorem qk6 (hc:Zr N x) (hk:Zo N k x) (ev:Int):Zr N (Y8 ev (k,x)).2∧Zo N (Y8 ev (k,x)).1 (Y8 ev (k,x)).2:=by
 obtain ⟨h1,h2⟩:=qbp hc.slab k.slot (x.slab.word k.slot) ev;exact ⟨qr hc h1,(⟨hk.c0,hk.c1,hk.id,hk.slot,hk.saw,hk.rq,hk.tk⟩:Zo N (qc5 ev k x.slab) x).core h2 rfl⟩
theorem qwx (hc:Zr N x) (hk:Zo N k x) (v:Qm):Zr N (Y2 v (k,x)).2∧Zo N (Y2 v (k,x)).1 (Y2 v (k,x)).2:=by
 unfold Y2;simp only;split
 ·exact ⟨hc,hk⟩
 ·rename_i i t ht
  split
  ·exact ⟨hc,hk⟩
  ·rename_i s hs
   obtain ⟨htn,hi⟩:=hk.tk i t ht;have hrn:=hc.ring s (List.mem_of_getElem? hs);obtain ⟨a,b⟩:=qx2 v hrn htn;refine ⟨⟨hc.slab,hc.i0,hc.i1,hc.tr,by simpa using hc.sh,qh2 hc.ring b⟩,⟨hk.c0,hk.c1,hk.id,hk.slot,hk.saw,hk.rq,fun i' t' h'=>?_⟩⟩
   cases h'
   exact ⟨a,by simpa using hi⟩
theorem qxo (hc:Zr N x) (hk:Zo N k x) (a:AC):Zr (N+1) (runA a (k,x)).2∧Zo (N+1) (runA a (k,x)).1 (runA a (k,x)).2:=by
 cases a with
 | ends1=>exact ⟨qw hc _,(hk.mono (M:=N+1) (by omega)).core rfl rfl⟩
 | leaves1 =>
   have h1:0≤Zf x.f.inside∧Zf x.f.inside≤N:=by have:=hc.i0;have:=hc.i1;unfold Zf;split <;> omega
   exact ⟨⟨hc.slab,h1.1,by have:=h1.2;show Zf x.f.inside≤_;omega,by have:=hc.tr;show x.tr.length≤_;omega,hc.sh,hc.rings (by omega)⟩,(hk.mono (M:=N+1) (by omega)).core rfl rfl⟩
 | undo =>
   obtain ⟨h1,h2⟩:=qk6 hc hk 9;exact Jz h1 h2 2
 | drop =>
   obtain ⟨h1,h2⟩:=qhs hc.slab;exact ⟨(qr hc h1).mono (M:=N+1) (by omega),(hk.mono (M:=N+1) (by omega)).core h2 rfl⟩
 | tries1 =>
   obtain ⟨h1,h2⟩:=qk6 hc hk 10;exact ⟨h1.mono (M:=N+1) (by omega),h2.mono (M:=N+1) (by omega)⟩
 | again1 =>
   obtain ⟨h1,h2⟩:=qwx hc hk { Qm.zero with slot:=-1 };exact ⟨h1.mono (M:=N+1) (by omega),h2.mono (M:=N+1) (by omega)⟩
structure JC (N:Nat) (s:SC) (z:ZC):Prop where
 core:Zr N z.2
 work:Zo N z.1 z.2
 fit:qyw s z.1
theorem JC.pre {s:SC} {z:ZC} (h:JC N s z) (hN:N<1000000):preC s z:=by
 obtain ⟨k,x⟩:=z;obtain ⟨hc,hk,hf⟩:=h;simp only at hc hk hf;have ho:=hc.ok (by omega);have hw:=hk.ok (by omega);have hact:∀ a,qo (runA a (k,x)).2∧qmn (runA a (k,x)).1 (runA a (k,x)).2:=fun a=>⟨(qxo hc hk a).1.ok (by omega),(qxo hc hk a).2.ok (by omega)⟩
 match s,hf with
 | .nil,_=>trivial
 | .at none .right,_=>exact ⟨ho,hw,trivial⟩
 | .at none .enter,_=>exact ⟨ho,hw,trivial⟩
 | .at none .gate,_=>exact ⟨ho,hw,trivial⟩
 | .at none .looks,_=>exact ⟨ho,hw,trivial⟩
 | .at none .asks,hf=>exact ⟨ho,hw,hf⟩
 | .at none .queues,hf=>exact ⟨ho,hw,hf⟩
 | .at none .submits,_=>exact ⟨ho,hw,trivial⟩
 | .at none .fills,hf=>exact ⟨ho,hw,hf⟩
 | .at none .again,_=>exact ⟨ho,hw,trivial⟩
 | .at none .tries,_=>exact ⟨ho,hw,trivial⟩
 | .row1 .ends1,_=>exact ⟨ho,hw,trivial⟩
 | .thn (.row1 .leaves1) .ends,_=>exact ⟨⟨ho,hw,trivial⟩,fun _=>⟨(hact .leaves1).1,(hact .leaves1).2,trivial⟩⟩
 | .thn (.row2 .undo .drop) .leaves,_=>exact ⟨⟨ho,hw,trivial⟩,fun h=>by cases h⟩
 | .thn (.row1 .drop) .leaves,_=>exact ⟨⟨ho,hw,trivial⟩,fun _=>⟨(hact .drop).1,(hact .drop).2,trivial⟩⟩
 | .thn (.row1 .again1) .leaves,hf=>exact ⟨⟨ho,hw,hf⟩,fun _=>⟨(hact .again1).1,(hact .again1).2,trivial⟩⟩
 | .thn (.row2 .tries1 .drop) .ends,_=>exact ⟨⟨ho,hw,trivial⟩,fun h=>by cases h⟩
 | .thn (.row1 .drop) .ends,_=>exact ⟨⟨ho,hw,trivial⟩,fun _=>⟨(hact .drop).1,(hact .drop).2,trivial⟩⟩
theorem qeu (k k2:Qt):qyw (Zx k) k2:=by
 unfold Zx Ji;split <;> trivial
theorem qvs {s:Qn} {q:Req} (h:q.st=0):(Zu s q).2.st=0∨(Zu s q).2.st=1∨(Zu s q).2.st=2:=by
 unfold Zu;rw [if_neg (by omega)];split
 ·unfold qjq;split <;> simp [h]
 ·split
  ·unfold qh3;split <;> simp [h]
  ·unfold qef;simp only;split <;> simp [h]
theorem qrn (hc:Zr N x) (hk:Zo N k x):Zo N (lookW k x.slab).1 x:=by
 have hs:0≤x.slab.slot k.id:=by have:=hk.id.1;unfold Qn.slot;split <;> omega
 have hw:=J5 hc.slab (x.slab.slot k.id);unfold lookW;split
 ·exact hk
 ·split
  ·exact ⟨hk.c0,hk.c1,hk.id,hs,hw,hk.rq,hk.tk⟩
  ·exact ⟨hk.c0,hk.c1,hk.id,hs,hw,hk.rq,hk.tk⟩
theorem qnh (hc:Zr N x) {slot:Int} (h:0≤slot):Y4 slot x<x.shs.length:=by
 have hn:=hc.sh;have a:0≤slot % (x.shs.length:Int):=Int.emod_nonneg _ (by omega);have b:slot % (x.shs.length:Int)<x.shs.length:=Int.emod_lt_of_pos _ (by omega);unfold Y4;omega
theorem qkb:qem N Xm:=⟨by decide,by show (0:Int)≤N;omega,.inl rfl,.inl rfl⟩
theorem q2h (hc:Zr N x) (hk:Zo N k x) (m:MC) (hf:qyw (.at none m) k):JC (N+1) (zr m (k,x)).1 (zr m (k,x)).2:=by
 have hc':=hc.mono (M:=N+1) (by omega);have hk':=hk.mono (M:=N+1) (by omega);have hre:∀ e s,qyw s (Jl e k)→JC (N+1) s (Ql e (k,x)):=fun e s hs=>⟨(Jz hc hk e).1,(Jz hc hk e).2,hs⟩
 cases m with
 | ends=>exact hf.elim
 | leaves=>exact hf.elim
 | right =>
   show JC (N+1) (if qt6 k then _ else _:SC × ZC).1 (if qt6 k then _ else _:SC × ZC).2
   split
   ·exact hre 1 _ trivial
   ·exact ⟨hc',hk',trivial⟩
 | enter=>exact ⟨⟨hc.slab,by have:=hc.i0;show 0≤x.f.inside+1;omega,by have:=hc.i1;show x.f.inside+1≤_;omega,hc'.tr,hc.sh,hc'.ring⟩,hk'.core rfl rfl,trivial⟩
 | gate =>
   show JC (N+1) (if x.f.closed=true then _ else _:SC × ZC).1 (if x.f.closed=true then _ else _:SC × ZC).2
   split
   ·exact hre 3 _ (qeu _ _)
   ·split
    ·refine ⟨hc',⟨hk'.c0,hk'.c1,hk'.id,hk'.slot,hk'.saw,fun q hq=>?_,hk'.tk⟩,rfl,fun q hq=>?_⟩
     ·cases hq
      have h1:=hk.c1;have h2:=hc.slab.n0;refine ⟨?_,?_,by simp,by simp;omega,.inl rfl⟩
      ·show 0≤k.period;unfold Qt.period;split <;> omega
      ·show k.period < _;unfold Qt.period;split <;> omega
     ·cases hq;rfl
    ·exact ⟨hc',hk',trivial⟩
 | asks =>
   obtain ⟨hr,hq0⟩:=hf;obtain ⟨q,hq⟩:=Option.isSome_iff_exists.1 hr;have hE:zr .asks (k,x)=qcd (k,x) q:=by show (match k.rq with | none=>_ | some q=>_)=_;rw [hq]
   rw [hE];have hst:=hq0 q hq;obtain ⟨h1,h2,h3⟩:=qno hc.slab (hk.rq q hq);have hid:=qnv hc.slab (hk.rq q hq) hst;have h4:=qvs (s:=x.slab) hst;unfold qcd;simp only;generalize Zu x.slab q=r at *;have cx:Zr N { x with slab:=r.1 }:=qr hc h1;have wk:Zo N { k with rq:=some r.2 } { x with slab:=r.1 }:=⟨hk.c0,hk.c1,hk.id,hk.slot,hk.saw,fun q' h'=>by cases h';show qhc r.1.recs.length r.2;rw [h3];exact h2,hk.tk⟩;split
   ·exact ⟨(Jz cx wk 2).1,(Jz cx wk 2).2,trivial⟩
   ·split
    ·next h5 =>
     obtain ⟨i0,i1⟩:=hid h5;refine ⟨cx.mono (M:=N+1) (by omega),⟨wk.c0,wk.c1,⟨i0,i1⟩,by show 0≤r.2.id % 64;omega,wk.saw,wk.rq,fun i t ht=>?_⟩,rfl⟩
     cases ht
     exact ⟨qkb,qnh hc (by omega)⟩
    ·next h6 h5 =>
     exact ⟨cx.mono (M:=N+1) (by omega),wk.mono (M:=N+1) (by omega),rfl,fun q' h'=>by cases h';omega⟩
 | queues =>
   obtain ⟨⟨i,t⟩,htk⟩:=Option.isSome_iff_exists.1 hf;obtain ⟨htn,hi⟩:=hk.tk i t htk;obtain ⟨s,hs⟩:∃ s,x.shs[i]?=some s:=⟨_,List.getElem?_eq_getElem hi⟩
   have hE:zr .queues (k,x)=Z1 (k,x) i t s:=by
    show (match k.tk with | none=>_ | some (i,t)=>_)=_
    rw [htk]
    show (match x.shs[i]? with | none=>_ | some s=>_)=_
    rw [hs]
   rw [hE];obtain ⟨a,b⟩:=qxf (hc.ring s (List.mem_of_getElem? hs)) htn;unfold Z1;simp only;generalize stepT s.ring t=r at *;have cx:Zr (N+1) { x with shs:=x.shs.set i { s with ring:=r.1 } }:=⟨hc.slab,hc'.i0,hc'.i1,hc'.tr,by simpa using hc.sh,qh2 hc'.ring (by simpa using b)⟩;have wk:Zo (N+1) { k with tk:=some (i,r.2) } { x with shs:=x.shs.set i { s with ring:=r.1 } }:=⟨hk.c0,hk.c1,hk.id,hk.slot,hk.saw,hk.rq,fun i' t' h'=>by cases h';exact ⟨a.mono (by omega),by simpa using hi⟩⟩;split
   ·exact ⟨cx,wk,rfl⟩
   ·split
    ·refine ⟨⟨cx.slab,cx.i0,cx.i1,?_,cx.sh,cx.ring⟩,(⟨wk.c0,wk.c1,wk.id,wk.slot,wk.saw,wk.rq,wk.tk⟩:Zo (N+1) (Jl 2 { k with tk:=some (i,r.2) }) { x with shs:=x.shs.set i { s with ring:=r.1 } }).core rfl rfl,trivial⟩
     have:=hc.tr
     show (x.tr++[_]).length≤_
     rw [List.length_append];simp;omega
    ·split
     ·exact ⟨cx,wk,trivial⟩
     ·split
      ·exact ⟨cx,wk,rfl⟩
      ·exact ⟨cx,wk,rfl⟩
 | submits =>
   obtain ⟨h1,h2⟩:=qk6 hc hk 2;exact ⟨qw h1 _,(h2.mono (M:=N+1) (by omega)).core rfl rfl,hf⟩
 | fills =>
   obtain ⟨h1,h2⟩:=qwx hc hk (zv (k,x));refine ⟨h1.mono (M:=N+1) (by omega),?_,trivial⟩
   have h3:=h2.mono (M:=N+1) (by omega);exact ⟨h3.c0,h3.c1,h3.id,h3.slot,h3.saw,h3.rq,h3.tk⟩
 | looks =>
   have wk:=qrn hc hk;obtain ⟨e1,e2,e3,e4⟩:=qas k x.slab hk.slot hk.id.1
   show JC (N+1) (if (lookW k x.slab).2=0 then _ else _:SC × ZC).1 (if (lookW k x.slab).2=0 then _ else _:SC × ZC).2
   split
   ·show JC (N+1) (if k.kind=3 then _ else _:SC × ZC).1 (if k.kind=3 then _ else _:SC × ZC).2
    split
    ·refine ⟨hc',⟨wk.c0,wk.c1,wk.id,wk.slot,wk.saw,wk.rq,fun i t ht=>?_⟩,rfl⟩
     cases ht
     exact ⟨qkb,qnh hc e4⟩
    ·next h3=>exact ⟨hc',wk.mono (M:=N+1) (by omega),fun h=>absurd (e1.symm.trans h) h3⟩
   ·show JC (N+1) (if (lookW k x.slab).2=1 then _ else _:SC × ZC).1 (if (lookW k x.slab).2=1 then _ else _:SC × ZC).2
    split
    ·exact ⟨(Jz hc wk 1).1,(Jz hc wk 1).2,qeu _ _⟩
    ·exact ⟨(Jz hc wk 0).1,(Jz hc wk 0).2,qeu _ _⟩
 | again =>
   have wk:=qrn hc hk;obtain ⟨e1,e2,e3,e4⟩:=qas k x.slab hk.slot hk.id.1;have hf':(lookW k x.slab).1.tk.isSome=true:=by rw [e3];exact hf
   show JC (N+1) (if (lookW k x.slab).2=0 then _ else _:SC × ZC).1 (if (lookW k x.slab).2=0 then _ else _:SC × ZC).2
   split
   ·exact ⟨hc',wk.mono (M:=N+1) (by omega),fun _=>hf'⟩
   ·exact ⟨(Jz hc wk 0).1,(Jz hc wk 0).2,hf'⟩
 | tries =>
   obtain ⟨h1,h2⟩:=qbp hc.slab k.slot k.saw k.event;have cx:Zr N (qx (k,x)).1.2:=qr hc h1;have wk:Zo N (qx (k,x)).1.1 (qx (k,x)).1.2:=(⟨hk.c0,hk.c1,hk.id,hk.slot,hk.saw,hk.rq,hk.tk⟩:Zo N (qx (k,x)).1.1 x).core h2 rfl;have wo:Zo N (okC (qx (k,x)).1.1) (qx (k,x)).1.2:=⟨wk.c0,wk.c1,wk.id,wk.slot,wk.saw,wk.rq,wk.tk⟩
   show JC (N+1) (if (qx (k,x)).2≠0 then _ else _:SC × ZC).1 (if (qx (k,x)).2≠0 then _ else _:SC × ZC).2
   split
   ·show JC (N+1) (if k.kind=3 then _ else _:SC × ZC).1 (if k.kind=3 then _ else _:SC × ZC).2
    split
    ·next h3=>exact ⟨cx.mono (M:=N+1) (by omega),wk.mono (M:=N+1) (by omega),hf h3⟩
    ·exact ⟨cx.mono (M:=N+1) (by omega),wk.mono (M:=N+1) (by omega),trivial⟩
   ·show JC (N+1) (if k.kind=3 then _ else _:SC × ZC).1 (if k.kind=3 then _ else _:SC × ZC).2
    split
    ·next h3=>exact ⟨qw cx _,(wo.mono (M:=N+1) (by omega)).core rfl rfl,hf h3⟩
    ·show JC (N+1) (if k.kind=5 then _ else _:SC × ZC).1 (if k.kind=5 then _ else _:SC × ZC).2
     split
     ·exact ⟨qw cx _,(wo.mono (M:=N+1) (by omega)).core rfl rfl,trivial⟩
     ·exact ⟨qw cx _,(wo.mono (M:=N+1) (by omega)).core rfl rfl,trivial⟩
theorem JC.step {s:SC} {z:ZC} (h:JC N s z):JC (N+1) (qan s z).1 (qan s z).2:=by
 obtain ⟨k,x⟩:=z;obtain ⟨hc,hk,hf⟩:=h;simp only at hc hk hf;have ha:=fun a=>qxo hc hk a
 match s,hf with
 | .nil,_=>exact ⟨hc.mono (M:=N+1) (by omega),hk.mono (M:=N+1) (by omega),trivial⟩
 | .at none m,hf=>exact q2h hc hk m hf
 | .row1 .ends1,_=>exact ⟨(ha .ends1).1,(ha .ends1).2,trivial⟩
 | .thn (.row1 .leaves1) .ends,_=>exact ⟨(ha .leaves1).1,(ha .leaves1).2,trivial⟩
 | .thn (.row2 .undo .drop) .leaves,_=>exact ⟨(ha .undo).1,(ha .undo).2,trivial⟩
 | .thn (.row1 .drop) .leaves,_=>exact ⟨(ha .drop).1,(ha .drop).2,trivial⟩
 | .thn (.row1 .again1) .leaves,_=>exact ⟨(ha .again1).1,(ha .again1).2,trivial⟩
 | .thn (.row2 .tries1 .drop) .ends,_=>exact ⟨(ha .tries1).1,(ha .tries1).2,trivial⟩
 | .thn (.row1 .drop) .ends,_=>exact ⟨(ha .drop).1,(ha .drop).2,trivial⟩
end
end
end Go.Proofs.YtikpbibeagbccaaGreat
