import Derived.Test.YtikpbibeagbccaaGreatSV25
import Derived.Test.YtikpbibeagbccaaGreatSV6
import Derived.Test.YtikpbibeagbccaaGreatSV17
set_option maxRecDepth 100000
set_option maxHeartbeats 4000000
namespace Go.Proofs.YtikpbibeagbccaaGreat
set_option linter.unusedVariables false
set_option linter.unusedSimpArgs false
open Go.Proofs.Tryz
section
open Go.RowKit Go.Shelf
section
variable {L:Lay} {kb:Nat} {pv:Value}
theorem qzr {u0 u3 u4 u5 u6 u7 u8 u9 u10 u11 u12 u13 u14 u15 u16 u17 u18 u19 u20 u21 u22 u23 u24 u25 u26 u27 u28 u29 u30 u31 u32 u33 u34 u35 u36 u37 u38 u39 u40 u41 u42 u43 u44 u45 u46 u47 u48 u49 u50 u51 u52 u53 u54 u55 u56 u57 u58 u59 u60 u61 u62 u63 u64 u65 u66 u67 u68 u69 u70 u71 u72 u73 u74 u75 u76 u77 u78 u79 u80 u81 u82 u83 u84 u85 u86 u87 u88 u89 u90 u91 u92 u93 u94 u95 u96 u97 u98 u99 u100 u101 u102 u103 u104 u105 u106 u107 u108 u109 u110 u111 u112 u113 u114 u115 u116 u117 u118 u119 u120:Value} {bb rb:Nat} {K:Act→World→Prop} {Q':Exit→Act→World→Prop} {g0 g1 g2 g3:List Blk} {w0 w:World} {h:GH} (T:TG h w0 [g0,g1,g2,g3,[cl bb 135 #[Qb kb]],[cl rb 180 #[.nilFunc,.nilFunc]]] w)
 (hK:∀ w' m d g v113 v114 v115 v116 v117 v118 v119 v120,(qf6 L kb pv).SV (.thn (.row2 .tries1 .drop) .ends) m d g→TG h w0 [g0,g1,g2,g3,g,[cl rb 180 #[m,d]]] w'→K { tmps:=#[u0,Qb bb,Qb rb,u3,u4,u5,u6,u7,u8,u9,u10,u11,u12,u13,u14,u15,u16,u17,u18,u19,u20,u21,u22,u23,u24,u25,u26,u27,u28,u29,u30,u31,u32,u33,u34,u35,u36,u37,u38,u39,u40,u41,u42,u43,u44,u45,u46,u47,u48,u49,u50,u51,u52,u53,u54,u55,u56,u57,u58,u59,u60,u61,u62,u63,u64,u65,u66,u67,u68,u69,u70,u71,u72,u73,u74,u75,u76,u77,u78,u79,u80,u81,u82,u83,u84,u85,u86,u87,u88,u89,u90,u91,u92,u93,u94,u95,u96,u97,u98,u99,u100,u101,u102,u103,u104,u105,u106,u107,u108,u109,u110,u111,u112,v113,v114,v115,v116,v117,v118,v119,v120],defers:=[] } w') :
 (qz3 16 Tryz.f155).wp prog (Exit.then K Q') { tmps:=#[u0,Qb bb,Qb rb,u3,u4,u5,u6,u7,u8,u9,u10,u11,u12,u13,u14,u15,u16,u17,u18,u19,u20,u21,u22,u23,u24,u25,u26,u27,u28,u29,u30,u31,u32,u33,u34,u35,u36,u37,u38,u39,u40,u41,u42,u43,u44,u45,u46,u47,u48,u49,u50,u51,u52,u53,u54,u55,u56,u57,u58,u59,u60,u61,u62,u63,u64,u65,u66,u67,u68,u69,u70,u71,u72,u73,u74,u75,u76,u77,u78,u79,u80,u81,u82,u83,u84,u85,u86,u87,u88,u89,u90,u91,u92,u93,u94,u95,u96,u97,u98,u99,u100,u101,u102,u103,u104,u105,u106,u107,u108,u109,u110,u111,u112,u113,u114,u115,u116,u117,u118,u119,u120],defers:=[] } w:=by
 refine qvr (by rfl) ?_
 have hrow:∀ (bk b bf bl bi:Nat),(qf6 L kb pv).SV (.row2 .tries1 .drop) .nilFunc (.func (.func 166) #[] #[Qb bf,Qb bl,Qb bi])
  ([cl bf 1 #[.func (.func 197) #[] #[Qb bk]],cl bl 282 #[.slice (some ⟨b,0,none⟩) 2 2],cl bi 3 #[.int .i64 0],cl b 1 #[.func (.func 197) #[] #[Qb bk],.func (.func 186) #[Qb kb] #[]]]++[cl bk 135 #[Qb kb]]++[]) :=
  fun bk b bf bl bi=>⟨rfl,bf,bl,bi,b,_,_,_,[],rfl,⟨bk,rfl,rfl⟩,⟨rfl,rfl⟩,rfl⟩
 have hthen:∀ (bk b bf bl bi:Nat),_:=fun bk b bf bl bi=>Cli.prog_then_x (f:=MC.ends) (v:=.func (.func 122) #[Qb kb] #[]) (gm:=[]) (Q5 L kb pv) rfl (hrow bk b bf bl bi) ⟨rfl,rfl⟩
 have hrow':=hrow;have HTH:=Vh hthen;have HT:=Vh T;have HK:=Vh hK;have b0:=T.cell 4 0 rfl 0;have ltb:=T.lt 4 0 rfl;have ltr:=T.lt 5 0 rfl;simp only [GE2] at b0 ltb ltr;clear T hK hrow hthen;have HRW:=Vh hrow';clear hrow'
 go_region_held3 (fun w'=>w'.cell? ⟨bb,0,none⟩=some (Qb kb))
  (first
  | exact HT2.out.cell 4 6 rfl 0
  | exact HT1.out.cell 4 4 rfl 0
  | exact (HT.out.drew.alloc (k:=w.heap.size) rfl _ _).cell 4 0 rfl 0
  | exact HT.out.drew.cell 4 0 rfl 0
  | exact HT.out.cell 4 0 rfl 0
  | exact ((HT2.out.set 5 0 rfl 0 _).set 5 0 rfl 1 _).cell 4 6 rfl 0)
  (first
  | (go_at_call 138
     refine (Qa.use (Cli.row_1 (b:=w.heap.size) (o:=0) (D:=#[.func (.func 197) #[] #[Qb bb],.func (.func 186) #[Qb kb] #[]]) rfl 2 (.inr rfl)) (HT.out.drew.alloc (k:=w.heap.size) rfl _ _) [6] rfl rfl).mono ?_
     rintro e w7 ⟨gs,⟨bf,bl,bi,rfl,rfl⟩,Ta⟩;simp only [PU] at Ta;have HT1:=Vh (Ta.sum (H':=[g0,g1,g2,g3,[cl bf 1 #[.func (.func 197) #[] #[Qb bb]],cl bl 282 #[.slice (some ⟨w.heap.size,0,none⟩) 2 2],cl bi 3 #[.int .i64 0],cl w.heap.size 1 #[.func (.func 197) #[] #[Qb bb],.func (.func 186) #[Qb kb] #[]]]++[cl bb 135 #[Qb kb]]++[],[cl rb 180 #[.nilFunc,.nilFunc]],[]]))
     clear Ta)
  | (go_at_call 140
     refine (Qa.use (HTH.out _ _ _ _ _) HT1.out [4,6] rfl rfl).mono ?_
     rintro e w8 ⟨gs,⟨bs,br,rfl,rfl⟩,Ta⟩;simp only [qc9,List.set_cons_zero,List.set_cons_succ] at Ta;obtain ⟨e0,e1⟩:=Ce2 (Ta.cell 5 0 rfl) 0 1;obtain ⟨f0,f1⟩:=Ce2 (Ta.free 5 0 rfl) 0 1;simp only [GE3] at e0 e1;have HT2:=Vh Ta
     clear Ta))
 all_goals
  exact HK.out _ _ _ _ _ _ _ _ _ _ _ _ ⟨bs,br,_,_,_,_,rfl,rfl,HRW.out _ _ _ _ _,⟨rfl,rfl⟩,rfl⟩ ((((HT2.out.set 5 0 rfl 0 _).set 5 0 rfl 1 _).pick [0,1,2,3,4,5] rfl).eq rfl)
end
theorem qub (n:Int) (h0:0≤n) (h1:n<18446744073709551616):Qe prog 195 #[.int .u64 n] [] (.int .u64 (Zs n)) :=
 fun w hw=>(qce n w h0 h1).mono fun e w' ⟨he,hw'⟩=>⟨he,0,hw'.symm⟩
section
variable {L:Lay} {x:Ql} {gK gF:List Blk} {kb:Nat} {pv:Value} {k:Q7}
theorem q3h (hz:qe0 L kb pv k x gK gF) (hp:qd2 .tries (k,x)):Qa prog 155 #[Qb kb] [gK,gF] (MRz L kb pv (qbj .tries (k,x))):=by
 obtain ⟨hok,hwk,_⟩:=hp;simp only at hok hwk;have hwb:=qip hok.slab k.slot k.saw k.event hwk.saw.1 hwk.saw.2.1 hwk.saw.2.2;have HTRY:=Vh (show ∀ g,Qf L x g→_ from fun g hx=>qdd (g:=g) hx hok.slab.n1 k.slot k.saw k.event hwk.saw.1 hwk.saw.2.1)
 have hE:∀ s2 w2 er,x.slab.try k.slot k.saw k.event=(s2,w2,er)→qbj .tries (k,x) =
  if er≠0 then (if k.kind=3 then (.at none .again,({ k with gen:=Zs w2 },{ x with slab:=s2 })) else (.at none .looks,({ k with gen:=Zs w2 },{ x with slab:=s2 })))
  else if k.kind=3 then (.at none .fills,qcp { ev0 with kind:=6,id:=k.id,gen:=Zs w2,dl:=k.cdl } (okC { k with gen:=Zs w2 },{ x with slab:=s2 }))
  else if k.kind=5 then (.row1 .ends1,qcp { ev0 with kind:=8,id:=k.id,gen:=Zs w2 } (okC { k with gen:=Zs w2 },{ x with slab:=s2 }))
  else (.thn (.row2 .tries1 .drop) .ends,qcp { ev0 with kind:=7,id:=k.id,gen:=Zs w2 } (okC { k with gen:=Zs w2 },{ x with slab:=s2 })):=by
  intro s2 w2 er h
  show (if (qdt (k,x)).2≠0 then _ else _)=_
  simp only [qdt,h]
 obtain ⟨s2,w2,er,hl⟩:∃ s2 w2 er,x.slab.try k.slot k.saw k.event=(s2,w2,er):=⟨_,_,_,rfl⟩;rw [hE s2 w2 er hl];rw [hl] at HTRY hwb;have HWB:=Vh hwb;have HLN:=Vh (show ({ x with slab:=s2 }:Ql).tr.length≤1000000 from hok.tr);clear hE hl hok hwk hwb;by_cases h0:er=0
 ·rw [if_neg (by simpa using h0)]
  rw [h0] at HTRY;clear h0;by_cases h3:k.kind=3
  ·rw [if_pos h3]
   unfold MRz;dsimp only [qcp,okC]
   obtain ⟨rv,tv,gq,gt,hr,ht,rfl,hx⟩:=hz;refine GO fun w HT=>?_
   have HT:=Vh (HT.out.sum (H':=[Qp kb L.fb pv rv tv k,gq,gt,gF]));have HX:=Vh hx;have HR:=Vh hr;have HTK:=Vh ht;clear hx hr ht;go_enter func155,ntmps155
   go_wp2
   have HT:=Vh ((HT.out.alloc (k:=w.heap.size) rfl 135 #[Qb kb]).alloc (k:=w.heap.size+1) (by simp) 180 #[.nilFunc,.nilFunc]);generalize World.alloc _ _=wa at HT ⊢;simp only [List.cons_append,List.nil_append] at HT;have b0:=HT.out.cell 4 0 rfl 0;simp only [GE4] at b0;obtain ⟨k0,k16,k17⟩:=Ce3 (HT.out.cell 0 0 rfl) 0 16 17;simp only [Qo,GE3] at k0 k16 k17;refine Qc 15 (by kernel_rfl) (by kernel_rfl) ?_
   simp only [TD4]
   repeat (go_big_quiet_step ((first | (go_at_call 124;with_reducible exact Qe.quiet (Qk HX.out) HT.out _ [3] rfl rfl) | (go_at_call 192;with_reducible exact Qe.quiet (Yu (L:=L)) HT.out _ [0] rfl rfl))))
   refine wpQuiet_nil (QE fun nq=>?_)
   have HT:=Vh (HT.out.drewN nq);go_wp2_with fail
   refine (Qa.use (HTRY.out _ HX.out) (HT.out) [3] rfl rfl).mono ?_
   rintro e w1 ⟨gs,⟨rfl,g1,hx1,rfl⟩,Ta⟩;simp only [PU] at Ta;have HX:=Vh hx1;clear hx1 k0 k16 k17 b0;have HT:=Vh Ta;clear Ta;go_wp2_with fail
   refine ⟨rfl,?_⟩
   have b0:=HT.out.cell 4 0 rfl 0;simp only [GE4] at b0;have k18:=HT.out.cell 0 0 rfl 18;have fk18:=HT.out.free 0 0 rfl 18;simp only [Qo,GE3] at k18;go_wp2
   refine Qc 3 (by kernel_rfl) (by kernel_rfl) ?_
   simp only [TD4]
   repeat (go_big_quiet_step ((first | (go_at_call 195;with_reducible exact Qe.quiet (qub _ HWB.out.1 HWB.out.2) HT.out _ [] rfl rfl))))
   refine wpQuiet_nil (QE fun nq=>?_)
   have HT:=Vh (HT.out.drewN nq);go_wp2_with fail
   refine ⟨rfl,?_⟩
   have HT:=Vh ((HT.out.set 0 0 rfl 18 (.int .u64 (Zs w2))).eq (H':=[Qp kb L.fb pv rv tv { k with gen:=Zs w2 },gq,gt,g1,[cl w.heap.size 135 #[Qb kb]],[cl (w.heap.size+1) 180 #[.nilFunc,.nilFunc]]]) rfl);clear b0 k18 fk18;generalize World.setCell _ _ _=w4 at HT ⊢;have b0:=HT.out.cell 4 0 rfl 0;simp only [GE4] at b0;obtain ⟨k3,k15,k18,k7,k8,k9,k10,k11⟩:=Ce8 (HT.out.cell 0 0 rfl) 3 15 18 7 8 9 10 11;obtain ⟨fk7,fk8,fk9,fk10,fk11⟩:=Ce5 (HT.out.free 0 0 rfl) 7 8 9 10 11;simp only [Qo,GE3] at k3 k15 k18 k7 k8 k9 k10 k11;go_wp2
   refine Qc 10 (by kernel_rfl) (by kernel_rfl) ?_
   simp only [TD4]
   repeat (go_big_quiet_step ((fail)))
   refine wpQuiet_nil (QE fun nq=>?_)
   have HT:=Vh (HT.out.drewN nq);go_wp2_with fail
   refine ⟨rfl,?_⟩
   have HT:=Vh ((((((HT.out.set 0 0 rfl 7 (.int .i64 0)).set 0 0 rfl 8 (.bool true)).set 0 0 rfl 9 (.int .u64 k.id)).set 0 0 rfl 10 (.int .u64 (Zs w2))).set 0 0 rfl 11 (.slice none 0 0)).eq (H':=[Qp kb L.fb pv rv tv { k with gen:=Zs w2,err:=0,ok:=true,aid:=k.id,agen:=Zs w2 },gq,gt,g1,[cl w.heap.size 135 #[Qb kb]],[cl (w.heap.size+1) 180 #[.nilFunc,.nilFunc]]]) rfl);clear b0 k3 k15 k18 k7 k8 k9 k10 k11 fk7 fk8 fk9 fk10 fk11;generalize World.setCell _ _ _=w5 at HT ⊢;have b0:=HT.out.cell 4 0 rfl 0;simp only [GE4] at b0;obtain ⟨k3,k5,k15,k18⟩:=Ce4 (HT.out.cell 0 0 rfl) 3 5 15 18;simp only [Qo,GE3] at k3 k5 k15 k18;rw [h3] at k3;clear h3;go_wp2
   refine Qc 15 (by kernel_rfl) (by kernel_rfl) ?_
   simp only [TD4]
   repeat (go_big_quiet_step ((fail)))
   refine wpQuiet_nil (QE fun nq=>?_)
   have HT:=Vh (HT.out.drewN nq);go_wp2_with fail
   refine (Qa.use (Jw HX.out { ev0 with kind:=6,id:=k.id,gen:=Zs w2,dl:=k.cdl } HLN.out) (HT.out) [0,3] rfl rfl).mono ?_
   rintro e w1 ⟨gs,⟨rfl,g2,hx2,rfl⟩,Ta⟩;simp only [PU] at Ta;have HX:=Vh hx2;clear hx2 k3 k5 k15 k18 b0;have HT:=Vh Ta;clear Ta;go_wp2_with fail
   refine ⟨rfl,?_⟩
   have b0:=HT.out.cell 4 0 rfl 0;simp only [GE4] at b0;go_wp2_with fail
   refine Qa.run (Xu) (HT.out) [] ?_
   rintro e w1 gs ⟨rfl,rfl⟩ HT;simp only [PU] at HT;obtain ⟨e0,e1⟩:=Ce2 (HT.out.cell 5 0 rfl) 0 1;obtain ⟨fe0,fe1⟩:=Ce2 (HT.out.free 5 0 rfl) 0 1;simp only [GE4] at e0 e1;go_wp2
   exact bodyPost_ret (v:=.agg #[.nilFunc,.func (.func 196) #[Qb kb] #[]]) (by simp [results,results155,go_sem,e0,e1]) rfl ⟨_,⟨_,_,[],_,_,rfl,⟨rfl,rfl,rfl⟩,⟨_,_,gq,gt,HR.out,HTK.out,rfl,HX.out⟩,rfl⟩,(((HT.out.set 5 0 rfl 0 _).set 5 0 rfl 1 _).pick [0,1,2,3] rfl).sum⟩
  ·rw [if_neg h3]
   by_cases h5:k.kind=5
   ·rw [if_pos h5]
    clear h3;unfold MRz;dsimp only [qcp,okC]
    obtain ⟨rv,tv,gq,gt,hr,ht,rfl,hx⟩:=hz;refine GO fun w HT=>?_
    have HT:=Vh (HT.out.sum (H':=[Qp kb L.fb pv rv tv k,gq,gt,gF]));have HX:=Vh hx;have HR:=Vh hr;have HTK:=Vh ht;clear hx hr ht;go_enter func155,ntmps155
    go_wp2
    have HT:=Vh ((HT.out.alloc (k:=w.heap.size) rfl 135 #[Qb kb]).alloc (k:=w.heap.size+1) (by simp) 180 #[.nilFunc,.nilFunc]);generalize World.alloc _ _=wa at HT ⊢;simp only [List.cons_append,List.nil_append] at HT;have b0:=HT.out.cell 4 0 rfl 0;simp only [GE4] at b0;obtain ⟨k0,k16,k17⟩:=Ce3 (HT.out.cell 0 0 rfl) 0 16 17;simp only [Qo,GE3] at k0 k16 k17;refine Qc 15 (by kernel_rfl) (by kernel_rfl) ?_
    simp only [TD4]
    repeat (go_big_quiet_step ((first | (go_at_call 124;with_reducible exact Qe.quiet (Qk HX.out) HT.out _ [3] rfl rfl) | (go_at_call 192;with_reducible exact Qe.quiet (Yu (L:=L)) HT.out _ [0] rfl rfl))))
    refine wpQuiet_nil (QE fun nq=>?_)
    have HT:=Vh (HT.out.drewN nq);go_wp2_with fail
    refine (Qa.use (HTRY.out _ HX.out) (HT.out) [3] rfl rfl).mono ?_
    rintro e w1 ⟨gs,⟨rfl,g1,hx1,rfl⟩,Ta⟩;simp only [PU] at Ta;have HX:=Vh hx1;clear hx1 k0 k16 k17 b0;have HT:=Vh Ta;clear Ta;go_wp2_with fail
    refine ⟨rfl,?_⟩
    have b0:=HT.out.cell 4 0 rfl 0;simp only [GE4] at b0;have k18:=HT.out.cell 0 0 rfl 18;have fk18:=HT.out.free 0 0 rfl 18;simp only [Qo,GE3] at k18;go_wp2
    refine Qc 3 (by kernel_rfl) (by kernel_rfl) ?_
    simp only [TD4]
    repeat (go_big_quiet_step ((first | (go_at_call 195;with_reducible exact Qe.quiet (qub _ HWB.out.1 HWB.out.2) HT.out _ [] rfl rfl))))
    refine wpQuiet_nil (QE fun nq=>?_)
    have HT:=Vh (HT.out.drewN nq);go_wp2_with fail
    refine ⟨rfl,?_⟩
    have HT:=Vh ((HT.out.set 0 0 rfl 18 (.int .u64 (Zs w2))).eq (H':=[Qp kb L.fb pv rv tv { k with gen:=Zs w2 },gq,gt,g1,[cl w.heap.size 135 #[Qb kb]],[cl (w.heap.size+1) 180 #[.nilFunc,.nilFunc]]]) rfl);clear b0 k18 fk18;generalize World.setCell _ _ _=w4 at HT ⊢;have b0:=HT.out.cell 4 0 rfl 0;simp only [GE4] at b0;obtain ⟨k3,k15,k18,k7,k8,k9,k10,k11⟩:=Ce8 (HT.out.cell 0 0 rfl) 3 15 18 7 8 9 10 11;obtain ⟨fk7,fk8,fk9,fk10,fk11⟩:=Ce5 (HT.out.free 0 0 rfl) 7 8 9 10 11;simp only [Qo,GE3] at k3 k15 k18 k7 k8 k9 k10 k11;go_wp2
    refine Qc 10 (by kernel_rfl) (by kernel_rfl) ?_
    simp only [TD4]
    repeat (go_big_quiet_step ((fail)))
    refine wpQuiet_nil (QE fun nq=>?_)
    have HT:=Vh (HT.out.drewN nq);go_wp2_with fail
    refine ⟨rfl,?_⟩
    have HT:=Vh ((((((HT.out.set 0 0 rfl 7 (.int .i64 0)).set 0 0 rfl 8 (.bool true)).set 0 0 rfl 9 (.int .u64 k.id)).set 0 0 rfl 10 (.int .u64 (Zs w2))).set 0 0 rfl 11 (.slice none 0 0)).eq (H':=[Qp kb L.fb pv rv tv { k with gen:=Zs w2,err:=0,ok:=true,aid:=k.id,agen:=Zs w2 },gq,gt,g1,[cl w.heap.size 135 #[Qb kb]],[cl (w.heap.size+1) 180 #[.nilFunc,.nilFunc]]]) rfl);clear b0 k3 k15 k18 k7 k8 k9 k10 k11 fk7 fk8 fk9 fk10 fk11;generalize World.setCell _ _ _=w5 at HT ⊢;have b0:=HT.out.cell 4 0 rfl 0;simp only [GE4] at b0;obtain ⟨k3,k5,k15,k18⟩:=Ce4 (HT.out.cell 0 0 rfl) 3 5 15 18;simp only [Qo,GE3] at k3 k5 k15 k18;rw [h5] at k3;clear h5;go_wp2
    refine Qc 10 (by kernel_rfl) (by kernel_rfl) ?_
    simp only [TD4]
    repeat (go_big_quiet_step ((fail)))
    refine wpQuiet_nil (QE fun nq=>?_)
    have HT:=Vh (HT.out.drewN nq);go_wp2_with fail
    refine (Qa.use (Jw HX.out { ev0 with kind:=8,id:=k.id,gen:=Zs w2 } HLN.out) (HT.out) [0,3] rfl rfl).mono ?_
    rintro e w1 ⟨gs,⟨rfl,g2,hx2,rfl⟩,Ta⟩;simp only [PU] at Ta;have HX:=Vh hx2;clear hx2 k3 k5 k15 k18 b0;have HT:=Vh Ta;clear Ta;go_wp2_with fail
    refine ⟨rfl,?_⟩
    have b0:=HT.out.cell 4 0 rfl 0;simp only [GE4] at b0;go_wp2_with fail
    refine Qa.run (qq3 L kb pv) (HT.out) [] ?_
    rintro e w1 gs ⟨m2,d2,g2,rfl,hs2,rfl⟩ HT;simp only [PU] at HT;obtain ⟨e0,e1⟩:=Ce2 (HT.out.cell 5 0 rfl) 0 1;obtain ⟨fe0,fe1⟩:=Ce2 (HT.out.free 5 0 rfl) 0 1;simp only [GE4] at e0 e1;have hv2:=(Q5 L kb pv).vals hs2;obtain ⟨st1,st2⟩:=Cli.store_fv2 (P:=prog) hv2.1 hv2.2 e0 fe0 e1 fe1;have HS:=Vh hs2;clear hv2 hs2;go_wp2
    exact bodyPost_ret (v:=.agg #[_,_]) (by simp [results,results155,go_sem,e0,e1]) rfl ⟨_,⟨m2,d2,g2,_,_,rfl,HS.out,⟨_,_,gq,gt,HR.out,HTK.out,rfl,HX.out⟩,rfl⟩,(((HT.out.set 5 0 rfl 0 _).set 5 0 rfl 1 _).pick [0,1,2,3,6] rfl).sum⟩
   ·rw [if_neg h5]
    have hb3:(k.kind == 3)=false:=beq_eq_false_iff_ne.2 h3;have hb5:(k.kind == 5)=false:=beq_eq_false_iff_ne.2 h5;clear h3 h5;unfold MRz;dsimp only [qcp,okC]
    obtain ⟨rv,tv,gq,gt,hr,ht,rfl,hx⟩:=hz;refine GO fun w HT=>?_
    have HT:=Vh (HT.out.sum (H':=[Qp kb L.fb pv rv tv k,gq,gt,gF]));have HX:=Vh hx;have HR:=Vh hr;have HTK:=Vh ht;clear hx hr ht;go_enter func155,ntmps155
    go_wp2
    have HT:=Vh ((HT.out.alloc (k:=w.heap.size) rfl 135 #[Qb kb]).alloc (k:=w.heap.size+1) (by simp) 180 #[.nilFunc,.nilFunc]);generalize World.alloc _ _=wa at HT ⊢;simp only [List.cons_append,List.nil_append] at HT;have b0:=HT.out.cell 4 0 rfl 0;simp only [GE4] at b0;obtain ⟨k0,k16,k17⟩:=Ce3 (HT.out.cell 0 0 rfl) 0 16 17;simp only [Qo,GE3] at k0 k16 k17;refine Qc 15 (by kernel_rfl) (by kernel_rfl) ?_
    simp only [TD4]
    repeat (go_big_quiet_step ((first | (go_at_call 124;with_reducible exact Qe.quiet (Qk HX.out) HT.out _ [3] rfl rfl) | (go_at_call 192;with_reducible exact Qe.quiet (Yu (L:=L)) HT.out _ [0] rfl rfl))))
    refine wpQuiet_nil (QE fun nq=>?_)
    have HT:=Vh (HT.out.drewN nq);go_wp2_with fail
    refine (Qa.use (HTRY.out _ HX.out) (HT.out) [3] rfl rfl).mono ?_
    rintro e w1 ⟨gs,⟨rfl,g1,hx1,rfl⟩,Ta⟩;simp only [PU] at Ta;have HX:=Vh hx1;clear hx1 k0 k16 k17 b0;have HT:=Vh Ta;clear Ta;go_wp2_with fail
    refine ⟨rfl,?_⟩
    have b0:=HT.out.cell 4 0 rfl 0;simp only [GE4] at b0;have k18:=HT.out.cell 0 0 rfl 18;have fk18:=HT.out.free 0 0 rfl 18;simp only [Qo,GE3] at k18;go_wp2
    refine Qc 3 (by kernel_rfl) (by kernel_rfl) ?_
    simp only [TD4]
    repeat (go_big_quiet_step ((first | (go_at_call 195;with_reducible exact Qe.quiet (qub _ HWB.out.1 HWB.out.2) HT.out _ [] rfl rfl))))
    refine wpQuiet_nil (QE fun nq=>?_)
    have HT:=Vh (HT.out.drewN nq);go_wp2_with fail
    refine ⟨rfl,?_⟩
    have HT:=Vh ((HT.out.set 0 0 rfl 18 (.int .u64 (Zs w2))).eq (H':=[Qp kb L.fb pv rv tv { k with gen:=Zs w2 },gq,gt,g1,[cl w.heap.size 135 #[Qb kb]],[cl (w.heap.size+1) 180 #[.nilFunc,.nilFunc]]]) rfl);clear b0 k18 fk18;generalize World.setCell _ _ _=w4 at HT ⊢;have b0:=HT.out.cell 4 0 rfl 0;simp only [GE4] at b0;obtain ⟨k3,k15,k18,k7,k8,k9,k10,k11⟩:=Ce8 (HT.out.cell 0 0 rfl) 3 15 18 7 8 9 10 11;obtain ⟨fk7,fk8,fk9,fk10,fk11⟩:=Ce5 (HT.out.free 0 0 rfl) 7 8 9 10 11;simp only [Qo,GE3] at k3 k15 k18 k7 k8 k9 k10 k11;go_wp2
    refine Qc 10 (by kernel_rfl) (by kernel_rfl) ?_
    simp only [TD4]
    repeat (go_big_quiet_step ((fail)))
    refine wpQuiet_nil (QE fun nq=>?_)
    have HT:=Vh (HT.out.drewN nq);go_wp2_with fail
    refine ⟨rfl,?_⟩
    have HT:=Vh ((((((HT.out.set 0 0 rfl 7 (.int .i64 0)).set 0 0 rfl 8 (.bool true)).set 0 0 rfl 9 (.int .u64 k.id)).set 0 0 rfl 10 (.int .u64 (Zs w2))).set 0 0 rfl 11 (.slice none 0 0)).eq (H':=[Qp kb L.fb pv rv tv { k with gen:=Zs w2,err:=0,ok:=true,aid:=k.id,agen:=Zs w2 },gq,gt,g1,[cl w.heap.size 135 #[Qb kb]],[cl (w.heap.size+1) 180 #[.nilFunc,.nilFunc]]]) rfl);clear b0 k3 k15 k18 k7 k8 k9 k10 k11 fk7 fk8 fk9 fk10 fk11;generalize World.setCell _ _ _=w5 at HT ⊢;have b0:=HT.out.cell 4 0 rfl 0;simp only [GE4] at b0;obtain ⟨k3,k5,k15,k18⟩:=Ce4 (HT.out.cell 0 0 rfl) 3 5 15 18;simp only [Qo,GE3] at k3 k5 k15 k18;go_wp2
    refine Qc 10 (by kernel_rfl) (by kernel_rfl) ?_
    simp only [TD4]
    repeat (go_big_quiet_step ((fail)))
    refine wpQuiet_nil (QE fun nq=>?_)
    have HT:=Vh (HT.out.drewN nq);go_wp2_with fail
    refine (Qa.use (Jw HX.out { ev0 with kind:=7,id:=k.id,gen:=Zs w2 } HLN.out) (HT.out) [0,3] rfl rfl).mono ?_
    rintro e w1 ⟨gs,⟨rfl,g2,hx2,rfl⟩,Ta⟩;simp only [PU] at Ta;have HX:=Vh hx2;clear hx2 k3 k5 k15 k18 b0;have HT:=Vh Ta;clear Ta;go_wp2_with fail
    refine ⟨rfl,?_⟩
    have b0:=HT.out.cell 4 0 rfl 0;simp only [GE4] at b0;go_wp2_with fail
    refine qzr (L:=L) (pv:=pv) (g0:=Qp kb L.fb pv rv tv { k with gen:=Zs w2,err:=0,ok:=true,aid:=k.id,agen:=Zs w2 }) (g1:=gq) (g2:=gt) (g3:=g2) HT.out ?_
    intro w9 m2 d2 g9 v113 v114 v115 v116 v117 v118 v119 v120 hs2 T9;have hv2:=(Q5 L kb pv).vals hs2;have HS2:=Vh hs2;have HT:=Vh T9;clear T9 hs2 b0;obtain ⟨e0,e1⟩:=Ce2 (HT.out.cell 5 0 rfl) 0 1;simp only [GE4] at e0 e1;go_wp2
    exact bodyPost_ret (v:=.agg #[m2,d2]) (by simp [results,results155,go_sem,e0,e1]) rfl ⟨_,⟨m2,d2,g9,_,_,rfl,HS2.out,⟨_,_,gq,gt,HR.out,HTK.out,rfl,HX.out⟩,rfl⟩,(HT.out.pick [0,1,2,3,4] rfl).sum⟩
 ·rw [if_pos h0]
  have hbe:(er != 0)=true:=bne_iff_ne.2 h0;clear h0;by_cases h3:k.kind=3
  ·rw [if_pos h3]
   unfold MRz;dsimp only [qcp,okC]
   obtain ⟨rv,tv,gq,gt,hr,ht,rfl,hx⟩:=hz;refine GO fun w HT=>?_
   have HT:=Vh (HT.out.sum (H':=[Qp kb L.fb pv rv tv k,gq,gt,gF]));have HX:=Vh hx;have HR:=Vh hr;have HTK:=Vh ht;clear hx hr ht;go_enter func155,ntmps155
   go_wp2
   have HT:=Vh ((HT.out.alloc (k:=w.heap.size) rfl 135 #[Qb kb]).alloc (k:=w.heap.size+1) (by simp) 180 #[.nilFunc,.nilFunc]);generalize World.alloc _ _=wa at HT ⊢;simp only [List.cons_append,List.nil_append] at HT;have b0:=HT.out.cell 4 0 rfl 0;simp only [GE4] at b0;obtain ⟨k0,k16,k17⟩:=Ce3 (HT.out.cell 0 0 rfl) 0 16 17;simp only [Qo,GE3] at k0 k16 k17;refine Qc 15 (by kernel_rfl) (by kernel_rfl) ?_
   simp only [TD4]
   repeat (go_big_quiet_step ((first | (go_at_call 124;with_reducible exact Qe.quiet (Qk HX.out) HT.out _ [3] rfl rfl) | (go_at_call 192;with_reducible exact Qe.quiet (Yu (L:=L)) HT.out _ [0] rfl rfl))))
   refine wpQuiet_nil (QE fun nq=>?_)
   have HT:=Vh (HT.out.drewN nq);go_wp2_with fail
   refine (Qa.use (HTRY.out _ HX.out) (HT.out) [3] rfl rfl).mono ?_
   rintro e w1 ⟨gs,⟨rfl,g1,hx1,rfl⟩,Ta⟩;simp only [PU] at Ta;have HX:=Vh hx1;clear hx1 k0 k16 k17 b0;have HT:=Vh Ta;clear Ta;go_wp2_with fail
   refine ⟨rfl,?_⟩
   have b0:=HT.out.cell 4 0 rfl 0;simp only [GE4] at b0;have k18:=HT.out.cell 0 0 rfl 18;have fk18:=HT.out.free 0 0 rfl 18;simp only [Qo,GE3] at k18;go_wp2
   refine Qc 3 (by kernel_rfl) (by kernel_rfl) ?_
   simp only [TD4]
   repeat (go_big_quiet_step ((first | (go_at_call 195;with_reducible exact Qe.quiet (qub _ HWB.out.1 HWB.out.2) HT.out _ [] rfl rfl))))
   refine wpQuiet_nil (QE fun nq=>?_)
   have HT:=Vh (HT.out.drewN nq);go_wp2_with fail
   refine ⟨rfl,?_⟩
   have HT:=Vh ((HT.out.set 0 0 rfl 18 (.int .u64 (Zs w2))).eq (H':=[Qp kb L.fb pv rv tv { k with gen:=Zs w2 },gq,gt,g1,[cl w.heap.size 135 #[Qb kb]],[cl (w.heap.size+1) 180 #[.nilFunc,.nilFunc]]]) rfl);clear b0 k18 fk18;generalize World.setCell _ _ _=w4 at HT ⊢;have b0:=HT.out.cell 4 0 rfl 0;simp only [GE4] at b0;have k3:=HT.out.cell 0 0 rfl 3;simp only [Qo,GE3] at k3;rw [h3] at k3;clear h3;go_wp2_with fail
   refine Qa.run (Xu) (HT.out) [] ?_
   rintro e w1 gs ⟨rfl,rfl⟩ HT;simp only [PU] at HT;obtain ⟨e0,e1⟩:=Ce2 (HT.out.cell 5 0 rfl) 0 1;obtain ⟨fe0,fe1⟩:=Ce2 (HT.out.free 5 0 rfl) 0 1;simp only [GE4] at e0 e1;go_wp2
   exact bodyPost_ret (v:=.agg #[.nilFunc,.func (.func 187) #[Qb kb] #[]]) (by simp [results,results155,go_sem,e0,e1]) rfl ⟨_,⟨_,_,[],_,_,rfl,⟨rfl,rfl,rfl⟩,⟨_,_,gq,gt,HR.out,HTK.out,rfl,HX.out⟩,rfl⟩,(((HT.out.set 5 0 rfl 0 _).set 5 0 rfl 1 _).pick [0,1,2,3] rfl).sum⟩
  ·rw [if_neg h3]
   have hb3:(k.kind == 3)=false:=beq_eq_false_iff_ne.2 h3;clear h3;unfold MRz;dsimp only [qcp,okC]
   obtain ⟨rv,tv,gq,gt,hr,ht,rfl,hx⟩:=hz;refine GO fun w HT=>?_
   have HT:=Vh (HT.out.sum (H':=[Qp kb L.fb pv rv tv k,gq,gt,gF]));have HX:=Vh hx;have HR:=Vh hr;have HTK:=Vh ht;clear hx hr ht;go_enter func155,ntmps155
   go_wp2
   have HT:=Vh ((HT.out.alloc (k:=w.heap.size) rfl 135 #[Qb kb]).alloc (k:=w.heap.size+1) (by simp) 180 #[.nilFunc,.nilFunc]);generalize World.alloc _ _=wa at HT ⊢;simp only [List.cons_append,List.nil_append] at HT;have b0:=HT.out.cell 4 0 rfl 0;simp only [GE4] at b0;obtain ⟨k0,k16,k17⟩:=Ce3 (HT.out.cell 0 0 rfl) 0 16 17;simp only [Qo,GE3] at k0 k16 k17;refine Qc 15 (by kernel_rfl) (by kernel_rfl) ?_
   simp only [TD4]
   repeat (go_big_quiet_step ((first | (go_at_call 124;with_reducible exact Qe.quiet (Qk HX.out) HT.out _ [3] rfl rfl) | (go_at_call 192;with_reducible exact Qe.quiet (Yu (L:=L)) HT.out _ [0] rfl rfl))))
   refine wpQuiet_nil (QE fun nq=>?_)
   have HT:=Vh (HT.out.drewN nq);go_wp2_with fail
   refine (Qa.use (HTRY.out _ HX.out) (HT.out) [3] rfl rfl).mono ?_
   rintro e w1 ⟨gs,⟨rfl,g1,hx1,rfl⟩,Ta⟩;simp only [PU] at Ta;have HX:=Vh hx1;clear hx1 k0 k16 k17 b0;have HT:=Vh Ta;clear Ta;go_wp2_with fail
   refine ⟨rfl,?_⟩
   have b0:=HT.out.cell 4 0 rfl 0;simp only [GE4] at b0;have k18:=HT.out.cell 0 0 rfl 18;have fk18:=HT.out.free 0 0 rfl 18;simp only [Qo,GE3] at k18;go_wp2
   refine Qc 3 (by kernel_rfl) (by kernel_rfl) ?_
   simp only [TD4]
   repeat (go_big_quiet_step ((first | (go_at_call 195;with_reducible exact Qe.quiet (qub _ HWB.out.1 HWB.out.2) HT.out _ [] rfl rfl))))
   refine wpQuiet_nil (QE fun nq=>?_)
   have HT:=Vh (HT.out.drewN nq);go_wp2_with fail
   refine ⟨rfl,?_⟩
   have HT:=Vh ((HT.out.set 0 0 rfl 18 (.int .u64 (Zs w2))).eq (H':=[Qp kb L.fb pv rv tv { k with gen:=Zs w2 },gq,gt,g1,[cl w.heap.size 135 #[Qb kb]],[cl (w.heap.size+1) 180 #[.nilFunc,.nilFunc]]]) rfl);clear b0 k18 fk18;generalize World.setCell _ _ _=w4 at HT ⊢;have b0:=HT.out.cell 4 0 rfl 0;simp only [GE4] at b0;have k3:=HT.out.cell 0 0 rfl 3;simp only [Qo,GE3] at k3;go_wp2_with fail
   refine Qa.run (Xu) (HT.out) [] ?_
   rintro e w1 gs ⟨rfl,rfl⟩ HT;simp only [PU] at HT;obtain ⟨e0,e1⟩:=Ce2 (HT.out.cell 5 0 rfl) 0 1;obtain ⟨fe0,fe1⟩:=Ce2 (HT.out.free 5 0 rfl) 0 1;simp only [GE4] at e0 e1;go_wp2
   exact bodyPost_ret (v:=.agg #[.nilFunc,.func (.func 128) #[Qb kb] #[]]) (by simp [results,results155,go_sem,e0,e1]) rfl ⟨_,⟨_,_,[],_,_,rfl,⟨rfl,rfl,rfl⟩,⟨_,_,gq,gt,HR.out,HTK.out,rfl,HX.out⟩,rfl⟩,(((HT.out.set 5 0 rfl 0 _).set 5 0 rfl 1 _).pick [0,1,2,3] rfl).sum⟩
end
section
variable {L:Lay} {x:Ql} {gK gF:List Blk} {kb:Nat} {pv:Value} {k:Q7}
theorem q0f (hz:qe0 L kb pv k x gK gF) (hp:qd2 .queues (k,x)):Qa prog 153 #[Qb kb] [gK,gF] (MRz L kb pv (qbj .queues (k,x))):=by
 obtain ⟨hok,hwk,hpr⟩:=hp;simp only at hok hwk hpr;obtain ⟨⟨i,t⟩,htke⟩:=Option.isSome_iff_exists.1 hpr;obtain ⟨htb,hi⟩:=hwk.tk i t htke;obtain ⟨s,hs⟩:∃ s,x.shs[i]?=some s:=⟨_,List.getElem?_eq_getElem hi⟩;have hrb:=hok.ring s (List.mem_of_getElem? hs);have htb2:=q0d hrb htb;have HLN:=Vh hok.tr
 have hE:qbj .queues (k,x)=Jk (k,x) i t s:=by
  show (match k.tk with | none=>_ | some (i,t)=>_)=_
  rw [htke]
  show (match x.shs[i]? with | none=>_ | some s=>_)=_
  rw [hs]
 rw [hE];obtain ⟨rv,tv,gq,gt,hr,ht,rfl,hx⟩:=hz;rw [htke] at ht;obtain ⟨tb,qs,hqs,rfl,rfl⟩:=ht;clear hE hwk hpr htke hi hok;obtain ⟨r2,t2,hr2⟩:∃ r2 t2,stepT s.ring t=(r2,t2):=⟨_,_,rfl⟩;rw [hr2] at htb2;have hst3:=htb2.st;simp only at hst3;clear htb2;by_cases h0:t2.status=0
 ·have hst:(stepT s.ring t).2.status=0:=by rw [hr2];exact h0
  have HZ:Jk (k,x) i t s=(.at none .queues,({ k with tk:=some (i,t2) },{ x with shs:=x.shs.set i { s with ring:=r2 } })):=by unfold Jk;simp only [hr2];rw [if_pos h0]
  clear h0 hst3;rw [HZ];unfold MRz;dsimp only [Qn]
  clear HZ;refine GO fun w HT=>?_
  have HT:=Vh (HT.out.sum (H':=[Qp kb L.fb pv rv (Qb tb) k,gq,Q8 tb qs.rb t,gF]));have HX:=Vh hx;have HR:=Vh hr;have HQS:=Vh hqs;have HTI:=Vh (qb2 hx hqs hs tb t hrb htb);rw [hst,hr2] at HTI;clear hx hr hqs hs hrb htb;have k14:=HT.out.cell 0 0 rfl 14;simp only [Qo,GE3] at k14;have lt:=HT.out.lt 0 0 rfl;simp only [] at lt;clear hst hr2;go_enter func153,ntmps153
  go_wp2_with fail
  refine (Qa.use (HTI.out) (HT.out.alloc (k:=w.heap.size) rfl _ _) [2,3] rfl rfl).mono ?_
  rintro e w1 ⟨gs,⟨rfl,g1,hx1,rfl⟩,Ta⟩;simp only [PU] at Ta;have HX:=Vh hx1;clear hx1 k14 lt;have HT:=Vh Ta;clear Ta;have HT:=Vh (HT.out.eq (H':=[Qp kb L.fb pv rv (Qb tb) { k with tk:=some (i,t2) },gq,Q8 tb qs.rb t2,g1,[cl w.heap.size 180 #[.nilFunc,.nilFunc]]]) rfl);have k3:=HT.out.cell 0 0 rfl 3;simp only [Qo,GE3] at k3;clear k3;go_wp2_with fail
  refine Qa.run (Xu) (HT.out) [] ?_
  rintro e w1 gs ⟨rfl,rfl⟩ HT;simp only [PU] at HT;obtain ⟨e0,e1⟩:=Ce2 (HT.out.cell 4 0 rfl) 0 1;obtain ⟨fe0,fe1⟩:=Ce2 (HT.out.free 4 0 rfl) 0 1;simp only [GE4] at e0 e1;go_wp2
  exact bodyPost_ret (v:=.agg #[.nilFunc,.func (.func 153) #[Qb kb] #[]]) (by simp [results,results153,go_sem,e0,e1]) rfl ⟨_,⟨_,_,[],_,_,rfl,⟨rfl,rfl,rfl⟩,⟨_,_,gq,(Q8 tb qs.rb t2),HR.out,⟨tb,qs,HQS.out,rfl,rfl⟩,rfl,HX.out⟩,rfl⟩,(((HT.out.set 4 0 rfl 0 _).set 4 0 rfl 1 _).pick [0,1,2,3] rfl).sum⟩
 ·by_cases h1:t2.status=1
  ·have hst:(stepT s.ring t).2.status=1:=by rw [hr2];exact h1
   by_cases h3:k.kind=3
   ·have HZ:Jk (k,x) i t s=(J4,Qn 2 ({ k with tk:=some (i,t2) },{ x with shs:=x.shs.set i { s with ring:=r2 } })):=by unfold Jk;simp only [hr2];rw [if_neg h0,if_pos ⟨h1,h3⟩]
    clear h0 h1 hst3;rw [HZ];unfold MRz;dsimp only [Qn]
    clear HZ;refine GO fun w HT=>?_
    have HT:=Vh (HT.out.sum (H':=[Qp kb L.fb pv rv (Qb tb) k,gq,Q8 tb qs.rb t,gF]));have HX:=Vh hx;have HR:=Vh hr;have HQS:=Vh hqs;have HTI:=Vh (qb2 hx hqs hs tb t hrb htb);rw [hst,hr2] at HTI;clear hx hr hqs hs hrb htb;have k14:=HT.out.cell 0 0 rfl 14;simp only [Qo,GE3] at k14;have lt:=HT.out.lt 0 0 rfl;simp only [] at lt;clear hst hr2;go_enter func153,ntmps153
    go_wp2_with fail
    refine (Qa.use (HTI.out) (HT.out.alloc (k:=w.heap.size) rfl _ _) [2,3] rfl rfl).mono ?_
    rintro e w1 ⟨gs,⟨rfl,g1,hx1,rfl⟩,Ta⟩;simp only [PU] at Ta;have HX:=Vh hx1;clear hx1 k14 lt;have HT:=Vh Ta;clear Ta;have HT:=Vh (HT.out.eq (H':=[Qp kb L.fb pv rv (Qb tb) { k with tk:=some (i,t2) },gq,Q8 tb qs.rb t2,g1,[cl w.heap.size 180 #[.nilFunc,.nilFunc]]]) rfl);have k3:=HT.out.cell 0 0 rfl 3;simp only [Qo,GE3] at k3;rw [h3] at k3;clear h3;go_wp2_with fail
    refine (Qa.use (Z5 HX.out 2 HLN.out) (HT.out) [0,3] rfl rfl).mono ?_
    rintro e w1 ⟨gs,⟨rfl,g1,hx1,rfl⟩,Ta⟩;simp only [PU] at Ta;have HX:=Vh hx1;clear hx1;have HT:=Vh Ta;clear Ta;clear k3;go_wp2_with fail
    refine Qa.run (qex L kb pv) (HT.out) [] ?_
    rintro e w1 gs ⟨m2,d2,g2,rfl,hs2,rfl⟩ HT;simp only [PU] at HT;obtain ⟨e0,e1⟩:=Ce2 (HT.out.cell 4 0 rfl) 0 1;obtain ⟨fe0,fe1⟩:=Ce2 (HT.out.free 4 0 rfl) 0 1;simp only [GE4] at e0 e1;have hv2:=(Q5 L kb pv).vals hs2;obtain ⟨st1,st2⟩:=Cli.store_fv2 (P:=prog) hv2.1 hv2.2 e0 fe0 e1 fe1;have HS:=Vh hs2;clear hv2 hs2;go_wp2
    exact bodyPost_ret (v:=.agg #[_,_]) (by simp [results,results153,go_sem,e0,e1]) rfl ⟨_,⟨m2,d2,g2,_,_,rfl,HS.out,⟨_,_,gq,(Q8 tb qs.rb t2),HR.out,⟨tb,qs,HQS.out,rfl,rfl⟩,rfl,HX.out⟩,rfl⟩,(((HT.out.set 4 0 rfl 0 _).set 4 0 rfl 1 _).pick [0,1,2,3,5] rfl).sum⟩
   ·have HZ:Jk (k,x) i t s=(.thn (.row2 .undo .drop) .leaves,({ k with tk:=some (i,t2) },{ x with shs:=x.shs.set i { s with ring:=r2 } })):=by unfold Jk;simp only [hr2];rw [if_neg h0,if_neg (fun h=>h3 h.2),if_pos h1]
    have hb3:(k.kind == 3)=false:=beq_eq_false_iff_ne.2 h3
    have hrow:∀ (b bf bl bi:Nat),(qf6 L kb pv).SV (.row2 .undo .drop) .nilFunc (.func (.func 166) #[] #[Qb bf,Qb bl,Qb bi])
     ([cl bf 1 #[.func (.func 185) #[Qb kb] #[]],cl bl 282 #[.slice (some ⟨b,0,none⟩) 2 2],cl bi 3 #[.int .i64 0],cl b 1 #[.func (.func 185) #[Qb kb] #[],.func (.func 186) #[Qb kb] #[]]]++[]++[]) :=
     fun b bf bl bi=>⟨rfl,bf,bl,bi,b,_,_,[],[],rfl,⟨rfl,rfl⟩,⟨rfl,rfl⟩,rfl⟩
    have hthen:∀ (b bf bl bi:Nat),_:=fun b bf bl bi=>Cli.prog_then_cons (f:=MC.leaves) (v:=.func (.func 148) #[Qb kb] #[]) (gm:=[]) (Q5 L kb pv) rfl (hrow b bf bl bi) ⟨rfl,rfl⟩
    have HTH:=Vh hthen;clear h0 h1 hst3 h3 hrow hthen;rw [HZ];unfold MRz;dsimp only [Qn]
    clear HZ;refine GO fun w HT=>?_
    have HT:=Vh (HT.out.sum (H':=[Qp kb L.fb pv rv (Qb tb) k,gq,Q8 tb qs.rb t,gF]));have HX:=Vh hx;have HR:=Vh hr;have HQS:=Vh hqs;have HTI:=Vh (qb2 hx hqs hs tb t hrb htb);rw [hst,hr2] at HTI;clear hx hr hqs hs hrb htb;have k14:=HT.out.cell 0 0 rfl 14;simp only [Qo,GE3] at k14;have lt:=HT.out.lt 0 0 rfl;simp only [] at lt;clear hst hr2;go_enter func153,ntmps153
    go_wp2_with fail
    refine (Qa.use (HTI.out) (HT.out.alloc (k:=w.heap.size) rfl _ _) [2,3] rfl rfl).mono ?_
    rintro e w1 ⟨gs,⟨rfl,g1,hx1,rfl⟩,Ta⟩;simp only [PU] at Ta;have HX:=Vh hx1;clear hx1 k14 lt;have HT:=Vh Ta;clear Ta;have HT:=Vh (HT.out.eq (H':=[Qp kb L.fb pv rv (Qb tb) { k with tk:=some (i,t2) },gq,Q8 tb qs.rb t2,g1,[cl w.heap.size 180 #[.nilFunc,.nilFunc]]]) rfl);have k3:=HT.out.cell 0 0 rfl 3;simp only [Qo,GE3] at k3;go_wp2_with fail
    refine (Qa.use (Cli.row_1 (b:=w1.heap.size) (o:=0) (D:=#[.func (.func 185) #[Qb kb] #[],.func (.func 186) #[Qb kb] #[]]) rfl 2 (.inr rfl)) (HT.out.alloc (k:=w1.heap.size) rfl _ _) [5] rfl rfl).mono ?_
    rintro e w2 ⟨gs,⟨bf,bl,bi,rfl,rfl⟩,Ta⟩;simp only [PU] at Ta;have HT:=Vh Ta;clear Ta;clear k3;have HT:=Vh (HT.out.sum (H':=[Qp kb L.fb pv rv (Qb tb) { k with tk:=some (i,t2) },gq,Q8 tb qs.rb t2,g1,[cl w.heap.size 180 #[.nilFunc,.nilFunc]],[cl bf 1 #[.func (.func 185) #[Qb kb] #[]],cl bl 282 #[.slice (some ⟨w1.heap.size,0,none⟩) 2 2],cl bi 3 #[.int .i64 0],cl w1.heap.size 1 #[.func (.func 185) #[Qb kb] #[],.func (.func 186) #[Qb kb] #[]]]++[]++[],[]]));go_wp2_with fail
    refine Qa.run (HTH.out _ _ _ _) (HT.out) [5,6] ?_
    rintro e w1 gs ⟨m2,d2,g2,rfl,hs2,rfl⟩ HT;simp only [PU] at HT;obtain ⟨e0,e1⟩:=Ce2 (HT.out.cell 4 0 rfl) 0 1;obtain ⟨fe0,fe1⟩:=Ce2 (HT.out.free 4 0 rfl) 0 1;simp only [GE4] at e0 e1;have hv2:=(Q5 L kb pv).vals hs2;obtain ⟨st1,st2⟩:=Cli.store_fv2 (P:=prog) hv2.1 hv2.2 e0 fe0 e1 fe1;have HS:=Vh hs2;clear hv2 hs2;go_wp2
    exact bodyPost_ret (v:=.agg #[_,_]) (by simp [results,results153,go_sem,e0,e1]) rfl ⟨_,⟨m2,d2,g2,_,_,rfl,HS.out,⟨_,_,gq,Q8 tb qs.rb t2,HR.out,⟨tb,qs,HQS.out,rfl,rfl⟩,rfl,HX.out⟩,rfl⟩,(((HT.out.set 4 0 rfl 0 _).set 4 0 rfl 1 _).pick [0,1,2,3,5] rfl).sum⟩
  ·have h2:t2.status=2:=by omega
   have hst:(stepT s.ring t).2.status=2:=by rw [hr2];exact h2
   by_cases h3:k.kind=3
   ·have HZ:Jk (k,x) i t s=(.at none .again,({ k with tk:=some (i,t2) },{ x with shs:=x.shs.set i { s with ring:=r2 } })):=by unfold Jk;simp only [hr2];rw [if_neg h0,if_neg (fun h=>h1 h.1),if_neg h1,if_pos h3]
    clear h0 h1 hst3 h2;rw [HZ];unfold MRz;dsimp only [Qn]
    clear HZ;refine GO fun w HT=>?_
    have HT:=Vh (HT.out.sum (H':=[Qp kb L.fb pv rv (Qb tb) k,gq,Q8 tb qs.rb t,gF]));have HX:=Vh hx;have HR:=Vh hr;have HQS:=Vh hqs;have HTI:=Vh (qb2 hx hqs hs tb t hrb htb);rw [hst,hr2] at HTI;clear hx hr hqs hs hrb htb;have k14:=HT.out.cell 0 0 rfl 14;simp only [Qo,GE3] at k14;have lt:=HT.out.lt 0 0 rfl;simp only [] at lt;clear hst hr2;go_enter func153,ntmps153
    go_wp2_with fail
    refine (Qa.use (HTI.out) (HT.out.alloc (k:=w.heap.size) rfl _ _) [2,3] rfl rfl).mono ?_
    rintro e w1 ⟨gs,⟨rfl,g1,hx1,rfl⟩,Ta⟩;simp only [PU] at Ta;have HX:=Vh hx1;clear hx1 k14 lt;have HT:=Vh Ta;clear Ta;have HT:=Vh (HT.out.eq (H':=[Qp kb L.fb pv rv (Qb tb) { k with tk:=some (i,t2) },gq,Q8 tb qs.rb t2,g1,[cl w.heap.size 180 #[.nilFunc,.nilFunc]]]) rfl);have k3:=HT.out.cell 0 0 rfl 3;simp only [Qo,GE3] at k3;rw [h3] at k3;clear h3;go_wp2_with fail
    refine Qa.run (Xu) (HT.out) [] ?_
    rintro e w1 gs ⟨rfl,rfl⟩ HT;simp only [PU] at HT;obtain ⟨e0,e1⟩:=Ce2 (HT.out.cell 4 0 rfl) 0 1;obtain ⟨fe0,fe1⟩:=Ce2 (HT.out.free 4 0 rfl) 0 1;simp only [GE4] at e0 e1;go_wp2
    exact bodyPost_ret (v:=.agg #[.nilFunc,.func (.func 187) #[Qb kb] #[]]) (by simp [results,results153,go_sem,e0,e1]) rfl ⟨_,⟨_,_,[],_,_,rfl,⟨rfl,rfl,rfl⟩,⟨_,_,gq,(Q8 tb qs.rb t2),HR.out,⟨tb,qs,HQS.out,rfl,rfl⟩,rfl,HX.out⟩,rfl⟩,(((HT.out.set 4 0 rfl 0 _).set 4 0 rfl 1 _).pick [0,1,2,3] rfl).sum⟩
   ·have HZ:Jk (k,x) i t s=(.at none .submits,({ k with tk:=some (i,t2) },{ x with shs:=x.shs.set i { s with ring:=r2 } })):=by unfold Jk;simp only [hr2];rw [if_neg h0,if_neg (fun h=>h1 h.1),if_neg h1,if_neg h3]
    have hb3:(k.kind == 3)=false:=beq_eq_false_iff_ne.2 h3;clear h0 h1 hst3 h2 h3;rw [HZ];unfold MRz;dsimp only [Qn]
    clear HZ;refine GO fun w HT=>?_
    have HT:=Vh (HT.out.sum (H':=[Qp kb L.fb pv rv (Qb tb) k,gq,Q8 tb qs.rb t,gF]));have HX:=Vh hx;have HR:=Vh hr;have HQS:=Vh hqs;have HTI:=Vh (qb2 hx hqs hs tb t hrb htb);rw [hst,hr2] at HTI;clear hx hr hqs hs hrb htb;have k14:=HT.out.cell 0 0 rfl 14;simp only [Qo,GE3] at k14;have lt:=HT.out.lt 0 0 rfl;simp only [] at lt;clear hst hr2;go_enter func153,ntmps153
    go_wp2_with fail
    refine (Qa.use (HTI.out) (HT.out.alloc (k:=w.heap.size) rfl _ _) [2,3] rfl rfl).mono ?_
    rintro e w1 ⟨gs,⟨rfl,g1,hx1,rfl⟩,Ta⟩;simp only [PU] at Ta;have HX:=Vh hx1;clear hx1 k14 lt;have HT:=Vh Ta;clear Ta;have HT:=Vh (HT.out.eq (H':=[Qp kb L.fb pv rv (Qb tb) { k with tk:=some (i,t2) },gq,Q8 tb qs.rb t2,g1,[cl w.heap.size 180 #[.nilFunc,.nilFunc]]]) rfl);have k3:=HT.out.cell 0 0 rfl 3;simp only [Qo,GE3] at k3;go_wp2_with fail
    refine Qa.run (Xu) (HT.out) [] ?_
    rintro e w1 gs ⟨rfl,rfl⟩ HT;simp only [PU] at HT;obtain ⟨e0,e1⟩:=Ce2 (HT.out.cell 4 0 rfl) 0 1;obtain ⟨fe0,fe1⟩:=Ce2 (HT.out.free 4 0 rfl) 0 1;simp only [GE4] at e0 e1;go_wp2
    exact bodyPost_ret (v:=.agg #[.nilFunc,.func (.func 188) #[Qb kb] #[]]) (by simp [results,results153,go_sem,e0,e1]) rfl ⟨_,⟨_,_,[],_,_,rfl,⟨rfl,rfl,rfl⟩,⟨_,_,gq,(Q8 tb qs.rb t2),HR.out,⟨tb,qs,HQS.out,rfl,rfl⟩,rfl,HX.out⟩,rfl⟩,(((HT.out.set 4 0 rfl 0 _).set 4 0 rfl 1 _).pick [0,1,2,3] rfl).sum⟩
end
section
variable {L:Lay} {x:Ql} {gK gF:List Blk} {kb:Nat} {pv:Value} {k:Q7}
theorem qwv (hz:qe0 L kb pv k x gK gF) (hp:qd2 .submits (k,x)):Qa prog 188 #[Qb kb] [gK,gF] (MRz L kb pv (qbj .submits (k,x))):=by
 have HEV:=Vh (show ∀ g rv tv,Qf L x g→_ from fun g rv tv hx=>qer (kb:=kb) (pv:=pv) (rv:=rv) (tv:=tv) (k:=k) (g:=g) hx hp.1 2);have HLN:=Vh (show ({ x with slab:=(qfu k.slot 2 x.slab).1 }:Ql).tr.length≤1000000 from hp.1.tr);have HZ:=Vh (show qbj .submits (k,x)=(.at none .fills,(qdr 2 k x.slab,qig (qdr 2 k x.slab) { ev0 with kind:=3,id:=k.id,gen:=(qdr 2 k x.slab).gen,dl:=k.cdl,per:=k.period } { x with slab:=(qfu k.slot 2 x.slab).1 })) from rfl);rw [HZ.out];unfold MRz;dsimp only
 obtain ⟨k2,hk2⟩:∃ k2,qdr 2 k x.slab=k2:=⟨_,rfl⟩;have HK:=Vh (show k2.id=k.id∧k2.cdl=k.cdl∧k2.period=k.period∧k2.rq=k.rq∧k2.tk=k.tk from by subst hk2;exact ⟨rfl,rfl,rfl,rfl,rfl⟩);rw [hk2] at HEV ⊢;clear hp hk2 HZ;obtain ⟨rv,tv,gq,gt,hr,ht,rfl,hx⟩:=hz;refine GO fun w HT=>?_
 have HT:=Vh (HT.out.sum (H':=[Qp kb L.fb pv rv tv k,gq,gt,gF]));have HX:=Vh hx;have HR:=Vh hr;have HTK:=Vh ht;clear hx hr ht;have HT:=Vh (HT.out.alloc (k:=w.heap.size) rfl 180 #[.nilFunc,.nilFunc]);go_enter func188,ntmps188
 go_wp2_with fail
 refine (Qa.use (HEV.out _ _ _ HX.out) (HT.out) [0,3] rfl rfl).mono ?_
 rintro e w1 ⟨gs,⟨rfl,g1,hx1,rfl⟩,Ta⟩;simp only [PU] at Ta;have HX:=Vh hx1;clear hx1;have HT:=Vh Ta;clear Ta;obtain ⟨k5,k15,k18⟩:=Ce3 (HT.out.cell 0 0 rfl) 5 15 18;simp only [Qo,GE3] at k5 k15 k18;go_wp2
 refine Qc 17 (by kernel_rfl) (by kernel_rfl) ?_
 simp only [TD4]
 repeat (go_big_quiet_step ((first | (go_at_call 126;with_reducible exact Qe.quiet (qay (L:=L)) HT.out _ [0] rfl rfl))))
 refine wpQuiet_nil (QE fun nq=>?_)
 have HT:=Vh (HT.out.drewN nq);go_wp2_with fail
 refine (Qa.use (Jw HX.out { ev0 with kind:=3,id:=k2.id,gen:=k2.gen,dl:=k2.cdl,per:=k2.period } HLN.out) (HT.out) [0,3] rfl rfl).mono ?_
 rintro e w1 ⟨gs,⟨rfl,g2,hx2,rfl⟩,Ta⟩;simp only [PU] at Ta;have HX:=Vh hx2;clear hx2 k5 k15 k18;have HT:=Vh Ta;clear Ta;go_wp2_with fail
 refine ⟨rfl,?_⟩
 rw [HK.out.1,HK.out.2.1,HK.out.2.2.1] at HX;go_wp2_with fail
 refine Qa.run (Xu) (HT.out) [] ?_
 rintro e w1 gs ⟨rfl,rfl⟩ HT;simp only [PU] at HT;obtain ⟨e0,e1⟩:=Ce2 (HT.out.cell 4 0 rfl) 0 1;obtain ⟨fe0,fe1⟩:=Ce2 (HT.out.free 4 0 rfl) 0 1;simp only [GE4] at e0 e1;go_wp2
 exact bodyPost_ret (v:=.agg #[.nilFunc,.func (.func 196) #[Qb kb] #[]]) (by simp [results,results188,go_sem,e0,e1]) rfl ⟨_,⟨_,_,[],_,_,rfl,⟨rfl,rfl,rfl⟩,⟨_,_,gq,gt,(HK.out.2.2.2.1 ▸ HR.out),(HK.out.2.2.2.2 ▸ HTK.out),rfl,HX.out⟩,rfl⟩,(((HT.out.set 4 0 rfl 0 _).set 4 0 rfl 1 _).pick [0,1,2,3] rfl).sum⟩
theorem q3m (hz:qe0 L kb pv k x gK gF) (hp:qd2 .fills (k,x)):Qa prog 196 #[Qb kb] [gK,gF] (MRz L kb pv (qbj .fills (k,x))):=by
 obtain ⟨hok,hwk,hpr⟩:=hp;simp only at hok hwk hpr;obtain ⟨⟨i,t⟩,htke⟩:=Option.isSome_iff_exists.1 hpr;obtain ⟨htb,hi⟩:=hwk.tk i t htke;obtain ⟨s,hs⟩:∃ s,x.shs[i]?=some s:=⟨_,List.getElem?_eq_getElem hi⟩;have hrb:=hok.ring s (List.mem_of_getElem? hs)
 have hE:qab (qcj (k,x)) (k,x)=({ k with tk:=some (i,(Yd s.ring t (qcj (k,x))).2.1) },{ x with shs:=x.shs.set i { s with ring:=(Yd s.ring t (qcj (k,x))).1 } }):=by
  unfold qab;simp only [htke,hs]
 have HZ:qbj .fills (k,x)=(J4,(okC { k with tk:=some (i,(Yd s.ring t (qcj (k,x))).2.1) },{ x with shs:=x.shs.set i { s with ring:=(Yd s.ring t (qcj (k,x))).1 } })):=by
  show (J4,(okC (qab (qcj (k,x)) (k,x)).1,(qab (qcj (k,x)) (k,x)).2))=_
  rw [hE]
 rw [HZ];unfold MRz;dsimp only [okC]
 obtain ⟨rv,tv,gq,gt,hr,ht,rfl,hx⟩:=hz;rw [htke] at ht;obtain ⟨tb,qs,hqs,rfl,rfl⟩:=ht;have HFI:=Vh (qoi hx hqs hs tb t hrb htb (qcj (k,x)));have HPE:=Vh (qdx hx hok.slab.n1 k.slot);have HTA:=Vh (show (qcj (k,x)).cells=#[.int .u64 k.id,.int .i64 k.slot,.int .u64 k.gen,.int .u64 k.cdl,.int .u64 (x.slab.period k.slot)] from rfl);rw [HTA.out] at HFI;generalize Yd s.ring t (qcj (k,x))=rt at *;refine GO fun w HT=>?_
 have HT:=Vh (HT.out.sum (H':=[Qp kb L.fb pv rv (Qb tb) k,gq,Q8 tb qs.rb t,gF]));have HX:=Vh hx;have HR:=Vh hr;have HQS:=Vh hqs;clear hx hr hqs hs hrb htb hE HZ hok hwk hpr htke hi;obtain ⟨k0,k5,k14,k15,k16,k18⟩:=Ce6 (HT.out.cell 0 0 rfl) 0 5 14 15 16 18;simp only [Qo,GE3] at k0 k5 k14 k15 k16 k18;have lt:=HT.out.lt 0 0 rfl;simp only [] at lt;go_enter func196,ntmps196
 go_wp2
 have HT:=Vh (HT.out.alloc (k:=w.heap.size) rfl 180 #[.nilFunc,.nilFunc]);refine Qc 32 (by kernel_rfl) (by kernel_rfl) ?_
 simp only [TD4]
 repeat (go_big_quiet_step ((first | (go_at_call 124;with_reducible exact Qe.quiet (Qk HX.out) HT.out _ [3] rfl rfl) | (go_at_call 193;with_reducible exact Qe.quiet (HPE.out) HT.out _ [3] rfl rfl))))
 refine wpQuiet_nil (QE fun nq=>?_)
 have HT:=Vh (HT.out.drewN nq);go_wp2_with fail
 refine (Qa.use (HFI.out) (HT.out) [2,3] rfl rfl).mono ?_
 rintro e w1 ⟨gs,⟨rfl,g1,hx1,rfl⟩,Ta⟩;simp only [PU] at Ta;have HX:=Vh hx1;clear hx1 k0 k5 k14 k15 k16 k18 lt;have HT:=Vh Ta;clear Ta;go_wp2_with fail
 refine ⟨rfl,?_⟩
 obtain ⟨k15,k18,k7,k8,k9,k10,k11⟩:=Ce7 (HT.out.cell 0 0 rfl) 15 18 7 8 9 10 11;obtain ⟨fk7,fk8,fk9,fk10,fk11⟩:=Ce5 (HT.out.free 0 0 rfl) 7 8 9 10 11;simp only [Qo,GE3] at k15 k18 k7 k8 k9 k10 k11;go_wp2
 refine Qc 10 (by kernel_rfl) (by kernel_rfl) ?_
 simp only [TD4]
 repeat (go_big_quiet_step ((fail)))
 refine wpQuiet_nil (QE fun nq=>?_)
 have HT:=Vh (HT.out.drewN nq);go_wp2_with fail
 refine ⟨rfl,?_⟩
 have HT:=Vh ((((((HT.out.set 0 0 rfl 7 (.int .i64 0)).set 0 0 rfl 8 (.bool true)).set 0 0 rfl 9 (.int .u64 k.id)).set 0 0 rfl 10 (.int .u64 k.gen)).set 0 0 rfl 11 (.slice none 0 0)).eq (H':=[Qp kb L.fb pv rv (Qb tb) { k with tk:=some (i,rt.2.1),err:=0,ok:=true,aid:=k.id,agen:=k.gen },gq,Q8 tb qs.rb rt.2.1,g1,[cl w.heap.size 180 #[.nilFunc,.nilFunc]]]) rfl);clear k15 k18 k7 k8 k9 k10 k11 fk7 fk8 fk9 fk10 fk11;go_wp2_with fail
 refine Qa.run (qex L kb pv) (HT.out) [] ?_
 rintro e w1 gs ⟨m2,d2,g2,rfl,hs2,rfl⟩ HT;simp only [PU] at HT;obtain ⟨e0,e1⟩:=Ce2 (HT.out.cell 4 0 rfl) 0 1;obtain ⟨fe0,fe1⟩:=Ce2 (HT.out.free 4 0 rfl) 0 1;simp only [GE4] at e0 e1;have hv2:=(Q5 L kb pv).vals hs2;obtain ⟨st1,st2⟩:=Cli.store_fv2 (P:=prog) hv2.1 hv2.2 e0 fe0 e1 fe1;have HS:=Vh hs2;clear hv2 hs2;go_wp2
 exact bodyPost_ret (v:=.agg #[_,_]) (by simp [results,results196,go_sem,e0,e1]) rfl ⟨_,⟨m2,d2,g2,_,_,rfl,HS.out,⟨_,_,gq,(Q8 tb qs.rb rt.2.1),HR.out,⟨tb,qs,HQS.out,rfl,rfl⟩,rfl,HX.out⟩,rfl⟩,(((HT.out.set 4 0 rfl 0 _).set 4 0 rfl 1 _).pick [0,1,2,3,5] rfl).sum⟩
end
section
variable {L:Lay} {x:Ql} {gK gF:List Blk} {kb:Nat} {pv:Value} {k:Q7}
def AR (L:Lay) (kb:Nat) (pv:Value) (z:ZC) (e:Ending) (gs:GH):Prop:=∃ gK' gF',e=.returned (.tuple #[])∧qe0 L kb pv z.1 z.2 gK' gF'∧gs=[[],gK',gF']
theorem q35 (hz:qe0 L kb pv k x gK gF) (hp:qk9 .ends1 (k,x)) (bk:Nat):Qa prog 147 #[Qb bk] [[cl bk 135 #[Qb kb]],gK,gF] (AR L kb pv (runA .ends1 (k,x))):=by
 have HLN:=Vh hp.1.tr;simp only at HLN;clear hp;unfold AR;dsimp only [runA,qcp]
 obtain ⟨rv,tv,gq,gt,hr,ht,rfl,hx⟩:=hz;refine GO fun w HT=>?_
 have HT:=Vh (HT.out.sum (H':=[Qp kb L.fb pv rv tv k,gq,gt,gF,[cl bk 135 #[Qb kb]]]));have HX:=Vh hx;have HR:=Vh hr;have HTK:=Vh ht;clear hx hr ht;obtain ⟨k7,k9,k10⟩:=Ce3 (HT.out.cell 0 0 rfl) 7 9 10;simp only [Qo,GE3] at k7 k9 k10;have b0:=HT.out.cell 4 0 rfl 0;simp only [GE4] at b0;go_enter func147,ntmps147
 go_wp2_with fail
 refine Qc 17 (by kernel_rfl) (by kernel_rfl) ?_
 simp only [TD4]
 repeat (go_big_quiet_step ((fail)))
 refine wpQuiet_nil (QE fun nq=>?_)
 have HT:=Vh (HT.out.drewN nq);go_wp2_with fail
 refine (Qa.use (Jw HX.out { ev0 with kind:=2,id:=k.aid,gen:=k.agen,err:=k.err } HLN.out) (HT.out) [0,3] rfl rfl).mono ?_
 rintro e w1 ⟨gs,⟨rfl,g2,hx2,rfl⟩,Ta⟩;simp only [PU] at Ta;have HX:=Vh hx2;clear hx2 k7 k9 k10 b0;have HT:=Vh Ta;clear Ta;go_wp2_with fail
 refine ⟨rfl,?_⟩
 go_wp2
 exact bodyPost_end (results_none rfl _ _ _) rfl ⟨_,⟨_,_,rfl,⟨_,_,gq,gt,HR.out,HTK.out,rfl,HX.out⟩,rfl⟩,(HT.out.pick [0,1,2,3] rfl).sum⟩
theorem qzj (hz:qe0 L kb pv k x gK gF) (hp:qk9 .leaves1 (k,x)) (bk:Nat):Qa prog 176 #[Qb bk] [[cl bk 135 #[Qb kb]],gK,gF] (AR L kb pv (runA .leaves1 (k,x))):=by
 have HI:=Vh (And.intro hp.1.i0 hp.1.i1);simp only at HI;clear hp;unfold AR;dsimp only [runA]
 obtain ⟨rv,tv,gq,gt,hr,ht,rfl,hx⟩:=hz;refine GO fun w HT=>?_
 have HT:=Vh (HT.out.sum (H':=[Qp kb L.fb pv rv tv k,gq,gt,gF,[cl bk 135 #[Qb kb]]]));have HX:=Vh hx;have HR:=Vh hr;have HTK:=Vh ht;clear hx hr ht;have k0:=HT.out.cell 0 0 rfl 0;simp only [Qo,GE3] at k0;have b0:=HT.out.cell 4 0 rfl 0;simp only [GE4] at b0;go_enter func176,ntmps176
 go_wp2_with fail
 refine (Qa.use (qji HX.out HI.out) (HT.out) [3] rfl rfl).mono ?_
 rintro e w1 ⟨gs,⟨rfl,g2,hx2,rfl⟩,Ta⟩;simp only [PU] at Ta;have HX:=Vh hx2;clear hx2 k0 b0;have HT:=Vh Ta;clear Ta;go_wp2
 exact bodyPost_end (results_none rfl _ _ _) rfl ⟨_,⟨_,_,rfl,⟨_,_,gq,gt,HR.out,HTK.out,rfl,HX.out⟩,rfl⟩,(HT.out.pick [0,1,2,3] rfl).sum⟩
theorem q3w (hz:qe0 L kb pv k x gK gF) (hp:qk9 .tries1 (k,x)) (bk:Nat):Qa prog 197 #[Qb bk] [[cl bk 135 #[Qb kb]],gK,gF] (AR L kb pv (runA .tries1 (k,x))):=by
 have HOK:=Vh hp.1;simp only at HOK;clear hp;unfold AR;dsimp only [runA,Y6]
 obtain ⟨rv,tv,gq,gt,hr,ht,rfl,hx⟩:=hz;refine GO fun w HT=>?_
 have HT:=Vh (HT.out.sum (H':=[Qp kb L.fb pv rv tv k,gq,gt,gF,[cl bk 135 #[Qb kb]]]));have HX:=Vh hx;have HR:=Vh hr;have HTK:=Vh ht;clear hx hr ht;have b0:=HT.out.cell 4 0 rfl 0;simp only [GE4] at b0;go_enter func197,ntmps197
 go_wp2_with fail
 refine (Qa.use (qer HX.out HOK.out 10) (HT.out) [0,3] rfl rfl).mono ?_
 rintro e w1 ⟨gs,⟨rfl,g2,hx2,rfl⟩,Ta⟩;simp only [PU] at Ta;have HX:=Vh hx2;clear hx2 b0;have HT:=Vh Ta;clear Ta;go_wp2
 exact bodyPost_end (results_none rfl _ _ _) rfl ⟨_,⟨_,_,rfl,⟨_,_,gq,gt,HR.out,HTK.out,rfl,HX.out⟩,rfl⟩,(HT.out.pick [0,1,2,3] rfl).sum⟩
theorem q4c (hz:qe0 L kb pv k x gK gF) (hp:qk9 .undo (k,x)):Qa prog 185 #[Qb kb] [gK,gF] (AR L kb pv (runA .undo (k,x))):=by
 have HOK:=Vh hp.1;simp only at HOK;have HLN:=Vh (show ({ x with slab:=(qfu k.slot 9 x.slab).1 }:Ql).tr.length≤1000000 from hp.1.tr);clear hp;unfold AR;dsimp only [runA,Y6,Qn]
 obtain ⟨rv,tv,gq,gt,hr,ht,rfl,hx⟩:=hz;refine GO fun w HT=>?_
 have HT:=Vh (HT.out.sum (H':=[Qp kb L.fb pv rv tv k,gq,gt,gF,[]]));have HX:=Vh hx;have HR:=Vh hr;have HTK:=Vh ht;clear hx hr ht;go_enter func185,ntmps185
 go_wp2_with fail
 refine (Qa.use (qer HX.out HOK.out 9) (HT.out) [0,3] rfl rfl).mono ?_
 rintro e w1 ⟨gs,⟨rfl,g1,hx1,rfl⟩,Ta⟩;simp only [PU] at Ta;have HX:=Vh hx1;clear hx1;have HT:=Vh Ta;clear Ta;go_wp2_with fail
 refine (Qa.use (Z5 HX.out 2 HLN.out) (HT.out) [0,3] rfl rfl).mono ?_
 rintro e w1 ⟨gs,⟨rfl,g2,hx2,rfl⟩,Ta⟩;simp only [PU] at Ta;have HX:=Vh hx2;clear hx2;have HT:=Vh Ta;clear Ta;go_wp2
 exact bodyPost_end (results_none rfl _ _ _) rfl ⟨_,⟨_,_,rfl,⟨_,_,gq,gt,HR.out,HTK.out,rfl,HX.out⟩,rfl⟩,(HT.out.pick [0,1,2,3] rfl).sum⟩
theorem q4y (hz:qe0 L kb pv k x gK gF) (hp:qk9 .drop (k,x)):Qa prog 186 #[Qb kb] [gK,gF] (AR L kb pv (runA .drop (k,x))):=by
 have HC:=Vh (And.intro hp.1.slab.c0 (show x.slab.count≤64 by have:=hp.1.slab.c1;have:=hp.1.slab.n1;simp only at *;omega));simp only at HC;clear hp;unfold AR;dsimp only [runA]
 obtain ⟨rv,tv,gq,gt,hr,ht,rfl,hx⟩:=hz;refine GO fun w HT=>?_
 have HT:=Vh (HT.out.sum (H':=[Qp kb L.fb pv rv tv k,gq,gt,gF,[]]));have HX:=Vh hx;have HR:=Vh hr;have HTK:=Vh ht;clear hx hr ht;have k0:=HT.out.cell 0 0 rfl 0;simp only [Qo,GE3] at k0;go_enter func186,ntmps186
 go_wp2_with fail
 refine (Qe.use (Qk HX.out) (HT.out) [3] rfl rfl).mono ?_
 rintro e w1 ⟨rfl,mq,rfl⟩;have HT:=Vh (HT.out.drewN mq);generalize World.drewN _ _=wq at HT ⊢;go_wp2_with fail
 refine (Qa.use (qid HX.out HC.out.1 HC.out.2) (HT.out) [3] rfl rfl).mono ?_
 rintro e w1 ⟨gs,⟨rfl,g2,hx2,rfl⟩,Ta⟩;simp only [PU] at Ta;have HX:=Vh hx2;clear hx2 k0;have HT:=Vh Ta;clear Ta;go_wp2
 exact bodyPost_end (results_none rfl _ _ _) rfl ⟨_,⟨_,_,rfl,⟨_,_,gq,gt,HR.out,HTK.out,rfl,HX.out⟩,rfl⟩,(HT.out.pick [0,1,2,3] rfl).sum⟩
theorem q32 (hz:qe0 L kb pv k x gK gF) (hp:qk9 .again1 (k,x)) (bk:Nat):Qa prog 221 #[Qb bk] [[cl bk 135 #[Qb kb]],gK,gF] (AR L kb pv (runA .again1 (k,x))):=by
 obtain ⟨hok,hwk,hpr⟩:=hp;simp only at hok hwk hpr;obtain ⟨⟨i,t⟩,htke⟩:=Option.isSome_iff_exists.1 hpr;obtain ⟨htb,hi⟩:=hwk.tk i t htke;obtain ⟨s,hs⟩:∃ s,x.shs[i]?=some s:=⟨_,List.getElem?_eq_getElem hi⟩;have hrb:=hok.ring s (List.mem_of_getElem? hs)
 have hE:runA .again1 (k,x)=({ k with tk:=some (i,(Yd s.ring t { Qq.zero with slot:=-1 }).2.1) },{ x with shs:=x.shs.set i { s with ring:=(Yd s.ring t { Qq.zero with slot:=-1 }).1 } }):=by
  show qab _ _=_
  unfold qab;simp only [htke,hs]
 rw [hE];unfold AR;dsimp only
 obtain ⟨rv,tv,gq,gt,hr,ht,rfl,hx⟩:=hz;rw [htke] at ht;obtain ⟨tb,qs,hqs,rfl,rfl⟩:=ht;have HFI:=Vh (qoi hx hqs hs tb t hrb htb { Qq.zero with slot:=-1 });have HTA:=Vh (show ({ Qq.zero with slot:=-1 }:Qq).cells=#[.int .u64 0,.int .i64 (-1),.int .u64 0,.int .u64 0,.int .u64 0] from rfl);rw [HTA.out] at HFI;generalize Yd s.ring t { Qq.zero with slot:=-1 }=rt at *;refine GO fun w HT=>?_
 have HT:=Vh (HT.out.sum (H':=[Qp kb L.fb pv rv (Qb tb) k,gq,Q8 tb qs.rb t,gF,[cl bk 135 #[Qb kb]]]));have HX:=Vh hx;have HR:=Vh hr;have HQS:=Vh hqs;clear hx hr hqs hs hrb htb hE hok hwk hpr htke hi;have k14:=HT.out.cell 0 0 rfl 14;simp only [Qo,GE3] at k14;have b0:=HT.out.cell 4 0 rfl 0;simp only [GE4] at b0;go_enter func221,ntmps221
 go_wp2_with fail
 refine (Qa.use (HFI.out) (HT.out) [2,3] rfl rfl).mono ?_
 rintro e w1 ⟨gs,⟨rfl,g1,hx1,rfl⟩,Ta⟩;simp only [PU] at Ta;have HX:=Vh hx1;clear hx1 k14 b0;have HT:=Vh Ta;clear Ta;go_wp2
 exact bodyPost_end (results_none rfl _ _ _) rfl ⟨_,⟨_,_,rfl,⟨_,_,gq,Q8 tb qs.rb rt.2.1,HR.out,⟨tb,qs,HQS.out,rfl,rfl⟩,rfl,HX.out⟩,rfl⟩,((HT.out.pick [0,1,2,3] rfl).eq (H':=[Qp kb L.fb pv rv (Qb tb) { k with tk:=some (i,rt.2.1) },gq,Q8 tb qs.rb rt.2.1,g1]) rfl).sum⟩
end
section
variable {L:Lay} {x:Ql} {g gK gF:List Blk} {kb:Nat} {pv:Value} {k:Q7}
theorem qza (hz:qe0 L kb pv k x gK gF):Qa prog 122 #[Qb kb] [gK,gF] (MRz L kb pv (.row1 .ends1,(k,x))):=by
 intro w hw;refine (Qa.use (qq3 L kb pv) (TG.refl hw) [] rfl rfl).mono ?_
 rintro e w' ⟨gs,⟨m,d,g',he,hs,rfl⟩,T⟩;exact ⟨_,⟨m,d,g',gK,gF,he,hs,hz,rfl⟩,T.pick [2,0,1] rfl⟩
theorem qu6 (hz:qe0 L kb pv k x gK gF):Qa prog 148 #[Qb kb] [gK,gF] (MRz L kb pv (J4,(k,x))):=by
 intro w hw;refine (Qa.use (qex L kb pv) (TG.refl hw) [] rfl rfl).mono ?_
 rintro e w' ⟨gs,⟨m,d,g',he,hs,rfl⟩,T⟩;exact ⟨_,⟨m,d,g',gK,gF,he,hs,hz,rfl⟩,T.pick [2,0,1] rfl⟩
theorem mFn {fn:FuncId} {R:Ending→GH→Prop} (eg:∀ args w,(callFunc fn args).run prog w=.ok (.enter fn args) w) (h:Qa prog fn #[Qb kb] [gK,gF] R):FnG prog (.func (.func fn) #[Qb kb] #[]) [[],gK,gF] R :=
 ⟨fn,#[Qb kb],#[],rfl,eg,Qa.pre (by simpa using h) (by simp)⟩
theorem aFn {fn:FuncId} {bk:Nat} {gb:List Blk} {R:Ending→GH→Prop} (eg:∀ args w,(callFunc fn args).run prog w=.ok (.enter fn args) w) (h:Qa prog fn #[Qb bk] [gb,gK,gF] R):FnG prog (.func (.func fn) #[] #[Qb bk]) [gb,gK,gF] R :=
 ⟨fn,#[],#[Qb bk],rfl,eg,by simpa using h⟩
theorem zh (L:Lay) (kb:Nat) (pv:Value):(qf6 L kb pv).Ok where
 v:=Q5 L kb pv
 y h:=h.elim
 m {f v g gK gF z} hv hz hp:=by
   obtain ⟨k,x⟩:=z;obtain ⟨rfl,rfl⟩:=hv;cases f with
   | right=>exact mFn (enters_of func93 (by kernel_rfl) rfl) (q2d hz hp)
   | enter=>exact mFn (enters_of func94 (by kernel_rfl) rfl) (q1w hz hp)
   | gate=>exact mFn (enters_of func95 (by kernel_rfl) rfl) (q45 hz hp)
   | asks=>exact mFn (enters_of func127 (by kernel_rfl) rfl) (q42 hz hp)
   | queues=>exact mFn (enters_of func153 (by kernel_rfl) rfl) (q0f hz hp)
   | submits=>exact mFn (enters_of func188 (by kernel_rfl) rfl) (qwv hz hp)
   | fills=>exact mFn (enters_of func196 (by kernel_rfl) rfl) (q3m hz hp)
   | looks=>exact mFn (enters_of func128 (by kernel_rfl) rfl) (q3t hz hp)
   | again=>exact mFn (enters_of func187 (by kernel_rfl) rfl) (q15 hz hp)
   | tries=>exact mFn (enters_of func155 (by kernel_rfl) rfl) (q3h hz hp)
   | ends=>exact mFn (enters_of func122 (by kernel_rfl) rfl) (qza hz)
   | leaves=>exact mFn (enters_of func148 (by kernel_rfl) rfl) (qu6 hz)
 a {f v g gK gF z} hv hz hp:=by
   obtain ⟨k,x⟩:=z;cases f with
   | ends1=>obtain ⟨bk,rfl,rfl⟩:=hv;exact aFn (enters_of func147 (by kernel_rfl) rfl) (q35 hz hp bk)
   | leaves1=>obtain ⟨bk,rfl,rfl⟩:=hv;exact aFn (enters_of func176 (by kernel_rfl) rfl) (qzj hz hp bk)
   | undo=>obtain ⟨rfl,rfl⟩:=hv;exact mFn (enters_of func185 (by kernel_rfl) rfl) (q4c hz hp)
   | drop=>obtain ⟨rfl,rfl⟩:=hv;exact mFn (enters_of func186 (by kernel_rfl) rfl) (q4y hz hp)
   | tries1=>obtain ⟨bk,rfl,rfl⟩:=hv;exact aFn (enters_of func197 (by kernel_rfl) rfl) (q3w hz hp bk)
   | again1=>obtain ⟨bk,rfl,rfl⟩:=hv;exact aFn (enters_of func221 (by kernel_rfl) rfl) (q32 hz hp bk)
end
def isWk (L:Lay) (kb:Nat) (pv:Value) (k:Q7) (gK:List Blk):Prop :=
 ∃ rv tv gq gt,qyq L.p.sb k.rq rv gq∧qx8 L k.tk tv gt∧gK=Qp kb L.fb pv rv tv k++(gq++gt)
theorem qhz {L:Lay} {kb:Nat} {pv:Value} {k:Q7} {x:Ql} {gK gF:List Blk}:qe0 L kb pv k x gK gF↔isWk L kb pv k gK∧Qf L x gF :=
 ⟨fun ⟨rv,tv,gq,gt,a,b,c,d⟩=>⟨⟨rv,tv,gq,gt,a,b,c⟩,d⟩,fun ⟨⟨rv,tv,gq,gt,a,b,c⟩,d⟩=>⟨rv,tv,gq,gt,a,b,c,d⟩⟩
def Y9 (L:Lay) (kb:Nat) (s:SC) (n:Int) (k:Q7) (g:List Blk):Prop :=
 ∃ pb m d gst gK,(qf6 L kb (Qb pb)).SV s m d gst∧isWk L kb (Qb pb) k gK∧g=Cli.progB pb m d n++(gst++gK)
theorem qwt:∀ (s:SC) (z:ZC),St.preY (fun (_:Empty) (_:ZC)=>True) s z
 | .nil,_=>trivial
 | .at none _,_=>trivial
 | .at (some y) _,_=>y.elim
 | .row1 _,_=>trivial
 | .row2 _ _,_=>trivial
 | .thn s _,z=>qwt s z
theorem qnh {L:Lay} {kb:Nat} {pv:Value}:∀ {s:SC} {m d:Value} {g:List Blk},(qf6 L kb pv).SV s m d g→m=.nilFunc
 | .nil,_,_,_,h=>h.1
 | .at none _,_,_,_,h=>h.1
 | .at (some y) _,_,_,_,_=>y.elim
 | .row1 _,_,_,_,h=>h.1
 | .row2 _ _,_,_,_,h=>h.1
 | .thn s _,_,_,_,h=>by obtain ⟨bs,br,ds,vm,gs,gm,_,_,hv,_⟩:=h;exact qnh hv
def preC (s:SC) (z:ZC):Prop:=St.pre qbj runA qd2 qk9 s z
def qbt (s:SC) (z:ZC):SC × ZC:=St.run qbj runA s z
structure Qs where
 kind:Int
 id:Int
 dl:Int
 per:Int
def Qs.cells (c:Qs):Array Value:=#[.int .i64 c.kind,.int .u64 c.id,.int .u64 c.dl,.int .u64 c.per]
def z6 (th no:Int) (c:Qs):Q7:=⟨th,no,c.kind,c.id,c.dl,c.per,0,false,0,0,c.id,0,0,0,none,none⟩
def Yn (kind:Int):SC:=if kind=1∨kind=2 then .at none .right else if kind=3 then .at none .enter else .at none .gate
def q1q (err:Int) (ok:Bool) (id gen:Int):Array Value:=#[.int .i64 err,.bool ok,.int .u64 id,.int .u64 gen,.slice none 0 0]
section
variable {L:Lay} {x:Ql} {g gF:List Blk} {kb:Nat} {s:SC} {n:Int} {k:Q7}
theorem qwn (hc:Y9 L kb s n k g) (hx:Qf L x gF) (hp:preC s (k,x)) (hn:s.isNil=false) (hb:0≤n∧n≤1000000000) :
 Qa prog 341 #[Qb kb] [g,gF] fun e gs=>∃ g' gF',e=.returned (.bool true)∧Y9 L kb (qbt s (k,x)).1 (n+1) (qbt s (k,x)).2.1 g'∧Qf L (qbt s (k,x)).2.2 gF'∧gs=[g',gF']:=by
 obtain ⟨pb,m,d,gst,gK,hs,⟨rv,tv,gq,gt,hr,ht,rfl⟩,rfl⟩:=hc;have hm0:=qnh hs;subst hm0;have hok:=zh L kb (Qb pb);have hm:=Cli.may_nil (x:=((k,x):ZC)) hok hn hs;have hd:=Cli.prog_step (n:=n) hok hs (x:=((k,x):ZC)) (gK:=Qp kb L.fb (Qb pb) rv tv k++(gq++gt)) (gF:=gF) ⟨rv,tv,gq,gt,hr,ht,rfl,hx⟩ (qwt s _) hp pb hb hm;refine GO fun w HT=>?_
 have T1:=HT.out.sum (H':=[Qp kb L.fb (Qb pb) rv tv k,Cli.progB pb .nilFunc d n,gst,gq,gt,gF]);have k12:=T1.cell 0 0 rfl 12;simp only [Qo,GE3] at k12;have HD:=Vh hd;have HT:=Vh (HT.out.sum (H':=[Cli.progB pb .nilFunc d n,gst,Qp kb L.fb (Qb pb) rv tv k++(gq++gt),gF]));clear hs hr ht hx hp hn hb hok hm hd T1;go_enter func341,ntmps341
 go_wp2_with fail
 refine (Qa.use (HD.out) (HT.out) [0,1,2,3] rfl rfl).mono ?_
 rintro e w1 ⟨gs,⟨m',d',gst',gK',gF',rfl,hs',hx',rfl⟩,Ta⟩;simp only [PU] at Ta;have HS:=Vh hs';have HX:=Vh (qhz.1 hx');clear hs' hx' k12;have HT:=Vh Ta;clear Ta;go_wp2
 go_ret
 exact ⟨_,⟨_,gF',rfl,⟨pb,m',d',gst',gK',HS.out,HX.out.1,rfl⟩,HX.out.2,rfl⟩,HT.out.sum⟩
theorem qkk (hc:Y9 L kb .nil n k g) (hx:Qf L x gF) :
 Qa prog 341 #[Qb kb] [g,gF] fun e gs=>e=.returned (.bool false)∧∃ g' gF',Y9 L kb .nil n k g'∧Qf L x gF'∧gs=[g',gF']:=by
 obtain ⟨pb,m,d,gst,gK,hs,⟨rv,tv,gq,gt,hr,ht,rfl⟩,rfl⟩:=hc;have hok:=zh L kb (Qb pb);have hd:=Cli.prog_step_no (n:=n) hok hs (x:=((k,x):ZC)) (gK:=Qp kb L.fb (Qb pb) rv tv k++(gq++gt)) (gF:=gF) ⟨rv,tv,gq,gt,hr,ht,rfl,hx⟩ (qwt .nil _) pb rfl;refine GO fun w HT=>?_
 have T1:=HT.out.sum (H':=[Qp kb L.fb (Qb pb) rv tv k,Cli.progB pb m d n,gst,gq,gt,gF]);have k12:=T1.cell 0 0 rfl 12;simp only [Qo,GE3] at k12;have HD:=Vh hd;have HS:=Vh hs;have HT:=Vh (HT.out.sum (H':=[Cli.progB pb m d n,gst,Qp kb L.fb (Qb pb) rv tv k++(gq++gt),gF]));clear hs hr ht hx hok hd T1;go_enter func341,ntmps341
 go_wp2_with fail
 refine (Qa.use (HD.out) (HT.out) [0,1,2,3] rfl rfl).mono ?_
 rintro e w1 ⟨gs,⟨gK',gF',rfl,hx',rfl⟩,Ta⟩;simp only [PU] at Ta;have HX:=Vh (qhz.1 hx');clear hx' k12;have HT:=Vh Ta;clear Ta;go_wp2
 go_ret
 exact ⟨_,⟨rfl,_,gF',⟨pb,m,d,gst,gK',HS.out,HX.out.1,rfl⟩,HX.out.2,rfl⟩,HT.out.sum⟩
theorem qir (hc:Y9 L kb s n k g):Qe prog 339 #[Qb kb] [g] (.bool s.isNil):=by
 obtain ⟨pb,m,d,gst,gK,hs,⟨rv,tv,gq,gt,hr,ht,rfl⟩,rfl⟩:=hc;have hd:=Cli.prog_done (zh L kb (Qb pb)) hs pb n;refine GO fun w HT=>?_
 have T1:=HT.out.sum (H':=[Qp kb L.fb (Qb pb) rv tv k,Cli.progB pb m d n,gst,gq,gt]);have k12:=T1.cell 0 0 rfl 12;simp only [Qo,GE3] at k12;have HD:=Vh hd;have HT:=Vh T1;clear hs hr ht hd T1;go_enter func339,ntmps339
 go_wp2_with fail
 refine (Qe.use (HD.out) (HT.out) [1] rfl rfl).mono ?_
 rintro e w1 ⟨rfl,mq,rfl⟩;go_wp2
 go_ret
 exact ⟨rfl,_,rfl⟩
theorem q09 (hc:Y9 L kb s n k g) (hx:Qf L x gF) :
 Qa prog 340 #[Qb kb] [g,gF] fun e gs=>e=.returned (.bool (!s.isNil))∧∃ g' gF',Y9 L kb s n k g'∧Qf L x gF'∧gs=[g',gF']:=by
 obtain ⟨pb,m,d,gst,gK,hs,⟨rv,tv,gq,gt,hr,ht,rfl⟩,rfl⟩:=hc;have hm0:=qnh hs;subst hm0;have hok:=zh L kb (Qb pb)
 have hm:St.may (M:=(qf6 L kb (Qb pb)).M) (A:=(qf6 L kb (Qb pb)).A) (Y:=(qf6 L kb (Qb pb)).Y) (α:=(qf6 L kb (Qb pb)).α) (qf6 L kb (Qb pb)).mayY s ((k,x):ZC)=!s.isNil:=by
  cases hn:s.isNil
  ·exact Cli.may_nil (x:=((k,x):ZC)) hok hn hs
  ·cases s <;> first | rfl | cases hn
 have hd:=Cli.prog_may (n:=n) hok hs (x:=((k,x):ZC)) (gK:=Qp kb L.fb (Qb pb) rv tv k++(gq++gt)) (gF:=gF) ⟨rv,tv,gq,gt,hr,ht,rfl,hx⟩ (qwt s _) pb;rw [hm] at hd;refine GO fun w HT=>?_
 have T1:=HT.out.sum (H':=[Qp kb L.fb (Qb pb) rv tv k,Cli.progB pb .nilFunc d n,gst,gq,gt,gF]);have k12:=T1.cell 0 0 rfl 12;simp only [Qo,GE3] at k12;have HD:=Vh hd;have HS:=Vh hs;have HT:=Vh (HT.out.sum (H':=[Cli.progB pb .nilFunc d n,gst,Qp kb L.fb (Qb pb) rv tv k++(gq++gt),gF]));clear hs hr ht hx hok hd T1 hm;go_enter func340,ntmps340
 go_wp2_with fail
 refine (Qa.use (HD.out) (HT.out) [0,1,2,3] rfl rfl).mono ?_
 rintro e w1 ⟨gs,⟨gK',gF',rfl,hx',rfl⟩,Ta⟩;simp only [PU] at Ta;have HX:=Vh (qhz.1 hx');clear hx' k12;have HT:=Vh Ta;clear Ta;go_wp2
 go_ret
 exact ⟨_,⟨rfl,_,gF',⟨pb,.nilFunc,d,gst,gK',HS.out,HX.out.1,rfl⟩,HX.out.2,rfl⟩,HT.out.sum⟩
theorem qrq (hc:Y9 L kb s n k g) (hn:s.isNil=true):Qa prog 338 #[Qb kb] [g] fun e gs =>
 e=.returned (.tuple #[.agg (q1q k.err k.ok k.aid k.agen),.int .i64 0])∧gs=[g]:=by
 have hd:=qir hc;rw [hn] at hd;obtain ⟨pb,m,d,gst,gK,hs,⟨rv,tv,gq,gt,hr,ht,rfl⟩,rfl⟩:=hc;refine GO fun w HT=>?_
 have HT:=Vh (HT.out.sum (H':=[Cli.progB pb m d n++(gst++(Qp kb L.fb (Qb pb) rv tv k++(gq++gt)))]));have HD:=Vh hd;have lt:=(HT.out.sum (H':=[Qp kb L.fb (Qb pb) rv tv k,Cli.progB pb m d n,gst,gq,gt])).lt 0 0 rfl;have HT:=Vh (HT.out.alloc (k:=w.heap.size) rfl 46 #[.int .i64 0,.bool false,.int .u64 0,.int .u64 0,.slice none 0 0]);simp only [] at lt;clear hs hr ht hd hn;go_enter func338,ntmps338
 go_wp2_with fail
 refine (Qe.use (HD.out) (HT.out) [0] rfl rfl).mono ?_
 rintro e w1 ⟨rfl,mq,rfl⟩;have HT:=Vh (HT.out.drewN mq);have HT:=Vh (HT.out.sum (H':=[Qp kb L.fb (Qb pb) rv tv k,Cli.progB pb m d n,gst,gq,gt,[cl w.heap.size 46 #[.int .i64 0,.bool false,.int .u64 0,.int .u64 0,.slice none 0 0]]]));generalize World.drewN _ _=wq at HT ⊢;obtain ⟨k7,k8,k9,k10,k11⟩:=Ce5 (HT.out.cell 0 0 rfl) 7 8 9 10 11;simp only [Qo,GE3] at k7 k8 k9 k10 k11;obtain ⟨e0,e1,e2,e3,e4⟩:=Ce5 (HT.out.cell 5 0 rfl) 0 1 2 3 4;obtain ⟨fe0,fe1,fe2,fe3,fe4⟩:=Ce5 (HT.out.free 5 0 rfl) 0 1 2 3 4;simp only [GE4] at e0 e1 e2 e3 e4;go_wp2
 exact bodyPost_ret (v:=.tuple #[.agg (q1q k.err k.ok k.aid k.agen),.int .i64 0]) (by simp [results,results338,go_sem,e0,e1,e2,e3,e4,q1q]) rfl ⟨_,⟨rfl,rfl⟩,(((((((HT.out.set 5 0 rfl 0 _).set 5 0 rfl 1 _).set 5 0 rfl 2 _).set 5 0 rfl 3 _).set 5 0 rfl 4 _).pick [0,1,2,3,4] rfl).sum)⟩
theorem qvk (hc:Y9 L kb s n k g) (hn:s.isNil=false):Qa prog 338 #[Qb kb] [g] fun e gs =>
 e=.returned (.tuple #[.agg (q1q 0 false 0 0),.int .i64 10])∧gs=[g]:=by
 have hd:=qir hc;rw [hn] at hd;obtain ⟨pb,m,d,gst,gK,hs,⟨rv,tv,gq,gt,hr,ht,rfl⟩,rfl⟩:=hc;refine GO fun w HT=>?_
 have HT:=Vh (HT.out.sum (H':=[Cli.progB pb m d n++(gst++(Qp kb L.fb (Qb pb) rv tv k++(gq++gt)))]));have HD:=Vh hd;have lt:=(HT.out.sum (H':=[Qp kb L.fb (Qb pb) rv tv k,Cli.progB pb m d n,gst,gq,gt])).lt 0 0 rfl;have HT:=Vh (HT.out.alloc (k:=w.heap.size) rfl 46 #[.int .i64 0,.bool false,.int .u64 0,.int .u64 0,.slice none 0 0]);simp only [] at lt;clear hs hr ht hd hn;go_enter func338,ntmps338
 go_wp2_with fail
 refine (Qe.use (HD.out) (HT.out) [0] rfl rfl).mono ?_
 rintro e w1 ⟨rfl,mq,rfl⟩;have HT:=Vh (HT.out.drewN mq);have HT:=Vh (HT.out.sum (H':=[Qp kb L.fb (Qb pb) rv tv k,Cli.progB pb m d n,gst,gq,gt,[cl w.heap.size 46 #[.int .i64 0,.bool false,.int .u64 0,.int .u64 0,.slice none 0 0]]]));generalize World.drewN _ _=wq at HT ⊢;obtain ⟨k7,k8,k9,k10,k11⟩:=Ce5 (HT.out.cell 0 0 rfl) 7 8 9 10 11;simp only [Qo,GE3] at k7 k8 k9 k10 k11;obtain ⟨e0,e1,e2,e3,e4⟩:=Ce5 (HT.out.cell 5 0 rfl) 0 1 2 3 4;obtain ⟨fe0,fe1,fe2,fe3,fe4⟩:=Ce5 (HT.out.free 5 0 rfl) 0 1 2 3 4;simp only [GE4] at e0 e1 e2 e3 e4;go_wp2
 exact bodyPost_ret (v:=.tuple #[.agg (q1q 0 false 0 0),.int .i64 10]) (by simp [results,results338,go_sem,e0,e1,e2,e3,e4,q1q]) rfl ⟨_,⟨rfl,rfl⟩,(((((((HT.out.set 5 0 rfl 0 _).set 5 0 rfl 1 _).set 5 0 rfl 2 _).set 5 0 rfl 3 _).set 5 0 rfl 4 _).pick [0,1,2,3,4] rfl).sum)⟩
end
structure zr (N:Int) (r:Xw):Prop where
 n0:1≤r.slots.length
 n1:r.slots.length≤64
 t0:0≤r.tail
 t1:r.tail≤N
 h0:0≤r.head
 h1:r.head≤N
structure qfj (N:Int) (t:Jt):Prop where
 p0:0≤t.pos
 p1:t.pos≤N
 nx:t.next=0∨t.next=1∨t.next=2
 st:t.status=0∨t.status=1∨t.status=2
structure Zu (N:Nat) (x:Ql):Prop where
 slab:Zm x.slab
 i0:0≤x.f.inside
 i1:x.f.inside≤N
 tr:x.tr.length≤N
 sh:1≤x.shs.length
 ring:∀ s∈x.shs,zr N s.ring
structure Z6 (N:Nat) (k:Q7) (x:Ql):Prop where
 c0:0≤k.cdl∧k.cdl<18446744073709551616
 c1:0≤k.cper∧k.cper<18446744073709551616
 id:0≤k.id∧k.id<18446744073709551616
 slot:0≤k.slot
 saw:0≤k.saw∧k.saw<18446744073709551616∧okW k.saw=true
 rq:∀ q,k.rq=some q→qh8 x.slab.recs.length q
 tk:∀ i t,k.tk=some (i,t)→qfj N t∧i<x.shs.length
def q1s:SC→Q7→Prop
 | .nil,_=>True
 | .at none .right,_=>True
 | .at none .enter,_=>True
 | .at none .gate,_=>True
 | .at none .looks,_=>True
 | .at none .asks,k=>k.rq.isSome=true∧∀ q,k.rq=some q→q.st=0
 | .at none .queues,k=>k.tk.isSome=true
 | .at none .submits,k=>k.tk.isSome=true
 | .at none .fills,k=>k.tk.isSome=true
 | .at none .again,k=>k.tk.isSome=true
 | .at none .tries,k=>k.kind=3→k.tk.isSome=true
 | .row1 .ends1,_=>True
 | .thn (.row1 .leaves1) .ends,_=>True
 | .thn (.row2 .undo .drop) .leaves,_=>True
 | .thn (.row1 .drop) .leaves,_=>True
 | .thn (.row1 .again1) .leaves,k=>k.tk.isSome=true
 | .thn (.row2 .tries1 .drop) .ends,_=>True
 | .thn (.row1 .drop) .ends,_=>True
 | _,_=>False
theorem zr.mono {N M:Int} {r:Xw} (h:zr N r) (hm:N≤M):zr M r:=⟨h.n0,h.n1,h.t0,by have:=h.t1;omega,h.h0,by have:=h.h1;omega⟩
theorem zr.b {N:Int} {r:Xw} (h:zr N r) (hm:N≤1000000):ql r:=⟨h.n0,h.n1,h.t0,by have:=h.t1;omega,h.h0,by have:=h.h1;omega⟩
theorem qfj.mono {N M:Int} {t:Jt} (h:qfj N t) (hm:N≤M):qfj M t:=⟨h.p0,by have:=h.p1;omega,h.nx,h.st⟩
theorem qfj.b {N:Int} {t:Jt} (h:qfj N t) (hm:N≤1000000):qfa t:=⟨h.p0,by have:=h.p1;omega,h.nx,h.st⟩
theorem Zu.ok {N:Nat} {x:Ql} (h:Zu N x) (hN:N≤1000000):qz x :=
 ⟨h.slab,h.i0,by have:=h.i1;omega,by have:=h.tr;omega,h.sh,fun s hs=>(h.ring s hs).b (by omega)⟩
theorem Zu.mono {N M:Nat} {x:Ql} (h:Zu N x) (hm:N≤M):Zu M x :=
 ⟨h.slab,h.i0,by have:=h.i1;omega,by have:=h.tr;omega,h.sh,fun s hs=>(h.ring s hs).mono (by omega)⟩
theorem Zu.rings {N M:Nat} {x:Ql} (h:Zu N x) (hm:N≤M):∀ s∈x.shs,zr M s.ring:=fun s hs=>(h.ring s hs).mono (by omega)
theorem Z6.ok {N:Nat} {k:Q7} {x:Ql} (h:Z6 N k x) (hN:N≤1000000):qoo k x :=
 ⟨h.c0,h.c1,h.id,h.slot,h.saw,h.rq,fun i t ht=>⟨(h.tk i t ht).1.b (by omega),(h.tk i t ht).2⟩⟩
theorem Z6.mono {N M:Nat} {k:Q7} {x:Ql} (h:Z6 N k x) (hm:N≤M):Z6 M k x :=
 ⟨h.c0,h.c1,h.id,h.slot,h.saw,h.rq,fun i t ht=>⟨(h.tk i t ht).1.mono (by omega),(h.tk i t ht).2⟩⟩
theorem Z6.core {N:Nat} {k:Q7} {x x':Ql} (h:Z6 N k x) (h1:x'.slab.recs.length=x.slab.recs.length) (h2:x'.shs.length=x.shs.length):Z6 N k x' :=
 ⟨h.c0,h.c1,h.id,h.slot,h.saw,fun q hq=>by rw [h1];exact h.rq q hq,fun i t ht=>⟨(h.tk i t ht).1,by rw [h2];exact (h.tk i t ht).2⟩⟩
theorem q0h {N:Int} {r:Xw} {t:Jt} (hr:zr N r) (ht:qfj N t):qfj N (stepT r t).2∧zr (N+1) (stepT r t).1:=by
 have h1:=hr.t0;have h2:=hr.t1;have ho:zr (N+1) r:=hr.mono (by omega);unfold stepT qrh qe3 qhp;split
 ·exact ⟨ht,ho⟩
 ·split
  ·exact ⟨⟨h1,h2,.inr (.inl rfl),ht.st⟩,ho⟩
  ·split
   ·split
    ·exact ⟨⟨ht.p0,ht.p1,.inl rfl,ht.st⟩,ho⟩
    ·split
     ·exact ⟨⟨ht.p0,ht.p1,ht.nx,.inr (.inl rfl)⟩,ho⟩
     ·exact ⟨⟨ht.p0,ht.p1,.inr (.inr rfl),ht.st⟩,ho⟩
   ·split
    ·exact ⟨⟨ht.p0,ht.p1,.inl rfl,.inr (.inr rfl)⟩,⟨hr.n0,hr.n1,by have:=ht.p0;simp only;omega,by have:=ht.p1;simp only;omega,hr.h0,by have:=hr.h1;simp only;omega⟩⟩
    ·exact ⟨⟨ht.p0,ht.p1,.inl rfl,ht.st⟩,ho⟩
theorem qy4 {N:Int} {r:Xw} {t:Jt} (v:Qq) (hr:zr N r) (ht:qfj N t):qfj N (Yd r t v).2.1∧zr N (Yd r t v).1:=by
 unfold Yd;split
 ·exact ⟨⟨ht.p0,ht.p1,ht.nx,ht.st⟩,⟨by simp only [List.length_set];exact hr.n0,by simp only [List.length_set];exact hr.n1,hr.t0,hr.t1,hr.h0,hr.h1⟩⟩
 ·exact ⟨ht,hr⟩
theorem qhj {N:Int} {l:List Xc} {i:Nat} {s:Xc} (h:∀ s∈l,zr N s.ring) (hs:zr N s.ring):∀ a∈l.set i s,zr N a.ring:=by
 intro a ha;rcases List.mem_or_eq_of_mem_set ha with h1 | h1
 ·exact h a h1
 ·exact h1 ▸ hs
section
variable {N:Nat} {k:Q7} {x:Ql}
theorem q6 (h:Zu N x) (E:EvS):Zu (N+1) (qig k E x) :=
 ⟨h.slab,h.i0,by have:=h.i1;show x.f.inside≤_;omega,by have:=h.tr;show (x.tr++[_]).length≤_;rw [List.length_append];simp;omega,h.sh,h.rings (by omega)⟩
theorem qo (h:Zu N x) {s:Qm} (hs:Zm s):Zu N { x with slab:=s }:=⟨hs,h.i0,h.i1,h.tr,h.sh,h.ring⟩
theorem Ju (hc:Zu N x) (hk:Z6 N k x) (e:Int):Zu (N+1) (Qn e (k,x)).2∧Z6 (N+1) (Qn e (k,x)).1 (Qn e (k,x)).2 :=
 ⟨q6 hc _,((⟨hk.c0,hk.c1,hk.id,hk.slot,hk.saw,hk.rq,hk.tk⟩:Z6 N (qk e k) x).mono (M:=N+1) (by omega)).core rfl rfl⟩
theorem qlx (hc:Zu N x) (hk:Z6 N k x) (ev:Int):Zu N (Y6 ev (k,x)).2∧Z6 N (Y6 ev (k,x)).1 (Y6 ev (k,x)).2:=by
 obtain ⟨h1,h2⟩:=qb6 hc.slab k.slot (x.slab.word k.slot) ev;exact ⟨qo hc h1,(⟨hk.c0,hk.c1,hk.id,hk.slot,hk.saw,hk.rq,hk.tk⟩:Z6 N (qdr ev k x.slab) x).core h2 rfl⟩
theorem qyg (hc:Zu N x) (hk:Z6 N k x) (v:Qq):Zu N (qab v (k,x)).2∧Z6 N (qab v (k,x)).1 (qab v (k,x)).2:=by
 unfold qab;simp only;split
 ·exact ⟨hc,hk⟩
 ·rename_i i t ht
  split
  ·exact ⟨hc,hk⟩
  ·rename_i s hs
   obtain ⟨htn,hi⟩:=hk.tk i t ht;have hrn:=hc.ring s (List.mem_of_getElem? hs);obtain ⟨a,b⟩:=qy4 v hrn htn;refine ⟨⟨hc.slab,hc.i0,hc.i1,hc.tr,by simpa using hc.sh,qhj hc.ring b⟩,⟨hk.c0,hk.c1,hk.id,hk.slot,hk.saw,hk.rq,fun i' t' h'=>?_⟩⟩
   cases h'
   exact ⟨a,by simpa using hi⟩
theorem qy8 (hc:Zu N x) (hk:Z6 N k x) (a:AC):Zu (N+1) (runA a (k,x)).2∧Z6 (N+1) (runA a (k,x)).1 (runA a (k,x)).2:=by
 cases a with
 | ends1=>exact ⟨q6 hc _,(hk.mono (M:=N+1) (by omega)).core rfl rfl⟩
 | leaves1 =>
   have h1:0≤Ja x.f.inside∧Ja x.f.inside≤N:=by have:=hc.i0;have:=hc.i1;unfold Ja;split <;> omega
   exact ⟨⟨hc.slab,h1.1,by have:=h1.2;show Ja x.f.inside≤_;omega,by have:=hc.tr;show x.tr.length≤_;omega,hc.sh,hc.rings (by omega)⟩,(hk.mono (M:=N+1) (by omega)).core rfl rfl⟩
 | undo =>
   obtain ⟨h1,h2⟩:=qlx hc hk 9;exact Ju h1 h2 2
 | drop =>
   obtain ⟨h1,h2⟩:=qin hc.slab;exact ⟨(qo hc h1).mono (M:=N+1) (by omega),(hk.mono (M:=N+1) (by omega)).core h2 rfl⟩
 | tries1 =>
   obtain ⟨h1,h2⟩:=qlx hc hk 10;exact ⟨h1.mono (M:=N+1) (by omega),h2.mono (M:=N+1) (by omega)⟩
 | again1 =>
   obtain ⟨h1,h2⟩:=qyg hc hk { Qq.zero with slot:=-1 };exact ⟨h1.mono (M:=N+1) (by omega),h2.mono (M:=N+1) (by omega)⟩
structure JC (N:Nat) (s:SC) (z:ZC):Prop where
 core:Zu N z.2
 work:Z6 N z.1 z.2
 fit:q1s s z.1
theorem JC.pre {s:SC} {z:ZC} (h:JC N s z) (hN:N<1000000):preC s z:=by
 obtain ⟨k,x⟩:=z;obtain ⟨hc,hk,hf⟩:=h;simp only at hc hk hf;have ho:=hc.ok (by omega);have hw:=hk.ok (by omega);have hact:∀ a,qz (runA a (k,x)).2∧qoo (runA a (k,x)).1 (runA a (k,x)).2:=fun a=>⟨(qy8 hc hk a).1.ok (by omega),(qy8 hc hk a).2.ok (by omega)⟩
 match s,hf with
 | .nil,_=>trivial
 | .at none .right,_=>exact ⟨ho,hw,trivial⟩
 | .at none .enter,_=>exact ⟨ho,hw,trivial⟩
 | .at none .gate,_=>exact ⟨ho,hw,trivial⟩
 | .at none .looks,_=>exact ⟨ho,hw,trivial⟩
 | .at none .asks,hf=>exact ⟨ho,hw,hf⟩
 | .at none .queues,hf=>exact ⟨ho,hw,hf⟩
 | .at none .submits,_=>exact ⟨ho,hw,trivial⟩
 | .at none .fills,hf=>exact ⟨ho,hw,hf⟩
 | .at none .again,_=>exact ⟨ho,hw,trivial⟩
 | .at none .tries,_=>exact ⟨ho,hw,trivial⟩
 | .row1 .ends1,_=>exact ⟨ho,hw,trivial⟩
 | .thn (.row1 .leaves1) .ends,_=>exact ⟨⟨ho,hw,trivial⟩,fun _=>⟨(hact .leaves1).1,(hact .leaves1).2,trivial⟩⟩
 | .thn (.row2 .undo .drop) .leaves,_=>exact ⟨⟨ho,hw,trivial⟩,fun h=>by cases h⟩
 | .thn (.row1 .drop) .leaves,_=>exact ⟨⟨ho,hw,trivial⟩,fun _=>⟨(hact .drop).1,(hact .drop).2,trivial⟩⟩
 | .thn (.row1 .again1) .leaves,hf=>exact ⟨⟨ho,hw,hf⟩,fun _=>⟨(hact .again1).1,(hact .again1).2,trivial⟩⟩
 | .thn (.row2 .tries1 .drop) .ends,_=>exact ⟨⟨ho,hw,trivial⟩,fun h=>by cases h⟩
 | .thn (.row1 .drop) .ends,_=>exact ⟨⟨ho,hw,trivial⟩,fun _=>⟨(hact .drop).1,(hact .drop).2,trivial⟩⟩
theorem qe9 (k k2:Q7):q1s (Yg k) k2:=by
 unfold Yg J4;split <;> trivial
theorem qvl {s:Qm} {q:Req} (h:q.st=0):(Zv s q).2.st=0∨(Zv s q).2.st=1∨(Zv s q).2.st=2:=by
 unfold Zv;rw [if_neg (by omega)];split
 ·unfold qjc;split <;> simp [h]
 ·split
  ·unfold qhu;split <;> simp [h]
  ·unfold qel;simp only;split <;> simp [h]
theorem qx7 (hc:Zu N x) (hk:Z6 N k x):Z6 N (lookW k x.slab).1 x:=by
 have hs:0≤x.slab.slot k.id:=by have:=hk.id.1;unfold Qm.slot;split <;> omega
 have hw:=J7 hc.slab (x.slab.slot k.id);unfold lookW;split
 ·exact hk
 ·split
  ·exact ⟨hk.c0,hk.c1,hk.id,hs,hw,hk.rq,hk.tk⟩
  ·exact ⟨hk.c0,hk.c1,hk.id,hs,hw,hk.rq,hk.tk⟩
theorem qy1 (hc:Zu N x) {slot:Int} (h:0≤slot):qi slot x<x.shs.length:=by
 have hn:=hc.sh;have a:0≤slot % (x.shs.length:Int):=Int.emod_nonneg _ (by omega);have b:slot % (x.shs.length:Int)<x.shs.length:=Int.emod_lt_of_pos _ (by omega);unfold qi;omega
theorem qkp:qfj N X3:=⟨by decide,by show (0:Int)≤N;omega,.inl rfl,.inl rfl⟩
theorem q3o (hc:Zu N x) (hk:Z6 N k x) (m:MC) (hf:q1s (.at none m) k):JC (N+1) (qbj m (k,x)).1 (qbj m (k,x)).2:=by
 have hc':=hc.mono (M:=N+1) (by omega);have hk':=hk.mono (M:=N+1) (by omega);have hre:∀ e s,q1s s (qk e k)→JC (N+1) s (Qn e (k,x)):=fun e s hs=>⟨(Ju hc hk e).1,(Ju hc hk e).2,hs⟩
 cases m with
 | ends=>exact hf.elim
 | leaves=>exact hf.elim
 | right =>
   show JC (N+1) (if qx0 k then _ else _:SC × ZC).1 (if qx0 k then _ else _:SC × ZC).2
   split
   ·exact hre 1 _ trivial
   ·exact ⟨hc',hk',trivial⟩
 | enter=>exact ⟨⟨hc.slab,by have:=hc.i0;show 0≤x.f.inside+1;omega,by have:=hc.i1;show x.f.inside+1≤_;omega,hc'.tr,hc.sh,hc'.ring⟩,hk'.core rfl rfl,trivial⟩
 | gate =>
   show JC (N+1) (if x.f.closed=true then _ else _:SC × ZC).1 (if x.f.closed=true then _ else _:SC × ZC).2
   split
   ·exact hre 3 _ (qe9 _ _)
   ·split
    ·refine ⟨hc',⟨hk'.c0,hk'.c1,hk'.id,hk'.slot,hk'.saw,fun q hq=>?_,hk'.tk⟩,rfl,fun q hq=>?_⟩
     ·cases hq
      have h1:=hk.c1;have h2:=hc.slab.n0;refine ⟨?_,?_,by simp,by simp;omega,.inl rfl⟩
      ·show 0≤k.period;unfold Q7.period;split <;> omega
      ·show k.period < _;unfold Q7.period;split <;> omega
     ·cases hq;rfl
    ·exact ⟨hc',hk',trivial⟩
 | asks =>
   obtain ⟨hr,hq0⟩:=hf;obtain ⟨q,hq⟩:=Option.isSome_iff_exists.1 hr;have hE:qbj .asks (k,x)=qem (k,x) q:=by show (match k.rq with | none=>_ | some q=>_)=_;rw [hq]
   rw [hE];have hst:=hq0 q hq;obtain ⟨h1,h2,h3⟩:=qnq hc.slab (hk.rq q hq);have hid:=qn8 hc.slab (hk.rq q hq) hst;have h4:=qvl (s:=x.slab) hst;unfold qem;simp only;generalize Zv x.slab q=r at *;have cx:Zu N { x with slab:=r.1 }:=qo hc h1;have wk:Z6 N { k with rq:=some r.2 } { x with slab:=r.1 }:=⟨hk.c0,hk.c1,hk.id,hk.slot,hk.saw,fun q' h'=>by cases h';show qh8 r.1.recs.length r.2;rw [h3];exact h2,hk.tk⟩;split
   ·exact ⟨(Ju cx wk 2).1,(Ju cx wk 2).2,trivial⟩
   ·split
    ·next h5 =>
     obtain ⟨i0,i1⟩:=hid h5;refine ⟨cx.mono (M:=N+1) (by omega),⟨wk.c0,wk.c1,⟨i0,i1⟩,by show 0≤r.2.id % 64;omega,wk.saw,wk.rq,fun i t ht=>?_⟩,rfl⟩
     cases ht
     exact ⟨qkp,qy1 hc (by omega)⟩
    ·next h6 h5 =>
     exact ⟨cx.mono (M:=N+1) (by omega),wk.mono (M:=N+1) (by omega),rfl,fun q' h'=>by cases h';omega⟩
 | queues =>
   obtain ⟨⟨i,t⟩,htk⟩:=Option.isSome_iff_exists.1 hf;obtain ⟨htn,hi⟩:=hk.tk i t htk;obtain ⟨s,hs⟩:∃ s,x.shs[i]?=some s:=⟨_,List.getElem?_eq_getElem hi⟩
   have hE:qbj .queues (k,x)=Jk (k,x) i t s:=by
    show (match k.tk with | none=>_ | some (i,t)=>_)=_
    rw [htk]
    show (match x.shs[i]? with | none=>_ | some s=>_)=_
    rw [hs]
   rw [hE];obtain ⟨a,b⟩:=q0h (hc.ring s (List.mem_of_getElem? hs)) htn;unfold Jk;simp only;generalize stepT s.ring t=r at *;have cx:Zu (N+1) { x with shs:=x.shs.set i { s with ring:=r.1 } }:=⟨hc.slab,hc'.i0,hc'.i1,hc'.tr,by simpa using hc.sh,qhj hc'.ring (by simpa using b)⟩;have wk:Z6 (N+1) { k with tk:=some (i,r.2) } { x with shs:=x.shs.set i { s with ring:=r.1 } }:=⟨hk.c0,hk.c1,hk.id,hk.slot,hk.saw,hk.rq,fun i' t' h'=>by cases h';exact ⟨a.mono (by omega),by simpa using hi⟩⟩;split
   ·exact ⟨cx,wk,rfl⟩
   ·split
    ·refine ⟨⟨cx.slab,cx.i0,cx.i1,?_,cx.sh,cx.ring⟩,(⟨wk.c0,wk.c1,wk.id,wk.slot,wk.saw,wk.rq,wk.tk⟩:Z6 (N+1) (qk 2 { k with tk:=some (i,r.2) }) { x with shs:=x.shs.set i { s with ring:=r.1 } }).core rfl rfl,trivial⟩
     have:=hc.tr
     show (x.tr++[_]).length≤_
     rw [List.length_append];simp;omega
    ·split
     ·exact ⟨cx,wk,trivial⟩
     ·split
      ·exact ⟨cx,wk,rfl⟩
      ·exact ⟨cx,wk,rfl⟩
 | submits =>
   obtain ⟨h1,h2⟩:=qlx hc hk 2;exact ⟨q6 h1 _,(h2.mono (M:=N+1) (by omega)).core rfl rfl,hf⟩
 | fills =>
   obtain ⟨h1,h2⟩:=qyg hc hk (qcj (k,x));refine ⟨h1.mono (M:=N+1) (by omega),?_,trivial⟩
   have h3:=h2.mono (M:=N+1) (by omega);exact ⟨h3.c0,h3.c1,h3.id,h3.slot,h3.saw,h3.rq,h3.tk⟩
 | looks =>
   have wk:=qx7 hc hk;obtain ⟨e1,e2,e3,e4⟩:=qa4 k x.slab hk.slot hk.id.1
   show JC (N+1) (if (lookW k x.slab).2=0 then _ else _:SC × ZC).1 (if (lookW k x.slab).2=0 then _ else _:SC × ZC).2
   split
   ·show JC (N+1) (if k.kind=3 then _ else _:SC × ZC).1 (if k.kind=3 then _ else _:SC × ZC).2
    split
    ·refine ⟨hc',⟨wk.c0,wk.c1,wk.id,wk.slot,wk.saw,wk.rq,fun i t ht=>?_⟩,rfl⟩
     cases ht
     exact ⟨qkp,qy1 hc e4⟩
    ·next h3=>exact ⟨hc',wk.mono (M:=N+1) (by omega),fun h=>absurd (e1.symm.trans h) h3⟩
   ·show JC (N+1) (if (lookW k x.slab).2=1 then _ else _:SC × ZC).1 (if (lookW k x.slab).2=1 then _ else _:SC × ZC).2
    split
    ·exact ⟨(Ju hc wk 1).1,(Ju hc wk 1).2,qe9 _ _⟩
    ·exact ⟨(Ju hc wk 0).1,(Ju hc wk 0).2,qe9 _ _⟩
 | again =>
   have wk:=qx7 hc hk;obtain ⟨e1,e2,e3,e4⟩:=qa4 k x.slab hk.slot hk.id.1;have hf':(lookW k x.slab).1.tk.isSome=true:=by rw [e3];exact hf
   show JC (N+1) (if (lookW k x.slab).2=0 then _ else _:SC × ZC).1 (if (lookW k x.slab).2=0 then _ else _:SC × ZC).2
   split
   ·exact ⟨hc',wk.mono (M:=N+1) (by omega),fun _=>hf'⟩
   ·exact ⟨(Ju hc wk 0).1,(Ju hc wk 0).2,hf'⟩
 | tries =>
   obtain ⟨h1,h2⟩:=qb6 hc.slab k.slot k.saw k.event;have cx:Zu N (qdt (k,x)).1.2:=qo hc h1;have wk:Z6 N (qdt (k,x)).1.1 (qdt (k,x)).1.2:=(⟨hk.c0,hk.c1,hk.id,hk.slot,hk.saw,hk.rq,hk.tk⟩:Z6 N (qdt (k,x)).1.1 x).core h2 rfl;have wo:Z6 N (okC (qdt (k,x)).1.1) (qdt (k,x)).1.2:=⟨wk.c0,wk.c1,wk.id,wk.slot,wk.saw,wk.rq,wk.tk⟩
   show JC (N+1) (if (qdt (k,x)).2≠0 then _ else _:SC × ZC).1 (if (qdt (k,x)).2≠0 then _ else _:SC × ZC).2
   split
   ·show JC (N+1) (if k.kind=3 then _ else _:SC × ZC).1 (if k.kind=3 then _ else _:SC × ZC).2
    split
    ·next h3=>exact ⟨cx.mono (M:=N+1) (by omega),wk.mono (M:=N+1) (by omega),hf h3⟩
    ·exact ⟨cx.mono (M:=N+1) (by omega),wk.mono (M:=N+1) (by omega),trivial⟩
   ·show JC (N+1) (if k.kind=3 then _ else _:SC × ZC).1 (if k.kind=3 then _ else _:SC × ZC).2
    split
    ·next h3=>exact ⟨q6 cx _,(wo.mono (M:=N+1) (by omega)).core rfl rfl,hf h3⟩
    ·show JC (N+1) (if k.kind=5 then _ else _:SC × ZC).1 (if k.kind=5 then _ else _:SC × ZC).2
     split
     ·exact ⟨q6 cx _,(wo.mono (M:=N+1) (by omega)).core rfl rfl,trivial⟩
     ·exact ⟨q6 cx _,(wo.mono (M:=N+1) (by omega)).core rfl rfl,trivial⟩
theorem JC.step {s:SC} {z:ZC} (h:JC N s z):JC (N+1) (qbt s z).1 (qbt s z).2:=by
 obtain ⟨k,x⟩:=z;obtain ⟨hc,hk,hf⟩:=h;simp only at hc hk hf;have ha:=fun a=>qy8 hc hk a
 match s,hf with
 | .nil,_=>exact ⟨hc.mono (M:=N+1) (by omega),hk.mono (M:=N+1) (by omega),trivial⟩
 | .at none m,hf=>exact q3o hc hk m hf
 | .row1 .ends1,_=>exact ⟨(ha .ends1).1,(ha .ends1).2,trivial⟩
 | .thn (.row1 .leaves1) .ends,_=>exact ⟨(ha .leaves1).1,(ha .leaves1).2,trivial⟩
 | .thn (.row2 .undo .drop) .leaves,_=>exact ⟨(ha .undo).1,(ha .undo).2,trivial⟩
 | .thn (.row1 .drop) .leaves,_=>exact ⟨(ha .drop).1,(ha .drop).2,trivial⟩
 | .thn (.row1 .again1) .leaves,_=>exact ⟨(ha .again1).1,(ha .again1).2,trivial⟩
 | .thn (.row2 .tries1 .drop) .ends,_=>exact ⟨(ha .tries1).1,(ha .tries1).2,trivial⟩
 | .thn (.row1 .drop) .ends,_=>exact ⟨(ha .drop).1,(ha .drop).2,trivial⟩
end
end
end Go.Proofs.YtikpbibeagbccaaGreat
