import Derived.Test.YtblhfbcodbjgcaaGreatSV31
import Derived.Test.YtblhfbcodbjgcaaGreatSV24
import Derived.Test.YtblhfbcodbjgcaaGreatSV23
import Derived.Test.YtblhfbcodbjgcaaGreatSV13
import Derived.Test.YtblhfbcodbjgcaaGreatSV15
import Derived.Test.YtblhfbcodbjgcaaGreatSV27
import Derived.Deep.LoopGhost
import Derived.Conc.LoneCalls
namespace Go.Proofs.YtblhfbcodbjgcaaGreat
set_option linter.unusedVariables false
set_option linter.unusedSimpArgs false
section
open Go.RowKit Go.Shelf
section
variable {L:Lay} {x:CoreS} {ws:List WheelS} {p:PipeS} {e:ET} {g gC gK gF:List Blk} {kb:Nat} {pv sv:Value} {k:TurnS}
set_option maxRecDepth 100000 in
theorem aLeave1 (hz:repT L kb pv e ⟨k,x,ws,p⟩ gK gF) (hp:preAT .leave1 ⟨k,x,ws,p⟩) (bk:Nat) (hb:kBox kb bk e) :
 DoesG Tryz.prog 240 #[ptr' bk] [gK,gF] (ART L kb pv e (runAT .leave1 ⟨k,x,ws,p⟩)):=by
 have hi0:=hp.1.core.i0
 have hi1:=hp.1.core.i1
 simp only at hi0 hi1
 clear hp
 simp only [runAT]
 obtain ⟨gd,gC,gW,gP,hd,hx,hw,hpp,rfl,rfl⟩:=hz
 intro w hw
 have T0:=TG.refl hw
 have HT:=Lib.hid T0
 clear hw T0
 have HT:=Lib.hid (HT.out.sum (H':=[turnB kb L.fb pv (sVal L k) k,gd,e.1,gC,gW,gP]))
 have HX:=Lib.hid hx
 have HD:=Lib.hid hd
 have HW:=Lib.hid hw
 have HPP:=Lib.hid hpp
 clear hx hd hw hpp
 have HLV:=Lib.hid (coreLeave HX.out ⟨hi0,hi1⟩)
 clear hi0 hi1
 have HB:=Lib.hid (show cl bk 56 #[ptr' kb]∈e.1 from hb)
 clear hb
 have b0:=HT.out.mem_cell 2 HB.out 0
 have ltb:=HT.out.mem_lt 2 HB.out
 simp only [GE2] at b0 ltb
 have k0:=HT.out.cell 0 0 rfl 0
 simp only [turnC,GE3] at k0
 go_enter Tryz.func240,Tryz.ntmps240
 go_wp2_with fail
 refine (DoesG.use (HLV.out) (HT.out) [3] rfl rfl).mono ?_
 rintro e w1 ⟨gs,⟨rfl,g2,hx2,rfl⟩,Ta⟩
 simp only [PU] at Ta
 have HX:=Lib.hid hx2
 clear hx2
 have HT:=Lib.hid Ta
 clear Ta
 go_wp2
 exact bodyPost_end (results_none rfl _ _ _) rfl ⟨_,ART.of ⟨e,leT.refl e,_,_,rfl,⟨gd,_,gW,gP,HD.out,HX.out,HW.out,HPP.out,rfl,rfl⟩,rfl⟩,HT.out.sum2⟩
set_option maxRecDepth 100000 in
theorem aAnswer (hz:repT L kb pv e ⟨k,x,ws,p⟩ gK gF) (hp:preAT .answer ⟨k,x,ws,p⟩) (bk:Nat) (hb:kBox kb bk e) :
 DoesG Tryz.prog 241 #[ptr' bk] [gK,gF] (ART L kb pv e (runAT .answer ⟨k,x,ws,p⟩)):=by
 have HTR:=Lib.hid (show x.tr.length≤1000000 from hp.1.core.tr)
 clear hp
 rw [show runAT .answer ⟨k,x,ws,p⟩=⟨k,{ x with tr:=x.tr++[evT k { ev0 with kind:=2,err:=k.err }] },ws,p⟩ from rfl]
 obtain ⟨gd,gC,gW,gP,hd,hx,hw,hpp,rfl,rfl⟩:=hz
 intro w hw
 have T0:=TG.refl hw
 have HT:=Lib.hid T0
 clear hw T0
 have HT:=Lib.hid (HT.out.sum (H':=[turnB kb L.fb pv (sVal L k) k,gd,e.1,gC,gW,gP]))
 have HX:=Lib.hid hx
 have HD:=Lib.hid hd
 have HW:=Lib.hid hw
 have HPP:=Lib.hid hpp
 clear hx hd hw hpp
 have hnt:=turnNote (kb:=kb) (pv:=pv) (sv:=sVal L k) (k:=k) HX.out { ev0 with kind:=2,err:=k.err } HTR.out
 simp only [EvS.cells,ev0] at hnt
 have HNT:=Lib.hid hnt
 clear hnt HTR
 have HB:=Lib.hid (show cl bk 56 #[ptr' kb]∈e.1 from hb)
 clear hb
 have b0:=HT.out.mem_cell 2 HB.out 0
 have ltb:=HT.out.mem_lt 2 HB.out
 simp only [GE2] at b0 ltb
 have k3:=HT.out.cell 0 0 rfl 3
 simp only [turnC,GE3] at k3
 go_enter Tryz.func241,Tryz.ntmps241
 go_wp2_with fail
 refine wp_region_mix1 7 (by kernel_rfl) (by kernel_rfl) ?_
 simp only [TD4]
 repeat (go_big_quiet_step ((fail)))
 refine wpQuiet_nil ?_
 intro _ hw'
 obtain ⟨nq,hw''⟩:=hw'
 subst hw''
 have HT:=Lib.hid (HT.out.drewN nq)
 go_wp2_with fail
 refine (DoesG.use (HNT.out) (HT.out) [0,3] rfl rfl).mono ?_
 rintro e w1 ⟨gs,⟨rfl,g2,hx2,rfl⟩,Ta⟩
 simp only [PU] at Ta
 have HX:=Lib.hid hx2
 clear hx2
 have HT:=Lib.hid Ta
 clear Ta
 go_wp2_with fail
 refine ⟨rfl,?_⟩
 go_wp2
 exact bodyPost_end (results_none rfl _ _ _) rfl ⟨_,ART.of ⟨e,leT.refl e,_,_,rfl,⟨gd,_,gW,gP,HD.out,HX.out,HW.out,HPP.out,rfl,rfl⟩,rfl⟩,HT.out.sum2⟩
set_option maxRecDepth 100000 in
theorem aDropT (hz:repT L kb pv e ⟨k,x,ws,p⟩ gK gF) (hp:preAT .drop ⟨k,x,ws,p⟩) (bk:Nat) (hb:kBox kb bk e) :
 DoesG Tryz.prog 343 #[ptr' bk] [gK,gF] (ART L kb pv e (runAT .drop ⟨k,x,ws,p⟩)):=by
 have hcore:CoreOk x:=hp.1.core
 clear hp
 simp only [runAT]
 obtain ⟨gd,gC,gW,gP,hd,hx,hw,hpp,rfl,rfl⟩:=hz
 intro w hw
 have T0:=TG.refl hw
 have HT:=Lib.hid T0
 clear hw T0
 have HT:=Lib.hid (HT.out.sum (H':=[turnB kb L.fb pv (sVal L k) k,gd,e.1,gC,gW,gP]))
 have HX:=Lib.hid hx
 have HD:=Lib.hid hd
 have HW:=Lib.hid hw
 have HPP:=Lib.hid hpp
 clear hx hd hw hpp
 have HDR:=Lib.hid (fun (g:List Blk) (hx:isCore L x g)=>coreDrop hx hcore.slab.c0 (by have:=hcore.slab.c1;have:=hcore.slab.n1;omega))
 clear hcore
 have HB:=Lib.hid (show cl bk 56 #[ptr' kb]∈e.1 from hb)
 clear hb
 have b0:=HT.out.mem_cell 2 HB.out 0
 have ltb:=HT.out.mem_lt 2 HB.out
 simp only [GE2] at b0 ltb
 have k0:=HT.out.cell 0 0 rfl 0
 simp only [turnC,GE3] at k0
 go_enter Tryz.func343,Tryz.ntmps343
 go_wp2_with fail
 refine (ReadsG.use (coreSlab_r HX.out) (HT.out) [3] rfl rfl).mono ?_
 rintro e w1 ⟨rfl,mq,rfl⟩
 have HT:=Lib.hid (HT.out.drewN mq)
 generalize World.drewN _ _=wq at HT ⊢
 go_wp2_with fail
 refine (DoesG.use (HDR.out _ HX.out) (HT.out) [3] rfl rfl).mono ?_
 rintro e w1 ⟨gs,⟨rfl,g2,hx2,rfl⟩,Ta⟩
 simp only [PU] at Ta
 have HX:=Lib.hid hx2
 clear hx2
 have HT:=Lib.hid Ta
 clear Ta
 go_wp2
 exact bodyPost_end (results_none rfl _ _ _) rfl ⟨_,ART.of ⟨e,leT.refl e,_,_,rfl,⟨gd,_,gW,gP,HD.out,HX.out,HW.out,HPP.out,rfl,rfl⟩,rfl⟩,HT.out.sum2⟩
set_option maxRecDepth 100000 in
set_option maxHeartbeats 4000000 in
theorem aPut (f:FireS) (hz:repT L kb pv e ⟨k,x,ws,p⟩ gK gF) (hp:preAT (.put f) ⟨k,x,ws,p⟩) (bk bf:Nat) (hb:kBox kb bk e) (hbf:cl bf 69 f.vals.toArray∈e.1) :
 DoesG Tryz.prog 322 #[ptr' bk,ptr' bf] [gK,gF] (ART L kb pv e (runAT (.put f) ⟨k,x,ws,p⟩)):=by
 have hpo:PipeOk p:=hp.1.pipe
 clear hp
 simp only [runAT]
 obtain ⟨gd,gC,gW,gP,hd,hx,hw,hpp,rfl,rfl⟩:=hz
 intro w hw
 have T0:=TG.refl hw
 have HT:=Lib.hid T0
 clear hw T0
 have HT:=Lib.hid (HT.out.sum (H':=[turnB kb L.fb pv (sVal L k) k,gd,e.1,gC,gW,gP]))
 have HX:=Lib.hid hx
 have HD:=Lib.hid hd
 have HW:=Lib.hid hw
 have HPP:=Lib.hid hpp
 clear hx hd hw hpp
 have hput:=pipePut_g HPP.out f hpo.sp
 simp only [FireS.vals] at hput hbf
 have HPU:=Lib.hid hput
 clear hput hpo
 have f0:=HT.out.mem_cell 2 hbf 0
 have f1:=HT.out.mem_cell 2 hbf 1
 have f2:=HT.out.mem_cell 2 hbf 2
 have f3:=HT.out.mem_cell 2 hbf 3
 have ltf:=HT.out.mem_lt 2 hbf
 simp only [GE3] at f0 f1 f2 f3 ltf
 clear hbf
 have HB:=Lib.hid (show cl bk 56 #[ptr' kb]∈e.1 from hb)
 clear hb
 have b0:=HT.out.mem_cell 2 HB.out 0
 have ltb:=HT.out.mem_lt 2 HB.out
 simp only [GE2] at b0 ltb
 have k0:=HT.out.cell 0 0 rfl 0
 simp only [turnC,GE3] at k0
 go_enter Tryz.func322,Tryz.ntmps322
 go_wp2_with fail
 refine wp_region_mix1 6 (by kernel_rfl) (by kernel_rfl) ?_
 simp only [TD4]
 repeat (go_big_quiet_step ((first | (go_at_call 40;with_reducible exact ReadsG.quiet (corePipe_r HX.out) HT.out _ [3] rfl rfl))))
 refine wpQuiet_nil ?_
 intro _ hw'
 obtain ⟨nq,hw''⟩:=hw'
 subst hw''
 have HT:=Lib.hid (HT.out.drewN nq)
 go_wp2_with fail
 refine (DoesG.use (HPU.out) (HT.out) [5] rfl rfl).mono ?_
 rintro e w1 ⟨gs,⟨rfl,g2,hp2,rfl⟩,Ta⟩
 simp only [PU] at Ta
 have HPP:=Lib.hid hp2
 clear hp2
 have HT:=Lib.hid Ta
 clear Ta
 go_wp2_with fail
 refine ⟨rfl,?_⟩
 go_wp2
 exact bodyPost_end (results_none rfl _ _ _) rfl ⟨_,ART.of ⟨e,leT.refl e,_,_,rfl,⟨gd,_,gW,_,HD.out,HX.out,HW.out,HPP.out,rfl,rfl⟩,rfl⟩,HT.out.sum2⟩
set_option maxRecDepth 100000 in
set_option maxHeartbeats 4000000 in
theorem aRelT (hz:repT L kb pv e ⟨k,x,ws,p⟩ gK gF) (hp:preAT .rel ⟨k,x,ws,p⟩) (bk:Nat) (hb:kBox kb bk e) :
 DoesG Tryz.prog 342 #[ptr' bk] [gK,gF] (ART L kb pv e (runAT .rel ⟨k,x,ws,p⟩)):=by
 have hok:CoreOk x:=hp.1.core
 obtain ⟨w0,w1,w2⟩:=word_bd hok.slab k.t.slot
 simp only [runAT]
 have HY:=Lib.hid (show ∀ g',isCore L x g'→_ from fun g' hx'=>coreTry (g:=g') hx' hok.slab.n1 k.t.slot (x.slab.word k.t.slot) 10 w0 w1)
 have HWD:=Lib.hid (show ∀ g',isCore L x g'→_ from fun g' hx'=>coreWord (g:=g') hx' hok.slab.n1 k.t.slot)
 clear w0 w1 w2 hok hp
 obtain ⟨gd,gC,gW,gP,hd,hx,hw,hpp,rfl,rfl⟩:=hz
 intro w hw
 have T0:=TG.refl hw
 have HT:=Lib.hid T0
 clear hw T0
 have HT:=Lib.hid (HT.out.sum (H':=[turnB kb L.fb pv (sVal L k) k,gd,e.1,gC,gW,gP]))
 have HX:=Lib.hid hx
 have HD:=Lib.hid hd
 have HW:=Lib.hid hw
 have HPP:=Lib.hid hpp
 clear hx hd hw hpp
 have HB:=Lib.hid (show cl bk 56 #[ptr' kb]∈e.1 from hb)
 clear hb
 have b0:=HT.out.mem_cell 2 HB.out 0
 have ltb:=HT.out.mem_lt 2 HB.out
 simp only [GE2] at b0 ltb
 have k0:=HT.out.cell 0 0 rfl 0
 have k12:=HT.out.cell 0 0 rfl 12
 simp only [turnC,GE3] at k0 k12
 go_enter Tryz.func342,Tryz.ntmps342
 go_wp2_with fail
 refine wp_region_mix1 10 (by kernel_rfl) (by kernel_rfl) ?_
 simp only [TD4]
 repeat (go_big_quiet_step ((first | (go_at_call 22;with_reducible exact ReadsG.quiet (coreSlab_r HX.out) HT.out _ [3] rfl rfl))))
 refine wpQuiet_nil ?_
 intro _ hw'
 obtain ⟨nq,hw''⟩:=hw'
 subst hw''
 have HT:=Lib.hid (HT.out.drewN nq)
 go_wp2_with fail
 refine (DoesG.use (HWD.out _ HX.out) (HT.out) [3] rfl rfl).mono ?_
 rintro e w1 ⟨gs,⟨rfl,g1,hx1,rfl⟩,Ta⟩
 simp only [PU] at Ta
 have HX:=Lib.hid hx1
 clear hx1 k0 k12 b0 ltb
 have HT:=Lib.hid Ta
 clear Ta
 go_wp2_with fail
 refine ⟨rfl,?_⟩
 have hb:=HB.out
 have HB:=Lib.hid (show cl bk 56 #[ptr' kb]∈e.1 from hb)
 clear hb
 have b0:=HT.out.mem_cell 2 HB.out 0
 have ltb:=HT.out.mem_lt 2 HB.out
 simp only [GE2] at b0 ltb
 have k0:=HT.out.cell 0 0 rfl 0
 have k12:=HT.out.cell 0 0 rfl 12
 simp only [turnC,GE3] at k0 k12
 go_wp2_with fail
 refine wp_region_mix1 11 (by kernel_rfl) (by kernel_rfl) ?_
 simp only [TD4]
 repeat (go_big_quiet_step ((first | (go_at_call 22;with_reducible exact ReadsG.quiet (coreSlab_r HX.out) HT.out _ [3] rfl rfl))))
 refine wpQuiet_nil ?_
 intro _ hw'
 obtain ⟨nq,hw''⟩:=hw'
 subst hw''
 have HT:=Lib.hid (HT.out.drewN nq)
 go_wp2_with fail
 refine (DoesG.use (HY.out _ HX.out) (HT.out) [3] rfl rfl).mono ?_
 rintro e w1 ⟨gs,⟨rfl,g2,hx2,rfl⟩,Ta⟩
 simp only [PU] at Ta
 have HX2:=Lib.hid hx2
 clear hx2 k0 k12 b0
 have HT:=Lib.hid Ta
 clear Ta
 go_wp2_with fail
 refine ⟨rfl,?_⟩
 go_wp2
 exact bodyPost_end (results_none rfl _ _ _) rfl ⟨_,ART.of ⟨e,leT.refl e,_,_,rfl,⟨gd,_,gW,gP,HD.out,HX2.out,HW.out,HPP.out,rfl,rfl⟩,rfl⟩,HT.out.sum2⟩
set_option maxRecDepth 100000 in
set_option maxHeartbeats 4000000 in
theorem aTurnA (d:Nat) (hz:repT L kb pv e ⟨k,x,ws,p⟩ gK gF) (hp:preAT (.turnA d) ⟨k,x,ws,p⟩) (bk bd:Nat) (hb:kBox kb bk e) (hbd:e.2[d]?=some bd) :
 DoesG Tryz.prog 261 #[ptr' bk,ptr' bd] [gK,gF] (ART L kb pv e (runAT (.turnA d) ⟨k,x,ws,p⟩)):=by
 obtain ⟨ho,hh,hc⟩:=hp
 have hc:k.nd=d+1:=hc
 obtain ⟨gd,gC,gW,gP,hd,hx,hw,hpp,rfl,rfl⟩:=hz
 obtain ⟨i,q,s,S,hki,hq,hs,hS,hsv,hsh,hss,hwh,hwo,hrb,ht0,ht1⟩:=turn_sh hx hw ho hh
 obtain ⟨v0,gr,hr,rfl⟩:=due_cur hd hc hbd
 rw [show runAT (.turnA d) ⟨k,x,ws,p⟩=⟨{ k with due:=S.adv.2.map EntS.v },x,ws.set i S.adv.1,p⟩ by simp only [runAT,hsh,hwh]]
 have HTU:=Lib.hid (coreTurnS hx hw hq hs hS hwo)
 have HL:=Lib.hid (And.intro hd.1 (And.intro hc hbd))
 clear ho hh hc hd hr hki hq hs hS hsh hss hwh hwo hrb ht0 ht1 hbd
 intro w hw
 have T0:=TG.refl hw
 have HT:=Lib.hid T0
 clear hw T0
 have HT:=Lib.hid (HT.out.sum (H':=[turnB kb L.fb pv (sVal L k) k,[cl bd 343 #[v0]],e.1,gC,gW,gP,gr]))
 have HPP:=Lib.hid hpp
 clear hx hw hpp
 have HB:=Lib.hid (show cl bk 56 #[ptr' kb]∈e.1 from hb)
 clear hb
 have b0:=HT.out.mem_cell 2 HB.out 0
 have ltb:=HT.out.mem_lt 2 HB.out
 simp only [GE2] at b0 ltb
 have k10:=HT.out.cell 0 0 rfl 10
 simp only [turnC,GE3,hsv] at k10
 clear hsv
 go_enter Tryz.func261,Tryz.ntmps261
 go_wp2_with fail
 refine (DoesG.use (HTU.out) (HT.out) [3,4] rfl rfl).mono ?_
 rintro e w1 ⟨gs,⟨v,g5,rfl,hr,gC',gW',hx',hw',rfl⟩,Ta⟩
 simp only [PU] at Ta
 have HX:=Lib.hid hx'
 have HW:=Lib.hid hw'
 have HR:=Lib.hid hr
 clear hx' hw' k10 b0 ltb
 have HT:=Lib.hid Ta
 clear Ta
 obtain ⟨av,cap,rfl⟩:=hr.val
 clear hr
 have d0:=HT.out.cell 1 0 rfl 0
 have fd0:=HT.out.free 1 0 rfl 0
 simp only [GE4] at d0
 go_wp2
 exact bodyPost_end (results_none rfl _ _ _) rfl ⟨_,ART.of ⟨e,leT.refl e,_,_,rfl,⟨[cl bd 343 #[.slice av S.adv.2.length cap]]++g5,_,_,_,⟨HL.out.1,.inr ⟨d,bd,_,g5,HL.out.2.1,HL.out.2.2,by rw [List.length_map];exact HR.out,rfl⟩⟩,HX.out,HW.out,HPP.out,(rfl:turnB kb L.fb pv (sVal L k) { k with due:=S.adv.2.map EntS.v }++(([cl bd 343 #[.slice av S.adv.2.length cap]]++g5)++e.1)=_),rfl⟩,rfl⟩,(((HT.out.set 1 0 rfl 0 (.slice av S.adv.2.length cap)).eq (H':=[turnB kb L.fb pv (sVal L k) { k with due:=S.adv.2.map EntS.v },[cl bd 343 #[.slice av S.adv.2.length cap]],e.1,gC',gW',gP,gr,g5]) rfl).pick [0,1,2,3,4,5,7] rfl).sum2⟩
set_option maxRecDepth 100000 in
theorem yReady (i:Nat) (hz:repT L kb pv e ⟨k,x,ws,p⟩ gK gF) (hp:preYT (.ready i) ⟨k,x,ws,p⟩) {q:ShP} (hq:L.qs[i]?=some q) :
 DoesG Tryz.prog 280 #[ptr' q.b] [gK,gF] (YRT L kb pv e (.ready i) ⟨k,x,ws,p⟩):=by
 obtain ⟨ho,hi⟩:=hp
 have hi:i<x.shs.length:=hi
 have hs:x.shs[i]?=some x.shs[i]:=List.getElem?_eq_getElem hi
 have hrb:RingB x.shs[i].ring:=ho.core.ring _ (List.getElem_mem hi)
 have hm:mayT (.ready i) ⟨k,x,ws,p⟩=x.shs[i].ring.ready:=by
  simp only [mayT,List.getD_eq_getElem?_getD,hs,Option.getD_some]
 obtain ⟨gd,gC,gW,gP,hd,hx,hw,hpp,rfl,rfl⟩:=hz
 intro w hw'
 have T:=(TG.refl hw').sum (H':=[turnB kb L.fb pv (sVal L k) k,gd,e.1,gC,gW,gP])
 refine (DoesG.use (coreReady hx hq hs hrb) T [3] rfl rfl).mono ?_
 rintro en w' ⟨gs,⟨rfl,g',hx',rfl⟩,T'⟩
 simp only [PU] at T'
 exact ⟨_,YRT.of ⟨_,_,by rw [hm],⟨gd,g',gW,gP,hd,hx',hw,hpp,rfl,rfl⟩,rfl⟩,T'.sum2⟩
end
end
section
open Go.RowKit Go.Shelf
section
variable {L:Lay} {x:CoreS} {ws:List WheelS} {p:PipeS} {e:ET} {g gC gK gF:List Blk} {kb:Nat} {pv sv:Value} {k:TurnS}
set_option maxRecDepth 100000 in
set_option maxHeartbeats 8000000 in
theorem tOne21 (d:Nat) (hz:repT L kb pv e ⟨k,x,ws,p⟩ gK gF) (hp:preT (.one21 d) ⟨k,x,ws,p⟩) (bk bd:Nat) (hb:kBox kb bk e) (hbd:e.2[d]?=some bd) :
 DoesG Tryz.prog 258 #[ptr' bk,ptr' bd] [gK,gF] (MRT L kb pv e (runT (.one21 d) ⟨k,x,ws,p⟩).1 (runT (.one21 d) ⟨k,x,ws,p⟩).2):=by
 obtain ⟨ho,hh,hc⟩:=hp
 obtain ⟨gd,gC,gW,gP,hd,hx,hw,hpp,rfl,rfl⟩:=hz
 obtain ⟨i,q,s,S,hki,hq,hs,hS,hsv,hsh,hss,hwh,hwo,hrb,ht0,ht1⟩:=turn_sh hx hw ho hh
 have hwt:=coreWaiting hx hq hs hrb
 have hpo:=sPops (kb:=kb) (pv:=pv) (k:=k) hq (s.ring.tail - s.ring.head)
 have hon:∀ (e':ET) gK gF,repT L kb pv e' ⟨k,x,ws,p⟩ gK gF→kBox kb bk e'→e'.2[d]?=some bd→_:=fun e' gK gF hz h1 h2=>tOne211 d hz bk bd h1 h2
 simp only [runT,hss,popsT,hsh]
 generalize s.ring.tail - s.ring.head=n at *
 by_cases hn:n≤0
 ·rw [if_pos hn] at hpo ⊢
  obtain ⟨sq,hst⟩:∃ sq,one211T d ⟨k,x,ws,p⟩=(sq,⟨k,x,ws,p⟩):=⟨_,rfl⟩
  rw [hst] at hon ⊢
  dsimp only at hon ⊢
  intro w hw
  have T0:=TG.refl hw
  have HT:=Lib.hid T0
  clear hw T0
  have HT:=Lib.hid (HT.out.sum (H':=[turnB kb L.fb pv (sVal L k) k,gd,e.1,gC,gW,gP]))
  have HD:=Lib.hid hd
  have HW:=Lib.hid hw
  have HPP:=Lib.hid hpp
  have HWT:=Lib.hid hwt
  rw [← hsv] at hpo
  have HPO:=Lib.hid hpo
  have HON:=Lib.hid hon
  have HSV:=Lib.hid hsv
  have HB:=Lib.hid (show cl bk 56 #[ptr' kb]∈e.1 from hb)
  have HBD:=Lib.hid hbd
  clear ho hh hc hx hw hd hpp hki hq hs hS hsv hsh hss hwh hwo hrb ht0 ht1 hwt hpo hon hb hbd hn hst
  go_enter Tryz.func258,Tryz.ntmps258
  go_wp2_with fail
  have HT:=Lib.hid (HT.out.alloc (k:=w.heap.size) rfl 148 #[.nilFunc,.nilFunc])
  generalize World.alloc w _=w1 at HT ⊢
  generalize w.heap.size=sb at *
  have b0:=HT.out.mem_cell 2 HB.out 0
  have k10:=HT.out.cell 0 0 rfl 10
  have ltb:=HT.out.mem_lt 2 HB.out
  have ltk:=HT.out.lt 0 0 rfl
  simp only [turnC,GE3,HSV.out] at b0 k10 ltb ltk
  go_region_held3 (fun w'=>w'.cell? ⟨bk,0,none⟩=some (ptr' kb)∧w'.cell? ⟨kb,10,none⟩=some (ptr' q.b))
   (first
   | exact ⟨b0,k10⟩
   | exact ⟨q1,q2⟩
   | exact ⟨r1,r2⟩
   | exact ⟨s1,s2⟩
   | exact ⟨t1,t2⟩)
   (first
   | (go_at_call 45
      refine (DoesG.use HWT.out HT.out.drew [3] rfl rfl).mono ?_
      rintro e w7 ⟨gs,⟨rfl,g1,hx1,rfl⟩,Ta⟩
      simp only [PU] at Ta
      have HT7:=Lib.hid Ta
      have HX7:=Lib.hid hx1
      clear Ta hx1
      have q1:=HT7.out.mem_cell 2 HB.out 0
      have q2:=HT7.out.cell 0 0 rfl 10
      simp only [turnC,GE3,HSV.out] at q1 q2)
   | (go_at_call 259
      refine (DoesG.use HPO.out HT7.out [0] rfl rfl).mono ?_
      rintro e w8 ⟨gs,⟨g2,l2,⟨m2,d2,rfl,hs2⟩,rfl⟩,Ta⟩
      simp only [PU] at Ta
      obtain ⟨rfl,rfl,rfl⟩:=hs2 (l2,[]) (fun _ h=>h)
      have HT8:=Lib.hid (Ta.sum2 (H':=[turnB kb L.fb pv (sVal L k) k,gd,e.1,g1,gW,gP,[cl sb 148 #[.nilFunc,.nilFunc]],l2]))
      clear Ta hs2
      have r1:=HT8.out.mem_cell 2 HB.out 0
      have r2:=HT8.out.cell 0 0 rfl 10
      simp only [turnC,GE3,HSV.out] at r1 r2
      have hth:=then_nil (first:=#[]) (caps:=#[ptr' bk,ptr' bd]) (enters_of Tryz.func260 (by kernel_rfl) rfl) (HON.out (e.1++l2,e.2) (turnB kb L.fb pv (sVal L k) k++(gd++(e.1++l2))) (g1++(gW++gP)) ⟨gd,g1,gW,gP,HD.out,HX7.out,HW.out,HPP.out,rfl,rfl⟩ (List.mem_append_left _ HB.out) HBD.out) (fun _ _ h=>MRT.fv h)
      have HTH:=Lib.hid hth
      clear hth)
   | (go_at_call 191
      refine (DoesG.use HTH.out (HT8.out.sum2 (H':=[turnB kb L.fb pv (sVal L k) k++(gd++(e.1++l2)),g1++(gW++gP),[cl sb 148 #[.nilFunc,.nilFunc]]])) [0,1] rfl rfl).mono ?_
      rintro e w9 ⟨gs,⟨e2,hl2,m3,d3,g3,gK3,gF3,rfl,hs3,hz3,rfl⟩,Ta⟩
      simp only [PU] at Ta
      have HT9:=Lib.hid Ta
      have HL2:=Lib.hid hl2
      have hbx:cl bk 56 #[ptr' kb]∈e2.1:=hl2.b _ (List.mem_append_left _ HB.out)
      obtain ⟨gd3,gC3,gW3,gP3,hd3,hx3,hw3,hpp3,rfl,rfl⟩:=hz3
      have HZ3:=Lib.hid (show repT L kb pv e2 ⟨k,x,ws,p⟩ _ _ from ⟨gd3,gC3,gW3,gP3,hd3,hx3,hw3,hpp3,rfl,rfl⟩)
      clear Ta hl2 hd3 hx3 hw3 hpp3
      have hbm:cl bk 56 #[ptr' kb]∈turnB kb L.fb pv (sVal L k) k++(gd3++e2.1):=List.mem_append_right _ (List.mem_append_right _ hbx)
      have z0:=HT9.out.cell 2 0 rfl 0
      have fz0:=HT9.out.free 2 0 rfl 0
      have z1:=HT9.out.cell 2 0 rfl 1
      have fz1:=HT9.out.free 2 0 rfl 1
      have hv2:=(cliT_vals L kb pv _).vals hs3
      have HS:=Lib.hid hs3
      have s1:=HT9.out.mem_cell 1 hbm 0
      have s2:=HT9.out.cell 1 0 rfl 10
      simp only [turnC,GE3,HSV.out] at z0 z1 s1 s2
      obtain ⟨st1,st2⟩:=Cli.store_fv2 (P:=Tryz.prog) hv2.1 hv2.2 z0 fz0 z1 fz1
      have HT10:=Lib.hid ((HT9.out.set 2 0 rfl 0 m3).set 2 0 rfl 1 d3)
      have t1:=HT10.out.mem_cell 1 hbm 0
      have t2:=HT10.out.cell 1 0 rfl 10
      simp only [turnC,GE3,HSV.out] at t1 t2
      clear hv2 hs3 hbx hbm))
  all_goals
   have y0:=HT10.out.cell 2 0 rfl 0
   have y1:=HT10.out.cell 2 0 rfl 1
   simp only [Array.set!,List.setIfInBounds_toArray,List.set_cons_zero,List.set_cons_succ,GE3] at y0 y1
   clear b0 k10 q1 q2 r1 r2 s1 s2 t1 t2 z0 z1 fz0 fz1 st1 st2 HT7 HT8 HT9
   generalize World.setCell (World.setCell w9 _ _) _ _=w5 at HT10 y0 y1 ⊢
   go_wp2
   exact bodyPost_ret (v:=.agg #[_,_]) (by simp [results,Tryz.results258,go_sem,y0,y1]) rfl ⟨_,MRT.of ⟨e2,(leT.app e l2).trans HL2.out,m3,d3,g3,_,_,rfl,HS.out,HZ3.out,rfl⟩,HT10.out.pick [0,1,3] rfl⟩
 ·rw [if_neg hn] at hpo ⊢
  rw [if_neg hn]
  dsimp only
  intro w hw
  have T0:=TG.refl hw
  have HT:=Lib.hid T0
  clear hw T0
  have HT:=Lib.hid (HT.out.sum (H':=[turnB kb L.fb pv (sVal L k) k,gd,e.1,gC,gW,gP]))
  have HD:=Lib.hid hd
  have HW:=Lib.hid hw
  have HPP:=Lib.hid hpp
  have HWT:=Lib.hid hwt
  rw [← hsv] at hpo
  have HPO:=Lib.hid hpo
  have HSV:=Lib.hid hsv
  have HB:=Lib.hid (show cl bk 56 #[ptr' kb]∈e.1 from hb)
  have HBD:=Lib.hid hbd
  clear ho hh hc hx hw hd hpp hki hq hs hS hsv hsh hss hwh hwo hrb ht0 ht1 hwt hpo hon hb hbd hn
  go_enter Tryz.func258,Tryz.ntmps258
  go_wp2_with fail
  have HT:=Lib.hid (HT.out.alloc (k:=w.heap.size) rfl 148 #[.nilFunc,.nilFunc])
  generalize World.alloc w _=w1 at HT ⊢
  generalize w.heap.size=sb at *
  have b0:=HT.out.mem_cell 2 HB.out 0
  have k10:=HT.out.cell 0 0 rfl 10
  have ltb:=HT.out.mem_lt 2 HB.out
  have ltk:=HT.out.lt 0 0 rfl
  simp only [turnC,GE3,HSV.out] at b0 k10 ltb ltk
  go_region_held3 (fun w'=>w'.cell? ⟨bk,0,none⟩=some (ptr' kb)∧w'.cell? ⟨kb,10,none⟩=some (ptr' q.b))
   (first
   | exact ⟨b0,k10⟩
   | exact ⟨q1,q2⟩
   | exact ⟨r1,r2⟩
   | exact ⟨s1,s2⟩
   | exact ⟨t1,t2⟩)
   (first
   | (go_at_call 45
      refine (DoesG.use HWT.out HT.out.drew [3] rfl rfl).mono ?_
      rintro e w7 ⟨gs,⟨rfl,g1,hx1,rfl⟩,Ta⟩
      simp only [PU] at Ta
      have HT7:=Lib.hid Ta
      have HX7:=Lib.hid hx1
      clear Ta hx1
      have q1:=HT7.out.mem_cell 2 HB.out 0
      have q2:=HT7.out.cell 0 0 rfl 10
      simp only [turnC,GE3,HSV.out] at q1 q2)
   | (go_at_call 259
      refine (DoesG.use HPO.out HT7.out [0] rfl rfl).mono ?_
      rintro e w8 ⟨gs,⟨g2,l2,⟨m2,d2,rfl,hs2⟩,rfl⟩,Ta⟩
      simp only [PU] at Ta
      have HT8:=Lib.hid (Ta.sum2 (H':=[turnB kb L.fb pv (sVal L k) k,gd,e.1,g1,gW,gP,[cl sb 148 #[.nilFunc,.nilFunc]],l2,g2,[]]))
      have HS2:=Lib.hid hs2
      clear Ta hs2
      have r1:=HT8.out.mem_cell 2 HB.out 0
      have r2:=HT8.out.cell 0 0 rfl 10
      simp only [turnC,GE3,HSV.out] at r1 r2)
   | (go_at_call 191
      refine (DoesG.use (Cli.prog_then_x (c:=(cliT L kb pv).on (e.1++l2,e.2)) (s:=.at (some (.ready i)) (.pops1 n)) (f:=MT.one211 d) (v:=.func (.func 260) #[] #[ptr' bk,ptr' bd]) (gm:=[]) (cliT_vals L kb pv _) rfl (HS2.out (e.1++l2,e.2) (fun b hb=>List.mem_append_right _ hb)) ⟨rfl,bk,bd,rfl,List.mem_append_left _ HB.out,HBD.out⟩) HT8.out [8,9] rfl rfl).mono ?_
      rintro e w9 ⟨gs,⟨bs,br,rfl,rfl⟩,Ta⟩
      simp only [PU] at Ta
      have HT9:=Lib.hid Ta
      clear Ta
      have s1:=HT9.out.mem_cell 2 HB.out 0
      have s2:=HT9.out.cell 0 0 rfl 10
      have z0:=HT9.out.cell 6 0 rfl 0
      have fz0:=HT9.out.free 6 0 rfl 0
      have z1:=HT9.out.cell 6 0 rfl 1
      have fz1:=HT9.out.free 6 0 rfl 1
      have hv2:=(cliT_vals L kb pv _).vals (HS2.out (e.1++l2,e.2) (fun b hb=>List.mem_append_right _ hb))
      simp only [turnC,GE3,HSV.out] at s1 s2 z0 z1
      obtain ⟨st1,st2⟩:=Cli.store_fv2 (P:=Tryz.prog) (v':=.func (.func 226) #[] #[ptr' bs,ptr' br]) hv2.1 (Or.inr ⟨_,_,_,rfl⟩) z0 fz0 z1 fz1
      have HT10:=Lib.hid ((HT9.out.set 6 0 rfl 0 m2).set 6 0 rfl 1 (.func (.func 226) #[] #[ptr' bs,ptr' br]))
      have t1:=HT10.out.mem_cell 2 HB.out 0
      have t2:=HT10.out.cell 0 0 rfl 10
      simp only [turnC,GE3,HSV.out] at t1 t2
      clear hv2))
  all_goals
   have HS:=Lib.hid (HS2.out (e.1++l2,e.2) (fun b hb=>List.mem_append_right _ hb))
   have y0:=HT10.out.cell 6 0 rfl 0
   have y1:=HT10.out.cell 6 0 rfl 1
   simp only [Array.set!,List.setIfInBounds_toArray,List.set_cons_zero,List.set_cons_succ,GE3] at y0 y1
   clear b0 k10 q1 q2 r1 r2 s1 s2 t1 t2 z0 z1 fz0 fz1 st1 st2 HT7 HT8 HT9
   generalize World.setCell (World.setCell w9 _ _) _ _=w5 at HT10 y0 y1 ⊢
   go_wp2
   exact bodyPost_ret (v:=.agg #[_,_]) (by simp [results,Tryz.results258,go_sem,y0,y1]) rfl ⟨_,MRT.of ⟨(e.1++l2,e.2),leT.app e l2,_,_,_,_,_,rfl,⟨bs,br,_,_,g2,[],rfl,rfl,HS.out,⟨rfl,bk,bd,rfl,List.mem_append_left _ HB.out,HBD.out⟩,rfl⟩,⟨gd,g1,gW,gP,HD.out,HX7.out,HW.out,HPP.out,(rfl:turnB kb L.fb pv (sVal L k) k++(gd++(e.1++l2))=_),rfl⟩,rfl⟩,(HT10.out.pick [8,0,1,2,7,3,4,5] rfl).sum2⟩
end
end
section
open Go.RowKit Go.Shelf
set_option maxRecDepth 100000 in
set_option maxHeartbeats 4000000 in
theorem cliT_ok (L:Lay) (kb:Nat) (pv:Value):(cliT L kb pv).Ok where
 refl:=leT.refl
 trans h1 h2:=h1.trans h2
 mm hl h:=VMT.le hl h
 ma hl h:=VAT.le hl h
 v e:=cliT_vals L kb pv e
 m {e f v g gK gF z} hv hz hp:=by
   obtain ⟨k,x,ws,p⟩:=z
   obtain ⟨rfl,hv⟩:=hv
   cases f with
   | enter=>subst hv;exact ⟨_,_,_,rfl,fun _ _=>rfl,(tEnter hz hp).pre rfl⟩
   | gate=>subst hv;exact ⟨_,_,_,rfl,fun _ _=>rfl,(tGate hz hp).pre rfl⟩
   | tick=>subst hv;exact ⟨_,_,_,rfl,fun _ _=>rfl,(tTick hz hp).pre rfl⟩
   | shards1 i=>obtain ⟨bk,bi,rfl,hb,hbi⟩:=hv;exact ⟨_,_,_,rfl,fun _ _=>rfl,(tShards1 i hz hp bk bi hb hbi).pre rfl⟩
   | one2 d=>obtain ⟨bk,bd,rfl,hb,hbd⟩:=hv;exact ⟨_,_,_,rfl,fun _ _=>rfl,(tOne2 d hz hp bk bd hb hbd).pre rfl⟩
   | one21 d=>obtain ⟨bk,bd,rfl,hb,hbd⟩:=hv;exact ⟨_,_,_,rfl,fun _ _=>rfl,(tOne21 d hz hp bk bd hb hbd).pre rfl⟩
   | one211 d=>obtain ⟨bk,bd,rfl,hb,hbd⟩:=hv;exact ⟨_,_,_,rfl,fun _ _=>rfl,(tOne211 d hz bk bd hb hbd).pre rfl⟩
   | one2112 d=>obtain ⟨bk,bd,rfl,hb,hbd⟩:=hv;exact ⟨_,_,_,rfl,fun _ _=>rfl,(tOne2112 d hz hp bk bd hb hbd).pre rfl⟩
   | one21121=>obtain ⟨bk,rfl,hb⟩:=hv;exact ⟨_,_,_,rfl,fun _ _=>rfl,(tOne21121 hz bk hb).pre rfl⟩
   | pops1 n=>obtain ⟨bk,bi,rfl,hb,hbi⟩:=hv;exact ⟨_,_,_,rfl,fun _ _=>rfl,(tPops1 n hz hp bk bi hb hbi).pre rfl⟩
   | pops11 n=>obtain ⟨bk,bi,rfl,hb,hbi⟩:=hv;exact ⟨_,_,_,rfl,fun _ _=>rfl,(tPops11 n hz hp.1 hp.2.1 hp.2.2 bk bi hb hbi).pre rfl⟩
   | rec1=>obtain ⟨bk,rfl,hb⟩:=hv;exact ⟨_,_,_,rfl,fun _ _=>rfl,(tRec1 hz hp bk hb).pre rfl⟩
   | rec11=>obtain ⟨bk,rfl,hb⟩:=hv;exact ⟨_,_,_,rfl,fun _ _=>rfl,(tRec11 hz hp bk hb).pre rfl⟩
   | fires1 d i=>obtain ⟨bk,bp,bi,bd,rfl,hb,hbd,hbp,hbi⟩:=hv;exact ⟨_,_,_,rfl,fun _ _=>rfl,(tFires1 d i hz hp bk bp bi bd hb hbd hbp hbi).pre rfl⟩
   | looks=>subst hv;exact ⟨_,_,_,rfl,fun _ _=>rfl,(tLooks hz hp).pre rfl⟩
   | claims=>subst hv;exact ⟨_,_,_,rfl,fun _ _=>rfl,(tClaims hz hp).pre rfl⟩
   | claims2=>obtain ⟨bk,rfl,hb⟩:=hv;exact ⟨_,_,_,rfl,fun _ _=>rfl,(tClaims2 hz bk hb).pre rfl⟩
   | behind=>subst hv;exact ⟨_,_,_,rfl,fun _ _=>rfl,(tBehind hz hp).pre rfl⟩
   | rearm1 next=>obtain ⟨bk,bn,rfl,hb,hbn⟩:=hv;exact ⟨_,_,_,rfl,fun _ _=>rfl,(tRearm1 next hz hp bk bn hb hbn).pre rfl⟩
   | finishes=>subst hv;exact ⟨_,_,_,rfl,fun _ _=>rfl,(tFinishes hz hp).pre rfl⟩
 a {e f v g gK gF z} hv hz hp:=by
   obtain ⟨k,x,ws,p⟩:=z
   obtain ⟨rfl,hv⟩:=hv
   cases f with
   | leave1=>obtain ⟨bk,rfl,hb⟩:=hv;exact ⟨_,_,_,rfl,fun _ _=>rfl,(aLeave1 hz hp bk hb).pre rfl⟩
   | answer=>obtain ⟨bk,rfl,hb⟩:=hv;exact ⟨_,_,_,rfl,fun _ _=>rfl,(aAnswer hz hp bk hb).pre rfl⟩
   | turnA d=>obtain ⟨bk,bd,rfl,hb,hbd⟩:=hv;exact ⟨_,_,_,rfl,fun _ _=>rfl,(aTurnA d hz hp bk bd hb hbd).pre rfl⟩
   | unlock=>obtain ⟨bk,rfl,hb⟩:=hv;exact ⟨_,_,_,rfl,fun _ _=>rfl,(aUnlock hz hp bk hb).pre rfl⟩
   | put f=>obtain ⟨bk,bf,rfl,hb,hbf⟩:=hv;exact ⟨_,_,_,rfl,fun _ _=>rfl,(aPut f hz hp bk bf hb hbf).pre rfl⟩
   | rel=>obtain ⟨bk,rfl,hb⟩:=hv;exact ⟨_,_,_,rfl,fun _ _=>rfl,(aRelT hz hp bk hb).pre rfl⟩
   | drop=>obtain ⟨bk,rfl,hb⟩:=hv;exact ⟨_,_,_,rfl,fun _ _=>rfl,(aDropT hz hp bk hb).pre rfl⟩
 y {e f v g gK gF z} hv hz hp:=by
   obtain ⟨k,x,ws,p⟩:=z
   obtain ⟨rfl,hv⟩:=hv
   cases f with
   | lock=>obtain ⟨bk,rfl,hb⟩:=hv;exact ⟨_,_,_,rfl,fun _ _=>rfl,((yLock hz hp bk hb).pre rfl).post (by rintro e gs ⟨gK',gF',h1,h2,rfl⟩;exact ⟨_,⟨gK',gF',h1,h2,rfl⟩,.refl _⟩)⟩
   | ready i=>obtain ⟨q,hq,rfl⟩:=hv;exact ⟨_,_,_,rfl,fun _ _=>rfl,((yReady i hz hp hq).pre rfl).post (by rintro e gs ⟨gK',gF',h1,h2,rfl⟩;exact ⟨_,⟨gK',gF',h1,h2,rfl⟩,.refl _⟩)⟩
end
section
open Go.RowKit Go.Shelf
def isTK (L:Lay) (kb:Nat) (pv:Value) (e:ET) (k:TurnS) (gK:List Blk):Prop:=∃ gd,isDue e.2 k gd∧gK=turnB kb L.fb pv (sVal L k) k++(gd++e.1)
def isTF (L:Lay) (x:CoreS) (ws:List WheelS) (p:PipeS) (gF:List Blk):Prop:=∃ gC gW gP,isCore L x gC∧isWheels L ws gW∧isPipe L.p.pb p gP∧gF=gC++(gW++gP)
theorem repT_iff {L:Lay} {kb:Nat} {pv:Value} {e:ET} {gK gF:List Blk} {z:ZT}:repT L kb pv e z gK gF↔isTK L kb pv e z.k gK∧isTF L z.x z.ws z.p gF :=
 ⟨fun ⟨gd,gC,gW,gP,a,b,c,d,h,i⟩=>⟨⟨gd,a,h⟩,⟨gC,gW,gP,b,c,d,i⟩⟩,fun ⟨⟨gd,a,h⟩,⟨gC,gW,gP,b,c,d,i⟩⟩=>⟨gd,gC,gW,gP,a,b,c,d,h,i⟩⟩
def isTurn (L:Lay) (kb:Nat) (s:ST) (n:Int) (k:TurnS) (g:List Blk):Prop :=
 ∃ (pb:Nat) (e:ET) (m d:Value) (gst gK:List Blk),(cliT L kb (ptr' pb)).SV e s m d gst∧isTK L kb (ptr' pb) e k gK∧g=Cli.progB pb m d n++(gst++gK)
def stepTu (s:ST) (z:ZT):ST × ZT:=St.run runT runAT s z
def preST (s:ST) (z:ZT):Prop:=St.pre runT runAT preT preAT s z
def maySt (s:ST) (z:ZT):Bool:=s.may mayT z
def preYS' (s:ST) (z:ZT):Prop:=St.preY preYT s z
section
variable {L:Lay} {x:CoreS} {ws:List WheelS} {p:PipeS} {g gF:List Blk} {kb:Nat} {s:ST} {n:Int} {k:TurnS}
set_option maxRecDepth 100000 in
theorem turnStep (hc:isTurn L kb s n k g) (hx:isTF L x ws p gF) (hy:preYS' s ⟨k,x,ws,p⟩) (hm:maySt s ⟨k,x,ws,p⟩=true) (hp:preST s ⟨k,x,ws,p⟩) (hb:0≤n∧n≤1000000000) :
 DoesG Tryz.prog 31 #[ptr' kb] [g,gF] fun en gs=>∃ g' gF',en=.returned (.bool true)∧isTurn L kb (stepTu s ⟨k,x,ws,p⟩).1 (n+1) (stepTu s ⟨k,x,ws,p⟩).2.k g'∧isTF L (stepTu s ⟨k,x,ws,p⟩).2.x (stepTu s ⟨k,x,ws,p⟩).2.ws (stepTu s ⟨k,x,ws,p⟩).2.p gF'∧gs=[g',gF']:=by
 obtain ⟨pb,e,m,d,gst,gK,hs,hk,rfl⟩:=hc
 have hd:=CliE.prog_step (n:=n) (cliT_ok L kb (ptr' pb)) hs (x:=(⟨k,x,ws,p⟩:ZT)) (repT_iff.2 ⟨hk,hx⟩) hy hp pb hb hm
 obtain ⟨gd,hl,rfl⟩:=hk
 intro w hw
 have T0:=TG.refl hw
 have HT:=Lib.hid T0
 clear hw T0
 have T1:=HT.out.sum (H':=[turnB kb L.fb (ptr' pb) (sVal L k) k,Cli.progB pb m d n++(gst++(gd++e.1)),gF])
 have k8:=T1.cell 0 0 rfl 8
 simp only [turnC,GE3] at k8
 have lt:=T1.lt 0 0 rfl
 simp only [] at lt
 have HD:=Lib.hid hd
 have HT:=Lib.hid (HT.out.sum (H':=[Cli.progB pb m d n,gst,turnB kb L.fb (ptr' pb) (sVal L k) k++(gd++e.1),gF]))
 clear hs hl hx hy hm hp hb hd T1
 go_enter Tryz.func31,Tryz.ntmps31
 go_wp2_with fail
 refine (DoesG.use (HD.out) (HT.out) [0,1,2,3] rfl rfl).mono ?_
 rintro e w1 ⟨gs,⟨e',hle,m',d',gst',gK',gF',rfl,hs',hx',rfl⟩,Ta⟩
 simp only [PU] at Ta
 have HS:=Lib.hid hs'
 have HX:=Lib.hid (repT_iff.1 hx')
 clear hs' hx' k8
 have HT:=Lib.hid Ta
 clear Ta
 go_wp2
 go_ret
 exact ⟨_,⟨_,gF',rfl,⟨pb,e',m',d',gst',gK',HS.out,HX.out.1,rfl⟩,HX.out.2,rfl⟩,HT.out.sum⟩
set_option maxRecDepth 100000 in
theorem turnNo (hc:isTurn L kb s n k g) (hx:isTF L x ws p gF) (hy:preYS' s ⟨k,x,ws,p⟩) (hm:maySt s ⟨k,x,ws,p⟩=false) :
 DoesG Tryz.prog 31 #[ptr' kb] [g,gF] fun en gs=>en=.returned (.bool false)∧∃ g' gF',isTurn L kb s n k g'∧isTF L x ws p gF'∧gs=[g',gF']:=by
 obtain ⟨pb,e,m,d,gst,gK,hs,hk,rfl⟩:=hc
 have hd:=CliE.prog_step_no (n:=n) (cliT_ok L kb (ptr' pb)) hs (x:=(⟨k,x,ws,p⟩:ZT)) (repT_iff.2 ⟨hk,hx⟩) hy pb hm
 obtain ⟨gd,hl,rfl⟩:=hk
 intro w hw
 have T0:=TG.refl hw
 have HT:=Lib.hid T0
 clear hw T0
 have T1:=HT.out.sum (H':=[turnB kb L.fb (ptr' pb) (sVal L k) k,Cli.progB pb m d n++(gst++(gd++e.1)),gF])
 have k8:=T1.cell 0 0 rfl 8
 simp only [turnC,GE3] at k8
 have lt:=T1.lt 0 0 rfl
 simp only [] at lt
 have HD:=Lib.hid hd
 have HS:=Lib.hid hs
 have HT:=Lib.hid (HT.out.sum (H':=[Cli.progB pb m d n,gst,turnB kb L.fb (ptr' pb) (sVal L k) k++(gd++e.1),gF]))
 clear hs hl hx hy hm hd T1
 go_enter Tryz.func31,Tryz.ntmps31
 go_wp2_with fail
 refine (DoesG.use (HD.out) (HT.out) [0,1,2,3] rfl rfl).mono ?_
 rintro e w1 ⟨gs,⟨gK',gF',rfl,hx',rfl⟩,Ta⟩
 simp only [PU] at Ta
 have HX:=Lib.hid (repT_iff.1 hx')
 clear hx' k8
 have HT:=Lib.hid Ta
 clear Ta
 go_wp2
 go_ret
 exact ⟨_,⟨rfl,_,gF',⟨pb,e,m,d,gst,gK',HS.out,HX.out.1,rfl⟩,HX.out.2,rfl⟩,HT.out.sum⟩
set_option maxRecDepth 100000 in
theorem turnMay (hc:isTurn L kb s n k g) (hx:isTF L x ws p gF) (hy:preYS' s ⟨k,x,ws,p⟩) :
 DoesG Tryz.prog 30 #[ptr' kb] [g,gF] fun en gs=>en=.returned (.bool (maySt s ⟨k,x,ws,p⟩))∧∃ g' gF',isTurn L kb s n k g'∧isTF L x ws p gF'∧gs=[g',gF']:=by
 obtain ⟨pb,e,m,d,gst,gK,hs,hk,rfl⟩:=hc
 have hd:=CliE.prog_may (n:=n) (cliT_ok L kb (ptr' pb)) hs (x:=(⟨k,x,ws,p⟩:ZT)) (repT_iff.2 ⟨hk,hx⟩) hy pb
 have hd:DoesG Tryz.prog 101 _ _ fun en gs=>∃ gK' gF',en=.returned (.bool (maySt s ⟨k,x,ws,p⟩))∧repT L kb (ptr' pb) e ⟨k,x,ws,p⟩ gK' gF'∧_:=hd
 generalize maySt s ⟨k,x,ws,p⟩=v at *
 obtain ⟨gd,hl,rfl⟩:=hk
 intro w hw
 have T0:=TG.refl hw
 have HT:=Lib.hid T0
 clear hw T0
 have T1:=HT.out.sum (H':=[turnB kb L.fb (ptr' pb) (sVal L k) k,Cli.progB pb m d n++(gst++(gd++e.1)),gF])
 have k8:=T1.cell 0 0 rfl 8
 simp only [turnC,GE3] at k8
 have lt:=T1.lt 0 0 rfl
 simp only [] at lt
 have HD:=Lib.hid hd
 have HS:=Lib.hid hs
 have HT:=Lib.hid (HT.out.sum (H':=[Cli.progB pb m d n,gst,turnB kb L.fb (ptr' pb) (sVal L k) k++(gd++e.1),gF]))
 clear hs hl hx hy hd T1
 go_enter Tryz.func30,Tryz.ntmps30
 go_wp2_with fail
 refine (DoesG.use (HD.out) (HT.out) [0,1,2,3] rfl rfl).mono ?_
 rintro e w1 ⟨gs,⟨gK',gF',rfl,hx',rfl⟩,Ta⟩
 simp only [PU] at Ta
 have HX:=Lib.hid (repT_iff.1 hx')
 clear hx' k8
 have HT:=Lib.hid Ta
 clear Ta
 go_wp2
 go_ret
 exact ⟨_,⟨rfl,_,gF',⟨pb,e,m,d,gst,gK',HS.out,HX.out.1,rfl⟩,HX.out.2,rfl⟩,HT.out.sum⟩
set_option maxRecDepth 100000 in
theorem turnDone (hc:isTurn L kb s n k g):ReadsG Tryz.prog 32 #[ptr' kb] [g] (.bool s.isNil):=by
 obtain ⟨pb,e,m,d,gst,gK,hs,hk,rfl⟩:=hc
 have hd:=CliE.prog_done (cliT_ok L kb (ptr' pb)) hs pb n
 obtain ⟨gd,hl,rfl⟩:=hk
 intro w hw
 have T0:=TG.refl hw
 have HT:=Lib.hid T0
 clear hw T0
 have T1:=HT.out.sum (H':=[turnB kb L.fb (ptr' pb) (sVal L k) k,Cli.progB pb m d n++(gst++(gd++e.1))])
 have k8:=T1.cell 0 0 rfl 8
 simp only [turnC,GE3] at k8
 have lt:=T1.lt 0 0 rfl
 simp only [] at lt
 have HD:=Lib.hid hd
 have HT:=Lib.hid (HT.out.sum (H':=[Cli.progB pb m d n,gst,turnB kb L.fb (ptr' pb) (sVal L k) k++(gd++e.1)]))
 clear hs hl hd T1
 go_enter Tryz.func32,Tryz.ntmps32
 go_wp2_with fail
 refine (ReadsG.use (HD.out) (HT.out) [0] rfl rfl).mono ?_
 rintro e w1 ⟨rfl,mq,rfl⟩
 go_wp2
 go_ret
 exact ⟨rfl,_,rfl⟩
end
end
section
open Go.RowKit Go.Shelf
def newT (th no:Int):TurnS:=⟨th,no,0,false,0,none,⟨0,0,0,0,0⟩,0,0,[]⟩
def firstT:ST:=.at none .enter
section
variable {L:Lay} {x:CoreS} {ws:List WheelS} {p:PipeS} {g gF:List Blk} {kb:Nat} {s:ST} {n:Int} {k:TurnS}
set_option maxRecDepth 100000 in
theorem turnBegin (hx:isTF L x ws p gF) (hn:x.tr.length≤1000000) (th no:Int) (hth:0≤th):DoesG Tryz.prog 29 #[ptr' L.fb,.int .i64 th,.int .i64 no] [gF] fun en gs =>
 ∃ kb g gF',en=.returned (.tuple #[ptr' kb,.int .i64 0])∧isTurn L kb firstT 0 (newT th no) g∧isTF L { x with tr:=x.tr++[evT (newT th no) { ev0 with kind:=1 }] } ws p gF'∧gs=[g,gF']:=by
 obtain ⟨gC,gW,gP,hx,hw,hpp,rfl⟩:=hx
 have HS:=Lib.hid (show ∀ kb pv,((cliT L kb pv).on ([],[])).SV (.at none .enter) .nilFunc (.func (.func 99) #[ptr' kb] #[]) [] from fun kb pv=>⟨rfl,rfl,rfl⟩)
 have HNW:=Lib.hid (show ∀ kb,_ from fun kb=>Cli.prog_new_v (cliT_vals L kb (.pointer none) ([],[])) (HS.out kb (.pointer none)))
 intro w hw
 have T0:=TG.refl hw
 have HT:=Lib.hid T0
 clear hw T0
 have HX:=Lib.hid hx
 have HW:=Lib.hid hw
 have HPP:=Lib.hid hpp
 have HLN:=Lib.hid hn
 clear hx hn hpp hw
 go_enter Tryz.func29,Tryz.ntmps29
 go_wp2_with fail
 refine (DoesG.use (at_g _ _ _) (HT.out.alloc (k:=w.heap.size) rfl 164 (turnC L.fb (.pointer none) (.pointer none) (newT th no))) [] rfl rfl).mono ?_
 rintro e w1 ⟨gs,⟨rfl,rfl⟩,Ta⟩
 simp only [PU] at Ta
 have HT:=Lib.hid Ta
 clear Ta
 go_wp2_with fail
 refine (DoesG.use (HNW.out w.heap.size) (HT.out.sum (H':=[gC,gW++gP,[],[cl w.heap.size 164 (turnC L.fb (.pointer none) (.pointer none) (newT th no))]])) [2] rfl rfl).mono ?_
 rintro e w1 ⟨gs,⟨pb,rfl,rfl⟩,Ta⟩
 simp only [PU] at Ta
 have HT:=Lib.hid Ta
 clear Ta
 have k8:=HT.out.cell 3 0 rfl 8
 have fk8:=HT.out.free 3 0 rfl 8
 simp only [turnC,GE3] at k8
 have hnt:=fun g (hg:isCore L x g)=>turnNote (kb:=w.heap.size) (pv:=ptr' pb) (sv:=.pointer none) (k:=newT th no) hg { ev0 with kind:=1 } HLN.out
 simp only [EvS.cells,ev0] at hnt
 go_wp2_with fail
 refine (DoesG.use (hnt _ HX.out) ((HT.out.set 3 0 rfl 8 (ptr' pb)).eq (H':=[gC,gW++gP,[],turnB w.heap.size L.fb (ptr' pb) (.pointer none) (newT th no),Cli.progB pb .nilFunc (.func (.func 99) #[ptr' w.heap.size] #[]) 0]) rfl) [3,0] rfl rfl).mono ?_
 rintro e w1 ⟨gs,⟨rfl,g1,hx1,rfl⟩,Ta⟩
 simp only [PU] at Ta
 have HX:=Lib.hid hx1
 clear hx1 k8 fk8
 have HT:=Lib.hid Ta
 clear Ta
 go_wp2
 go_ret2
 exact ⟨_,⟨_,_,_,rfl,⟨pb,([],[]),_,_,[],turnB w.heap.size L.fb (ptr' pb) (.pointer none) (newT th no)++([]++[]),HS.out _ _,⟨[],⟨rfl,.inl ⟨rfl,rfl⟩⟩,rfl⟩,rfl⟩,⟨g1,gW,gP,HX.out,HW.out,HPP.out,rfl⟩,rfl⟩,(HT.out.pick [4,3,0,1] rfl).sum2⟩
end
end
section
open Go.RowKit Go.Shelf
def wheel0S:WheelS:=wheel0.s
def isShardW (b:Nat) (s:ShardS) (g:List Blk):Prop:=∃ rb lb wb gr gl gw,isRing rb s.ring gr∧isLock lb s.who s.turns gl∧isWheel wb wheel0S gw∧g=[cl b 220 #[ptr' rb,ptr' lb,ptr' wb]]++gr++gl++gw
theorem totW_0:totW wheel0=0:=by decide
set_option maxRecDepth 100000 in
set_option maxHeartbeats 4000000 in
theorem shardNewW_g:MakesShard isShardW:=by
 intro n h1 h2
 intro w hw
 have T0:=TG.refl hw
 have HT:=Lib.hid T0
 clear hw T0
 have HWN:=Lib.hid (show ∀ (b:Nat) g,isWheelA b wheel0 0 g→isWheel b wheel0S g from fun b g h=>⟨wheel0,rfl,by rw [totW_0];exact h⟩)
 go_enter Tryz.func83,Tryz.ntmps83
 go_wp2_with fail
 refine (DoesG.use (ringNew_g n h1 h2) (HT.out) [] rfl rfl).mono ?_
 rintro e w1 ⟨gs,⟨rb,gr,rfl,hgr,rfl⟩,Ta⟩
 simp only [PU] at Ta
 have HT:=Lib.hid Ta
 clear Ta
 go_wp2_with fail
 refine (DoesG.use (lockNew_g) (HT.out) [] rfl rfl).mono ?_
 rintro e w1 ⟨gs,⟨lb,gl,rfl,hgl,rfl⟩,Ta⟩
 simp only [PU] at Ta
 have HT:=Lib.hid Ta
 clear Ta
 go_wp2_with fail
 refine (DoesG.use (wheelNew_g) (HT.out) [] rfl rfl).mono ?_
 rintro e w1 ⟨gs,⟨wb,gw,rfl,hgw,rfl⟩,Ta⟩
 simp only [PU] at Ta
 have HT:=Lib.hid Ta
 clear Ta
 go_wp2
 go_ret2
 exact ⟨_,⟨_,_,rfl,⟨rb,lb,wb,gr,gl,gw,hgr,hgl,HWN.out _ _ hgw,rfl⟩,rfl⟩,(HT.out.alloc (k:=w1.heap.size) rfl 220 #[ptr' rb,ptr' lb,ptr' wb]).sum⟩
theorem shardW_open {b:Nat} {s:ShardS} {g:List Blk} (h:isShardW b s g):∃ (q:ShP) (g1 g2:List Blk),q.b=b∧isSh q s g1∧isWheel q.wb wheel0S g2∧g=g1++g2:=by
 obtain ⟨rb,lb,wb,gr,gl,gw,h1,h2,h3,rfl⟩:=h
 exact ⟨⟨b,rb,lb,wb⟩,_,gw,rfl,⟨gr,gl,h1,h2,rfl⟩,h3,by simp [shardB]⟩
theorem famW_open:∀ {l:List (Nat × ShardS)} {g:List Blk},FamP (fun (x:Nat × ShardS)=>isShardW x.1 x.2) l g→∃ (qs:List ShP) (g1 g2:List Blk),qs.map ShP.b=l.map Prod.fst∧FamP (fun (z:ShP × ShardS)=>isSh z.1 z.2) (qs.zip (l.map Prod.snd)) g1 ∧
 FamP (fun (z:ShP × WheelS)=>isWheel z.1.wb z.2) (qs.zip (List.replicate l.length wheel0S)) g2∧g.Perm (g1++g2)
 | [],_,h=>by cases h;exact ⟨[],[],[],rfl,rfl,rfl,List.Perm.refl _⟩
 | a::l,_,h=>by
   obtain ⟨u,v,hu,hv,rfl⟩:=h
   obtain ⟨q,ga,gb,hq,hs,hw,rfl⟩:=shardW_open hu
   obtain ⟨qs,g1,g2,h1,h2,h3,h4⟩:=famW_open hv
   refine ⟨q::qs,ga++g1,gb++g2,by simp [hq,h1],⟨ga,g1,hs,h2,rfl⟩,⟨gb,g2,hw,h3,rfl⟩,?_⟩
   refine (List.Perm.append_left _ h4).trans ?_
   classical
   refine List.perm_iff_count.2 fun a=>?_
   simp only [List.count_append]
   omega
def fires (l:List FireS):List Value:=flatV (l.map fun f=>f.vals.toArray)
def isLog (lb:Nat) (l:List FireS) (g:List Blk):Prop:=∃ v gr,rowG 69 4 v l.length (fires l) gr∧g=[cl lb 214 #[v]]++gr
structure ZF where
 x:CoreS
 ws:List WheelS
 p:PipeS
 lg:List FireS
def isZ (L:Lay) (z:ZF) (g:List Blk):Prop:=∃ gT gL,isTF L z.x z.ws z.p gT∧isLog L.p.lb z.lg gL∧g=gT++gL
def zf0 (c:Cfg):ZF:=⟨core0 c,List.replicate c.sh.toNat wheel0S,newPipe c.room.toNat,[]⟩
theorem pipe_emptyN {n pb:Nat} {g:List Blk} (h:emptyPipeN n pb g):isPipe pb (newPipe n) g:=by
 obtain ⟨cb,lb,hb,rfl⟩:=h
 exact ⟨cb,lb,hb,0,0,[],_,⟨(by intro a h;cases h),rfl⟩,rfl,by simp [noList,nodesB,nxV,lsV,pipeB,newPipe]⟩
theorem newFull (c:Cfg) (hk:c.ok=true):DoesG Tryz.prog 16 #[.agg c.cells] [] fun e gs =>
 ∃ L g,e=.returned (.tuple #[ptr' L.fb,.int .i64 0])∧isZ L (zf0 c) g∧gs=[g]:=by
 refine (floorNew_gP shardNewW_g c hk).post ?_
 rintro e gs ⟨fb,p,shs,gF,gS,gR,gH,gP,gL,he,ha,hlen,hall,rfl⟩
 obtain ⟨qs,g1,g2,h1,h2,h3,h4⟩:=famW_open ha.shards
 have hn:shs.length=c.sh.toNat:=by omega
 have hsn:shs.map Prod.snd=List.replicate c.sh.toNat (newShard c.ring.toNat):=by
  rw [List.eq_replicate_iff]
  refine ⟨by simp;omega,fun b hb=>?_⟩
  obtain ⟨a,ha',rfl⟩:=List.mem_map.1 hb
  exact hall a ha'
 have hq:qs.length=c.sh.toNat:=by
  have:=congrArg List.length h1
  simp only [List.length_map] at this
  omega
 refine ⟨[gF++(gS++(gR++(g1++[])))++(g2++gP)++gL],⟨⟨fb,p,qs⟩,_,he,⟨gF++(gS++(gR++(g1++[])))++(g2++gP),gL,⟨_,g2,gP,⟨_,gF,gS,gR,g1,[],ha.floor,ha.slab,?_,?_,?_,trG_nil,rfl⟩,⟨?_,?_⟩,pipe_emptyN ha.pipeN,rfl⟩,⟨.slice none 0 0,[],rowG_nil _ _,?_⟩,rfl⟩,rfl⟩,?_⟩
 ·show rowG _ 1 p.sh (qs.map ShP.b).length ((qs.map ShP.b).map fun b=>ptr' b) gR
  have:=ha.row
  rw [h1,List.length_map,List.map_map]
  exact this
 ·show qs.length=(List.replicate _ _).length
  rw [List.length_replicate];exact hq
 ·show FamP _ (qs.zip (List.replicate _ _)) g1
  rw [← hsn];exact h2
 ·show (List.replicate _ _).length=qs.length
  rw [List.length_replicate];exact hq.symm
 ·show FamP _ (qs.zip (List.replicate _ _)) g2
  rw [← hn];exact h3
 ·rw [ha.log];simp
 ·classical
  refine List.perm_iff_count.2 fun a=>?_
  have:=(List.perm_iff_count.1 h4) a
  simp only [List.flatten_cons,List.flatten_nil,List.append_nil,List.count_append] at this ⊢
  omega
end
section
open Go.RowKit Go.Shelf
def WEnt (P:EntS→Prop) (w:WheelS):Prop:=(∀ l∈w.lv,∀ s∈l,∀ e∈s,P e)∧∀ e∈w.by_,P e
section
variable {P:EntS→Prop} {w:WheelS}
theorem mem_modify {α:Type} {f:α→α} {b:α}:∀ {l:List α} {k:Nat},b∈l.modify k f→b∈l∨∃ a∈l,b=f a:=by
 intro l k hb
 obtain ⟨i,hi⟩:=List.getElem?_of_mem hb
 rw [List.getElem?_modify] at hi
 cases ha:l[i]? with
 | none=>rw [ha] at hi;simp at hi
 | some a =>
   rw [ha] at hi
   have hm:=List.mem_of_getElem? ha
   by_cases hk:k=i
   ·simp [hk] at hi;exact .inr ⟨a,hm,hi.symm⟩
   ·simp [hk] at hi;exact .inl (hi ▸ hm)
theorem WEnt.place (h:WEnt P w) {e:EntS} (he:P e):WEnt P (w.place e):=by
 unfold WheelS.place
 split
 ·refine ⟨h.1,fun x hx=>?_⟩
  rcases List.mem_append.1 hx with hx | hx
  ·exact h.2 x hx
  ·rw [List.mem_singleton.1 hx];exact he
 ·refine ⟨fun l hl s hs x hx=>?_,h.2⟩
  rcases mem_modify hl with hl | ⟨l0,hl0,rfl⟩
  ·exact h.1 l hl s hs x hx
  ·rcases mem_modify hs with hs | ⟨s0,hs0,rfl⟩
   ·exact h.1 l0 hl0 s hs x hx
   ·rcases List.mem_append.1 hx with hx | hx
    ·exact h.1 l0 hl0 s0 hs0 x hx
    ·rw [List.mem_singleton.1 hx];exact he
theorem WEnt.placeL:∀ (l:List EntS) {w:WheelS},WEnt P w→(∀ e∈l,P e)→WEnt P (w.placeL l)
 | [],_,h,_=>h
 | a::l,w,h,hl=>by
   show WEnt P ((w.place a).placeL l)
   exact WEnt.placeL l (h.place (hl a List.mem_cons_self)) fun e he=>hl e (List.mem_cons_of_mem _ he)
theorem WEnt.slot (h:WEnt P w) (l k:Nat):∀ e∈w.slot l k,P e:=by
 intro e he
 unfold WheelS.slot at he
 rw [List.getD_eq_getElem?_getD] at he
 cases h1:(w.lv.getD l [])[k]? with
 | none=>rw [h1] at he;cases he
 | some s =>
   rw [h1] at he
   have hs:=List.mem_of_getElem? h1
   rw [List.getD_eq_getElem?_getD] at hs
   cases h2:w.lv[l]? with
   | none=>rw [h2] at hs;cases hs
   | some x=>rw [h2] at hs;exact h.1 x (List.mem_of_getElem? h2) s hs e he
theorem WEnt.clear (h:WEnt P w) (l k:Nat):WEnt P (w.clear l k):=by
 refine ⟨fun x hx s hs e he=>?_,h.2⟩
 rcases mem_modify hx with hx | ⟨l0,hl0,rfl⟩
 ·exact h.1 x hx s hs e he
 ·rcases List.mem_or_eq_of_mem_set hs with hs | rfl
  ·exact h.1 l0 hl0 s hs e he
  ·cases he
theorem WEnt.again (h:WEnt P w) (l:Nat):WEnt P (w.again l):=WEnt.placeL _ (h.clear _ _) (h.slot _ _)
theorem WEnt.down:∀ (n:Nat) {w:WheelS},WEnt P w→WEnt P (w.down n)
 | 0,_,h=>h
 | n+1,_,h=>WEnt.down n (h.again _)
theorem WEnt.adv (h:WEnt P w):WEnt P w.adv.1∧∀ e∈w.adv.2,P e:=by
 have h1:=WEnt.down (min (zerosT (w.now+1)) 3) (show WEnt P { w with now:=w.now+1 } from h)
 exact ⟨h1.clear _ _,h1.slot _ _⟩
end
structure WheelN (N:Nat) (S:WheelS):Prop where
 sh:S.Sh
 now:S.now≤N
 tot:totS S≤N
 ent:WEnt (fun e=>TaskOk e.v) S
theorem WheelN.ok {N:Nat} {S:WheelS} (h:WheelN N S) (hN:N<1000000):WheelOk S:=⟨h.sh,by have:=h.now;omega,by have:=h.tot;omega⟩
theorem WheelN.mono {N M:Nat} {S:WheelS} (h:WheelN N S) (hm:N≤M):WheelN M S:=⟨h.sh,by have:=h.now;omega,by have:=h.tot;omega,h.ent⟩
structure RestN (N:Nat) (x:CoreS) (ws:List WheelS) (p:PipeS):Prop where
 now:0≤x.f.now∧x.f.now≤N
 busy:0≤x.f.busy∧x.f.busy≤N
 cap:x.f.cfg.cap=x.slab.recs.length
 wl:ws.length=x.shs.length
 wok:∀ w∈ws,WheelN N w
 task:∀ s∈x.shs,∀ e∈s.ring.slots,TaskOk e.v
 turns:∀ s∈x.shs,0≤s.turns∧s.turns≤N
 ch:p.ch.length≤p.room
 sp:p.sp.length≤N
structure ZN (N:Nat) (z:ZF):Prop where
 core:CoreN N z.x
 rest:RestN N z.x z.ws z.p
 lg:z.lg.length≤N
theorem RestN.mono {N M:Nat} {x:CoreS} {ws:List WheelS} {p:PipeS} (h:RestN N x ws p) (hm:N≤M):RestN M x ws p :=
 ⟨by have:=h.now;omega,by have:=h.busy;omega,h.cap,h.wl,fun w hw=>(h.wok w hw).mono hm,h.task,fun s hs=>by have:=h.turns s hs;omega,h.ch,by have:=h.sp;omega⟩
theorem ZN.mono {N M:Nat} {z:ZF} (h:ZN N z) (hm:N≤M):ZN M z:=⟨h.core.mono hm,h.rest.mono hm,by have:=h.lg;omega⟩
end
section
open Go.RowKit Go.Shelf
end
section
open Go.RowKit Go.Shelf
def TaskG (t:TaskS):Prop:=TaskOk t∧0≤t.slot
structure TurnN (N:Nat) (k:TurnS) (x:CoreS):Prop where
 th:0≤k.th
 saw:0≤k.saw∧k.saw<18446744073709551616∧okW k.saw=true
 t:TaskOk k.t
 dl:k.due.length≤N
 due:∀ t∈k.due,TaskG t
 sh:∀ i,k.s=some i→i<x.shs.length
def WSlot (ws:List WheelS):Prop:=∀ w∈ws,WEnt (fun e=>0≤e.v.slot) w
structure TB (N:Nat) (z:ZT):Prop where
 core:CoreN N z.x
 rest:RestN N z.x z.ws z.p
 k:TurnN N z.k z.x
 ws:WSlot z.ws
 sh4:z.x.shs.length≤4
def FitG (s:ST) (k:TurnS):Prop:=match s with
 | .at none .looks=>0≤k.t.slot
 | .at none .claims=>0≤k.t.slot
 | .thn (.row1 (.put _)) .claims2=>0≤k.t.slot
 | .at none .behind=>0≤k.t.slot
 | .at none (.rearm1 next)=>0≤k.t.slot∧0≤next∧next<18446744073709551616∧k.t.gen≤4294967295
 | .at none .finishes=>0≤k.t.slot
 | .row2 .rel .drop=>0≤k.t.slot
 | .row1 .drop=>0≤k.t.slot
 | _=>False
def FitP (s:ST) (k:TurnS) (i:Nat):Prop:=match s with
 | .at (some (.ready j)) (.pops1 n)=>j=i∧0≤n∧n≤1000000
 | .thn (.at none .rec1) (.pops11 n)=>0≤k.t.slot∧0≤n∧n≤1000000
 | .thn (.at none .rec11) (.pops11 n)=>0≤k.t.slot∧0≤n∧n≤1000000
 | _=>False
def Own (k:TurnS) (x:CoreS):Prop:=(x.shs.getD (k.s.getD 0) (newShard 1)).who=k.th+1
def FitX (s:ST) (k:TurnS) (x:CoreS) (i:Nat):Prop:=match s with
 | .at (some .lock) (.one2 d)=>CurK d k
 | .at none (.one21 d)=>CurK d k∧Own k x
 | .thn (.row1 (.turnA d)) (.one2112 e)=>CurK d k∧e=d∧Own k x
 | .thn P (.one211 d)=>CurK d k∧Own k x∧FitP P k i
 | .thn (.thn G (.fires1 d n)) .one21121=>CurK d k∧Own k x∧n≤1000000∧n<k.due.length∧FitG G k
 | .row1 .unlock=>Own k x
 | _=>False
where CurK (d:Nat) (k:TurnS):Prop:=k.nd=d+1
def FitT (s:ST) (k:TurnS) (x:CoreS):Prop:=match s with
 | .nil=>True
 | .at none .enter=>x.f.closed=true∨k.th≤1000000
 | .at none .gate=>x.f.closed=true∨k.th≤1000000
 | .at none .tick=>k.th≤1000000
 | .row2 .leave1 .answer=>True
 | .row1 .answer=>True
 | .thn X (.shards1 i)=>k.s=some i∧i<x.shs.length∧k.th≤1000000∧FitX X k x i
 | _=>False
structure JT (N:Nat) (s:ST) (z:ZT):Prop where
 b:TB N z
 fit:FitT s z.k z.x
theorem TurnN.mono {N M:Nat} {k:TurnS} {x:CoreS} (h:TurnN N k x) (hm:N≤M):TurnN M k x:=⟨h.th,h.saw,h.t,by have:=h.dl;omega,h.due,h.sh⟩
theorem TB.mono {N M:Nat} {z:ZT} (h:TB N z) (hm:N≤M):TB M z:=⟨h.core.mono hm,h.rest.mono hm,h.k.mono hm,h.ws,h.sh4⟩
section
variable {N:Nat} {z:ZT}
theorem TB.ok (h:TB N z) (hN:N<1000000):TurnOk z :=
 ⟨h.core.ok (by omega),h.k.th,by have:=h.rest.now;omega,h.k.saw,h.k.t,by have:=h.k.dl;omega,h.rest.wl,fun w hw=>(h.rest.wok w hw).ok hN,h.k.sh,fun s hs=>by have:=h.rest.turns s hs;omega,⟨h.rest.ch,by have:=h.rest.sp;omega⟩⟩
theorem TB.onK (h:TB N z) {k:TurnS} (hk:TurnN N k z.x):TB N { z with k:=k }:=⟨h.core,h.rest,hk,h.ws,h.sh4⟩
theorem TB.note (h:TB N z) (E:EvS):TB (N+1) (z.note E):=by
 have h1:=h.rest.mono (M:=N+1) (by omega)
 have h2:=h.k.mono (M:=N+1) (by omega)
 exact ⟨noteN h.core _,⟨h1.now,h1.busy,h1.cap,h1.wl,h1.wok,h1.task,h1.turns,h1.ch,h1.sp⟩,⟨h2.th,h2.saw,h2.t,h2.dl,h2.due,h2.sh⟩,h.ws,h.sh4⟩
theorem TB.slab (h:TB N z) {s:SlabS} (hs:SlabOk s) (hl:s.recs.length=z.x.slab.recs.length):TB N { z with x:={ z.x with slab:=s } }:=by
 have h1:=h.rest
 exact ⟨core_slab h.core hs,⟨h1.now,h1.busy,by show z.x.f.cfg.cap=(s.recs.length:Int);rw [hl];exact h1.cap,h1.wl,h1.wok,h1.task,h1.turns,h1.ch,h1.sp⟩,⟨h.k.th,h.k.saw,h.k.t,h.k.dl,h.k.due,h.k.sh⟩,h.ws,h.sh4⟩
theorem TB.look (h:TB N z) (st:Int):TB N (lookTu st z).1:=h.onK ⟨h.k.th,word_bd h.core.slab _,h.k.t,h.k.dl,h.k.due,h.k.sh⟩
theorem TB.try (h:TB N z) (ev:Int):TB N (tryTu ev z).1:=by
 obtain ⟨a,b⟩:=try_ok h.core.slab z.k.t.slot z.k.saw ev
 exact h.slab a b
theorem shS_mem (h:TB N z) {i:Nat} (hi:z.k.s=some i):z.shS∈z.x.shs∧z.sh=i:=by
 have hlt:=h.k.sh i hi
 have e:z.sh=i:=by unfold ZT.sh;rw [hi];rfl
 refine ⟨?_,e⟩
 unfold ZT.shS
 rw [e,List.getD_eq_getElem?_getD,List.getElem?_eq_getElem hlt]
 exact List.getElem_mem hlt
theorem wh_mem (h:TB N z) {i:Nat} (hi:z.k.s=some i):z.wh∈z.ws:=by
 have hlt:=h.k.sh i hi
 have e:z.sh=i:=by unfold ZT.sh;rw [hi];rfl
 have hw:i<z.ws.length:=by rw [h.rest.wl];exact hlt
 unfold ZT.wh
 rw [e,List.getD_eq_getElem?_getD,List.getElem?_eq_getElem hw]
 exact List.getElem_mem hw
theorem TB.onSh (h:TB N z) {s:ShardS} (h1:RingN (N+1) s.ring) (h2:∀ e∈s.ring.slots,TaskOk e.v) (h3:0≤s.turns∧s.turns≤N+1):TB (N+1) (z.onSh s):=by
 have hr:=h.rest.mono (M:=N+1) (by omega)
 have hk:=h.k.mono (M:=N+1) (by omega)
 have hc:=h.core.mono (M:=N+1) (by omega)
 refine ⟨⟨hc.slab,hc.i0,hc.i1,hc.tr,by show 1≤(z.x.shs.set z.sh s).length;rw [List.length_set];exact hc.sh,ring_set hc.ring h1⟩,⟨hr.now,hr.busy,hr.cap,by show z.ws.length=(z.x.shs.set z.sh s).length;rw [List.length_set];exact hr.wl,hr.wok,fun a ha=>?_,fun a ha=>?_,hr.ch,hr.sp⟩,
  ⟨hk.th,hk.saw,hk.t,hk.dl,hk.due,fun i hi=>by show i<(z.x.shs.set z.sh s).length;rw [List.length_set];exact hk.sh i hi⟩,h.ws,by show (z.x.shs.set z.sh s).length≤4;rw [List.length_set];exact h.sh4⟩
 ·rcases List.mem_or_eq_of_mem_set ha with ha | rfl
  ·exact hr.task a ha
  ·exact h2
 ·rcases List.mem_or_eq_of_mem_set ha with ha | rfl
  ·exact hr.turns a ha
  ·exact_mod_cast h3
theorem TB.onWh (h:TB N z) {w:WheelS} (h1:WheelN (N+1) w) (h2:WEnt (fun e=>0≤e.v.slot) w):TB (N+1) { z with ws:=z.ws.set z.sh w }:=by
 have hr:=h.rest.mono (M:=N+1) (by omega)
 refine ⟨h.core.mono (M:=N+1) (by omega),⟨hr.now,hr.busy,hr.cap,by show (z.ws.set z.sh w).length=_;rw [List.length_set];exact hr.wl,fun a ha=>?_,hr.task,hr.turns,hr.ch,hr.sp⟩,h.k.mono (M:=N+1) (by omega),fun a ha=>?_,h.sh4⟩
 ·rcases List.mem_or_eq_of_mem_set ha with ha | rfl
  ·exact hr.wok a ha
  ·exact h1
 ·rcases List.mem_or_eq_of_mem_set ha with ha | rfl
  ·exact h.ws a ha
  ·exact h2
theorem armD_lt {w:WheelS} {t:TaskS} (ht:TaskOk t) (hn:w.now<1000000):(armD w t:Int)<18446744073709551616:=by
 have:=ht.dl
 unfold armD;omega
theorem arm_n (h:TB N z) (hN:N<1000000) {i:Nat} (hi:z.k.s=some i) (hs:0≤z.k.t.slot):TB (N+1) { z with ws:=z.ws.set z.sh (z.wh.place (armE z.wh z.k.t)) }:=by
 have hm:=wh_mem h hi
 have hw:=h.rest.wok _ hm
 have hd:=armD_lt (w:=z.wh) h.k.t (by have:=hw.now;omega)
 refine h.onWh ⟨WheelS.place_sh hw.sh _,?_,?_,hw.ent.place ⟨h.k.t.id,h.k.t.gen,⟨Int.natCast_nonneg _,hd⟩,h.k.t.per⟩⟩ ((h.ws _ hm).place hs)
 ·have e:(z.wh.place (armE z.wh z.k.t)).now=z.wh.now:=WheelS.placeL_now [armE z.wh z.k.t] z.wh
  rw [e];have:=hw.now;omega
 ·rw [totS_place hw.sh];have:=hw.tot;omega
theorem popR_n {N:Int} {r:RingS} (h:RingN N r):RingN (N+1) (popR r).1:=by
 unfold popR
 split
 ·exact ⟨by simp only [List.length_set];exact h.n0,by simp only [List.length_set];exact h.n1,h.t0,by have:=h.t1;simp only;omega,by have:=h.h0;simp only;omega,by have:=h.h1;simp only;omega⟩
 ·exact h.mono (by omega)
theorem taskZ:TaskOk TaskS.zero:=⟨by decide,by decide,by decide,by decide⟩
theorem popR_t {r:RingS} (h:∀ e∈r.slots,TaskOk e.v):(∀ e∈(popR r).1.slots,TaskOk e.v)∧TaskOk (popR r).2.1:=by
 have hz:=taskZ
 have hs:TaskOk (r.slot r.head).v:=by
  unfold RingS.slot
  rw [List.getD_eq_getElem?_getD]
  cases h1:r.slots[r.at r.head]? with
  | none=>exact hz
  | some e=>exact h e (List.mem_of_getElem? h1)
 unfold popR
 split
 ·refine ⟨fun e he=>?_,hs⟩
  rcases List.mem_or_eq_of_mem_set he with he | rfl
  ·exact h e he
  ·exact hz
 ·exact ⟨h,hz⟩
end
end
section
open Go.RowKit Go.Shelf
structure SameT (z z':ZT):Prop where
 s:z'.k.s=z.k.s
 nd:z'.k.nd=z.k.nd
 th:z'.k.th=z.k.th
 due:z'.k.due=z.k.due
 who:∀ j,(z'.x.shs.getD j (newShard 1)).who=(z.x.shs.getD j (newShard 1)).who
 len:z'.x.shs.length=z.x.shs.length
theorem SameT.refl (z:ZT):SameT z z:=⟨rfl,rfl,rfl,rfl,fun _=>rfl,rfl⟩
theorem SameT.own {z z':ZT} (h:SameT z z') (ho:Own z.k z.x):Own z'.k z'.x:=by
 unfold Own at ho ⊢
 rw [h.s,h.th,h.who];exact ho
theorem getD_set {α:Type} (l:List α) (i j:Nat) (a d:α) (hi:i<l.length):(l.set i a).getD j d=if i=j then a else l.getD j d:=by
 rw [List.getD_eq_getElem?_getD,List.getElem?_set,List.getD_eq_getElem?_getD]
 by_cases h:i=j
 ·subst h;simp [hi]
 ·simp [h]
section
variable {N:Nat} {z:ZT} {i:Nat}
theorem SameT.onSh {z':ZT} (h:SameT z z') (s:ShardS) (hs:s.who=z'.shS.who) (hi:z'.k.s=some i) (hlt:i<z'.x.shs.length):SameT z (z'.onSh s):=by
 refine ⟨h.s,h.nd,h.th,h.due,fun j=>?_,by show (z'.x.shs.set z'.sh s).length=_;rw [List.length_set];exact h.len⟩
 have e:z'.sh=i:=by unfold ZT.sh;rw [hi];rfl
 show ((z'.x.shs.set z'.sh s).getD j (newShard 1)).who=_
 rw [getD_set _ _ _ _ _ (by rw [e];exact hlt),← h.who]
 split
 ·next hj=>rw [hs,← hj];rfl
 ·rfl
theorem TB.noteL (h:TB N z) (ht:z.x.tr.length+1≤N) (E:EvS):TB N (z.note E):=by
 have hc:=h.core
 have h1:=h.rest
 exact ⟨⟨hc.slab,hc.i0,hc.i1,by show (z.x.tr++[_]).length≤_;rw [List.length_append];exact ht,hc.sh,hc.ring⟩,⟨h1.now,h1.busy,h1.cap,h1.wl,h1.wok,h1.task,h1.turns,h1.ch,h1.sp⟩,⟨h.k.th,h.k.saw,h.k.t,h.k.dl,h.k.due,h.k.sh⟩,h.ws,h.sh4⟩
theorem armT_n (h:TB N z) (hN:N<1000000) (hi:z.k.s=some i) (hs:0≤z.k.t.slot):TB (N+1) (armT z) :=
 (arm_n h hN hi hs).noteL (by have:=h.core.tr;show z.x.tr.length+1≤N+1;omega) _
theorem put_n (h:TB N z) (f:FireS):TB (N+1) { z with p:=(z.p.put f).1 }:=by
 have h0:=h.mono (M:=N+1) (by omega)
 have h1:=h0.rest
 have h2:=h.rest
 refine ⟨h0.core,⟨h1.now,h1.busy,h1.cap,h1.wl,h1.wok,h1.task,h1.turns,?_,?_⟩,h0.k,h0.ws,h0.sh4⟩
 ·unfold PipeS.put
  split
  ·exact h1.ch
  ·split
   ·next hh=>simp only [List.length_append,List.length_cons,List.length_nil];omega
   ·exact h1.ch
 ·unfold PipeS.put
  split
  ·exact h1.sp
  ·split
   ·exact h1.sp
   ·simp only [List.length_append,List.length_cons,List.length_nil];have:=h2.sp;omega
theorem gen_bd {w:Int} (hk:okW w=true):genW w≤4294967295:=by
 unfold genW
 rw [if_pos hk]
 simp only [okW,Bool.and_eq_true,decide_eq_true_eq] at hk
 omega
abbrev runX (s:ST) (z:ZT):ST × ZT:=St.run runT runAT s z
abbrev preX (s:ST) (z:ZT):Prop:=St.pre runT runAT preT preAT s z
structure OutG (N:Nat) (z:ZT) (F:ST→TurnS→Prop) (r:ST × ZT):Prop where
 b:TB (N+1) r.2
 same:SameT z r.2
 fit:r.1=.nil∨F r.1 r.2.k
theorem stepG (h:TB N z) (hN:N<999999) (hi:z.k.s=some i) {G:ST} (hf:FitG G z.k):preX G z∧OutG N z FitG (runX G z):=by
 have ho:=h.ok (by omega)
 have h1:=h.mono (M:=N+1) (by omega)
 match G,hf with
 | .at none .looks,hf =>
   refine ⟨⟨ho,trivial⟩,?_⟩
   show OutG N z FitG (if (lookTu 3 z).2=true then (.at none .claims,(lookTu 3 z).1) else (.nil,(lookTu 3 z).1))
   split
   ·exact ⟨h1.look 3,⟨rfl,rfl,rfl,rfl,fun _=>rfl,rfl⟩,.inr hf⟩
   ·exact ⟨h1.look 3,⟨rfl,rfl,rfl,rfl,fun _=>rfl,rfl⟩,.inl rfl⟩
 | .at none .claims,hf =>
   refine ⟨⟨ho,trivial⟩,?_⟩
   show OutG N z FitG (if (tryTu 4 z).2=true then _ else _)
   split
   ·exact ⟨(h.try 4).note _,⟨rfl,rfl,rfl,rfl,fun _=>rfl,rfl⟩,.inr hf⟩
   ·exact ⟨h1.try 4,⟨rfl,rfl,rfl,rfl,fun _=>rfl,rfl⟩,.inr hf⟩
 | .thn (.row1 (.put f)) .claims2,hf =>
   have hp:=put_n h f
   exact ⟨⟨⟨ho,trivial⟩,fun _=>⟨hp.ok (by omega),trivial⟩⟩,⟨hp,⟨rfl,rfl,rfl,rfl,fun _=>rfl,rfl⟩,.inr hf⟩⟩
 | .at none .behind,hf =>
   refine ⟨⟨ho,trivial⟩,?_⟩
   have hw:=word_bd h.core.slab z.k.t.slot
   have hb:TB (N+1) { z with k:={ z.k with saw:=z.x.slab.word z.k.t.slot } }:=h1.onK ⟨h1.k.th,hw,h1.k.t,h1.k.dl,h1.k.due,h1.k.sh⟩
   have hd:=h.k.t.dl
   have hpr:=h.k.t.per
   show OutG N z FitG (if stW (z.x.slab.word z.k.t.slot)≠4∨genW (z.x.slab.word z.k.t.slot)≠z.k.t.gen then _ else if _ then _ else _)
   split
   ·exact ⟨hb,⟨rfl,rfl,rfl,rfl,fun _=>rfl,rfl⟩,.inl rfl⟩
   ·next hg =>
    split
    ·next hc =>
     have hgb:=gen_bd hw.2.2
     have e:genW (z.x.slab.word z.k.t.slot)=z.k.t.gen:=Decidable.byContradiction fun h=>hg (.inr h)
     exact ⟨hb,⟨rfl,rfl,rfl,rfl,fun _=>rfl,rfl⟩,.inr ⟨hf,by omega,hc.2.2,by show z.k.t.gen≤_;omega⟩⟩
    ·exact ⟨hb,⟨rfl,rfl,rfl,rfl,fun _=>rfl,rfl⟩,.inr hf⟩
 | .at none (.rearm1 next),hf =>
   obtain ⟨hs,hn0,hn1,hg⟩:=hf
   refine ⟨⟨ho,⟨i,hi⟩,hs,hn0,hn1⟩,?_⟩
   show OutG N z FitG (if (tryTu 5 z).2=true then _ else _)
   split
   ·have ht:=h.try 5
    have hb:TB N { (tryTu 5 z).1 with k:={ z.k with t:={ z.k.t with gen:=z.k.t.gen+1,dl:=next } } } :=
     ht.onK ⟨h.k.th,h.k.saw,⟨h.k.t.id,by have:=h.k.t.gen;show 0≤z.k.t.gen+1∧z.k.t.gen+1≤_;omega,⟨hn0,hn1⟩,h.k.t.per⟩,h.k.dl,h.k.due,h.k.sh⟩
    exact ⟨armT_n hb (by omega) hi hs,⟨rfl,rfl,rfl,rfl,fun _=>rfl,rfl⟩,.inl rfl⟩
   ·exact ⟨h1.try 5,⟨rfl,rfl,rfl,rfl,fun _=>rfl,rfl⟩,.inr hs⟩
 | .at none .finishes,hf =>
   refine ⟨⟨ho,trivial⟩,?_⟩
   show OutG N z FitG (if (tryTu 9 z).2=true then (_,if _ then _ else _) else _)
   split
   ·split
    ·exact ⟨(h.try 9).note _,⟨rfl,rfl,rfl,rfl,fun _=>rfl,rfl⟩,.inr hf⟩
    ·exact ⟨h1.try 9,⟨rfl,rfl,rfl,rfl,fun _=>rfl,rfl⟩,.inr hf⟩
   ·exact ⟨h1.try 9,⟨rfl,rfl,rfl,rfl,fun _=>rfl,rfl⟩,.inr hf⟩
 | .row2 .rel .drop,hf =>
   obtain ⟨a,b⟩:=try_ok h1.core.slab z.k.t.slot (z.x.slab.word z.k.t.slot) 10
   exact ⟨⟨ho,trivial⟩,⟨h1.slab a b,⟨rfl,rfl,rfl,rfl,fun _=>rfl,rfl⟩,.inr hf⟩⟩
 | .row1 .drop,hf =>
   obtain ⟨a,b⟩:=drop_ok h1.core.slab
   exact ⟨⟨ho,trivial⟩,⟨h1.slab a b,⟨rfl,rfl,rfl,rfl,fun _=>rfl,rfl⟩,.inl rfl⟩⟩
theorem popsT_fit (hi:z.k.s=some i) {n:Int} (hn:n≤1000000) (k:TurnS):popsT n z=.nil∨FitP (popsT n z) k i:=by
 have e:z.sh=i:=by unfold ZT.sh;rw [hi];rfl
 unfold popsT
 split
 ·exact .inl rfl
 ·exact .inr ⟨e,by omega,hn⟩
def popZ (z:ZT):ZT:={ (z.onSh { z.shS with ring:=(popR z.shS.ring).1 }) with k:={ z.k with t:=(popR z.shS.ring).2.1 } }
theorem popZ_n (h:TB N z) (hi:z.k.s=some i):TB (N+1) (popZ z)∧SameT z (popZ z):=by
 obtain ⟨hm,he⟩:=shS_mem h hi
 have hr:=h.core.ring _ hm
 obtain ⟨t1,t2⟩:=popR_t (h.rest.task _ hm)
 have hb:=h.onSh (s:={ z.shS with ring:=(popR z.shS.ring).1 }) (popR_n hr) t1 (by have:=h.rest.turns _ hm;show 0≤z.shS.turns∧z.shS.turns≤_;omega)
 exact ⟨hb.onK ⟨hb.k.th,hb.k.saw,t2,hb.k.dl,hb.k.due,hb.k.sh⟩,(by
  have hs:=(SameT.refl z).onSh { z.shS with ring:=(popR z.shS.ring).1 } rfl hi (h.k.sh i hi)
  exact ⟨hs.s,hs.nd,hs.th,hs.due,hs.who,hs.len⟩)⟩
theorem stepP (h:TB N z) (hN:N<999999) (hi:z.k.s=some i) {P:ST} (hf:FitP P z.k i):preX P z∧OutG N z (fun s k=>FitP s k i) (runX P z):=by
 have ho:=h.ok (by omega)
 have h1:=h.mono (M:=N+1) (by omega)
 match P,hf with
 | .at (some (.ready j)) (.pops1 n),hf =>
   obtain ⟨hb,hs⟩:=popZ_n h hi
   obtain ⟨rfl,hn0,hn1⟩:=hf
   have e2:(runT (.pops1 n) z).2=popZ z:=by dsimp only [runT,popZ];split <;> rfl
   refine ⟨⟨ho,⟨j,hi⟩,hn0,hn1,by rw [e2];exact hb.ok (by omega)⟩,?_⟩
   show OutG N z _ (if (popZ z).k.t.slot<0 then (popsT (n - 1) (popZ z),popZ z) else (.thn (.at none .rec1) (.pops11 n),popZ z))
   split
   ·exact ⟨hb,hs,popsT_fit (z:=popZ z) hi (by omega) _⟩
   ·next hh=>exact ⟨hb,hs,.inr ⟨by show 0≤(popZ z).k.t.slot;omega,hn0,hn1⟩⟩
 | .thn (.at none .rec1) (.pops11 n),hf =>
   obtain ⟨hs,hn0,hn1⟩:=hf
   have hl:=h1.look 2
   refine ⟨⟨⟨ho,trivial⟩,fun _=>⟨?_,?_,hn0,hn1⟩⟩,?_⟩
   ·show TurnOk (if (lookTu 2 z).2=true then (.at none .rec11,(lookTu 2 z).1) else (.nil,(lookTu 2 z).1):ST × ZT).2
    split <;> exact hl.ok (by omega)
   ·show HasSh (if (lookTu 2 z).2=true then (.at none .rec11,(lookTu 2 z).1) else (.nil,(lookTu 2 z).1):ST × ZT).2
    split <;> exact ⟨i,hi⟩
   ·show OutG N z _ (thenSt runT (if (lookTu 2 z).2=true then (.at none .rec11,(lookTu 2 z).1) else (.nil,(lookTu 2 z).1):ST × ZT).1 (.pops11 n) (if (lookTu 2 z).2=true then (.at none .rec11,(lookTu 2 z).1) else (.nil,(lookTu 2 z).1):ST × ZT).2)
    split
    ·exact ⟨hl,⟨rfl,rfl,rfl,rfl,fun _=>rfl,rfl⟩,.inr ⟨hs,hn0,hn1⟩⟩
    ·exact ⟨hl,⟨rfl,rfl,rfl,rfl,fun _=>rfl,rfl⟩,popsT_fit (z:=(lookTu 2 z).1) hi (by omega) _⟩
 | .thn (.at none .rec11) (.pops11 n),hf =>
   obtain ⟨hs,hn0,hn1⟩:=hf
   have ht:=h.try 3
   have ha:=armT_n ht (by omega) hi hs
   have h2:=h1.try 3
   have er:receivesT (tryTu 3 z).1=.at none .rec1:=if_neg (by show ¬ z.k.t.slot<0;omega)
   refine ⟨⟨⟨ho,⟨i,hi⟩,hs⟩,fun _=>⟨?_,?_,hn0,hn1⟩⟩,?_⟩
   ·show TurnOk (if (tryTu 3 z).2=true then (.nil,armT (tryTu 3 z).1) else (receivesT (tryTu 3 z).1,(tryTu 3 z).1):ST × ZT).2
    split
    ·exact ha.ok (by omega)
    ·exact h2.ok (by omega)
   ·show HasSh (if (tryTu 3 z).2=true then (.nil,armT (tryTu 3 z).1) else (receivesT (tryTu 3 z).1,(tryTu 3 z).1):ST × ZT).2
    split <;> exact ⟨i,hi⟩
   ·show OutG N z _ (thenSt runT (if (tryTu 3 z).2=true then (.nil,armT (tryTu 3 z).1) else (receivesT (tryTu 3 z).1,(tryTu 3 z).1):ST × ZT).1 (.pops11 n) (if (tryTu 3 z).2=true then (.nil,armT (tryTu 3 z).1) else (receivesT (tryTu 3 z).1,(tryTu 3 z).1):ST × ZT).2)
    split
    ·exact ⟨ha,⟨rfl,rfl,rfl,rfl,fun _=>rfl,rfl⟩,popsT_fit (z:=armT (tryTu 3 z).1) hi (by omega) _⟩
    ·rw [er]
     exact ⟨h2,⟨rfl,rfl,rfl,rfl,fun _=>rfl,rfl⟩,.inr ⟨hs,hn0,hn1⟩⟩
structure OutX (N:Nat) (z:ZT) (i:Nat) (r:ST × ZT):Prop where
 b:TB (N+1) r.2
 s:r.2.k.s=some i
 len:r.2.x.shs.length=z.x.shs.length
 th:r.2.k.th=z.k.th
 fit:r.1=.nil∨FitX r.1 r.2.k r.2.x i
theorem OutG.x {r:ST × ZT} {F:ST→TurnS→Prop} (hi:z.k.s=some i) (o:OutG N z F r) {s':ST} (hf:FitX s' r.2.k r.2.x i):OutX N z i (s',r.2):=⟨o.b,o.same.s.trans hi,o.same.len,o.same.th,.inr hf⟩
theorem one211_x {z':ZT} (hb:TB (N+1) z') (hs:z'.k.s=some i) (hl:z'.x.shs.length=z.x.shs.length) (ht:z'.k.th=z.k.th) {d:Nat} (hc:FitX.CurK d z'.k) (ho:Own z'.k z'.x):OutX N z i (one211T d z') :=
 ⟨hb,hs,hl,ht,.inr ⟨hc,rfl,ho⟩⟩
theorem fires_x {z':ZT} (hb:TB (N+1) z') (hN:N<999999) (hs:z'.k.s=some i) (hl:z'.x.shs.length=z.x.shs.length) (hth:z'.k.th=z.k.th) {d n:Nat} (hc:FitX.CurK d z'.k) (ho:Own z'.k z'.x) (hn:n≤z'.k.due.length) :
 ((firesT d n z').1=.nil∧(firesT d n z').2=z')∨∃ t,z'.k.due[n]?=some t∧firesT d n z'=(.thn (.at none .looks) (.fires1 d n),{ z' with k:={ z'.k with t:=t } })∧OutX N z i (.thn (firesT d n z').1 .one21121,(firesT d n z').2):=by
 unfold firesT
 cases ht:z'.k.due[n]? with
 | none=>exact .inl ⟨rfl,rfl⟩
 | some t =>
   have hlt:=(List.getElem?_eq_some_iff.1 ht).1
   have htg:=hb.k.due t (List.mem_of_getElem? ht)
   exact .inr ⟨t,rfl,rfl,hb.onK ⟨hb.k.th,hb.k.saw,htg.1,hb.k.dl,hb.k.due,hb.k.sh⟩,hs,hl,hth,.inr ⟨hc,ho,by have:=hb.k.dl;omega,hlt,htg.2⟩⟩
theorem isNil_of {P:ST} {k:TurnS} {i:Nat} (h:FitP P k i):P.isNil=false:=by
 cases P <;> first | rfl | exact h.elim
theorem isNil_ofG {G:ST} {k:TurnS} (h:FitG G k):G.isNil=false:=by
 cases G <;> first | rfl | exact h.elim
theorem thenSt_not {M A Y α:Type} {runM:M→α→St M A Y × α} {s:St M A Y} (h:s.isNil=false) (m:M) (x:α):thenSt runM s m x=(.thn s m,x):=by
 cases s <;> first | rfl | cases h
theorem FitX_pop {P:ST} {d:Nat} {k:TurnS} {x:CoreS} {i:Nat} (hc:FitX.CurK d k) (ho:Own k x) (h:FitP P k i):FitX (.thn P (.one211 d)) k x i:=by
 match P,h with
 | .at (some (.ready j)) (.pops1 n),h=>exact ⟨hc,ho,h⟩
 | .thn (.at none .rec1) (.pops11 n),h=>exact ⟨hc,ho,h⟩
 | .thn (.at none .rec11) (.pops11 n),h=>exact ⟨hc,ho,h⟩
theorem popX (h:TB N z) (hN:N<999999) (hi:z.k.s=some i) {d:Nat} (hc:FitX.CurK d z.k) (ho:Own z.k z.x) {P:ST} (q1:preX P z) (q2:OutG N z (fun s k=>FitP s k i) (runX P z)) :
 preX (.thn P (.one211 d)) z∧OutX N z i (runX (.thn P (.one211 d)) z):=by
 refine ⟨⟨q1,fun _=>⟨q2.b.ok (by omega),⟨i,q2.same.s.trans hi⟩,q2.same.nd.trans hc⟩⟩,?_⟩
 show OutX N z i (thenSt runT (runX P z).1 (.one211 d) (runX P z).2)
 rcases q2.fit with hn | hf
 ·rw [hn]
  exact one211_x q2.b (q2.same.s.trans hi) q2.same.len q2.same.th (q2.same.nd.trans hc) (q2.same.own ho)
 ·rw [thenSt_not (isNil_of hf)]
  exact ⟨q2.b,q2.same.s.trans hi,q2.same.len,q2.same.th,.inr (FitX_pop (q2.same.nd.trans hc) (q2.same.own ho) hf)⟩
theorem firesX (h:TB N z) (hN:N<999999) (hi:z.k.s=some i) {d n:Nat} (hc:FitX.CurK d z.k) (ho:Own z.k z.x) (hn:n≤1000000) (hnd:n<z.k.due.length) {G:ST} (q1:preX G z) (q2:OutG N z FitG (runX G z)) :
 preX (.thn (.thn G (.fires1 d n)) .one21121) z∧OutX N z i (runX (.thn (.thn G (.fires1 d n)) .one21121) z):=by
 have hs:=q2.same.s.trans hi
 have hcc:FitX.CurK d (runX G z).2.k:=q2.same.nd.trans hc
 have hoo:=q2.same.own ho
 have hle:n+1≤(runX G z).2.k.due.length:=by rw [q2.same.due];omega
 have hp1:(runX G z).1.isNil=true→preT (.fires1 d n) (runX G z).2:=fun _=>⟨q2.b.ok (by omega),⟨i,hs⟩,hcc,hn⟩
 have e0:runX (.thn G (.fires1 d n)) z=thenSt runT (runX G z).1 (.fires1 d n) (runX G z).2:=rfl
 have e1:runX (.thn (.thn G (.fires1 d n)) .one21121) z=thenSt runT (runX (.thn G (.fires1 d n)) z).1 .one21121 (runX (.thn G (.fires1 d n)) z).2:=rfl
 refine ⟨⟨⟨q1,hp1⟩,?_⟩,?_⟩
 ·show (runX (.thn G (.fires1 d n)) z).1.isNil=true→preT .one21121 (runX (.thn G (.fires1 d n)) z).2
  rw [e0]
  rcases q2.fit with hnil | hf
  ·rw [hnil]
   show (firesT d (n+1) (runX G z).2).1.isNil=true→preT .one21121 (firesT d (n+1) (runX G z).2).2
   rcases fires_x q2.b hN hs q2.same.len q2.same.th hcc hoo hle with ⟨h1,h2⟩ | ⟨t,h1,h2,h3⟩
   ·rw [h2];exact fun _=>⟨q2.b.ok (by omega),i,hs⟩
   ·rw [h2];intro hh;cases hh
  ·rw [thenSt_not (isNil_ofG hf)];intro hh;cases hh
 ·rw [e1,e0]
  rcases q2.fit with hnil | hf
  ·rw [hnil]
   show OutX N z i (thenSt runT (firesT d (n+1) (runX G z).2).1 .one21121 (firesT d (n+1) (runX G z).2).2)
   rcases fires_x q2.b hN hs q2.same.len q2.same.th hcc hoo hle with ⟨h1,h2⟩ | ⟨t,h1,h2,h3⟩
   ·rw [h1,h2]
    exact ⟨q2.b,hs,q2.same.len,q2.same.th,.inr hoo⟩
   ·rw [h2] at h3 ⊢;exact h3
  ·rw [thenSt_not (isNil_ofG hf)]
   exact ⟨q2.b,hs,q2.same.len,q2.same.th,.inr ⟨hcc,hoo,hn,by show n<(runX G z).2.k.due.length;omega,hf⟩⟩
set_option maxHeartbeats 1000000 in
theorem stepX (h:TB N z) (hN:N<999999) (hth:z.k.th≤1000000) (hi:z.k.s=some i) {X:ST} (hf:FitX X z.k z.x i) (hm:X.may mayT z=true):preX X z∧OutX N z i (runX X z):=by
 have hok:=h.ok (by omega)
 have h1:=h.mono (M:=N+1) (by omega)
 have hsh:HasSh z:=⟨i,hi⟩
 obtain ⟨hmem,hshe⟩:=shS_mem h hi
 match X,hf with
 | .at (some .lock) (.one2 d),hf =>
   have hmay:mayT .lock z=true:=hm
   have hw:z.shS.who=0:=by
    simp only [mayT,Bool.and_eq_true,beq_iff_eq] at hmay
    exact hmay.2
   refine ⟨⟨hok,hsh,hf,hth⟩,?_⟩
   have ht:=h.rest.turns _ hmem
   have hb:=h.onSh (s:={ z.shS with who:=tryW z.shS.who z.k.th,turns:=tryN z.shS.who z.shS.turns }) ((h.core.ring _ hmem).mono (by omega)) (h.rest.task z.shS hmem)
    (by show 0≤tryN z.shS.who z.shS.turns∧tryN z.shS.who z.shS.turns≤_;unfold tryN;split <;> omega)
   refine ⟨hb,hi,by show (z.x.shs.set z.sh _).length=_;rw [List.length_set],rfl,.inr ⟨hf,?_⟩⟩
   show ((z.x.shs.set z.sh { z.shS with who:=tryW z.shS.who z.k.th,turns:=tryN z.shS.who z.shS.turns }).getD (z.k.s.getD 0) (newShard 1)).who=z.k.th+1
   have e:z.k.s.getD 0=i:=by rw [hi];rfl
   rw [e,hshe,getD_set _ _ _ _ _ (h.k.sh i hi),if_pos rfl]
   show tryW z.shS.who z.k.th=_
   unfold tryW
   rw [if_pos hw]
 | .at none (.one21 d),hf =>
   obtain ⟨hc,ho⟩:=hf
   refine ⟨⟨hok,hsh,hc⟩,?_⟩
   show OutX N z i (if z.shS.ring.tail - z.shS.ring.head≤0 then one211T d z else (.thn (popsT (z.shS.ring.tail - z.shS.ring.head) z) (.one211 d),z))
   split
   ·exact one211_x h1 hi rfl rfl hc ho
   ·next hgt =>
    have hr:=h.core.ring _ hmem
    have hn:z.shS.ring.tail - z.shS.ring.head≤1000000:=by have:=hr.t1;have:=hr.h0;omega
    rcases popsT_fit hi hn z.k with hp | hp
    ·exfalso
     unfold popsT at hp
     rw [if_neg hgt] at hp
     cases hp
    ·have e:popsT (z.shS.ring.tail - z.shS.ring.head) z=.at (some (.ready z.sh)) (.pops1 (z.shS.ring.tail - z.shS.ring.head)):=if_neg hgt
     rw [e] at hp ⊢
     exact ⟨h1,hi,rfl,rfl,.inr ⟨hc,ho,hp⟩⟩
 | .thn (.row1 (.turnA d)) (.one2112 e),hf =>
   obtain ⟨hc,he,ho⟩:=hf
   obtain rfl:d=e:=he.symm
   have hwm:=wh_mem h hi
   have hw:=h.rest.wok _ hwm
   obtain ⟨a1,a2,a3⟩:=adv_facts hw.sh
   obtain ⟨e1,e2⟩:=hw.ent.adv
   obtain ⟨f1,f2⟩:=(h.ws _ hwm).adv
   have hb0:=h.onWh (w:=z.wh.adv.1) ⟨a1,by have:=hw.now;omega,by have:=hw.tot;omega,e1⟩ f1
   have hb:TB (N+1) (runAT (.turnA d) z):=hb0.onK ⟨hb0.k.th,hb0.k.saw,hb0.k.t,by
    have:=hw.tot;show (z.wh.adv.2.map EntS.v).length≤_;rw [List.length_map];omega,fun t ht=>by
     obtain ⟨en,hen,rfl⟩:=List.mem_map.1 ht
     exact ⟨e2 en hen,f2 en hen⟩,hb0.k.sh⟩
   refine ⟨⟨⟨hok,hsh,hc⟩,fun _=>⟨hb.ok (by omega),⟨i,hi⟩,hc⟩⟩,?_⟩
   show OutX N z i (runT (.one2112 d) (runAT (.turnA d) z))
   generalize hz':runAT (.turnA d) z=z' at hb
   have es:z'.k.s=some i:=by rw [← hz'];exact hi
   have el:z'.x.shs.length=z.x.shs.length:=by rw [← hz'];rfl
   have et:z'.k.th=z.k.th:=by rw [← hz'];rfl
   have ec:FitX.CurK d z'.k:=by rw [← hz'];exact hc
   have eo:Own z'.k z'.x:=by rw [← hz'];exact ho
   show OutX N z i (match z'.k.due[0]? with | none=>(.row1 .unlock,z') | some _=>(.thn (firesT d 0 z').1 .one21121,(firesT d 0 z').2))
   rcases fires_x hb hN es el et ec eo (Nat.zero_le _) with ⟨_,h2⟩ | ⟨t,h1,h2,h3⟩
   ·cases hd:z'.k.due[0]? with
    | none=>exact ⟨hb,es,el,et,.inr eo⟩
    | some t =>
      exfalso
      rename_i h0
      unfold firesT at h0
      rw [hd] at h0
      cases h0
   ·rw [h1];exact h3
 | .thn (.at (some (.ready j)) (.pops1 n)) (.one211 d),hf =>
   obtain ⟨hc,ho,hp⟩:=hf
   obtain ⟨q1,q2⟩:=stepP h hN hi hp
   exact popX h hN hi hc ho q1 q2
 | .thn (.thn (.at none .rec1) (.pops11 n)) (.one211 d),hf =>
   obtain ⟨hc,ho,hp⟩:=hf
   obtain ⟨q1,q2⟩:=stepP h hN hi hp
   exact popX h hN hi hc ho q1 q2
 | .thn (.thn (.at none .rec11) (.pops11 n)) (.one211 d),hf =>
   obtain ⟨hc,ho,hp⟩:=hf
   obtain ⟨q1,q2⟩:=stepP h hN hi hp
   exact popX h hN hi hc ho q1 q2
 | .thn (.thn G (.fires1 d n)) .one21121,hf =>
   obtain ⟨hc,ho,hn,hnd,hg⟩:=hf
   obtain ⟨q1,q2⟩:=stepG h hN hi hg
   exact firesX h hN hi hc ho hn hnd q1 q2
 | .row1 .unlock,ho =>
   have ht:=h.rest.turns _ hmem
   have hb:=h.onSh (s:={ z.shS with who:=0 }) ((h.core.ring _ hmem).mono (by omega)) (h.rest.task z.shS hmem) (by show 0≤z.shS.turns∧z.shS.turns≤_;omega)
   exact ⟨⟨hok,hsh,ho,hth⟩,⟨hb,hi,by show (z.x.shs.set z.sh _).length=_;rw [List.length_set],rfl,.inl rfl⟩⟩
theorem shardsT_n {M:Nat} {z:ZT} (h:TB M z) (hth:z.k.th≤1000000) (j:Nat):JT M (shardsT j z).1 (shardsT j z).2:=by
 unfold shardsT
 split
 ·next hj=>exact ⟨h.onK ⟨h.k.th,h.k.saw,h.k.t,Nat.zero_le _,(fun t ht=>by cases ht),fun i hi=>by cases hi;exact hj⟩,rfl,hj,hth,rfl⟩
 ·exact ⟨h.onK ⟨h.k.th,h.k.saw,h.k.t,h.k.dl,h.k.due,h.k.sh⟩,trivial⟩
theorem refuseT_n (h:TB N z) (e:Int):JT (N+1) (refuseT e z).1 (refuseT e z).2:=by
 have h1:=h.note { ev0 with kind:=9,err:=e }
 exact ⟨h1.onK ⟨h1.k.th,h1.k.saw,h1.k.t,h1.k.dl,h1.k.due,h1.k.sh⟩,trivial⟩
theorem isNil_ofX {X:ST} {k:TurnS} {x:CoreS} {i:Nat} (h:FitX X k x i):X.isNil=false:=by
 cases X <;> first | rfl | exact h.elim
theorem JT.pre {s:ST} (h:JT N s z) (hN:N<999999) (hm:maySt s z=true):preST s z:=by
 obtain ⟨hb,hf⟩:=h
 have ho:=hb.ok (by omega)
 match s,hf with
 | .nil,_=>trivial
 | .at none .enter,_=>exact ⟨ho,trivial⟩
 | .at none .gate,_=>exact ⟨ho,trivial⟩
 | .at none .tick,_=>exact ⟨ho,trivial⟩
 | .row2 .leave1 .answer,_=>exact ⟨ho,trivial⟩
 | .row1 .answer,_=>exact ⟨ho,trivial⟩
 | .thn X (.shards1 i),hf =>
   obtain ⟨hi,hlt,hth,hx⟩:=hf
   obtain ⟨q1,q2⟩:=stepX hb hN hth hi hx hm
   exact ⟨q1,fun _=>⟨q2.b.ok (by omega),by have:=hb.sh4;show i≤64;omega⟩⟩
set_option maxHeartbeats 4000000 in
theorem JT.preY {s:ST} (h:JT N s z) (hN:N<999999):preYS' s z:=by
 obtain ⟨hb,hf⟩:=h
 have ho:=hb.ok (by omega)
 match s,hf with
 | .nil,_=>trivial
 | .at none .enter,_=>trivial
 | .at none .gate,_=>trivial
 | .at none .tick,_=>trivial
 | .row2 .leave1 .answer,_=>trivial
 | .row1 .answer,_=>trivial
 | .thn X (.shards1 i),hf =>
   obtain ⟨hi,hlt,hth,hx⟩:=hf
   match X,hx with
   | .at (some .lock) (.one2 d),_=>exact ⟨ho,i,hi⟩
   | .at none (.one21 d),_=>trivial
   | .thn (.row1 (.turnA d)) (.one2112 e),_=>trivial
   | .thn (.at (some (.ready j)) (.pops1 n)) (.one211 d),hx=>exact ⟨ho,by rw [hx.2.2.1];exact hlt⟩
   | .thn (.thn (.at none .rec1) (.pops11 n)) (.one211 d),_=>trivial
   | .thn (.thn (.at none .rec11) (.pops11 n)) (.one211 d),_=>trivial
   | .thn (.thn G (.fires1 d n)) .one21121,hx =>
     obtain ⟨_,_,_,_,hg⟩:=hx
     match G,hg with
     | .at none .looks,_=>trivial
     | .at none .claims,_=>trivial
     | .thn (.row1 (.put f)) .claims2,_=>trivial
     | .at none .behind,_=>trivial
     | .at none (.rearm1 next),_=>trivial
     | .at none .finishes,_=>trivial
     | .row2 .rel .drop,_=>trivial
     | .row1 .drop,_=>trivial
   | .row1 .unlock,_=>trivial
set_option maxHeartbeats 4000000 in
theorem JT.step {s:ST} (h:JT N s z) (hN:N<999999) (hm:maySt s z=true):JT (N+1) (stepTu s z).1 (stepTu s z).2:=by
 obtain ⟨hb,hf⟩:=h
 have h1:=hb.mono (M:=N+1) (by omega)
 match s,hf with
 | .nil,_=>exact ⟨h1,trivial⟩
 | .at none .enter,hf =>
   have hc:=hb.core
   have hr:=h1.rest
   exact ⟨⟨⟨hc.slab,by have:=hc.i0;show 0≤z.x.f.inside+1;omega,by have:=hc.i1;show z.x.f.inside+1≤_;omega,h1.core.tr,hc.sh,h1.core.ring⟩,⟨hr.now,hr.busy,hr.cap,hr.wl,hr.wok,hr.task,hr.turns,hr.ch,hr.sp⟩,⟨h1.k.th,h1.k.saw,h1.k.t,h1.k.dl,h1.k.due,h1.k.sh⟩,h1.ws,h1.sh4⟩,hf⟩
 | .at none .gate,hf =>
   show JT (N+1) (if z.x.f.closed=true then refuseT 3 z else (.at none .tick,z)).1 (if z.x.f.closed=true then refuseT 3 z else (.at none .tick,z)).2
   split
   ·exact refuseT_n hb 3
   ·next hcl=>exact ⟨h1,hf.resolve_left hcl⟩
 | .at none .tick,hf =>
   have hr:=h1.rest
   have hn:=hb.rest.now
   have hb2:TB (N+1) ({ z with x:={ z.x with f:={ z.x.f with now:=z.x.f.now+1 } },k:={ z.k with now:=z.x.f.now+1 } }:ZT) :=
    ⟨⟨h1.core.slab,h1.core.i0,h1.core.i1,h1.core.tr,h1.core.sh,h1.core.ring⟩,⟨by show 0≤z.x.f.now+1∧z.x.f.now+1≤_;omega,hr.busy,hr.cap,hr.wl,hr.wok,hr.task,hr.turns,hr.ch,hr.sp⟩,⟨h1.k.th,h1.k.saw,h1.k.t,h1.k.dl,h1.k.due,h1.k.sh⟩,h1.ws,h1.sh4⟩
   exact shardsT_n (hb2.noteL (by have:=hb.core.tr;show z.x.tr.length+1≤_;omega) _) hf 0
 | .row2 .leave1 .answer,_ =>
   have hc:=hb.core
   have hr:=h1.rest
   have hl:0≤lessN z.x.f.inside∧lessN z.x.f.inside≤N:=by have:=hc.i0;have:=hc.i1;unfold lessN;split <;> omega
   exact ⟨⟨⟨hc.slab,hl.1,by have:=hl.2;show lessN z.x.f.inside≤_;omega,h1.core.tr,hc.sh,h1.core.ring⟩,⟨hr.now,hr.busy,hr.cap,hr.wl,hr.wok,hr.task,hr.turns,hr.ch,hr.sp⟩,⟨h1.k.th,h1.k.saw,h1.k.t,h1.k.dl,h1.k.due,h1.k.sh⟩,h1.ws,h1.sh4⟩,trivial⟩
 | .row1 .answer,_=>exact ⟨hb.note _,trivial⟩
 | .thn X (.shards1 i),hf =>
   obtain ⟨hi,hlt,hth,hx⟩:=hf
   obtain ⟨q1,q2⟩:=stepX hb hN hth hi hx hm
   show JT (N+1) (thenSt runT (runX X z).1 (.shards1 i) (runX X z).2).1 (thenSt runT (runX X z).1 (.shards1 i) (runX X z).2).2
   rcases q2.fit with hn | hfx
   ·rw [hn]
    exact shardsT_n q2.b (by rw [q2.th];exact hth) (i+1)
   ·rw [thenSt_not (isNil_ofX hfx)]
    exact ⟨q2.b,q2.s,by rw [q2.len];exact hlt,by rw [q2.th];exact hth,hfx⟩
end
end
section
open Go.RowKit Go.Shelf
structure KeepC (x x':CoreS):Prop where
 now:x'.f.now=x.f.now
 busy:x'.f.busy=x.f.busy
 cfg:x'.f.cfg=x.f.cfg
 closed:x'.f.closed=x.f.closed
 recs:x'.slab.recs.length=x.slab.recs.length
 len:x'.shs.length=x.shs.length
 who:∀ j,(x'.shs.getD j (newShard 1)).who=(x.shs.getD j (newShard 1)).who
 sh:(∀ s∈x.shs,∀ e∈s.ring.slots,TaskOk e.v)→∀ s∈x'.shs,∀ e∈s.ring.slots,TaskOk e.v
 turns:∀ N:Nat,(∀ s∈x.shs,0≤s.turns∧s.turns≤N)→∀ s∈x'.shs,0≤s.turns∧s.turns≤N
theorem KeepC.refl (x:CoreS):KeepC x x:=⟨rfl,rfl,rfl,rfl,rfl,rfl,fun _=>rfl,fun h=>h,fun _ h=>h⟩
theorem KeepC.trans {x y z:CoreS} (a:KeepC x y) (b:KeepC y z):KeepC x z :=
 ⟨b.now.trans a.now,b.busy.trans a.busy,b.cfg.trans a.cfg,b.closed.trans a.closed,b.recs.trans a.recs,b.len.trans a.len,fun j=>(b.who j).trans (a.who j),fun h=>b.sh (a.sh h),fun N h=>b.turns N (a.turns N h)⟩
theorem KeepC.rest {N:Nat} {x x':CoreS} {ws:List WheelS} {p:PipeS} (k:KeepC x x') (h:RestN N x ws p):RestN N x' ws p :=
 ⟨by rw [k.now];exact h.now,by rw [k.busy];exact h.busy,by rw [k.cfg,k.recs];exact h.cap,by rw [k.len];exact h.wl,h.wok,k.sh h.task,k.turns N h.turns,h.ch,h.sp⟩
def GenN (k:WorkS):Prop:=0≤k.gen∧k.gen≤4294967295
theorem genW_bd {w:Int} (h0:0≤w):0≤genW w∧genW w≤4294967295:=by
 unfold genW
 split
 ·next hk =>
  simp only [okW,Bool.and_eq_true,decide_eq_true_eq] at hk
  omega
 ·omega
theorem try_nn {s:SlabS} (hs:SlabOk s) (k old ev:Int) (h0:0≤old∧old<18446744073709551616∧okW old=true):0≤(s.try k old ev).2.1:=by
 unfold SlabS.try
 split
 ·next hh =>
  have hr:0≤(s.recs.getD k.toNat Rec.zero).w:=by
   rw [List.getD_eq_getElem?_getD]
   cases h1:s.recs[k.toNat]? with
   | none=>show (0:Int)≤0;omega
   | some r=>exact (hs.recs r (List.mem_of_getElem? h1)).w0
  simp only
  split
  ·exact hr
  ·next hx =>
   split
   ·have:=nextW_ok (e:=ev) (p:=decide (0<(s.recs.getD k.toNat Rec.zero).p)) h0.1 h0.2.1 h0.2.2 (Decidable.byContradiction hx)
    exact this.2.2.2.2.2.2.2.1
   ·exact hr
 ·show (0:Int)≤0;omega
section
variable {N:Nat} {k:WorkS} {x:CoreS}
theorem keep_note (k:WorkS) (E:EvS) (x:CoreS):KeepC x (noteC k E x):=⟨rfl,rfl,rfl,rfl,rfl,rfl,fun _=>rfl,fun h=>h,fun _ h=>h⟩
theorem keep_slab {s:SlabS} (hl:s.recs.length=x.slab.recs.length):KeepC x { x with slab:=s }:=⟨rfl,rfl,rfl,rfl,hl,rfl,fun _=>rfl,fun h=>h,fun _ h=>h⟩
theorem keep_inside (n:Int):KeepC x { x with f:={ x.f with inside:=n } }:=⟨rfl,rfl,rfl,rfl,rfl,rfl,fun _=>rfl,fun h=>h,fun _ h=>h⟩
theorem keep_ring {i:Nat} {s:ShardS} (hs:x.shs[i]?=some s) (r:RingS) (hr:(∀ e∈s.ring.slots,TaskOk e.v)→∀ e∈r.slots,TaskOk e.v):KeepC x { x with shs:=x.shs.set i { s with ring:=r } }:=by
 have hlt:=(List.getElem?_eq_some_iff.1 hs).1
 have hm:=List.mem_of_getElem? hs
 refine ⟨rfl,rfl,rfl,rfl,rfl,List.length_set,fun j=>?_,fun h a ha=>?_,fun N h a ha=>?_⟩
 ·show ((x.shs.set i _).getD j (newShard 1)).who=_
  rw [getD_set _ _ _ _ _ hlt]
  split
  ·next hj=>subst hj;rw [List.getD_eq_getElem?_getD,hs];rfl
  ·rfl
 ·rcases List.mem_or_eq_of_mem_set ha with ha | rfl
  ·exact h a ha
  ·exact hr (h s hm)
 ·rcases List.mem_or_eq_of_mem_set ha with ha | rfl
  ·exact h a ha
  ·exact h s hm
theorem stepT_slots (r:RingS) (t:TickS):(stepT r t).1.slots=r.slots:=by
 unfold stepT lookT weighT takeT
 split
 ·rfl
 ·split
  ·rfl
  ·split
   ·rfl
   ·split <;> rfl
theorem fillT_slots {r:RingS} {t:TickS} {v:TaskS} (hv:TaskOk v) (h:∀ e∈r.slots,TaskOk e.v):∀ e∈(fillT r t v).1.slots,TaskOk e.v:=by
 unfold fillT
 split
 ·intro e he
  rcases List.mem_or_eq_of_mem_set he with he | rfl
  ·exact h e he
  ·exact hv
 ·exact h
theorem keep_fill (k:WorkS) {v:TaskS} (hv:TaskOk v):KeepC x (fillC v (k,x)).2:=by
 unfold fillC
 simp only
 split
 ·exact KeepC.refl x
 ·rename_i i t ht
  split
  ·exact KeepC.refl x
  ·rename_i s hs
   exact keep_ring hs _ (fun h=>fillT_slots hv h)
theorem gen_fill {v:TaskS} (h:GenN k):GenN (fillC v (k,x)).1:=by
 unfold fillC
 simp only
 split
 ·exact h
 ·split
  ·exact h
  ·exact h
theorem keep_event (hc:CoreN N x) (ev:Int):KeepC x (eventC ev (k,x)).2∧GenN (eventC ev (k,x)).1:=by
 obtain ⟨h1,h2⟩:=try_ok hc.slab k.slot (x.slab.word k.slot) ev
 exact ⟨keep_slab h2,genW_bd (try_nn hc.slab _ _ _ (word_bd hc.slab _))⟩
theorem taskC_ok (hc:CoreN N x) (hk:WorkN N k x) (hg:GenN k):TaskOk (taskC (k,x)):=by
 refine ⟨hk.id,⟨hg.1,by have:=hg.2;show k.gen≤_;omega⟩,hk.c0,?_⟩
 show 0≤x.slab.period k.slot∧x.slab.period k.slot < _
 unfold SlabS.period
 split
 ·rw [List.getD_eq_getElem?_getD]
  cases h1:x.slab.recs[k.slot.toNat]? with
  | none=>exact ⟨by show (0:Int)≤0;omega,by show (0:Int) < _;omega⟩
  | some r=>have:=hc.slab.recs r (List.mem_of_getElem? h1);exact ⟨this.p0,this.p1⟩
 ·omega
theorem taskN:TaskOk { TaskS.zero with slot:=-1 }:=⟨by decide,by decide,by decide,by decide⟩
theorem actC_keep (hc:CoreN N x) (hk:WorkN N k x) (hg:GenN k) (a:AC):KeepC x (runA a (k,x)).2∧GenN (runA a (k,x)).1:=by
 cases a with
 | ends1=>exact ⟨keep_note _ _ _,hg⟩
 | leaves1=>exact ⟨keep_inside _,hg⟩
 | undo =>
   obtain ⟨h1,h2⟩:=keep_event (k:=k) hc 9
   exact ⟨h1.trans (keep_note _ _ _),h2⟩
 | drop=>exact ⟨keep_slab (drop_ok hc.slab).2,hg⟩
 | tries1=>exact keep_event (k:=k) hc 10
 | again1=>exact ⟨keep_fill k taskN,gen_fill hg⟩
theorem look_gen (k:WorkS) (s:SlabS):(lookW k s).1.gen=k.gen:=by
 unfold lookW
 split
 ·rfl
 ·split <;> rfl
theorem methC_keep (hc:CoreN N x) (hk:WorkN N k x) (hg:GenN k) (m:MC):KeepC x (runC m (k,x)).2.2∧GenN (runC m (k,x)).2.1:=by
 cases m with
 | ends=>exact ⟨KeepC.refl x,hg⟩
 | leaves=>exact ⟨KeepC.refl x,hg⟩
 | right =>
   show KeepC x (if badC k then _ else _:SC × ZC).2.2∧GenN (if badC k then _ else _:SC × ZC).2.1
   split
   ·exact ⟨keep_note _ _ _,hg⟩
   ·exact ⟨KeepC.refl x,hg⟩
 | enter=>exact ⟨keep_inside _,hg⟩
 | gate =>
   show KeepC x (if x.f.closed=true then _ else _:SC × ZC).2.2∧GenN (if x.f.closed=true then _ else _:SC × ZC).2.1
   split
   ·exact ⟨keep_note _ _ _,hg⟩
   ·split
    ·exact ⟨KeepC.refl x,hg⟩
    ·exact ⟨KeepC.refl x,hg⟩
 | asks =>
   show KeepC x (match k.rq with | none=>_ | some q=>_:SC × ZC).2.2∧GenN (match k.rq with | none=>_ | some q=>_:SC × ZC).2.1
   split
   ·exact ⟨KeepC.refl x,hg⟩
   ·next q hq =>
    obtain ⟨h1,h2,h3⟩:=stepR_ok hc.slab (hk.rq q hq)
    unfold asksC
    simp only
    split
    ·exact ⟨(keep_slab h3).trans (keep_note _ _ _),hg⟩
    ·split
     ·exact ⟨keep_slab h3,hg⟩
     ·exact ⟨keep_slab h3,hg⟩
 | queues =>
   show KeepC x (match k.tk with | none=>_ | some (i,t)=>_:SC × ZC).2.2∧GenN (match k.tk with | none=>_ | some (i,t)=>_:SC × ZC).2.1
   split
   ·exact ⟨KeepC.refl x,hg⟩
   ·next i t htk =>
    show KeepC x (match x.shs[i]? with | none=>_ | some s=>_:SC × ZC).2.2∧GenN (match x.shs[i]? with | none=>_ | some s=>_:SC × ZC).2.1
    split
    ·exact ⟨KeepC.refl x,hg⟩
    ·next s hs =>
     have hr:=keep_ring (x:=x) hs (stepT s.ring t).1 (fun h=>by rw [stepT_slots];exact h)
     unfold queuesC
     simp only
     split
     ·exact ⟨hr,hg⟩
     ·split
      ·exact ⟨hr.trans (keep_note _ _ _),hg⟩
      ·split
       ·exact ⟨hr,hg⟩
       ·split
        ·exact ⟨hr,hg⟩
        ·exact ⟨hr,hg⟩
 | submits =>
   obtain ⟨h1,h2⟩:=keep_event (k:=k) hc 2
   exact ⟨h1.trans (keep_note _ _ _),h2⟩
 | fills=>exact ⟨keep_fill k (taskC_ok hc hk hg),gen_fill hg⟩
 | looks =>
   have hl:GenN (lookW k x.slab).1:=by unfold GenN;rw [look_gen];exact hg
   show KeepC x (if (lookW k x.slab).2=0 then _ else _:SC × ZC).2.2∧GenN (if (lookW k x.slab).2=0 then _ else _:SC × ZC).2.1
   split
   ·show KeepC x (if k.kind=3 then _ else _:SC × ZC).2.2∧GenN (if k.kind=3 then _ else _:SC × ZC).2.1
    split
    ·exact ⟨KeepC.refl x,hl⟩
    ·exact ⟨KeepC.refl x,hl⟩
   ·show KeepC x (if (lookW k x.slab).2=1 then _ else _:SC × ZC).2.2∧GenN (if (lookW k x.slab).2=1 then _ else _:SC × ZC).2.1
    split
    ·exact ⟨keep_note _ _ _,hl⟩
    ·exact ⟨keep_note _ _ _,hl⟩
 | again =>
   have hl:GenN (lookW k x.slab).1:=by unfold GenN;rw [look_gen];exact hg
   show KeepC x (if (lookW k x.slab).2=0 then _ else _:SC × ZC).2.2∧GenN (if (lookW k x.slab).2=0 then _ else _:SC × ZC).2.1
   split
   ·exact ⟨KeepC.refl x,hl⟩
   ·exact ⟨keep_note _ _ _,hl⟩
 | tries =>
   obtain ⟨h1,h2⟩:=try_ok hc.slab k.slot k.saw k.event
   have hs:KeepC x (tryC (k,x)).1.2:=keep_slab h2
   have hgn:GenN (tryC (k,x)).1.1:=genW_bd (try_nn hc.slab _ _ _ hk.saw)
   show KeepC x (if (tryC (k,x)).2≠0 then _ else _:SC × ZC).2.2∧GenN (if (tryC (k,x)).2≠0 then _ else _:SC × ZC).2.1
   split
   ·show KeepC x (if k.kind=3 then _ else _:SC × ZC).2.2∧GenN (if k.kind=3 then _ else _:SC × ZC).2.1
    split
    ·exact ⟨hs,hgn⟩
    ·exact ⟨hs,hgn⟩
   ·show KeepC x (if k.kind=3 then _ else _:SC × ZC).2.2∧GenN (if k.kind=3 then _ else _:SC × ZC).2.1
    split
    ·exact ⟨hs.trans (keep_note _ _ _),hgn⟩
    ·show KeepC x (if k.kind=5 then _ else _:SC × ZC).2.2∧GenN (if k.kind=5 then _ else _:SC × ZC).2.1
     split
     ·exact ⟨hs.trans (keep_note _ _ _),hgn⟩
     ·exact ⟨hs.trans (keep_note _ _ _),hgn⟩
theorem callKeep {s:SC} (h:JC N s (k,x)) (hg:GenN k):KeepC x (stepC s (k,x)).2.2∧GenN (stepC s (k,x)).2.1:=by
 obtain ⟨hc,hk,hf⟩:=h
 simp only at hc hk hf
 have ha:=fun a=>actC_keep hc hk hg a
 match s,hf with
 | .nil,_=>exact ⟨KeepC.refl x,hg⟩
 | .at none m,hf=>exact methC_keep hc hk hg m
 | .row1 .ends1,_=>exact ha .ends1
 | .thn (.row1 .leaves1) .ends,_=>exact ha .leaves1
 | .thn (.row2 .undo .drop) .leaves,_=>exact ha .undo
 | .thn (.row1 .drop) .leaves,_=>exact ha .drop
 | .thn (.row1 .again1) .leaves,_=>exact ha .again1
 | .thn (.row2 .tries1 .drop) .ends,_=>exact ha .tries1
 | .thn (.row1 .drop) .ends,_=>exact ha .drop
end
end
section
open Go.RowKit Go.Shelf
attribute [local go_sem] Oper.semAt_some
end
section
open Go.RowKit Go.Shelf Go.Conc
attribute [local go_sem] Oper.semAt_some
def PipeS.all (p:PipeS):List FireS:=p.ch++p.sp
theorem fires_at:∀ (l:List FireS) (j:Nat) (f:FireS) (i:Nat),l[j]?=some f→i<4→(fires l)[j*4+i]?=f.vals[i]?
 | [],j,f,i,h,_=>by cases h
 | a::l,0,f,i,h,hi=>by
   cases h
   show (a.vals++fires l)[0*4+i]?=_
   rw [List.getElem?_append_left (by show 0*4+i<4;omega)]
   simp
 | a::l,j+1,f,i,h,hi=>by
   show (a.vals++fires l)[(j+1)*4+i]?=_
   rw [List.getElem?_append_right (by show 4≤(j+1)*4+i;omega)]
   have:=fires_at l j f i h hi
   rw [← this]
   congr 1
   show (j+1)*4+i - 4=_
   omega
end
end Go.Proofs.YtblhfbcodbjgcaaGreat
