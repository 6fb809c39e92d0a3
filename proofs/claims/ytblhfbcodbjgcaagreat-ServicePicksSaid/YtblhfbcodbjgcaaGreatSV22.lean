import Derived.Test.YtblhfbcodbjgcaaGreatSV21
import Derived.Test.YtblhfbcodbjgcaaGreatSV6
import Derived.Test.YtblhfbcodbjgcaaGreatSV13
namespace Go.Proofs.YtblhfbcodbjgcaaGreat
set_option linter.unusedVariables false
set_option linter.unusedSimpArgs false
section
open Go.RowKit Go.Shelf
theorem look_keeps (k:WorkS) (s:SlabS) (h:0≤k.slot) (hi:0≤k.id):(lookW k s).1.kind=k.kind∧(lookW k s).1.rq=k.rq∧(lookW k s).1.tk=k.tk∧0≤(lookW k s).1.slot:=by
 have hs:0≤s.slot k.id:=by unfold SlabS.slot;split <;> omega
 unfold lookW
 split
 ·exact ⟨rfl,rfl,rfl,h⟩
 ·split
  ·exact ⟨rfl,rfl,rfl,hs⟩
  ·exact ⟨rfl,rfl,rfl,hs⟩
theorem over_kind {k k2:WorkS} (h:k2.kind=k.kind):overC k=overC k2:=by unfold overC;rw [h]
section
variable {L:Lay} {x:CoreS} {gK gF:List Blk} {kb:Nat} {pv:Value} {k:WorkS}
set_option maxRecDepth 100000 in
theorem mLooks (hz:rep2 L kb pv k x gK gF) (hp:preMC .looks (k,x)):DoesG Tryz.prog 141 #[ptr' kb] [gK,gF] (MRz L kb pv (runC .looks (k,x))):=by
 obtain ⟨hok,hwk,_⟩:=hp
 simp only at hok hwk
 have HLN:=Lib.hid hok.tr
 have HSH:=Lib.hid hok.sh
 have HLK:=Lib.hid (show ∀ g rv tv,isCore L x g→_ from fun g rv tv hx=>workLook (kb:=kb) (pv:=pv) (rv:=rv) (tv:=tv) (k:=k) (g:=g) hx hok hwk.id.1 hwk.id.2)
 have hkeep:=look_keeps k x.slab hwk.slot hwk.id.1
 have hE:∀ k2 er,lookW k x.slab=(k2,er)→runC .looks (k,x)=if er=0 then (if k.kind=3 then (.at none .queues,({ k2 with tk:=some (homeC k2.slot x,newTick) },x)) else (.at none .tries,(k2,x))) else if er=1 then (overC k,refuseC 1 (k2,x)) else (overC k,refuseC 0 (k2,x)):=by
  intro k2 er h
  show (if (lookW k x.slab).2=0 then _ else _)=_
  simp only [lookC,h]
 obtain ⟨k2,er,hl⟩:∃ k2 er,lookW k x.slab=(k2,er):=⟨_,_,rfl⟩
 rw [hE k2 er hl]
 rw [hl] at HLK hkeep
 simp only at hkeep
 clear hE hl hok hwk
 by_cases h0:er=0
 ·subst h0
  by_cases h3:k.kind=3
  ·have HZ:(if (0:Int)=0 then (if k.kind=3 then (.at none .queues,({ k2 with tk:=some (homeC k2.slot x,newTick) },x)) else (.at none .tries,(k2,x))) else if (0:Int)=1 then (overC k,refuseC 1 (k2,x)) else (overC k,refuseC 0 (k2,x)):SC × ZC)=(.at none .queues,({ k2 with tk:=some (homeC k2.slot x,newTick) },x)):=(if_pos rfl).trans (if_pos h3)
   rw [HZ]
   unfold MRz
   dsimp only [refuseC]
   clear HZ
   obtain ⟨hkk,hkr,hkt,hks⟩:=hkeep
   obtain ⟨rv,tv,gq,gt,hr,ht,rfl,hx⟩:=hz
   intro w hw
   have T0:=TG.refl hw
   have HT:=Lib.hid T0
   clear hw T0
   have HT:=Lib.hid (HT.out.sum (H':=[workB kb L.fb pv rv tv k,gq,gt,gF]))
   have HX:=Lib.hid hx
   have HR:=Lib.hid (show optR L.p.sb k2.rq rv gq from hkr ▸ hr)
   have HTK:=Lib.hid (show optT L k2.tk tv gt from hkt ▸ ht)
   have HKK:=Lib.hid hkk
   clear hx hr ht hkr hkt hkk
   have HT:=Lib.hid (HT.out.alloc (k:=w.heap.size) rfl 148 #[.nilFunc,.nilFunc])
   go_enter Tryz.func141,Tryz.ntmps141
   go_wp2_with fail
   refine (DoesG.use (HLK.out _ _ _ HX.out) (HT.out) [0,3] rfl rfl).mono ?_
   rintro e w1 ⟨gs,⟨rfl,g1,hx1,rfl⟩,Ta⟩
   simp only [PU] at Ta
   have HX:=Lib.hid hx1
   clear hx1
   have HT:=Lib.hid Ta
   clear Ta
   have i0:=hks
   have k3:=HT.out.cell 0 0 rfl 3
   simp only [workC,GE3] at k3
   rw [HKK.out,h3] at k3
   clear h3
   go_wp2
   clear k3
   obtain ⟨qs,ss,hqs,hss,hv⟩:=home_val HX.out HSH.out i0
   have HH:=Lib.hid (coreHome_r HX.out (by rw [HX.out.len];exact HSH.out) k2.slot)
   rw [hv] at HH
   have HQS:=Lib.hid hqs
   have HBG:=Lib.hid (coreBegin HX.out hqs hss)
   clear hqs hss hv
   have k0:=HT.out.cell 0 0 rfl 0
   have k16:=HT.out.cell 0 0 rfl 16
   simp only [workC,GE3] at k0 k16
   refine wp_region_mix1 10 (by kernel_rfl) (by kernel_rfl) ?_
   simp only [TD4]
   repeat (go_big_quiet_step ((first | (go_at_call 171;with_reducible exact ReadsG.quiet (HH.out) HT.out _ [3] rfl rfl))))
   refine wpQuiet_nil ?_
   intro _ hw'
   obtain ⟨nq,hw''⟩:=hw'
   subst hw''
   have HT:=Lib.hid (HT.out.drewN nq)
   go_wp2_with fail
   refine (DoesG.use (HBG.out) (HT.out) [3] rfl rfl).mono ?_
   rintro e w1 ⟨gs,⟨tb,rfl,g2,hx2,rfl⟩,Ta⟩
   simp only [PU] at Ta
   have HX:=Lib.hid hx2
   clear hx2 k0 k16
   have HT:=Lib.hid Ta
   clear Ta
   have k14:=HT.out.cell 0 0 rfl 14
   have fk14:=HT.out.free 0 0 rfl 14
   simp only [workC,GE3] at k14
   go_wp2_with fail
   refine ⟨rfl,?_⟩
   have HT:=Lib.hid ((HT.out.set 0 0 rfl 14 (ptr' tb)).eq (H':=[workB kb L.fb pv rv (ptr' tb) { k2 with tk:=some (homeC k2.slot x,newTick) },gq,gt,g2,[cl w.heap.size 148 #[.nilFunc,.nilFunc]],tickG tb qs.rb newTick]) rfl)
   clear k14 fk14
   go_wp2_with fail
   refine (DoesG.use (callsAt) (HT.out) [] rfl rfl).mono ?_
   rintro e w1 ⟨gs,⟨rfl,rfl⟩,Ta⟩
   simp only [PU] at Ta
   have HT:=Lib.hid Ta
   clear Ta
   have e0:=HT.out.cell 4 0 rfl 0
   have fe0:=HT.out.free 4 0 rfl 0
   have e1:=HT.out.cell 4 0 rfl 1
   have fe1:=HT.out.free 4 0 rfl 1
   simp only [GE4] at e0 e1
   go_wp2
   exact bodyPost_ret (v:=.agg #[.nilFunc,.func (.func 173) #[ptr' kb] #[]]) (by simp [results,Tryz.results141,go_sem,e0,e1]) rfl ⟨_,⟨_,_,[],_,_,rfl,⟨rfl,rfl,rfl⟩,⟨_,_,gq,(tickG tb qs.rb newTick),HR.out,⟨tb,qs,HQS.out,rfl,rfl⟩,rfl,HX.out⟩,rfl⟩,(((HT.out.set 4 0 rfl 0 _).set 4 0 rfl 1 _).pick [0,1,5,3] rfl).sum⟩
  ·have HZ:(if (0:Int)=0 then (if k.kind=3 then (.at none .queues,({ k2 with tk:=some (homeC k2.slot x,newTick) },x)) else (.at none .tries,(k2,x))) else if (0:Int)=1 then (overC k,refuseC 1 (k2,x)) else (overC k,refuseC 0 (k2,x)):SC × ZC)=(.at none .tries,(k2,x)):=(if_pos rfl).trans (if_neg h3)
   have hb3:(k.kind == 3)=false:=beq_eq_false_iff_ne.2 h3
   clear h3
   rw [HZ]
   unfold MRz
   dsimp only [refuseC]
   clear HZ
   obtain ⟨hkk,hkr,hkt,hks⟩:=hkeep
   obtain ⟨rv,tv,gq,gt,hr,ht,rfl,hx⟩:=hz
   intro w hw
   have T0:=TG.refl hw
   have HT:=Lib.hid T0
   clear hw T0
   have HT:=Lib.hid (HT.out.sum (H':=[workB kb L.fb pv rv tv k,gq,gt,gF]))
   have HX:=Lib.hid hx
   have HR:=Lib.hid (show optR L.p.sb k2.rq rv gq from hkr ▸ hr)
   have HTK:=Lib.hid (show optT L k2.tk tv gt from hkt ▸ ht)
   have HKK:=Lib.hid hkk
   clear hx hr ht hkr hkt hkk
   have HT:=Lib.hid (HT.out.alloc (k:=w.heap.size) rfl 148 #[.nilFunc,.nilFunc])
   go_enter Tryz.func141,Tryz.ntmps141
   go_wp2_with fail
   refine (DoesG.use (HLK.out _ _ _ HX.out) (HT.out) [0,3] rfl rfl).mono ?_
   rintro e w1 ⟨gs,⟨rfl,g1,hx1,rfl⟩,Ta⟩
   simp only [PU] at Ta
   have HX:=Lib.hid hx1
   clear hx1
   have HT:=Lib.hid Ta
   clear Ta
   have k3:=HT.out.cell 0 0 rfl 3
   simp only [workC,GE3] at k3
   rw [HKK.out] at k3
   go_wp2_with fail
   refine (DoesG.use (callsAt) (HT.out) [] rfl rfl).mono ?_
   rintro e w1 ⟨gs,⟨rfl,rfl⟩,Ta⟩
   simp only [PU] at Ta
   have HT:=Lib.hid Ta
   clear Ta
   have e0:=HT.out.cell 4 0 rfl 0
   have fe0:=HT.out.free 4 0 rfl 0
   have e1:=HT.out.cell 4 0 rfl 1
   have fe1:=HT.out.free 4 0 rfl 1
   simp only [GE4] at e0 e1
   go_wp2
   exact bodyPost_ret (v:=.agg #[.nilFunc,.func (.func 175) #[ptr' kb] #[]]) (by simp [results,Tryz.results141,go_sem,e0,e1]) rfl ⟨_,⟨_,_,[],_,_,rfl,⟨rfl,rfl,rfl⟩,⟨_,_,gq,gt,HR.out,HTK.out,rfl,HX.out⟩,rfl⟩,(((HT.out.set 4 0 rfl 0 _).set 4 0 rfl 1 _).pick [0,1,2,3] rfl).sum⟩
 ·by_cases h1:er=1
  ·subst h1
   have HZ:(if (1:Int)=0 then (if k.kind=3 then (.at none .queues,({ k2 with tk:=some (homeC k2.slot x,newTick) },x)) else (.at none .tries,(k2,x))) else if (1:Int)=1 then (overC k,refuseC 1 (k2,x)) else (overC k,refuseC 0 (k2,x)):SC × ZC)=(overC (refuseW 1 k2),refuseC 1 (k2,x)):=by rw [if_neg h0,if_pos rfl,over_kind (k:=k) (k2:=refuseW 1 k2) hkeep.1]
   clear h0
   rw [HZ]
   unfold MRz
   dsimp only [refuseC]
   clear HZ
   obtain ⟨hkk,hkr,hkt,hks⟩:=hkeep
   obtain ⟨rv,tv,gq,gt,hr,ht,rfl,hx⟩:=hz
   intro w hw
   have T0:=TG.refl hw
   have HT:=Lib.hid T0
   clear hw T0
   have HT:=Lib.hid (HT.out.sum (H':=[workB kb L.fb pv rv tv k,gq,gt,gF]))
   have HX:=Lib.hid hx
   have HR:=Lib.hid (show optR L.p.sb k2.rq rv gq from hkr ▸ hr)
   have HTK:=Lib.hid (show optT L k2.tk tv gt from hkt ▸ ht)
   have HKK:=Lib.hid hkk
   clear hx hr ht hkr hkt hkk
   have HT:=Lib.hid (HT.out.alloc (k:=w.heap.size) rfl 148 #[.nilFunc,.nilFunc])
   go_enter Tryz.func141,Tryz.ntmps141
   go_wp2_with fail
   refine (DoesG.use (HLK.out _ _ _ HX.out) (HT.out) [0,3] rfl rfl).mono ?_
   rintro e w1 ⟨gs,⟨rfl,g1,hx1,rfl⟩,Ta⟩
   simp only [PU] at Ta
   have HX:=Lib.hid hx1
   clear hx1
   have HT:=Lib.hid Ta
   clear Ta
   go_wp2_with fail
   refine (DoesG.use (workRefuse HX.out 1 HLN.out) (HT.out) [0,3] rfl rfl).mono ?_
   rintro e w1 ⟨gs,⟨rfl,g1,hx1,rfl⟩,Ta⟩
   simp only [PU] at Ta
   have HX:=Lib.hid hx1
   clear hx1
   have HT:=Lib.hid Ta
   clear Ta
   go_wp2_with fail
   refine (DoesG.use (sOver) (HT.out) [0] rfl rfl).mono ?_
   rintro e w1 ⟨gs,⟨m2,d2,g2,rfl,hs2,rfl⟩,Ta⟩
   simp only [PU] at Ta
   have HT:=Lib.hid Ta
   clear Ta
   have e0:=HT.out.cell 4 0 rfl 0
   have fe0:=HT.out.free 4 0 rfl 0
   have e1:=HT.out.cell 4 0 rfl 1
   have fe1:=HT.out.free 4 0 rfl 1
   simp only [GE4] at e0 e1
   have hv2:=(cliC_vals L kb pv).vals hs2
   obtain ⟨st1,st2⟩:=Cli.store_fv2 (P:=Tryz.prog) hv2.1 hv2.2 e0 fe0 e1 fe1
   have HS:=Lib.hid hs2
   clear hv2 hs2
   go_wp2
   exact bodyPost_ret (v:=.agg #[_,_]) (by simp [results,Tryz.results141,go_sem,e0,e1]) rfl ⟨_,⟨m2,d2,g2,_,_,rfl,HS.out,⟨_,_,gq,gt,HR.out,HTK.out,rfl,HX.out⟩,rfl⟩,(((HT.out.set 4 0 rfl 0 _).set 4 0 rfl 1 _).pick [0,1,2,3,5] rfl).sum⟩
  ·have HZ:(if er=0 then (if k.kind=3 then (.at none .queues,({ k2 with tk:=some (homeC k2.slot x,newTick) },x)) else (.at none .tries,(k2,x))) else if er=1 then (overC k,refuseC 1 (k2,x)) else (overC k,refuseC 0 (k2,x)):SC × ZC)=(overC (refuseW 0 k2),refuseC 0 (k2,x)):=by rw [if_neg h0,if_neg h1,over_kind (k:=k) (k2:=refuseW 0 k2) hkeep.1]
   have hb0:(er == 0)=false:=beq_eq_false_iff_ne.2 h0
   have hb1:(er == 1)=false:=beq_eq_false_iff_ne.2 h1
   clear h0 h1
   rw [HZ]
   unfold MRz
   dsimp only [refuseC]
   clear HZ
   obtain ⟨hkk,hkr,hkt,hks⟩:=hkeep
   obtain ⟨rv,tv,gq,gt,hr,ht,rfl,hx⟩:=hz
   intro w hw
   have T0:=TG.refl hw
   have HT:=Lib.hid T0
   clear hw T0
   have HT:=Lib.hid (HT.out.sum (H':=[workB kb L.fb pv rv tv k,gq,gt,gF]))
   have HX:=Lib.hid hx
   have HR:=Lib.hid (show optR L.p.sb k2.rq rv gq from hkr ▸ hr)
   have HTK:=Lib.hid (show optT L k2.tk tv gt from hkt ▸ ht)
   have HKK:=Lib.hid hkk
   clear hx hr ht hkr hkt hkk
   have HT:=Lib.hid (HT.out.alloc (k:=w.heap.size) rfl 148 #[.nilFunc,.nilFunc])
   go_enter Tryz.func141,Tryz.ntmps141
   go_wp2_with fail
   refine (DoesG.use (HLK.out _ _ _ HX.out) (HT.out) [0,3] rfl rfl).mono ?_
   rintro e w1 ⟨gs,⟨rfl,g1,hx1,rfl⟩,Ta⟩
   simp only [PU] at Ta
   have HX:=Lib.hid hx1
   clear hx1
   have HT:=Lib.hid Ta
   clear Ta
   go_wp2_with fail
   refine (DoesG.use (workRefuse HX.out 0 HLN.out) (HT.out) [0,3] rfl rfl).mono ?_
   rintro e w1 ⟨gs,⟨rfl,g1,hx1,rfl⟩,Ta⟩
   simp only [PU] at Ta
   have HX:=Lib.hid hx1
   clear hx1
   have HT:=Lib.hid Ta
   clear Ta
   go_wp2_with fail
   refine (DoesG.use (sOver) (HT.out) [0] rfl rfl).mono ?_
   rintro e w1 ⟨gs,⟨m2,d2,g2,rfl,hs2,rfl⟩,Ta⟩
   simp only [PU] at Ta
   have HT:=Lib.hid Ta
   clear Ta
   have e0:=HT.out.cell 4 0 rfl 0
   have fe0:=HT.out.free 4 0 rfl 0
   have e1:=HT.out.cell 4 0 rfl 1
   have fe1:=HT.out.free 4 0 rfl 1
   simp only [GE4] at e0 e1
   have hv2:=(cliC_vals L kb pv).vals hs2
   obtain ⟨st1,st2⟩:=Cli.store_fv2 (P:=Tryz.prog) hv2.1 hv2.2 e0 fe0 e1 fe1
   have HS:=Lib.hid hs2
   clear hv2 hs2
   go_wp2
   exact bodyPost_ret (v:=.agg #[_,_]) (by simp [results,Tryz.results141,go_sem,e0,e1]) rfl ⟨_,⟨m2,d2,g2,_,_,rfl,HS.out,⟨_,_,gq,gt,HR.out,HTK.out,rfl,HX.out⟩,rfl⟩,(((HT.out.set 4 0 rfl 0 _).set 4 0 rfl 1 _).pick [0,1,2,3,5] rfl).sum⟩
set_option maxHeartbeats 4000000 in
set_option maxRecDepth 100000 in
theorem mAgain (hz:rep2 L kb pv k x gK gF) (hp:preMC .again (k,x)):DoesG Tryz.prog 201 #[ptr' kb] [gK,gF] (MRz L kb pv (runC .again (k,x))):=by
 obtain ⟨hok,hwk,_⟩:=hp
 simp only at hok hwk
 have HLN:=Lib.hid hok.tr
 have HLK:=Lib.hid (show ∀ g rv tv,isCore L x g→_ from fun g rv tv hx=>workLook (kb:=kb) (pv:=pv) (rv:=rv) (tv:=tv) (k:=k) (g:=g) hx hok hwk.id.1 hwk.id.2)
 have hkeep:=look_keeps k x.slab hwk.slot hwk.id.1
 have hE:∀ k2 er,lookW k x.slab=(k2,er)→runC .again (k,x)=if er=0 then (.at none .tries,(k2,x)) else (.thn (.row1 .again1) .leaves,refuseC 0 (k2,x)):=by
  intro k2 er h
  show (if (lookW k x.slab).2=0 then _ else _)=_
  simp only [lookC,h]
 obtain ⟨k2,er,hl⟩:∃ k2 er,lookW k x.slab=(k2,er):=⟨_,_,rfl⟩
 rw [hE k2 er hl]
 rw [hl] at HLK hkeep
 simp only at hkeep
 clear hE hl hok hwk
 by_cases h0:er=0
 ·have HZ:(if er=0 then (.at none .tries,(k2,x)) else (.thn (.row1 .again1) .leaves,refuseC 0 (k2,x)):SC × ZC)=(.at none .tries,(k2,x)):=if_pos h0
  rw [h0] at HLK
  clear h0
  rw [HZ]
  unfold MRz
  dsimp only [refuseC]
  clear HZ
  obtain ⟨hkk,hkr,hkt,hks⟩:=hkeep
  obtain ⟨rv,tv,gq,gt,hr,ht,rfl,hx⟩:=hz
  intro w hw
  have T0:=TG.refl hw
  have HT:=Lib.hid T0
  clear hw T0
  have HT:=Lib.hid (HT.out.sum (H':=[workB kb L.fb pv rv tv k,gq,gt,gF]))
  have HX:=Lib.hid hx
  have HR:=Lib.hid (show optR L.p.sb k2.rq rv gq from hkr ▸ hr)
  have HTK:=Lib.hid (show optT L k2.tk tv gt from hkt ▸ ht)
  clear hx hr ht hkr hkt hkk hks
  have HT:=Lib.hid ((HT.out.alloc (k:=w.heap.size) rfl 33 #[ptr' kb]).alloc (k:=w.heap.size+1) (by simp) 148 #[.nilFunc,.nilFunc])
  go_enter Tryz.func201,Tryz.ntmps201
  go_wp2_with fail
  refine (DoesG.use (HLK.out _ _ _ HX.out) (HT.out) [0,3] rfl rfl).mono ?_
  rintro e w1 ⟨gs,⟨rfl,g1,hx1,rfl⟩,Ta⟩
  simp only [PU] at Ta
  have HX:=Lib.hid hx1
  clear hx1
  have HT:=Lib.hid Ta
  clear Ta
  have b0:=HT.out.cell 4 0 rfl 0
  simp only [GE4] at b0
  go_wp2_with fail
  refine (DoesG.use (callsAt) (HT.out) [] rfl rfl).mono ?_
  rintro e w1 ⟨gs,⟨rfl,rfl⟩,Ta⟩
  simp only [PU] at Ta
  have HT:=Lib.hid Ta
  clear Ta
  have e0:=HT.out.cell 5 0 rfl 0
  have fe0:=HT.out.free 5 0 rfl 0
  have e1:=HT.out.cell 5 0 rfl 1
  have fe1:=HT.out.free 5 0 rfl 1
  simp only [GE4] at e0 e1
  go_wp2
  exact bodyPost_ret (v:=.agg #[.nilFunc,.func (.func 175) #[ptr' kb] #[]]) (by simp [results,Tryz.results201,go_sem,e0,e1]) rfl ⟨_,⟨_,_,[],_,_,rfl,⟨rfl,rfl,rfl⟩,⟨_,_,gq,gt,HR.out,HTK.out,rfl,HX.out⟩,rfl⟩,(((HT.out.set 5 0 rfl 0 _).set 5 0 rfl 1 _).pick [0,1,2,3] rfl).sum⟩
 ·have HZ:(if er=0 then (.at none .tries,(k2,x)) else (.thn (.row1 .again1) .leaves,refuseC 0 (k2,x)):SC × ZC)=(.thn (.row1 .again1) .leaves,refuseC 0 (k2,x)):=if_neg h0
  have hb0:(er == 0)=false:=beq_eq_false_iff_ne.2 h0
  have hrow:∀ (bk b bf bl bi:Nat),(cliC L kb pv).SV (.row1 .again1) .nilFunc (.func (.func 188) #[] #[ptr' bf,ptr' bl,ptr' bi])
   ([cl bf 1 #[.func (.func 233) #[] #[ptr' bk]],cl bl 303 #[.slice (some ⟨b,0,none⟩) 1 1],cl bi 3 #[.int .i64 0],cl b 1 #[.func (.func 233) #[] #[ptr' bk]]]++[cl bk 33 #[ptr' kb]]) :=
   fun bk b bf bl bi=>⟨rfl,bf,bl,bi,b,0,_,_,_,rfl,⟨bk,rfl,rfl⟩,rfl,rfl⟩
  have hthen:∀ (bk b bf bl bi:Nat),_:=fun bk b bf bl bi=>Cli.prog_then_cons (f:=MC.leaves) (v:=.func (.func 168) #[ptr' kb] #[]) (gm:=[]) (cliC_vals L kb pv) rfl (hrow bk b bf bl bi) ⟨rfl,rfl⟩
  have HTH:=Lib.hid hthen
  clear h0 hrow hthen
  rw [HZ]
  unfold MRz
  dsimp only [refuseC]
  clear HZ
  obtain ⟨hkk,hkr,hkt,hks⟩:=hkeep
  obtain ⟨rv,tv,gq,gt,hr,ht,rfl,hx⟩:=hz
  intro w hw
  have T0:=TG.refl hw
  have HT:=Lib.hid T0
  clear hw T0
  have HT:=Lib.hid (HT.out.sum (H':=[workB kb L.fb pv rv tv k,gq,gt,gF]))
  have HX:=Lib.hid hx
  have HR:=Lib.hid (show optR L.p.sb k2.rq rv gq from hkr ▸ hr)
  have HTK:=Lib.hid (show optT L k2.tk tv gt from hkt ▸ ht)
  clear hx hr ht hkr hkt hkk hks
  have HT:=Lib.hid ((HT.out.alloc (k:=w.heap.size) rfl 33 #[ptr' kb]).alloc (k:=w.heap.size+1) (by simp) 148 #[.nilFunc,.nilFunc])
  go_enter Tryz.func201,Tryz.ntmps201
  go_wp2_with fail
  refine (DoesG.use (HLK.out _ _ _ HX.out) (HT.out) [0,3] rfl rfl).mono ?_
  rintro e w1 ⟨gs,⟨rfl,g1,hx1,rfl⟩,Ta⟩
  simp only [PU] at Ta
  have HX:=Lib.hid hx1
  clear hx1
  have HT:=Lib.hid Ta
  clear Ta
  have b0:=HT.out.cell 4 0 rfl 0
  simp only [GE4] at b0
  go_wp2_with fail
  refine (DoesG.use (workRefuse HX.out 0 HLN.out) (HT.out) [0,3] rfl rfl).mono ?_
  rintro e w1 ⟨gs,⟨rfl,g1,hx1,rfl⟩,Ta⟩
  simp only [PU] at Ta
  have HX:=Lib.hid hx1
  clear hx1
  have HT:=Lib.hid Ta
  clear Ta
  clear b0
  have b0:=HT.out.cell 4 0 rfl 0
  simp only [GE4] at b0
  have ltb:=HT.out.lt 4 0 rfl
  simp only [] at ltb
  go_wp2_with fail
  go_region_with (first
   | (go_at_call 164
      refine (DoesG.use (Cli.row_1 (b:=w1.heap.size) (o:=0) (D:=#[.func (.func 233) #[] #[ptr' w.heap.size]]) rfl 1 (.inl rfl)) (HT.out.drew.alloc (k:=w1.heap.size) rfl _ _) [6] rfl rfl).mono ?_
      rintro e w2 ⟨gs,⟨bf,bl,bi,rfl,rfl⟩,Ta⟩
      simp only [PU] at Ta
      have b1:=Ta.cell 4 0 rfl 0
      simp only [GE2] at b1
      have HT1:=Lib.hid (Ta.sum (H':=[workB kb L.fb pv rv tv (refuseW 0 k2),gq,gt,g1,[cl (w.heap.size+1) 148 #[.nilFunc,.nilFunc]],[cl bf 1 #[.func (.func 233) #[] #[ptr' w.heap.size]],cl bl 303 #[.slice (some ⟨w1.heap.size,0,none⟩) 1 1],cl bi 3 #[.int .i64 0],cl w1.heap.size 1 #[.func (.func 233) #[] #[ptr' w.heap.size]]]++[cl w.heap.size 33 #[ptr' kb]],[]]))
      clear Ta)
   | (go_at_call 191
      refine (DoesG.use (HTH.out _ _ _ _ _) HT1.out [5,6] rfl rfl).mono ?_
      rintro e w3 ⟨gs,⟨m2,d2,g2,rfl,hs2,rfl⟩,Ta⟩
      simp only [PU] at Ta
      have e0:=Ta.cell 4 0 rfl 0
      have e1:=Ta.cell 4 0 rfl 1
      have f0:=Ta.free 4 0 rfl 0
      have f1:=Ta.free 4 0 rfl 1
      have hv2:=(cliC_vals L kb pv).vals hs2
      obtain ⟨st1,st2⟩:=Cli.store_fv2 (P:=Tryz.prog) hv2.1 hv2.2 e0 f0 e1 f1
      clear hv2
      have HS2:=Lib.hid hs2
      have HT2:=Lib.hid Ta
      clear Ta hs2))
  all_goals
   go_wp2
   exact bodyPost_ret (v:=.agg #[_,_]) (by simp [results,Tryz.results201,go_sem,e0,e1]) rfl ⟨_,⟨m2,d2,g2,_,_,rfl,HS2.out,⟨_,_,gq,gt,HR.out,HTK.out,rfl,HX.out⟩,rfl⟩,(((HT2.out.set 4 0 rfl 0 _).set 4 0 rfl 1 _).pick [0,1,2,3,5] rfl).sum⟩
end
end
section
open Go.RowKit Go.Shelf
section
variable {L:Lay} {kb:Nat} {pv:Value}
set_option maxHeartbeats 4000000 in
set_option maxRecDepth 100000 in
theorem tries16 {u0 u3 u4 u5 u6 u7 u8 u9 u10 u11 u12 u13 u14 u15 u16 u17 u18 u19 u20 u21 u22 u23 u24 u25 u26 u27 u28 u29 u30 u31 u32 u33 u34 u35 u36 u37 u38 u39 u40 u41 u42 u43 u44 u45 u46 u47 u48 u49 u50 u51 u52 u53 u54 u55 u56 u57 u58 u59 u60 u61 u62 u63 u64 u65 u66 u67 u68 u69 u70 u71 u72 u73 u74 u75 u76 u77 u78 u79 u80 u81 u82 u83 u84 u85 u86 u87 u88 u89 u90 u91 u92 u93 u94 u95 u96 u97 u98 u99 u100 u101 u102 u103 u104 u105 u106 u107 u108 u109 u110 u111 u112 u113 u114 u115 u116 u117 u118 u119 u120:Value} {bb rb:Nat} {K:Act→World→Prop} {Q':Exit→Act→World→Prop} {g0 g1 g2 g3:List Blk} {w0 w:World} {h:GH} (T:TG h w0 [g0,g1,g2,g3,[cl bb 33 #[ptr' kb]],[cl rb 148 #[.nilFunc,.nilFunc]]] w)
 (hK:∀ w' m d g v113 v114 v115 v116 v117 v118 v119 v120,(cliC L kb pv).SV (.thn (.row2 .tries1 .drop) .ends) m d g→TG h w0 [g0,g1,g2,g3,g,[cl rb 148 #[m,d]]] w'→K { tmps:=#[u0,ptr' bb,ptr' rb,u3,u4,u5,u6,u7,u8,u9,u10,u11,u12,u13,u14,u15,u16,u17,u18,u19,u20,u21,u22,u23,u24,u25,u26,u27,u28,u29,u30,u31,u32,u33,u34,u35,u36,u37,u38,u39,u40,u41,u42,u43,u44,u45,u46,u47,u48,u49,u50,u51,u52,u53,u54,u55,u56,u57,u58,u59,u60,u61,u62,u63,u64,u65,u66,u67,u68,u69,u70,u71,u72,u73,u74,u75,u76,u77,u78,u79,u80,u81,u82,u83,u84,u85,u86,u87,u88,u89,u90,u91,u92,u93,u94,u95,u96,u97,u98,u99,u100,u101,u102,u103,u104,u105,u106,u107,u108,u109,u110,u111,u112,v113,v114,v115,v116,v117,v118,v119,v120],defers:=[] } w') :
 (regOf 16 Tryz.f175).wp Tryz.prog (Exit.then K Q') { tmps:=#[u0,ptr' bb,ptr' rb,u3,u4,u5,u6,u7,u8,u9,u10,u11,u12,u13,u14,u15,u16,u17,u18,u19,u20,u21,u22,u23,u24,u25,u26,u27,u28,u29,u30,u31,u32,u33,u34,u35,u36,u37,u38,u39,u40,u41,u42,u43,u44,u45,u46,u47,u48,u49,u50,u51,u52,u53,u54,u55,u56,u57,u58,u59,u60,u61,u62,u63,u64,u65,u66,u67,u68,u69,u70,u71,u72,u73,u74,u75,u76,u77,u78,u79,u80,u81,u82,u83,u84,u85,u86,u87,u88,u89,u90,u91,u92,u93,u94,u95,u96,u97,u98,u99,u100,u101,u102,u103,u104,u105,u106,u107,u108,u109,u110,u111,u112,u113,u114,u115,u116,u117,u118,u119,u120],defers:=[] } w:=by
 refine wp_regOf (by rfl) ?_
 have hrow:∀ (bk b bf bl bi:Nat),(cliC L kb pv).SV (.row2 .tries1 .drop) .nilFunc (.func (.func 188) #[] #[ptr' bf,ptr' bl,ptr' bi])
  ([cl bf 1 #[.func (.func 211) #[] #[ptr' bk]],cl bl 303 #[.slice (some ⟨b,0,none⟩) 2 2],cl bi 3 #[.int .i64 0],cl b 1 #[.func (.func 211) #[] #[ptr' bk],.func (.func 200) #[ptr' kb] #[]]]++[cl bk 33 #[ptr' kb]]++[]) :=
  fun bk b bf bl bi=>⟨rfl,bf,bl,bi,b,_,_,_,[],rfl,⟨bk,rfl,rfl⟩,⟨rfl,rfl⟩,rfl⟩
 have hthen:∀ (bk b bf bl bi:Nat),_:=fun bk b bf bl bi=>Cli.prog_then_x (f:=MC.ends) (v:=.func (.func 134) #[ptr' kb] #[]) (gm:=[]) (cliC_vals L kb pv) rfl (hrow bk b bf bl bi) ⟨rfl,rfl⟩
 have hrow':=hrow
 have HTH:=Lib.hid hthen
 have HT:=Lib.hid T
 have HK:=Lib.hid hK
 have b0:=T.cell 4 0 rfl 0
 have ltb:=T.lt 4 0 rfl
 have ltr:=T.lt 5 0 rfl
 simp only [GE2] at b0 ltb ltr
 clear T hK hrow hthen
 have HRW:=Lib.hid hrow'
 clear hrow'
 go_region_held3 (fun w'=>w'.cell? ⟨bb,0,none⟩=some (ptr' kb))
  (first
  | exact HT2.out.cell 4 6 rfl 0
  | exact HT1.out.cell 4 4 rfl 0
  | exact (HT.out.drew.alloc (k:=w.heap.size) rfl _ _).cell 4 0 rfl 0
  | exact HT.out.drew.cell 4 0 rfl 0
  | exact HT.out.cell 4 0 rfl 0
  | exact ((HT2.out.set 5 0 rfl 0 _).set 5 0 rfl 1 _).cell 4 6 rfl 0)
  (first
  | (go_at_call 164
     refine (DoesG.use (Cli.row_1 (b:=w.heap.size) (o:=0) (D:=#[.func (.func 211) #[] #[ptr' bb],.func (.func 200) #[ptr' kb] #[]]) rfl 2 (.inr rfl)) (HT.out.drew.alloc (k:=w.heap.size) rfl _ _) [6] rfl rfl).mono ?_
     rintro e w7 ⟨gs,⟨bf,bl,bi,rfl,rfl⟩,Ta⟩
     simp only [PU] at Ta
     have HT1:=Lib.hid (Ta.sum (H':=[g0,g1,g2,g3,[cl bf 1 #[.func (.func 211) #[] #[ptr' bb]],cl bl 303 #[.slice (some ⟨w.heap.size,0,none⟩) 2 2],cl bi 3 #[.int .i64 0],cl w.heap.size 1 #[.func (.func 211) #[] #[ptr' bb],.func (.func 200) #[ptr' kb] #[]]]++[cl bb 33 #[ptr' kb]]++[],[cl rb 148 #[.nilFunc,.nilFunc]],[]]))
     clear Ta)
  | (go_at_call 191
     refine (DoesG.use (HTH.out _ _ _ _ _) HT1.out [4,6] rfl rfl).mono ?_
     rintro e w8 ⟨gs,⟨bs,br,rfl,rfl⟩,Ta⟩
     simp only [putG,List.set_cons_zero,List.set_cons_succ] at Ta
     have e0:=Ta.cell 5 0 rfl 0
     have e1:=Ta.cell 5 0 rfl 1
     have f0:=Ta.free 5 0 rfl 0
     have f1:=Ta.free 5 0 rfl 1
     simp only [GE3] at e0 e1
     have HT2:=Lib.hid Ta
     clear Ta))
 all_goals
  exact HK.out _ _ _ _ _ _ _ _ _ _ _ _ ⟨bs,br,_,_,_,_,rfl,rfl,HRW.out _ _ _ _ _,⟨rfl,rfl⟩,rfl⟩ ((((HT2.out.set 5 0 rfl 0 _).set 5 0 rfl 1 _).pick [0,1,2,3,4,5] rfl).eq rfl)
end
end
section
open Go.RowKit Go.Shelf
theorem gen_r (n:Int) (h0:0≤n) (h1:n<18446744073709551616):ReadsG Tryz.prog 209 #[.int .u64 n] [] (.int .u64 (genW n)) :=
 fun w hw=>(gen_calls n w h0 h1).mono fun e w' ⟨he,hw'⟩=>⟨he,0,hw'.symm⟩
section
variable {L:Lay} {x:CoreS} {gK gF:List Blk} {kb:Nat} {pv:Value} {k:WorkS}
set_option maxHeartbeats 4000000 in
set_option maxRecDepth 100000 in
theorem mTries (hz:rep2 L kb pv k x gK gF) (hp:preMC .tries (k,x)):DoesG Tryz.prog 175 #[ptr' kb] [gK,gF] (MRz L kb pv (runC .tries (k,x))):=by
 obtain ⟨hok,hwk,_⟩:=hp
 simp only at hok hwk
 have hwb:=try_word hok.slab k.slot k.saw k.event hwk.saw.1 hwk.saw.2.1 hwk.saw.2.2
 have HTRY:=Lib.hid (show ∀ g,isCore L x g→_ from fun g hx=>coreTry (g:=g) hx hok.slab.n1 k.slot k.saw k.event hwk.saw.1 hwk.saw.2.1)
 have hE:∀ s2 w2 er,x.slab.try k.slot k.saw k.event=(s2,w2,er)→runC .tries (k,x) =
  if er≠0 then (if k.kind=3 then (.at none .again,({ k with gen:=genW w2 },{ x with slab:=s2 })) else (.at none .looks,({ k with gen:=genW w2 },{ x with slab:=s2 })))
  else if k.kind=3 then (.at none .fills,noteZ { ev0 with kind:=6,id:=k.id,gen:=genW w2,dl:=k.cdl } (okC { k with gen:=genW w2 },{ x with slab:=s2 }))
  else if k.kind=5 then (.row1 .ends1,noteZ { ev0 with kind:=8,id:=k.id,gen:=genW w2 } (okC { k with gen:=genW w2 },{ x with slab:=s2 }))
  else (.thn (.row2 .tries1 .drop) .ends,noteZ { ev0 with kind:=7,id:=k.id,gen:=genW w2 } (okC { k with gen:=genW w2 },{ x with slab:=s2 })):=by
  intro s2 w2 er h
  show (if (tryC (k,x)).2≠0 then _ else _)=_
  simp only [tryC,h]
 obtain ⟨s2,w2,er,hl⟩:∃ s2 w2 er,x.slab.try k.slot k.saw k.event=(s2,w2,er):=⟨_,_,_,rfl⟩
 rw [hE s2 w2 er hl]
 rw [hl] at HTRY hwb
 have HWB:=Lib.hid hwb
 have HLN:=Lib.hid (show ({ x with slab:=s2 }:CoreS).tr.length≤1000000 from hok.tr)
 clear hE hl hok hwk hwb
 by_cases h0:er=0
 ·rw [if_neg (by simpa using h0)]
  rw [h0] at HTRY
  clear h0
  by_cases h3:k.kind=3
  ·rw [if_pos h3]
   unfold MRz
   dsimp only [noteZ,okC]
   obtain ⟨rv,tv,gq,gt,hr,ht,rfl,hx⟩:=hz
   intro w hw
   have T0:=TG.refl hw
   have HT:=Lib.hid T0
   clear hw T0
   have HT:=Lib.hid (HT.out.sum (H':=[workB kb L.fb pv rv tv k,gq,gt,gF]))
   have HX:=Lib.hid hx
   have HR:=Lib.hid hr
   have HTK:=Lib.hid ht
   clear hx hr ht
   go_enter Tryz.func175,Tryz.ntmps175
   go_wp2
   have HT:=Lib.hid ((HT.out.alloc (k:=w.heap.size) rfl 33 #[ptr' kb]).alloc (k:=w.heap.size+1) (by simp) 148 #[.nilFunc,.nilFunc])
   generalize World.alloc _ _=wa at HT ⊢
   simp only [List.cons_append,List.nil_append] at HT
   have b0:=HT.out.cell 4 0 rfl 0
   simp only [GE4] at b0
   have k0:=HT.out.cell 0 0 rfl 0
   have k16:=HT.out.cell 0 0 rfl 16
   have k17:=HT.out.cell 0 0 rfl 17
   simp only [workC,GE3] at k0 k16 k17
   refine wp_region_mix1 15 (by kernel_rfl) (by kernel_rfl) ?_
   simp only [TD4]
   repeat (go_big_quiet_step ((first | (go_at_call 22;with_reducible exact ReadsG.quiet (coreSlab_r HX.out) HT.out _ [3] rfl rfl) | (go_at_call 206;with_reducible exact ReadsG.quiet (workKind_r (L:=L)) HT.out _ [0] rfl rfl))))
   refine wpQuiet_nil ?_
   intro _ hw'
   obtain ⟨nq,hw''⟩:=hw'
   subst hw''
   have HT:=Lib.hid (HT.out.drewN nq)
   go_wp2_with fail
   refine (DoesG.use (HTRY.out _ HX.out) (HT.out) [3] rfl rfl).mono ?_
   rintro e w1 ⟨gs,⟨rfl,g1,hx1,rfl⟩,Ta⟩
   simp only [PU] at Ta
   have HX:=Lib.hid hx1
   clear hx1 k0 k16 k17 b0
   have HT:=Lib.hid Ta
   clear Ta
   go_wp2_with fail
   refine ⟨rfl,?_⟩
   have b0:=HT.out.cell 4 0 rfl 0
   simp only [GE4] at b0
   have k18:=HT.out.cell 0 0 rfl 18
   have fk18:=HT.out.free 0 0 rfl 18
   simp only [workC,GE3] at k18
   go_wp2
   refine wp_region_mix1 3 (by kernel_rfl) (by kernel_rfl) ?_
   simp only [TD4]
   repeat (go_big_quiet_step ((first | (go_at_call 209;with_reducible exact ReadsG.quiet (gen_r _ HWB.out.1 HWB.out.2) HT.out _ [] rfl rfl))))
   refine wpQuiet_nil ?_
   intro _ hw'
   obtain ⟨nq,hw''⟩:=hw'
   subst hw''
   have HT:=Lib.hid (HT.out.drewN nq)
   go_wp2_with fail
   refine ⟨rfl,?_⟩
   have HT:=Lib.hid ((HT.out.set 0 0 rfl 18 (.int .u64 (genW w2))).eq (H':=[workB kb L.fb pv rv tv { k with gen:=genW w2 },gq,gt,g1,[cl w.heap.size 33 #[ptr' kb]],[cl (w.heap.size+1) 148 #[.nilFunc,.nilFunc]]]) rfl)
   clear b0 k18 fk18
   generalize World.setCell _ _ _=w4 at HT ⊢
   have b0:=HT.out.cell 4 0 rfl 0
   simp only [GE4] at b0
   have k3:=HT.out.cell 0 0 rfl 3
   have k15:=HT.out.cell 0 0 rfl 15
   have k18:=HT.out.cell 0 0 rfl 18
   have k7:=HT.out.cell 0 0 rfl 7
   have fk7:=HT.out.free 0 0 rfl 7
   have k8:=HT.out.cell 0 0 rfl 8
   have fk8:=HT.out.free 0 0 rfl 8
   have k9:=HT.out.cell 0 0 rfl 9
   have fk9:=HT.out.free 0 0 rfl 9
   have k10:=HT.out.cell 0 0 rfl 10
   have fk10:=HT.out.free 0 0 rfl 10
   have k11:=HT.out.cell 0 0 rfl 11
   have fk11:=HT.out.free 0 0 rfl 11
   simp only [workC,GE3] at k3 k15 k18 k7 k8 k9 k10 k11
   go_wp2
   refine wp_region_mix1 10 (by kernel_rfl) (by kernel_rfl) ?_
   simp only [TD4]
   repeat (go_big_quiet_step ((fail)))
   refine wpQuiet_nil ?_
   intro _ hw'
   obtain ⟨nq,hw''⟩:=hw'
   subst hw''
   have HT:=Lib.hid (HT.out.drewN nq)
   go_wp2_with fail
   refine ⟨rfl,?_⟩
   have HT:=Lib.hid ((((((HT.out.set 0 0 rfl 7 (.int .i64 0)).set 0 0 rfl 8 (.bool true)).set 0 0 rfl 9 (.int .u64 k.id)).set 0 0 rfl 10 (.int .u64 (genW w2))).set 0 0 rfl 11 (.slice none 0 0)).eq (H':=[workB kb L.fb pv rv tv { k with gen:=genW w2,err:=0,ok:=true,aid:=k.id,agen:=genW w2 },gq,gt,g1,[cl w.heap.size 33 #[ptr' kb]],[cl (w.heap.size+1) 148 #[.nilFunc,.nilFunc]]]) rfl)
   clear b0 k3 k15 k18 k7 k8 k9 k10 k11 fk7 fk8 fk9 fk10 fk11
   generalize World.setCell _ _ _=w5 at HT ⊢
   have b0:=HT.out.cell 4 0 rfl 0
   simp only [GE4] at b0
   have k3:=HT.out.cell 0 0 rfl 3
   have k5:=HT.out.cell 0 0 rfl 5
   have k15:=HT.out.cell 0 0 rfl 15
   have k18:=HT.out.cell 0 0 rfl 18
   simp only [workC,GE3] at k3 k5 k15 k18
   rw [h3] at k3
   clear h3
   go_wp2
   refine wp_region_mix1 15 (by kernel_rfl) (by kernel_rfl) ?_
   simp only [TD4]
   repeat (go_big_quiet_step ((fail)))
   refine wpQuiet_nil ?_
   intro _ hw'
   obtain ⟨nq,hw''⟩:=hw'
   subst hw''
   have HT:=Lib.hid (HT.out.drewN nq)
   go_wp2_with fail
   refine (DoesG.use (workNote HX.out { ev0 with kind:=6,id:=k.id,gen:=genW w2,dl:=k.cdl } HLN.out) (HT.out) [0,3] rfl rfl).mono ?_
   rintro e w1 ⟨gs,⟨rfl,g2,hx2,rfl⟩,Ta⟩
   simp only [PU] at Ta
   have HX:=Lib.hid hx2
   clear hx2 k3 k5 k15 k18 b0
   have HT:=Lib.hid Ta
   clear Ta
   go_wp2_with fail
   refine ⟨rfl,?_⟩
   have b0:=HT.out.cell 4 0 rfl 0
   simp only [GE4] at b0
   go_wp2_with fail
   refine (DoesG.use (callsAt) (HT.out) [] rfl rfl).mono ?_
   rintro e w1 ⟨gs,⟨rfl,rfl⟩,Ta⟩
   simp only [PU] at Ta
   have HT:=Lib.hid Ta
   clear Ta
   have e0:=HT.out.cell 5 0 rfl 0
   have fe0:=HT.out.free 5 0 rfl 0
   have e1:=HT.out.cell 5 0 rfl 1
   have fe1:=HT.out.free 5 0 rfl 1
   simp only [GE4] at e0 e1
   go_wp2
   exact bodyPost_ret (v:=.agg #[.nilFunc,.func (.func 210) #[ptr' kb] #[]]) (by simp [results,Tryz.results175,go_sem,e0,e1]) rfl ⟨_,⟨_,_,[],_,_,rfl,⟨rfl,rfl,rfl⟩,⟨_,_,gq,gt,HR.out,HTK.out,rfl,HX.out⟩,rfl⟩,(((HT.out.set 5 0 rfl 0 _).set 5 0 rfl 1 _).pick [0,1,2,3] rfl).sum⟩
  ·rw [if_neg h3]
   by_cases h5:k.kind=5
   ·rw [if_pos h5]
    clear h3
    unfold MRz
    dsimp only [noteZ,okC]
    obtain ⟨rv,tv,gq,gt,hr,ht,rfl,hx⟩:=hz
    intro w hw
    have T0:=TG.refl hw
    have HT:=Lib.hid T0
    clear hw T0
    have HT:=Lib.hid (HT.out.sum (H':=[workB kb L.fb pv rv tv k,gq,gt,gF]))
    have HX:=Lib.hid hx
    have HR:=Lib.hid hr
    have HTK:=Lib.hid ht
    clear hx hr ht
    go_enter Tryz.func175,Tryz.ntmps175
    go_wp2
    have HT:=Lib.hid ((HT.out.alloc (k:=w.heap.size) rfl 33 #[ptr' kb]).alloc (k:=w.heap.size+1) (by simp) 148 #[.nilFunc,.nilFunc])
    generalize World.alloc _ _=wa at HT ⊢
    simp only [List.cons_append,List.nil_append] at HT
    have b0:=HT.out.cell 4 0 rfl 0
    simp only [GE4] at b0
    have k0:=HT.out.cell 0 0 rfl 0
    have k16:=HT.out.cell 0 0 rfl 16
    have k17:=HT.out.cell 0 0 rfl 17
    simp only [workC,GE3] at k0 k16 k17
    refine wp_region_mix1 15 (by kernel_rfl) (by kernel_rfl) ?_
    simp only [TD4]
    repeat (go_big_quiet_step ((first | (go_at_call 22;with_reducible exact ReadsG.quiet (coreSlab_r HX.out) HT.out _ [3] rfl rfl) | (go_at_call 206;with_reducible exact ReadsG.quiet (workKind_r (L:=L)) HT.out _ [0] rfl rfl))))
    refine wpQuiet_nil ?_
    intro _ hw'
    obtain ⟨nq,hw''⟩:=hw'
    subst hw''
    have HT:=Lib.hid (HT.out.drewN nq)
    go_wp2_with fail
    refine (DoesG.use (HTRY.out _ HX.out) (HT.out) [3] rfl rfl).mono ?_
    rintro e w1 ⟨gs,⟨rfl,g1,hx1,rfl⟩,Ta⟩
    simp only [PU] at Ta
    have HX:=Lib.hid hx1
    clear hx1 k0 k16 k17 b0
    have HT:=Lib.hid Ta
    clear Ta
    go_wp2_with fail
    refine ⟨rfl,?_⟩
    have b0:=HT.out.cell 4 0 rfl 0
    simp only [GE4] at b0
    have k18:=HT.out.cell 0 0 rfl 18
    have fk18:=HT.out.free 0 0 rfl 18
    simp only [workC,GE3] at k18
    go_wp2
    refine wp_region_mix1 3 (by kernel_rfl) (by kernel_rfl) ?_
    simp only [TD4]
    repeat (go_big_quiet_step ((first | (go_at_call 209;with_reducible exact ReadsG.quiet (gen_r _ HWB.out.1 HWB.out.2) HT.out _ [] rfl rfl))))
    refine wpQuiet_nil ?_
    intro _ hw'
    obtain ⟨nq,hw''⟩:=hw'
    subst hw''
    have HT:=Lib.hid (HT.out.drewN nq)
    go_wp2_with fail
    refine ⟨rfl,?_⟩
    have HT:=Lib.hid ((HT.out.set 0 0 rfl 18 (.int .u64 (genW w2))).eq (H':=[workB kb L.fb pv rv tv { k with gen:=genW w2 },gq,gt,g1,[cl w.heap.size 33 #[ptr' kb]],[cl (w.heap.size+1) 148 #[.nilFunc,.nilFunc]]]) rfl)
    clear b0 k18 fk18
    generalize World.setCell _ _ _=w4 at HT ⊢
    have b0:=HT.out.cell 4 0 rfl 0
    simp only [GE4] at b0
    have k3:=HT.out.cell 0 0 rfl 3
    have k15:=HT.out.cell 0 0 rfl 15
    have k18:=HT.out.cell 0 0 rfl 18
    have k7:=HT.out.cell 0 0 rfl 7
    have fk7:=HT.out.free 0 0 rfl 7
    have k8:=HT.out.cell 0 0 rfl 8
    have fk8:=HT.out.free 0 0 rfl 8
    have k9:=HT.out.cell 0 0 rfl 9
    have fk9:=HT.out.free 0 0 rfl 9
    have k10:=HT.out.cell 0 0 rfl 10
    have fk10:=HT.out.free 0 0 rfl 10
    have k11:=HT.out.cell 0 0 rfl 11
    have fk11:=HT.out.free 0 0 rfl 11
    simp only [workC,GE3] at k3 k15 k18 k7 k8 k9 k10 k11
    go_wp2
    refine wp_region_mix1 10 (by kernel_rfl) (by kernel_rfl) ?_
    simp only [TD4]
    repeat (go_big_quiet_step ((fail)))
    refine wpQuiet_nil ?_
    intro _ hw'
    obtain ⟨nq,hw''⟩:=hw'
    subst hw''
    have HT:=Lib.hid (HT.out.drewN nq)
    go_wp2_with fail
    refine ⟨rfl,?_⟩
    have HT:=Lib.hid ((((((HT.out.set 0 0 rfl 7 (.int .i64 0)).set 0 0 rfl 8 (.bool true)).set 0 0 rfl 9 (.int .u64 k.id)).set 0 0 rfl 10 (.int .u64 (genW w2))).set 0 0 rfl 11 (.slice none 0 0)).eq (H':=[workB kb L.fb pv rv tv { k with gen:=genW w2,err:=0,ok:=true,aid:=k.id,agen:=genW w2 },gq,gt,g1,[cl w.heap.size 33 #[ptr' kb]],[cl (w.heap.size+1) 148 #[.nilFunc,.nilFunc]]]) rfl)
    clear b0 k3 k15 k18 k7 k8 k9 k10 k11 fk7 fk8 fk9 fk10 fk11
    generalize World.setCell _ _ _=w5 at HT ⊢
    have b0:=HT.out.cell 4 0 rfl 0
    simp only [GE4] at b0
    have k3:=HT.out.cell 0 0 rfl 3
    have k5:=HT.out.cell 0 0 rfl 5
    have k15:=HT.out.cell 0 0 rfl 15
    have k18:=HT.out.cell 0 0 rfl 18
    simp only [workC,GE3] at k3 k5 k15 k18
    rw [h5] at k3
    clear h5
    go_wp2
    refine wp_region_mix1 10 (by kernel_rfl) (by kernel_rfl) ?_
    simp only [TD4]
    repeat (go_big_quiet_step ((fail)))
    refine wpQuiet_nil ?_
    intro _ hw'
    obtain ⟨nq,hw''⟩:=hw'
    subst hw''
    have HT:=Lib.hid (HT.out.drewN nq)
    go_wp2_with fail
    refine (DoesG.use (workNote HX.out { ev0 with kind:=8,id:=k.id,gen:=genW w2 } HLN.out) (HT.out) [0,3] rfl rfl).mono ?_
    rintro e w1 ⟨gs,⟨rfl,g2,hx2,rfl⟩,Ta⟩
    simp only [PU] at Ta
    have HX:=Lib.hid hx2
    clear hx2 k3 k5 k15 k18 b0
    have HT:=Lib.hid Ta
    clear Ta
    go_wp2_with fail
    refine ⟨rfl,?_⟩
    have b0:=HT.out.cell 4 0 rfl 0
    simp only [GE4] at b0
    go_wp2_with fail
    refine (DoesG.use (sEnds L kb pv) (HT.out) [] rfl rfl).mono ?_
    rintro e w1 ⟨gs,⟨m2,d2,g2,rfl,hs2,rfl⟩,Ta⟩
    simp only [PU] at Ta
    have HT:=Lib.hid Ta
    clear Ta
    have e0:=HT.out.cell 5 0 rfl 0
    have fe0:=HT.out.free 5 0 rfl 0
    have e1:=HT.out.cell 5 0 rfl 1
    have fe1:=HT.out.free 5 0 rfl 1
    simp only [GE4] at e0 e1
    have hv2:=(cliC_vals L kb pv).vals hs2
    obtain ⟨st1,st2⟩:=Cli.store_fv2 (P:=Tryz.prog) hv2.1 hv2.2 e0 fe0 e1 fe1
    have HS:=Lib.hid hs2
    clear hv2 hs2
    go_wp2
    exact bodyPost_ret (v:=.agg #[_,_]) (by simp [results,Tryz.results175,go_sem,e0,e1]) rfl ⟨_,⟨m2,d2,g2,_,_,rfl,HS.out,⟨_,_,gq,gt,HR.out,HTK.out,rfl,HX.out⟩,rfl⟩,(((HT.out.set 5 0 rfl 0 _).set 5 0 rfl 1 _).pick [0,1,2,3,6] rfl).sum⟩
   ·rw [if_neg h5]
    have hb3:(k.kind == 3)=false:=beq_eq_false_iff_ne.2 h3
    have hb5:(k.kind == 5)=false:=beq_eq_false_iff_ne.2 h5
    clear h3 h5
    unfold MRz
    dsimp only [noteZ,okC]
    obtain ⟨rv,tv,gq,gt,hr,ht,rfl,hx⟩:=hz
    intro w hw
    have T0:=TG.refl hw
    have HT:=Lib.hid T0
    clear hw T0
    have HT:=Lib.hid (HT.out.sum (H':=[workB kb L.fb pv rv tv k,gq,gt,gF]))
    have HX:=Lib.hid hx
    have HR:=Lib.hid hr
    have HTK:=Lib.hid ht
    clear hx hr ht
    go_enter Tryz.func175,Tryz.ntmps175
    go_wp2
    have HT:=Lib.hid ((HT.out.alloc (k:=w.heap.size) rfl 33 #[ptr' kb]).alloc (k:=w.heap.size+1) (by simp) 148 #[.nilFunc,.nilFunc])
    generalize World.alloc _ _=wa at HT ⊢
    simp only [List.cons_append,List.nil_append] at HT
    have b0:=HT.out.cell 4 0 rfl 0
    simp only [GE4] at b0
    have k0:=HT.out.cell 0 0 rfl 0
    have k16:=HT.out.cell 0 0 rfl 16
    have k17:=HT.out.cell 0 0 rfl 17
    simp only [workC,GE3] at k0 k16 k17
    refine wp_region_mix1 15 (by kernel_rfl) (by kernel_rfl) ?_
    simp only [TD4]
    repeat (go_big_quiet_step ((first | (go_at_call 22;with_reducible exact ReadsG.quiet (coreSlab_r HX.out) HT.out _ [3] rfl rfl) | (go_at_call 206;with_reducible exact ReadsG.quiet (workKind_r (L:=L)) HT.out _ [0] rfl rfl))))
    refine wpQuiet_nil ?_
    intro _ hw'
    obtain ⟨nq,hw''⟩:=hw'
    subst hw''
    have HT:=Lib.hid (HT.out.drewN nq)
    go_wp2_with fail
    refine (DoesG.use (HTRY.out _ HX.out) (HT.out) [3] rfl rfl).mono ?_
    rintro e w1 ⟨gs,⟨rfl,g1,hx1,rfl⟩,Ta⟩
    simp only [PU] at Ta
    have HX:=Lib.hid hx1
    clear hx1 k0 k16 k17 b0
    have HT:=Lib.hid Ta
    clear Ta
    go_wp2_with fail
    refine ⟨rfl,?_⟩
    have b0:=HT.out.cell 4 0 rfl 0
    simp only [GE4] at b0
    have k18:=HT.out.cell 0 0 rfl 18
    have fk18:=HT.out.free 0 0 rfl 18
    simp only [workC,GE3] at k18
    go_wp2
    refine wp_region_mix1 3 (by kernel_rfl) (by kernel_rfl) ?_
    simp only [TD4]
    repeat (go_big_quiet_step ((first | (go_at_call 209;with_reducible exact ReadsG.quiet (gen_r _ HWB.out.1 HWB.out.2) HT.out _ [] rfl rfl))))
    refine wpQuiet_nil ?_
    intro _ hw'
    obtain ⟨nq,hw''⟩:=hw'
    subst hw''
    have HT:=Lib.hid (HT.out.drewN nq)
    go_wp2_with fail
    refine ⟨rfl,?_⟩
    have HT:=Lib.hid ((HT.out.set 0 0 rfl 18 (.int .u64 (genW w2))).eq (H':=[workB kb L.fb pv rv tv { k with gen:=genW w2 },gq,gt,g1,[cl w.heap.size 33 #[ptr' kb]],[cl (w.heap.size+1) 148 #[.nilFunc,.nilFunc]]]) rfl)
    clear b0 k18 fk18
    generalize World.setCell _ _ _=w4 at HT ⊢
    have b0:=HT.out.cell 4 0 rfl 0
    simp only [GE4] at b0
    have k3:=HT.out.cell 0 0 rfl 3
    have k15:=HT.out.cell 0 0 rfl 15
    have k18:=HT.out.cell 0 0 rfl 18
    have k7:=HT.out.cell 0 0 rfl 7
    have fk7:=HT.out.free 0 0 rfl 7
    have k8:=HT.out.cell 0 0 rfl 8
    have fk8:=HT.out.free 0 0 rfl 8
    have k9:=HT.out.cell 0 0 rfl 9
    have fk9:=HT.out.free 0 0 rfl 9
    have k10:=HT.out.cell 0 0 rfl 10
    have fk10:=HT.out.free 0 0 rfl 10
    have k11:=HT.out.cell 0 0 rfl 11
    have fk11:=HT.out.free 0 0 rfl 11
    simp only [workC,GE3] at k3 k15 k18 k7 k8 k9 k10 k11
    go_wp2
    refine wp_region_mix1 10 (by kernel_rfl) (by kernel_rfl) ?_
    simp only [TD4]
    repeat (go_big_quiet_step ((fail)))
    refine wpQuiet_nil ?_
    intro _ hw'
    obtain ⟨nq,hw''⟩:=hw'
    subst hw''
    have HT:=Lib.hid (HT.out.drewN nq)
    go_wp2_with fail
    refine ⟨rfl,?_⟩
    have HT:=Lib.hid ((((((HT.out.set 0 0 rfl 7 (.int .i64 0)).set 0 0 rfl 8 (.bool true)).set 0 0 rfl 9 (.int .u64 k.id)).set 0 0 rfl 10 (.int .u64 (genW w2))).set 0 0 rfl 11 (.slice none 0 0)).eq (H':=[workB kb L.fb pv rv tv { k with gen:=genW w2,err:=0,ok:=true,aid:=k.id,agen:=genW w2 },gq,gt,g1,[cl w.heap.size 33 #[ptr' kb]],[cl (w.heap.size+1) 148 #[.nilFunc,.nilFunc]]]) rfl)
    clear b0 k3 k15 k18 k7 k8 k9 k10 k11 fk7 fk8 fk9 fk10 fk11
    generalize World.setCell _ _ _=w5 at HT ⊢
    have b0:=HT.out.cell 4 0 rfl 0
    simp only [GE4] at b0
    have k3:=HT.out.cell 0 0 rfl 3
    have k5:=HT.out.cell 0 0 rfl 5
    have k15:=HT.out.cell 0 0 rfl 15
    have k18:=HT.out.cell 0 0 rfl 18
    simp only [workC,GE3] at k3 k5 k15 k18
    go_wp2
    refine wp_region_mix1 10 (by kernel_rfl) (by kernel_rfl) ?_
    simp only [TD4]
    repeat (go_big_quiet_step ((fail)))
    refine wpQuiet_nil ?_
    intro _ hw'
    obtain ⟨nq,hw''⟩:=hw'
    subst hw''
    have HT:=Lib.hid (HT.out.drewN nq)
    go_wp2_with fail
    refine (DoesG.use (workNote HX.out { ev0 with kind:=7,id:=k.id,gen:=genW w2 } HLN.out) (HT.out) [0,3] rfl rfl).mono ?_
    rintro e w1 ⟨gs,⟨rfl,g2,hx2,rfl⟩,Ta⟩
    simp only [PU] at Ta
    have HX:=Lib.hid hx2
    clear hx2 k3 k5 k15 k18 b0
    have HT:=Lib.hid Ta
    clear Ta
    go_wp2_with fail
    refine ⟨rfl,?_⟩
    have b0:=HT.out.cell 4 0 rfl 0
    simp only [GE4] at b0
    go_wp2_with fail
    refine tries16 (L:=L) (pv:=pv) (g0:=workB kb L.fb pv rv tv { k with gen:=genW w2,err:=0,ok:=true,aid:=k.id,agen:=genW w2 }) (g1:=gq) (g2:=gt) (g3:=g2) HT.out ?_
    intro w9 m2 d2 g9 v113 v114 v115 v116 v117 v118 v119 v120 hs2 T9
    have hv2:=(cliC_vals L kb pv).vals hs2
    have HS2:=Lib.hid hs2
    have HT:=Lib.hid T9
    clear T9 hs2 b0
    have e0:=HT.out.cell 5 0 rfl 0
    have e1:=HT.out.cell 5 0 rfl 1
    simp only [GE4] at e0 e1
    go_wp2
    exact bodyPost_ret (v:=.agg #[m2,d2]) (by simp [results,Tryz.results175,go_sem,e0,e1]) rfl ⟨_,⟨m2,d2,g9,_,_,rfl,HS2.out,⟨_,_,gq,gt,HR.out,HTK.out,rfl,HX.out⟩,rfl⟩,(HT.out.pick [0,1,2,3,4] rfl).sum⟩
 ·rw [if_pos h0]
  have hbe:(er != 0)=true:=bne_iff_ne.2 h0
  clear h0
  by_cases h3:k.kind=3
  ·rw [if_pos h3]
   unfold MRz
   dsimp only [noteZ,okC]
   obtain ⟨rv,tv,gq,gt,hr,ht,rfl,hx⟩:=hz
   intro w hw
   have T0:=TG.refl hw
   have HT:=Lib.hid T0
   clear hw T0
   have HT:=Lib.hid (HT.out.sum (H':=[workB kb L.fb pv rv tv k,gq,gt,gF]))
   have HX:=Lib.hid hx
   have HR:=Lib.hid hr
   have HTK:=Lib.hid ht
   clear hx hr ht
   go_enter Tryz.func175,Tryz.ntmps175
   go_wp2
   have HT:=Lib.hid ((HT.out.alloc (k:=w.heap.size) rfl 33 #[ptr' kb]).alloc (k:=w.heap.size+1) (by simp) 148 #[.nilFunc,.nilFunc])
   generalize World.alloc _ _=wa at HT ⊢
   simp only [List.cons_append,List.nil_append] at HT
   have b0:=HT.out.cell 4 0 rfl 0
   simp only [GE4] at b0
   have k0:=HT.out.cell 0 0 rfl 0
   have k16:=HT.out.cell 0 0 rfl 16
   have k17:=HT.out.cell 0 0 rfl 17
   simp only [workC,GE3] at k0 k16 k17
   refine wp_region_mix1 15 (by kernel_rfl) (by kernel_rfl) ?_
   simp only [TD4]
   repeat (go_big_quiet_step ((first | (go_at_call 22;with_reducible exact ReadsG.quiet (coreSlab_r HX.out) HT.out _ [3] rfl rfl) | (go_at_call 206;with_reducible exact ReadsG.quiet (workKind_r (L:=L)) HT.out _ [0] rfl rfl))))
   refine wpQuiet_nil ?_
   intro _ hw'
   obtain ⟨nq,hw''⟩:=hw'
   subst hw''
   have HT:=Lib.hid (HT.out.drewN nq)
   go_wp2_with fail
   refine (DoesG.use (HTRY.out _ HX.out) (HT.out) [3] rfl rfl).mono ?_
   rintro e w1 ⟨gs,⟨rfl,g1,hx1,rfl⟩,Ta⟩
   simp only [PU] at Ta
   have HX:=Lib.hid hx1
   clear hx1 k0 k16 k17 b0
   have HT:=Lib.hid Ta
   clear Ta
   go_wp2_with fail
   refine ⟨rfl,?_⟩
   have b0:=HT.out.cell 4 0 rfl 0
   simp only [GE4] at b0
   have k18:=HT.out.cell 0 0 rfl 18
   have fk18:=HT.out.free 0 0 rfl 18
   simp only [workC,GE3] at k18
   go_wp2
   refine wp_region_mix1 3 (by kernel_rfl) (by kernel_rfl) ?_
   simp only [TD4]
   repeat (go_big_quiet_step ((first | (go_at_call 209;with_reducible exact ReadsG.quiet (gen_r _ HWB.out.1 HWB.out.2) HT.out _ [] rfl rfl))))
   refine wpQuiet_nil ?_
   intro _ hw'
   obtain ⟨nq,hw''⟩:=hw'
   subst hw''
   have HT:=Lib.hid (HT.out.drewN nq)
   go_wp2_with fail
   refine ⟨rfl,?_⟩
   have HT:=Lib.hid ((HT.out.set 0 0 rfl 18 (.int .u64 (genW w2))).eq (H':=[workB kb L.fb pv rv tv { k with gen:=genW w2 },gq,gt,g1,[cl w.heap.size 33 #[ptr' kb]],[cl (w.heap.size+1) 148 #[.nilFunc,.nilFunc]]]) rfl)
   clear b0 k18 fk18
   generalize World.setCell _ _ _=w4 at HT ⊢
   have b0:=HT.out.cell 4 0 rfl 0
   simp only [GE4] at b0
   have k3:=HT.out.cell 0 0 rfl 3
   simp only [workC,GE3] at k3
   rw [h3] at k3
   clear h3
   go_wp2_with fail
   refine (DoesG.use (callsAt) (HT.out) [] rfl rfl).mono ?_
   rintro e w1 ⟨gs,⟨rfl,rfl⟩,Ta⟩
   simp only [PU] at Ta
   have HT:=Lib.hid Ta
   clear Ta
   have e0:=HT.out.cell 5 0 rfl 0
   have fe0:=HT.out.free 5 0 rfl 0
   have e1:=HT.out.cell 5 0 rfl 1
   have fe1:=HT.out.free 5 0 rfl 1
   simp only [GE4] at e0 e1
   go_wp2
   exact bodyPost_ret (v:=.agg #[.nilFunc,.func (.func 201) #[ptr' kb] #[]]) (by simp [results,Tryz.results175,go_sem,e0,e1]) rfl ⟨_,⟨_,_,[],_,_,rfl,⟨rfl,rfl,rfl⟩,⟨_,_,gq,gt,HR.out,HTK.out,rfl,HX.out⟩,rfl⟩,(((HT.out.set 5 0 rfl 0 _).set 5 0 rfl 1 _).pick [0,1,2,3] rfl).sum⟩
  ·rw [if_neg h3]
   have hb3:(k.kind == 3)=false:=beq_eq_false_iff_ne.2 h3
   clear h3
   unfold MRz
   dsimp only [noteZ,okC]
   obtain ⟨rv,tv,gq,gt,hr,ht,rfl,hx⟩:=hz
   intro w hw
   have T0:=TG.refl hw
   have HT:=Lib.hid T0
   clear hw T0
   have HT:=Lib.hid (HT.out.sum (H':=[workB kb L.fb pv rv tv k,gq,gt,gF]))
   have HX:=Lib.hid hx
   have HR:=Lib.hid hr
   have HTK:=Lib.hid ht
   clear hx hr ht
   go_enter Tryz.func175,Tryz.ntmps175
   go_wp2
   have HT:=Lib.hid ((HT.out.alloc (k:=w.heap.size) rfl 33 #[ptr' kb]).alloc (k:=w.heap.size+1) (by simp) 148 #[.nilFunc,.nilFunc])
   generalize World.alloc _ _=wa at HT ⊢
   simp only [List.cons_append,List.nil_append] at HT
   have b0:=HT.out.cell 4 0 rfl 0
   simp only [GE4] at b0
   have k0:=HT.out.cell 0 0 rfl 0
   have k16:=HT.out.cell 0 0 rfl 16
   have k17:=HT.out.cell 0 0 rfl 17
   simp only [workC,GE3] at k0 k16 k17
   refine wp_region_mix1 15 (by kernel_rfl) (by kernel_rfl) ?_
   simp only [TD4]
   repeat (go_big_quiet_step ((first | (go_at_call 22;with_reducible exact ReadsG.quiet (coreSlab_r HX.out) HT.out _ [3] rfl rfl) | (go_at_call 206;with_reducible exact ReadsG.quiet (workKind_r (L:=L)) HT.out _ [0] rfl rfl))))
   refine wpQuiet_nil ?_
   intro _ hw'
   obtain ⟨nq,hw''⟩:=hw'
   subst hw''
   have HT:=Lib.hid (HT.out.drewN nq)
   go_wp2_with fail
   refine (DoesG.use (HTRY.out _ HX.out) (HT.out) [3] rfl rfl).mono ?_
   rintro e w1 ⟨gs,⟨rfl,g1,hx1,rfl⟩,Ta⟩
   simp only [PU] at Ta
   have HX:=Lib.hid hx1
   clear hx1 k0 k16 k17 b0
   have HT:=Lib.hid Ta
   clear Ta
   go_wp2_with fail
   refine ⟨rfl,?_⟩
   have b0:=HT.out.cell 4 0 rfl 0
   simp only [GE4] at b0
   have k18:=HT.out.cell 0 0 rfl 18
   have fk18:=HT.out.free 0 0 rfl 18
   simp only [workC,GE3] at k18
   go_wp2
   refine wp_region_mix1 3 (by kernel_rfl) (by kernel_rfl) ?_
   simp only [TD4]
   repeat (go_big_quiet_step ((first | (go_at_call 209;with_reducible exact ReadsG.quiet (gen_r _ HWB.out.1 HWB.out.2) HT.out _ [] rfl rfl))))
   refine wpQuiet_nil ?_
   intro _ hw'
   obtain ⟨nq,hw''⟩:=hw'
   subst hw''
   have HT:=Lib.hid (HT.out.drewN nq)
   go_wp2_with fail
   refine ⟨rfl,?_⟩
   have HT:=Lib.hid ((HT.out.set 0 0 rfl 18 (.int .u64 (genW w2))).eq (H':=[workB kb L.fb pv rv tv { k with gen:=genW w2 },gq,gt,g1,[cl w.heap.size 33 #[ptr' kb]],[cl (w.heap.size+1) 148 #[.nilFunc,.nilFunc]]]) rfl)
   clear b0 k18 fk18
   generalize World.setCell _ _ _=w4 at HT ⊢
   have b0:=HT.out.cell 4 0 rfl 0
   simp only [GE4] at b0
   have k3:=HT.out.cell 0 0 rfl 3
   simp only [workC,GE3] at k3
   go_wp2_with fail
   refine (DoesG.use (callsAt) (HT.out) [] rfl rfl).mono ?_
   rintro e w1 ⟨gs,⟨rfl,rfl⟩,Ta⟩
   simp only [PU] at Ta
   have HT:=Lib.hid Ta
   clear Ta
   have e0:=HT.out.cell 5 0 rfl 0
   have fe0:=HT.out.free 5 0 rfl 0
   have e1:=HT.out.cell 5 0 rfl 1
   have fe1:=HT.out.free 5 0 rfl 1
   simp only [GE4] at e0 e1
   go_wp2
   exact bodyPost_ret (v:=.agg #[.nilFunc,.func (.func 141) #[ptr' kb] #[]]) (by simp [results,Tryz.results175,go_sem,e0,e1]) rfl ⟨_,⟨_,_,[],_,_,rfl,⟨rfl,rfl,rfl⟩,⟨_,_,gq,gt,HR.out,HTK.out,rfl,HX.out⟩,rfl⟩,(((HT.out.set 5 0 rfl 0 _).set 5 0 rfl 1 _).pick [0,1,2,3] rfl).sum⟩
end
end
section
open Go.RowKit Go.Shelf
section
variable {L:Lay} {x:CoreS} {gK gF:List Blk} {kb:Nat} {pv:Value} {k:WorkS}
set_option maxRecDepth 100000 in
theorem mQueues (hz:rep2 L kb pv k x gK gF) (hp:preMC .queues (k,x)):DoesG Tryz.prog 173 #[ptr' kb] [gK,gF] (MRz L kb pv (runC .queues (k,x))):=by
 obtain ⟨hok,hwk,hpr⟩:=hp
 simp only at hok hwk hpr
 obtain ⟨⟨i,t⟩,htke⟩:=Option.isSome_iff_exists.1 hpr
 obtain ⟨htb,hi⟩:=hwk.tk i t htke
 obtain ⟨s,hs⟩:∃ s,x.shs[i]?=some s:=⟨_,List.getElem?_eq_getElem hi⟩
 have hrb:=hok.ring s (List.mem_of_getElem? hs)
 have htb2:=stepT_b hrb htb
 have HLN:=Lib.hid hok.tr
 have hE:runC .queues (k,x)=queuesC (k,x) i t s:=by
  show (match k.tk with | none=>_ | some (i,t)=>_)=_
  rw [htke]
  show (match x.shs[i]? with | none=>_ | some s=>_)=_
  rw [hs]
 rw [hE]
 obtain ⟨rv,tv,gq,gt,hr,ht,rfl,hx⟩:=hz
 rw [htke] at ht
 obtain ⟨tb,qs,hqs,rfl,rfl⟩:=ht
 clear hE hwk hpr htke hi hok
 obtain ⟨r2,t2,hr2⟩:∃ r2 t2,stepT s.ring t=(r2,t2):=⟨_,_,rfl⟩
 rw [hr2] at htb2
 have hst3:=htb2.st
 simp only at hst3
 clear htb2
 by_cases h0:t2.status=0
 ·have hst:(stepT s.ring t).2.status=0:=by rw [hr2];exact h0
  have HZ:queuesC (k,x) i t s=(.at none .queues,({ k with tk:=some (i,t2) },{ x with shs:=x.shs.set i { s with ring:=r2 } })):=by unfold queuesC;simp only [hr2];rw [if_pos h0]
  clear h0 hst3
  rw [HZ]
  unfold MRz
  dsimp only [refuseC]
  clear HZ
  intro w hw
  have T0:=TG.refl hw
  have HT:=Lib.hid T0
  clear hw T0
  have HT:=Lib.hid (HT.out.sum (H':=[workB kb L.fb pv rv (ptr' tb) k,gq,tickG tb qs.rb t,gF]))
  have HX:=Lib.hid hx
  have HR:=Lib.hid hr
  have HQS:=Lib.hid hqs
  have HTI:=Lib.hid (coreTick hx hqs hs tb t hrb htb)
  rw [hst,hr2] at HTI
  clear hx hr hqs hs hrb htb
  have k14:=HT.out.cell 0 0 rfl 14
  simp only [workC,GE3] at k14
  have lt:=HT.out.lt 0 0 rfl
  simp only [] at lt
  clear hst hr2
  go_enter Tryz.func173,Tryz.ntmps173
  go_wp2_with fail
  refine (DoesG.use (HTI.out) (HT.out.alloc (k:=w.heap.size) rfl _ _) [2,3] rfl rfl).mono ?_
  rintro e w1 ⟨gs,⟨rfl,g1,hx1,rfl⟩,Ta⟩
  simp only [PU] at Ta
  have HX:=Lib.hid hx1
  clear hx1 k14 lt
  have HT:=Lib.hid Ta
  clear Ta
  have HT:=Lib.hid (HT.out.eq (H':=[workB kb L.fb pv rv (ptr' tb) { k with tk:=some (i,t2) },gq,tickG tb qs.rb t2,g1,[cl w.heap.size 148 #[.nilFunc,.nilFunc]]]) rfl)
  have k3:=HT.out.cell 0 0 rfl 3
  simp only [workC,GE3] at k3
  clear k3
  go_wp2_with fail
  refine (DoesG.use (callsAt) (HT.out) [] rfl rfl).mono ?_
  rintro e w1 ⟨gs,⟨rfl,rfl⟩,Ta⟩
  simp only [PU] at Ta
  have HT:=Lib.hid Ta
  clear Ta
  have e0:=HT.out.cell 4 0 rfl 0
  have fe0:=HT.out.free 4 0 rfl 0
  have e1:=HT.out.cell 4 0 rfl 1
  have fe1:=HT.out.free 4 0 rfl 1
  simp only [GE4] at e0 e1
  go_wp2
  exact bodyPost_ret (v:=.agg #[.nilFunc,.func (.func 173) #[ptr' kb] #[]]) (by simp [results,Tryz.results173,go_sem,e0,e1]) rfl ⟨_,⟨_,_,[],_,_,rfl,⟨rfl,rfl,rfl⟩,⟨_,_,gq,(tickG tb qs.rb t2),HR.out,⟨tb,qs,HQS.out,rfl,rfl⟩,rfl,HX.out⟩,rfl⟩,(((HT.out.set 4 0 rfl 0 _).set 4 0 rfl 1 _).pick [0,1,2,3] rfl).sum⟩
 ·by_cases h1:t2.status=1
  ·have hst:(stepT s.ring t).2.status=1:=by rw [hr2];exact h1
   by_cases h3:k.kind=3
   ·have HZ:queuesC (k,x) i t s=(leavesC,refuseC 2 ({ k with tk:=some (i,t2) },{ x with shs:=x.shs.set i { s with ring:=r2 } })):=by unfold queuesC;simp only [hr2];rw [if_neg h0,if_pos ⟨h1,h3⟩]
    clear h0 h1 hst3
    rw [HZ]
    unfold MRz
    dsimp only [refuseC]
    clear HZ
    intro w hw
    have T0:=TG.refl hw
    have HT:=Lib.hid T0
    clear hw T0
    have HT:=Lib.hid (HT.out.sum (H':=[workB kb L.fb pv rv (ptr' tb) k,gq,tickG tb qs.rb t,gF]))
    have HX:=Lib.hid hx
    have HR:=Lib.hid hr
    have HQS:=Lib.hid hqs
    have HTI:=Lib.hid (coreTick hx hqs hs tb t hrb htb)
    rw [hst,hr2] at HTI
    clear hx hr hqs hs hrb htb
    have k14:=HT.out.cell 0 0 rfl 14
    simp only [workC,GE3] at k14
    have lt:=HT.out.lt 0 0 rfl
    simp only [] at lt
    clear hst hr2
    go_enter Tryz.func173,Tryz.ntmps173
    go_wp2_with fail
    refine (DoesG.use (HTI.out) (HT.out.alloc (k:=w.heap.size) rfl _ _) [2,3] rfl rfl).mono ?_
    rintro e w1 ⟨gs,⟨rfl,g1,hx1,rfl⟩,Ta⟩
    simp only [PU] at Ta
    have HX:=Lib.hid hx1
    clear hx1 k14 lt
    have HT:=Lib.hid Ta
    clear Ta
    have HT:=Lib.hid (HT.out.eq (H':=[workB kb L.fb pv rv (ptr' tb) { k with tk:=some (i,t2) },gq,tickG tb qs.rb t2,g1,[cl w.heap.size 148 #[.nilFunc,.nilFunc]]]) rfl)
    have k3:=HT.out.cell 0 0 rfl 3
    simp only [workC,GE3] at k3
    rw [h3] at k3
    clear h3
    go_wp2_with fail
    refine (DoesG.use (workRefuse HX.out 2 HLN.out) (HT.out) [0,3] rfl rfl).mono ?_
    rintro e w1 ⟨gs,⟨rfl,g1,hx1,rfl⟩,Ta⟩
    simp only [PU] at Ta
    have HX:=Lib.hid hx1
    clear hx1
    have HT:=Lib.hid Ta
    clear Ta
    clear k3
    go_wp2_with fail
    refine (DoesG.use (sLeaves L kb pv) (HT.out) [] rfl rfl).mono ?_
    rintro e w1 ⟨gs,⟨m2,d2,g2,rfl,hs2,rfl⟩,Ta⟩
    simp only [PU] at Ta
    have HT:=Lib.hid Ta
    clear Ta
    have e0:=HT.out.cell 4 0 rfl 0
    have fe0:=HT.out.free 4 0 rfl 0
    have e1:=HT.out.cell 4 0 rfl 1
    have fe1:=HT.out.free 4 0 rfl 1
    simp only [GE4] at e0 e1
    have hv2:=(cliC_vals L kb pv).vals hs2
    obtain ⟨st1,st2⟩:=Cli.store_fv2 (P:=Tryz.prog) hv2.1 hv2.2 e0 fe0 e1 fe1
    have HS:=Lib.hid hs2
    clear hv2 hs2
    go_wp2
    exact bodyPost_ret (v:=.agg #[_,_]) (by simp [results,Tryz.results173,go_sem,e0,e1]) rfl ⟨_,⟨m2,d2,g2,_,_,rfl,HS.out,⟨_,_,gq,(tickG tb qs.rb t2),HR.out,⟨tb,qs,HQS.out,rfl,rfl⟩,rfl,HX.out⟩,rfl⟩,(((HT.out.set 4 0 rfl 0 _).set 4 0 rfl 1 _).pick [0,1,2,3,5] rfl).sum⟩
   ·have HZ:queuesC (k,x) i t s=(.thn (.row2 .undo .drop) .leaves,({ k with tk:=some (i,t2) },{ x with shs:=x.shs.set i { s with ring:=r2 } })):=by unfold queuesC;simp only [hr2];rw [if_neg h0,if_neg (fun h=>h3 h.2),if_pos h1]
    have hb3:(k.kind == 3)=false:=beq_eq_false_iff_ne.2 h3
    have hrow:∀ (b bf bl bi:Nat),(cliC L kb pv).SV (.row2 .undo .drop) .nilFunc (.func (.func 188) #[] #[ptr' bf,ptr' bl,ptr' bi])
     ([cl bf 1 #[.func (.func 199) #[ptr' kb] #[]],cl bl 303 #[.slice (some ⟨b,0,none⟩) 2 2],cl bi 3 #[.int .i64 0],cl b 1 #[.func (.func 199) #[ptr' kb] #[],.func (.func 200) #[ptr' kb] #[]]]++[]++[]) :=
     fun b bf bl bi=>⟨rfl,bf,bl,bi,b,_,_,[],[],rfl,⟨rfl,rfl⟩,⟨rfl,rfl⟩,rfl⟩
    have hthen:∀ (b bf bl bi:Nat),_:=fun b bf bl bi=>Cli.prog_then_cons (f:=MC.leaves) (v:=.func (.func 168) #[ptr' kb] #[]) (gm:=[]) (cliC_vals L kb pv) rfl (hrow b bf bl bi) ⟨rfl,rfl⟩
    have HTH:=Lib.hid hthen
    clear h0 h1 hst3 h3 hrow hthen
    rw [HZ]
    unfold MRz
    dsimp only [refuseC]
    clear HZ
    intro w hw
    have T0:=TG.refl hw
    have HT:=Lib.hid T0
    clear hw T0
    have HT:=Lib.hid (HT.out.sum (H':=[workB kb L.fb pv rv (ptr' tb) k,gq,tickG tb qs.rb t,gF]))
    have HX:=Lib.hid hx
    have HR:=Lib.hid hr
    have HQS:=Lib.hid hqs
    have HTI:=Lib.hid (coreTick hx hqs hs tb t hrb htb)
    rw [hst,hr2] at HTI
    clear hx hr hqs hs hrb htb
    have k14:=HT.out.cell 0 0 rfl 14
    simp only [workC,GE3] at k14
    have lt:=HT.out.lt 0 0 rfl
    simp only [] at lt
    clear hst hr2
    go_enter Tryz.func173,Tryz.ntmps173
    go_wp2_with fail
    refine (DoesG.use (HTI.out) (HT.out.alloc (k:=w.heap.size) rfl _ _) [2,3] rfl rfl).mono ?_
    rintro e w1 ⟨gs,⟨rfl,g1,hx1,rfl⟩,Ta⟩
    simp only [PU] at Ta
    have HX:=Lib.hid hx1
    clear hx1 k14 lt
    have HT:=Lib.hid Ta
    clear Ta
    have HT:=Lib.hid (HT.out.eq (H':=[workB kb L.fb pv rv (ptr' tb) { k with tk:=some (i,t2) },gq,tickG tb qs.rb t2,g1,[cl w.heap.size 148 #[.nilFunc,.nilFunc]]]) rfl)
    have k3:=HT.out.cell 0 0 rfl 3
    simp only [workC,GE3] at k3
    go_wp2_with fail
    refine (DoesG.use (Cli.row_1 (b:=w1.heap.size) (o:=0) (D:=#[.func (.func 199) #[ptr' kb] #[],.func (.func 200) #[ptr' kb] #[]]) rfl 2 (.inr rfl)) (HT.out.alloc (k:=w1.heap.size) rfl _ _) [5] rfl rfl).mono ?_
    rintro e w2 ⟨gs,⟨bf,bl,bi,rfl,rfl⟩,Ta⟩
    simp only [PU] at Ta
    have HT:=Lib.hid Ta
    clear Ta
    clear k3
    have HT:=Lib.hid (HT.out.sum (H':=[workB kb L.fb pv rv (ptr' tb) { k with tk:=some (i,t2) },gq,tickG tb qs.rb t2,g1,[cl w.heap.size 148 #[.nilFunc,.nilFunc]],[cl bf 1 #[.func (.func 199) #[ptr' kb] #[]],cl bl 303 #[.slice (some ⟨w1.heap.size,0,none⟩) 2 2],cl bi 3 #[.int .i64 0],cl w1.heap.size 1 #[.func (.func 199) #[ptr' kb] #[],.func (.func 200) #[ptr' kb] #[]]]++[]++[],[]]))
    go_wp2_with fail
    refine (DoesG.use (HTH.out _ _ _ _) (HT.out) [5,6] rfl rfl).mono ?_
    rintro e w1 ⟨gs,⟨m2,d2,g2,rfl,hs2,rfl⟩,Ta⟩
    simp only [PU] at Ta
    have HT:=Lib.hid Ta
    clear Ta
    have e0:=HT.out.cell 4 0 rfl 0
    have fe0:=HT.out.free 4 0 rfl 0
    have e1:=HT.out.cell 4 0 rfl 1
    have fe1:=HT.out.free 4 0 rfl 1
    simp only [GE4] at e0 e1
    have hv2:=(cliC_vals L kb pv).vals hs2
    obtain ⟨st1,st2⟩:=Cli.store_fv2 (P:=Tryz.prog) hv2.1 hv2.2 e0 fe0 e1 fe1
    have HS:=Lib.hid hs2
    clear hv2 hs2
    go_wp2
    exact bodyPost_ret (v:=.agg #[_,_]) (by simp [results,Tryz.results173,go_sem,e0,e1]) rfl ⟨_,⟨m2,d2,g2,_,_,rfl,HS.out,⟨_,_,gq,tickG tb qs.rb t2,HR.out,⟨tb,qs,HQS.out,rfl,rfl⟩,rfl,HX.out⟩,rfl⟩,(((HT.out.set 4 0 rfl 0 _).set 4 0 rfl 1 _).pick [0,1,2,3,5] rfl).sum⟩
  ·have h2:t2.status=2:=by omega
   have hst:(stepT s.ring t).2.status=2:=by rw [hr2];exact h2
   by_cases h3:k.kind=3
   ·have HZ:queuesC (k,x) i t s=(.at none .again,({ k with tk:=some (i,t2) },{ x with shs:=x.shs.set i { s with ring:=r2 } })):=by unfold queuesC;simp only [hr2];rw [if_neg h0,if_neg (fun h=>h1 h.1),if_neg h1,if_pos h3]
    clear h0 h1 hst3 h2
    rw [HZ]
    unfold MRz
    dsimp only [refuseC]
    clear HZ
    intro w hw
    have T0:=TG.refl hw
    have HT:=Lib.hid T0
    clear hw T0
    have HT:=Lib.hid (HT.out.sum (H':=[workB kb L.fb pv rv (ptr' tb) k,gq,tickG tb qs.rb t,gF]))
    have HX:=Lib.hid hx
    have HR:=Lib.hid hr
    have HQS:=Lib.hid hqs
    have HTI:=Lib.hid (coreTick hx hqs hs tb t hrb htb)
    rw [hst,hr2] at HTI
    clear hx hr hqs hs hrb htb
    have k14:=HT.out.cell 0 0 rfl 14
    simp only [workC,GE3] at k14
    have lt:=HT.out.lt 0 0 rfl
    simp only [] at lt
    clear hst hr2
    go_enter Tryz.func173,Tryz.ntmps173
    go_wp2_with fail
    refine (DoesG.use (HTI.out) (HT.out.alloc (k:=w.heap.size) rfl _ _) [2,3] rfl rfl).mono ?_
    rintro e w1 ⟨gs,⟨rfl,g1,hx1,rfl⟩,Ta⟩
    simp only [PU] at Ta
    have HX:=Lib.hid hx1
    clear hx1 k14 lt
    have HT:=Lib.hid Ta
    clear Ta
    have HT:=Lib.hid (HT.out.eq (H':=[workB kb L.fb pv rv (ptr' tb) { k with tk:=some (i,t2) },gq,tickG tb qs.rb t2,g1,[cl w.heap.size 148 #[.nilFunc,.nilFunc]]]) rfl)
    have k3:=HT.out.cell 0 0 rfl 3
    simp only [workC,GE3] at k3
    rw [h3] at k3
    clear h3
    go_wp2_with fail
    refine (DoesG.use (callsAt) (HT.out) [] rfl rfl).mono ?_
    rintro e w1 ⟨gs,⟨rfl,rfl⟩,Ta⟩
    simp only [PU] at Ta
    have HT:=Lib.hid Ta
    clear Ta
    have e0:=HT.out.cell 4 0 rfl 0
    have fe0:=HT.out.free 4 0 rfl 0
    have e1:=HT.out.cell 4 0 rfl 1
    have fe1:=HT.out.free 4 0 rfl 1
    simp only [GE4] at e0 e1
    go_wp2
    exact bodyPost_ret (v:=.agg #[.nilFunc,.func (.func 201) #[ptr' kb] #[]]) (by simp [results,Tryz.results173,go_sem,e0,e1]) rfl ⟨_,⟨_,_,[],_,_,rfl,⟨rfl,rfl,rfl⟩,⟨_,_,gq,(tickG tb qs.rb t2),HR.out,⟨tb,qs,HQS.out,rfl,rfl⟩,rfl,HX.out⟩,rfl⟩,(((HT.out.set 4 0 rfl 0 _).set 4 0 rfl 1 _).pick [0,1,2,3] rfl).sum⟩
   ·have HZ:queuesC (k,x) i t s=(.at none .submits,({ k with tk:=some (i,t2) },{ x with shs:=x.shs.set i { s with ring:=r2 } })):=by unfold queuesC;simp only [hr2];rw [if_neg h0,if_neg (fun h=>h1 h.1),if_neg h1,if_neg h3]
    have hb3:(k.kind == 3)=false:=beq_eq_false_iff_ne.2 h3
    clear h0 h1 hst3 h2 h3
    rw [HZ]
    unfold MRz
    dsimp only [refuseC]
    clear HZ
    intro w hw
    have T0:=TG.refl hw
    have HT:=Lib.hid T0
    clear hw T0
    have HT:=Lib.hid (HT.out.sum (H':=[workB kb L.fb pv rv (ptr' tb) k,gq,tickG tb qs.rb t,gF]))
    have HX:=Lib.hid hx
    have HR:=Lib.hid hr
    have HQS:=Lib.hid hqs
    have HTI:=Lib.hid (coreTick hx hqs hs tb t hrb htb)
    rw [hst,hr2] at HTI
    clear hx hr hqs hs hrb htb
    have k14:=HT.out.cell 0 0 rfl 14
    simp only [workC,GE3] at k14
    have lt:=HT.out.lt 0 0 rfl
    simp only [] at lt
    clear hst hr2
    go_enter Tryz.func173,Tryz.ntmps173
    go_wp2_with fail
    refine (DoesG.use (HTI.out) (HT.out.alloc (k:=w.heap.size) rfl _ _) [2,3] rfl rfl).mono ?_
    rintro e w1 ⟨gs,⟨rfl,g1,hx1,rfl⟩,Ta⟩
    simp only [PU] at Ta
    have HX:=Lib.hid hx1
    clear hx1 k14 lt
    have HT:=Lib.hid Ta
    clear Ta
    have HT:=Lib.hid (HT.out.eq (H':=[workB kb L.fb pv rv (ptr' tb) { k with tk:=some (i,t2) },gq,tickG tb qs.rb t2,g1,[cl w.heap.size 148 #[.nilFunc,.nilFunc]]]) rfl)
    have k3:=HT.out.cell 0 0 rfl 3
    simp only [workC,GE3] at k3
    go_wp2_with fail
    refine (DoesG.use (callsAt) (HT.out) [] rfl rfl).mono ?_
    rintro e w1 ⟨gs,⟨rfl,rfl⟩,Ta⟩
    simp only [PU] at Ta
    have HT:=Lib.hid Ta
    clear Ta
    have e0:=HT.out.cell 4 0 rfl 0
    have fe0:=HT.out.free 4 0 rfl 0
    have e1:=HT.out.cell 4 0 rfl 1
    have fe1:=HT.out.free 4 0 rfl 1
    simp only [GE4] at e0 e1
    go_wp2
    exact bodyPost_ret (v:=.agg #[.nilFunc,.func (.func 202) #[ptr' kb] #[]]) (by simp [results,Tryz.results173,go_sem,e0,e1]) rfl ⟨_,⟨_,_,[],_,_,rfl,⟨rfl,rfl,rfl⟩,⟨_,_,gq,(tickG tb qs.rb t2),HR.out,⟨tb,qs,HQS.out,rfl,rfl⟩,rfl,HX.out⟩,rfl⟩,(((HT.out.set 4 0 rfl 0 _).set 4 0 rfl 1 _).pick [0,1,2,3] rfl).sum⟩
end
end
section
open Go.RowKit Go.Shelf
section
variable {L:Lay} {x:CoreS} {gK gF:List Blk} {kb:Nat} {pv:Value} {k:WorkS}
set_option maxRecDepth 100000 in
theorem mSubmits (hz:rep2 L kb pv k x gK gF) (hp:preMC .submits (k,x)):DoesG Tryz.prog 202 #[ptr' kb] [gK,gF] (MRz L kb pv (runC .submits (k,x))):=by
 have HEV:=Lib.hid (show ∀ g rv tv,isCore L x g→_ from fun g rv tv hx=>workEvent (kb:=kb) (pv:=pv) (rv:=rv) (tv:=tv) (k:=k) (g:=g) hx hp.1 2)
 have HLN:=Lib.hid (show ({ x with slab:=(eventS k.slot 2 x.slab).1 }:CoreS).tr.length≤1000000 from hp.1.tr)
 have HZ:=Lib.hid (show runC .submits (k,x)=(.at none .fills,(eventW 2 k x.slab,noteC (eventW 2 k x.slab) { ev0 with kind:=3,id:=k.id,gen:=(eventW 2 k x.slab).gen,dl:=k.cdl,per:=k.period } { x with slab:=(eventS k.slot 2 x.slab).1 })) from rfl)
 rw [HZ.out]
 unfold MRz
 dsimp only
 obtain ⟨k2,hk2⟩:∃ k2,eventW 2 k x.slab=k2:=⟨_,rfl⟩
 have HK:=Lib.hid (show k2.id=k.id∧k2.cdl=k.cdl∧k2.period=k.period∧k2.rq=k.rq∧k2.tk=k.tk from by subst hk2;exact ⟨rfl,rfl,rfl,rfl,rfl⟩)
 rw [hk2] at HEV ⊢
 clear hp hk2 HZ
 obtain ⟨rv,tv,gq,gt,hr,ht,rfl,hx⟩:=hz
 intro w hw
 have T0:=TG.refl hw
 have HT:=Lib.hid T0
 clear hw T0
 have HT:=Lib.hid (HT.out.sum (H':=[workB kb L.fb pv rv tv k,gq,gt,gF]))
 have HX:=Lib.hid hx
 have HR:=Lib.hid hr
 have HTK:=Lib.hid ht
 clear hx hr ht
 have HT:=Lib.hid (HT.out.alloc (k:=w.heap.size) rfl 148 #[.nilFunc,.nilFunc])
 go_enter Tryz.func202,Tryz.ntmps202
 go_wp2_with fail
 refine (DoesG.use (HEV.out _ _ _ HX.out) (HT.out) [0,3] rfl rfl).mono ?_
 rintro e w1 ⟨gs,⟨rfl,g1,hx1,rfl⟩,Ta⟩
 simp only [PU] at Ta
 have HX:=Lib.hid hx1
 clear hx1
 have HT:=Lib.hid Ta
 clear Ta
 have k5:=HT.out.cell 0 0 rfl 5
 have k15:=HT.out.cell 0 0 rfl 15
 have k18:=HT.out.cell 0 0 rfl 18
 simp only [workC,GE3] at k5 k15 k18
 go_wp2
 refine wp_region_mix1 17 (by kernel_rfl) (by kernel_rfl) ?_
 simp only [TD4]
 repeat (go_big_quiet_step ((first | (go_at_call 139;with_reducible exact ReadsG.quiet (workPeriod_r (L:=L)) HT.out _ [0] rfl rfl))))
 refine wpQuiet_nil ?_
 intro _ hw'
 obtain ⟨nq,hw''⟩:=hw'
 subst hw''
 have HT:=Lib.hid (HT.out.drewN nq)
 go_wp2_with fail
 refine (DoesG.use (workNote HX.out { ev0 with kind:=3,id:=k2.id,gen:=k2.gen,dl:=k2.cdl,per:=k2.period } HLN.out) (HT.out) [0,3] rfl rfl).mono ?_
 rintro e w1 ⟨gs,⟨rfl,g2,hx2,rfl⟩,Ta⟩
 simp only [PU] at Ta
 have HX:=Lib.hid hx2
 clear hx2 k5 k15 k18
 have HT:=Lib.hid Ta
 clear Ta
 go_wp2_with fail
 refine ⟨rfl,?_⟩
 rw [HK.out.1,HK.out.2.1,HK.out.2.2.1] at HX
 go_wp2_with fail
 refine (DoesG.use (callsAt) (HT.out) [] rfl rfl).mono ?_
 rintro e w1 ⟨gs,⟨rfl,rfl⟩,Ta⟩
 simp only [PU] at Ta
 have HT:=Lib.hid Ta
 clear Ta
 have e0:=HT.out.cell 4 0 rfl 0
 have fe0:=HT.out.free 4 0 rfl 0
 have e1:=HT.out.cell 4 0 rfl 1
 have fe1:=HT.out.free 4 0 rfl 1
 simp only [GE4] at e0 e1
 go_wp2
 exact bodyPost_ret (v:=.agg #[.nilFunc,.func (.func 210) #[ptr' kb] #[]]) (by simp [results,Tryz.results202,go_sem,e0,e1]) rfl ⟨_,⟨_,_,[],_,_,rfl,⟨rfl,rfl,rfl⟩,⟨_,_,gq,gt,(HK.out.2.2.2.1 ▸ HR.out),(HK.out.2.2.2.2 ▸ HTK.out),rfl,HX.out⟩,rfl⟩,(((HT.out.set 4 0 rfl 0 _).set 4 0 rfl 1 _).pick [0,1,2,3] rfl).sum⟩
set_option maxRecDepth 100000 in
theorem mFills (hz:rep2 L kb pv k x gK gF) (hp:preMC .fills (k,x)):DoesG Tryz.prog 210 #[ptr' kb] [gK,gF] (MRz L kb pv (runC .fills (k,x))):=by
 obtain ⟨hok,hwk,hpr⟩:=hp
 simp only at hok hwk hpr
 obtain ⟨⟨i,t⟩,htke⟩:=Option.isSome_iff_exists.1 hpr
 obtain ⟨htb,hi⟩:=hwk.tk i t htke
 obtain ⟨s,hs⟩:∃ s,x.shs[i]?=some s:=⟨_,List.getElem?_eq_getElem hi⟩
 have hrb:=hok.ring s (List.mem_of_getElem? hs)
 have hE:fillC (taskC (k,x)) (k,x)=({ k with tk:=some (i,(fillT s.ring t (taskC (k,x))).2.1) },{ x with shs:=x.shs.set i { s with ring:=(fillT s.ring t (taskC (k,x))).1 } }):=by
  unfold fillC
  simp only [htke,hs]
 have HZ:runC .fills (k,x)=(leavesC,(okC { k with tk:=some (i,(fillT s.ring t (taskC (k,x))).2.1) },{ x with shs:=x.shs.set i { s with ring:=(fillT s.ring t (taskC (k,x))).1 } })):=by
  show (leavesC,(okC (fillC (taskC (k,x)) (k,x)).1,(fillC (taskC (k,x)) (k,x)).2))=_
  rw [hE]
 rw [HZ]
 unfold MRz
 dsimp only [okC]
 obtain ⟨rv,tv,gq,gt,hr,ht,rfl,hx⟩:=hz
 rw [htke] at ht
 obtain ⟨tb,qs,hqs,rfl,rfl⟩:=ht
 have HFI:=Lib.hid (coreFill hx hqs hs tb t hrb htb (taskC (k,x)))
 have HPE:=Lib.hid (corePeriod_r hx hok.slab.n1 k.slot)
 have HTA:=Lib.hid (show (taskC (k,x)).cells=#[.int .u64 k.id,.int .i64 k.slot,.int .u64 k.gen,.int .u64 k.cdl,.int .u64 (x.slab.period k.slot)] from rfl)
 rw [HTA.out] at HFI
 generalize fillT s.ring t (taskC (k,x))=rt at *
 intro w hw
 have T0:=TG.refl hw
 have HT:=Lib.hid T0
 clear hw T0
 have HT:=Lib.hid (HT.out.sum (H':=[workB kb L.fb pv rv (ptr' tb) k,gq,tickG tb qs.rb t,gF]))
 have HX:=Lib.hid hx
 have HR:=Lib.hid hr
 have HQS:=Lib.hid hqs
 clear hx hr hqs hs hrb htb hE HZ hok hwk hpr htke hi
 have k0:=HT.out.cell 0 0 rfl 0
 have k5:=HT.out.cell 0 0 rfl 5
 have k14:=HT.out.cell 0 0 rfl 14
 have k15:=HT.out.cell 0 0 rfl 15
 have k16:=HT.out.cell 0 0 rfl 16
 have k18:=HT.out.cell 0 0 rfl 18
 simp only [workC,GE3] at k0 k5 k14 k15 k16 k18
 have lt:=HT.out.lt 0 0 rfl
 simp only [] at lt
 go_enter Tryz.func210,Tryz.ntmps210
 go_wp2
 have HT:=Lib.hid (HT.out.alloc (k:=w.heap.size) rfl 148 #[.nilFunc,.nilFunc])
 refine wp_region_mix1 32 (by kernel_rfl) (by kernel_rfl) ?_
 simp only [TD4]
 repeat (go_big_quiet_step ((first | (go_at_call 22;with_reducible exact ReadsG.quiet (coreSlab_r HX.out) HT.out _ [3] rfl rfl) | (go_at_call 207;with_reducible exact ReadsG.quiet (HPE.out) HT.out _ [3] rfl rfl))))
 refine wpQuiet_nil ?_
 intro _ hw'
 obtain ⟨nq,hw''⟩:=hw'
 subst hw''
 have HT:=Lib.hid (HT.out.drewN nq)
 go_wp2_with fail
 refine (DoesG.use (HFI.out) (HT.out) [2,3] rfl rfl).mono ?_
 rintro e w1 ⟨gs,⟨rfl,g1,hx1,rfl⟩,Ta⟩
 simp only [PU] at Ta
 have HX:=Lib.hid hx1
 clear hx1 k0 k5 k14 k15 k16 k18 lt
 have HT:=Lib.hid Ta
 clear Ta
 go_wp2_with fail
 refine ⟨rfl,?_⟩
 have k15:=HT.out.cell 0 0 rfl 15
 have k18:=HT.out.cell 0 0 rfl 18
 have k7:=HT.out.cell 0 0 rfl 7
 have fk7:=HT.out.free 0 0 rfl 7
 have k8:=HT.out.cell 0 0 rfl 8
 have fk8:=HT.out.free 0 0 rfl 8
 have k9:=HT.out.cell 0 0 rfl 9
 have fk9:=HT.out.free 0 0 rfl 9
 have k10:=HT.out.cell 0 0 rfl 10
 have fk10:=HT.out.free 0 0 rfl 10
 have k11:=HT.out.cell 0 0 rfl 11
 have fk11:=HT.out.free 0 0 rfl 11
 simp only [workC,GE3] at k15 k18 k7 k8 k9 k10 k11
 go_wp2
 refine wp_region_mix1 10 (by kernel_rfl) (by kernel_rfl) ?_
 simp only [TD4]
 repeat (go_big_quiet_step ((fail)))
 refine wpQuiet_nil ?_
 intro _ hw'
 obtain ⟨nq,hw''⟩:=hw'
 subst hw''
 have HT:=Lib.hid (HT.out.drewN nq)
 go_wp2_with fail
 refine ⟨rfl,?_⟩
 have HT:=Lib.hid ((((((HT.out.set 0 0 rfl 7 (.int .i64 0)).set 0 0 rfl 8 (.bool true)).set 0 0 rfl 9 (.int .u64 k.id)).set 0 0 rfl 10 (.int .u64 k.gen)).set 0 0 rfl 11 (.slice none 0 0)).eq (H':=[workB kb L.fb pv rv (ptr' tb) { k with tk:=some (i,rt.2.1),err:=0,ok:=true,aid:=k.id,agen:=k.gen },gq,tickG tb qs.rb rt.2.1,g1,[cl w.heap.size 148 #[.nilFunc,.nilFunc]]]) rfl)
 clear k15 k18 k7 k8 k9 k10 k11 fk7 fk8 fk9 fk10 fk11
 go_wp2_with fail
 refine (DoesG.use (sLeaves L kb pv) (HT.out) [] rfl rfl).mono ?_
 rintro e w1 ⟨gs,⟨m2,d2,g2,rfl,hs2,rfl⟩,Ta⟩
 simp only [PU] at Ta
 have HT:=Lib.hid Ta
 clear Ta
 have e0:=HT.out.cell 4 0 rfl 0
 have fe0:=HT.out.free 4 0 rfl 0
 have e1:=HT.out.cell 4 0 rfl 1
 have fe1:=HT.out.free 4 0 rfl 1
 simp only [GE4] at e0 e1
 have hv2:=(cliC_vals L kb pv).vals hs2
 obtain ⟨st1,st2⟩:=Cli.store_fv2 (P:=Tryz.prog) hv2.1 hv2.2 e0 fe0 e1 fe1
 have HS:=Lib.hid hs2
 clear hv2 hs2
 go_wp2
 exact bodyPost_ret (v:=.agg #[_,_]) (by simp [results,Tryz.results210,go_sem,e0,e1]) rfl ⟨_,⟨m2,d2,g2,_,_,rfl,HS.out,⟨_,_,gq,(tickG tb qs.rb rt.2.1),HR.out,⟨tb,qs,HQS.out,rfl,rfl⟩,rfl,HX.out⟩,rfl⟩,(((HT.out.set 4 0 rfl 0 _).set 4 0 rfl 1 _).pick [0,1,2,3,5] rfl).sum⟩
end
end
section
open Go.RowKit Go.Shelf
section
variable {L:Lay} {x:CoreS} {gK gF:List Blk} {kb:Nat} {pv:Value} {k:WorkS}
def AR (L:Lay) (kb:Nat) (pv:Value) (z:ZC) (e:Ending) (gs:GH):Prop:=∃ gK' gF',e=.returned (.tuple #[])∧rep2 L kb pv z.1 z.2 gK' gF'∧gs=[[],gK',gF']
set_option maxRecDepth 100000 in
theorem aEnds (hz:rep2 L kb pv k x gK gF) (hp:preAC .ends1 (k,x)) (bk:Nat):DoesG Tryz.prog 165 #[ptr' bk] [[cl bk 33 #[ptr' kb]],gK,gF] (AR L kb pv (runA .ends1 (k,x))):=by
 have HLN:=Lib.hid hp.1.tr
 simp only at HLN
 clear hp
 unfold AR
 dsimp only [runA,noteZ]
 obtain ⟨rv,tv,gq,gt,hr,ht,rfl,hx⟩:=hz
 intro w hw
 have T0:=TG.refl hw
 have HT:=Lib.hid T0
 clear hw T0
 have HT:=Lib.hid (HT.out.sum (H':=[workB kb L.fb pv rv tv k,gq,gt,gF,[cl bk 33 #[ptr' kb]]]))
 have HX:=Lib.hid hx
 have HR:=Lib.hid hr
 have HTK:=Lib.hid ht
 clear hx hr ht
 have k7:=HT.out.cell 0 0 rfl 7
 have k9:=HT.out.cell 0 0 rfl 9
 have k10:=HT.out.cell 0 0 rfl 10
 simp only [workC,GE3] at k7 k9 k10
 have b0:=HT.out.cell 4 0 rfl 0
 simp only [GE4] at b0
 go_enter Tryz.func165,Tryz.ntmps165
 go_wp2_with fail
 refine wp_region_mix1 17 (by kernel_rfl) (by kernel_rfl) ?_
 simp only [TD4]
 repeat (go_big_quiet_step ((fail)))
 refine wpQuiet_nil ?_
 intro _ hw'
 obtain ⟨nq,hw''⟩:=hw'
 subst hw''
 have HT:=Lib.hid (HT.out.drewN nq)
 go_wp2_with fail
 refine (DoesG.use (workNote HX.out { ev0 with kind:=2,id:=k.aid,gen:=k.agen,err:=k.err } HLN.out) (HT.out) [0,3] rfl rfl).mono ?_
 rintro e w1 ⟨gs,⟨rfl,g2,hx2,rfl⟩,Ta⟩
 simp only [PU] at Ta
 have HX:=Lib.hid hx2
 clear hx2 k7 k9 k10 b0
 have HT:=Lib.hid Ta
 clear Ta
 go_wp2_with fail
 refine ⟨rfl,?_⟩
 go_wp2
 exact bodyPost_end (results_none rfl _ _ _) rfl ⟨_,⟨_,_,rfl,⟨_,_,gq,gt,HR.out,HTK.out,rfl,HX.out⟩,rfl⟩,(HT.out.pick [0,1,2,3] rfl).sum⟩
set_option maxRecDepth 100000 in
theorem aLeaves (hz:rep2 L kb pv k x gK gF) (hp:preAC .leaves1 (k,x)) (bk:Nat):DoesG Tryz.prog 192 #[ptr' bk] [[cl bk 33 #[ptr' kb]],gK,gF] (AR L kb pv (runA .leaves1 (k,x))):=by
 have HI:=Lib.hid (And.intro hp.1.i0 hp.1.i1)
 simp only at HI
 clear hp
 unfold AR
 dsimp only [runA]
 obtain ⟨rv,tv,gq,gt,hr,ht,rfl,hx⟩:=hz
 intro w hw
 have T0:=TG.refl hw
 have HT:=Lib.hid T0
 clear hw T0
 have HT:=Lib.hid (HT.out.sum (H':=[workB kb L.fb pv rv tv k,gq,gt,gF,[cl bk 33 #[ptr' kb]]]))
 have HX:=Lib.hid hx
 have HR:=Lib.hid hr
 have HTK:=Lib.hid ht
 clear hx hr ht
 have k0:=HT.out.cell 0 0 rfl 0
 simp only [workC,GE3] at k0
 have b0:=HT.out.cell 4 0 rfl 0
 simp only [GE4] at b0
 go_enter Tryz.func192,Tryz.ntmps192
 go_wp2_with fail
 refine (DoesG.use (coreLeave HX.out HI.out) (HT.out) [3] rfl rfl).mono ?_
 rintro e w1 ⟨gs,⟨rfl,g2,hx2,rfl⟩,Ta⟩
 simp only [PU] at Ta
 have HX:=Lib.hid hx2
 clear hx2 k0 b0
 have HT:=Lib.hid Ta
 clear Ta
 go_wp2
 exact bodyPost_end (results_none rfl _ _ _) rfl ⟨_,⟨_,_,rfl,⟨_,_,gq,gt,HR.out,HTK.out,rfl,HX.out⟩,rfl⟩,(HT.out.pick [0,1,2,3] rfl).sum⟩
set_option maxRecDepth 100000 in
theorem aTries (hz:rep2 L kb pv k x gK gF) (hp:preAC .tries1 (k,x)) (bk:Nat):DoesG Tryz.prog 211 #[ptr' bk] [[cl bk 33 #[ptr' kb]],gK,gF] (AR L kb pv (runA .tries1 (k,x))):=by
 have HOK:=Lib.hid hp.1
 simp only at HOK
 clear hp
 unfold AR
 dsimp only [runA,eventC]
 obtain ⟨rv,tv,gq,gt,hr,ht,rfl,hx⟩:=hz
 intro w hw
 have T0:=TG.refl hw
 have HT:=Lib.hid T0
 clear hw T0
 have HT:=Lib.hid (HT.out.sum (H':=[workB kb L.fb pv rv tv k,gq,gt,gF,[cl bk 33 #[ptr' kb]]]))
 have HX:=Lib.hid hx
 have HR:=Lib.hid hr
 have HTK:=Lib.hid ht
 clear hx hr ht
 have b0:=HT.out.cell 4 0 rfl 0
 simp only [GE4] at b0
 go_enter Tryz.func211,Tryz.ntmps211
 go_wp2_with fail
 refine (DoesG.use (workEvent HX.out HOK.out 10) (HT.out) [0,3] rfl rfl).mono ?_
 rintro e w1 ⟨gs,⟨rfl,g2,hx2,rfl⟩,Ta⟩
 simp only [PU] at Ta
 have HX:=Lib.hid hx2
 clear hx2 b0
 have HT:=Lib.hid Ta
 clear Ta
 go_wp2
 exact bodyPost_end (results_none rfl _ _ _) rfl ⟨_,⟨_,_,rfl,⟨_,_,gq,gt,HR.out,HTK.out,rfl,HX.out⟩,rfl⟩,(HT.out.pick [0,1,2,3] rfl).sum⟩
set_option maxRecDepth 100000 in
theorem aUndo (hz:rep2 L kb pv k x gK gF) (hp:preAC .undo (k,x)):DoesG Tryz.prog 199 #[ptr' kb] [gK,gF] (AR L kb pv (runA .undo (k,x))):=by
 have HOK:=Lib.hid hp.1
 simp only at HOK
 have HLN:=Lib.hid (show ({ x with slab:=(eventS k.slot 9 x.slab).1 }:CoreS).tr.length≤1000000 from hp.1.tr)
 clear hp
 unfold AR
 dsimp only [runA,eventC,refuseC]
 obtain ⟨rv,tv,gq,gt,hr,ht,rfl,hx⟩:=hz
 intro w hw
 have T0:=TG.refl hw
 have HT:=Lib.hid T0
 clear hw T0
 have HT:=Lib.hid (HT.out.sum (H':=[workB kb L.fb pv rv tv k,gq,gt,gF,[]]))
 have HX:=Lib.hid hx
 have HR:=Lib.hid hr
 have HTK:=Lib.hid ht
 clear hx hr ht
 go_enter Tryz.func199,Tryz.ntmps199
 go_wp2_with fail
 refine (DoesG.use (workEvent HX.out HOK.out 9) (HT.out) [0,3] rfl rfl).mono ?_
 rintro e w1 ⟨gs,⟨rfl,g1,hx1,rfl⟩,Ta⟩
 simp only [PU] at Ta
 have HX:=Lib.hid hx1
 clear hx1
 have HT:=Lib.hid Ta
 clear Ta
 go_wp2_with fail
 refine (DoesG.use (workRefuse HX.out 2 HLN.out) (HT.out) [0,3] rfl rfl).mono ?_
 rintro e w1 ⟨gs,⟨rfl,g2,hx2,rfl⟩,Ta⟩
 simp only [PU] at Ta
 have HX:=Lib.hid hx2
 clear hx2
 have HT:=Lib.hid Ta
 clear Ta
 go_wp2
 exact bodyPost_end (results_none rfl _ _ _) rfl ⟨_,⟨_,_,rfl,⟨_,_,gq,gt,HR.out,HTK.out,rfl,HX.out⟩,rfl⟩,(HT.out.pick [0,1,2,3] rfl).sum⟩
set_option maxRecDepth 100000 in
theorem aDrop (hz:rep2 L kb pv k x gK gF) (hp:preAC .drop (k,x)):DoesG Tryz.prog 200 #[ptr' kb] [gK,gF] (AR L kb pv (runA .drop (k,x))):=by
 have HC:=Lib.hid (And.intro hp.1.slab.c0 (show x.slab.count≤64 by have:=hp.1.slab.c1;have:=hp.1.slab.n1;simp only at *;omega))
 simp only at HC
 clear hp
 unfold AR
 dsimp only [runA]
 obtain ⟨rv,tv,gq,gt,hr,ht,rfl,hx⟩:=hz
 intro w hw
 have T0:=TG.refl hw
 have HT:=Lib.hid T0
 clear hw T0
 have HT:=Lib.hid (HT.out.sum (H':=[workB kb L.fb pv rv tv k,gq,gt,gF,[]]))
 have HX:=Lib.hid hx
 have HR:=Lib.hid hr
 have HTK:=Lib.hid ht
 clear hx hr ht
 have k0:=HT.out.cell 0 0 rfl 0
 simp only [workC,GE3] at k0
 go_enter Tryz.func200,Tryz.ntmps200
 go_wp2_with fail
 refine (ReadsG.use (coreSlab_r HX.out) (HT.out) [3] rfl rfl).mono ?_
 rintro e w1 ⟨rfl,mq,rfl⟩
 have HT:=Lib.hid (HT.out.drewN mq)
 generalize World.drewN _ _=wq at HT ⊢
 go_wp2_with fail
 refine (DoesG.use (coreDrop HX.out HC.out.1 HC.out.2) (HT.out) [3] rfl rfl).mono ?_
 rintro e w1 ⟨gs,⟨rfl,g2,hx2,rfl⟩,Ta⟩
 simp only [PU] at Ta
 have HX:=Lib.hid hx2
 clear hx2 k0
 have HT:=Lib.hid Ta
 clear Ta
 go_wp2
 exact bodyPost_end (results_none rfl _ _ _) rfl ⟨_,⟨_,_,rfl,⟨_,_,gq,gt,HR.out,HTK.out,rfl,HX.out⟩,rfl⟩,(HT.out.pick [0,1,2,3] rfl).sum⟩
set_option maxRecDepth 100000 in
theorem aAgain (hz:rep2 L kb pv k x gK gF) (hp:preAC .again1 (k,x)) (bk:Nat):DoesG Tryz.prog 233 #[ptr' bk] [[cl bk 33 #[ptr' kb]],gK,gF] (AR L kb pv (runA .again1 (k,x))):=by
 obtain ⟨hok,hwk,hpr⟩:=hp
 simp only at hok hwk hpr
 obtain ⟨⟨i,t⟩,htke⟩:=Option.isSome_iff_exists.1 hpr
 obtain ⟨htb,hi⟩:=hwk.tk i t htke
 obtain ⟨s,hs⟩:∃ s,x.shs[i]?=some s:=⟨_,List.getElem?_eq_getElem hi⟩
 have hrb:=hok.ring s (List.mem_of_getElem? hs)
 have hE:runA .again1 (k,x)=({ k with tk:=some (i,(fillT s.ring t { TaskS.zero with slot:=-1 }).2.1) },{ x with shs:=x.shs.set i { s with ring:=(fillT s.ring t { TaskS.zero with slot:=-1 }).1 } }):=by
  show fillC _ _=_
  unfold fillC
  simp only [htke,hs]
 rw [hE]
 unfold AR
 dsimp only
 obtain ⟨rv,tv,gq,gt,hr,ht,rfl,hx⟩:=hz
 rw [htke] at ht
 obtain ⟨tb,qs,hqs,rfl,rfl⟩:=ht
 have HFI:=Lib.hid (coreFill hx hqs hs tb t hrb htb { TaskS.zero with slot:=-1 })
 have HTA:=Lib.hid (show ({ TaskS.zero with slot:=-1 }:TaskS).cells=#[.int .u64 0,.int .i64 (-1),.int .u64 0,.int .u64 0,.int .u64 0] from rfl)
 rw [HTA.out] at HFI
 generalize fillT s.ring t { TaskS.zero with slot:=-1 }=rt at *
 intro w hw
 have T0:=TG.refl hw
 have HT:=Lib.hid T0
 clear hw T0
 have HT:=Lib.hid (HT.out.sum (H':=[workB kb L.fb pv rv (ptr' tb) k,gq,tickG tb qs.rb t,gF,[cl bk 33 #[ptr' kb]]]))
 have HX:=Lib.hid hx
 have HR:=Lib.hid hr
 have HQS:=Lib.hid hqs
 clear hx hr hqs hs hrb htb hE hok hwk hpr htke hi
 have k14:=HT.out.cell 0 0 rfl 14
 simp only [workC,GE3] at k14
 have b0:=HT.out.cell 4 0 rfl 0
 simp only [GE4] at b0
 go_enter Tryz.func233,Tryz.ntmps233
 go_wp2_with fail
 refine (DoesG.use (HFI.out) (HT.out) [2,3] rfl rfl).mono ?_
 rintro e w1 ⟨gs,⟨rfl,g1,hx1,rfl⟩,Ta⟩
 simp only [PU] at Ta
 have HX:=Lib.hid hx1
 clear hx1 k14 b0
 have HT:=Lib.hid Ta
 clear Ta
 go_wp2
 exact bodyPost_end (results_none rfl _ _ _) rfl ⟨_,⟨_,_,rfl,⟨_,_,gq,tickG tb qs.rb rt.2.1,HR.out,⟨tb,qs,HQS.out,rfl,rfl⟩,rfl,HX.out⟩,rfl⟩,((HT.out.pick [0,1,2,3] rfl).eq (H':=[workB kb L.fb pv rv (ptr' tb) { k with tk:=some (i,rt.2.1) },gq,tickG tb qs.rb rt.2.1,g1]) rfl).sum⟩
end
end
section
open Go.RowKit Go.Shelf
section
variable {L:Lay} {x:CoreS} {g gK gF:List Blk} {kb:Nat} {pv:Value} {k:WorkS}
theorem sEnds_M (hz:rep2 L kb pv k x gK gF):DoesG Tryz.prog 134 #[ptr' kb] [gK,gF] (MRz L kb pv (.row1 .ends1,(k,x))):=by
 intro w hw
 refine (DoesG.use (sEnds L kb pv) (TG.refl hw) [] rfl rfl).mono ?_
 rintro e w' ⟨gs,⟨m,d,g',he,hs,rfl⟩,T⟩
 exact ⟨_,⟨m,d,g',gK,gF,he,hs,hz,rfl⟩,T.pick [2,0,1] rfl⟩
theorem sLeaves_M (hz:rep2 L kb pv k x gK gF):DoesG Tryz.prog 168 #[ptr' kb] [gK,gF] (MRz L kb pv (leavesC,(k,x))):=by
 intro w hw
 refine (DoesG.use (sLeaves L kb pv) (TG.refl hw) [] rfl rfl).mono ?_
 rintro e w' ⟨gs,⟨m,d,g',he,hs,rfl⟩,T⟩
 exact ⟨_,⟨m,d,g',gK,gF,he,hs,hz,rfl⟩,T.pick [2,0,1] rfl⟩
theorem mFn {fn:FuncId} {R:Ending→GH→Prop} (eg:∀ args w,(callFunc fn args).run Tryz.prog w=.ok (.enter fn args) w) (h:DoesG Tryz.prog fn #[ptr' kb] [gK,gF] R):FnG Tryz.prog (.func (.func fn) #[ptr' kb] #[]) [[],gK,gF] R :=
 ⟨fn,#[ptr' kb],#[],rfl,eg,DoesG.pre (by simpa using h) (by simp)⟩
theorem aFn {fn:FuncId} {bk:Nat} {gb:List Blk} {R:Ending→GH→Prop} (eg:∀ args w,(callFunc fn args).run Tryz.prog w=.ok (.enter fn args) w) (h:DoesG Tryz.prog fn #[ptr' bk] [gb,gK,gF] R):FnG Tryz.prog (.func (.func fn) #[] #[ptr' bk]) [gb,gK,gF] R :=
 ⟨fn,#[],#[ptr' bk],rfl,eg,by simpa using h⟩
theorem cliC_ok (L:Lay) (kb:Nat) (pv:Value):(cliC L kb pv).Ok where
 v:=cliC_vals L kb pv
 y h:=h.elim
 m {f v g gK gF z} hv hz hp:=by
   obtain ⟨k,x⟩:=z
   obtain ⟨rfl,rfl⟩:=hv
   cases f with
   | right=>exact mFn (enters_of Tryz.func86 (by kernel_rfl) rfl) (mRight hz hp)
   | enter=>exact mFn (enters_of Tryz.func87 (by kernel_rfl) rfl) (mEnter hz hp)
   | gate=>exact mFn (enters_of Tryz.func88 (by kernel_rfl) rfl) (mGate hz hp)
   | asks=>exact mFn (enters_of Tryz.func140 (by kernel_rfl) rfl) (mAsks hz hp)
   | queues=>exact mFn (enters_of Tryz.func173 (by kernel_rfl) rfl) (mQueues hz hp)
   | submits=>exact mFn (enters_of Tryz.func202 (by kernel_rfl) rfl) (mSubmits hz hp)
   | fills=>exact mFn (enters_of Tryz.func210 (by kernel_rfl) rfl) (mFills hz hp)
   | looks=>exact mFn (enters_of Tryz.func141 (by kernel_rfl) rfl) (mLooks hz hp)
   | again=>exact mFn (enters_of Tryz.func201 (by kernel_rfl) rfl) (mAgain hz hp)
   | tries=>exact mFn (enters_of Tryz.func175 (by kernel_rfl) rfl) (mTries hz hp)
   | ends=>exact mFn (enters_of Tryz.func134 (by kernel_rfl) rfl) (sEnds_M hz)
   | leaves=>exact mFn (enters_of Tryz.func168 (by kernel_rfl) rfl) (sLeaves_M hz)
 a {f v g gK gF z} hv hz hp:=by
   obtain ⟨k,x⟩:=z
   cases f with
   | ends1=>obtain ⟨bk,rfl,rfl⟩:=hv;exact aFn (enters_of Tryz.func165 (by kernel_rfl) rfl) (aEnds hz hp bk)
   | leaves1=>obtain ⟨bk,rfl,rfl⟩:=hv;exact aFn (enters_of Tryz.func192 (by kernel_rfl) rfl) (aLeaves hz hp bk)
   | undo=>obtain ⟨rfl,rfl⟩:=hv;exact mFn (enters_of Tryz.func199 (by kernel_rfl) rfl) (aUndo hz hp)
   | drop=>obtain ⟨rfl,rfl⟩:=hv;exact mFn (enters_of Tryz.func200 (by kernel_rfl) rfl) (aDrop hz hp)
   | tries1=>obtain ⟨bk,rfl,rfl⟩:=hv;exact aFn (enters_of Tryz.func211 (by kernel_rfl) rfl) (aTries hz hp bk)
   | again1=>obtain ⟨bk,rfl,rfl⟩:=hv;exact aFn (enters_of Tryz.func233 (by kernel_rfl) rfl) (aAgain hz hp bk)
end
end
section
open Go.RowKit Go.Shelf
def isWk (L:Lay) (kb:Nat) (pv:Value) (k:WorkS) (gK:List Blk):Prop :=
 ∃ rv tv gq gt,optR L.p.sb k.rq rv gq∧optT L k.tk tv gt∧gK=workB kb L.fb pv rv tv k++(gq++gt)
theorem rep2_iff {L:Lay} {kb:Nat} {pv:Value} {k:WorkS} {x:CoreS} {gK gF:List Blk}:rep2 L kb pv k x gK gF↔isWk L kb pv k gK∧isCore L x gF :=
 ⟨fun ⟨rv,tv,gq,gt,a,b,c,d⟩=>⟨⟨rv,tv,gq,gt,a,b,c⟩,d⟩,fun ⟨⟨rv,tv,gq,gt,a,b,c⟩,d⟩=>⟨rv,tv,gq,gt,a,b,c,d⟩⟩
def isCall (L:Lay) (kb:Nat) (s:SC) (n:Int) (k:WorkS) (g:List Blk):Prop :=
 ∃ pb m d gst gK,(cliC L kb (ptr' pb)).SV s m d gst∧isWk L kb (ptr' pb) k gK∧g=Cli.progB pb m d n++(gst++gK)
theorem preYC:∀ (s:SC) (z:ZC),St.preY (fun (_:Empty) (_:ZC)=>True) s z
 | .nil,_=>trivial
 | .at none _,_=>trivial
 | .at (some y) _,_=>y.elim
 | .row1 _,_=>trivial
 | .row2 _ _,_=>trivial
 | .thn s _,z=>preYC s z
theorem SVC_may {L:Lay} {kb:Nat} {pv:Value}:∀ {s:SC} {m d:Value} {g:List Blk},(cliC L kb pv).SV s m d g→m=.nilFunc
 | .nil,_,_,_,h=>h.1
 | .at none _,_,_,_,h=>h.1
 | .at (some y) _,_,_,_,_=>y.elim
 | .row1 _,_,_,_,h=>h.1
 | .row2 _ _,_,_,_,h=>h.1
 | .thn s _,_,_,_,h=>by obtain ⟨bs,br,ds,vm,gs,gm,_,_,hv,_⟩:=h;exact SVC_may hv
def preC (s:SC) (z:ZC):Prop:=St.pre runC runA preMC preAC s z
def stepC (s:SC) (z:ZC):SC × ZC:=St.run runC runA s z
structure CallC where
 kind:Int
 id:Int
 dl:Int
 per:Int
def CallC.cells (c:CallC):Array Value:=#[.int .i64 c.kind,.int .u64 c.id,.int .u64 c.dl,.int .u64 c.per]
def newW (th no:Int) (c:CallC):WorkS:=⟨th,no,c.kind,c.id,c.dl,c.per,0,false,0,0,c.id,0,0,0,none,none⟩
def firstC (kind:Int):SC:=if kind=1∨kind=2 then .at none .right else if kind=3 then .at none .enter else .at none .gate
section
variable {L:Lay} {x:CoreS} {g gF:List Blk} {kb:Nat} {s:SC} {n:Int} {k:WorkS}
set_option maxRecDepth 100000 in
theorem callStep (hc:isCall L kb s n k g) (hx:isCore L x gF) (hp:preC s (k,x)) (hn:s.isNil=false) (hb:0≤n∧n≤1000000000) :
 DoesG Tryz.prog 19 #[ptr' kb] [g,gF] fun e gs=>∃ g' gF',e=.returned (.bool true)∧isCall L kb (stepC s (k,x)).1 (n+1) (stepC s (k,x)).2.1 g'∧isCore L (stepC s (k,x)).2.2 gF'∧gs=[g',gF']:=by
 obtain ⟨pb,m,d,gst,gK,hs,⟨rv,tv,gq,gt,hr,ht,rfl⟩,rfl⟩:=hc
 have hm0:=SVC_may hs
 subst hm0
 have hok:=cliC_ok L kb (ptr' pb)
 have hm:=Cli.may_nil (x:=((k,x):ZC)) hok hn hs
 have hd:=Cli.prog_step (n:=n) hok hs (x:=((k,x):ZC)) (gK:=workB kb L.fb (ptr' pb) rv tv k++(gq++gt)) (gF:=gF) ⟨rv,tv,gq,gt,hr,ht,rfl,hx⟩ (preYC s _) hp pb hb hm
 intro w hw
 have T0:=TG.refl hw
 have HT:=Lib.hid T0
 clear hw T0
 have T1:=HT.out.sum (H':=[workB kb L.fb (ptr' pb) rv tv k,Cli.progB pb .nilFunc d n,gst,gq,gt,gF])
 have k12:=T1.cell 0 0 rfl 12
 simp only [workC,GE3] at k12
 have HD:=Lib.hid hd
 have HT:=Lib.hid (HT.out.sum (H':=[Cli.progB pb .nilFunc d n,gst,workB kb L.fb (ptr' pb) rv tv k++(gq++gt),gF]))
 clear hs hr ht hx hp hn hb hok hm hd T1
 go_enter Tryz.func19,Tryz.ntmps19
 go_wp2_with fail
 refine (DoesG.use (HD.out) (HT.out) [0,1,2,3] rfl rfl).mono ?_
 rintro e w1 ⟨gs,⟨m',d',gst',gK',gF',rfl,hs',hx',rfl⟩,Ta⟩
 simp only [PU] at Ta
 have HS:=Lib.hid hs'
 have HX:=Lib.hid (rep2_iff.1 hx')
 clear hs' hx' k12
 have HT:=Lib.hid Ta
 clear Ta
 go_wp2
 go_ret
 exact ⟨_,⟨_,gF',rfl,⟨pb,m',d',gst',gK',HS.out,HX.out.1,rfl⟩,HX.out.2,rfl⟩,HT.out.sum⟩
set_option maxRecDepth 100000 in
theorem callStep_nil (hc:isCall L kb .nil n k g) (hx:isCore L x gF) :
 DoesG Tryz.prog 19 #[ptr' kb] [g,gF] fun e gs=>e=.returned (.bool false)∧∃ g' gF',isCall L kb .nil n k g'∧isCore L x gF'∧gs=[g',gF']:=by
 obtain ⟨pb,m,d,gst,gK,hs,⟨rv,tv,gq,gt,hr,ht,rfl⟩,rfl⟩:=hc
 have hok:=cliC_ok L kb (ptr' pb)
 have hd:=Cli.prog_step_no (n:=n) hok hs (x:=((k,x):ZC)) (gK:=workB kb L.fb (ptr' pb) rv tv k++(gq++gt)) (gF:=gF) ⟨rv,tv,gq,gt,hr,ht,rfl,hx⟩ (preYC .nil _) pb rfl
 intro w hw
 have T0:=TG.refl hw
 have HT:=Lib.hid T0
 clear hw T0
 have T1:=HT.out.sum (H':=[workB kb L.fb (ptr' pb) rv tv k,Cli.progB pb m d n,gst,gq,gt,gF])
 have k12:=T1.cell 0 0 rfl 12
 simp only [workC,GE3] at k12
 have HD:=Lib.hid hd
 have HS:=Lib.hid hs
 have HT:=Lib.hid (HT.out.sum (H':=[Cli.progB pb m d n,gst,workB kb L.fb (ptr' pb) rv tv k++(gq++gt),gF]))
 clear hs hr ht hx hok hd T1
 go_enter Tryz.func19,Tryz.ntmps19
 go_wp2_with fail
 refine (DoesG.use (HD.out) (HT.out) [0,1,2,3] rfl rfl).mono ?_
 rintro e w1 ⟨gs,⟨gK',gF',rfl,hx',rfl⟩,Ta⟩
 simp only [PU] at Ta
 have HX:=Lib.hid (rep2_iff.1 hx')
 clear hx' k12
 have HT:=Lib.hid Ta
 clear Ta
 go_wp2
 go_ret
 exact ⟨_,⟨rfl,_,gF',⟨pb,m,d,gst,gK',HS.out,HX.out.1,rfl⟩,HX.out.2,rfl⟩,HT.out.sum⟩
set_option maxRecDepth 100000 in
theorem callDone (hc:isCall L kb s n k g):ReadsG Tryz.prog 94 #[ptr' kb] [g] (.bool s.isNil):=by
 obtain ⟨pb,m,d,gst,gK,hs,⟨rv,tv,gq,gt,hr,ht,rfl⟩,rfl⟩:=hc
 have hd:=Cli.prog_done (cliC_ok L kb (ptr' pb)) hs pb n
 intro w hw
 have T0:=TG.refl hw
 have HT:=Lib.hid T0
 clear hw T0
 have T1:=HT.out.sum (H':=[workB kb L.fb (ptr' pb) rv tv k,Cli.progB pb m d n,gst,gq,gt])
 have k12:=T1.cell 0 0 rfl 12
 simp only [workC,GE3] at k12
 have HD:=Lib.hid hd
 have HT:=Lib.hid T1
 clear hs hr ht hd T1
 go_enter Tryz.func94,Tryz.ntmps94
 go_wp2_with fail
 refine (ReadsG.use (HD.out) (HT.out) [1] rfl rfl).mono ?_
 rintro e w1 ⟨rfl,mq,rfl⟩
 go_wp2
 go_ret
 exact ⟨rfl,_,rfl⟩
set_option maxRecDepth 100000 in
theorem callMay (hc:isCall L kb s n k g) (hx:isCore L x gF) :
 DoesG Tryz.prog 359 #[ptr' kb] [g,gF] fun e gs=>e=.returned (.bool (!s.isNil))∧∃ g' gF',isCall L kb s n k g'∧isCore L x gF'∧gs=[g',gF']:=by
 obtain ⟨pb,m,d,gst,gK,hs,⟨rv,tv,gq,gt,hr,ht,rfl⟩,rfl⟩:=hc
 have hm0:=SVC_may hs
 subst hm0
 have hok:=cliC_ok L kb (ptr' pb)
 have hm:St.may (M:=(cliC L kb (ptr' pb)).M) (A:=(cliC L kb (ptr' pb)).A) (Y:=(cliC L kb (ptr' pb)).Y) (α:=(cliC L kb (ptr' pb)).α) (cliC L kb (ptr' pb)).mayY s ((k,x):ZC)=!s.isNil:=by
  cases hn:s.isNil
  ·exact Cli.may_nil (x:=((k,x):ZC)) hok hn hs
  ·cases s <;> first | rfl | cases hn
 have hd:=Cli.prog_may (n:=n) hok hs (x:=((k,x):ZC)) (gK:=workB kb L.fb (ptr' pb) rv tv k++(gq++gt)) (gF:=gF) ⟨rv,tv,gq,gt,hr,ht,rfl,hx⟩ (preYC s _) pb
 rw [hm] at hd
 intro w hw
 have T0:=TG.refl hw
 have HT:=Lib.hid T0
 clear hw T0
 have T1:=HT.out.sum (H':=[workB kb L.fb (ptr' pb) rv tv k,Cli.progB pb .nilFunc d n,gst,gq,gt,gF])
 have k12:=T1.cell 0 0 rfl 12
 simp only [workC,GE3] at k12
 have HD:=Lib.hid hd
 have HS:=Lib.hid hs
 have HT:=Lib.hid (HT.out.sum (H':=[Cli.progB pb .nilFunc d n,gst,workB kb L.fb (ptr' pb) rv tv k++(gq++gt),gF]))
 clear hs hr ht hx hok hd T1 hm
 go_enter Tryz.func359,Tryz.ntmps359
 go_wp2_with fail
 refine (DoesG.use (HD.out) (HT.out) [0,1,2,3] rfl rfl).mono ?_
 rintro e w1 ⟨gs,⟨gK',gF',rfl,hx',rfl⟩,Ta⟩
 simp only [PU] at Ta
 have HX:=Lib.hid (rep2_iff.1 hx')
 clear hx' k12
 have HT:=Lib.hid Ta
 clear Ta
 go_wp2
 go_ret
 exact ⟨_,⟨rfl,_,gF',⟨pb,.nilFunc,d,gst,gK',HS.out,HX.out.1,rfl⟩,HX.out.2,rfl⟩,HT.out.sum⟩
end
end
end Go.Proofs.YtblhfbcodbjgcaaGreat
