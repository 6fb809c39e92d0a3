import Derived.Test.YtblhfbcodbjgcaaGreatTU9
import Derived.Test.YtblhfbcodbjgcaaGreatTU1
import Derived.Deep.CutBlock
import Derived.Test.YtblhfbcodbjgcaaGreatTU4
import Derived.Test.YtblhfbcodbjgcaaGreatTU8
namespace Go.Proofs.YtblhfbcodbjgcaaGreat
set_option linter.unusedVariables false
set_option linter.unusedSimpArgs false
open Go.RowKit Go.Shelf
theorem look_keeps (k : WorkS) (s : SlabS) (h : 0 ≤ k.slot) (hi : 0 ≤ k.id) : (lookW k s).1.kind = k.kind ∧ (lookW k s).1.rq = k.rq ∧ (lookW k s).1.tk = k.tk ∧ 0 ≤ (lookW k s).1.slot := by
  have hs : 0 ≤ s.slot k.id := by unfold SlabS.slot; split <;> omega
  unfold lookW
  split
  · exact ⟨rfl, rfl, rfl, h⟩
  · split
    · exact ⟨rfl, rfl, rfl, hs⟩
    · exact ⟨rfl, rfl, rfl, hs⟩
theorem over_kind {k k2 : WorkS} (h : k2.kind = k.kind) : overC k = overC k2 := by unfold overC; rw [h]
section
variable {L : Lay} {x : CoreS} {gK gF : List Blk} {kb : Nat} {pv : Value} {k : WorkS}
set_option maxRecDepth 100000 in
theorem mLooks (hz : rep2 L kb pv k x gK gF) (hp : preMC .looks (k, x)) : DoesG Tryz.prog 141 #[ptr' kb] [gK, gF] (MRz L kb pv (runC .looks (k, x))) := by
  obtain ⟨hok, hwk, _⟩ := hp
  simp only at hok hwk
  have HLN := Lib.hid hok.tr
  have HSH := Lib.hid hok.sh
  have HLK := Lib.hid (show ∀ g rv tv, isCore L x g → _ from fun g rv tv hx => workLook (kb := kb) (pv := pv) (rv := rv) (tv := tv) (k := k) (g := g) hx hok hwk.id.1 hwk.id.2)
  have hkeep := look_keeps k x.slab hwk.slot hwk.id.1
  have hE : ∀ k2 er, lookW k x.slab = (k2, er) → runC .looks (k, x) = if er = 0 then (if k.kind = 3 then (.at none .queues, ({ k2 with tk := some (homeC k2.slot x, newTick) }, x)) else (.at none .tries, (k2, x))) else if er = 1 then (overC k, refuseC 1 (k2, x)) else (overC k, refuseC 0 (k2, x)) := by
    intro k2 er h
    show (if (lookW k x.slab).2 = 0 then _ else _) = _
    simp only [lookC, h]
  obtain ⟨k2, er, hl⟩ : ∃ k2 er, lookW k x.slab = (k2, er) := ⟨_, _, rfl⟩
  rw [hE k2 er hl]
  rw [hl] at HLK hkeep
  simp only at hkeep
  clear hE hl hok hwk
  by_cases h0 : er = 0
  · subst h0
    by_cases h3 : k.kind = 3
    · have HZ : (if (0 : Int) = 0 then (if k.kind = 3 then (.at none .queues, ({ k2 with tk := some (homeC k2.slot x, newTick) }, x)) else (.at none .tries, (k2, x))) else if (0 : Int) = 1 then (overC k, refuseC 1 (k2, x)) else (overC k, refuseC 0 (k2, x)) : SC × ZC) = (.at none .queues, ({ k2 with tk := some (homeC k2.slot x, newTick) }, x)) := (if_pos rfl).trans (if_pos h3)
      rw [HZ]
      unfold MRz
      dsimp only [refuseC]
      clear HZ
      obtain ⟨hkk, hkr, hkt, hks⟩ := hkeep
      obtain ⟨rv, tv, gq, gt, hr, ht, rfl, hx⟩ := hz
      intro w hw
      have T0 := TG.refl hw
      have HT := Lib.hid T0
      clear hw T0
      have HT := Lib.hid (HT.out.sum (H' := [workB kb L.fb pv rv tv k, gq, gt, gF]) (fun n ha h0 h1 h2 => by simp only [SU, ha, h0, h1, h2] <;> omega))
      have HX := Lib.hid hx
      have HR := Lib.hid (show optR L.p.sb k2.rq rv gq from hkr ▸ hr)
      have HTK := Lib.hid (show optT L k2.tk tv gt from hkt ▸ ht)
      have HKK := Lib.hid hkk
      clear hx hr ht hkr hkt hkk
      have HT := Lib.hid (HT.out.alloc (k := w.heap.size) rfl 148 #[.nilFunc, .nilFunc])
      go_enter Tryz.func141, Tryz.ntmps141
      go_wp2_with fail
      refine (DoesG.use (HLK.out _ _ _ HX.out) (HT.out) [0, 3] rfl rfl).mono ?_
      rintro e w1 ⟨gs, ⟨rfl, g1, hx1, rfl⟩, Ta⟩
      simp only [PU] at Ta
      have HX := Lib.hid hx1
      clear hx1
      have HT := Lib.hid Ta
      clear Ta
      have i0 := hks
      have k3 := HT.out.cell 0 0 rfl 3
      simp only [workC, List.getElem?_toArray, List.getElem?_cons_zero, List.getElem?_cons_succ] at k3
      rw [HKK.out, h3] at k3
      clear h3
      go_wp2
      clear k3
      obtain ⟨qs, ss, hqs, hss, hv⟩ := home_val HX.out HSH.out i0
      have HH := Lib.hid (coreHome_r HX.out (by rw [HX.out.len]; exact HSH.out) k2.slot)
      rw [hv] at HH
      have HQS := Lib.hid hqs
      have HBG := Lib.hid (coreBegin HX.out hqs hss)
      clear hqs hss hv
      have k0 := HT.out.cell 0 0 rfl 0
      have k16 := HT.out.cell 0 0 rfl 16
      simp only [workC, List.getElem?_toArray, List.getElem?_cons_zero, List.getElem?_cons_succ] at k0 k16
      refine wp_region_mix1 10 (by kernel_rfl) (by kernel_rfl) ?_
      simp only [List.take_succ_cons, List.take_zero, List.drop_succ_cons, List.drop_zero]
      repeat (go_big_quiet_step ((first | (go_at_call 171; with_reducible exact ReadsG.quiet (HH.out) HT.out _ [3] rfl rfl))))
      refine wpQuiet_nil ?_
      intro _ hw'
      obtain ⟨nq, hw''⟩ := hw'
      subst hw''
      have HT := Lib.hid (HT.out.drewN nq)
      go_wp2_with fail
      refine (DoesG.use (HBG.out) (HT.out) [3] rfl rfl).mono ?_
      rintro e w1 ⟨gs, ⟨tb, rfl, g2, hx2, rfl⟩, Ta⟩
      simp only [PU] at Ta
      have HX := Lib.hid hx2
      clear hx2 k0 k16
      have HT := Lib.hid Ta
      clear Ta
      have k14 := HT.out.cell 0 0 rfl 14
      have fk14 := HT.out.free 0 0 rfl 14
      simp only [workC, List.getElem?_toArray, List.getElem?_cons_zero, List.getElem?_cons_succ] at k14
      go_wp2_with fail
      refine ⟨rfl, ?_⟩
      have HT := Lib.hid ((HT.out.set 0 0 rfl 14 (ptr' tb)).eq (H' := [workB kb L.fb pv rv (ptr' tb) { k2 with tk := some (homeC k2.slot x, newTick) }, gq, gt, g2, [cl w.heap.size 148 #[.nilFunc, .nilFunc]], tickG tb qs.rb newTick]) rfl)
      clear k14 fk14
      go_wp2_with fail
      refine (DoesG.use (callsAt) (HT.out) [] rfl rfl).mono ?_
      rintro e w1 ⟨gs, ⟨rfl, rfl⟩, Ta⟩
      simp only [PU] at Ta
      have HT := Lib.hid Ta
      clear Ta
      have e0 := HT.out.cell 4 0 rfl 0
      have fe0 := HT.out.free 4 0 rfl 0
      have e1 := HT.out.cell 4 0 rfl 1
      have fe1 := HT.out.free 4 0 rfl 1
      simp only [List.getElem?_nil, List.getElem?_toArray, List.getElem?_cons_zero, List.getElem?_cons_succ] at e0 e1
      go_wp2
      exact bodyPost_ret (v := .agg #[.nilFunc, .func (.func 173) #[ptr' kb] #[]]) (by simp [results, Tryz.results141, go_sem, e0, e1]) rfl ⟨_, ⟨_, _, [], _, _, rfl, ⟨rfl, rfl, rfl⟩, ⟨_, _, gq, (tickG tb qs.rb newTick), HR.out, ⟨tb, qs, HQS.out, rfl, rfl⟩, rfl, HX.out⟩, rfl⟩, (((HT.out.set 4 0 rfl 0 _).set 4 0 rfl 1 _).pick [0, 1, 5, 3] rfl).sum (fun n ha h0 h1 h2 => by simp only [SU, ha, h0, h1, h2] <;> omega)⟩
    · have HZ : (if (0 : Int) = 0 then (if k.kind = 3 then (.at none .queues, ({ k2 with tk := some (homeC k2.slot x, newTick) }, x)) else (.at none .tries, (k2, x))) else if (0 : Int) = 1 then (overC k, refuseC 1 (k2, x)) else (overC k, refuseC 0 (k2, x)) : SC × ZC) = (.at none .tries, (k2, x)) := (if_pos rfl).trans (if_neg h3)
      have hb3 : (k.kind == 3) = false := beq_eq_false_iff_ne.2 h3
      clear h3
      rw [HZ]
      unfold MRz
      dsimp only [refuseC]
      clear HZ
      obtain ⟨hkk, hkr, hkt, hks⟩ := hkeep
      obtain ⟨rv, tv, gq, gt, hr, ht, rfl, hx⟩ := hz
      intro w hw
      have T0 := TG.refl hw
      have HT := Lib.hid T0
      clear hw T0
      have HT := Lib.hid (HT.out.sum (H' := [workB kb L.fb pv rv tv k, gq, gt, gF]) (fun n ha h0 h1 h2 => by simp only [SU, ha, h0, h1, h2] <;> omega))
      have HX := Lib.hid hx
      have HR := Lib.hid (show optR L.p.sb k2.rq rv gq from hkr ▸ hr)
      have HTK := Lib.hid (show optT L k2.tk tv gt from hkt ▸ ht)
      have HKK := Lib.hid hkk
      clear hx hr ht hkr hkt hkk
      have HT := Lib.hid (HT.out.alloc (k := w.heap.size) rfl 148 #[.nilFunc, .nilFunc])
      go_enter Tryz.func141, Tryz.ntmps141
      go_wp2_with fail
      refine (DoesG.use (HLK.out _ _ _ HX.out) (HT.out) [0, 3] rfl rfl).mono ?_
      rintro e w1 ⟨gs, ⟨rfl, g1, hx1, rfl⟩, Ta⟩
      simp only [PU] at Ta
      have HX := Lib.hid hx1
      clear hx1
      have HT := Lib.hid Ta
      clear Ta
      have k3 := HT.out.cell 0 0 rfl 3
      simp only [workC, List.getElem?_toArray, List.getElem?_cons_zero, List.getElem?_cons_succ] at k3
      rw [HKK.out] at k3
      go_wp2_with fail
      refine (DoesG.use (callsAt) (HT.out) [] rfl rfl).mono ?_
      rintro e w1 ⟨gs, ⟨rfl, rfl⟩, Ta⟩
      simp only [PU] at Ta
      have HT := Lib.hid Ta
      clear Ta
      have e0 := HT.out.cell 4 0 rfl 0
      have fe0 := HT.out.free 4 0 rfl 0
      have e1 := HT.out.cell 4 0 rfl 1
      have fe1 := HT.out.free 4 0 rfl 1
      simp only [List.getElem?_nil, List.getElem?_toArray, List.getElem?_cons_zero, List.getElem?_cons_succ] at e0 e1
      go_wp2
      exact bodyPost_ret (v := .agg #[.nilFunc, .func (.func 175) #[ptr' kb] #[]]) (by simp [results, Tryz.results141, go_sem, e0, e1]) rfl ⟨_, ⟨_, _, [], _, _, rfl, ⟨rfl, rfl, rfl⟩, ⟨_, _, gq, gt, HR.out, HTK.out, rfl, HX.out⟩, rfl⟩, (((HT.out.set 4 0 rfl 0 _).set 4 0 rfl 1 _).pick [0, 1, 2, 3] rfl).sum (fun n ha h0 h1 h2 => by simp only [SU, ha, h0, h1, h2] <;> omega)⟩
  · by_cases h1 : er = 1
    · subst h1
      have HZ : (if (1 : Int) = 0 then (if k.kind = 3 then (.at none .queues, ({ k2 with tk := some (homeC k2.slot x, newTick) }, x)) else (.at none .tries, (k2, x))) else if (1 : Int) = 1 then (overC k, refuseC 1 (k2, x)) else (overC k, refuseC 0 (k2, x)) : SC × ZC) = (overC (refuseW 1 k2), refuseC 1 (k2, x)) := by rw [if_neg h0, if_pos rfl, over_kind (k := k) (k2 := refuseW 1 k2) hkeep.1]
      clear h0
      rw [HZ]
      unfold MRz
      dsimp only [refuseC]
      clear HZ
      obtain ⟨hkk, hkr, hkt, hks⟩ := hkeep
      obtain ⟨rv, tv, gq, gt, hr, ht, rfl, hx⟩ := hz
      intro w hw
      have T0 := TG.refl hw
      have HT := Lib.hid T0
      clear hw T0
      have HT := Lib.hid (HT.out.sum (H' := [workB kb L.fb pv rv tv k, gq, gt, gF]) (fun n ha h0 h1 h2 => by simp only [SU, ha, h0, h1, h2] <;> omega))
      have HX := Lib.hid hx
      have HR := Lib.hid (show optR L.p.sb k2.rq rv gq from hkr ▸ hr)
      have HTK := Lib.hid (show optT L k2.tk tv gt from hkt ▸ ht)
      have HKK := Lib.hid hkk
      clear hx hr ht hkr hkt hkk
      have HT := Lib.hid (HT.out.alloc (k := w.heap.size) rfl 148 #[.nilFunc, .nilFunc])
      go_enter Tryz.func141, Tryz.ntmps141
      go_wp2_with fail
      refine (DoesG.use (HLK.out _ _ _ HX.out) (HT.out) [0, 3] rfl rfl).mono ?_
      rintro e w1 ⟨gs, ⟨rfl, g1, hx1, rfl⟩, Ta⟩
      simp only [PU] at Ta
      have HX := Lib.hid hx1
      clear hx1
      have HT := Lib.hid Ta
      clear Ta
      go_wp2_with fail
      refine (DoesG.use (workRefuse HX.out 1 HLN.out) (HT.out) [0, 3] rfl rfl).mono ?_
      rintro e w1 ⟨gs, ⟨rfl, g1, hx1, rfl⟩, Ta⟩
      simp only [PU] at Ta
      have HX := Lib.hid hx1
      clear hx1
      have HT := Lib.hid Ta
      clear Ta
      go_wp2_with fail
      refine (DoesG.use (sOver) (HT.out) [0] rfl rfl).mono ?_
      rintro e w1 ⟨gs, ⟨m2, d2, g2, rfl, hs2, rfl⟩, Ta⟩
      simp only [PU] at Ta
      have HT := Lib.hid Ta
      clear Ta
      have e0 := HT.out.cell 4 0 rfl 0
      have fe0 := HT.out.free 4 0 rfl 0
      have e1 := HT.out.cell 4 0 rfl 1
      have fe1 := HT.out.free 4 0 rfl 1
      simp only [List.getElem?_nil, List.getElem?_toArray, List.getElem?_cons_zero, List.getElem?_cons_succ] at e0 e1
      have hv2 := (cliC_vals L kb pv).vals hs2
      obtain ⟨st1, st2⟩ := Cli.store_fv2 (P := Tryz.prog) hv2.1 hv2.2 e0 fe0 e1 fe1
      have HS := Lib.hid hs2
      clear hv2 hs2
      go_wp2
      exact bodyPost_ret (v := .agg #[_, _]) (by simp [results, Tryz.results141, go_sem, e0, e1]) rfl ⟨_, ⟨m2, d2, g2, _, _, rfl, HS.out, ⟨_, _, gq, gt, HR.out, HTK.out, rfl, HX.out⟩, rfl⟩, (((HT.out.set 4 0 rfl 0 _).set 4 0 rfl 1 _).pick [0, 1, 2, 3, 5] rfl).sum (fun n ha h0 h1 h2 => by simp only [SU, ha, h0, h1, h2] <;> omega)⟩
    · have HZ : (if er = 0 then (if k.kind = 3 then (.at none .queues, ({ k2 with tk := some (homeC k2.slot x, newTick) }, x)) else (.at none .tries, (k2, x))) else if er = 1 then (overC k, refuseC 1 (k2, x)) else (overC k, refuseC 0 (k2, x)) : SC × ZC) = (overC (refuseW 0 k2), refuseC 0 (k2, x)) := by rw [if_neg h0, if_neg h1, over_kind (k := k) (k2 := refuseW 0 k2) hkeep.1]
      have hb0 : (er == 0) = false := beq_eq_false_iff_ne.2 h0
      have hb1 : (er == 1) = false := beq_eq_false_iff_ne.2 h1
      clear h0 h1
      rw [HZ]
      unfold MRz
      dsimp only [refuseC]
      clear HZ
      obtain ⟨hkk, hkr, hkt, hks⟩ := hkeep
      obtain ⟨rv, tv, gq, gt, hr, ht, rfl, hx⟩ := hz
      intro w hw
      have T0 := TG.refl hw
      have HT := Lib.hid T0
      clear hw T0
      have HT := Lib.hid (HT.out.sum (H' := [workB kb L.fb pv rv tv k, gq, gt, gF]) (fun n ha h0 h1 h2 => by simp only [SU, ha, h0, h1, h2] <;> omega))
      have HX := Lib.hid hx
      have HR := Lib.hid (show optR L.p.sb k2.rq rv gq from hkr ▸ hr)
      have HTK := Lib.hid (show optT L k2.tk tv gt from hkt ▸ ht)
      have HKK := Lib.hid hkk
      clear hx hr ht hkr hkt hkk
      have HT := Lib.hid (HT.out.alloc (k := w.heap.size) rfl 148 #[.nilFunc, .nilFunc])
      go_enter Tryz.func141, Tryz.ntmps141
      go_wp2_with fail
      refine (DoesG.use (HLK.out _ _ _ HX.out) (HT.out) [0, 3] rfl rfl).mono ?_
      rintro e w1 ⟨gs, ⟨rfl, g1, hx1, rfl⟩, Ta⟩
      simp only [PU] at Ta
      have HX := Lib.hid hx1
      clear hx1
      have HT := Lib.hid Ta
      clear Ta
      go_wp2_with fail
      refine (DoesG.use (workRefuse HX.out 0 HLN.out) (HT.out) [0, 3] rfl rfl).mono ?_
      rintro e w1 ⟨gs, ⟨rfl, g1, hx1, rfl⟩, Ta⟩
      simp only [PU] at Ta
      have HX := Lib.hid hx1
      clear hx1
      have HT := Lib.hid Ta
      clear Ta
      go_wp2_with fail
      refine (DoesG.use (sOver) (HT.out) [0] rfl rfl).mono ?_
      rintro e w1 ⟨gs, ⟨m2, d2, g2, rfl, hs2, rfl⟩, Ta⟩
      simp only [PU] at Ta
      have HT := Lib.hid Ta
      clear Ta
      have e0 := HT.out.cell 4 0 rfl 0
      have fe0 := HT.out.free 4 0 rfl 0
      have e1 := HT.out.cell 4 0 rfl 1
      have fe1 := HT.out.free 4 0 rfl 1
      simp only [List.getElem?_nil, List.getElem?_toArray, List.getElem?_cons_zero, List.getElem?_cons_succ] at e0 e1
      have hv2 := (cliC_vals L kb pv).vals hs2
      obtain ⟨st1, st2⟩ := Cli.store_fv2 (P := Tryz.prog) hv2.1 hv2.2 e0 fe0 e1 fe1
      have HS := Lib.hid hs2
      clear hv2 hs2
      go_wp2
      exact bodyPost_ret (v := .agg #[_, _]) (by simp [results, Tryz.results141, go_sem, e0, e1]) rfl ⟨_, ⟨m2, d2, g2, _, _, rfl, HS.out, ⟨_, _, gq, gt, HR.out, HTK.out, rfl, HX.out⟩, rfl⟩, (((HT.out.set 4 0 rfl 0 _).set 4 0 rfl 1 _).pick [0, 1, 2, 3, 5] rfl).sum (fun n ha h0 h1 h2 => by simp only [SU, ha, h0, h1, h2] <;> omega)⟩
set_option maxHeartbeats 4000000 in
set_option maxRecDepth 100000 in
theorem mAgain (hz : rep2 L kb pv k x gK gF) (hp : preMC .again (k, x)) : DoesG Tryz.prog 201 #[ptr' kb] [gK, gF] (MRz L kb pv (runC .again (k, x))) := by
  obtain ⟨hok, hwk, _⟩ := hp
  simp only at hok hwk
  have HLN := Lib.hid hok.tr
  have HLK := Lib.hid (show ∀ g rv tv, isCore L x g → _ from fun g rv tv hx => workLook (kb := kb) (pv := pv) (rv := rv) (tv := tv) (k := k) (g := g) hx hok hwk.id.1 hwk.id.2)
  have hkeep := look_keeps k x.slab hwk.slot hwk.id.1
  have hE : ∀ k2 er, lookW k x.slab = (k2, er) → runC .again (k, x) = if er = 0 then (.at none .tries, (k2, x)) else (.thn (.row1 .again1) .leaves, refuseC 0 (k2, x)) := by
    intro k2 er h
    show (if (lookW k x.slab).2 = 0 then _ else _) = _
    simp only [lookC, h]
  obtain ⟨k2, er, hl⟩ : ∃ k2 er, lookW k x.slab = (k2, er) := ⟨_, _, rfl⟩
  rw [hE k2 er hl]
  rw [hl] at HLK hkeep
  simp only at hkeep
  clear hE hl hok hwk
  by_cases h0 : er = 0
  · have HZ : (if er = 0 then (.at none .tries, (k2, x)) else (.thn (.row1 .again1) .leaves, refuseC 0 (k2, x)) : SC × ZC) = (.at none .tries, (k2, x)) := if_pos h0
    rw [h0] at HLK
    clear h0
    rw [HZ]
    unfold MRz
    dsimp only [refuseC]
    clear HZ
    obtain ⟨hkk, hkr, hkt, hks⟩ := hkeep
    obtain ⟨rv, tv, gq, gt, hr, ht, rfl, hx⟩ := hz
    intro w hw
    have T0 := TG.refl hw
    have HT := Lib.hid T0
    clear hw T0
    have HT := Lib.hid (HT.out.sum (H' := [workB kb L.fb pv rv tv k, gq, gt, gF]) (fun n ha h0 h1 h2 => by simp only [SU, ha, h0, h1, h2] <;> omega))
    have HX := Lib.hid hx
    have HR := Lib.hid (show optR L.p.sb k2.rq rv gq from hkr ▸ hr)
    have HTK := Lib.hid (show optT L k2.tk tv gt from hkt ▸ ht)
    clear hx hr ht hkr hkt hkk hks
    have HT := Lib.hid ((HT.out.alloc (k := w.heap.size) rfl 33 #[ptr' kb]).alloc (k := w.heap.size + 1) (by simp) 148 #[.nilFunc, .nilFunc])
    go_enter Tryz.func201, Tryz.ntmps201
    go_wp2_with fail
    refine (DoesG.use (HLK.out _ _ _ HX.out) (HT.out) [0, 3] rfl rfl).mono ?_
    rintro e w1 ⟨gs, ⟨rfl, g1, hx1, rfl⟩, Ta⟩
    simp only [PU] at Ta
    have HX := Lib.hid hx1
    clear hx1
    have HT := Lib.hid Ta
    clear Ta
    have b0 := HT.out.cell 4 0 rfl 0
    simp only [List.getElem?_nil, List.getElem?_toArray, List.getElem?_cons_zero, List.getElem?_cons_succ] at b0
    go_wp2_with fail
    refine (DoesG.use (callsAt) (HT.out) [] rfl rfl).mono ?_
    rintro e w1 ⟨gs, ⟨rfl, rfl⟩, Ta⟩
    simp only [PU] at Ta
    have HT := Lib.hid Ta
    clear Ta
    have e0 := HT.out.cell 5 0 rfl 0
    have fe0 := HT.out.free 5 0 rfl 0
    have e1 := HT.out.cell 5 0 rfl 1
    have fe1 := HT.out.free 5 0 rfl 1
    simp only [List.getElem?_nil, List.getElem?_toArray, List.getElem?_cons_zero, List.getElem?_cons_succ] at e0 e1
    go_wp2
    exact bodyPost_ret (v := .agg #[.nilFunc, .func (.func 175) #[ptr' kb] #[]]) (by simp [results, Tryz.results201, go_sem, e0, e1]) rfl ⟨_, ⟨_, _, [], _, _, rfl, ⟨rfl, rfl, rfl⟩, ⟨_, _, gq, gt, HR.out, HTK.out, rfl, HX.out⟩, rfl⟩, (((HT.out.set 5 0 rfl 0 _).set 5 0 rfl 1 _).pick [0, 1, 2, 3] rfl).sum (fun n ha h0 h1 h2 => by simp only [SU, ha, h0, h1, h2] <;> omega)⟩
  · have HZ : (if er = 0 then (.at none .tries, (k2, x)) else (.thn (.row1 .again1) .leaves, refuseC 0 (k2, x)) : SC × ZC) = (.thn (.row1 .again1) .leaves, refuseC 0 (k2, x)) := if_neg h0
    have hb0 : (er == 0) = false := beq_eq_false_iff_ne.2 h0
    have hrow : ∀ (bk b bf bl bi : Nat), (cliC L kb pv).SV (.row1 .again1) .nilFunc (.func (.func 188) #[] #[ptr' bf, ptr' bl, ptr' bi])
      ([cl bf 1 #[.func (.func 233) #[] #[ptr' bk]], cl bl 303 #[.slice (some ⟨b, 0, none⟩) 1 1], cl bi 3 #[.int .i64 0], cl b 1 #[.func (.func 233) #[] #[ptr' bk]]] ++ [cl bk 33 #[ptr' kb]]) :=
      fun bk b bf bl bi => ⟨rfl, bf, bl, bi, b, 0, _, _, _, rfl, ⟨bk, rfl, rfl⟩, rfl, rfl⟩
    have hthen : ∀ (bk b bf bl bi : Nat), _ := fun bk b bf bl bi => Cli.prog_then_cons (f := MC.leaves) (v := .func (.func 168) #[ptr' kb] #[]) (gm := []) (cliC_vals L kb pv) rfl (hrow bk b bf bl bi) ⟨rfl, rfl⟩
    have HTH := Lib.hid hthen
    clear h0 hrow hthen
    rw [HZ]
    unfold MRz
    dsimp only [refuseC]
    clear HZ
    obtain ⟨hkk, hkr, hkt, hks⟩ := hkeep
    obtain ⟨rv, tv, gq, gt, hr, ht, rfl, hx⟩ := hz
    intro w hw
    have T0 := TG.refl hw
    have HT := Lib.hid T0
    clear hw T0
    have HT := Lib.hid (HT.out.sum (H' := [workB kb L.fb pv rv tv k, gq, gt, gF]) (fun n ha h0 h1 h2 => by simp only [SU, ha, h0, h1, h2] <;> omega))
    have HX := Lib.hid hx
    have HR := Lib.hid (show optR L.p.sb k2.rq rv gq from hkr ▸ hr)
    have HTK := Lib.hid (show optT L k2.tk tv gt from hkt ▸ ht)
    clear hx hr ht hkr hkt hkk hks
    have HT := Lib.hid ((HT.out.alloc (k := w.heap.size) rfl 33 #[ptr' kb]).alloc (k := w.heap.size + 1) (by simp) 148 #[.nilFunc, .nilFunc])
    go_enter Tryz.func201, Tryz.ntmps201
    go_wp2_with fail
    refine (DoesG.use (HLK.out _ _ _ HX.out) (HT.out) [0, 3] rfl rfl).mono ?_
    rintro e w1 ⟨gs, ⟨rfl, g1, hx1, rfl⟩, Ta⟩
    simp only [PU] at Ta
    have HX := Lib.hid hx1
    clear hx1
    have HT := Lib.hid Ta
    clear Ta
    have b0 := HT.out.cell 4 0 rfl 0
    simp only [List.getElem?_nil, List.getElem?_toArray, List.getElem?_cons_zero, List.getElem?_cons_succ] at b0
    go_wp2_with fail
    refine (DoesG.use (workRefuse HX.out 0 HLN.out) (HT.out) [0, 3] rfl rfl).mono ?_
    rintro e w1 ⟨gs, ⟨rfl, g1, hx1, rfl⟩, Ta⟩
    simp only [PU] at Ta
    have HX := Lib.hid hx1
    clear hx1
    have HT := Lib.hid Ta
    clear Ta
    clear b0
    have b0 := HT.out.cell 4 0 rfl 0
    simp only [List.getElem?_nil, List.getElem?_toArray, List.getElem?_cons_zero, List.getElem?_cons_succ] at b0
    have ltb := HT.out.lt 4 0 rfl
    simp only [] at ltb
    go_wp2_with fail
    go_region_with (first
      | (go_at_call 164
         refine (DoesG.use (Cli.row_1 (b := w1.heap.size) (o := 0) (D := #[.func (.func 233) #[] #[ptr' w.heap.size]]) rfl 1 (.inl rfl)) (HT.out.drew.alloc (k := w1.heap.size) rfl _ _) [6] rfl rfl).mono ?_
         rintro e w2 ⟨gs, ⟨bf, bl, bi, rfl, rfl⟩, Ta⟩
         simp only [putG, List.set_cons_zero, List.set_cons_succ, List.cons_append, List.nil_append, List.append_nil] at Ta
         have b1 := Ta.cell 4 0 rfl 0
         simp only [List.getElem?_toArray, List.getElem?_cons_zero] at b1
         have HT1 := Lib.hid (Ta.sum (H' := [workB kb L.fb pv rv tv (refuseW 0 k2), gq, gt, g1, [cl (w.heap.size + 1) 148 #[.nilFunc, .nilFunc]], [cl bf 1 #[.func (.func 233) #[] #[ptr' w.heap.size]], cl bl 303 #[.slice (some ⟨w1.heap.size, 0, none⟩) 1 1], cl bi 3 #[.int .i64 0], cl w1.heap.size 1 #[.func (.func 233) #[] #[ptr' w.heap.size]]] ++ [cl w.heap.size 33 #[ptr' kb]], []]) (fun n ha h0 h1 h2 => by simp only [SU, ha, h0, h1, h2] <;> omega))
         clear Ta)
      | (go_at_call 191
         refine (DoesG.use (HTH.out _ _ _ _ _) HT1.out [5, 6] rfl rfl).mono ?_
         rintro e w3 ⟨gs, ⟨m2, d2, g2, rfl, hs2, rfl⟩, Ta⟩
         simp only [putG, List.set_cons_zero, List.set_cons_succ, List.cons_append, List.nil_append, List.append_nil] at Ta
         have e0 := Ta.cell 4 0 rfl 0
         have e1 := Ta.cell 4 0 rfl 1
         have f0 := Ta.free 4 0 rfl 0
         have f1 := Ta.free 4 0 rfl 1
         have hv2 := (cliC_vals L kb pv).vals hs2
         obtain ⟨st1, st2⟩ := Cli.store_fv2 (P := Tryz.prog) hv2.1 hv2.2 e0 f0 e1 f1
         clear hv2
         have HS2 := Lib.hid hs2
         have HT2 := Lib.hid Ta
         clear Ta hs2))
    all_goals
      go_wp2
      exact bodyPost_ret (v := .agg #[_, _]) (by simp [results, Tryz.results201, go_sem, e0, e1]) rfl ⟨_, ⟨m2, d2, g2, _, _, rfl, HS2.out, ⟨_, _, gq, gt, HR.out, HTK.out, rfl, HX.out⟩, rfl⟩, (((HT2.out.set 4 0 rfl 0 _).set 4 0 rfl 1 _).pick [0, 1, 2, 3, 5] rfl).sum (fun n ha h0 h1 h2 => by simp only [SU, ha, h0, h1, h2] <;> omega)⟩
end
end Go.Proofs.YtblhfbcodbjgcaaGreat

namespace Go.Proofs.YtblhfbcodbjgcaaGreat
set_option linter.unusedVariables false
open Go.RowKit Go.Shelf
def atReg (n : Nat) : Code → Option Code
  | .region m ops d => if m = n then some (.region m ops d) else none
  | .block _ c => atReg n c
  | .seq a b => match atReg n a with
    | some x => some x
    | none => atReg n b
  | .cond _ a b => match atReg n a with
    | some x => some x
    | none => atReg n b
  | .loop c => atReg n c
  | .scope c => atReg n c
  | .rangeFunc _ _ a b => match atReg n a with
    | some x => some x
    | none => atReg n b
  | _ => none
def regOf (n : Nat) (f : Func) : Code := (atReg n (f.body.getD .skip)).getD .skip
theorem wp_regOf {P : Program} {n : Nat} {f : Func} {c : Code} {Q : Exit → Act → World → Prop} {a : Act} {w : World} (h : atReg n (f.body.getD .skip) = some c) (h2 : c.wp P Q a w) : (regOf n f).wp P Q a w := by
  unfold regOf; rw [h]; exact h2
end Go.Proofs.YtblhfbcodbjgcaaGreat

namespace Go.Proofs.YtblhfbcodbjgcaaGreat
set_option linter.unusedVariables false
set_option linter.unusedSimpArgs false
open Go.RowKit Go.Shelf
namespace Cli
variable {c : Cli}
set_option maxRecDepth 100000 in
theorem prog_then_x (h : c.Vals) {s : c.S} {f : c.M} {m d v : Value} {g gm : List Blk} (hn : s.isNil = false) (hs : c.SV s m d g) (hm : c.VM f v gm) :
    DoesG Tryz.prog 191 #[.agg #[m, d], v] [g, gm] fun e gs => ∃ bs br, e = .returned (.agg #[m, .func (.func 226) #[] #[ptr' bs, ptr' br]]) ∧ gs = [[cl bs 148 #[m, d], cl br 146 #[v]] ++ g ++ gm] := by
  obtain ⟨fn, first, caps, rfl⟩ := h.do_ hn hs
  intro w hw
  have T0 := TG.refl hw
  have HT := Lib.hid T0
  clear hw T0
  have HS := Lib.hid hs
  have HM := Lib.hid hm
  have HN := Lib.hid hn
  obtain ⟨v1, _⟩ := h.vals hs
  obtain ⟨fn0, first0, caps0, rfl⟩ := h.vm hm
  clear hm hs h hn
  have q1 := fun w => fun_is_M (.func fn) first caps w
  rcases v1 with rfl | ⟨fn1, first1, caps1, rfl⟩
  all_goals
    go_enter Tryz.func191, Tryz.ntmps191
    go_wp2
    exact bodyPost_ret (v := .agg #[_, _]) (by simp [results, Tryz.results191, go_sem]) rfl ⟨_, ⟨w.heap.size, w.heap.size + 1, rfl, rfl⟩, (((HT.out.alloc (k := w.heap.size) rfl _ _).alloc (k := w.heap.size + 1) (by simp) _ _).alloc0 _).sum (fun n ha h0 h1 h2 => by simp only [SU, ha, h0, h1, h2] <;> omega)⟩
end Cli
end Go.Proofs.YtblhfbcodbjgcaaGreat

namespace Go.Proofs.YtblhfbcodbjgcaaGreat
set_option linter.unusedVariables false
set_option linter.unusedSimpArgs false
open Go.RowKit Go.Shelf
section
variable {L : Lay} {kb : Nat} {pv : Value}
set_option maxHeartbeats 4000000 in
set_option maxRecDepth 100000 in
theorem tries16 {u0 u3 u4 u5 u6 u7 u8 u9 u10 u11 u12 u13 u14 u15 u16 u17 u18 u19 u20 u21 u22 u23 u24 u25 u26 u27 u28 u29 u30 u31 u32 u33 u34 u35 u36 u37 u38 u39 u40 u41 u42 u43 u44 u45 u46 u47 u48 u49 u50 u51 u52 u53 u54 u55 u56 u57 u58 u59 u60 u61 u62 u63 u64 u65 u66 u67 u68 u69 u70 u71 u72 u73 u74 u75 u76 u77 u78 u79 u80 u81 u82 u83 u84 u85 u86 u87 u88 u89 u90 u91 u92 u93 u94 u95 u96 u97 u98 u99 u100 u101 u102 u103 u104 u105 u106 u107 u108 u109 u110 u111 u112 u113 u114 u115 u116 u117 u118 u119 u120 : Value} {bb rb : Nat} {K : Act → World → Prop} {Q' : Exit → Act → World → Prop} {g0 g1 g2 g3 : List Blk} {w0 w : World} {h : GH} (T : TG h w0 [g0, g1, g2, g3, [cl bb 33 #[ptr' kb]], [cl rb 148 #[.nilFunc, .nilFunc]]] w)
    (hK : ∀ w' m d g v113 v114 v115 v116 v117 v118 v119 v120, (cliC L kb pv).SV (.thn (.row2 .tries1 .drop) .ends) m d g → TG h w0 [g0, g1, g2, g3, g, [cl rb 148 #[m, d]]] w' → K { tmps := #[u0, ptr' bb, ptr' rb, u3, u4, u5, u6, u7, u8, u9, u10, u11, u12, u13, u14, u15, u16, u17, u18, u19, u20, u21, u22, u23, u24, u25, u26, u27, u28, u29, u30, u31, u32, u33, u34, u35, u36, u37, u38, u39, u40, u41, u42, u43, u44, u45, u46, u47, u48, u49, u50, u51, u52, u53, u54, u55, u56, u57, u58, u59, u60, u61, u62, u63, u64, u65, u66, u67, u68, u69, u70, u71, u72, u73, u74, u75, u76, u77, u78, u79, u80, u81, u82, u83, u84, u85, u86, u87, u88, u89, u90, u91, u92, u93, u94, u95, u96, u97, u98, u99, u100, u101, u102, u103, u104, u105, u106, u107, u108, u109, u110, u111, u112, v113, v114, v115, v116, v117, v118, v119, v120], defers := [] } w') :
    (regOf 16 Tryz.f175).wp Tryz.prog (Exit.then K Q') { tmps := #[u0, ptr' bb, ptr' rb, u3, u4, u5, u6, u7, u8, u9, u10, u11, u12, u13, u14, u15, u16, u17, u18, u19, u20, u21, u22, u23, u24, u25, u26, u27, u28, u29, u30, u31, u32, u33, u34, u35, u36, u37, u38, u39, u40, u41, u42, u43, u44, u45, u46, u47, u48, u49, u50, u51, u52, u53, u54, u55, u56, u57, u58, u59, u60, u61, u62, u63, u64, u65, u66, u67, u68, u69, u70, u71, u72, u73, u74, u75, u76, u77, u78, u79, u80, u81, u82, u83, u84, u85, u86, u87, u88, u89, u90, u91, u92, u93, u94, u95, u96, u97, u98, u99, u100, u101, u102, u103, u104, u105, u106, u107, u108, u109, u110, u111, u112, u113, u114, u115, u116, u117, u118, u119, u120], defers := [] } w := by
  refine wp_regOf (by rfl) ?_
  have hrow : ∀ (bk b bf bl bi : Nat), (cliC L kb pv).SV (.row2 .tries1 .drop) .nilFunc (.func (.func 188) #[] #[ptr' bf, ptr' bl, ptr' bi])
    ([cl bf 1 #[.func (.func 211) #[] #[ptr' bk]], cl bl 303 #[.slice (some ⟨b, 0, none⟩) 2 2], cl bi 3 #[.int .i64 0], cl b 1 #[.func (.func 211) #[] #[ptr' bk], .func (.func 200) #[ptr' kb] #[]]] ++ [cl bk 33 #[ptr' kb]] ++ []) :=
    fun bk b bf bl bi => ⟨rfl, bf, bl, bi, b, _, _, _, [], rfl, ⟨bk, rfl, rfl⟩, ⟨rfl, rfl⟩, rfl⟩
  have hthen : ∀ (bk b bf bl bi : Nat), _ := fun bk b bf bl bi => Cli.prog_then_x (f := MC.ends) (v := .func (.func 134) #[ptr' kb] #[]) (gm := []) (cliC_vals L kb pv) rfl (hrow bk b bf bl bi) ⟨rfl, rfl⟩
  have hrow' := hrow
  have HTH := Lib.hid hthen
  have HT := Lib.hid T
  have HK := Lib.hid hK
  have b0 := T.cell 4 0 rfl 0
  have ltb := T.lt 4 0 rfl
  have ltr := T.lt 5 0 rfl
  simp only [List.getElem?_toArray, List.getElem?_cons_zero] at b0 ltb ltr
  clear T hK hrow hthen
  have HRW := Lib.hid hrow'
  clear hrow'
  go_region_held3 (fun w' => w'.cell? ⟨bb, 0, none⟩ = some (ptr' kb))
    (first
    | exact HT2.out.cell 4 6 rfl 0
    | exact HT1.out.cell 4 4 rfl 0
    | exact (HT.out.drew.alloc (k := w.heap.size) rfl _ _).cell 4 0 rfl 0
    | exact HT.out.drew.cell 4 0 rfl 0
    | exact HT.out.cell 4 0 rfl 0
    | exact ((HT2.out.set 5 0 rfl 0 _).set 5 0 rfl 1 _).cell 4 6 rfl 0)
    (first
    | (go_at_call 164
       refine (DoesG.use (Cli.row_1 (b := w.heap.size) (o := 0) (D := #[.func (.func 211) #[] #[ptr' bb], .func (.func 200) #[ptr' kb] #[]]) rfl 2 (.inr rfl)) (HT.out.drew.alloc (k := w.heap.size) rfl _ _) [6] rfl rfl).mono ?_
       rintro e w7 ⟨gs, ⟨bf, bl, bi, rfl, rfl⟩, Ta⟩
       simp only [putG, List.set_cons_zero, List.set_cons_succ, List.cons_append, List.nil_append, List.append_nil] at Ta
       have HT1 := Lib.hid (Ta.sum (H' := [g0, g1, g2, g3, [cl bf 1 #[.func (.func 211) #[] #[ptr' bb]], cl bl 303 #[.slice (some ⟨w.heap.size, 0, none⟩) 2 2], cl bi 3 #[.int .i64 0], cl w.heap.size 1 #[.func (.func 211) #[] #[ptr' bb], .func (.func 200) #[ptr' kb] #[]]] ++ [cl bb 33 #[ptr' kb]] ++ [], [cl rb 148 #[.nilFunc, .nilFunc]], []]) (fun n ha h0 h1 h2 => by simp only [SU, ha, h0, h1, h2] <;> omega))
       clear Ta)
    | (go_at_call 191
       refine (DoesG.use (HTH.out _ _ _ _ _) HT1.out [4, 6] rfl rfl).mono ?_
       rintro e w8 ⟨gs, ⟨bs, br, rfl, rfl⟩, Ta⟩
       simp only [putG, List.set_cons_zero, List.set_cons_succ] at Ta
       have e0 := Ta.cell 5 0 rfl 0
       have e1 := Ta.cell 5 0 rfl 1
       have f0 := Ta.free 5 0 rfl 0
       have f1 := Ta.free 5 0 rfl 1
       simp only [List.getElem?_toArray, List.getElem?_cons_zero, List.getElem?_cons_succ] at e0 e1
       have HT2 := Lib.hid Ta
       clear Ta))
  all_goals
    exact HK.out _ _ _ _ _ _ _ _ _ _ _ _ ⟨bs, br, _, _, _, _, rfl, rfl, HRW.out _ _ _ _ _, ⟨rfl, rfl⟩, rfl⟩ ((((HT2.out.set 5 0 rfl 0 _).set 5 0 rfl 1 _).pick [0, 1, 2, 3, 4, 5] rfl).eq rfl)
end
end Go.Proofs.YtblhfbcodbjgcaaGreat
