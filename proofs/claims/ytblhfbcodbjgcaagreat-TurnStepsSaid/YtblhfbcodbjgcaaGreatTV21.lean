import Derived.Test.YtblhfbcodbjgcaaGreatTV20
import Derived.Test.YtblhfbcodbjgcaaGreatTV6
import Derived.Test.YtblhfbcodbjgcaaGreatTV13
namespace Go.Proofs.YtblhfbcodbjgcaaGreat
set_option linter.unusedVariables false
set_option linter.unusedSimpArgs false
open Go.RowKit Go.Shelf
def MRz (L : Lay) (kb : Nat) (pv : Value) (r : SC × ZC) : Ending → GH → Prop := MR L kb pv r.1 r.2.1 r.2.2
section
variable {L : Lay} {x : CoreS} {gK gF : List Blk} {kb : Nat} {pv : Value} {k : WorkS}
set_option maxRecDepth 100000 in
theorem mRight (hz : rep2 L kb pv k x gK gF) (hp : preMC .right (k, x)) : DoesG Tryz.prog 86 #[ptr' kb] [gK, gF] (MRz L kb pv (runC .right (k, x))) := by
  have HLN := Lib.hid hp.1.tr
  obtain ⟨d0, d1⟩ := hp.2.1.c0
  obtain ⟨q0, q1⟩ := hp.2.1.c1
  simp only at d0 d1 q0 q1 HLN
  by_cases h2 : k.kind = 2
  · by_cases h0 : k.cper = 0
    · have HZ : runC .right (k, x) = (.row1 .ends1, refuseC 1 (k, x)) := if_pos ⟨h2, .inl h0⟩
      have HA := Lib.hid (times_add_r k.cdl k.cper d0 q0 (by omega))
      have H0 := Lib.hid h0
      clear d0 d1 q0 q1 h0
      rw [HZ]
      unfold MRz
      dsimp only [refuseC]
      clear HZ hp
      obtain ⟨rv, tv, gq, gt, hr, ht, rfl, hx⟩ := hz
      intro w hw
      have T0 := TG.refl hw
      have HT := Lib.hid T0
      clear hw T0
      have HT := Lib.hid (HT.out.sum (H' := [workB kb L.fb pv rv tv k, gq, gt, gF]) (fun n ha h0 h1 h2 => by simp only [SU, ha, h0, h1, h2] <;> omega))
      have HX := Lib.hid hx
      have HR := Lib.hid hr
      have HTK := Lib.hid ht
      clear hx hr ht
      have k3 := HT.out.cell 0 0 rfl 3
      have k5 := HT.out.cell 0 0 rfl 5
      have k6 := HT.out.cell 0 0 rfl 6
      simp only [workC, List.getElem?_toArray, List.getElem?_cons_zero, List.getElem?_cons_succ] at k3 k5 k6
      rw [h2] at k3
      have lt := HT.out.lt 0 0 rfl
      simp only [] at lt
      clear h2
      go_enter Tryz.func86, Tryz.ntmps86
      go_wp2
      have HT := Lib.hid (HT.out.alloc (k := w.heap.size) rfl 148 #[.nilFunc, .nilFunc])
      go_quiet ((first | (go_at_call 132; with_reducible exact ReadsG.quiet (HA.out) HT.out _ [] rfl rfl)))
      have HT := Lib.hid (HT.out.drewN nq)
      clear k3 k5 k6 lt
      have k6 := HT.out.cell 0 0 rfl 6
      simp only [workC, List.getElem?_toArray, List.getElem?_cons_zero, List.getElem?_cons_succ] at k6
      rw [H0.out] at k6
      go_wp2_with fail
      refine (DoesG.use (workRefuse HX.out 1 HLN.out) (HT.out) [0, 3] rfl rfl).mono ?_
      rintro e w1 ⟨gs, ⟨rfl, g1, hx1, rfl⟩, Ta⟩
      simp only [PU] at Ta
      have HX := Lib.hid hx1
      clear hx1
      have HT := Lib.hid Ta
      clear Ta
      go_wp2_with fail
      refine (DoesG.use (sEnds L kb pv) (HT.out) [] rfl rfl).mono ?_
      rintro e w1 ⟨gs, ⟨m2, d2, g2, rfl, hs2, rfl⟩, Ta⟩
      simp only [PU] at Ta
      have HT := Lib.hid Ta
      clear Ta
      have e0 := HT.out.cell 4 0 rfl 0
      have fe0 := HT.out.free 4 0 rfl 0
      have e1 := HT.out.cell 4 0 rfl 1
      have fe1 := HT.out.free 4 0 rfl 1
      simp only [List.getElem?_nil, List.getElem?_toArray, List.getElem?_cons_zero, List.getElem?_cons_succ] at e0 e1
      have hv2 := (cliC_vals L kb pv).vals hs2
      obtain ⟨st1, st2⟩ := Cli.store_fv2 (P := Tryz.prog) hv2.1 hv2.2 e0 fe0 e1 fe1
      have HS := Lib.hid hs2
      clear hv2 hs2
      go_wp2
      exact bodyPost_ret (v := .agg #[_, _]) (by simp [results, Tryz.results86, go_sem, e0, e1]) rfl ⟨_, ⟨m2, d2, g2, _, _, rfl, HS.out, ⟨_, _, gq, gt, HR.out, HTK.out, rfl, HX.out⟩, rfl⟩, (((HT.out.set 4 0 rfl 0 _).set 4 0 rfl 1 _).pick [0, 1, 2, 3, 5] rfl).sum (fun n ha h0 h1 h2 => by simp only [SU, ha, h0, h1, h2] <;> omega)⟩
    · by_cases h9 : 18446744073709551616 ≤ k.cdl + k.cper
      · have HZ : runC .right (k, x) = (.row1 .ends1, refuseC 1 (k, x)) := if_pos ⟨h2, .inr h9⟩
        have HA := Lib.hid (times_over_r k.cdl k.cper d0 q0 d1 q1 h9)
        have hb : (k.cper == 0) = false := beq_eq_false_iff_ne.2 h0
        clear d0 d1 q0 q1 h0 h9
        rw [HZ]
        unfold MRz
        dsimp only [refuseC]
        clear HZ hp
        obtain ⟨rv, tv, gq, gt, hr, ht, rfl, hx⟩ := hz
        intro w hw
        have T0 := TG.refl hw
        have HT := Lib.hid T0
        clear hw T0
        have HT := Lib.hid (HT.out.sum (H' := [workB kb L.fb pv rv tv k, gq, gt, gF]) (fun n ha h0 h1 h2 => by simp only [SU, ha, h0, h1, h2] <;> omega))
        have HX := Lib.hid hx
        have HR := Lib.hid hr
        have HTK := Lib.hid ht
        clear hx hr ht
        have k3 := HT.out.cell 0 0 rfl 3
        have k5 := HT.out.cell 0 0 rfl 5
        have k6 := HT.out.cell 0 0 rfl 6
        simp only [workC, List.getElem?_toArray, List.getElem?_cons_zero, List.getElem?_cons_succ] at k3 k5 k6
        rw [h2] at k3
        have lt := HT.out.lt 0 0 rfl
        simp only [] at lt
        clear h2
        go_enter Tryz.func86, Tryz.ntmps86
        go_wp2
        have HT := Lib.hid (HT.out.alloc (k := w.heap.size) rfl 148 #[.nilFunc, .nilFunc])
        go_quiet ((first | (go_at_call 132; with_reducible exact ReadsG.quiet (HA.out) HT.out _ [] rfl rfl)))
        have HT := Lib.hid (HT.out.drewN nq)
        clear k3 k5 k6 lt
        have k6 := HT.out.cell 0 0 rfl 6
        simp only [workC, List.getElem?_toArray, List.getElem?_cons_zero, List.getElem?_cons_succ] at k6
        skip
        go_wp2_with fail
        refine (DoesG.use (workRefuse HX.out 1 HLN.out) (HT.out) [0, 3] rfl rfl).mono ?_
        rintro e w1 ⟨gs, ⟨rfl, g1, hx1, rfl⟩, Ta⟩
        simp only [PU] at Ta
        have HX := Lib.hid hx1
        clear hx1
        have HT := Lib.hid Ta
        clear Ta
        go_wp2_with fail
        refine (DoesG.use (sEnds L kb pv) (HT.out) [] rfl rfl).mono ?_
        rintro e w1 ⟨gs, ⟨m2, d2, g2, rfl, hs2, rfl⟩, Ta⟩
        simp only [PU] at Ta
        have HT := Lib.hid Ta
        clear Ta
        have e0 := HT.out.cell 4 0 rfl 0
        have fe0 := HT.out.free 4 0 rfl 0
        have e1 := HT.out.cell 4 0 rfl 1
        have fe1 := HT.out.free 4 0 rfl 1
        simp only [List.getElem?_nil, List.getElem?_toArray, List.getElem?_cons_zero, List.getElem?_cons_succ] at e0 e1
        have hv2 := (cliC_vals L kb pv).vals hs2
        obtain ⟨st1, st2⟩ := Cli.store_fv2 (P := Tryz.prog) hv2.1 hv2.2 e0 fe0 e1 fe1
        have HS := Lib.hid hs2
        clear hv2 hs2
        go_wp2
        exact bodyPost_ret (v := .agg #[_, _]) (by simp [results, Tryz.results86, go_sem, e0, e1]) rfl ⟨_, ⟨m2, d2, g2, _, _, rfl, HS.out, ⟨_, _, gq, gt, HR.out, HTK.out, rfl, HX.out⟩, rfl⟩, (((HT.out.set 4 0 rfl 0 _).set 4 0 rfl 1 _).pick [0, 1, 2, 3, 5] rfl).sum (fun n ha h0 h1 h2 => by simp only [SU, ha, h0, h1, h2] <;> omega)⟩
      · have HZ : runC .right (k, x) = (.at none .enter, (k, x)) := if_neg (show ¬ badC k by unfold badC; omega)
        have HA := Lib.hid (times_add_r k.cdl k.cper d0 q0 (by omega))
        have hb : (k.cper == 0) = false := beq_eq_false_iff_ne.2 h0
        clear d0 d1 q0 q1 h0 h9
        rw [HZ]
        unfold MRz
        dsimp only [refuseC]
        clear HZ hp
        obtain ⟨rv, tv, gq, gt, hr, ht, rfl, hx⟩ := hz
        intro w hw
        have T0 := TG.refl hw
        have HT := Lib.hid T0
        clear hw T0
        have HT := Lib.hid (HT.out.sum (H' := [workB kb L.fb pv rv tv k, gq, gt, gF]) (fun n ha h0 h1 h2 => by simp only [SU, ha, h0, h1, h2] <;> omega))
        have HX := Lib.hid hx
        have HR := Lib.hid hr
        have HTK := Lib.hid ht
        clear hx hr ht
        have k3 := HT.out.cell 0 0 rfl 3
        have k5 := HT.out.cell 0 0 rfl 5
        have k6 := HT.out.cell 0 0 rfl 6
        simp only [workC, List.getElem?_toArray, List.getElem?_cons_zero, List.getElem?_cons_succ] at k3 k5 k6
        rw [h2] at k3
        have lt := HT.out.lt 0 0 rfl
        simp only [] at lt
        clear h2
        go_enter Tryz.func86, Tryz.ntmps86
        go_wp2
        have HT := Lib.hid (HT.out.alloc (k := w.heap.size) rfl 148 #[.nilFunc, .nilFunc])
        go_quiet ((first | (go_at_call 132; with_reducible exact ReadsG.quiet (HA.out) HT.out _ [] rfl rfl)))
        have HT := Lib.hid (HT.out.drewN nq)
        clear k3 k5 k6 lt
        have k6 := HT.out.cell 0 0 rfl 6
        simp only [workC, List.getElem?_toArray, List.getElem?_cons_zero, List.getElem?_cons_succ] at k6
        go_wp2_with fail
        refine (DoesG.use (callsAt) (HT.out) [] rfl rfl).mono ?_
        rintro e w1 ⟨gs, ⟨rfl, rfl⟩, Ta⟩
        simp only [PU] at Ta
        have HT := Lib.hid Ta
        clear Ta
        have e0 := HT.out.cell 4 0 rfl 0
        have fe0 := HT.out.free 4 0 rfl 0
        have e1 := HT.out.cell 4 0 rfl 1
        have fe1 := HT.out.free 4 0 rfl 1
        simp only [List.getElem?_nil, List.getElem?_toArray, List.getElem?_cons_zero, List.getElem?_cons_succ] at e0 e1
        go_wp2
        exact bodyPost_ret (v := .agg #[.nilFunc, .func (.func 87) #[ptr' kb] #[]]) (by simp [results, Tryz.results86, go_sem, e0, e1]) rfl ⟨_, ⟨_, _, [], _, _, rfl, ⟨rfl, rfl, rfl⟩, ⟨_, _, gq, gt, HR.out, HTK.out, rfl, HX.out⟩, rfl⟩, (((HT.out.set 4 0 rfl 0 _).set 4 0 rfl 1 _).pick [0, 1, 2, 3] rfl).sum (fun n ha h0 h1 h2 => by simp only [SU, ha, h0, h1, h2] <;> omega)⟩
  · have HZ : runC .right (k, x) = (.at none .enter, (k, x)) := if_neg (fun h => h2 h.1)
    have hb : (k.kind == 2) = false := beq_eq_false_iff_ne.2 h2
    clear d0 d1 q0 q1
    rw [HZ]
    unfold MRz
    dsimp only [refuseC]
    clear HZ hp h2
    obtain ⟨rv, tv, gq, gt, hr, ht, rfl, hx⟩ := hz
    intro w hw
    have T0 := TG.refl hw
    have HT := Lib.hid T0
    clear hw T0
    have HT := Lib.hid (HT.out.sum (H' := [workB kb L.fb pv rv tv k, gq, gt, gF]) (fun n ha h0 h1 h2 => by simp only [SU, ha, h0, h1, h2] <;> omega))
    have HX := Lib.hid hx
    have HR := Lib.hid hr
    have HTK := Lib.hid ht
    clear hx hr ht
    have k3 := HT.out.cell 0 0 rfl 3
    simp only [workC, List.getElem?_toArray, List.getElem?_cons_zero, List.getElem?_cons_succ] at k3
    have lt := HT.out.lt 0 0 rfl
    simp only [] at lt
    go_enter Tryz.func86, Tryz.ntmps86
    go_wp2_with fail
    have HT := Lib.hid (HT.out.alloc (k := w.heap.size) rfl 148 #[.nilFunc, .nilFunc])
    clear k3 lt
    go_wp2_with fail
    refine (DoesG.use (callsAt) (HT.out) [] rfl rfl).mono ?_
    rintro e w1 ⟨gs, ⟨rfl, rfl⟩, Ta⟩
    simp only [PU] at Ta
    have HT := Lib.hid Ta
    clear Ta
    have e0 := HT.out.cell 4 0 rfl 0
    have fe0 := HT.out.free 4 0 rfl 0
    have e1 := HT.out.cell 4 0 rfl 1
    have fe1 := HT.out.free 4 0 rfl 1
    simp only [List.getElem?_nil, List.getElem?_toArray, List.getElem?_cons_zero, List.getElem?_cons_succ] at e0 e1
    go_wp2
    exact bodyPost_ret (v := .agg #[.nilFunc, .func (.func 87) #[ptr' kb] #[]]) (by simp [results, Tryz.results86, go_sem, e0, e1]) rfl ⟨_, ⟨_, _, [], _, _, rfl, ⟨rfl, rfl, rfl⟩, ⟨_, _, gq, gt, HR.out, HTK.out, rfl, HX.out⟩, rfl⟩, (((HT.out.set 4 0 rfl 0 _).set 4 0 rfl 1 _).pick [0, 1, 2, 3] rfl).sum (fun n ha h0 h1 h2 => by simp only [SU, ha, h0, h1, h2] <;> omega)⟩
set_option maxRecDepth 100000 in
theorem mGate (hz : rep2 L kb pv k x gK gF) (hp : preMC .gate (k, x)) : DoesG Tryz.prog 88 #[ptr' kb] [gK, gF] (MRz L kb pv (runC .gate (k, x))) := by
  have HLN := Lib.hid hp.1.tr
  simp only at HLN
  cases hc : x.f.closed with
  | true =>
    have HZ : runC .gate (k, x) = (overC k, refuseC 3 (k, x)) := if_pos hc
    rw [HZ]
    unfold MRz
    dsimp only [refuseC]
    clear HZ hp
    obtain ⟨rv, tv, gq, gt, hr, ht, rfl, hx⟩ := hz
    intro w hw
    have T0 := TG.refl hw
    have HT := Lib.hid T0
    clear hw T0
    have HT := Lib.hid (HT.out.sum (H' := [workB kb L.fb pv rv tv k, gq, gt, gF]) (fun n ha h0 h1 h2 => by simp only [SU, ha, h0, h1, h2] <;> omega))
    have HX := Lib.hid hx
    have HR := Lib.hid hr
    have HTK := Lib.hid ht
    clear hx hr ht
    have k0 := HT.out.cell 0 0 rfl 0
    simp only [workC, List.getElem?_toArray, List.getElem?_cons_zero, List.getElem?_cons_succ] at k0
    have lt := HT.out.lt 0 0 rfl
    simp only [] at lt
    have HCL := Lib.hid (coreClosed HX.out)
    rw [hc] at HCL
    clear hc
    go_enter Tryz.func88, Tryz.ntmps88
    go_wp2_with fail
    refine (DoesG.use (HCL.out) (HT.out.alloc (k := w.heap.size) rfl _ _) [3] rfl rfl).mono ?_
    rintro e w1 ⟨gs, ⟨rfl, g1, hx1, rfl⟩, Ta⟩
    simp only [PU] at Ta
    have HX := Lib.hid hx1
    clear hx1 k0 lt
    have HT := Lib.hid Ta
    clear Ta
    have k0 := HT.out.cell 0 0 rfl 0
    have k3 := HT.out.cell 0 0 rfl 3
    simp only [workC, List.getElem?_toArray, List.getElem?_cons_zero, List.getElem?_cons_succ] at k0 k3
    clear k0 k3
    go_wp2_with fail
    refine (DoesG.use (workRefuse HX.out 3 HLN.out) (HT.out) [0, 3] rfl rfl).mono ?_
    rintro e w1 ⟨gs, ⟨rfl, g1, hx1, rfl⟩, Ta⟩
    simp only [PU] at Ta
    have HX := Lib.hid hx1
    clear hx1
    have HT := Lib.hid Ta
    clear Ta
    go_wp2_with fail
    refine (DoesG.use (sOver) (HT.out) [0] rfl rfl).mono ?_
    rintro e w1 ⟨gs, ⟨m2, d2, g2, rfl, hs2, rfl⟩, Ta⟩
    simp only [PU] at Ta
    have HT := Lib.hid Ta
    clear Ta
    have e0 := HT.out.cell 4 0 rfl 0
    have fe0 := HT.out.free 4 0 rfl 0
    have e1 := HT.out.cell 4 0 rfl 1
    have fe1 := HT.out.free 4 0 rfl 1
    simp only [List.getElem?_nil, List.getElem?_toArray, List.getElem?_cons_zero, List.getElem?_cons_succ] at e0 e1
    have hv2 := (cliC_vals L kb pv).vals hs2
    obtain ⟨st1, st2⟩ := Cli.store_fv2 (P := Tryz.prog) hv2.1 hv2.2 e0 fe0 e1 fe1
    have HS := Lib.hid hs2
    clear hv2 hs2
    go_wp2
    exact bodyPost_ret (v := .agg #[_, _]) (by simp [results, Tryz.results88, go_sem, e0, e1]) rfl ⟨_, ⟨m2, d2, g2, _, _, rfl, HS.out, ⟨_, _, gq, gt, HR.out, HTK.out, rfl, HX.out⟩, rfl⟩, (((HT.out.set 4 0 rfl 0 _).set 4 0 rfl 1 _).pick [0, 1, 2, 3, 5] rfl).sum (fun n ha h0 h1 h2 => by simp only [SU, ha, h0, h1, h2] <;> omega)⟩
  | false =>
    by_cases h2 : k.kind = 2
    · have HZ : runC .gate (k, x) = (.at none .asks, ({ k with rq := some ⟨k.period, 0, 0, 0, 0, 0⟩ }, x)) := (if_neg (by simp [hc])).trans (if_pos (.inr h2))
      rw [HZ]
      unfold MRz
      dsimp only [refuseC]
      clear HZ hp
      obtain ⟨rv, tv, gq, gt, hr, ht, rfl, hx⟩ := hz
      intro w hw
      have T0 := TG.refl hw
      have HT := Lib.hid T0
      clear hw T0
      have HT := Lib.hid (HT.out.sum (H' := [workB kb L.fb pv rv tv k, gq, gt, gF]) (fun n ha h0 h1 h2 => by simp only [SU, ha, h0, h1, h2] <;> omega))
      have HX := Lib.hid hx
      have HR := Lib.hid hr
      have HTK := Lib.hid ht
      clear hx hr ht
      have k0 := HT.out.cell 0 0 rfl 0
      simp only [workC, List.getElem?_toArray, List.getElem?_cons_zero, List.getElem?_cons_succ] at k0
      have lt := HT.out.lt 0 0 rfl
      simp only [] at lt
      have HCL := Lib.hid (coreClosed HX.out)
      rw [hc] at HCL
      clear hc
      go_enter Tryz.func88, Tryz.ntmps88
      go_wp2_with fail
      refine (DoesG.use (HCL.out) (HT.out.alloc (k := w.heap.size) rfl _ _) [3] rfl rfl).mono ?_
      rintro e w1 ⟨gs, ⟨rfl, g1, hx1, rfl⟩, Ta⟩
      simp only [PU] at Ta
      have HX := Lib.hid hx1
      clear hx1 k0 lt
      have HT := Lib.hid Ta
      clear Ta
      have k0 := HT.out.cell 0 0 rfl 0
      have k3 := HT.out.cell 0 0 rfl 3
      simp only [workC, List.getElem?_toArray, List.getElem?_cons_zero, List.getElem?_cons_succ] at k0 k3
      rw [h2] at k3
      go_wp2_with fail
      refine (ReadsG.use (coreSlab_r HX.out) (HT.out) [3] rfl rfl).mono ?_
      rintro e w1 ⟨rfl, mq, rfl⟩
      have HT := Lib.hid (HT.out.drewN mq)
      generalize World.drewN _ _ = wq at HT ⊢
      go_wp2_with fail
      refine (ReadsG.use (workPeriod_r (L := L)) (HT.out) [0] rfl rfl).mono ?_
      rintro e w1 ⟨rfl, mq, rfl⟩
      have HT := Lib.hid (HT.out.drewN mq)
      generalize World.drewN _ _ = wq at HT ⊢
      go_wp2_with fail
      refine (DoesG.use (slabBegin_g _ _) (HT.out) [] rfl rfl).mono ?_
      rintro e w1 ⟨gs, ⟨qb, rfl, rfl⟩, Ta⟩
      simp only [PU] at Ta
      have HT := Lib.hid Ta
      clear Ta
      have k13 := HT.out.cell 0 0 rfl 13
      have fk13 := HT.out.free 0 0 rfl 13
      simp only [workC, List.getElem?_toArray, List.getElem?_cons_zero, List.getElem?_cons_succ] at k13
      go_wp2_with fail
      have HT := Lib.hid ((HT.out.set 0 0 rfl 13 (ptr' qb)).eq (H' := [workB kb L.fb pv (ptr' qb) tv { k with rq := some ⟨k.period, 0, 0, 0, 0, 0⟩ }, gq, gt, g1, [cl w.heap.size 148 #[.nilFunc, .nilFunc]], reqG qb L.p.sb ⟨k.period, 0, 0, 0, 0, 0⟩]) rfl)
      clear k0 k3 k13 fk13 h2
      go_wp2_with fail
      refine (DoesG.use (callsAt) (HT.out) [] rfl rfl).mono ?_
      rintro e w1 ⟨gs, ⟨rfl, rfl⟩, Ta⟩
      simp only [PU] at Ta
      have HT := Lib.hid Ta
      clear Ta
      have e0 := HT.out.cell 4 0 rfl 0
      have fe0 := HT.out.free 4 0 rfl 0
      have e1 := HT.out.cell 4 0 rfl 1
      have fe1 := HT.out.free 4 0 rfl 1
      simp only [List.getElem?_nil, List.getElem?_toArray, List.getElem?_cons_zero, List.getElem?_cons_succ] at e0 e1
      go_wp2
      exact bodyPost_ret (v := .agg #[.nilFunc, .func (.func 140) #[ptr' kb] #[]]) (by simp [results, Tryz.results88, go_sem, e0, e1]) rfl ⟨_, ⟨_, _, [], _, _, rfl, ⟨rfl, rfl, rfl⟩, ⟨_, _, (reqG qb L.p.sb ⟨k.period, 0, 0, 0, 0, 0⟩), gt, ⟨qb, rfl, rfl⟩, HTK.out, rfl, HX.out⟩, rfl⟩, (((HT.out.set 4 0 rfl 0 _).set 4 0 rfl 1 _).pick [0, 5, 2, 3] rfl).sum (fun n ha h0 h1 h2 => by simp only [SU, ha, h0, h1, h2] <;> omega)⟩
    · by_cases h1 : k.kind = 1
      · have HZ : runC .gate (k, x) = (.at none .asks, ({ k with rq := some ⟨k.period, 0, 0, 0, 0, 0⟩ }, x)) := (if_neg (by simp [hc])).trans (if_pos (.inl h1))
        rw [HZ]
        unfold MRz
        dsimp only [refuseC]
        clear HZ hp
        obtain ⟨rv, tv, gq, gt, hr, ht, rfl, hx⟩ := hz
        intro w hw
        have T0 := TG.refl hw
        have HT := Lib.hid T0
        clear hw T0
        have HT := Lib.hid (HT.out.sum (H' := [workB kb L.fb pv rv tv k, gq, gt, gF]) (fun n ha h0 h1 h2 => by simp only [SU, ha, h0, h1, h2] <;> omega))
        have HX := Lib.hid hx
        have HR := Lib.hid hr
        have HTK := Lib.hid ht
        clear hx hr ht
        have k0 := HT.out.cell 0 0 rfl 0
        simp only [workC, List.getElem?_toArray, List.getElem?_cons_zero, List.getElem?_cons_succ] at k0
        have lt := HT.out.lt 0 0 rfl
        simp only [] at lt
        have HCL := Lib.hid (coreClosed HX.out)
        rw [hc] at HCL
        clear hc
        go_enter Tryz.func88, Tryz.ntmps88
        go_wp2_with fail
        refine (DoesG.use (HCL.out) (HT.out.alloc (k := w.heap.size) rfl _ _) [3] rfl rfl).mono ?_
        rintro e w1 ⟨gs, ⟨rfl, g1, hx1, rfl⟩, Ta⟩
        simp only [PU] at Ta
        have HX := Lib.hid hx1
        clear hx1 k0 lt
        have HT := Lib.hid Ta
        clear Ta
        have k0 := HT.out.cell 0 0 rfl 0
        have k3 := HT.out.cell 0 0 rfl 3
        simp only [workC, List.getElem?_toArray, List.getElem?_cons_zero, List.getElem?_cons_succ] at k0 k3
        have h2 := h1
        clear h1
        rw [h2] at k3
        go_wp2_with fail
        refine (ReadsG.use (coreSlab_r HX.out) (HT.out) [3] rfl rfl).mono ?_
        rintro e w1 ⟨rfl, mq, rfl⟩
        have HT := Lib.hid (HT.out.drewN mq)
        generalize World.drewN _ _ = wq at HT ⊢
        go_wp2_with fail
        refine (ReadsG.use (workPeriod_r (L := L)) (HT.out) [0] rfl rfl).mono ?_
        rintro e w1 ⟨rfl, mq, rfl⟩
        have HT := Lib.hid (HT.out.drewN mq)
        generalize World.drewN _ _ = wq at HT ⊢
        go_wp2_with fail
        refine (DoesG.use (slabBegin_g _ _) (HT.out) [] rfl rfl).mono ?_
        rintro e w1 ⟨gs, ⟨qb, rfl, rfl⟩, Ta⟩
        simp only [PU] at Ta
        have HT := Lib.hid Ta
        clear Ta
        have k13 := HT.out.cell 0 0 rfl 13
        have fk13 := HT.out.free 0 0 rfl 13
        simp only [workC, List.getElem?_toArray, List.getElem?_cons_zero, List.getElem?_cons_succ] at k13
        go_wp2_with fail
        have HT := Lib.hid ((HT.out.set 0 0 rfl 13 (ptr' qb)).eq (H' := [workB kb L.fb pv (ptr' qb) tv { k with rq := some ⟨k.period, 0, 0, 0, 0, 0⟩ }, gq, gt, g1, [cl w.heap.size 148 #[.nilFunc, .nilFunc]], reqG qb L.p.sb ⟨k.period, 0, 0, 0, 0, 0⟩]) rfl)
        clear k0 k3 k13 fk13 h2
        go_wp2_with fail
        refine (DoesG.use (callsAt) (HT.out) [] rfl rfl).mono ?_
        rintro e w1 ⟨gs, ⟨rfl, rfl⟩, Ta⟩
        simp only [PU] at Ta
        have HT := Lib.hid Ta
        clear Ta
        have e0 := HT.out.cell 4 0 rfl 0
        have fe0 := HT.out.free 4 0 rfl 0
        have e1 := HT.out.cell 4 0 rfl 1
        have fe1 := HT.out.free 4 0 rfl 1
        simp only [List.getElem?_nil, List.getElem?_toArray, List.getElem?_cons_zero, List.getElem?_cons_succ] at e0 e1
        go_wp2
        exact bodyPost_ret (v := .agg #[.nilFunc, .func (.func 140) #[ptr' kb] #[]]) (by simp [results, Tryz.results88, go_sem, e0, e1]) rfl ⟨_, ⟨_, _, [], _, _, rfl, ⟨rfl, rfl, rfl⟩, ⟨_, _, (reqG qb L.p.sb ⟨k.period, 0, 0, 0, 0, 0⟩), gt, ⟨qb, rfl, rfl⟩, HTK.out, rfl, HX.out⟩, rfl⟩, (((HT.out.set 4 0 rfl 0 _).set 4 0 rfl 1 _).pick [0, 5, 2, 3] rfl).sum (fun n ha h0 h1 h2 => by simp only [SU, ha, h0, h1, h2] <;> omega)⟩
      · have HZ : runC .gate (k, x) = (.at none .looks, (k, x)) := (if_neg (by simp [hc])).trans (if_neg (by simp; omega))
        have hb1 : (k.kind == 1) = false := beq_eq_false_iff_ne.2 h1
        have hb2 : (k.kind == 2) = false := beq_eq_false_iff_ne.2 h2
        clear h1 h2
        rw [HZ]
        unfold MRz
        dsimp only [refuseC]
        clear HZ hp
        obtain ⟨rv, tv, gq, gt, hr, ht, rfl, hx⟩ := hz
        intro w hw
        have T0 := TG.refl hw
        have HT := Lib.hid T0
        clear hw T0
        have HT := Lib.hid (HT.out.sum (H' := [workB kb L.fb pv rv tv k, gq, gt, gF]) (fun n ha h0 h1 h2 => by simp only [SU, ha, h0, h1, h2] <;> omega))
        have HX := Lib.hid hx
        have HR := Lib.hid hr
        have HTK := Lib.hid ht
        clear hx hr ht
        have k0 := HT.out.cell 0 0 rfl 0
        simp only [workC, List.getElem?_toArray, List.getElem?_cons_zero, List.getElem?_cons_succ] at k0
        have lt := HT.out.lt 0 0 rfl
        simp only [] at lt
        have HCL := Lib.hid (coreClosed HX.out)
        rw [hc] at HCL
        clear hc
        go_enter Tryz.func88, Tryz.ntmps88
        go_wp2_with fail
        refine (DoesG.use (HCL.out) (HT.out.alloc (k := w.heap.size) rfl _ _) [3] rfl rfl).mono ?_
        rintro e w1 ⟨gs, ⟨rfl, g1, hx1, rfl⟩, Ta⟩
        simp only [PU] at Ta
        have HX := Lib.hid hx1
        clear hx1 k0 lt
        have HT := Lib.hid Ta
        clear Ta
        have k0 := HT.out.cell 0 0 rfl 0
        have k3 := HT.out.cell 0 0 rfl 3
        simp only [workC, List.getElem?_toArray, List.getElem?_cons_zero, List.getElem?_cons_succ] at k0 k3
        go_wp2_with fail
        refine (DoesG.use (callsAt) (HT.out) [] rfl rfl).mono ?_
        rintro e w1 ⟨gs, ⟨rfl, rfl⟩, Ta⟩
        simp only [PU] at Ta
        have HT := Lib.hid Ta
        clear Ta
        have e0 := HT.out.cell 4 0 rfl 0
        have fe0 := HT.out.free 4 0 rfl 0
        have e1 := HT.out.cell 4 0 rfl 1
        have fe1 := HT.out.free 4 0 rfl 1
        simp only [List.getElem?_nil, List.getElem?_toArray, List.getElem?_cons_zero, List.getElem?_cons_succ] at e0 e1
        go_wp2
        exact bodyPost_ret (v := .agg #[.nilFunc, .func (.func 141) #[ptr' kb] #[]]) (by simp [results, Tryz.results88, go_sem, e0, e1]) rfl ⟨_, ⟨_, _, [], _, _, rfl, ⟨rfl, rfl, rfl⟩, ⟨_, _, gq, gt, HR.out, HTK.out, rfl, HX.out⟩, rfl⟩, (((HT.out.set 4 0 rfl 0 _).set 4 0 rfl 1 _).pick [0, 1, 2, 3] rfl).sum (fun n ha h0 h1 h2 => by simp only [SU, ha, h0, h1, h2] <;> omega)⟩
end
end Go.Proofs.YtblhfbcodbjgcaaGreat

namespace Go.Proofs.YtblhfbcodbjgcaaGreat
set_option linter.unusedVariables false
set_option linter.unusedSimpArgs false
open Go.RowKit Go.Shelf
theorem stepR_id {s : SlabS} {q : Req} (hs : SlabOk s) (hq : ReqOk s.recs.length q) (h0 : q.st = 0) (h2 : (stepR s q).2.st = 2) : 0 ≤ (stepR s q).2.id ∧ (stepR s q).2.id < 18446744073709551616 := by
  unfold stepR at h2 ⊢
  rw [if_neg (by omega)] at h2 ⊢
  split at h2
  · unfold lookR at h2
    split at h2 <;> simp [h0] at h2
  · split at h2
    · unfold moreR at h2
      split at h2 <;> simp [h0] at h2
    · next h3 h4 =>
      rw [if_neg h3, if_neg h4]
      unfold seekR at h2 ⊢
      simp only at h2 ⊢
      split at h2
      · next h5 =>
        rw [if_pos h5]
        have hsl : q.slot.toNat < s.recs.length := by have := hq.slot0; have := hq.slot1; omega
        have hr := hs.recs _ (List.getElem_mem hsl)
        have e : s.recs.getD q.slot.toNat Rec.zero = s.recs[q.slot.toNat] := by simp [hsl]
        rw [e]
        have hg := (ok_bd _ hr.w0 hr.ok).2.2.2
        have g0 := hr.g0
        have g1 := hr.g1
        have a := hq.slot0
        have b := hq.slot1
        have c := hs.n1
        generalize s.recs[q.slot.toNat] = r at *
        simp only
        omega
      · simp [h0] at h2
set_option maxRecDepth 100000 in
theorem shBegin_g (b rb lb wb : Nat) : DoesG Tryz.prog 172 #[ptr' b] [shardB b rb lb wb] fun e gs => ∃ tb, e = .returned (ptr' tb) ∧ gs = [shardB b rb lb wb, tickG tb rb newTick] := by
  intro w hw
  have T0 := TG.refl hw
  have HT := Lib.hid T0
  clear hw T0
  go_enter Tryz.func172, Tryz.ntmps172
  go_wp2_with fail
  refine (DoesG.use (shardParts_g b rb lb wb) (HT.out) [0] rfl rfl).mono ?_
  rintro e w1 ⟨gs, ⟨rfl, rfl⟩, Ta⟩
  simp only [PU] at Ta
  have HT := Lib.hid Ta
  clear Ta
  have hf := fun w => (inner_field (ptr' rb) (ptr' lb) (ptr' wb) w).1
  go_wp2_with fail
  refine (DoesG.use (ringBegin_g rb) (HT.out) [] rfl rfl).mono ?_
  rintro e w1 ⟨gs, ⟨tb, rfl, rfl⟩, Ta⟩
  simp only [PU] at Ta
  have HT := Lib.hid Ta
  clear Ta
  go_wp2
  go_ret
  exact ⟨_, ⟨_, rfl, rfl⟩, HT.out⟩
theorem coreBegin {L : Lay} {x : CoreS} {g : List Blk} (hx : isCore L x g) {i : Nat} {q : ShP} {s : ShardS} (hq : L.qs[i]? = some q) (hs : x.shs[i]? = some s) : DoesG Tryz.prog 172 #[ptr' q.b] [g] fun e gs => ∃ tb, e = .returned (ptr' tb) ∧ ∃ g', isCore L x g' ∧ gs = [g', tickG tb q.rb newTick] := by
  obtain ⟨tr, gF, gS, gR, gH, gT, h1, h2, h3, h4, h5, h6, rfl⟩ := hx
  have hz : (L.qs.zip x.shs)[i]? = some (q, s) := zip_at hq hs
  obtain ⟨u, y, ⟨gr, gl, hr, hl, rfl⟩, hp, hback⟩ := h5.out hz
  intro w hw
  have T := (((TG.refl hw).sum (H' := [gF ++ (gS ++ (gR ++ gT)), gH]) (fun n ha h0 h1 h2 => by simp only [SU, ha, h0, h1, h2] <;> omega)).permAt 1 rfl hp).sum (H' := [gF ++ (gS ++ (gR ++ gT)), shardB q.b q.rb q.lb q.wb, gr, gl, y]) (fun n ha h0 h1 h2 => by simp only [SU, ha, h0, h1, h2] <;> omega)
  refine (DoesG.use (shBegin_g q.b q.rb q.lb q.wb) T [1] rfl rfl).mono ?_
  rintro e w' ⟨gs, ⟨tb, he, rfl⟩, T'⟩
  obtain ⟨gH', hf, hp'⟩ := hback (q, s) (shardB q.b q.rb q.lb q.wb ++ (gr ++ gl)) ⟨gr, gl, hr, hl, rfl⟩
  rw [fam_set_same hz] at hf
  refine ⟨_, ⟨tb, he, _, ⟨tr, gF, gS, gR, gH', gT, h1, h2, h3, h4, hf, h6, rfl⟩, rfl⟩, ?_⟩
  exact ((TG.sum (H := [gF ++ (gS ++ (gR ++ gT)), shardB q.b q.rb q.lb q.wb, gr, gl, y, tickG tb q.rb newTick]) (H' := [gF ++ (gS ++ (gR ++ gT)), shardB q.b q.rb q.lb q.wb ++ (gr ++ gl) ++ y, tickG tb q.rb newTick]) T' (fun n ha h0 h1 h2 => by simp only [SU, ha, h0, h1, h2] <;> omega)).permAt 1 rfl hp').sum (fun n ha h0 h1 h2 => by simp only [SU, ha, h0, h1, h2] <;> omega)
theorem home_val {L : Lay} {x : CoreS} {g : List Blk} (hx : isCore L x g) (hn : 1 ≤ x.shs.length) {slot : Int} (h0 : 0 ≤ slot) : ∃ q s, L.qs[homeC slot x]? = some q ∧ x.shs[homeC slot x]? = some s ∧ homeV (L.qs.map ShP.b) slot = ptr' q.b := by
  obtain ⟨tr, gF, gS, gR, gH, gT, h1, h2, h3, h4, h5, h6, rfl⟩ := hx
  have a : 0 ≤ slot % (x.shs.length : Int) := Int.emod_nonneg _ (by omega)
  have b : slot % (x.shs.length : Int) < x.shs.length := Int.emod_lt_of_pos _ (by omega)
  have hi : homeC slot x < x.shs.length := by unfold homeC; omega
  have hi' : homeC slot x < L.qs.length := by omega
  refine ⟨L.qs[homeC slot x], x.shs[homeC slot x], List.getElem?_eq_getElem hi', List.getElem?_eq_getElem hi, ?_⟩
  unfold homeV
  rw [if_pos h0, List.length_map, h4]
  show ptr' ((L.qs.map ShP.b).getD (homeC slot x) 0) = _
  rw [List.getD_eq_getElem?_getD, List.getElem?_map, List.getElem?_eq_getElem hi']
  rfl
theorem isCore.len {L : Lay} {x : CoreS} {g : List Blk} (hx : isCore L x g) : L.qs.length = x.shs.length := by
  obtain ⟨tr, gF, gS, gR, gH, gT, h1, h2, h3, h4, _⟩ := hx
  exact h4
section
variable {L : Lay} {x : CoreS} {gK gF : List Blk} {kb : Nat} {pv : Value} {k : WorkS}
set_option maxRecDepth 100000 in
theorem mAsks (hz : rep2 L kb pv k x gK gF) (hp : preMC .asks (k, x)) : DoesG Tryz.prog 140 #[ptr' kb] [gK, gF] (MRz L kb pv (runC .asks (k, x))) := by
  obtain ⟨hok, hwk, hpr, hq0⟩ := hp
  simp only at hok hwk hpr hq0
  obtain ⟨q, hrqe⟩ := Option.isSome_iff_exists.1 hpr
  have hrq := hwk.rq q hrqe
  have hq0 := hq0 q hrqe
  have hidb := stepR_id hok.slab hrq hq0
  have HLN := Lib.hid hok.tr
  have hsh := hok.sh
  have hE : runC .asks (k, x) = asksC (k, x) q := by show (match k.rq with | none => _ | some q => _) = _; rw [hrqe]
  rw [hE]
  unfold rep2 at hz
  rw [hrqe] at hz
  clear hE hwk hpr hq0 hrqe
  obtain ⟨s2, q2, hr2⟩ : ∃ s2 q2, stepR x.slab q = (s2, q2) := ⟨_, _, rfl⟩
  rw [hr2] at hidb
  simp only at hidb
  by_cases h1 : q2.st = 1
  · have hst : (stepR x.slab q).2.st = 1 := by rw [hr2]; exact h1
    have HZ : asksC (k, x) q = (leavesC, refuseC 2 ({ k with rq := some q2 }, { x with slab := s2 })) := by unfold asksC; simp only [hr2]; rw [if_pos h1]
    clear h1 hidb hsh
    rw [HZ]
    unfold MRz
    dsimp only [refuseC]
    clear HZ
    obtain ⟨rv, tv, gq, gt, ⟨qb, rfl, rfl⟩, ht, rfl, hx⟩ := hz
    intro w hw
    have T0 := TG.refl hw
    have HT := Lib.hid T0
    clear hw T0
    have HT := Lib.hid (HT.out.sum (H' := [workB kb L.fb pv (ptr' qb) tv k, reqG qb L.p.sb q, gt, gF]) (fun n ha h0 h1 h2 => by simp only [SU, ha, h0, h1, h2] <;> omega))
    have HX := Lib.hid hx
    have HTK := Lib.hid ht
    have HRQ := Lib.hid (coreReq hx qb q hok.slab hrq)
    rw [hst, hr2] at HRQ
    clear hx ht
    have k13 := HT.out.cell 0 0 rfl 13
    simp only [workC, List.getElem?_toArray, List.getElem?_cons_zero, List.getElem?_cons_succ] at k13
    have lt := HT.out.lt 0 0 rfl
    simp only [] at lt
    clear hst hok hrq hr2
    go_enter Tryz.func140, Tryz.ntmps140
    go_wp2_with fail
    refine (DoesG.use (HRQ.out) (HT.out.alloc (k := w.heap.size) rfl _ _) [1, 3] rfl rfl).mono ?_
    rintro e w1 ⟨gs, ⟨rfl, g1, hx1, rfl⟩, Ta⟩
    simp only [PU] at Ta
    have HX := Lib.hid hx1
    clear hx1 k13 lt
    have HT := Lib.hid Ta
    clear Ta
    have HT := Lib.hid (HT.out.eq (H' := [workB kb L.fb pv (ptr' qb) tv { k with rq := some q2 }, reqG qb L.p.sb q2, gt, g1, [cl w.heap.size 148 #[.nilFunc, .nilFunc]]]) rfl)
    go_wp2_with fail
    refine (DoesG.use (workRefuse HX.out 2 HLN.out) (HT.out) [0, 3] rfl rfl).mono ?_
    rintro e w1 ⟨gs, ⟨rfl, g1, hx1, rfl⟩, Ta⟩
    simp only [PU] at Ta
    have HX := Lib.hid hx1
    clear hx1
    have HT := Lib.hid Ta
    clear Ta
    go_wp2_with fail
    refine (DoesG.use (sLeaves L kb pv) (HT.out) [] rfl rfl).mono ?_
    rintro e w1 ⟨gs, ⟨m2, d2, g2, rfl, hs2, rfl⟩, Ta⟩
    simp only [PU] at Ta
    have HT := Lib.hid Ta
    clear Ta
    have e0 := HT.out.cell 4 0 rfl 0
    have fe0 := HT.out.free 4 0 rfl 0
    have e1 := HT.out.cell 4 0 rfl 1
    have fe1 := HT.out.free 4 0 rfl 1
    simp only [List.getElem?_nil, List.getElem?_toArray, List.getElem?_cons_zero, List.getElem?_cons_succ] at e0 e1
    have hv2 := (cliC_vals L kb pv).vals hs2
    obtain ⟨st1, st2⟩ := Cli.store_fv2 (P := Tryz.prog) hv2.1 hv2.2 e0 fe0 e1 fe1
    have HS := Lib.hid hs2
    clear hv2 hs2
    go_wp2
    exact bodyPost_ret (v := .agg #[_, _]) (by simp [results, Tryz.results140, go_sem, e0, e1]) rfl ⟨_, ⟨m2, d2, g2, _, _, rfl, HS.out, ⟨_, _, (reqG qb L.p.sb q2), gt, ⟨qb, rfl, rfl⟩, HTK.out, rfl, HX.out⟩, rfl⟩, (((HT.out.set 4 0 rfl 0 _).set 4 0 rfl 1 _).pick [0, 1, 2, 3, 5] rfl).sum (fun n ha h0 h1 h2 => by simp only [SU, ha, h0, h1, h2] <;> omega)⟩
  · by_cases h2 : q2.st = 2
    · obtain ⟨id0, id1⟩ := hidb h2
      have hst : (stepR x.slab q).2.st = 2 := by rw [hr2]; exact h2
      have HZ : asksC (k, x) q = (.at none .queues, ({ k with rq := some q2, id := q2.id, slot := q2.id % 64, tk := some (homeC (q2.id % 64) x, newTick) }, { x with slab := s2 })) := by unfold asksC; simp only [hr2]; rw [if_neg h1, if_pos h2]
      have HID := Lib.hid (reqId_g (qb := 0) L.p.sb q2)
      have HQ2 := Lib.hid h2
      have HSH := Lib.hid hsh
      clear h1 hidb hsh h2 HID
      rw [HZ]
      unfold MRz
      dsimp only [refuseC]
      clear HZ
      obtain ⟨rv, tv, gq, gt, ⟨qb, rfl, rfl⟩, ht, rfl, hx⟩ := hz
      intro w hw
      have T0 := TG.refl hw
      have HT := Lib.hid T0
      clear hw T0
      have HT := Lib.hid (HT.out.sum (H' := [workB kb L.fb pv (ptr' qb) tv k, reqG qb L.p.sb q, gt, gF]) (fun n ha h0 h1 h2 => by simp only [SU, ha, h0, h1, h2] <;> omega))
      have HX := Lib.hid hx
      have HTK := Lib.hid ht
      have HRQ := Lib.hid (coreReq hx qb q hok.slab hrq)
      rw [hst, hr2] at HRQ
      clear hx ht
      have k13 := HT.out.cell 0 0 rfl 13
      simp only [workC, List.getElem?_toArray, List.getElem?_cons_zero, List.getElem?_cons_succ] at k13
      have lt := HT.out.lt 0 0 rfl
      simp only [] at lt
      clear hst hok hrq hr2
      go_enter Tryz.func140, Tryz.ntmps140
      go_wp2_with fail
      refine (DoesG.use (HRQ.out) (HT.out.alloc (k := w.heap.size) rfl _ _) [1, 3] rfl rfl).mono ?_
      rintro e w1 ⟨gs, ⟨rfl, g1, hx1, rfl⟩, Ta⟩
      simp only [PU] at Ta
      have HX := Lib.hid hx1
      clear hx1 k13 lt
      have HT := Lib.hid Ta
      clear Ta
      have HT := Lib.hid (HT.out.eq (H' := [workB kb L.fb pv (ptr' qb) tv { k with rq := some q2 }, reqG qb L.p.sb q2, gt, g1, [cl w.heap.size 148 #[.nilFunc, .nilFunc]]]) rfl)
      have k13 := HT.out.cell 0 0 rfl 13
      simp only [workC, List.getElem?_toArray, List.getElem?_cons_zero, List.getElem?_cons_succ] at k13
      have HID := Lib.hid (reqId_g qb L.p.sb q2)
      rw [if_pos HQ2.out, if_pos HQ2.out] at HID
      go_wp2_with fail
      refine (DoesG.use (HID.out) (HT.out) [1] rfl rfl).mono ?_
      rintro e w1 ⟨gs, ⟨rfl, rfl⟩, Ta⟩
      simp only [PU] at Ta
      have HT := Lib.hid Ta
      clear Ta
      clear k13
      have k15 := HT.out.cell 0 0 rfl 15
      have fk15 := HT.out.free 0 0 rfl 15
      have k16 := HT.out.cell 0 0 rfl 16
      have fk16 := HT.out.free 0 0 rfl 16
      simp only [workC, List.getElem?_toArray, List.getElem?_cons_zero, List.getElem?_cons_succ] at k15 k16
      have i0 : 0 ≤ q2.id % 64 := by omega
      have i1 : q2.id % 64 < 64 := by omega
      go_wp2
      have HT := Lib.hid (((HT.out.set 0 0 rfl 15 (.int .u64 q2.id)).set 0 0 rfl 16 (.int .i64 (q2.id % 64))).eq (H' := [workB kb L.fb pv (ptr' qb) tv { k with rq := some q2, id := q2.id, slot := q2.id % 64 }, reqG qb L.p.sb q2, gt, g1, [cl w.heap.size 148 #[.nilFunc, .nilFunc]]]) rfl)
      clear k15 k16 fk15 fk16
      generalize World.setCell _ _ _ = w2 at HT ⊢
      obtain ⟨qs, ss, hqs, hss, hv⟩ := home_val HX.out HSH.out i0
      have HH := Lib.hid (coreHome_r HX.out (by rw [HX.out.len]; exact HSH.out) (q2.id % 64))
      rw [hv] at HH
      have HQS := Lib.hid hqs
      have HBG := Lib.hid (coreBegin HX.out hqs hss)
      clear hqs hss hv
      have k0 := HT.out.cell 0 0 rfl 0
      have k16 := HT.out.cell 0 0 rfl 16
      simp only [workC, List.getElem?_toArray, List.getElem?_cons_zero, List.getElem?_cons_succ] at k0 k16
      refine wp_region_mix1 10 (by kernel_rfl) (by kernel_rfl) ?_
      simp only [List.take_succ_cons, List.take_zero, List.drop_succ_cons, List.drop_zero]
      repeat (go_big_quiet_step ((first | (go_at_call 171; with_reducible exact ReadsG.quiet (HH.out) HT.out _ [3] rfl rfl))))
      refine wpQuiet_nil ?_
      intro _ hw'
      obtain ⟨nq, hw''⟩ := hw'
      subst hw''
      have HT := Lib.hid (HT.out.drewN nq)
      go_wp2_with fail
      refine (DoesG.use (HBG.out) (HT.out) [3] rfl rfl).mono ?_
      rintro e w1 ⟨gs, ⟨tb, rfl, g2, hx2, rfl⟩, Ta⟩
      simp only [PU] at Ta
      have HX := Lib.hid hx2
      clear hx2 k0 k16
      have HT := Lib.hid Ta
      clear Ta
      have k14 := HT.out.cell 0 0 rfl 14
      have fk14 := HT.out.free 0 0 rfl 14
      simp only [workC, List.getElem?_toArray, List.getElem?_cons_zero, List.getElem?_cons_succ] at k14
      go_wp2_with fail
      refine ⟨rfl, ?_⟩
      have HT := Lib.hid ((HT.out.set 0 0 rfl 14 (ptr' tb)).eq (H' := [workB kb L.fb pv (ptr' qb) (ptr' tb) { k with rq := some q2, id := q2.id, slot := q2.id % 64, tk := some (homeC (q2.id % 64) x, newTick) }, reqG qb L.p.sb q2, gt, g2, [cl w.heap.size 148 #[.nilFunc, .nilFunc]], tickG tb qs.rb newTick]) rfl)
      clear k14 fk14
      go_wp2_with fail
      refine (DoesG.use (callsAt) (HT.out) [] rfl rfl).mono ?_
      rintro e w1 ⟨gs, ⟨rfl, rfl⟩, Ta⟩
      simp only [PU] at Ta
      have HT := Lib.hid Ta
      clear Ta
      have e0 := HT.out.cell 4 0 rfl 0
      have fe0 := HT.out.free 4 0 rfl 0
      have e1 := HT.out.cell 4 0 rfl 1
      have fe1 := HT.out.free 4 0 rfl 1
      simp only [List.getElem?_nil, List.getElem?_toArray, List.getElem?_cons_zero, List.getElem?_cons_succ] at e0 e1
      go_wp2
      exact bodyPost_ret (v := .agg #[.nilFunc, .func (.func 173) #[ptr' kb] #[]]) (by simp [results, Tryz.results140, go_sem, e0, e1]) rfl ⟨_, ⟨_, _, [], _, _, rfl, ⟨rfl, rfl, rfl⟩, ⟨_, _, (reqG qb L.p.sb q2), (tickG tb qs.rb newTick), ⟨qb, rfl, rfl⟩, ⟨tb, qs, HQS.out, rfl, rfl⟩, rfl, HX.out⟩, rfl⟩, (((HT.out.set 4 0 rfl 0 _).set 4 0 rfl 1 _).pick [0, 1, 5, 3] rfl).sum (fun n ha h0 h1 h2 => by simp only [SU, ha, h0, h1, h2] <;> omega)⟩
    · have hst : (stepR x.slab q).2.st = q2.st := by rw [hr2]
      have HZ : asksC (k, x) q = (.at none .asks, ({ k with rq := some q2 }, { x with slab := s2 })) := by unfold asksC; simp only [hr2]; rw [if_neg h1, if_neg h2]
      have hb1 : (q2.st == 1) = false := beq_eq_false_iff_ne.2 h1
      have hb2 : (q2.st == 2) = false := beq_eq_false_iff_ne.2 h2
      clear h1 h2 hidb hsh
      rw [HZ]
      unfold MRz
      dsimp only [refuseC]
      clear HZ
      obtain ⟨rv, tv, gq, gt, ⟨qb, rfl, rfl⟩, ht, rfl, hx⟩ := hz
      intro w hw
      have T0 := TG.refl hw
      have HT := Lib.hid T0
      clear hw T0
      have HT := Lib.hid (HT.out.sum (H' := [workB kb L.fb pv (ptr' qb) tv k, reqG qb L.p.sb q, gt, gF]) (fun n ha h0 h1 h2 => by simp only [SU, ha, h0, h1, h2] <;> omega))
      have HX := Lib.hid hx
      have HTK := Lib.hid ht
      have HRQ := Lib.hid (coreReq hx qb q hok.slab hrq)
      rw [hst, hr2] at HRQ
      clear hx ht
      have k13 := HT.out.cell 0 0 rfl 13
      simp only [workC, List.getElem?_toArray, List.getElem?_cons_zero, List.getElem?_cons_succ] at k13
      have lt := HT.out.lt 0 0 rfl
      simp only [] at lt
      clear hst hok hrq hr2
      go_enter Tryz.func140, Tryz.ntmps140
      go_wp2_with fail
      refine (DoesG.use (HRQ.out) (HT.out.alloc (k := w.heap.size) rfl _ _) [1, 3] rfl rfl).mono ?_
      rintro e w1 ⟨gs, ⟨rfl, g1, hx1, rfl⟩, Ta⟩
      simp only [PU] at Ta
      have HX := Lib.hid hx1
      clear hx1 k13 lt
      have HT := Lib.hid Ta
      clear Ta
      have HT := Lib.hid (HT.out.eq (H' := [workB kb L.fb pv (ptr' qb) tv { k with rq := some q2 }, reqG qb L.p.sb q2, gt, g1, [cl w.heap.size 148 #[.nilFunc, .nilFunc]]]) rfl)
      go_wp2_with fail
      refine (DoesG.use (callsAt) (HT.out) [] rfl rfl).mono ?_
      rintro e w1 ⟨gs, ⟨rfl, rfl⟩, Ta⟩
      simp only [PU] at Ta
      have HT := Lib.hid Ta
      clear Ta
      have e0 := HT.out.cell 4 0 rfl 0
      have fe0 := HT.out.free 4 0 rfl 0
      have e1 := HT.out.cell 4 0 rfl 1
      have fe1 := HT.out.free 4 0 rfl 1
      simp only [List.getElem?_nil, List.getElem?_toArray, List.getElem?_cons_zero, List.getElem?_cons_succ] at e0 e1
      go_wp2
      exact bodyPost_ret (v := .agg #[.nilFunc, .func (.func 140) #[ptr' kb] #[]]) (by simp [results, Tryz.results140, go_sem, e0, e1]) rfl ⟨_, ⟨_, _, [], _, _, rfl, ⟨rfl, rfl, rfl⟩, ⟨_, _, (reqG qb L.p.sb q2), gt, ⟨qb, rfl, rfl⟩, HTK.out, rfl, HX.out⟩, rfl⟩, (((HT.out.set 4 0 rfl 0 _).set 4 0 rfl 1 _).pick [0, 1, 2, 3] rfl).sum (fun n ha h0 h1 h2 => by simp only [SU, ha, h0, h1, h2] <;> omega)⟩
end
end Go.Proofs.YtblhfbcodbjgcaaGreat

namespace Go.Proofs.YtblhfbcodbjgcaaGreat
set_option linter.unusedVariables false
set_option linter.unusedSimpArgs false
open Go.RowKit Go.Shelf
theorem look_keeps (k : WorkS) (s : SlabS) (h : 0 ≤ k.slot) (hi : 0 ≤ k.id) : (lookW k s).1.kind = k.kind ∧ (lookW k s).1.rq = k.rq ∧ (lookW k s).1.tk = k.tk ∧ 0 ≤ (lookW k s).1.slot := by
  have hs : 0 ≤ s.slot k.id := by unfold SlabS.slot; split <;> omega
  unfold lookW
  split
  · exact ⟨rfl, rfl, rfl, h⟩
  · split
    · exact ⟨rfl, rfl, rfl, hs⟩
    · exact ⟨rfl, rfl, rfl, hs⟩
theorem over_kind {k k2 : WorkS} (h : k2.kind = k.kind) : overC k = overC k2 := by unfold overC; rw [h]
section
variable {L : Lay} {x : CoreS} {gK gF : List Blk} {kb : Nat} {pv : Value} {k : WorkS}
set_option maxRecDepth 100000 in
theorem mLooks (hz : rep2 L kb pv k x gK gF) (hp : preMC .looks (k, x)) : DoesG Tryz.prog 141 #[ptr' kb] [gK, gF] (MRz L kb pv (runC .looks (k, x))) := by
  obtain ⟨hok, hwk, _⟩ := hp
  simp only at hok hwk
  have HLN := Lib.hid hok.tr
  have HSH := Lib.hid hok.sh
  have HLK := Lib.hid (show ∀ g rv tv, isCore L x g → _ from fun g rv tv hx => workLook (kb := kb) (pv := pv) (rv := rv) (tv := tv) (k := k) (g := g) hx hok hwk.id.1 hwk.id.2)
  have hkeep := look_keeps k x.slab hwk.slot hwk.id.1
  have hE : ∀ k2 er, lookW k x.slab = (k2, er) → runC .looks (k, x) = if er = 0 then (if k.kind = 3 then (.at none .queues, ({ k2 with tk := some (homeC k2.slot x, newTick) }, x)) else (.at none .tries, (k2, x))) else if er = 1 then (overC k, refuseC 1 (k2, x)) else (overC k, refuseC 0 (k2, x)) := by
    intro k2 er h
    show (if (lookW k x.slab).2 = 0 then _ else _) = _
    simp only [lookC, h]
  obtain ⟨k2, er, hl⟩ : ∃ k2 er, lookW k x.slab = (k2, er) := ⟨_, _, rfl⟩
  rw [hE k2 er hl]
  rw [hl] at HLK hkeep
  simp only at hkeep
  clear hE hl hok hwk
  by_cases h0 : er = 0
  · subst h0
    by_cases h3 : k.kind = 3
    · have HZ : (if (0 : Int) = 0 then (if k.kind = 3 then (.at none .queues, ({ k2 with tk := some (homeC k2.slot x, newTick) }, x)) else (.at none .tries, (k2, x))) else if (0 : Int) = 1 then (overC k, refuseC 1 (k2, x)) else (overC k, refuseC 0 (k2, x)) : SC × ZC) = (.at none .queues, ({ k2 with tk := some (homeC k2.slot x, newTick) }, x)) := (if_pos rfl).trans (if_pos h3)
      rw [HZ]
      unfold MRz
      dsimp only [refuseC]
      clear HZ
      obtain ⟨hkk, hkr, hkt, hks⟩ := hkeep
      obtain ⟨rv, tv, gq, gt, hr, ht, rfl, hx⟩ := hz
      intro w hw
      have T0 := TG.refl hw
      have HT := Lib.hid T0
      clear hw T0
      have HT := Lib.hid (HT.out.sum (H' := [workB kb L.fb pv rv tv k, gq, gt, gF]) (fun n ha h0 h1 h2 => by simp only [SU, ha, h0, h1, h2] <;> omega))
      have HX := Lib.hid hx
      have HR := Lib.hid (show optR L.p.sb k2.rq rv gq from hkr ▸ hr)
      have HTK := Lib.hid (show optT L k2.tk tv gt from hkt ▸ ht)
      have HKK := Lib.hid hkk
      clear hx hr ht hkr hkt hkk
      have HT := Lib.hid (HT.out.alloc (k := w.heap.size) rfl 148 #[.nilFunc, .nilFunc])
      go_enter Tryz.func141, Tryz.ntmps141
      go_wp2_with fail
      refine (DoesG.use (HLK.out _ _ _ HX.out) (HT.out) [0, 3] rfl rfl).mono ?_
      rintro e w1 ⟨gs, ⟨rfl, g1, hx1, rfl⟩, Ta⟩
      simp only [PU] at Ta
      have HX := Lib.hid hx1
      clear hx1
      have HT := Lib.hid Ta
      clear Ta
      have i0 := hks
      have k3 := HT.out.cell 0 0 rfl 3
      simp only [workC, List.getElem?_toArray, List.getElem?_cons_zero, List.getElem?_cons_succ] at k3
      rw [HKK.out, h3] at k3
      clear h3
      go_wp2
      clear k3
      obtain ⟨qs, ss, hqs, hss, hv⟩ := home_val HX.out HSH.out i0
      have HH := Lib.hid (coreHome_r HX.out (by rw [HX.out.len]; exact HSH.out) k2.slot)
      rw [hv] at HH
      have HQS := Lib.hid hqs
      have HBG := Lib.hid (coreBegin HX.out hqs hss)
      clear hqs hss hv
      have k0 := HT.out.cell 0 0 rfl 0
      have k16 := HT.out.cell 0 0 rfl 16
      simp only [workC, List.getElem?_toArray, List.getElem?_cons_zero, List.getElem?_cons_succ] at k0 k16
      refine wp_region_mix1 10 (by kernel_rfl) (by kernel_rfl) ?_
      simp only [List.take_succ_cons, List.take_zero, List.drop_succ_cons, List.drop_zero]
      repeat (go_big_quiet_step ((first | (go_at_call 171; with_reducible exact ReadsG.quiet (HH.out) HT.out _ [3] rfl rfl))))
      refine wpQuiet_nil ?_
      intro _ hw'
      obtain ⟨nq, hw''⟩ := hw'
      subst hw''
      have HT := Lib.hid (HT.out.drewN nq)
      go_wp2_with fail
      refine (DoesG.use (HBG.out) (HT.out) [3] rfl rfl).mono ?_
      rintro e w1 ⟨gs, ⟨tb, rfl, g2, hx2, rfl⟩, Ta⟩
      simp only [PU] at Ta
      have HX := Lib.hid hx2
      clear hx2 k0 k16
      have HT := Lib.hid Ta
      clear Ta
      have k14 := HT.out.cell 0 0 rfl 14
      have fk14 := HT.out.free 0 0 rfl 14
      simp only [workC, List.getElem?_toArray, List.getElem?_cons_zero, List.getElem?_cons_succ] at k14
      go_wp2_with fail
      refine ⟨rfl, ?_⟩
      have HT := Lib.hid ((HT.out.set 0 0 rfl 14 (ptr' tb)).eq (H' := [workB kb L.fb pv rv (ptr' tb) { k2 with tk := some (homeC k2.slot x, newTick) }, gq, gt, g2, [cl w.heap.size 148 #[.nilFunc, .nilFunc]], tickG tb qs.rb newTick]) rfl)
      clear k14 fk14
      go_wp2_with fail
      refine (DoesG.use (callsAt) (HT.out) [] rfl rfl).mono ?_
      rintro e w1 ⟨gs, ⟨rfl, rfl⟩, Ta⟩
      simp only [PU] at Ta
      have HT := Lib.hid Ta
      clear Ta
      have e0 := HT.out.cell 4 0 rfl 0
      have fe0 := HT.out.free 4 0 rfl 0
      have e1 := HT.out.cell 4 0 rfl 1
      have fe1 := HT.out.free 4 0 rfl 1
      simp only [List.getElem?_nil, List.getElem?_toArray, List.getElem?_cons_zero, List.getElem?_cons_succ] at e0 e1
      go_wp2
      exact bodyPost_ret (v := .agg #[.nilFunc, .func (.func 173) #[ptr' kb] #[]]) (by simp [results, Tryz.results141, go_sem, e0, e1]) rfl ⟨_, ⟨_, _, [], _, _, rfl, ⟨rfl, rfl, rfl⟩, ⟨_, _, gq, (tickG tb qs.rb newTick), HR.out, ⟨tb, qs, HQS.out, rfl, rfl⟩, rfl, HX.out⟩, rfl⟩, (((HT.out.set 4 0 rfl 0 _).set 4 0 rfl 1 _).pick [0, 1, 5, 3] rfl).sum (fun n ha h0 h1 h2 => by simp only [SU, ha, h0, h1, h2] <;> omega)⟩
    · have HZ : (if (0 : Int) = 0 then (if k.kind = 3 then (.at none .queues, ({ k2 with tk := some (homeC k2.slot x, newTick) }, x)) else (.at none .tries, (k2, x))) else if (0 : Int) = 1 then (overC k, refuseC 1 (k2, x)) else (overC k, refuseC 0 (k2, x)) : SC × ZC) = (.at none .tries, (k2, x)) := (if_pos rfl).trans (if_neg h3)
      have hb3 : (k.kind == 3) = false := beq_eq_false_iff_ne.2 h3
      clear h3
      rw [HZ]
      unfold MRz
      dsimp only [refuseC]
      clear HZ
      obtain ⟨hkk, hkr, hkt, hks⟩ := hkeep
      obtain ⟨rv, tv, gq, gt, hr, ht, rfl, hx⟩ := hz
      intro w hw
      have T0 := TG.refl hw
      have HT := Lib.hid T0
      clear hw T0
      have HT := Lib.hid (HT.out.sum (H' := [workB kb L.fb pv rv tv k, gq, gt, gF]) (fun n ha h0 h1 h2 => by simp only [SU, ha, h0, h1, h2] <;> omega))
      have HX := Lib.hid hx
      have HR := Lib.hid (show optR L.p.sb k2.rq rv gq from hkr ▸ hr)
      have HTK := Lib.hid (show optT L k2.tk tv gt from hkt ▸ ht)
      have HKK := Lib.hid hkk
      clear hx hr ht hkr hkt hkk
      have HT := Lib.hid (HT.out.alloc (k := w.heap.size) rfl 148 #[.nilFunc, .nilFunc])
      go_enter Tryz.func141, Tryz.ntmps141
      go_wp2_with fail
      refine (DoesG.use (HLK.out _ _ _ HX.out) (HT.out) [0, 3] rfl rfl).mono ?_
      rintro e w1 ⟨gs, ⟨rfl, g1, hx1, rfl⟩, Ta⟩
      simp only [PU] at Ta
      have HX := Lib.hid hx1
      clear hx1
      have HT := Lib.hid Ta
      clear Ta
      have k3 := HT.out.cell 0 0 rfl 3
      simp only [workC, List.getElem?_toArray, List.getElem?_cons_zero, List.getElem?_cons_succ] at k3
      rw [HKK.out] at k3
      go_wp2_with fail
      refine (DoesG.use (callsAt) (HT.out) [] rfl rfl).mono ?_
      rintro e w1 ⟨gs, ⟨rfl, rfl⟩, Ta⟩
      simp only [PU] at Ta
      have HT := Lib.hid Ta
      clear Ta
      have e0 := HT.out.cell 4 0 rfl 0
      have fe0 := HT.out.free 4 0 rfl 0
      have e1 := HT.out.cell 4 0 rfl 1
      have fe1 := HT.out.free 4 0 rfl 1
      simp only [List.getElem?_nil, List.getElem?_toArray, List.getElem?_cons_zero, List.getElem?_cons_succ] at e0 e1
      go_wp2
      exact bodyPost_ret (v := .agg #[.nilFunc, .func (.func 175) #[ptr' kb] #[]]) (by simp [results, Tryz.results141, go_sem, e0, e1]) rfl ⟨_, ⟨_, _, [], _, _, rfl, ⟨rfl, rfl, rfl⟩, ⟨_, _, gq, gt, HR.out, HTK.out, rfl, HX.out⟩, rfl⟩, (((HT.out.set 4 0 rfl 0 _).set 4 0 rfl 1 _).pick [0, 1, 2, 3] rfl).sum (fun n ha h0 h1 h2 => by simp only [SU, ha, h0, h1, h2] <;> omega)⟩
  · by_cases h1 : er = 1
    · subst h1
      have HZ : (if (1 : Int) = 0 then (if k.kind = 3 then (.at none .queues, ({ k2 with tk := some (homeC k2.slot x, newTick) }, x)) else (.at none .tries, (k2, x))) else if (1 : Int) = 1 then (overC k, refuseC 1 (k2, x)) else (overC k, refuseC 0 (k2, x)) : SC × ZC) = (overC (refuseW 1 k2), refuseC 1 (k2, x)) := by rw [if_neg h0, if_pos rfl, over_kind (k := k) (k2 := refuseW 1 k2) hkeep.1]
      clear h0
      rw [HZ]
      unfold MRz
      dsimp only [refuseC]
      clear HZ
      obtain ⟨hkk, hkr, hkt, hks⟩ := hkeep
      obtain ⟨rv, tv, gq, gt, hr, ht, rfl, hx⟩ := hz
      intro w hw
      have T0 := TG.refl hw
      have HT := Lib.hid T0
      clear hw T0
      have HT := Lib.hid (HT.out.sum (H' := [workB kb L.fb pv rv tv k, gq, gt, gF]) (fun n ha h0 h1 h2 => by simp only [SU, ha, h0, h1, h2] <;> omega))
      have HX := Lib.hid hx
      have HR := Lib.hid (show optR L.p.sb k2.rq rv gq from hkr ▸ hr)
      have HTK := Lib.hid (show optT L k2.tk tv gt from hkt ▸ ht)
      have HKK := Lib.hid hkk
      clear hx hr ht hkr hkt hkk
      have HT := Lib.hid (HT.out.alloc (k := w.heap.size) rfl 148 #[.nilFunc, .nilFunc])
      go_enter Tryz.func141, Tryz.ntmps141
      go_wp2_with fail
      refine (DoesG.use (HLK.out _ _ _ HX.out) (HT.out) [0, 3] rfl rfl).mono ?_
      rintro e w1 ⟨gs, ⟨rfl, g1, hx1, rfl⟩, Ta⟩
      simp only [PU] at Ta
      have HX := Lib.hid hx1
      clear hx1
      have HT := Lib.hid Ta
      clear Ta
      go_wp2_with fail
      refine (DoesG.use (workRefuse HX.out 1 HLN.out) (HT.out) [0, 3] rfl rfl).mono ?_
      rintro e w1 ⟨gs, ⟨rfl, g1, hx1, rfl⟩, Ta⟩
      simp only [PU] at Ta
      have HX := Lib.hid hx1
      clear hx1
      have HT := Lib.hid Ta
      clear Ta
      go_wp2_with fail
      refine (DoesG.use (sOver) (HT.out) [0] rfl rfl).mono ?_
      rintro e w1 ⟨gs, ⟨m2, d2, g2, rfl, hs2, rfl⟩, Ta⟩
      simp only [PU] at Ta
      have HT := Lib.hid Ta
      clear Ta
      have e0 := HT.out.cell 4 0 rfl 0
      have fe0 := HT.out.free 4 0 rfl 0
      have e1 := HT.out.cell 4 0 rfl 1
      have fe1 := HT.out.free 4 0 rfl 1
      simp only [List.getElem?_nil, List.getElem?_toArray, List.getElem?_cons_zero, List.getElem?_cons_succ] at e0 e1
      have hv2 := (cliC_vals L kb pv).vals hs2
      obtain ⟨st1, st2⟩ := Cli.store_fv2 (P := Tryz.prog) hv2.1 hv2.2 e0 fe0 e1 fe1
      have HS := Lib.hid hs2
      clear hv2 hs2
      go_wp2
      exact bodyPost_ret (v := .agg #[_, _]) (by simp [results, Tryz.results141, go_sem, e0, e1]) rfl ⟨_, ⟨m2, d2, g2, _, _, rfl, HS.out, ⟨_, _, gq, gt, HR.out, HTK.out, rfl, HX.out⟩, rfl⟩, (((HT.out.set 4 0 rfl 0 _).set 4 0 rfl 1 _).pick [0, 1, 2, 3, 5] rfl).sum (fun n ha h0 h1 h2 => by simp only [SU, ha, h0, h1, h2] <;> omega)⟩
    · have HZ : (if er = 0 then (if k.kind = 3 then (.at none .queues, ({ k2 with tk := some (homeC k2.slot x, newTick) }, x)) else (.at none .tries, (k2, x))) else if er = 1 then (overC k, refuseC 1 (k2, x)) else (overC k, refuseC 0 (k2, x)) : SC × ZC) = (overC (refuseW 0 k2), refuseC 0 (k2, x)) := by rw [if_neg h0, if_neg h1, over_kind (k := k) (k2 := refuseW 0 k2) hkeep.1]
      have hb0 : (er == 0) = false := beq_eq_false_iff_ne.2 h0
      have hb1 : (er == 1) = false := beq_eq_false_iff_ne.2 h1
      clear h0 h1
      rw [HZ]
      unfold MRz
      dsimp only [refuseC]
      clear HZ
      obtain ⟨hkk, hkr, hkt, hks⟩ := hkeep
      obtain ⟨rv, tv, gq, gt, hr, ht, rfl, hx⟩ := hz
      intro w hw
      have T0 := TG.refl hw
      have HT := Lib.hid T0
      clear hw T0
      have HT := Lib.hid (HT.out.sum (H' := [workB kb L.fb pv rv tv k, gq, gt, gF]) (fun n ha h0 h1 h2 => by simp only [SU, ha, h0, h1, h2] <;> omega))
      have HX := Lib.hid hx
      have HR := Lib.hid (show optR L.p.sb k2.rq rv gq from hkr ▸ hr)
      have HTK := Lib.hid (show optT L k2.tk tv gt from hkt ▸ ht)
      have HKK := Lib.hid hkk
      clear hx hr ht hkr hkt hkk
      have HT := Lib.hid (HT.out.alloc (k := w.heap.size) rfl 148 #[.nilFunc, .nilFunc])
      go_enter Tryz.func141, Tryz.ntmps141
      go_wp2_with fail
      refine (DoesG.use (HLK.out _ _ _ HX.out) (HT.out) [0, 3] rfl rfl).mono ?_
      rintro e w1 ⟨gs, ⟨rfl, g1, hx1, rfl⟩, Ta⟩
      simp only [PU] at Ta
      have HX := Lib.hid hx1
      clear hx1
      have HT := Lib.hid Ta
      clear Ta
      go_wp2_with fail
      refine (DoesG.use (workRefuse HX.out 0 HLN.out) (HT.out) [0, 3] rfl rfl).mono ?_
      rintro e w1 ⟨gs, ⟨rfl, g1, hx1, rfl⟩, Ta⟩
      simp only [PU] at Ta
      have HX := Lib.hid hx1
      clear hx1
      have HT := Lib.hid Ta
      clear Ta
      go_wp2_with fail
      refine (DoesG.use (sOver) (HT.out) [0] rfl rfl).mono ?_
      rintro e w1 ⟨gs, ⟨m2, d2, g2, rfl, hs2, rfl⟩, Ta⟩
      simp only [PU] at Ta
      have HT := Lib.hid Ta
      clear Ta
      have e0 := HT.out.cell 4 0 rfl 0
      have fe0 := HT.out.free 4 0 rfl 0
      have e1 := HT.out.cell 4 0 rfl 1
      have fe1 := HT.out.free 4 0 rfl 1
      simp only [List.getElem?_nil, List.getElem?_toArray, List.getElem?_cons_zero, List.getElem?_cons_succ] at e0 e1
      have hv2 := (cliC_vals L kb pv).vals hs2
      obtain ⟨st1, st2⟩ := Cli.store_fv2 (P := Tryz.prog) hv2.1 hv2.2 e0 fe0 e1 fe1
      have HS := Lib.hid hs2
      clear hv2 hs2
      go_wp2
      exact bodyPost_ret (v := .agg #[_, _]) (by simp [results, Tryz.results141, go_sem, e0, e1]) rfl ⟨_, ⟨m2, d2, g2, _, _, rfl, HS.out, ⟨_, _, gq, gt, HR.out, HTK.out, rfl, HX.out⟩, rfl⟩, (((HT.out.set 4 0 rfl 0 _).set 4 0 rfl 1 _).pick [0, 1, 2, 3, 5] rfl).sum (fun n ha h0 h1 h2 => by simp only [SU, ha, h0, h1, h2] <;> omega)⟩
set_option maxHeartbeats 4000000 in
set_option maxRecDepth 100000 in
theorem mAgain (hz : rep2 L kb pv k x gK gF) (hp : preMC .again (k, x)) : DoesG Tryz.prog 201 #[ptr' kb] [gK, gF] (MRz L kb pv (runC .again (k, x))) := by
  obtain ⟨hok, hwk, _⟩ := hp
  simp only at hok hwk
  have HLN := Lib.hid hok.tr
  have HLK := Lib.hid (show ∀ g rv tv, isCore L x g → _ from fun g rv tv hx => workLook (kb := kb) (pv := pv) (rv := rv) (tv := tv) (k := k) (g := g) hx hok hwk.id.1 hwk.id.2)
  have hkeep := look_keeps k x.slab hwk.slot hwk.id.1
  have hE : ∀ k2 er, lookW k x.slab = (k2, er) → runC .again (k, x) = if er = 0 then (.at none .tries, (k2, x)) else (.thn (.row1 .again1) .leaves, refuseC 0 (k2, x)) := by
    intro k2 er h
    show (if (lookW k x.slab).2 = 0 then _ else _) = _
    simp only [lookC, h]
  obtain ⟨k2, er, hl⟩ : ∃ k2 er, lookW k x.slab = (k2, er) := ⟨_, _, rfl⟩
  rw [hE k2 er hl]
  rw [hl] at HLK hkeep
  simp only at hkeep
  clear hE hl hok hwk
  by_cases h0 : er = 0
  · have HZ : (if er = 0 then (.at none .tries, (k2, x)) else (.thn (.row1 .again1) .leaves, refuseC 0 (k2, x)) : SC × ZC) = (.at none .tries, (k2, x)) := if_pos h0
    rw [h0] at HLK
    clear h0
    rw [HZ]
    unfold MRz
    dsimp only [refuseC]
    clear HZ
    obtain ⟨hkk, hkr, hkt, hks⟩ := hkeep
    obtain ⟨rv, tv, gq, gt, hr, ht, rfl, hx⟩ := hz
    intro w hw
    have T0 := TG.refl hw
    have HT := Lib.hid T0
    clear hw T0
    have HT := Lib.hid (HT.out.sum (H' := [workB kb L.fb pv rv tv k, gq, gt, gF]) (fun n ha h0 h1 h2 => by simp only [SU, ha, h0, h1, h2] <;> omega))
    have HX := Lib.hid hx
    have HR := Lib.hid (show optR L.p.sb k2.rq rv gq from hkr ▸ hr)
    have HTK := Lib.hid (show optT L k2.tk tv gt from hkt ▸ ht)
    clear hx hr ht hkr hkt hkk hks
    have HT := Lib.hid ((HT.out.alloc (k := w.heap.size) rfl 33 #[ptr' kb]).alloc (k := w.heap.size + 1) (by simp) 148 #[.nilFunc, .nilFunc])
    go_enter Tryz.func201, Tryz.ntmps201
    go_wp2_with fail
    refine (DoesG.use (HLK.out _ _ _ HX.out) (HT.out) [0, 3] rfl rfl).mono ?_
    rintro e w1 ⟨gs, ⟨rfl, g1, hx1, rfl⟩, Ta⟩
    simp only [PU] at Ta
    have HX := Lib.hid hx1
    clear hx1
    have HT := Lib.hid Ta
    clear Ta
    have b0 := HT.out.cell 4 0 rfl 0
    simp only [List.getElem?_nil, List.getElem?_toArray, List.getElem?_cons_zero, List.getElem?_cons_succ] at b0
    go_wp2_with fail
    refine (DoesG.use (callsAt) (HT.out) [] rfl rfl).mono ?_
    rintro e w1 ⟨gs, ⟨rfl, rfl⟩, Ta⟩
    simp only [PU] at Ta
    have HT := Lib.hid Ta
    clear Ta
    have e0 := HT.out.cell 5 0 rfl 0
    have fe0 := HT.out.free 5 0 rfl 0
    have e1 := HT.out.cell 5 0 rfl 1
    have fe1 := HT.out.free 5 0 rfl 1
    simp only [List.getElem?_nil, List.getElem?_toArray, List.getElem?_cons_zero, List.getElem?_cons_succ] at e0 e1
    go_wp2
    exact bodyPost_ret (v := .agg #[.nilFunc, .func (.func 175) #[ptr' kb] #[]]) (by simp [results, Tryz.results201, go_sem, e0, e1]) rfl ⟨_, ⟨_, _, [], _, _, rfl, ⟨rfl, rfl, rfl⟩, ⟨_, _, gq, gt, HR.out, HTK.out, rfl, HX.out⟩, rfl⟩, (((HT.out.set 5 0 rfl 0 _).set 5 0 rfl 1 _).pick [0, 1, 2, 3] rfl).sum (fun n ha h0 h1 h2 => by simp only [SU, ha, h0, h1, h2] <;> omega)⟩
  · have HZ : (if er = 0 then (.at none .tries, (k2, x)) else (.thn (.row1 .again1) .leaves, refuseC 0 (k2, x)) : SC × ZC) = (.thn (.row1 .again1) .leaves, refuseC 0 (k2, x)) := if_neg h0
    have hb0 : (er == 0) = false := beq_eq_false_iff_ne.2 h0
    have hrow : ∀ (bk b bf bl bi : Nat), (cliC L kb pv).SV (.row1 .again1) .nilFunc (.func (.func 188) #[] #[ptr' bf, ptr' bl, ptr' bi])
      ([cl bf 1 #[.func (.func 233) #[] #[ptr' bk]], cl bl 303 #[.slice (some ⟨b, 0, none⟩) 1 1], cl bi 3 #[.int .i64 0], cl b 1 #[.func (.func 233) #[] #[ptr' bk]]] ++ [cl bk 33 #[ptr' kb]]) :=
      fun bk b bf bl bi => ⟨rfl, bf, bl, bi, b, 0, _, _, _, rfl, ⟨bk, rfl, rfl⟩, rfl, rfl⟩
    have hthen : ∀ (bk b bf bl bi : Nat), _ := fun bk b bf bl bi => Cli.prog_then_cons (f := MC.leaves) (v := .func (.func 168) #[ptr' kb] #[]) (gm := []) (cliC_vals L kb pv) rfl (hrow bk b bf bl bi) ⟨rfl, rfl⟩
    have HTH := Lib.hid hthen
    clear h0 hrow hthen
    rw [HZ]
    unfold MRz
    dsimp only [refuseC]
    clear HZ
    obtain ⟨hkk, hkr, hkt, hks⟩ := hkeep
    obtain ⟨rv, tv, gq, gt, hr, ht, rfl, hx⟩ := hz
    intro w hw
    have T0 := TG.refl hw
    have HT := Lib.hid T0
    clear hw T0
    have HT := Lib.hid (HT.out.sum (H' := [workB kb L.fb pv rv tv k, gq, gt, gF]) (fun n ha h0 h1 h2 => by simp only [SU, ha, h0, h1, h2] <;> omega))
    have HX := Lib.hid hx
    have HR := Lib.hid (show optR L.p.sb k2.rq rv gq from hkr ▸ hr)
    have HTK := Lib.hid (show optT L k2.tk tv gt from hkt ▸ ht)
    clear hx hr ht hkr hkt hkk hks
    have HT := Lib.hid ((HT.out.alloc (k := w.heap.size) rfl 33 #[ptr' kb]).alloc (k := w.heap.size + 1) (by simp) 148 #[.nilFunc, .nilFunc])
    go_enter Tryz.func201, Tryz.ntmps201
    go_wp2_with fail
    refine (DoesG.use (HLK.out _ _ _ HX.out) (HT.out) [0, 3] rfl rfl).mono ?_
    rintro e w1 ⟨gs, ⟨rfl, g1, hx1, rfl⟩, Ta⟩
    simp only [PU] at Ta
    have HX := Lib.hid hx1
    clear hx1
    have HT := Lib.hid Ta
    clear Ta
    have b0 := HT.out.cell 4 0 rfl 0
    simp only [List.getElem?_nil, List.getElem?_toArray, List.getElem?_cons_zero, List.getElem?_cons_succ] at b0
    go_wp2_with fail
    refine (DoesG.use (workRefuse HX.out 0 HLN.out) (HT.out) [0, 3] rfl rfl).mono ?_
    rintro e w1 ⟨gs, ⟨rfl, g1, hx1, rfl⟩, Ta⟩
    simp only [PU] at Ta
    have HX := Lib.hid hx1
    clear hx1
    have HT := Lib.hid Ta
    clear Ta
    clear b0
    have b0 := HT.out.cell 4 0 rfl 0
    simp only [List.getElem?_nil, List.getElem?_toArray, List.getElem?_cons_zero, List.getElem?_cons_succ] at b0
    have ltb := HT.out.lt 4 0 rfl
    simp only [] at ltb
    go_wp2_with fail
    go_region_with (first
      | (go_at_call 164
         refine (DoesG.use (Cli.row_1 (b := w1.heap.size) (o := 0) (D := #[.func (.func 233) #[] #[ptr' w.heap.size]]) rfl 1 (.inl rfl)) (HT.out.drew.alloc (k := w1.heap.size) rfl _ _) [6] rfl rfl).mono ?_
         rintro e w2 ⟨gs, ⟨bf, bl, bi, rfl, rfl⟩, Ta⟩
         simp only [putG, List.set_cons_zero, List.set_cons_succ, List.cons_append, List.nil_append, List.append_nil] at Ta
         have b1 := Ta.cell 4 0 rfl 0
         simp only [List.getElem?_toArray, List.getElem?_cons_zero] at b1
         have HT1 := Lib.hid (Ta.sum (H' := [workB kb L.fb pv rv tv (refuseW 0 k2), gq, gt, g1, [cl (w.heap.size + 1) 148 #[.nilFunc, .nilFunc]], [cl bf 1 #[.func (.func 233) #[] #[ptr' w.heap.size]], cl bl 303 #[.slice (some ⟨w1.heap.size, 0, none⟩) 1 1], cl bi 3 #[.int .i64 0], cl w1.heap.size 1 #[.func (.func 233) #[] #[ptr' w.heap.size]]] ++ [cl w.heap.size 33 #[ptr' kb]], []]) (fun n ha h0 h1 h2 => by simp only [SU, ha, h0, h1, h2] <;> omega))
         clear Ta)
      | (go_at_call 191
         refine (DoesG.use (HTH.out _ _ _ _ _) HT1.out [5, 6] rfl rfl).mono ?_
         rintro e w3 ⟨gs, ⟨m2, d2, g2, rfl, hs2, rfl⟩, Ta⟩
         simp only [putG, List.set_cons_zero, List.set_cons_succ, List.cons_append, List.nil_append, List.append_nil] at Ta
         have e0 := Ta.cell 4 0 rfl 0
         have e1 := Ta.cell 4 0 rfl 1
         have f0 := Ta.free 4 0 rfl 0
         have f1 := Ta.free 4 0 rfl 1
         have hv2 := (cliC_vals L kb pv).vals hs2
         obtain ⟨st1, st2⟩ := Cli.store_fv2 (P := Tryz.prog) hv2.1 hv2.2 e0 f0 e1 f1
         clear hv2
         have HS2 := Lib.hid hs2
         have HT2 := Lib.hid Ta
         clear Ta hs2))
    all_goals
      go_wp2
      exact bodyPost_ret (v := .agg #[_, _]) (by simp [results, Tryz.results201, go_sem, e0, e1]) rfl ⟨_, ⟨m2, d2, g2, _, _, rfl, HS2.out, ⟨_, _, gq, gt, HR.out, HTK.out, rfl, HX.out⟩, rfl⟩, (((HT2.out.set 4 0 rfl 0 _).set 4 0 rfl 1 _).pick [0, 1, 2, 3, 5] rfl).sum (fun n ha h0 h1 h2 => by simp only [SU, ha, h0, h1, h2] <;> omega)⟩
end
end Go.Proofs.YtblhfbcodbjgcaaGreat

namespace Go.Proofs.YtblhfbcodbjgcaaGreat
set_option linter.unusedVariables false
set_option linter.unusedSimpArgs false
open Go.RowKit Go.Shelf
section
variable {L : Lay} {kb : Nat} {pv : Value}
set_option maxHeartbeats 4000000 in
set_option maxRecDepth 100000 in
theorem tries16 {u0 u3 u4 u5 u6 u7 u8 u9 u10 u11 u12 u13 u14 u15 u16 u17 u18 u19 u20 u21 u22 u23 u24 u25 u26 u27 u28 u29 u30 u31 u32 u33 u34 u35 u36 u37 u38 u39 u40 u41 u42 u43 u44 u45 u46 u47 u48 u49 u50 u51 u52 u53 u54 u55 u56 u57 u58 u59 u60 u61 u62 u63 u64 u65 u66 u67 u68 u69 u70 u71 u72 u73 u74 u75 u76 u77 u78 u79 u80 u81 u82 u83 u84 u85 u86 u87 u88 u89 u90 u91 u92 u93 u94 u95 u96 u97 u98 u99 u100 u101 u102 u103 u104 u105 u106 u107 u108 u109 u110 u111 u112 u113 u114 u115 u116 u117 u118 u119 u120 : Value} {bb rb : Nat} {K : Act → World → Prop} {Q' : Exit → Act → World → Prop} {g0 g1 g2 g3 : List Blk} {w0 w : World} {h : GH} (T : TG h w0 [g0, g1, g2, g3, [cl bb 33 #[ptr' kb]], [cl rb 148 #[.nilFunc, .nilFunc]]] w)
    (hK : ∀ w' m d g v113 v114 v115 v116 v117 v118 v119 v120, (cliC L kb pv).SV (.thn (.row2 .tries1 .drop) .ends) m d g → TG h w0 [g0, g1, g2, g3, g, [cl rb 148 #[m, d]]] w' → K { tmps := #[u0, ptr' bb, ptr' rb, u3, u4, u5, u6, u7, u8, u9, u10, u11, u12, u13, u14, u15, u16, u17, u18, u19, u20, u21, u22, u23, u24, u25, u26, u27, u28, u29, u30, u31, u32, u33, u34, u35, u36, u37, u38, u39, u40, u41, u42, u43, u44, u45, u46, u47, u48, u49, u50, u51, u52, u53, u54, u55, u56, u57, u58, u59, u60, u61, u62, u63, u64, u65, u66, u67, u68, u69, u70, u71, u72, u73, u74, u75, u76, u77, u78, u79, u80, u81, u82, u83, u84, u85, u86, u87, u88, u89, u90, u91, u92, u93, u94, u95, u96, u97, u98, u99, u100, u101, u102, u103, u104, u105, u106, u107, u108, u109, u110, u111, u112, v113, v114, v115, v116, v117, v118, v119, v120], defers := [] } w') :
    (regOf 16 Tryz.f175).wp Tryz.prog (Exit.then K Q') { tmps := #[u0, ptr' bb, ptr' rb, u3, u4, u5, u6, u7, u8, u9, u10, u11, u12, u13, u14, u15, u16, u17, u18, u19, u20, u21, u22, u23, u24, u25, u26, u27, u28, u29, u30, u31, u32, u33, u34, u35, u36, u37, u38, u39, u40, u41, u42, u43, u44, u45, u46, u47, u48, u49, u50, u51, u52, u53, u54, u55, u56, u57, u58, u59, u60, u61, u62, u63, u64, u65, u66, u67, u68, u69, u70, u71, u72, u73, u74, u75, u76, u77, u78, u79, u80, u81, u82, u83, u84, u85, u86, u87, u88, u89, u90, u91, u92, u93, u94, u95, u96, u97, u98, u99, u100, u101, u102, u103, u104, u105, u106, u107, u108, u109, u110, u111, u112, u113, u114, u115, u116, u117, u118, u119, u120], defers := [] } w := by
  refine wp_regOf (by rfl) ?_
  have hrow : ∀ (bk b bf bl bi : Nat), (cliC L kb pv).SV (.row2 .tries1 .drop) .nilFunc (.func (.func 188) #[] #[ptr' bf, ptr' bl, ptr' bi])
    ([cl bf 1 #[.func (.func 211) #[] #[ptr' bk]], cl bl 303 #[.slice (some ⟨b, 0, none⟩) 2 2], cl bi 3 #[.int .i64 0], cl b 1 #[.func (.func 211) #[] #[ptr' bk], .func (.func 200) #[ptr' kb] #[]]] ++ [cl bk 33 #[ptr' kb]] ++ []) :=
    fun bk b bf bl bi => ⟨rfl, bf, bl, bi, b, _, _, _, [], rfl, ⟨bk, rfl, rfl⟩, ⟨rfl, rfl⟩, rfl⟩
  have hthen : ∀ (bk b bf bl bi : Nat), _ := fun bk b bf bl bi => Cli.prog_then_x (f := MC.ends) (v := .func (.func 134) #[ptr' kb] #[]) (gm := []) (cliC_vals L kb pv) rfl (hrow bk b bf bl bi) ⟨rfl, rfl⟩
  have hrow' := hrow
  have HTH := Lib.hid hthen
  have HT := Lib.hid T
  have HK := Lib.hid hK
  have b0 := T.cell 4 0 rfl 0
  have ltb := T.lt 4 0 rfl
  have ltr := T.lt 5 0 rfl
  simp only [List.getElem?_toArray, List.getElem?_cons_zero] at b0 ltb ltr
  clear T hK hrow hthen
  have HRW := Lib.hid hrow'
  clear hrow'
  go_region_held3 (fun w' => w'.cell? ⟨bb, 0, none⟩ = some (ptr' kb))
    (first
    | exact HT2.out.cell 4 6 rfl 0
    | exact HT1.out.cell 4 4 rfl 0
    | exact (HT.out.drew.alloc (k := w.heap.size) rfl _ _).cell 4 0 rfl 0
    | exact HT.out.drew.cell 4 0 rfl 0
    | exact HT.out.cell 4 0 rfl 0
    | exact ((HT2.out.set 5 0 rfl 0 _).set 5 0 rfl 1 _).cell 4 6 rfl 0)
    (first
    | (go_at_call 164
       refine (DoesG.use (Cli.row_1 (b := w.heap.size) (o := 0) (D := #[.func (.func 211) #[] #[ptr' bb], .func (.func 200) #[ptr' kb] #[]]) rfl 2 (.inr rfl)) (HT.out.drew.alloc (k := w.heap.size) rfl _ _) [6] rfl rfl).mono ?_
       rintro e w7 ⟨gs, ⟨bf, bl, bi, rfl, rfl⟩, Ta⟩
       simp only [putG, List.set_cons_zero, List.set_cons_succ, List.cons_append, List.nil_append, List.append_nil] at Ta
       have HT1 := Lib.hid (Ta.sum (H' := [g0, g1, g2, g3, [cl bf 1 #[.func (.func 211) #[] #[ptr' bb]], cl bl 303 #[.slice (some ⟨w.heap.size, 0, none⟩) 2 2], cl bi 3 #[.int .i64 0], cl w.heap.size 1 #[.func (.func 211) #[] #[ptr' bb], .func (.func 200) #[ptr' kb] #[]]] ++ [cl bb 33 #[ptr' kb]] ++ [], [cl rb 148 #[.nilFunc, .nilFunc]], []]) (fun n ha h0 h1 h2 => by simp only [SU, ha, h0, h1, h2] <;> omega))
       clear Ta)
    | (go_at_call 191
       refine (DoesG.use (HTH.out _ _ _ _ _) HT1.out [4, 6] rfl rfl).mono ?_
       rintro e w8 ⟨gs, ⟨bs, br, rfl, rfl⟩, Ta⟩
       simp only [putG, List.set_cons_zero, List.set_cons_succ] at Ta
       have e0 := Ta.cell 5 0 rfl 0
       have e1 := Ta.cell 5 0 rfl 1
       have f0 := Ta.free 5 0 rfl 0
       have f1 := Ta.free 5 0 rfl 1
       simp only [List.getElem?_toArray, List.getElem?_cons_zero, List.getElem?_cons_succ] at e0 e1
       have HT2 := Lib.hid Ta
       clear Ta))
  all_goals
    exact HK.out _ _ _ _ _ _ _ _ _ _ _ _ ⟨bs, br, _, _, _, _, rfl, rfl, HRW.out _ _ _ _ _, ⟨rfl, rfl⟩, rfl⟩ ((((HT2.out.set 5 0 rfl 0 _).set 5 0 rfl 1 _).pick [0, 1, 2, 3, 4, 5] rfl).eq rfl)
end
end Go.Proofs.YtblhfbcodbjgcaaGreat
