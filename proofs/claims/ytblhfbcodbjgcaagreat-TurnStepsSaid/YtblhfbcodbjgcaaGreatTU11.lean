import Derived.Test.YtblhfbcodbjgcaaGreatTU9
import Derived.Test.YtblhfbcodbjgcaaGreatTU10
namespace Go.Proofs.YtblhfbcodbjgcaaGreat
set_option linter.unusedVariables false
set_option linter.unusedSimpArgs false
open Go.RowKit Go.Shelf
theorem gen_r (n : Int) (h0 : 0 ≤ n) (h1 : n < 18446744073709551616) : ReadsG Tryz.prog 209 #[.int .u64 n] [] (.int .u64 (genW n)) :=
  fun w hw => (gen_calls n w h0 h1).mono fun e w' ⟨he, hw'⟩ => ⟨he, 0, hw'.symm⟩
section
variable {L : Lay} {x : CoreS} {gK gF : List Blk} {kb : Nat} {pv : Value} {k : WorkS}
set_option maxHeartbeats 4000000 in
set_option maxRecDepth 100000 in
theorem mTries (hz : rep2 L kb pv k x gK gF) (hp : preMC .tries (k, x)) : DoesG Tryz.prog 175 #[ptr' kb] [gK, gF] (MRz L kb pv (runC .tries (k, x))) := by
  obtain ⟨hok, hwk, _⟩ := hp
  simp only at hok hwk
  have hwb := try_word hok.slab k.slot k.saw k.event hwk.saw.1 hwk.saw.2.1 hwk.saw.2.2
  have HTRY := Lib.hid (show ∀ g, isCore L x g → _ from fun g hx => coreTry (g := g) hx hok.slab.n1 k.slot k.saw k.event hwk.saw.1 hwk.saw.2.1)
  have hE : ∀ s2 w2 er, x.slab.try k.slot k.saw k.event = (s2, w2, er) → runC .tries (k, x) =
      if er ≠ 0 then (if k.kind = 3 then (.at none .again, ({ k with gen := genW w2 }, { x with slab := s2 })) else (.at none .looks, ({ k with gen := genW w2 }, { x with slab := s2 })))
      else if k.kind = 3 then (.at none .fills, noteZ { ev0 with kind := 6, id := k.id, gen := genW w2, dl := k.cdl } (okC { k with gen := genW w2 }, { x with slab := s2 }))
      else if k.kind = 5 then (.row1 .ends1, noteZ { ev0 with kind := 8, id := k.id, gen := genW w2 } (okC { k with gen := genW w2 }, { x with slab := s2 }))
      else (.thn (.row2 .tries1 .drop) .ends, noteZ { ev0 with kind := 7, id := k.id, gen := genW w2 } (okC { k with gen := genW w2 }, { x with slab := s2 })) := by
    intro s2 w2 er h
    show (if (tryC (k, x)).2 ≠ 0 then _ else _) = _
    simp only [tryC, h]
  obtain ⟨s2, w2, er, hl⟩ : ∃ s2 w2 er, x.slab.try k.slot k.saw k.event = (s2, w2, er) := ⟨_, _, _, rfl⟩
  rw [hE s2 w2 er hl]
  rw [hl] at HTRY hwb
  have HWB := Lib.hid hwb
  have HLN := Lib.hid (show ({ x with slab := s2 } : CoreS).tr.length ≤ 1000000 from hok.tr)
  clear hE hl hok hwk hwb
  by_cases h0 : er = 0
  · rw [if_neg (by simpa using h0)]
    rw [h0] at HTRY
    clear h0
    by_cases h3 : k.kind = 3
    · rw [if_pos h3]
      unfold MRz
      dsimp only [noteZ, okC]
      obtain ⟨rv, tv, gq, gt, hr, ht, rfl, hx⟩ := hz
      intro w hw
      have T0 := TG.refl hw
      have HT := Lib.hid T0
      clear hw T0
      have HT := Lib.hid (HT.out.sum (H' := [workB kb L.fb pv rv tv k, gq, gt, gF]) (fun n ha h0 h1 h2 => by simp only [SU, ha, h0, h1, h2] <;> omega))
      have HX := Lib.hid hx
      have HR := Lib.hid hr
      have HTK := Lib.hid ht
      clear hx hr ht
      go_enter Tryz.func175, Tryz.ntmps175
      go_wp2
      have HT := Lib.hid ((HT.out.alloc (k := w.heap.size) rfl 33 #[ptr' kb]).alloc (k := w.heap.size + 1) (by simp) 148 #[.nilFunc, .nilFunc])
      generalize World.alloc _ _ = wa at HT ⊢
      simp only [List.cons_append, List.nil_append] at HT
      have b0 := HT.out.cell 4 0 rfl 0
      simp only [List.getElem?_nil, List.getElem?_toArray, List.getElem?_cons_zero, List.getElem?_cons_succ] at b0
      have k0 := HT.out.cell 0 0 rfl 0
      have k16 := HT.out.cell 0 0 rfl 16
      have k17 := HT.out.cell 0 0 rfl 17
      simp only [workC, List.getElem?_toArray, List.getElem?_cons_zero, List.getElem?_cons_succ] at k0 k16 k17
      refine wp_region_mix1 15 (by kernel_rfl) (by kernel_rfl) ?_
      simp only [List.take_succ_cons, List.take_zero, List.drop_succ_cons, List.drop_zero]
      repeat (go_big_quiet_step ((first | (go_at_call 22; with_reducible exact ReadsG.quiet (coreSlab_r HX.out) HT.out _ [3] rfl rfl) | (go_at_call 206; with_reducible exact ReadsG.quiet (workKind_r (L := L)) HT.out _ [0] rfl rfl))))
      refine wpQuiet_nil ?_
      intro _ hw'
      obtain ⟨nq, hw''⟩ := hw'
      subst hw''
      have HT := Lib.hid (HT.out.drewN nq)
      go_wp2_with fail
      refine (DoesG.use (HTRY.out _ HX.out) (HT.out) [3] rfl rfl).mono ?_
      rintro e w1 ⟨gs, ⟨rfl, g1, hx1, rfl⟩, Ta⟩
      simp only [PU] at Ta
      have HX := Lib.hid hx1
      clear hx1 k0 k16 k17 b0
      have HT := Lib.hid Ta
      clear Ta
      go_wp2_with fail
      refine ⟨rfl, ?_⟩
      have b0 := HT.out.cell 4 0 rfl 0
      simp only [List.getElem?_nil, List.getElem?_toArray, List.getElem?_cons_zero, List.getElem?_cons_succ] at b0
      have k18 := HT.out.cell 0 0 rfl 18
      have fk18 := HT.out.free 0 0 rfl 18
      simp only [workC, List.getElem?_toArray, List.getElem?_cons_zero, List.getElem?_cons_succ] at k18
      go_wp2
      refine wp_region_mix1 3 (by kernel_rfl) (by kernel_rfl) ?_
      simp only [List.take_succ_cons, List.take_zero, List.drop_succ_cons, List.drop_zero]
      repeat (go_big_quiet_step ((first | (go_at_call 209; with_reducible exact ReadsG.quiet (gen_r _ HWB.out.1 HWB.out.2) HT.out _ [] rfl rfl))))
      refine wpQuiet_nil ?_
      intro _ hw'
      obtain ⟨nq, hw''⟩ := hw'
      subst hw''
      have HT := Lib.hid (HT.out.drewN nq)
      go_wp2_with fail
      refine ⟨rfl, ?_⟩
      have HT := Lib.hid ((HT.out.set 0 0 rfl 18 (.int .u64 (genW w2))).eq (H' := [workB kb L.fb pv rv tv { k with gen := genW w2 }, gq, gt, g1, [cl w.heap.size 33 #[ptr' kb]], [cl (w.heap.size + 1) 148 #[.nilFunc, .nilFunc]]]) rfl)
      clear b0 k18 fk18
      generalize World.setCell _ _ _ = w4 at HT ⊢
      have b0 := HT.out.cell 4 0 rfl 0
      simp only [List.getElem?_nil, List.getElem?_toArray, List.getElem?_cons_zero, List.getElem?_cons_succ] at b0
      have k3 := HT.out.cell 0 0 rfl 3
      have k15 := HT.out.cell 0 0 rfl 15
      have k18 := HT.out.cell 0 0 rfl 18
      have k7 := HT.out.cell 0 0 rfl 7
      have fk7 := HT.out.free 0 0 rfl 7
      have k8 := HT.out.cell 0 0 rfl 8
      have fk8 := HT.out.free 0 0 rfl 8
      have k9 := HT.out.cell 0 0 rfl 9
      have fk9 := HT.out.free 0 0 rfl 9
      have k10 := HT.out.cell 0 0 rfl 10
      have fk10 := HT.out.free 0 0 rfl 10
      have k11 := HT.out.cell 0 0 rfl 11
      have fk11 := HT.out.free 0 0 rfl 11
      simp only [workC, List.getElem?_toArray, List.getElem?_cons_zero, List.getElem?_cons_succ] at k3 k15 k18 k7 k8 k9 k10 k11
      go_wp2
      refine wp_region_mix1 10 (by kernel_rfl) (by kernel_rfl) ?_
      simp only [List.take_succ_cons, List.take_zero, List.drop_succ_cons, List.drop_zero]
      repeat (go_big_quiet_step ((fail)))
      refine wpQuiet_nil ?_
      intro _ hw'
      obtain ⟨nq, hw''⟩ := hw'
      subst hw''
      have HT := Lib.hid (HT.out.drewN nq)
      go_wp2_with fail
      refine ⟨rfl, ?_⟩
      have HT := Lib.hid ((((((HT.out.set 0 0 rfl 7 (.int .i64 0)).set 0 0 rfl 8 (.bool true)).set 0 0 rfl 9 (.int .u64 k.id)).set 0 0 rfl 10 (.int .u64 (genW w2))).set 0 0 rfl 11 (.slice none 0 0)).eq (H' := [workB kb L.fb pv rv tv { k with gen := genW w2, err := 0, ok := true, aid := k.id, agen := genW w2 }, gq, gt, g1, [cl w.heap.size 33 #[ptr' kb]], [cl (w.heap.size + 1) 148 #[.nilFunc, .nilFunc]]]) rfl)
      clear b0 k3 k15 k18 k7 k8 k9 k10 k11 fk7 fk8 fk9 fk10 fk11
      generalize World.setCell _ _ _ = w5 at HT ⊢
      have b0 := HT.out.cell 4 0 rfl 0
      simp only [List.getElem?_nil, List.getElem?_toArray, List.getElem?_cons_zero, List.getElem?_cons_succ] at b0
      have k3 := HT.out.cell 0 0 rfl 3
      have k5 := HT.out.cell 0 0 rfl 5
      have k15 := HT.out.cell 0 0 rfl 15
      have k18 := HT.out.cell 0 0 rfl 18
      simp only [workC, List.getElem?_toArray, List.getElem?_cons_zero, List.getElem?_cons_succ] at k3 k5 k15 k18
      rw [h3] at k3
      clear h3
      go_wp2
      refine wp_region_mix1 15 (by kernel_rfl) (by kernel_rfl) ?_
      simp only [List.take_succ_cons, List.take_zero, List.drop_succ_cons, List.drop_zero]
      repeat (go_big_quiet_step ((fail)))
      refine wpQuiet_nil ?_
      intro _ hw'
      obtain ⟨nq, hw''⟩ := hw'
      subst hw''
      have HT := Lib.hid (HT.out.drewN nq)
      go_wp2_with fail
      refine (DoesG.use (workNote HX.out { ev0 with kind := 6, id := k.id, gen := genW w2, dl := k.cdl } HLN.out) (HT.out) [0, 3] rfl rfl).mono ?_
      rintro e w1 ⟨gs, ⟨rfl, g2, hx2, rfl⟩, Ta⟩
      simp only [PU] at Ta
      have HX := Lib.hid hx2
      clear hx2 k3 k5 k15 k18 b0
      have HT := Lib.hid Ta
      clear Ta
      go_wp2_with fail
      refine ⟨rfl, ?_⟩
      have b0 := HT.out.cell 4 0 rfl 0
      simp only [List.getElem?_nil, List.getElem?_toArray, List.getElem?_cons_zero, List.getElem?_cons_succ] at b0
      go_wp2_with fail
      refine (DoesG.use (callsAt) (HT.out) [] rfl rfl).mono ?_
      rintro e w1 ⟨gs, ⟨rfl, rfl⟩, Ta⟩
      simp only [PU] at Ta
      have HT := Lib.hid Ta
      clear Ta
      have e0 := HT.out.cell 5 0 rfl 0
      have fe0 := HT.out.free 5 0 rfl 0
      have e1 := HT.out.cell 5 0 rfl 1
      have fe1 := HT.out.free 5 0 rfl 1
      simp only [List.getElem?_nil, List.getElem?_toArray, List.getElem?_cons_zero, List.getElem?_cons_succ] at e0 e1
      go_wp2
      exact bodyPost_ret (v := .agg #[.nilFunc, .func (.func 210) #[ptr' kb] #[]]) (by simp [results, Tryz.results175, go_sem, e0, e1]) rfl ⟨_, ⟨_, _, [], _, _, rfl, ⟨rfl, rfl, rfl⟩, ⟨_, _, gq, gt, HR.out, HTK.out, rfl, HX.out⟩, rfl⟩, (((HT.out.set 5 0 rfl 0 _).set 5 0 rfl 1 _).pick [0, 1, 2, 3] rfl).sum (fun n ha h0 h1 h2 => by simp only [SU, ha, h0, h1, h2] <;> omega)⟩
    · rw [if_neg h3]
      by_cases h5 : k.kind = 5
      · rw [if_pos h5]
        clear h3
        unfold MRz
        dsimp only [noteZ, okC]
        obtain ⟨rv, tv, gq, gt, hr, ht, rfl, hx⟩ := hz
        intro w hw
        have T0 := TG.refl hw
        have HT := Lib.hid T0
        clear hw T0
        have HT := Lib.hid (HT.out.sum (H' := [workB kb L.fb pv rv tv k, gq, gt, gF]) (fun n ha h0 h1 h2 => by simp only [SU, ha, h0, h1, h2] <;> omega))
        have HX := Lib.hid hx
        have HR := Lib.hid hr
        have HTK := Lib.hid ht
        clear hx hr ht
        go_enter Tryz.func175, Tryz.ntmps175
        go_wp2
        have HT := Lib.hid ((HT.out.alloc (k := w.heap.size) rfl 33 #[ptr' kb]).alloc (k := w.heap.size + 1) (by simp) 148 #[.nilFunc, .nilFunc])
        generalize World.alloc _ _ = wa at HT ⊢
        simp only [List.cons_append, List.nil_append] at HT
        have b0 := HT.out.cell 4 0 rfl 0
        simp only [List.getElem?_nil, List.getElem?_toArray, List.getElem?_cons_zero, List.getElem?_cons_succ] at b0
        have k0 := HT.out.cell 0 0 rfl 0
        have k16 := HT.out.cell 0 0 rfl 16
        have k17 := HT.out.cell 0 0 rfl 17
        simp only [workC, List.getElem?_toArray, List.getElem?_cons_zero, List.getElem?_cons_succ] at k0 k16 k17
        refine wp_region_mix1 15 (by kernel_rfl) (by kernel_rfl) ?_
        simp only [List.take_succ_cons, List.take_zero, List.drop_succ_cons, List.drop_zero]
        repeat (go_big_quiet_step ((first | (go_at_call 22; with_reducible exact ReadsG.quiet (coreSlab_r HX.out) HT.out _ [3] rfl rfl) | (go_at_call 206; with_reducible exact ReadsG.quiet (workKind_r (L := L)) HT.out _ [0] rfl rfl))))
        refine wpQuiet_nil ?_
        intro _ hw'
        obtain ⟨nq, hw''⟩ := hw'
        subst hw''
        have HT := Lib.hid (HT.out.drewN nq)
        go_wp2_with fail
        refine (DoesG.use (HTRY.out _ HX.out) (HT.out) [3] rfl rfl).mono ?_
        rintro e w1 ⟨gs, ⟨rfl, g1, hx1, rfl⟩, Ta⟩
        simp only [PU] at Ta
        have HX := Lib.hid hx1
        clear hx1 k0 k16 k17 b0
        have HT := Lib.hid Ta
        clear Ta
        go_wp2_with fail
        refine ⟨rfl, ?_⟩
        have b0 := HT.out.cell 4 0 rfl 0
        simp only [List.getElem?_nil, List.getElem?_toArray, List.getElem?_cons_zero, List.getElem?_cons_succ] at b0
        have k18 := HT.out.cell 0 0 rfl 18
        have fk18 := HT.out.free 0 0 rfl 18
        simp only [workC, List.getElem?_toArray, List.getElem?_cons_zero, List.getElem?_cons_succ] at k18
        go_wp2
        refine wp_region_mix1 3 (by kernel_rfl) (by kernel_rfl) ?_
        simp only [List.take_succ_cons, List.take_zero, List.drop_succ_cons, List.drop_zero]
        repeat (go_big_quiet_step ((first | (go_at_call 209; with_reducible exact ReadsG.quiet (gen_r _ HWB.out.1 HWB.out.2) HT.out _ [] rfl rfl))))
        refine wpQuiet_nil ?_
        intro _ hw'
        obtain ⟨nq, hw''⟩ := hw'
        subst hw''
        have HT := Lib.hid (HT.out.drewN nq)
        go_wp2_with fail
        refine ⟨rfl, ?_⟩
        have HT := Lib.hid ((HT.out.set 0 0 rfl 18 (.int .u64 (genW w2))).eq (H' := [workB kb L.fb pv rv tv { k with gen := genW w2 }, gq, gt, g1, [cl w.heap.size 33 #[ptr' kb]], [cl (w.heap.size + 1) 148 #[.nilFunc, .nilFunc]]]) rfl)
        clear b0 k18 fk18
        generalize World.setCell _ _ _ = w4 at HT ⊢
        have b0 := HT.out.cell 4 0 rfl 0
        simp only [List.getElem?_nil, List.getElem?_toArray, List.getElem?_cons_zero, List.getElem?_cons_succ] at b0
        have k3 := HT.out.cell 0 0 rfl 3
        have k15 := HT.out.cell 0 0 rfl 15
        have k18 := HT.out.cell 0 0 rfl 18
        have k7 := HT.out.cell 0 0 rfl 7
        have fk7 := HT.out.free 0 0 rfl 7
        have k8 := HT.out.cell 0 0 rfl 8
        have fk8 := HT.out.free 0 0 rfl 8
        have k9 := HT.out.cell 0 0 rfl 9
        have fk9 := HT.out.free 0 0 rfl 9
        have k10 := HT.out.cell 0 0 rfl 10
        have fk10 := HT.out.free 0 0 rfl 10
        have k11 := HT.out.cell 0 0 rfl 11
        have fk11 := HT.out.free 0 0 rfl 11
        simp only [workC, List.getElem?_toArray, List.getElem?_cons_zero, List.getElem?_cons_succ] at k3 k15 k18 k7 k8 k9 k10 k11
        go_wp2
        refine wp_region_mix1 10 (by kernel_rfl) (by kernel_rfl) ?_
        simp only [List.take_succ_cons, List.take_zero, List.drop_succ_cons, List.drop_zero]
        repeat (go_big_quiet_step ((fail)))
        refine wpQuiet_nil ?_
        intro _ hw'
        obtain ⟨nq, hw''⟩ := hw'
        subst hw''
        have HT := Lib.hid (HT.out.drewN nq)
        go_wp2_with fail
        refine ⟨rfl, ?_⟩
        have HT := Lib.hid ((((((HT.out.set 0 0 rfl 7 (.int .i64 0)).set 0 0 rfl 8 (.bool true)).set 0 0 rfl 9 (.int .u64 k.id)).set 0 0 rfl 10 (.int .u64 (genW w2))).set 0 0 rfl 11 (.slice none 0 0)).eq (H' := [workB kb L.fb pv rv tv { k with gen := genW w2, err := 0, ok := true, aid := k.id, agen := genW w2 }, gq, gt, g1, [cl w.heap.size 33 #[ptr' kb]], [cl (w.heap.size + 1) 148 #[.nilFunc, .nilFunc]]]) rfl)
        clear b0 k3 k15 k18 k7 k8 k9 k10 k11 fk7 fk8 fk9 fk10 fk11
        generalize World.setCell _ _ _ = w5 at HT ⊢
        have b0 := HT.out.cell 4 0 rfl 0
        simp only [List.getElem?_nil, List.getElem?_toArray, List.getElem?_cons_zero, List.getElem?_cons_succ] at b0
        have k3 := HT.out.cell 0 0 rfl 3
        have k5 := HT.out.cell 0 0 rfl 5
        have k15 := HT.out.cell 0 0 rfl 15
        have k18 := HT.out.cell 0 0 rfl 18
        simp only [workC, List.getElem?_toArray, List.getElem?_cons_zero, List.getElem?_cons_succ] at k3 k5 k15 k18
        rw [h5] at k3
        clear h5
        go_wp2
        refine wp_region_mix1 10 (by kernel_rfl) (by kernel_rfl) ?_
        simp only [List.take_succ_cons, List.take_zero, List.drop_succ_cons, List.drop_zero]
        repeat (go_big_quiet_step ((fail)))
        refine wpQuiet_nil ?_
        intro _ hw'
        obtain ⟨nq, hw''⟩ := hw'
        subst hw''
        have HT := Lib.hid (HT.out.drewN nq)
        go_wp2_with fail
        refine (DoesG.use (workNote HX.out { ev0 with kind := 8, id := k.id, gen := genW w2 } HLN.out) (HT.out) [0, 3] rfl rfl).mono ?_
        rintro e w1 ⟨gs, ⟨rfl, g2, hx2, rfl⟩, Ta⟩
        simp only [PU] at Ta
        have HX := Lib.hid hx2
        clear hx2 k3 k5 k15 k18 b0
        have HT := Lib.hid Ta
        clear Ta
        go_wp2_with fail
        refine ⟨rfl, ?_⟩
        have b0 := HT.out.cell 4 0 rfl 0
        simp only [List.getElem?_nil, List.getElem?_toArray, List.getElem?_cons_zero, List.getElem?_cons_succ] at b0
        go_wp2_with fail
        refine (DoesG.use (sEnds L kb pv) (HT.out) [] rfl rfl).mono ?_
        rintro e w1 ⟨gs, ⟨m2, d2, g2, rfl, hs2, rfl⟩, Ta⟩
        simp only [PU] at Ta
        have HT := Lib.hid Ta
        clear Ta
        have e0 := HT.out.cell 5 0 rfl 0
        have fe0 := HT.out.free 5 0 rfl 0
        have e1 := HT.out.cell 5 0 rfl 1
        have fe1 := HT.out.free 5 0 rfl 1
        simp only [List.getElem?_nil, List.getElem?_toArray, List.getElem?_cons_zero, List.getElem?_cons_succ] at e0 e1
        have hv2 := (cliC_vals L kb pv).vals hs2
        obtain ⟨st1, st2⟩ := Cli.store_fv2 (P := Tryz.prog) hv2.1 hv2.2 e0 fe0 e1 fe1
        have HS := Lib.hid hs2
        clear hv2 hs2
        go_wp2
        exact bodyPost_ret (v := .agg #[_, _]) (by simp [results, Tryz.results175, go_sem, e0, e1]) rfl ⟨_, ⟨m2, d2, g2, _, _, rfl, HS.out, ⟨_, _, gq, gt, HR.out, HTK.out, rfl, HX.out⟩, rfl⟩, (((HT.out.set 5 0 rfl 0 _).set 5 0 rfl 1 _).pick [0, 1, 2, 3, 6] rfl).sum (fun n ha h0 h1 h2 => by simp only [SU, ha, h0, h1, h2] <;> omega)⟩
      · rw [if_neg h5]
        have hb3 : (k.kind == 3) = false := beq_eq_false_iff_ne.2 h3
        have hb5 : (k.kind == 5) = false := beq_eq_false_iff_ne.2 h5
        clear h3 h5
        unfold MRz
        dsimp only [noteZ, okC]
        obtain ⟨rv, tv, gq, gt, hr, ht, rfl, hx⟩ := hz
        intro w hw
        have T0 := TG.refl hw
        have HT := Lib.hid T0
        clear hw T0
        have HT := Lib.hid (HT.out.sum (H' := [workB kb L.fb pv rv tv k, gq, gt, gF]) (fun n ha h0 h1 h2 => by simp only [SU, ha, h0, h1, h2] <;> omega))
        have HX := Lib.hid hx
        have HR := Lib.hid hr
        have HTK := Lib.hid ht
        clear hx hr ht
        go_enter Tryz.func175, Tryz.ntmps175
        go_wp2
        have HT := Lib.hid ((HT.out.alloc (k := w.heap.size) rfl 33 #[ptr' kb]).alloc (k := w.heap.size + 1) (by simp) 148 #[.nilFunc, .nilFunc])
        generalize World.alloc _ _ = wa at HT ⊢
        simp only [List.cons_append, List.nil_append] at HT
        have b0 := HT.out.cell 4 0 rfl 0
        simp only [List.getElem?_nil, List.getElem?_toArray, List.getElem?_cons_zero, List.getElem?_cons_succ] at b0
        have k0 := HT.out.cell 0 0 rfl 0
        have k16 := HT.out.cell 0 0 rfl 16
        have k17 := HT.out.cell 0 0 rfl 17
        simp only [workC, List.getElem?_toArray, List.getElem?_cons_zero, List.getElem?_cons_succ] at k0 k16 k17
        refine wp_region_mix1 15 (by kernel_rfl) (by kernel_rfl) ?_
        simp only [List.take_succ_cons, List.take_zero, List.drop_succ_cons, List.drop_zero]
        repeat (go_big_quiet_step ((first | (go_at_call 22; with_reducible exact ReadsG.quiet (coreSlab_r HX.out) HT.out _ [3] rfl rfl) | (go_at_call 206; with_reducible exact ReadsG.quiet (workKind_r (L := L)) HT.out _ [0] rfl rfl))))
        refine wpQuiet_nil ?_
        intro _ hw'
        obtain ⟨nq, hw''⟩ := hw'
        subst hw''
        have HT := Lib.hid (HT.out.drewN nq)
        go_wp2_with fail
        refine (DoesG.use (HTRY.out _ HX.out) (HT.out) [3] rfl rfl).mono ?_
        rintro e w1 ⟨gs, ⟨rfl, g1, hx1, rfl⟩, Ta⟩
        simp only [PU] at Ta
        have HX := Lib.hid hx1
        clear hx1 k0 k16 k17 b0
        have HT := Lib.hid Ta
        clear Ta
        go_wp2_with fail
        refine ⟨rfl, ?_⟩
        have b0 := HT.out.cell 4 0 rfl 0
        simp only [List.getElem?_nil, List.getElem?_toArray, List.getElem?_cons_zero, List.getElem?_cons_succ] at b0
        have k18 := HT.out.cell 0 0 rfl 18
        have fk18 := HT.out.free 0 0 rfl 18
        simp only [workC, List.getElem?_toArray, List.getElem?_cons_zero, List.getElem?_cons_succ] at k18
        go_wp2
        refine wp_region_mix1 3 (by kernel_rfl) (by kernel_rfl) ?_
        simp only [List.take_succ_cons, List.take_zero, List.drop_succ_cons, List.drop_zero]
        repeat (go_big_quiet_step ((first | (go_at_call 209; with_reducible exact ReadsG.quiet (gen_r _ HWB.out.1 HWB.out.2) HT.out _ [] rfl rfl))))
        refine wpQuiet_nil ?_
        intro _ hw'
        obtain ⟨nq, hw''⟩ := hw'
        subst hw''
        have HT := Lib.hid (HT.out.drewN nq)
        go_wp2_with fail
        refine ⟨rfl, ?_⟩
        have HT := Lib.hid ((HT.out.set 0 0 rfl 18 (.int .u64 (genW w2))).eq (H' := [workB kb L.fb pv rv tv { k with gen := genW w2 }, gq, gt, g1, [cl w.heap.size 33 #[ptr' kb]], [cl (w.heap.size + 1) 148 #[.nilFunc, .nilFunc]]]) rfl)
        clear b0 k18 fk18
        generalize World.setCell _ _ _ = w4 at HT ⊢
        have b0 := HT.out.cell 4 0 rfl 0
        simp only [List.getElem?_nil, List.getElem?_toArray, List.getElem?_cons_zero, List.getElem?_cons_succ] at b0
        have k3 := HT.out.cell 0 0 rfl 3
        have k15 := HT.out.cell 0 0 rfl 15
        have k18 := HT.out.cell 0 0 rfl 18
        have k7 := HT.out.cell 0 0 rfl 7
        have fk7 := HT.out.free 0 0 rfl 7
        have k8 := HT.out.cell 0 0 rfl 8
        have fk8 := HT.out.free 0 0 rfl 8
        have k9 := HT.out.cell 0 0 rfl 9
        have fk9 := HT.out.free 0 0 rfl 9
        have k10 := HT.out.cell 0 0 rfl 10
        have fk10 := HT.out.free 0 0 rfl 10
        have k11 := HT.out.cell 0 0 rfl 11
        have fk11 := HT.out.free 0 0 rfl 11
        simp only [workC, List.getElem?_toArray, List.getElem?_cons_zero, List.getElem?_cons_succ] at k3 k15 k18 k7 k8 k9 k10 k11
        go_wp2
        refine wp_region_mix1 10 (by kernel_rfl) (by kernel_rfl) ?_
        simp only [List.take_succ_cons, List.take_zero, List.drop_succ_cons, List.drop_zero]
        repeat (go_big_quiet_step ((fail)))
        refine wpQuiet_nil ?_
        intro _ hw'
        obtain ⟨nq, hw''⟩ := hw'
        subst hw''
        have HT := Lib.hid (HT.out.drewN nq)
        go_wp2_with fail
        refine ⟨rfl, ?_⟩
        have HT := Lib.hid ((((((HT.out.set 0 0 rfl 7 (.int .i64 0)).set 0 0 rfl 8 (.bool true)).set 0 0 rfl 9 (.int .u64 k.id)).set 0 0 rfl 10 (.int .u64 (genW w2))).set 0 0 rfl 11 (.slice none 0 0)).eq (H' := [workB kb L.fb pv rv tv { k with gen := genW w2, err := 0, ok := true, aid := k.id, agen := genW w2 }, gq, gt, g1, [cl w.heap.size 33 #[ptr' kb]], [cl (w.heap.size + 1) 148 #[.nilFunc, .nilFunc]]]) rfl)
        clear b0 k3 k15 k18 k7 k8 k9 k10 k11 fk7 fk8 fk9 fk10 fk11
        generalize World.setCell _ _ _ = w5 at HT ⊢
        have b0 := HT.out.cell 4 0 rfl 0
        simp only [List.getElem?_nil, List.getElem?_toArray, List.getElem?_cons_zero, List.getElem?_cons_succ] at b0
        have k3 := HT.out.cell 0 0 rfl 3
        have k5 := HT.out.cell 0 0 rfl 5
        have k15 := HT.out.cell 0 0 rfl 15
        have k18 := HT.out.cell 0 0 rfl 18
        simp only [workC, List.getElem?_toArray, List.getElem?_cons_zero, List.getElem?_cons_succ] at k3 k5 k15 k18
        go_wp2
        refine wp_region_mix1 10 (by kernel_rfl) (by kernel_rfl) ?_
        simp only [List.take_succ_cons, List.take_zero, List.drop_succ_cons, List.drop_zero]
        repeat (go_big_quiet_step ((fail)))
        refine wpQuiet_nil ?_
        intro _ hw'
        obtain ⟨nq, hw''⟩ := hw'
        subst hw''
        have HT := Lib.hid (HT.out.drewN nq)
        go_wp2_with fail
        refine (DoesG.use (workNote HX.out { ev0 with kind := 7, id := k.id, gen := genW w2 } HLN.out) (HT.out) [0, 3] rfl rfl).mono ?_
        rintro e w1 ⟨gs, ⟨rfl, g2, hx2, rfl⟩, Ta⟩
        simp only [PU] at Ta
        have HX := Lib.hid hx2
        clear hx2 k3 k5 k15 k18 b0
        have HT := Lib.hid Ta
        clear Ta
        go_wp2_with fail
        refine ⟨rfl, ?_⟩
        have b0 := HT.out.cell 4 0 rfl 0
        simp only [List.getElem?_nil, List.getElem?_toArray, List.getElem?_cons_zero, List.getElem?_cons_succ] at b0
        go_wp2_with fail
        refine tries16 (L := L) (pv := pv) (g0 := workB kb L.fb pv rv tv { k with gen := genW w2, err := 0, ok := true, aid := k.id, agen := genW w2 }) (g1 := gq) (g2 := gt) (g3 := g2) HT.out ?_
        intro w9 m2 d2 g9 v113 v114 v115 v116 v117 v118 v119 v120 hs2 T9
        have hv2 := (cliC_vals L kb pv).vals hs2
        have HS2 := Lib.hid hs2
        have HT := Lib.hid T9
        clear T9 hs2 b0
        have e0 := HT.out.cell 5 0 rfl 0
        have e1 := HT.out.cell 5 0 rfl 1
        simp only [List.getElem?_nil, List.getElem?_toArray, List.getElem?_cons_zero, List.getElem?_cons_succ] at e0 e1
        go_wp2
        exact bodyPost_ret (v := .agg #[m2, d2]) (by simp [results, Tryz.results175, go_sem, e0, e1]) rfl ⟨_, ⟨m2, d2, g9, _, _, rfl, HS2.out, ⟨_, _, gq, gt, HR.out, HTK.out, rfl, HX.out⟩, rfl⟩, (HT.out.pick [0, 1, 2, 3, 4] rfl).sum (fun n ha h0 h1 h2 => by simp only [SU, ha, h0, h1, h2] <;> omega)⟩
  · rw [if_pos h0]
    have hbe : (er != 0) = true := bne_iff_ne.2 h0
    clear h0
    by_cases h3 : k.kind = 3
    · rw [if_pos h3]
      unfold MRz
      dsimp only [noteZ, okC]
      obtain ⟨rv, tv, gq, gt, hr, ht, rfl, hx⟩ := hz
      intro w hw
      have T0 := TG.refl hw
      have HT := Lib.hid T0
      clear hw T0
      have HT := Lib.hid (HT.out.sum (H' := [workB kb L.fb pv rv tv k, gq, gt, gF]) (fun n ha h0 h1 h2 => by simp only [SU, ha, h0, h1, h2] <;> omega))
      have HX := Lib.hid hx
      have HR := Lib.hid hr
      have HTK := Lib.hid ht
      clear hx hr ht
      go_enter Tryz.func175, Tryz.ntmps175
      go_wp2
      have HT := Lib.hid ((HT.out.alloc (k := w.heap.size) rfl 33 #[ptr' kb]).alloc (k := w.heap.size + 1) (by simp) 148 #[.nilFunc, .nilFunc])
      generalize World.alloc _ _ = wa at HT ⊢
      simp only [List.cons_append, List.nil_append] at HT
      have b0 := HT.out.cell 4 0 rfl 0
      simp only [List.getElem?_nil, List.getElem?_toArray, List.getElem?_cons_zero, List.getElem?_cons_succ] at b0
      have k0 := HT.out.cell 0 0 rfl 0
      have k16 := HT.out.cell 0 0 rfl 16
      have k17 := HT.out.cell 0 0 rfl 17
      simp only [workC, List.getElem?_toArray, List.getElem?_cons_zero, List.getElem?_cons_succ] at k0 k16 k17
      refine wp_region_mix1 15 (by kernel_rfl) (by kernel_rfl) ?_
      simp only [List.take_succ_cons, List.take_zero, List.drop_succ_cons, List.drop_zero]
      repeat (go_big_quiet_step ((first | (go_at_call 22; with_reducible exact ReadsG.quiet (coreSlab_r HX.out) HT.out _ [3] rfl rfl) | (go_at_call 206; with_reducible exact ReadsG.quiet (workKind_r (L := L)) HT.out _ [0] rfl rfl))))
      refine wpQuiet_nil ?_
      intro _ hw'
      obtain ⟨nq, hw''⟩ := hw'
      subst hw''
      have HT := Lib.hid (HT.out.drewN nq)
      go_wp2_with fail
      refine (DoesG.use (HTRY.out _ HX.out) (HT.out) [3] rfl rfl).mono ?_
      rintro e w1 ⟨gs, ⟨rfl, g1, hx1, rfl⟩, Ta⟩
      simp only [PU] at Ta
      have HX := Lib.hid hx1
      clear hx1 k0 k16 k17 b0
      have HT := Lib.hid Ta
      clear Ta
      go_wp2_with fail
      refine ⟨rfl, ?_⟩
      have b0 := HT.out.cell 4 0 rfl 0
      simp only [List.getElem?_nil, List.getElem?_toArray, List.getElem?_cons_zero, List.getElem?_cons_succ] at b0
      have k18 := HT.out.cell 0 0 rfl 18
      have fk18 := HT.out.free 0 0 rfl 18
      simp only [workC, List.getElem?_toArray, List.getElem?_cons_zero, List.getElem?_cons_succ] at k18
      go_wp2
      refine wp_region_mix1 3 (by kernel_rfl) (by kernel_rfl) ?_
      simp only [List.take_succ_cons, List.take_zero, List.drop_succ_cons, List.drop_zero]
      repeat (go_big_quiet_step ((first | (go_at_call 209; with_reducible exact ReadsG.quiet (gen_r _ HWB.out.1 HWB.out.2) HT.out _ [] rfl rfl))))
      refine wpQuiet_nil ?_
      intro _ hw'
      obtain ⟨nq, hw''⟩ := hw'
      subst hw''
      have HT := Lib.hid (HT.out.drewN nq)
      go_wp2_with fail
      refine ⟨rfl, ?_⟩
      have HT := Lib.hid ((HT.out.set 0 0 rfl 18 (.int .u64 (genW w2))).eq (H' := [workB kb L.fb pv rv tv { k with gen := genW w2 }, gq, gt, g1, [cl w.heap.size 33 #[ptr' kb]], [cl (w.heap.size + 1) 148 #[.nilFunc, .nilFunc]]]) rfl)
      clear b0 k18 fk18
      generalize World.setCell _ _ _ = w4 at HT ⊢
      have b0 := HT.out.cell 4 0 rfl 0
      simp only [List.getElem?_nil, List.getElem?_toArray, List.getElem?_cons_zero, List.getElem?_cons_succ] at b0
      have k3 := HT.out.cell 0 0 rfl 3
      simp only [workC, List.getElem?_toArray, List.getElem?_cons_zero, List.getElem?_cons_succ] at k3
      rw [h3] at k3
      clear h3
      go_wp2_with fail
      refine (DoesG.use (callsAt) (HT.out) [] rfl rfl).mono ?_
      rintro e w1 ⟨gs, ⟨rfl, rfl⟩, Ta⟩
      simp only [PU] at Ta
      have HT := Lib.hid Ta
      clear Ta
      have e0 := HT.out.cell 5 0 rfl 0
      have fe0 := HT.out.free 5 0 rfl 0
      have e1 := HT.out.cell 5 0 rfl 1
      have fe1 := HT.out.free 5 0 rfl 1
      simp only [List.getElem?_nil, List.getElem?_toArray, List.getElem?_cons_zero, List.getElem?_cons_succ] at e0 e1
      go_wp2
      exact bodyPost_ret (v := .agg #[.nilFunc, .func (.func 201) #[ptr' kb] #[]]) (by simp [results, Tryz.results175, go_sem, e0, e1]) rfl ⟨_, ⟨_, _, [], _, _, rfl, ⟨rfl, rfl, rfl⟩, ⟨_, _, gq, gt, HR.out, HTK.out, rfl, HX.out⟩, rfl⟩, (((HT.out.set 5 0 rfl 0 _).set 5 0 rfl 1 _).pick [0, 1, 2, 3] rfl).sum (fun n ha h0 h1 h2 => by simp only [SU, ha, h0, h1, h2] <;> omega)⟩
    · rw [if_neg h3]
      have hb3 : (k.kind == 3) = false := beq_eq_false_iff_ne.2 h3
      clear h3
      unfold MRz
      dsimp only [noteZ, okC]
      obtain ⟨rv, tv, gq, gt, hr, ht, rfl, hx⟩ := hz
      intro w hw
      have T0 := TG.refl hw
      have HT := Lib.hid T0
      clear hw T0
      have HT := Lib.hid (HT.out.sum (H' := [workB kb L.fb pv rv tv k, gq, gt, gF]) (fun n ha h0 h1 h2 => by simp only [SU, ha, h0, h1, h2] <;> omega))
      have HX := Lib.hid hx
      have HR := Lib.hid hr
      have HTK := Lib.hid ht
      clear hx hr ht
      go_enter Tryz.func175, Tryz.ntmps175
      go_wp2
      have HT := Lib.hid ((HT.out.alloc (k := w.heap.size) rfl 33 #[ptr' kb]).alloc (k := w.heap.size + 1) (by simp) 148 #[.nilFunc, .nilFunc])
      generalize World.alloc _ _ = wa at HT ⊢
      simp only [List.cons_append, List.nil_append] at HT
      have b0 := HT.out.cell 4 0 rfl 0
      simp only [List.getElem?_nil, List.getElem?_toArray, List.getElem?_cons_zero, List.getElem?_cons_succ] at b0
      have k0 := HT.out.cell 0 0 rfl 0
      have k16 := HT.out.cell 0 0 rfl 16
      have k17 := HT.out.cell 0 0 rfl 17
      simp only [workC, List.getElem?_toArray, List.getElem?_cons_zero, List.getElem?_cons_succ] at k0 k16 k17
      refine wp_region_mix1 15 (by kernel_rfl) (by kernel_rfl) ?_
      simp only [List.take_succ_cons, List.take_zero, List.drop_succ_cons, List.drop_zero]
      repeat (go_big_quiet_step ((first | (go_at_call 22; with_reducible exact ReadsG.quiet (coreSlab_r HX.out) HT.out _ [3] rfl rfl) | (go_at_call 206; with_reducible exact ReadsG.quiet (workKind_r (L := L)) HT.out _ [0] rfl rfl))))
      refine wpQuiet_nil ?_
      intro _ hw'
      obtain ⟨nq, hw''⟩ := hw'
      subst hw''
      have HT := Lib.hid (HT.out.drewN nq)
      go_wp2_with fail
      refine (DoesG.use (HTRY.out _ HX.out) (HT.out) [3] rfl rfl).mono ?_
      rintro e w1 ⟨gs, ⟨rfl, g1, hx1, rfl⟩, Ta⟩
      simp only [PU] at Ta
      have HX := Lib.hid hx1
      clear hx1 k0 k16 k17 b0
      have HT := Lib.hid Ta
      clear Ta
      go_wp2_with fail
      refine ⟨rfl, ?_⟩
      have b0 := HT.out.cell 4 0 rfl 0
      simp only [List.getElem?_nil, List.getElem?_toArray, List.getElem?_cons_zero, List.getElem?_cons_succ] at b0
      have k18 := HT.out.cell 0 0 rfl 18
      have fk18 := HT.out.free 0 0 rfl 18
      simp only [workC, List.getElem?_toArray, List.getElem?_cons_zero, List.getElem?_cons_succ] at k18
      go_wp2
      refine wp_region_mix1 3 (by kernel_rfl) (by kernel_rfl) ?_
      simp only [List.take_succ_cons, List.take_zero, List.drop_succ_cons, List.drop_zero]
      repeat (go_big_quiet_step ((first | (go_at_call 209; with_reducible exact ReadsG.quiet (gen_r _ HWB.out.1 HWB.out.2) HT.out _ [] rfl rfl))))
      refine wpQuiet_nil ?_
      intro _ hw'
      obtain ⟨nq, hw''⟩ := hw'
      subst hw''
      have HT := Lib.hid (HT.out.drewN nq)
      go_wp2_with fail
      refine ⟨rfl, ?_⟩
      have HT := Lib.hid ((HT.out.set 0 0 rfl 18 (.int .u64 (genW w2))).eq (H' := [workB kb L.fb pv rv tv { k with gen := genW w2 }, gq, gt, g1, [cl w.heap.size 33 #[ptr' kb]], [cl (w.heap.size + 1) 148 #[.nilFunc, .nilFunc]]]) rfl)
      clear b0 k18 fk18
      generalize World.setCell _ _ _ = w4 at HT ⊢
      have b0 := HT.out.cell 4 0 rfl 0
      simp only [List.getElem?_nil, List.getElem?_toArray, List.getElem?_cons_zero, List.getElem?_cons_succ] at b0
      have k3 := HT.out.cell 0 0 rfl 3
      simp only [workC, List.getElem?_toArray, List.getElem?_cons_zero, List.getElem?_cons_succ] at k3
      go_wp2_with fail
      refine (DoesG.use (callsAt) (HT.out) [] rfl rfl).mono ?_
      rintro e w1 ⟨gs, ⟨rfl, rfl⟩, Ta⟩
      simp only [PU] at Ta
      have HT := Lib.hid Ta
      clear Ta
      have e0 := HT.out.cell 5 0 rfl 0
      have fe0 := HT.out.free 5 0 rfl 0
      have e1 := HT.out.cell 5 0 rfl 1
      have fe1 := HT.out.free 5 0 rfl 1
      simp only [List.getElem?_nil, List.getElem?_toArray, List.getElem?_cons_zero, List.getElem?_cons_succ] at e0 e1
      go_wp2
      exact bodyPost_ret (v := .agg #[.nilFunc, .func (.func 141) #[ptr' kb] #[]]) (by simp [results, Tryz.results175, go_sem, e0, e1]) rfl ⟨_, ⟨_, _, [], _, _, rfl, ⟨rfl, rfl, rfl⟩, ⟨_, _, gq, gt, HR.out, HTK.out, rfl, HX.out⟩, rfl⟩, (((HT.out.set 5 0 rfl 0 _).set 5 0 rfl 1 _).pick [0, 1, 2, 3] rfl).sum (fun n ha h0 h1 h2 => by simp only [SU, ha, h0, h1, h2] <;> omega)⟩
end
end Go.Proofs.YtblhfbcodbjgcaaGreat

namespace Go.Proofs.YtblhfbcodbjgcaaGreat
set_option linter.unusedVariables false
set_option linter.unusedSimpArgs false
open Go.RowKit Go.Shelf
section
variable {L : Lay} {x : CoreS} {gK gF : List Blk} {kb : Nat} {pv : Value} {k : WorkS}
set_option maxRecDepth 100000 in
theorem mQueues (hz : rep2 L kb pv k x gK gF) (hp : preMC .queues (k, x)) : DoesG Tryz.prog 173 #[ptr' kb] [gK, gF] (MRz L kb pv (runC .queues (k, x))) := by
  obtain ⟨hok, hwk, hpr⟩ := hp
  simp only at hok hwk hpr
  obtain ⟨⟨i, t⟩, htke⟩ := Option.isSome_iff_exists.1 hpr
  obtain ⟨htb, hi⟩ := hwk.tk i t htke
  obtain ⟨s, hs⟩ : ∃ s, x.shs[i]? = some s := ⟨_, List.getElem?_eq_getElem hi⟩
  have hrb := hok.ring s (List.mem_of_getElem? hs)
  have htb2 := stepT_b hrb htb
  have HLN := Lib.hid hok.tr
  have hE : runC .queues (k, x) = queuesC (k, x) i t s := by
    show (match k.tk with | none => _ | some (i, t) => _) = _
    rw [htke]
    show (match x.shs[i]? with | none => _ | some s => _) = _
    rw [hs]
  rw [hE]
  obtain ⟨rv, tv, gq, gt, hr, ht, rfl, hx⟩ := hz
  rw [htke] at ht
  obtain ⟨tb, qs, hqs, rfl, rfl⟩ := ht
  clear hE hwk hpr htke hi hok
  obtain ⟨r2, t2, hr2⟩ : ∃ r2 t2, stepT s.ring t = (r2, t2) := ⟨_, _, rfl⟩
  rw [hr2] at htb2
  have hst3 := htb2.st
  simp only at hst3
  clear htb2
  by_cases h0 : t2.status = 0
  · have hst : (stepT s.ring t).2.status = 0 := by rw [hr2]; exact h0
    have HZ : queuesC (k, x) i t s = (.at none .queues, ({ k with tk := some (i, t2) }, { x with shs := x.shs.set i { s with ring := r2 } })) := by unfold queuesC; simp only [hr2]; rw [if_pos h0]
    clear h0 hst3
    rw [HZ]
    unfold MRz
    dsimp only [refuseC]
    clear HZ
    intro w hw
    have T0 := TG.refl hw
    have HT := Lib.hid T0
    clear hw T0
    have HT := Lib.hid (HT.out.sum (H' := [workB kb L.fb pv rv (ptr' tb) k, gq, tickG tb qs.rb t, gF]) (fun n ha h0 h1 h2 => by simp only [SU, ha, h0, h1, h2] <;> omega))
    have HX := Lib.hid hx
    have HR := Lib.hid hr
    have HQS := Lib.hid hqs
    have HTI := Lib.hid (coreTick hx hqs hs tb t hrb htb)
    rw [hst, hr2] at HTI
    clear hx hr hqs hs hrb htb
    have k14 := HT.out.cell 0 0 rfl 14
    simp only [workC, List.getElem?_toArray, List.getElem?_cons_zero, List.getElem?_cons_succ] at k14
    have lt := HT.out.lt 0 0 rfl
    simp only [] at lt
    clear hst hr2
    go_enter Tryz.func173, Tryz.ntmps173
    go_wp2_with fail
    refine (DoesG.use (HTI.out) (HT.out.alloc (k := w.heap.size) rfl _ _) [2, 3] rfl rfl).mono ?_
    rintro e w1 ⟨gs, ⟨rfl, g1, hx1, rfl⟩, Ta⟩
    simp only [PU] at Ta
    have HX := Lib.hid hx1
    clear hx1 k14 lt
    have HT := Lib.hid Ta
    clear Ta
    have HT := Lib.hid (HT.out.eq (H' := [workB kb L.fb pv rv (ptr' tb) { k with tk := some (i, t2) }, gq, tickG tb qs.rb t2, g1, [cl w.heap.size 148 #[.nilFunc, .nilFunc]]]) rfl)
    have k3 := HT.out.cell 0 0 rfl 3
    simp only [workC, List.getElem?_toArray, List.getElem?_cons_zero, List.getElem?_cons_succ] at k3
    clear k3
    go_wp2_with fail
    refine (DoesG.use (callsAt) (HT.out) [] rfl rfl).mono ?_
    rintro e w1 ⟨gs, ⟨rfl, rfl⟩, Ta⟩
    simp only [PU] at Ta
    have HT := Lib.hid Ta
    clear Ta
    have e0 := HT.out.cell 4 0 rfl 0
    have fe0 := HT.out.free 4 0 rfl 0
    have e1 := HT.out.cell 4 0 rfl 1
    have fe1 := HT.out.free 4 0 rfl 1
    simp only [List.getElem?_nil, List.getElem?_toArray, List.getElem?_cons_zero, List.getElem?_cons_succ] at e0 e1
    go_wp2
    exact bodyPost_ret (v := .agg #[.nilFunc, .func (.func 173) #[ptr' kb] #[]]) (by simp [results, Tryz.results173, go_sem, e0, e1]) rfl ⟨_, ⟨_, _, [], _, _, rfl, ⟨rfl, rfl, rfl⟩, ⟨_, _, gq, (tickG tb qs.rb t2), HR.out, ⟨tb, qs, HQS.out, rfl, rfl⟩, rfl, HX.out⟩, rfl⟩, (((HT.out.set 4 0 rfl 0 _).set 4 0 rfl 1 _).pick [0, 1, 2, 3] rfl).sum (fun n ha h0 h1 h2 => by simp only [SU, ha, h0, h1, h2] <;> omega)⟩
  · by_cases h1 : t2.status = 1
    · have hst : (stepT s.ring t).2.status = 1 := by rw [hr2]; exact h1
      by_cases h3 : k.kind = 3
      · have HZ : queuesC (k, x) i t s = (leavesC, refuseC 2 ({ k with tk := some (i, t2) }, { x with shs := x.shs.set i { s with ring := r2 } })) := by unfold queuesC; simp only [hr2]; rw [if_neg h0, if_pos ⟨h1, h3⟩]
        clear h0 h1 hst3
        rw [HZ]
        unfold MRz
        dsimp only [refuseC]
        clear HZ
        intro w hw
        have T0 := TG.refl hw
        have HT := Lib.hid T0
        clear hw T0
        have HT := Lib.hid (HT.out.sum (H' := [workB kb L.fb pv rv (ptr' tb) k, gq, tickG tb qs.rb t, gF]) (fun n ha h0 h1 h2 => by simp only [SU, ha, h0, h1, h2] <;> omega))
        have HX := Lib.hid hx
        have HR := Lib.hid hr
        have HQS := Lib.hid hqs
        have HTI := Lib.hid (coreTick hx hqs hs tb t hrb htb)
        rw [hst, hr2] at HTI
        clear hx hr hqs hs hrb htb
        have k14 := HT.out.cell 0 0 rfl 14
        simp only [workC, List.getElem?_toArray, List.getElem?_cons_zero, List.getElem?_cons_succ] at k14
        have lt := HT.out.lt 0 0 rfl
        simp only [] at lt
        clear hst hr2
        go_enter Tryz.func173, Tryz.ntmps173
        go_wp2_with fail
        refine (DoesG.use (HTI.out) (HT.out.alloc (k := w.heap.size) rfl _ _) [2, 3] rfl rfl).mono ?_
        rintro e w1 ⟨gs, ⟨rfl, g1, hx1, rfl⟩, Ta⟩
        simp only [PU] at Ta
        have HX := Lib.hid hx1
        clear hx1 k14 lt
        have HT := Lib.hid Ta
        clear Ta
        have HT := Lib.hid (HT.out.eq (H' := [workB kb L.fb pv rv (ptr' tb) { k with tk := some (i, t2) }, gq, tickG tb qs.rb t2, g1, [cl w.heap.size 148 #[.nilFunc, .nilFunc]]]) rfl)
        have k3 := HT.out.cell 0 0 rfl 3
        simp only [workC, List.getElem?_toArray, List.getElem?_cons_zero, List.getElem?_cons_succ] at k3
        rw [h3] at k3
        clear h3
        go_wp2_with fail
        refine (DoesG.use (workRefuse HX.out 2 HLN.out) (HT.out) [0, 3] rfl rfl).mono ?_
        rintro e w1 ⟨gs, ⟨rfl, g1, hx1, rfl⟩, Ta⟩
        simp only [PU] at Ta
        have HX := Lib.hid hx1
        clear hx1
        have HT := Lib.hid Ta
        clear Ta
        clear k3
        go_wp2_with fail
        refine (DoesG.use (sLeaves L kb pv) (HT.out) [] rfl rfl).mono ?_
        rintro e w1 ⟨gs, ⟨m2, d2, g2, rfl, hs2, rfl⟩, Ta⟩
        simp only [PU] at Ta
        have HT := Lib.hid Ta
        clear Ta
        have e0 := HT.out.cell 4 0 rfl 0
        have fe0 := HT.out.free 4 0 rfl 0
        have e1 := HT.out.cell 4 0 rfl 1
        have fe1 := HT.out.free 4 0 rfl 1
        simp only [List.getElem?_nil, List.getElem?_toArray, List.getElem?_cons_zero, List.getElem?_cons_succ] at e0 e1
        have hv2 := (cliC_vals L kb pv).vals hs2
        obtain ⟨st1, st2⟩ := Cli.store_fv2 (P := Tryz.prog) hv2.1 hv2.2 e0 fe0 e1 fe1
        have HS := Lib.hid hs2
        clear hv2 hs2
        go_wp2
        exact bodyPost_ret (v := .agg #[_, _]) (by simp [results, Tryz.results173, go_sem, e0, e1]) rfl ⟨_, ⟨m2, d2, g2, _, _, rfl, HS.out, ⟨_, _, gq, (tickG tb qs.rb t2), HR.out, ⟨tb, qs, HQS.out, rfl, rfl⟩, rfl, HX.out⟩, rfl⟩, (((HT.out.set 4 0 rfl 0 _).set 4 0 rfl 1 _).pick [0, 1, 2, 3, 5] rfl).sum (fun n ha h0 h1 h2 => by simp only [SU, ha, h0, h1, h2] <;> omega)⟩
      · have HZ : queuesC (k, x) i t s = (.thn (.row2 .undo .drop) .leaves, ({ k with tk := some (i, t2) }, { x with shs := x.shs.set i { s with ring := r2 } })) := by unfold queuesC; simp only [hr2]; rw [if_neg h0, if_neg (fun h => h3 h.2), if_pos h1]
        have hb3 : (k.kind == 3) = false := beq_eq_false_iff_ne.2 h3
        have hrow : ∀ (b bf bl bi : Nat), (cliC L kb pv).SV (.row2 .undo .drop) .nilFunc (.func (.func 188) #[] #[ptr' bf, ptr' bl, ptr' bi])
          ([cl bf 1 #[.func (.func 199) #[ptr' kb] #[]], cl bl 303 #[.slice (some ⟨b, 0, none⟩) 2 2], cl bi 3 #[.int .i64 0], cl b 1 #[.func (.func 199) #[ptr' kb] #[], .func (.func 200) #[ptr' kb] #[]]] ++ [] ++ []) :=
          fun b bf bl bi => ⟨rfl, bf, bl, bi, b, _, _, [], [], rfl, ⟨rfl, rfl⟩, ⟨rfl, rfl⟩, rfl⟩
        have hthen : ∀ (b bf bl bi : Nat), _ := fun b bf bl bi => Cli.prog_then_cons (f := MC.leaves) (v := .func (.func 168) #[ptr' kb] #[]) (gm := []) (cliC_vals L kb pv) rfl (hrow b bf bl bi) ⟨rfl, rfl⟩
        have HTH := Lib.hid hthen
        clear h0 h1 hst3 h3 hrow hthen
        rw [HZ]
        unfold MRz
        dsimp only [refuseC]
        clear HZ
        intro w hw
        have T0 := TG.refl hw
        have HT := Lib.hid T0
        clear hw T0
        have HT := Lib.hid (HT.out.sum (H' := [workB kb L.fb pv rv (ptr' tb) k, gq, tickG tb qs.rb t, gF]) (fun n ha h0 h1 h2 => by simp only [SU, ha, h0, h1, h2] <;> omega))
        have HX := Lib.hid hx
        have HR := Lib.hid hr
        have HQS := Lib.hid hqs
        have HTI := Lib.hid (coreTick hx hqs hs tb t hrb htb)
        rw [hst, hr2] at HTI
        clear hx hr hqs hs hrb htb
        have k14 := HT.out.cell 0 0 rfl 14
        simp only [workC, List.getElem?_toArray, List.getElem?_cons_zero, List.getElem?_cons_succ] at k14
        have lt := HT.out.lt 0 0 rfl
        simp only [] at lt
        clear hst hr2
        go_enter Tryz.func173, Tryz.ntmps173
        go_wp2_with fail
        refine (DoesG.use (HTI.out) (HT.out.alloc (k := w.heap.size) rfl _ _) [2, 3] rfl rfl).mono ?_
        rintro e w1 ⟨gs, ⟨rfl, g1, hx1, rfl⟩, Ta⟩
        simp only [PU] at Ta
        have HX := Lib.hid hx1
        clear hx1 k14 lt
        have HT := Lib.hid Ta
        clear Ta
        have HT := Lib.hid (HT.out.eq (H' := [workB kb L.fb pv rv (ptr' tb) { k with tk := some (i, t2) }, gq, tickG tb qs.rb t2, g1, [cl w.heap.size 148 #[.nilFunc, .nilFunc]]]) rfl)
        have k3 := HT.out.cell 0 0 rfl 3
        simp only [workC, List.getElem?_toArray, List.getElem?_cons_zero, List.getElem?_cons_succ] at k3
        go_wp2_with fail
        refine (DoesG.use (Cli.row_1 (b := w1.heap.size) (o := 0) (D := #[.func (.func 199) #[ptr' kb] #[], .func (.func 200) #[ptr' kb] #[]]) rfl 2 (.inr rfl)) (HT.out.alloc (k := w1.heap.size) rfl _ _) [5] rfl rfl).mono ?_
        rintro e w2 ⟨gs, ⟨bf, bl, bi, rfl, rfl⟩, Ta⟩
        simp only [putG, List.set_cons_zero, List.set_cons_succ, List.cons_append, List.nil_append, List.append_nil] at Ta
        have HT := Lib.hid Ta
        clear Ta
        clear k3
        have HT := Lib.hid (HT.out.sum (H' := [workB kb L.fb pv rv (ptr' tb) { k with tk := some (i, t2) }, gq, tickG tb qs.rb t2, g1, [cl w.heap.size 148 #[.nilFunc, .nilFunc]], [cl bf 1 #[.func (.func 199) #[ptr' kb] #[]], cl bl 303 #[.slice (some ⟨w1.heap.size, 0, none⟩) 2 2], cl bi 3 #[.int .i64 0], cl w1.heap.size 1 #[.func (.func 199) #[ptr' kb] #[], .func (.func 200) #[ptr' kb] #[]]] ++ [] ++ [], []]) (fun n ha h0 h1 h2 => by simp only [SU, ha, h0, h1, h2] <;> omega))
        go_wp2_with fail
        refine (DoesG.use (HTH.out _ _ _ _) (HT.out) [5, 6] rfl rfl).mono ?_
        rintro e w1 ⟨gs, ⟨m2, d2, g2, rfl, hs2, rfl⟩, Ta⟩
        simp only [PU] at Ta
        have HT := Lib.hid Ta
        clear Ta
        have e0 := HT.out.cell 4 0 rfl 0
        have fe0 := HT.out.free 4 0 rfl 0
        have e1 := HT.out.cell 4 0 rfl 1
        have fe1 := HT.out.free 4 0 rfl 1
        simp only [List.getElem?_nil, List.getElem?_toArray, List.getElem?_cons_zero, List.getElem?_cons_succ] at e0 e1
        have hv2 := (cliC_vals L kb pv).vals hs2
        obtain ⟨st1, st2⟩ := Cli.store_fv2 (P := Tryz.prog) hv2.1 hv2.2 e0 fe0 e1 fe1
        have HS := Lib.hid hs2
        clear hv2 hs2
        go_wp2
        exact bodyPost_ret (v := .agg #[_, _]) (by simp [results, Tryz.results173, go_sem, e0, e1]) rfl ⟨_, ⟨m2, d2, g2, _, _, rfl, HS.out, ⟨_, _, gq, tickG tb qs.rb t2, HR.out, ⟨tb, qs, HQS.out, rfl, rfl⟩, rfl, HX.out⟩, rfl⟩, (((HT.out.set 4 0 rfl 0 _).set 4 0 rfl 1 _).pick [0, 1, 2, 3, 5] rfl).sum (fun n ha h0 h1 h2 => by simp only [SU, ha, h0, h1, h2] <;> omega)⟩
    · have h2 : t2.status = 2 := by omega
      have hst : (stepT s.ring t).2.status = 2 := by rw [hr2]; exact h2
      by_cases h3 : k.kind = 3
      · have HZ : queuesC (k, x) i t s = (.at none .again, ({ k with tk := some (i, t2) }, { x with shs := x.shs.set i { s with ring := r2 } })) := by unfold queuesC; simp only [hr2]; rw [if_neg h0, if_neg (fun h => h1 h.1), if_neg h1, if_pos h3]
        clear h0 h1 hst3 h2
        rw [HZ]
        unfold MRz
        dsimp only [refuseC]
        clear HZ
        intro w hw
        have T0 := TG.refl hw
        have HT := Lib.hid T0
        clear hw T0
        have HT := Lib.hid (HT.out.sum (H' := [workB kb L.fb pv rv (ptr' tb) k, gq, tickG tb qs.rb t, gF]) (fun n ha h0 h1 h2 => by simp only [SU, ha, h0, h1, h2] <;> omega))
        have HX := Lib.hid hx
        have HR := Lib.hid hr
        have HQS := Lib.hid hqs
        have HTI := Lib.hid (coreTick hx hqs hs tb t hrb htb)
        rw [hst, hr2] at HTI
        clear hx hr hqs hs hrb htb
        have k14 := HT.out.cell 0 0 rfl 14
        simp only [workC, List.getElem?_toArray, List.getElem?_cons_zero, List.getElem?_cons_succ] at k14
        have lt := HT.out.lt 0 0 rfl
        simp only [] at lt
        clear hst hr2
        go_enter Tryz.func173, Tryz.ntmps173
        go_wp2_with fail
        refine (DoesG.use (HTI.out) (HT.out.alloc (k := w.heap.size) rfl _ _) [2, 3] rfl rfl).mono ?_
        rintro e w1 ⟨gs, ⟨rfl, g1, hx1, rfl⟩, Ta⟩
        simp only [PU] at Ta
        have HX := Lib.hid hx1
        clear hx1 k14 lt
        have HT := Lib.hid Ta
        clear Ta
        have HT := Lib.hid (HT.out.eq (H' := [workB kb L.fb pv rv (ptr' tb) { k with tk := some (i, t2) }, gq, tickG tb qs.rb t2, g1, [cl w.heap.size 148 #[.nilFunc, .nilFunc]]]) rfl)
        have k3 := HT.out.cell 0 0 rfl 3
        simp only [workC, List.getElem?_toArray, List.getElem?_cons_zero, List.getElem?_cons_succ] at k3
        rw [h3] at k3
        clear h3
        go_wp2_with fail
        refine (DoesG.use (callsAt) (HT.out) [] rfl rfl).mono ?_
        rintro e w1 ⟨gs, ⟨rfl, rfl⟩, Ta⟩
        simp only [PU] at Ta
        have HT := Lib.hid Ta
        clear Ta
        have e0 := HT.out.cell 4 0 rfl 0
        have fe0 := HT.out.free 4 0 rfl 0
        have e1 := HT.out.cell 4 0 rfl 1
        have fe1 := HT.out.free 4 0 rfl 1
        simp only [List.getElem?_nil, List.getElem?_toArray, List.getElem?_cons_zero, List.getElem?_cons_succ] at e0 e1
        go_wp2
        exact bodyPost_ret (v := .agg #[.nilFunc, .func (.func 201) #[ptr' kb] #[]]) (by simp [results, Tryz.results173, go_sem, e0, e1]) rfl ⟨_, ⟨_, _, [], _, _, rfl, ⟨rfl, rfl, rfl⟩, ⟨_, _, gq, (tickG tb qs.rb t2), HR.out, ⟨tb, qs, HQS.out, rfl, rfl⟩, rfl, HX.out⟩, rfl⟩, (((HT.out.set 4 0 rfl 0 _).set 4 0 rfl 1 _).pick [0, 1, 2, 3] rfl).sum (fun n ha h0 h1 h2 => by simp only [SU, ha, h0, h1, h2] <;> omega)⟩
      · have HZ : queuesC (k, x) i t s = (.at none .submits, ({ k with tk := some (i, t2) }, { x with shs := x.shs.set i { s with ring := r2 } })) := by unfold queuesC; simp only [hr2]; rw [if_neg h0, if_neg (fun h => h1 h.1), if_neg h1, if_neg h3]
        have hb3 : (k.kind == 3) = false := beq_eq_false_iff_ne.2 h3
        clear h0 h1 hst3 h2 h3
        rw [HZ]
        unfold MRz
        dsimp only [refuseC]
        clear HZ
        intro w hw
        have T0 := TG.refl hw
        have HT := Lib.hid T0
        clear hw T0
        have HT := Lib.hid (HT.out.sum (H' := [workB kb L.fb pv rv (ptr' tb) k, gq, tickG tb qs.rb t, gF]) (fun n ha h0 h1 h2 => by simp only [SU, ha, h0, h1, h2] <;> omega))
        have HX := Lib.hid hx
        have HR := Lib.hid hr
        have HQS := Lib.hid hqs
        have HTI := Lib.hid (coreTick hx hqs hs tb t hrb htb)
        rw [hst, hr2] at HTI
        clear hx hr hqs hs hrb htb
        have k14 := HT.out.cell 0 0 rfl 14
        simp only [workC, List.getElem?_toArray, List.getElem?_cons_zero, List.getElem?_cons_succ] at k14
        have lt := HT.out.lt 0 0 rfl
        simp only [] at lt
        clear hst hr2
        go_enter Tryz.func173, Tryz.ntmps173
        go_wp2_with fail
        refine (DoesG.use (HTI.out) (HT.out.alloc (k := w.heap.size) rfl _ _) [2, 3] rfl rfl).mono ?_
        rintro e w1 ⟨gs, ⟨rfl, g1, hx1, rfl⟩, Ta⟩
        simp only [PU] at Ta
        have HX := Lib.hid hx1
        clear hx1 k14 lt
        have HT := Lib.hid Ta
        clear Ta
        have HT := Lib.hid (HT.out.eq (H' := [workB kb L.fb pv rv (ptr' tb) { k with tk := some (i, t2) }, gq, tickG tb qs.rb t2, g1, [cl w.heap.size 148 #[.nilFunc, .nilFunc]]]) rfl)
        have k3 := HT.out.cell 0 0 rfl 3
        simp only [workC, List.getElem?_toArray, List.getElem?_cons_zero, List.getElem?_cons_succ] at k3
        go_wp2_with fail
        refine (DoesG.use (callsAt) (HT.out) [] rfl rfl).mono ?_
        rintro e w1 ⟨gs, ⟨rfl, rfl⟩, Ta⟩
        simp only [PU] at Ta
        have HT := Lib.hid Ta
        clear Ta
        have e0 := HT.out.cell 4 0 rfl 0
        have fe0 := HT.out.free 4 0 rfl 0
        have e1 := HT.out.cell 4 0 rfl 1
        have fe1 := HT.out.free 4 0 rfl 1
        simp only [List.getElem?_nil, List.getElem?_toArray, List.getElem?_cons_zero, List.getElem?_cons_succ] at e0 e1
        go_wp2
        exact bodyPost_ret (v := .agg #[.nilFunc, .func (.func 202) #[ptr' kb] #[]]) (by simp [results, Tryz.results173, go_sem, e0, e1]) rfl ⟨_, ⟨_, _, [], _, _, rfl, ⟨rfl, rfl, rfl⟩, ⟨_, _, gq, (tickG tb qs.rb t2), HR.out, ⟨tb, qs, HQS.out, rfl, rfl⟩, rfl, HX.out⟩, rfl⟩, (((HT.out.set 4 0 rfl 0 _).set 4 0 rfl 1 _).pick [0, 1, 2, 3] rfl).sum (fun n ha h0 h1 h2 => by simp only [SU, ha, h0, h1, h2] <;> omega)⟩
end
end Go.Proofs.YtblhfbcodbjgcaaGreat
