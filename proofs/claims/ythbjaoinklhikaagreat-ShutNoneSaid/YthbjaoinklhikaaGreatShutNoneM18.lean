import Derived.Test.YthbjaoinklhikaaGreatShutNoneM17
namespace Go.Proofs.YthbjaoinklhikaaGreat
set_option linter.unusedVariables false
set_option linter.unusedSimpArgs false
open Go.RowKit Go.Shelf
section
variable {L : Lay} {x : CoreS} {p : PipeS} {e gK gF : List Blk} {kb : Nat} {pv : Value} {k : ShutS}
set_option maxRecDepth 100000 in
theorem mShuts (hz : repS L kb pv e ⟨k, x, p⟩ gK gF) (hp : preS .shuts ⟨k, x, p⟩) : DoesG Tryz.prog 86 #[ptr' kb] [gK, gF] (MRS L kb pv e (runS .shuts ⟨k, x, p⟩).1 (runS .shuts ⟨k, x, p⟩).2) := by
  have HLN := Lib.hid hp.1.core.tr
  simp only at HLN
  cases hc : x.f.closed with
  | true =>
    have he : runS .shuts ⟨k, x, p⟩ = (.row1 .ends1, ⟨{ k with err := 3, ok := false, aset := false }, { x with tr := x.tr ++ [evS k { ev0 with kind := 9, err := 3 }] }, p⟩) := by
      unfold runS ZS.note; simp only [hc, if_true]
    rw [he]
    clear he hp
    unfold MRS
    have hsame : ({ x with f := { x.f with closed := true } } : CoreS) = x := by rw [← hc]
    obtain ⟨vl, al, gl, gC, gP, hl, hx, hpp, rfl, rfl⟩ := hz
    intro w hw
    have T0 := TG.refl hw
    have HT := Lib.hid T0
    clear hw T0
    have HT := Lib.hid (HT.out.sum (H' := [shutB kb L.fb pv vl al k, gl, e, gC, gP]) (fun n ha h0 h1 h2 => by simp only [pickG, List.map_cons, List.map_nil, List.getD_cons_succ, List.getD_cons_zero, List.set_cons_succ, List.set_cons_zero, List.cons_append, List.flatten_append, List.flatten_cons, List.flatten_nil, List.append_nil, List.nil_append, ha, h0, h1, h2] <;> omega))
    have HX := Lib.hid hx
    have HL := Lib.hid hl
    have HPP := Lib.hid hpp
    clear hx hl hpp
    have hsh := coreShut HX.out
    rw [hsame, hc] at hsh
    have HSH := Lib.hid hsh
    clear hsh hsame hc
    have k0 := HT.out.cell 0 0 rfl 0
    simp only [shutC, List.getElem?_toArray, List.getElem?_cons_zero, List.getElem?_cons_succ] at k0
    have lt := HT.out.lt 0 0 rfl
    simp only [] at lt
    go_enter Tryz.func86, Tryz.ntmps86
    go_wp2_with fail
    refine (DoesG.use (HSH.out) ((HT.out.alloc (k := w.heap.size) rfl _ _).alloc (k := w.heap.size + 1) (by simp) _ _) [3] rfl rfl).mono ?_
    rintro e w1 ⟨gs, ⟨rfl, g1, hx1, rfl⟩, Ta⟩
    simp only [putG, List.set_cons_zero, List.set_cons_succ, List.cons_append, List.nil_append, List.append_nil] at Ta
    have HX := Lib.hid hx1
    have b0 := Ta.cell 5 0 rfl 0
    clear hx1
    have HT := Lib.hid Ta
    clear Ta
    simp only [List.getElem?_toArray, List.getElem?_cons_zero] at b0
    go_wp2_with fail
    refine (DoesG.use (shutNote HX.out { ev0 with kind := 9, err := 3 } HLN.out) (HT.out) [0, 3] rfl rfl).mono ?_
    rintro e w1 ⟨gs, ⟨rfl, g3, hx3, rfl⟩, Ta⟩
    simp only [putG, List.set_cons_zero, List.set_cons_succ, List.cons_append, List.nil_append, List.append_nil] at Ta
    have HX := Lib.hid hx3
    have b0 := Ta.cell 5 0 rfl 0
    clear hx3 k0
    have HT := Lib.hid Ta
    clear Ta
    have k3 := HT.out.cell 0 0 rfl 3
    have fk3 := HT.out.free 0 0 rfl 3
    have k4 := HT.out.cell 0 0 rfl 4
    have fk4 := HT.out.free 0 0 rfl 4
    have k5 := HT.out.cell 0 0 rfl 5
    have fk5 := HT.out.free 0 0 rfl 5
    have k6 := HT.out.cell 0 0 rfl 6
    have fk6 := HT.out.free 0 0 rfl 6
    have k7 := HT.out.cell 0 0 rfl 7
    have fk7 := HT.out.free 0 0 rfl 7
    simp only [shutC, List.getElem?_toArray, List.getElem?_cons_zero, List.getElem?_cons_succ] at k3 k4 k5 k6 k7
    simp only [List.getElem?_toArray, List.getElem?_cons_zero] at b0
    go_wp2_with fail
    refine (DoesG.use (sEndsS L kb pv) (((((((HT.out.set 0 0 rfl 3 _).set 0 0 rfl 4 _).set 0 0 rfl 5 _).set 0 0 rfl 6 _).set 0 0 rfl 7 _).eq (H' := [shutB kb L.fb pv vl (.slice none 0 0) { k with err := 3, ok := false, aset := false }, gl, e, g3, gP, [cl w.heap.size 75 #[ptr' kb]], [cl (w.heap.size+1) 106 #[.nilFunc, .nilFunc]]]) rfl)) [] rfl rfl).mono ?_
    rintro e w1 ⟨gs, ⟨g2, l2, ⟨m2, d2, rfl, hs2⟩, rfl⟩, Ta⟩
    simp only [putG, List.set_cons_zero, List.set_cons_succ, List.cons_append, List.nil_append, List.append_nil] at Ta
    have HT := Lib.hid Ta
    clear Ta
    have r0 := HT.out.cell 6 0 rfl 0
    have fr0 := HT.out.free 6 0 rfl 0
    have r1 := HT.out.cell 6 0 rfl 1
    have fr1 := HT.out.free 6 0 rfl 1
    simp only [List.getElem?_nil, List.getElem?_toArray, List.getElem?_cons_zero, List.getElem?_cons_succ] at r0 r1
    have hv2 := (cliS_vals L kb pv l2).vals (hs2 l2 (leE.refl _))
    obtain ⟨st1, st2⟩ := Cli.store_fv2 (P := Tryz.prog) hv2.1 hv2.2 r0 fr0 r1 fr1
    have HS := Lib.hid hs2
    clear hv2 hs2
    go_wp2
    exact bodyPost_ret (v := .agg #[_, _]) (by simp [results, Tryz.results86, go_sem, r0, r1]) rfl ⟨_, ⟨e ++ l2, leE.app _ _, m2, d2, g2, _, _, rfl, HS.out _ (fun b hb => List.mem_append_right _ hb), ⟨vl, (.slice none 0 0), gl, _, gP, ⟨HL.out.1, rfl⟩, HX.out, HPP.out, rfl, rfl⟩, rfl⟩, (((HT.out.set 6 0 rfl 0 _).set 6 0 rfl 1 _).pick [7, 0, 1, 2, 8, 3, 4] rfl).sum (fun n ha h0 h1 h2 => by simp only [pickG, List.map_cons, List.map_nil, List.getD_cons_succ, List.getD_cons_zero, List.set_cons_succ, List.set_cons_zero, List.cons_append, List.flatten_append, List.flatten_cons, List.flatten_nil, List.append_nil, List.nil_append, ha, h0, h1, h2] <;> omega)⟩
  | false =>
    have he : runS .shuts ⟨k, x, p⟩ = (.at (some .inside) .slots0, ⟨k, { x with f := { x.f with closed := true }, tr := x.tr ++ [evS k { ev0 with kind := 10 }] }, p⟩) := by
      unfold runS ZS.note; simp [hc]
    rw [he]
    clear he hp
    unfold MRS
    obtain ⟨vl, al, gl, gC, gP, hl, hx, hpp, rfl, rfl⟩ := hz
    intro w hw
    have T0 := TG.refl hw
    have HT := Lib.hid T0
    clear hw T0
    have HT := Lib.hid (HT.out.sum (H' := [shutB kb L.fb pv vl al k, gl, e, gC, gP]) (fun n ha h0 h1 h2 => by simp only [pickG, List.map_cons, List.map_nil, List.getD_cons_succ, List.getD_cons_zero, List.set_cons_succ, List.set_cons_zero, List.cons_append, List.flatten_append, List.flatten_cons, List.flatten_nil, List.append_nil, List.nil_append, ha, h0, h1, h2] <;> omega))
    have HX := Lib.hid hx
    have HL := Lib.hid hl
    have HPP := Lib.hid hpp
    clear hx hl hpp
    have hsh := coreShut HX.out
    rw [hc] at hsh
    have HSH := Lib.hid hsh
    clear hsh hc
    have k0 := HT.out.cell 0 0 rfl 0
    simp only [shutC, List.getElem?_toArray, List.getElem?_cons_zero, List.getElem?_cons_succ] at k0
    have lt := HT.out.lt 0 0 rfl
    simp only [] at lt
    go_enter Tryz.func86, Tryz.ntmps86
    go_wp2_with fail
    refine (DoesG.use (HSH.out) ((HT.out.alloc (k := w.heap.size) rfl _ _).alloc (k := w.heap.size + 1) (by simp) _ _) [3] rfl rfl).mono ?_
    rintro e w1 ⟨gs, ⟨rfl, g1, hx1, rfl⟩, Ta⟩
    simp only [putG, List.set_cons_zero, List.set_cons_succ, List.cons_append, List.nil_append, List.append_nil] at Ta
    have HX := Lib.hid hx1
    have b0 := Ta.cell 5 0 rfl 0
    clear hx1
    have HT := Lib.hid Ta
    clear Ta
    simp only [List.getElem?_toArray, List.getElem?_cons_zero] at b0
    go_wp2_with fail
    refine (DoesG.use (shutNote HX.out { ev0 with kind := 10 } HLN.out) (HT.out) [0, 3] rfl rfl).mono ?_
    rintro e w1 ⟨gs, ⟨rfl, g3, hx3, rfl⟩, Ta⟩
    simp only [putG, List.set_cons_zero, List.set_cons_succ, List.cons_append, List.nil_append, List.append_nil] at Ta
    have HX := Lib.hid hx3
    have b0 := Ta.cell 5 0 rfl 0
    clear hx3 k0
    have HT := Lib.hid Ta
    clear Ta
    simp only [List.getElem?_toArray, List.getElem?_cons_zero] at b0
    go_wp2_with fail
    refine (DoesG.use (until_g _ _ _ _ _ _) (HT.out) [] rfl rfl).mono ?_
    rintro e w1 ⟨gs, ⟨rfl, rfl⟩, Ta⟩
    simp only [putG, List.set_cons_zero, List.set_cons_succ, List.cons_append, List.nil_append, List.append_nil] at Ta
    have HT := Lib.hid Ta
    clear Ta
    have r0 := HT.out.cell 6 0 rfl 0
    have fr0 := HT.out.free 6 0 rfl 0
    have r1 := HT.out.cell 6 0 rfl 1
    have fr1 := HT.out.free 6 0 rfl 1
    simp only [List.getElem?_nil, List.getElem?_toArray, List.getElem?_cons_zero, List.getElem?_cons_succ] at r0 r1
    go_wp2
    exact bodyPost_ret (v := .agg #[_, _]) (by simp [results, Tryz.results86, go_sem, r0, r1]) rfl ⟨_, ⟨e ++ [cl w.heap.size 75 #[ptr' kb]], leE.app _ _, _, _, [], _, _, rfl, ⟨[], [], ⟨rfl, w.heap.size, rfl, by simp⟩, ⟨rfl, w.heap.size, rfl, by simp⟩, rfl⟩, ⟨vl, al, gl, _, gP, HL.out, HX.out, HPP.out, rfl, rfl⟩, rfl⟩, (((HT.out.set 6 0 rfl 0 _).set 6 0 rfl 1 _).pick [0, 1, 2, 5, 3, 4] rfl).sum (fun n ha h0 h1 h2 => by simp only [pickG, List.map_cons, List.map_nil, List.getD_cons_succ, List.getD_cons_zero, List.set_cons_succ, List.set_cons_zero, List.cons_append, List.flatten_append, List.flatten_cons, List.flatten_nil, List.append_nil, List.nil_append, ha, h0, h1, h2] <;> omega)⟩
end
end Go.Proofs.YthbjaoinklhikaaGreat

namespace Go.Proofs.YthbjaoinklhikaaGreat
set_option linter.unusedVariables false
set_option linter.unusedSimpArgs false
open Go.RowKit Go.Shelf
theorem cfg_field (a b c d e f : Value) (w : World) : (Instr.field 41 (.agg #[a, b, c, d, e, f]) 1).run Tryz.prog w = .ok b w := by kernel_rfl
section
variable {L : Lay} {x : CoreS} {p : PipeS} {e g gC gK gF : List Blk} {kb : Nat} {pv vl al : Value} {k : ShutS}
set_option maxRecDepth 100000 in
set_option maxHeartbeats 4000000 in
theorem sSlots (hx : isCore L x gC) (ix : Int) (h0 : 0 ≤ ix ∧ ix ≤ 65) : DoesG Tryz.prog 121 #[ptr' kb, .int .i64 ix] [shutB kb L.fb pv vl al k, gC] fun en gs =>
    ∃ g' l, SRS L kb pv (slotsS ix ⟨k, x, p⟩) en g' l ∧ gs = [g', l, shutB kb L.fb pv vl al k, gC] := by
  have hcf := coreConfig hx
  simp only [Cfg.cells] at hcf
  by_cases hi : x.f.cfg.cap ≤ ix
  · have he : slotsS ix ⟨k, x, p⟩ = .thn (.row1 .pshut) .waits := if_pos hi
    rw [he]
    have hrow : ∀ (bk b bf bl bi : Nat), (cliS L kb pv).SV [cl bk 75 #[ptr' kb]] (.row1 .pshut) .nilFunc (.func (.func 154) #[] #[ptr' bf, ptr' bl, ptr' bi])
        ([cl bf 1 #[.func (.func 144) #[] #[ptr' bk]], cl bl 226 #[.slice (some ⟨b, 0, none⟩) 1 1], cl bi 3 #[.int .i64 0], cl b 1 #[.func (.func 144) #[] #[ptr' bk]]] ++ []) :=
      fun bk b bf bl bi => ⟨rfl, bf, bl, bi, b, 0, _, _, _, rfl, ⟨rfl, bk, rfl, by simp⟩, rfl, rfl⟩
    have hthen : ∀ (bk b bf bl bi : Nat), _ := fun bk b bf bl bi => Cli.prog_then_x (c := (cliS L kb pv).on [cl bk 75 #[ptr' kb]]) (f := MS.waits) (v := .func (.func 146) #[ptr' kb] #[]) (gm := []) (cliS_vals L kb pv _) rfl (hrow bk b bf bl bi) ⟨rfl, rfl⟩
    have hfc := fun w => cfg_field (.int .i64 x.f.cfg.sh) (.int .i64 x.f.cfg.cap) (.int .i64 x.f.cfg.ring) (.int .i64 x.f.cfg.room) (.int .i64 x.f.cfg.wk) (.int .i64 x.f.cfg.cli) w
    intro w hw
    have T0 := TG.refl hw
    have HT := Lib.hid T0
    clear hw T0
    have HTH := Lib.hid hthen
    have HCF := Lib.hid hcf
    have k0 := HT.out.cell 0 0 rfl 0
    simp only [shutC, List.getElem?_toArray, List.getElem?_cons_zero, List.getElem?_cons_succ] at k0
    clear hrow hthen hcf hx he h0
    go_enter Tryz.func121, Tryz.ntmps121
    go_wp2
    have HT := Lib.hid (((HT.out.alloc (k := w.heap.size) rfl 75 #[ptr' kb]).alloc (k := w.heap.size + 1) (by simp) 3 #[.int .i64 ix]).alloc (k := w.heap.size + 1 + 1) (by simp) 106 #[.nilFunc, .nilFunc])
    clear k0
    generalize World.alloc (World.alloc (World.alloc w _) _) _ = w1 at HT ⊢
    obtain ⟨ι, W, hW0, hend, hin⟩ : ∃ (ι : Type) (W : ι → World), (∃ i, World.drew w1 = W i) ∧ (∀ i, ∃ u : Unit, True ∧ TG [shutB kb L.fb pv vl al k, gC] w [shutB kb L.fb pv vl al k, gC, [cl w.heap.size 75 #[ptr' kb]], [cl (w.heap.size + 1) 3 #[.int .i64 ix]], [cl (w.heap.size + 1 + 1) 106 #[.nilFunc, .nilFunc]]] (W i)) ∧ (∀ w', (∃ u : Unit, True ∧ TG [shutB kb L.fb pv vl al k, gC] w [shutB kb L.fb pv vl al k, gC, [cl w.heap.size 75 #[ptr' kb]], [cl (w.heap.size + 1) 3 #[.int .i64 ix]], [cl (w.heap.size + 1 + 1) 106 #[.nilFunc, .nilFunc]]] w') → ∃ i, w' = W i) := ⟨{w' // ∃ u : Unit, True ∧ TG [shutB kb L.fb pv vl al k, gC] w [shutB kb L.fb pv vl al k, gC, [cl w.heap.size 75 #[ptr' kb]], [cl (w.heap.size + 1) 3 #[.int .i64 ix]], [cl (w.heap.size + 1 + 1) 106 #[.nilFunc, .nilFunc]]] w'}, Subtype.val, ⟨⟨_, (), trivial, HT.out.drew⟩, rfl⟩, fun i => i.2, fun w' h => ⟨⟨w', h⟩, rfl⟩⟩
    have hne : Nonempty ι := hW0.elim fun i _ => ⟨i⟩
    have k0 : ∀ i, (W i).cell? ⟨kb, 0, none⟩ = some (ptr' L.fb) := fun i => by obtain ⟨_, _, T⟩ := hend i; exact T.cell 0 0 rfl 0
    have a0 : ∀ i, (W i).cell? ⟨w.heap.size, 0, none⟩ = some (ptr' kb) := fun i => by obtain ⟨_, _, T⟩ := hend i; exact T.cell 2 0 rfl 0
    have b0 : ∀ i, (W i).cell? ⟨w.heap.size + 1, 0, none⟩ = some (.int .i64 ix) := fun i => by obtain ⟨_, _, T⟩ := hend i; exact T.cell 3 0 rfl 0
    have m1 : ∀ i, Calls Tryz.prog 142 #[ptr' L.fb] (W i) fun e w2 => e = .returned (.agg #[.int .i64 x.f.cfg.sh, .int .i64 x.f.cfg.cap, .int .i64 x.f.cfg.ring, .int .i64 x.f.cfg.room, .int .i64 x.f.cfg.wk, .int .i64 x.f.cfg.cli]) ∧ ∃ j, w2 = W j := fun i => by
      obtain ⟨_, _, T⟩ := hend i
      refine (DoesG.use (HCF.out) T [1] rfl rfl).mono ?_
      rintro e w2 ⟨gs, ⟨rfl, rfl⟩, T2⟩
      exact ⟨rfl, hin _ ⟨(), trivial, T2⟩⟩
    refine wp_region_cls W (by kernel_rfl) (by kernel_rfl) hW0 ?_
    repeat (go_big_quiet_step ((first | (go_at_call 142; with_reducible exact m1 _))))
    refine wpQuiet_nil ?_
    intro _ hw
    obtain ⟨iq, hw2⟩ := hw
    subst hw2
    obtain ⟨_, _, T⟩ := hend iq
    have HT := Lib.hid T
    generalize W iq = w1 at HT ⊢
    clear T hend hin hW0 hne
    clear k0 a0 b0 m1
    go_wp2_with fail
    have lt1 := HT.out.lt 2 0 rfl
    have lt2 := HT.out.lt 4 0 rfl
    simp only [] at lt1 lt2
    have bb0 := HT.out.cell 2 0 rfl 0
    simp only [List.getElem?_nil, List.getElem?_toArray, List.getElem?_cons_zero, List.getElem?_cons_succ] at bb0
    go_region_with (first
      | (go_at_call 127
         refine (DoesG.use (Cli.row_1 (b := w1.heap.size) (o := 0) (D := #[.func (.func 144) #[] #[ptr' w.heap.size]]) rfl 1 (.inl rfl)) (HT.out.drew.alloc (k := w1.heap.size) (by simp) _ _) [5] rfl rfl).mono ?_
         rintro e w2 ⟨gs, ⟨bf, bl, bi, rfl, rfl⟩, Ta⟩
         simp only [putG, List.set_cons_zero, List.set_cons_succ, List.cons_append, List.nil_append, List.append_nil] at Ta
         have b0 := Ta.cell 2 0 rfl 0
         simp only [List.getElem?_toArray, List.getElem?_cons_zero] at b0
         have HT1 := Lib.hid (Ta.sum (H' := [[cl bf 1 #[.func (.func 144) #[] #[ptr' w.heap.size]], cl bl 226 #[.slice (some ⟨w1.heap.size, 0, none⟩) 1 1], cl bi 3 #[.int .i64 0], cl w1.heap.size 1 #[.func (.func 144) #[] #[ptr' w.heap.size]]] ++ [], [], [cl w.heap.size 75 #[ptr' kb]], shutB kb L.fb pv vl al k, gC, [cl (w.heap.size + 1 + 1) 106 #[.nilFunc, .nilFunc]], [cl (w.heap.size + 1) 3 #[.int .i64 ix]]]) (fun n ha h0 h1 h2 => by simp only [pickG, List.map_cons, List.map_nil, List.getD_cons_succ, List.getD_cons_zero, List.set_cons_succ, List.set_cons_zero, List.cons_append, List.flatten_append, List.flatten_cons, List.flatten_nil, List.append_nil, List.nil_append, ha, h0, h1, h2] <;> omega))
         clear Ta)
      | (go_at_call 143
         refine (DoesG.use (HTH.out w.heap.size w1.heap.size bf bl bi) HT1.out [0, 1] rfl rfl).mono ?_
         rintro e w3 ⟨gs, ⟨bs, br, rfl, rfl⟩, Ta⟩
         simp only [putG, List.set_cons_zero, List.set_cons_succ, List.cons_append, List.nil_append, List.append_nil] at Ta
         have e0 := Ta.cell 5 0 rfl 0
         have e1 := Ta.cell 5 0 rfl 1
         have f0 := Ta.free 5 0 rfl 0
         have f1 := Ta.free 5 0 rfl 1
         have HT2 := Lib.hid Ta
         clear Ta))
    all_goals
      go_wp2
      exact bodyPost_ret (v := .agg #[_, _]) (by simp [results, Tryz.results121, go_sem, e0, e1]) rfl ⟨_, ⟨_, [cl w.heap.size 75 #[ptr' kb]], ⟨_, _, rfl, fun e he => ⟨bs, br, _, _, _, [], rfl, rfl, ⟨rfl, bf, bl, bi, w1.heap.size, 0, #[.func (.func 144) #[] #[ptr' w.heap.size]], _, [], rfl, ⟨rfl, w.heap.size, rfl, he _ (by simp)⟩, rfl, rfl⟩, ⟨rfl, rfl⟩, rfl⟩⟩, rfl⟩, (((HT2.out.set 5 0 rfl 0 _).set 5 0 rfl 1 _).pick [0, 2, 3, 4] rfl).sum (fun n ha h0 h1 h2 => by simp only [pickG, List.map_cons, List.map_nil, List.getD_cons_succ, List.getD_cons_zero, List.set_cons_succ, List.set_cons_zero, List.cons_append, List.flatten_append, List.flatten_cons, List.flatten_nil, List.append_nil, List.nil_append, ha, h0, h1, h2] <;> omega)⟩
  · have he : slotsS ix ⟨k, x, p⟩ = .thn (looksS ix) (.slots2 ix) := if_neg hi
    rw [he]
    have hi2 : ix < x.f.cfg.cap := by omega
    have hfc := fun w => cfg_field (.int .i64 x.f.cfg.sh) (.int .i64 x.f.cfg.cap) (.int .i64 x.f.cfg.ring) (.int .i64 x.f.cfg.room) (.int .i64 x.f.cfg.wk) (.int .i64 x.f.cfg.cli) w
    intro w hw
    have T0 := TG.refl hw
    have HT := Lib.hid T0
    clear hw T0
    have HCF := Lib.hid hcf
    have k0 := HT.out.cell 0 0 rfl 0
    simp only [shutC, List.getElem?_toArray, List.getElem?_cons_zero, List.getElem?_cons_succ] at k0
    clear hcf hx he h0
    go_enter Tryz.func121, Tryz.ntmps121
    go_wp2
    have HT := Lib.hid (((HT.out.alloc (k := w.heap.size) rfl 75 #[ptr' kb]).alloc (k := w.heap.size + 1) (by simp) 3 #[.int .i64 ix]).alloc (k := w.heap.size + 1 + 1) (by simp) 106 #[.nilFunc, .nilFunc])
    clear k0
    generalize World.alloc (World.alloc (World.alloc w _) _) _ = w1 at HT ⊢
    obtain ⟨ι, W, hW0, hend, hin⟩ : ∃ (ι : Type) (W : ι → World), (∃ i, World.drew w1 = W i) ∧ (∀ i, ∃ u : Unit, True ∧ TG [shutB kb L.fb pv vl al k, gC] w [shutB kb L.fb pv vl al k, gC, [cl w.heap.size 75 #[ptr' kb]], [cl (w.heap.size + 1) 3 #[.int .i64 ix]], [cl (w.heap.size + 1 + 1) 106 #[.nilFunc, .nilFunc]]] (W i)) ∧ (∀ w', (∃ u : Unit, True ∧ TG [shutB kb L.fb pv vl al k, gC] w [shutB kb L.fb pv vl al k, gC, [cl w.heap.size 75 #[ptr' kb]], [cl (w.heap.size + 1) 3 #[.int .i64 ix]], [cl (w.heap.size + 1 + 1) 106 #[.nilFunc, .nilFunc]]] w') → ∃ i, w' = W i) := ⟨{w' // ∃ u : Unit, True ∧ TG [shutB kb L.fb pv vl al k, gC] w [shutB kb L.fb pv vl al k, gC, [cl w.heap.size 75 #[ptr' kb]], [cl (w.heap.size + 1) 3 #[.int .i64 ix]], [cl (w.heap.size + 1 + 1) 106 #[.nilFunc, .nilFunc]]] w'}, Subtype.val, ⟨⟨_, (), trivial, HT.out.drew⟩, rfl⟩, fun i => i.2, fun w' h => ⟨⟨w', h⟩, rfl⟩⟩
    have hne : Nonempty ι := hW0.elim fun i _ => ⟨i⟩
    have k0 : ∀ i, (W i).cell? ⟨kb, 0, none⟩ = some (ptr' L.fb) := fun i => by obtain ⟨_, _, T⟩ := hend i; exact T.cell 0 0 rfl 0
    have a0 : ∀ i, (W i).cell? ⟨w.heap.size, 0, none⟩ = some (ptr' kb) := fun i => by obtain ⟨_, _, T⟩ := hend i; exact T.cell 2 0 rfl 0
    have b0 : ∀ i, (W i).cell? ⟨w.heap.size + 1, 0, none⟩ = some (.int .i64 ix) := fun i => by obtain ⟨_, _, T⟩ := hend i; exact T.cell 3 0 rfl 0
    have m1 : ∀ i, Calls Tryz.prog 142 #[ptr' L.fb] (W i) fun e w2 => e = .returned (.agg #[.int .i64 x.f.cfg.sh, .int .i64 x.f.cfg.cap, .int .i64 x.f.cfg.ring, .int .i64 x.f.cfg.room, .int .i64 x.f.cfg.wk, .int .i64 x.f.cfg.cli]) ∧ ∃ j, w2 = W j := fun i => by
      obtain ⟨_, _, T⟩ := hend i
      refine (DoesG.use (HCF.out) T [1] rfl rfl).mono ?_
      rintro e w2 ⟨gs, ⟨rfl, rfl⟩, T2⟩
      exact ⟨rfl, hin _ ⟨(), trivial, T2⟩⟩
    refine wp_region_cls W (by kernel_rfl) (by kernel_rfl) hW0 ?_
    repeat (go_big_quiet_step ((first | (go_at_call 142; with_reducible exact m1 _))))
    refine wpQuiet_nil ?_
    intro _ hw
    obtain ⟨iq, hw2⟩ := hw
    subst hw2
    obtain ⟨_, _, T⟩ := hend iq
    have HT := Lib.hid T
    generalize W iq = w1 at HT ⊢
    clear T hend hin hW0 hne
    clear k0 a0 b0 m1
    all_goals
      skip
      have a0 := HT.out.cell 2 0 rfl 0
      simp only [List.getElem?_nil, List.getElem?_toArray, List.getElem?_cons_zero, List.getElem?_cons_succ] at a0
      have b0 := HT.out.cell 3 0 rfl 0
      simp only [List.getElem?_nil, List.getElem?_toArray, List.getElem?_cons_zero, List.getElem?_cons_succ] at b0
      go_wp2_with fail
      refine (DoesG.use (sLooksS L kb pv ix) (HT.out) [] rfl rfl).mono ?_
      rintro e w1 ⟨gs, ⟨g2, l2, ⟨m2, d2, rfl, hs2⟩, rfl⟩, Ta⟩
      simp only [putG, List.set_cons_zero, List.set_cons_succ, List.cons_append, List.nil_append, List.append_nil] at Ta
      have HS2 := Lib.hid hs2
      clear hs2 a0 b0
      have HT := Lib.hid Ta
      clear Ta
      go_wp2_with fail
      refine (DoesG.use (Cli.prog_then_x (c := (cliS L kb pv).on (l2 ++ [cl w.heap.size 75 #[ptr' kb], cl (w.heap.size + 1) 3 #[.int .i64 ix]])) (f := MS.slots2 ix) (v := .func (.func 148) #[] #[ptr' w.heap.size, ptr' (w.heap.size + 1)]) (gm := []) (cliS_vals L kb pv _) rfl (HS2.out _ (fun b hb => List.mem_append_left _ hb)) ⟨rfl, w.heap.size, w.heap.size + 1, rfl, by simp, by simp⟩) (HT.out.sum (H' := [shutB kb L.fb pv vl al k, gC, [cl w.heap.size 75 #[ptr' kb]], [cl (w.heap.size + 1) 3 #[.int .i64 ix]], [cl (w.heap.size + 1 + 1) 106 #[.nilFunc, .nilFunc]], g2, l2, []]) (fun n ha h0 h1 h2 => by simp only [pickG, List.map_cons, List.map_nil, List.getD_cons_succ, List.getD_cons_zero, List.set_cons_succ, List.set_cons_zero, List.cons_append, List.flatten_append, List.flatten_cons, List.flatten_nil, List.append_nil, List.nil_append, ha, h0, h1, h2] <;> omega)) [5, 7] rfl rfl).mono ?_
      rintro e w1 ⟨gs, ⟨bs, br, rfl, rfl⟩, Ta⟩
      simp only [putG, List.set_cons_zero, List.set_cons_succ, List.cons_append, List.nil_append, List.append_nil] at Ta
      have HT := Lib.hid Ta
      clear Ta
      have r0 := HT.out.cell 4 0 rfl 0
      have fr0 := HT.out.free 4 0 rfl 0
      have r1 := HT.out.cell 4 0 rfl 1
      have fr1 := HT.out.free 4 0 rfl 1
      simp only [List.getElem?_nil, List.getElem?_toArray, List.getElem?_cons_zero, List.getElem?_cons_succ] at r0 r1
      have hv2 := (cliS_vals L kb pv l2).vals (HS2.out l2 (leE.refl _))
      obtain ⟨st1, st2⟩ := Cli.store_fv2 (P := Tryz.prog) hv2.1 (.inr ⟨_, _, _, rfl⟩ : Cli.isFv (.func (.func 175) #[] #[ptr' bs, ptr' br])) r0 fr0 r1 fr1
      clear hv2
      go_wp2
      exact bodyPost_ret (v := .agg #[_, _]) (by simp [results, Tryz.results121, go_sem, r0, r1]) rfl ⟨_, ⟨_, l2 ++ [cl w.heap.size 75 #[ptr' kb], cl (w.heap.size + 1) 3 #[.int .i64 ix]], ⟨_, _, rfl, fun e he => ⟨bs, br, d2, _, g2, [], rfl, rfl, HS2.out _ (fun b hb => he _ (List.mem_append_left _ hb)), ⟨rfl, w.heap.size, w.heap.size + 1, rfl, he _ (by simp), he _ (by simp)⟩, rfl⟩⟩, rfl⟩, (((HT.out.set 4 0 rfl 0 _).set 4 0 rfl 1 _).pick [5, 6, 2, 3, 0, 1] rfl).sum (fun n ha h0 h1 h2 => by simp only [pickG, List.map_cons, List.map_nil, List.getD_cons_succ, List.getD_cons_zero, List.set_cons_succ, List.set_cons_zero, List.cons_append, List.flatten_append, List.flatten_cons, List.flatten_nil, List.append_nil, List.nil_append, ha, h0, h1, h2] <;> omega)⟩
end
end Go.Proofs.YthbjaoinklhikaaGreat

namespace Go.Proofs.YthbjaoinklhikaaGreat
set_option linter.unusedVariables false
set_option linter.unusedSimpArgs false
open Go.RowKit Go.Shelf
section
variable {L : Lay} {x : CoreS} {p : PipeS} {e gK gF : List Blk} {kb : Nat} {pv : Value} {k : ShutS}
set_option maxRecDepth 100000 in
theorem mSlots0 (hz : repS L kb pv e ⟨k, x, p⟩ gK gF) (hp : preS .slots0 ⟨k, x, p⟩) (bk : Nat) (hb : cl bk 75 #[ptr' kb] ∈ e) : DoesG Tryz.prog 120 #[ptr' bk] [gK, gF] (MRS L kb pv e (runS .slots0 ⟨k, x, p⟩).1 (runS .slots0 ⟨k, x, p⟩).2) := by
  clear hp
  unfold MRS
  dsimp only [runS]
  obtain ⟨vl, al, gl, gC, gP, hl, hx, hpp, rfl, rfl⟩ := hz
  intro w hw
  have T0 := TG.refl hw
  have HT := Lib.hid T0
  clear hw T0
  have HT := Lib.hid (HT.out.sum (H' := [shutB kb L.fb pv vl al k, gl, e, gC, gP]) (fun n ha h0 h1 h2 => by simp only [pickG, List.map_cons, List.map_nil, List.getD_cons_succ, List.getD_cons_zero, List.set_cons_succ, List.set_cons_zero, List.cons_append, List.flatten_append, List.flatten_cons, List.flatten_nil, List.append_nil, List.nil_append, ha, h0, h1, h2] <;> omega))
  have HX := Lib.hid hx
  have HL := Lib.hid hl
  have HPP := Lib.hid hpp
  clear hx hl hpp
  have ltb := HT.out.mem_lt 2 hb
  simp only [] at ltb
  have b0 := HT.out.mem_cell 2 hb 0
  simp only [List.getElem?_toArray, List.getElem?_cons_zero] at b0
  have HSL := Lib.hid (sSlots (p := p) (kb := kb) (pv := pv) (vl := vl) (al := al) (k := k) HX.out 0 (by decide))
  clear hb
  go_enter Tryz.func120, Tryz.ntmps120
  go_wp2_with fail
  refine (DoesG.use (HSL.out) (HT.out.alloc (k := w.heap.size) rfl _ _) [0, 3] rfl rfl).mono ?_
  rintro e w1 ⟨gs, ⟨g2, l2, ⟨m2, d2, rfl, hs2⟩, rfl⟩, Ta⟩
  simp only [putG, List.set_cons_zero, List.set_cons_succ, List.cons_append, List.nil_append, List.append_nil] at Ta
  clear b0
  have HT := Lib.hid Ta
  clear Ta
  have r0 := HT.out.cell 5 0 rfl 0
  have fr0 := HT.out.free 5 0 rfl 0
  have r1 := HT.out.cell 5 0 rfl 1
  have fr1 := HT.out.free 5 0 rfl 1
  simp only [List.getElem?_nil, List.getElem?_toArray, List.getElem?_cons_zero, List.getElem?_cons_succ] at r0 r1
  have hv2 := (cliS_vals L kb pv l2).vals (hs2 l2 (leE.refl _))
  obtain ⟨st1, st2⟩ := Cli.store_fv2 (P := Tryz.prog) hv2.1 hv2.2 r0 fr0 r1 fr1
  have HS := Lib.hid hs2
  clear hv2 hs2
  go_wp2
  exact bodyPost_ret (v := .agg #[_, _]) (by simp [results, Tryz.results120, go_sem, r0, r1]) rfl ⟨_, ⟨e ++ l2, leE.app _ _, m2, d2, g2, _, _, rfl, HS.out _ (fun b hb => List.mem_append_right _ hb), ⟨vl, al, gl, gC, gP, HL.out, HX.out, HPP.out, rfl, rfl⟩, rfl⟩, (((HT.out.set 5 0 rfl 0 _).set 5 0 rfl 1 _).pick [0, 6, 1, 2, 7, 3, 4] rfl).sum (fun n ha h0 h1 h2 => by simp only [pickG, List.map_cons, List.map_nil, List.getD_cons_succ, List.getD_cons_zero, List.set_cons_succ, List.set_cons_zero, List.cons_append, List.flatten_append, List.flatten_cons, List.flatten_nil, List.append_nil, List.nil_append, ha, h0, h1, h2] <;> omega)⟩
set_option maxRecDepth 100000 in
theorem mSlots2 (i : Int) (hz : repS L kb pv e ⟨k, x, p⟩ gK gF) (hp : preS (.slots2 i) ⟨k, x, p⟩) (bk bi : Nat) (hb : cl bk 75 #[ptr' kb] ∈ e) (hbi : cl bi 3 #[.int .i64 i] ∈ e) : DoesG Tryz.prog 148 #[ptr' bk, ptr' bi] [gK, gF] (MRS L kb pv e (runS (.slots2 i) ⟨k, x, p⟩).1 (runS (.slots2 i) ⟨k, x, p⟩).2) := by
  obtain ⟨_, hi0, hi1⟩ := hp
  unfold MRS
  dsimp only [runS]
  obtain ⟨vl, al, gl, gC, gP, hl, hx, hpp, rfl, rfl⟩ := hz
  intro w hw
  have T0 := TG.refl hw
  have HT := Lib.hid T0
  clear hw T0
  have HT := Lib.hid (HT.out.sum (H' := [shutB kb L.fb pv vl al k, gl, e, gC, gP]) (fun n ha h0 h1 h2 => by simp only [pickG, List.map_cons, List.map_nil, List.getD_cons_succ, List.getD_cons_zero, List.set_cons_succ, List.set_cons_zero, List.cons_append, List.flatten_append, List.flatten_cons, List.flatten_nil, List.append_nil, List.nil_append, ha, h0, h1, h2] <;> omega))
  have HX := Lib.hid hx
  have HL := Lib.hid hl
  have HPP := Lib.hid hpp
  clear hx hl hpp
  have ltb := HT.out.mem_lt 2 hb
  have lti := HT.out.mem_lt 2 hbi
  simp only [] at ltb lti
  have b0 := HT.out.mem_cell 2 hb 0
  have i0 := HT.out.mem_cell 2 hbi 0
  simp only [List.getElem?_toArray, List.getElem?_cons_zero] at b0 i0
  have HSL := Lib.hid (sSlots (p := p) (kb := kb) (pv := pv) (vl := vl) (al := al) (k := k) HX.out (i + 1) (by omega))
  clear hb hbi
  go_enter Tryz.func148, Tryz.ntmps148
  go_wp2_with fail
  refine (DoesG.use (HSL.out) (HT.out.alloc (k := w.heap.size) rfl _ _) [0, 3] rfl rfl).mono ?_
  rintro e w1 ⟨gs, ⟨g2, l2, ⟨m2, d2, rfl, hs2⟩, rfl⟩, Ta⟩
  simp only [putG, List.set_cons_zero, List.set_cons_succ, List.cons_append, List.nil_append, List.append_nil] at Ta
  clear b0 i0
  have HT := Lib.hid Ta
  clear Ta
  have r0 := HT.out.cell 5 0 rfl 0
  have fr0 := HT.out.free 5 0 rfl 0
  have r1 := HT.out.cell 5 0 rfl 1
  have fr1 := HT.out.free 5 0 rfl 1
  simp only [List.getElem?_nil, List.getElem?_toArray, List.getElem?_cons_zero, List.getElem?_cons_succ] at r0 r1
  have hv2 := (cliS_vals L kb pv l2).vals (hs2 l2 (leE.refl _))
  obtain ⟨st1, st2⟩ := Cli.store_fv2 (P := Tryz.prog) hv2.1 hv2.2 r0 fr0 r1 fr1
  have HS := Lib.hid hs2
  clear hv2 hs2
  go_wp2
  exact bodyPost_ret (v := .agg #[_, _]) (by simp [results, Tryz.results148, go_sem, r0, r1]) rfl ⟨_, ⟨e ++ l2, leE.app _ _, m2, d2, g2, _, _, rfl, HS.out _ (fun b hb => List.mem_append_right _ hb), ⟨vl, al, gl, gC, gP, HL.out, HX.out, HPP.out, rfl, rfl⟩, rfl⟩, (((HT.out.set 5 0 rfl 0 _).set 5 0 rfl 1 _).pick [0, 6, 1, 2, 7, 3, 4] rfl).sum (fun n ha h0 h1 h2 => by simp only [pickG, List.map_cons, List.map_nil, List.getD_cons_succ, List.getD_cons_zero, List.set_cons_succ, List.set_cons_zero, List.cons_append, List.flatten_append, List.flatten_cons, List.flatten_nil, List.append_nil, List.nil_append, ha, h0, h1, h2] <;> omega)⟩
set_option maxRecDepth 100000 in
theorem mWaits (hz : repS L kb pv e ⟨k, x, p⟩ gK gF) : DoesG Tryz.prog 146 #[ptr' kb] [gK, gF] (MRS L kb pv e (runS .waits ⟨k, x, p⟩).1 (runS .waits ⟨k, x, p⟩).2) := by
  unfold MRS
  dsimp only [runS]
  obtain ⟨vl, al, gl, gC, gP, hl, hx, hpp, rfl, rfl⟩ := hz
  intro w hw
  have T0 := TG.refl hw
  have HT := Lib.hid T0
  clear hw T0
  have HT := Lib.hid (HT.out.sum (H' := [shutB kb L.fb pv vl al k, gl, e, gC, gP]) (fun n ha h0 h1 h2 => by simp only [pickG, List.map_cons, List.map_nil, List.getD_cons_succ, List.getD_cons_zero, List.set_cons_succ, List.set_cons_zero, List.cons_append, List.flatten_append, List.flatten_cons, List.flatten_nil, List.append_nil, List.nil_append, ha, h0, h1, h2] <;> omega))
  have HX := Lib.hid hx
  have HL := Lib.hid hl
  have HPP := Lib.hid hpp
  clear hx hl hpp
  go_enter Tryz.func146, Tryz.ntmps146
  go_wp2_with fail
  refine (DoesG.use (until_g _ _ _ _ _ _) ((HT.out.alloc (k := w.heap.size) rfl _ _).alloc (k := w.heap.size + 1) (by simp) _ _) [] rfl rfl).mono ?_
  rintro e w1 ⟨gs, ⟨rfl, rfl⟩, Ta⟩
  simp only [putG, List.set_cons_zero, List.set_cons_succ, List.cons_append, List.nil_append, List.append_nil] at Ta
  have HT := Lib.hid Ta
  clear Ta
  have r0 := HT.out.cell 6 0 rfl 0
  have fr0 := HT.out.free 6 0 rfl 0
  have r1 := HT.out.cell 6 0 rfl 1
  have fr1 := HT.out.free 6 0 rfl 1
  simp only [List.getElem?_nil, List.getElem?_toArray, List.getElem?_cons_zero, List.getElem?_cons_succ] at r0 r1
  go_wp2
  exact bodyPost_ret (v := .agg #[_, _]) (by simp [results, Tryz.results146, go_sem, r0, r1]) rfl ⟨_, ⟨e ++ [cl w.heap.size 75 #[ptr' kb]], leE.app _ _, _, _, [], _, _, rfl, ⟨[], [], ⟨rfl, w.heap.size, rfl, by simp⟩, ⟨rfl, w.heap.size, rfl, by simp⟩, rfl⟩, ⟨vl, al, gl, _, gP, HL.out, HX.out, HPP.out, rfl, rfl⟩, rfl⟩, (((HT.out.set 6 0 rfl 0 _).set 6 0 rfl 1 _).pick [0, 1, 2, 5, 3, 4] rfl).sum (fun n ha h0 h1 h2 => by simp only [pickG, List.map_cons, List.map_nil, List.getD_cons_succ, List.getD_cons_zero, List.set_cons_succ, List.set_cons_zero, List.cons_append, List.flatten_append, List.flatten_cons, List.flatten_nil, List.append_nil, List.nil_append, ha, h0, h1, h2] <;> omega)⟩
set_option maxRecDepth 100000 in
theorem mWaits2 (hz : repS L kb pv e ⟨k, x, p⟩ gK gF) (hp : preS .waits2 ⟨k, x, p⟩) (bk : Nat) (hb : cl bk 75 #[ptr' kb] ∈ e) : DoesG Tryz.prog 179 #[ptr' bk] [gK, gF] (MRS L kb pv e (runS .waits2 ⟨k, x, p⟩).1 (runS .waits2 ⟨k, x, p⟩).2) := by
  have HLN := Lib.hid hp.1.core.tr
  simp only at HLN
  clear hp
  unfold MRS
  dsimp only [runS, ZS.note]
  obtain ⟨vl, al, gl, gC, gP, hl, hx, hpp, rfl, rfl⟩ := hz
  intro w hw
  have T0 := TG.refl hw
  have HT := Lib.hid T0
  clear hw T0
  have HT := Lib.hid (HT.out.sum (H' := [shutB kb L.fb pv vl al k, gl, e, gC, gP]) (fun n ha h0 h1 h2 => by simp only [pickG, List.map_cons, List.map_nil, List.getD_cons_succ, List.getD_cons_zero, List.set_cons_succ, List.set_cons_zero, List.cons_append, List.flatten_append, List.flatten_cons, List.flatten_nil, List.append_nil, List.nil_append, ha, h0, h1, h2] <;> omega))
  have HX := Lib.hid hx
  have HL := Lib.hid hl
  have HPP := Lib.hid hpp
  clear hx hl hpp
  have ltb := HT.out.mem_lt 2 hb
  simp only [] at ltb
  have b0 := HT.out.mem_cell 2 hb 0
  simp only [List.getElem?_toArray, List.getElem?_cons_zero] at b0
  have HB := Lib.hid hb
  clear hb
  obtain ⟨av, cap, hvl⟩ := rowG.val HL.out.1
  subst hvl
  go_enter Tryz.func179, Tryz.ntmps179
  go_wp2_with fail
  refine (DoesG.use (shutNote HX.out { ev0 with kind := 13 } HLN.out) (HT.out.alloc (k := w.heap.size) rfl _ _) [0, 3] rfl rfl).mono ?_
  rintro e w1 ⟨gs, ⟨rfl, g3, hx3, rfl⟩, Ta⟩
  simp only [putG, List.set_cons_zero, List.set_cons_succ, List.cons_append, List.nil_append, List.append_nil] at Ta
  have HX := Lib.hid hx3
  clear hx3 b0
  have HT := Lib.hid Ta
  clear Ta
  have b0 := HT.out.mem_cell 2 HB.out 0
  simp only [List.getElem?_toArray, List.getElem?_cons_zero] at b0
  have k3 := HT.out.cell 0 0 rfl 3
  have fk3 := HT.out.free 0 0 rfl 3
  have k4 := HT.out.cell 0 0 rfl 4
  have fk4 := HT.out.free 0 0 rfl 4
  have k5 := HT.out.cell 0 0 rfl 5
  have fk5 := HT.out.free 0 0 rfl 5
  have k6 := HT.out.cell 0 0 rfl 6
  have fk6 := HT.out.free 0 0 rfl 6
  have k7 := HT.out.cell 0 0 rfl 7
  have fk7 := HT.out.free 0 0 rfl 7
  have k9 := HT.out.cell 0 0 rfl 9
  simp only [shutC, List.getElem?_toArray, List.getElem?_cons_zero, List.getElem?_cons_succ] at k3 k4 k5 k6 k7 k9
  go_wp2
  go_region
  go_wp2_with fail
  refine (DoesG.use (sEndsS L kb pv) (((((((HT.out.set 0 0 rfl 3 (.int .i64 0)).set 0 0 rfl 4 (.bool true)).set 0 0 rfl 5 (.int .u64 0)).set 0 0 rfl 6 (.int .u64 0)).set 0 0 rfl 7 (.slice av k.left.length cap)).eq (H' := [shutB kb L.fb pv (.slice av k.left.length cap) (.slice av k.left.length cap) { k with err := 0, ok := true, aset := true }, gl, e, g3, gP, [cl w.heap.size 106 #[.nilFunc, .nilFunc]]]) rfl).drew) [] rfl rfl).mono ?_
  rintro e w1 ⟨gs, ⟨g2, l2, ⟨m2, d2, rfl, hs2⟩, rfl⟩, Ta⟩
  simp only [putG, List.set_cons_zero, List.set_cons_succ, List.cons_append, List.nil_append, List.append_nil] at Ta
  clear b0 k3 fk3 k4 fk4 k5 fk5 k6 fk6 k7 fk7 k9
  have HT := Lib.hid Ta
  clear Ta
  have r0 := HT.out.cell 5 0 rfl 0
  have fr0 := HT.out.free 5 0 rfl 0
  have r1 := HT.out.cell 5 0 rfl 1
  have fr1 := HT.out.free 5 0 rfl 1
  simp only [List.getElem?_nil, List.getElem?_toArray, List.getElem?_cons_zero, List.getElem?_cons_succ] at r0 r1
  have hv2 := (cliS_vals L kb pv l2).vals (hs2 l2 (leE.refl _))
  obtain ⟨st1, st2⟩ := Cli.store_fv2 (P := Tryz.prog) hv2.1 hv2.2 r0 fr0 r1 fr1
  have HS := Lib.hid hs2
  clear hv2 hs2
  go_wp2
  exact bodyPost_ret (v := .agg #[_, _]) (by simp [results, Tryz.results179, go_sem, r0, r1]) rfl ⟨_, ⟨e ++ l2, leE.app _ _, m2, d2, g2, _, _, rfl, HS.out _ (fun b hb => List.mem_append_right _ hb), ⟨.slice av k.left.length cap, .slice av k.left.length cap, gl, g3, gP, ⟨HL.out.1, rfl⟩, HX.out, HPP.out, rfl, rfl⟩, rfl⟩, (((HT.out.set 5 0 rfl 0 _).set 5 0 rfl 1 _).pick [6, 0, 1, 2, 7, 3, 4] rfl).sum (fun n ha h0 h1 h2 => by simp only [pickG, List.map_cons, List.map_nil, List.getD_cons_succ, List.getD_cons_zero, List.set_cons_succ, List.set_cons_zero, List.cons_append, List.flatten_append, List.flatten_cons, List.flatten_nil, List.append_nil, List.nil_append, ha, h0, h1, h2] <;> omega)⟩
end
end Go.Proofs.YthbjaoinklhikaaGreat

namespace Go.Proofs.YthbjaoinklhikaaGreat
set_option linter.unusedVariables false
set_option linter.unusedSimpArgs false
open Go.RowKit Go.Shelf
theorem Tryz.infoU64 : (Tryz.prog.info? 22).map (fun i => (i.zero, i.size, i.bytes)) = some (some (.int .u64 0), 1, 8) := by kernel_rfl
section
variable {L : Lay} {x : CoreS} {p : PipeS} {e gl gC gK gF : List Blk} {kb : Nat} {pv vl al : Value} {k : ShutS}
set_option maxRecDepth 100000 in
set_option maxHeartbeats 4000000 in
theorem mLooks1 (ix : Int) (hz : repS L kb pv e ⟨k, x, p⟩ gK gF) (hp : preS (.looks1 ix) ⟨k, x, p⟩) (bk bi : Nat) (hb : cl bk 75 #[ptr' kb] ∈ e) (hbi : cl bi 3 #[.int .i64 ix] ∈ e) : DoesG Tryz.prog 180 #[ptr' bk, ptr' bi] [gK, gF] (MRS L kb pv e (runS (.looks1 ix) ⟨k, x, p⟩).1 (runS (.looks1 ix) ⟨k, x, p⟩).2) := by
  have hok := hp.1.core
  simp only at hok
  have HWB := Lib.hid (word_bd hok.slab ix)
  have HWD := Lib.hid (show ∀ g', isCore L x g' → _ from fun g' hx' => coreWord (g := g') hx' hok.slab.n1 ix)
  unfold MRS
  dsimp only [runS, wordZ]
  obtain ⟨wd, hwd⟩ : ∃ wd, wd = x.slab.word ix := ⟨_, rfl⟩
  rw [← hwd] at HWB HWD ⊢
  clear hok hp hwd
  obtain ⟨st, hst⟩ : ∃ st, st = stW wd := ⟨_, rfl⟩
  have HST := Lib.hid hst
  rw [← hst]
  clear hst
  by_cases h23 : st = 2 ∨ st = 3
  · rw [if_pos h23]
    dsimp only
    rcases h23 with rfl | rfl
    · obtain ⟨vl, al, gl, gC, gP, hl, hx, hpp, rfl, rfl⟩ := hz
      intro w hw
      have T0 := TG.refl hw
      have HT := Lib.hid T0
      clear hw T0
      have HT := Lib.hid (HT.out.sum (H' := [shutB kb L.fb pv vl al k, gl, e, gC, gP]) (fun n ha h0 h1 h2 => by simp only [pickG, List.map_cons, List.map_nil, List.getD_cons_succ, List.getD_cons_zero, List.set_cons_succ, List.set_cons_zero, List.cons_append, List.flatten_append, List.flatten_cons, List.flatten_nil, List.append_nil, List.nil_append, ha, h0, h1, h2] <;> omega))
      have HX := Lib.hid hx
      have HL := Lib.hid hl
      have HPP := Lib.hid hpp
      clear hx hl hpp
      have HB := Lib.hid hb
      have HBI := Lib.hid hbi
      clear hb hbi
      have b0 := HT.out.mem_cell 2 HB.out 0
      have i0 := HT.out.mem_cell 2 HBI.out 0
      simp only [List.getElem?_toArray, List.getElem?_cons_zero] at b0 i0
      have k0 := HT.out.cell 0 0 rfl 0
      simp only [shutC, List.getElem?_toArray, List.getElem?_cons_zero, List.getElem?_cons_succ] at k0
      go_enter Tryz.func180, Tryz.ntmps180
      go_wp2_with fail
      have HT := Lib.hid (HT.out.alloc (k := w.heap.size) rfl 106 #[.nilFunc, .nilFunc])
      clear k0 b0 i0
      generalize w.alloc _ = w1 at HT ⊢
      have b0 := HT.out.mem_cell 2 HB.out 0
      have i0 := HT.out.mem_cell 2 HBI.out 0
      simp only [List.getElem?_toArray, List.getElem?_cons_zero] at b0 i0
      have k0 := HT.out.cell 0 0 rfl 0
      simp only [shutC, List.getElem?_toArray, List.getElem?_cons_zero, List.getElem?_cons_succ] at k0
      clear b0 i0 k0
      obtain ⟨ι, W, hW0, hend, hin⟩ : ∃ (ι : Type) (W : ι → World), (∃ i, World.drew w1 = W i) ∧ (∀ i, ∃ gx, isCore L x gx ∧ TG [shutB kb L.fb pv vl al k ++ (gl ++ e), gC ++ gP] w [shutB kb L.fb pv vl al k, gl, e, gx, gP, [cl w.heap.size 106 #[.nilFunc, .nilFunc]]] (W i)) ∧ (∀ w', (∃ gx, isCore L x gx ∧ TG [shutB kb L.fb pv vl al k ++ (gl ++ e), gC ++ gP] w [shutB kb L.fb pv vl al k, gl, e, gx, gP, [cl w.heap.size 106 #[.nilFunc, .nilFunc]]] w') → ∃ i, w' = W i) := ⟨{w' // ∃ gx, isCore L x gx ∧ TG [shutB kb L.fb pv vl al k ++ (gl ++ e), gC ++ gP] w [shutB kb L.fb pv vl al k, gl, e, gx, gP, [cl w.heap.size 106 #[.nilFunc, .nilFunc]]] w'}, Subtype.val, ⟨⟨_, gC, HX.out, HT.out.drew⟩, rfl⟩, fun i => i.2, fun w' h => ⟨⟨w', h⟩, rfl⟩⟩
      have hne : Nonempty ι := hW0.elim fun i _ => ⟨i⟩
      have k0 : ∀ i, (W i).cell? ⟨kb, 0, none⟩ = some (ptr' L.fb) := fun i => by obtain ⟨_, _, T⟩ := hend i; exact T.cell 0 0 rfl 0
      have b0 : ∀ i, (W i).cell? ⟨bk, 0, none⟩ = some (ptr' kb) := fun i => by obtain ⟨_, _, T⟩ := hend i; exact T.mem_cell 2 HB.out 0
      have i0 : ∀ i, (W i).cell? ⟨bi, 0, none⟩ = some (.int .i64 ix) := fun i => by obtain ⟨_, _, T⟩ := hend i; exact T.mem_cell 2 HBI.out 0
      have m1 : ∀ i, Calls Tryz.prog 26 #[ptr' L.fb] (W i) fun e w2 => e = .returned (ptr' L.p.sb) ∧ ∃ j, w2 = W j := fun i => by
        obtain ⟨_, hg, T⟩ := hend i
        refine (DoesG.use ((coreSlab_r hg).does) T [3] rfl rfl).mono ?_
        rintro e w2 ⟨gs, ⟨rfl, rfl⟩, T2⟩
        exact ⟨rfl, hin _ ⟨_, hg, T2⟩⟩
      have m2 : ∀ i, Calls Tryz.prog 27 #[ptr' L.p.sb, .int .i64 ix] (W i) fun e w2 => e = .returned (.tuple #[.int .u64 wd, .int .i64 (x.slab.werr ix)]) ∧ ∃ j, w2 = W j := fun i => by
        obtain ⟨_, hg, T⟩ := hend i
        refine (DoesG.use (HWD.out _ hg) T [3] rfl rfl).mono ?_
        rintro e w2 ⟨gs, ⟨rfl, g3, hg3, rfl⟩, T2⟩
        exact ⟨rfl, hin _ ⟨g3, hg3, T2⟩⟩
      refine wp_region_mix (fun w' => ∃ i, w' = W i) 13 (by kernel_rfl) (by kernel_rfl) hW0 ?_
      simp only [List.take_succ_cons, List.take_zero, List.drop_succ_cons, List.drop_zero]
      repeat (go_big_quiet_step ((first | (go_at_call 26; with_reducible exact m1 _) | (go_at_call 27; with_reducible exact m2 _))))
      refine wpQuiet_nil ?_
      intro _ hw'
      obtain ⟨iq, hw''⟩ := hw'
      subst hw''
      obtain ⟨g1, hx1, T⟩ := hend iq
      have HT := Lib.hid T
      generalize W iq = w1 at HT ⊢
      clear T hend hin hW0 hne
      have HX1 := Lib.hid hx1
      clear hx1 k0 b0 i0 m1 m2
      have k10 := HT.out.cell 0 0 rfl 10
      have fk10 := HT.out.free 0 0 rfl 10
      simp only [shutC, List.getElem?_toArray, List.getElem?_cons_zero, List.getElem?_cons_succ] at k10
      go_wp2_with fail
      refine ⟨rfl, ?_⟩
      have HT := Lib.hid ((HT.out.set 0 0 rfl 10 (.int .u64 wd)).eq (H' := [shutB kb L.fb pv vl al { k with saw := wd }, gl, e, g1, gP, [cl w.heap.size 106 #[.nilFunc, .nilFunc]]]) rfl)
      clear k10 fk10
      generalize World.setCell _ _ _ = w5 at HT ⊢
      have b0 := HT.out.mem_cell 2 HB.out 0
      have i0 := HT.out.mem_cell 2 HBI.out 0
      simp only [List.getElem?_toArray, List.getElem?_cons_zero] at b0 i0
      have k10 := HT.out.cell 0 0 rfl 10
      simp only [shutC, List.getElem?_toArray, List.getElem?_cons_zero, List.getElem?_cons_succ] at k10
      have r0 := HT.out.cell 5 0 rfl 0
      have fr0 := HT.out.free 5 0 rfl 0
      have r1 := HT.out.cell 5 0 rfl 1
      have fr1 := HT.out.free 5 0 rfl 1
      simp only [List.getElem?_nil, List.getElem?_toArray, List.getElem?_cons_zero, List.getElem?_cons_succ] at r0 r1
      go_wp2_with (go_at_call 32; refine (state_calls _ _ HWB.out.1 HWB.out.2.1).mono ?_; rw [← HST.out]; rintro en w' ⟨rfl, rfl⟩)
      exact bodyPost_ret (v := .agg #[.nilFunc, .func (.func 181) #[] #[ptr' bk, ptr' bi]]) (by simp [results, Tryz.results180, go_sem, r0, r1]) rfl ⟨_, ⟨e, leE.refl _, _, _, [], _, _, rfl, ⟨rfl, rfl, bk, bi, rfl, HB.out, HBI.out⟩, ⟨vl, al, gl, g1, gP, HL.out, HX1.out, HPP.out, rfl, rfl⟩, rfl⟩, (((HT.out.set 5 0 rfl 0 _).set 5 0 rfl 1 _).pick [0, 1, 2, 3, 4] rfl).sum (fun n ha h0 h1 h2 => by simp only [pickG, List.map_cons, List.map_nil, List.getD_cons_succ, List.getD_cons_zero, List.set_cons_succ, List.set_cons_zero, List.cons_append, List.flatten_append, List.flatten_cons, List.flatten_nil, List.append_nil, List.nil_append, ha, h0, h1, h2] <;> omega)⟩
    · obtain ⟨vl, al, gl, gC, gP, hl, hx, hpp, rfl, rfl⟩ := hz
      intro w hw
      have T0 := TG.refl hw
      have HT := Lib.hid T0
      clear hw T0
      have HT := Lib.hid (HT.out.sum (H' := [shutB kb L.fb pv vl al k, gl, e, gC, gP]) (fun n ha h0 h1 h2 => by simp only [pickG, List.map_cons, List.map_nil, List.getD_cons_succ, List.getD_cons_zero, List.set_cons_succ, List.set_cons_zero, List.cons_append, List.flatten_append, List.flatten_cons, List.flatten_nil, List.append_nil, List.nil_append, ha, h0, h1, h2] <;> omega))
      have HX := Lib.hid hx
      have HL := Lib.hid hl
      have HPP := Lib.hid hpp
      clear hx hl hpp
      have HB := Lib.hid hb
      have HBI := Lib.hid hbi
      clear hb hbi
      have b0 := HT.out.mem_cell 2 HB.out 0
      have i0 := HT.out.mem_cell 2 HBI.out 0
      simp only [List.getElem?_toArray, List.getElem?_cons_zero] at b0 i0
      have k0 := HT.out.cell 0 0 rfl 0
      simp only [shutC, List.getElem?_toArray, List.getElem?_cons_zero, List.getElem?_cons_succ] at k0
      go_enter Tryz.func180, Tryz.ntmps180
      go_wp2_with fail
      have HT := Lib.hid (HT.out.alloc (k := w.heap.size) rfl 106 #[.nilFunc, .nilFunc])
      clear k0 b0 i0
      generalize w.alloc _ = w1 at HT ⊢
      have b0 := HT.out.mem_cell 2 HB.out 0
      have i0 := HT.out.mem_cell 2 HBI.out 0
      simp only [List.getElem?_toArray, List.getElem?_cons_zero] at b0 i0
      have k0 := HT.out.cell 0 0 rfl 0
      simp only [shutC, List.getElem?_toArray, List.getElem?_cons_zero, List.getElem?_cons_succ] at k0
      clear b0 i0 k0
      obtain ⟨ι, W, hW0, hend, hin⟩ : ∃ (ι : Type) (W : ι → World), (∃ i, World.drew w1 = W i) ∧ (∀ i, ∃ gx, isCore L x gx ∧ TG [shutB kb L.fb pv vl al k ++ (gl ++ e), gC ++ gP] w [shutB kb L.fb pv vl al k, gl, e, gx, gP, [cl w.heap.size 106 #[.nilFunc, .nilFunc]]] (W i)) ∧ (∀ w', (∃ gx, isCore L x gx ∧ TG [shutB kb L.fb pv vl al k ++ (gl ++ e), gC ++ gP] w [shutB kb L.fb pv vl al k, gl, e, gx, gP, [cl w.heap.size 106 #[.nilFunc, .nilFunc]]] w') → ∃ i, w' = W i) := ⟨{w' // ∃ gx, isCore L x gx ∧ TG [shutB kb L.fb pv vl al k ++ (gl ++ e), gC ++ gP] w [shutB kb L.fb pv vl al k, gl, e, gx, gP, [cl w.heap.size 106 #[.nilFunc, .nilFunc]]] w'}, Subtype.val, ⟨⟨_, gC, HX.out, HT.out.drew⟩, rfl⟩, fun i => i.2, fun w' h => ⟨⟨w', h⟩, rfl⟩⟩
      have hne : Nonempty ι := hW0.elim fun i _ => ⟨i⟩
      have k0 : ∀ i, (W i).cell? ⟨kb, 0, none⟩ = some (ptr' L.fb) := fun i => by obtain ⟨_, _, T⟩ := hend i; exact T.cell 0 0 rfl 0
      have b0 : ∀ i, (W i).cell? ⟨bk, 0, none⟩ = some (ptr' kb) := fun i => by obtain ⟨_, _, T⟩ := hend i; exact T.mem_cell 2 HB.out 0
      have i0 : ∀ i, (W i).cell? ⟨bi, 0, none⟩ = some (.int .i64 ix) := fun i => by obtain ⟨_, _, T⟩ := hend i; exact T.mem_cell 2 HBI.out 0
      have m1 : ∀ i, Calls Tryz.prog 26 #[ptr' L.fb] (W i) fun e w2 => e = .returned (ptr' L.p.sb) ∧ ∃ j, w2 = W j := fun i => by
        obtain ⟨_, hg, T⟩ := hend i
        refine (DoesG.use ((coreSlab_r hg).does) T [3] rfl rfl).mono ?_
        rintro e w2 ⟨gs, ⟨rfl, rfl⟩, T2⟩
        exact ⟨rfl, hin _ ⟨_, hg, T2⟩⟩
      have m2 : ∀ i, Calls Tryz.prog 27 #[ptr' L.p.sb, .int .i64 ix] (W i) fun e w2 => e = .returned (.tuple #[.int .u64 wd, .int .i64 (x.slab.werr ix)]) ∧ ∃ j, w2 = W j := fun i => by
        obtain ⟨_, hg, T⟩ := hend i
        refine (DoesG.use (HWD.out _ hg) T [3] rfl rfl).mono ?_
        rintro e w2 ⟨gs, ⟨rfl, g3, hg3, rfl⟩, T2⟩
        exact ⟨rfl, hin _ ⟨g3, hg3, T2⟩⟩
      refine wp_region_mix (fun w' => ∃ i, w' = W i) 13 (by kernel_rfl) (by kernel_rfl) hW0 ?_
      simp only [List.take_succ_cons, List.take_zero, List.drop_succ_cons, List.drop_zero]
      repeat (go_big_quiet_step ((first | (go_at_call 26; with_reducible exact m1 _) | (go_at_call 27; with_reducible exact m2 _))))
      refine wpQuiet_nil ?_
      intro _ hw'
      obtain ⟨iq, hw''⟩ := hw'
      subst hw''
      obtain ⟨g1, hx1, T⟩ := hend iq
      have HT := Lib.hid T
      generalize W iq = w1 at HT ⊢
      clear T hend hin hW0 hne
      have HX1 := Lib.hid hx1
      clear hx1 k0 b0 i0 m1 m2
      have k10 := HT.out.cell 0 0 rfl 10
      have fk10 := HT.out.free 0 0 rfl 10
      simp only [shutC, List.getElem?_toArray, List.getElem?_cons_zero, List.getElem?_cons_succ] at k10
      go_wp2_with fail
      refine ⟨rfl, ?_⟩
      have HT := Lib.hid ((HT.out.set 0 0 rfl 10 (.int .u64 wd)).eq (H' := [shutB kb L.fb pv vl al { k with saw := wd }, gl, e, g1, gP, [cl w.heap.size 106 #[.nilFunc, .nilFunc]]]) rfl)
      clear k10 fk10
      generalize World.setCell _ _ _ = w5 at HT ⊢
      have b0 := HT.out.mem_cell 2 HB.out 0
      have i0 := HT.out.mem_cell 2 HBI.out 0
      simp only [List.getElem?_toArray, List.getElem?_cons_zero] at b0 i0
      have k10 := HT.out.cell 0 0 rfl 10
      simp only [shutC, List.getElem?_toArray, List.getElem?_cons_zero, List.getElem?_cons_succ] at k10
      have r0 := HT.out.cell 5 0 rfl 0
      have fr0 := HT.out.free 5 0 rfl 0
      have r1 := HT.out.cell 5 0 rfl 1
      have fr1 := HT.out.free 5 0 rfl 1
      simp only [List.getElem?_nil, List.getElem?_toArray, List.getElem?_cons_zero, List.getElem?_cons_succ] at r0 r1
      go_wp2_with (go_at_call 32; refine (state_calls _ _ HWB.out.1 HWB.out.2.1).mono ?_; rw [← HST.out]; rintro en w' ⟨rfl, rfl⟩)
      exact bodyPost_ret (v := .agg #[.nilFunc, .func (.func 181) #[] #[ptr' bk, ptr' bi]]) (by simp [results, Tryz.results180, go_sem, r0, r1]) rfl ⟨_, ⟨e, leE.refl _, _, _, [], _, _, rfl, ⟨rfl, rfl, bk, bi, rfl, HB.out, HBI.out⟩, ⟨vl, al, gl, g1, gP, HL.out, HX1.out, HPP.out, rfl, rfl⟩, rfl⟩, (((HT.out.set 5 0 rfl 0 _).set 5 0 rfl 1 _).pick [0, 1, 2, 3, 4] rfl).sum (fun n ha h0 h1 h2 => by simp only [pickG, List.map_cons, List.map_nil, List.getD_cons_succ, List.getD_cons_zero, List.set_cons_succ, List.set_cons_zero, List.cons_append, List.flatten_append, List.flatten_cons, List.flatten_nil, List.append_nil, List.nil_append, ha, h0, h1, h2] <;> omega)⟩
  · rw [if_neg h23]
    dsimp only
    have hb2 : (st == 2) = false := beq_eq_false_iff_ne.2 (fun h => h23 (.inl h))
    have hb3 : (st == 3) = false := beq_eq_false_iff_ne.2 (fun h => h23 (.inr h))
    clear h23
    obtain ⟨vl, al, gl, gC, gP, hl, hx, hpp, rfl, rfl⟩ := hz
    intro w hw
    have T0 := TG.refl hw
    have HT := Lib.hid T0
    clear hw T0
    have HT := Lib.hid (HT.out.sum (H' := [shutB kb L.fb pv vl al k, gl, e, gC, gP]) (fun n ha h0 h1 h2 => by simp only [pickG, List.map_cons, List.map_nil, List.getD_cons_succ, List.getD_cons_zero, List.set_cons_succ, List.set_cons_zero, List.cons_append, List.flatten_append, List.flatten_cons, List.flatten_nil, List.append_nil, List.nil_append, ha, h0, h1, h2] <;> omega))
    have HX := Lib.hid hx
    have HL := Lib.hid hl
    have HPP := Lib.hid hpp
    clear hx hl hpp
    have HB := Lib.hid hb
    have HBI := Lib.hid hbi
    clear hb hbi
    have b0 := HT.out.mem_cell 2 HB.out 0
    have i0 := HT.out.mem_cell 2 HBI.out 0
    simp only [List.getElem?_toArray, List.getElem?_cons_zero] at b0 i0
    have k0 := HT.out.cell 0 0 rfl 0
    simp only [shutC, List.getElem?_toArray, List.getElem?_cons_zero, List.getElem?_cons_succ] at k0
    go_enter Tryz.func180, Tryz.ntmps180
    go_wp2_with fail
    have HT := Lib.hid (HT.out.alloc (k := w.heap.size) rfl 106 #[.nilFunc, .nilFunc])
    clear k0 b0 i0
    generalize w.alloc _ = w1 at HT ⊢
    have b0 := HT.out.mem_cell 2 HB.out 0
    have i0 := HT.out.mem_cell 2 HBI.out 0
    simp only [List.getElem?_toArray, List.getElem?_cons_zero] at b0 i0
    have k0 := HT.out.cell 0 0 rfl 0
    simp only [shutC, List.getElem?_toArray, List.getElem?_cons_zero, List.getElem?_cons_succ] at k0
    clear b0 i0 k0
    obtain ⟨ι, W, hW0, hend, hin⟩ : ∃ (ι : Type) (W : ι → World), (∃ i, World.drew w1 = W i) ∧ (∀ i, ∃ gx, isCore L x gx ∧ TG [shutB kb L.fb pv vl al k ++ (gl ++ e), gC ++ gP] w [shutB kb L.fb pv vl al k, gl, e, gx, gP, [cl w.heap.size 106 #[.nilFunc, .nilFunc]]] (W i)) ∧ (∀ w', (∃ gx, isCore L x gx ∧ TG [shutB kb L.fb pv vl al k ++ (gl ++ e), gC ++ gP] w [shutB kb L.fb pv vl al k, gl, e, gx, gP, [cl w.heap.size 106 #[.nilFunc, .nilFunc]]] w') → ∃ i, w' = W i) := ⟨{w' // ∃ gx, isCore L x gx ∧ TG [shutB kb L.fb pv vl al k ++ (gl ++ e), gC ++ gP] w [shutB kb L.fb pv vl al k, gl, e, gx, gP, [cl w.heap.size 106 #[.nilFunc, .nilFunc]]] w'}, Subtype.val, ⟨⟨_, gC, HX.out, HT.out.drew⟩, rfl⟩, fun i => i.2, fun w' h => ⟨⟨w', h⟩, rfl⟩⟩
    have hne : Nonempty ι := hW0.elim fun i _ => ⟨i⟩
    have k0 : ∀ i, (W i).cell? ⟨kb, 0, none⟩ = some (ptr' L.fb) := fun i => by obtain ⟨_, _, T⟩ := hend i; exact T.cell 0 0 rfl 0
    have b0 : ∀ i, (W i).cell? ⟨bk, 0, none⟩ = some (ptr' kb) := fun i => by obtain ⟨_, _, T⟩ := hend i; exact T.mem_cell 2 HB.out 0
    have i0 : ∀ i, (W i).cell? ⟨bi, 0, none⟩ = some (.int .i64 ix) := fun i => by obtain ⟨_, _, T⟩ := hend i; exact T.mem_cell 2 HBI.out 0
    have m1 : ∀ i, Calls Tryz.prog 26 #[ptr' L.fb] (W i) fun e w2 => e = .returned (ptr' L.p.sb) ∧ ∃ j, w2 = W j := fun i => by
      obtain ⟨_, hg, T⟩ := hend i
      refine (DoesG.use ((coreSlab_r hg).does) T [3] rfl rfl).mono ?_
      rintro e w2 ⟨gs, ⟨rfl, rfl⟩, T2⟩
      exact ⟨rfl, hin _ ⟨_, hg, T2⟩⟩
    have m2 : ∀ i, Calls Tryz.prog 27 #[ptr' L.p.sb, .int .i64 ix] (W i) fun e w2 => e = .returned (.tuple #[.int .u64 wd, .int .i64 (x.slab.werr ix)]) ∧ ∃ j, w2 = W j := fun i => by
      obtain ⟨_, hg, T⟩ := hend i
      refine (DoesG.use (HWD.out _ hg) T [3] rfl rfl).mono ?_
      rintro e w2 ⟨gs, ⟨rfl, g3, hg3, rfl⟩, T2⟩
      exact ⟨rfl, hin _ ⟨g3, hg3, T2⟩⟩
    refine wp_region_mix (fun w' => ∃ i, w' = W i) 13 (by kernel_rfl) (by kernel_rfl) hW0 ?_
    simp only [List.take_succ_cons, List.take_zero, List.drop_succ_cons, List.drop_zero]
    repeat (go_big_quiet_step ((first | (go_at_call 26; with_reducible exact m1 _) | (go_at_call 27; with_reducible exact m2 _))))
    refine wpQuiet_nil ?_
    intro _ hw'
    obtain ⟨iq, hw''⟩ := hw'
    subst hw''
    obtain ⟨g1, hx1, T⟩ := hend iq
    have HT := Lib.hid T
    generalize W iq = w1 at HT ⊢
    clear T hend hin hW0 hne
    have HX1 := Lib.hid hx1
    clear hx1 k0 b0 i0 m1 m2
    have k10 := HT.out.cell 0 0 rfl 10
    have fk10 := HT.out.free 0 0 rfl 10
    simp only [shutC, List.getElem?_toArray, List.getElem?_cons_zero, List.getElem?_cons_succ] at k10
    go_wp2_with fail
    refine ⟨rfl, ?_⟩
    have HT := Lib.hid ((HT.out.set 0 0 rfl 10 (.int .u64 wd)).eq (H' := [shutB kb L.fb pv vl al { k with saw := wd }, gl, e, g1, gP, [cl w.heap.size 106 #[.nilFunc, .nilFunc]]]) rfl)
    clear k10 fk10
    generalize World.setCell _ _ _ = w5 at HT ⊢
    have b0 := HT.out.mem_cell 2 HB.out 0
    have i0 := HT.out.mem_cell 2 HBI.out 0
    simp only [List.getElem?_toArray, List.getElem?_cons_zero] at b0 i0
    have k10 := HT.out.cell 0 0 rfl 10
    simp only [shutC, List.getElem?_toArray, List.getElem?_cons_zero, List.getElem?_cons_succ] at k10
    have r0 := HT.out.cell 5 0 rfl 0
    have fr0 := HT.out.free 5 0 rfl 0
    have r1 := HT.out.cell 5 0 rfl 1
    have fr1 := HT.out.free 5 0 rfl 1
    simp only [List.getElem?_nil, List.getElem?_toArray, List.getElem?_cons_zero, List.getElem?_cons_succ] at r0 r1
    go_wp2_with (go_at_call 32; refine (state_calls _ _ HWB.out.1 HWB.out.2.1).mono ?_; rw [← HST.out]; rintro en w' ⟨rfl, rfl⟩)
    exact bodyPost_ret (v := .agg #[.nilFunc, .nilFunc]) (by simp [results, Tryz.results180, go_sem, r0, r1]) rfl ⟨_, ⟨e, leE.refl _, _, _, [], _, _, rfl, ⟨rfl, rfl, rfl⟩, ⟨vl, al, gl, g1, gP, HL.out, HX1.out, HPP.out, rfl, rfl⟩, rfl⟩, (((HT.out.set 5 0 rfl 0 _).set 5 0 rfl 1 _).pick [0, 1, 2, 3, 4] rfl).sum (fun n ha h0 h1 h2 => by simp only [pickG, List.map_cons, List.map_nil, List.getD_cons_succ, List.getD_cons_zero, List.set_cons_succ, List.set_cons_zero, List.cons_append, List.flatten_append, List.flatten_cons, List.flatten_nil, List.append_nil, List.nil_append, ha, h0, h1, h2] <;> omega)⟩
end
end Go.Proofs.YthbjaoinklhikaaGreat
