import Derived.Test.YthbjaoinklhikaaGreatShutNoneM18
namespace Go.Proofs.YthbjaoinklhikaaGreat
set_option linter.unusedVariables false
set_option linter.unusedSimpArgs false
open Go.RowKit Go.Shelf
section
variable {L : Lay} {x : CoreS} {p : PipeS} {e gK gF : List Blk} {kb : Nat} {pv : Value} {k : ShutS}
set_option maxRecDepth 100000 in
theorem aEndsS (hz : repS L kb pv e ⟨k, x, p⟩ gK gF) (hp : preAS .ends1 ⟨k, x, p⟩) (bk : Nat) (hb : cl bk 75 #[ptr' kb] ∈ e) : DoesG Tryz.prog 141 #[ptr' bk] [gK, gF] (ARS L kb pv e (runAS .ends1 ⟨k, x, p⟩)) := by
  have HLN := Lib.hid hp.core.tr
  simp only at HLN
  clear hp
  unfold ARS
  dsimp only [runAS, ZS.note]
  obtain ⟨vl, al, gl, gC, gP, hl, hx, hpp, rfl, rfl⟩ := hz
  intro w hw
  have T0 := TG.refl hw
  have HT := Lib.hid T0
  clear hw T0
  have HT := Lib.hid (HT.out.sum (H' := [shutB kb L.fb pv vl al k, gl, e, gC, gP]) (fun n ha h0 h1 h2 => by simp only [pickG, List.map_cons, List.map_nil, List.getD_cons_succ, List.getD_cons_zero, List.set_cons_succ, List.set_cons_zero, List.cons_append, List.flatten_append, List.flatten_cons, List.flatten_nil, List.append_nil, List.nil_append, ha, h0, h1, h2] <;> omega))
  have HX := Lib.hid hx
  have HL := Lib.hid hl
  have HPP := Lib.hid hpp
  clear hx hl hpp
  have b0 := HT.out.mem_cell 2 hb 0
  simp only [List.getElem?_toArray, List.getElem?_cons_zero] at b0
  have HB := Lib.hid hb
  clear hb
  have k3 := HT.out.cell 0 0 rfl 3
  simp only [shutC, List.getElem?_toArray, List.getElem?_cons_zero, List.getElem?_cons_succ] at k3
  go_enter Tryz.func141, Tryz.ntmps141
  go_wp2_with fail
  refine wp_region_mix1 7 (by kernel_rfl) (by kernel_rfl) ?_
  simp only [List.take_succ_cons, List.take_zero, List.drop_succ_cons, List.drop_zero]
  repeat (go_big_quiet_step ((fail)))
  refine wpQuiet_nil ?_
  intro _ hw'
  obtain ⟨nq, hw''⟩ := hw'
  subst hw''
  have HT := Lib.hid (HT.out.drewN nq)
  go_wp2_with fail
  refine (DoesG.use (shutNote HX.out { ev0 with kind := 2, err := k.err } HLN.out) (HT.out) [0, 3] rfl rfl).mono ?_
  rintro e w1 ⟨gs, ⟨rfl, g2, hx2, rfl⟩, Ta⟩
  simp only [putG, List.set_cons_zero, List.set_cons_succ, List.cons_append, List.nil_append, List.append_nil] at Ta
  have HX := Lib.hid hx2
  clear hx2 k3 b0
  have HT := Lib.hid Ta
  clear Ta
  go_wp2_with fail
  refine ⟨rfl, ?_⟩
  go_wp2
  exact bodyPost_end (results_none rfl _ _ _) rfl ⟨_, ⟨e, leE.refl _, _, _, rfl, ⟨vl, al, gl, g2, gP, HL.out, HX.out, HPP.out, rfl, rfl⟩, rfl⟩, (HT.out.pick [0, 1, 2, 3, 4] rfl).sum (fun n ha h0 h1 h2 => by simp only [pickG, List.map_cons, List.map_nil, List.getD_cons_succ, List.getD_cons_zero, List.set_cons_succ, List.set_cons_zero, List.cons_append, List.flatten_append, List.flatten_cons, List.flatten_nil, List.append_nil, List.nil_append, ha, h0, h1, h2] <;> omega)⟩
set_option maxRecDepth 100000 in
theorem aPshut (hz : repS L kb pv e ⟨k, x, p⟩ gK gF) (hp : preAS .pshut ⟨k, x, p⟩) (bk : Nat) (hb : cl bk 75 #[ptr' kb] ∈ e) : DoesG Tryz.prog 144 #[ptr' bk] [gK, gF] (ARS L kb pv e (runAS .pshut ⟨k, x, p⟩)) := by
  clear hp
  unfold ARS
  dsimp only [runAS]
  obtain ⟨vl, al, gl, gC, gP, hl, hx, hpp, rfl, rfl⟩ := hz
  intro w hw
  have T0 := TG.refl hw
  have HT := Lib.hid T0
  clear hw T0
  have HT := Lib.hid (HT.out.sum (H' := [shutB kb L.fb pv vl al k, gl, e, gC, gP]) (fun n ha h0 h1 h2 => by simp only [pickG, List.map_cons, List.map_nil, List.getD_cons_succ, List.getD_cons_zero, List.set_cons_succ, List.set_cons_zero, List.cons_append, List.flatten_append, List.flatten_cons, List.flatten_nil, List.append_nil, List.nil_append, ha, h0, h1, h2] <;> omega))
  have HX := Lib.hid hx
  have HL := Lib.hid hl
  have HPP := Lib.hid hpp
  clear hx hl hpp
  have b0 := HT.out.mem_cell 2 hb 0
  simp only [List.getElem?_toArray, List.getElem?_cons_zero] at b0
  have HB := Lib.hid hb
  clear hb
  have k0 := HT.out.cell 0 0 rfl 0
  simp only [shutC, List.getElem?_toArray, List.getElem?_cons_zero, List.getElem?_cons_succ] at k0
  go_enter Tryz.func144, Tryz.ntmps144
  go_wp2_with fail
  refine (ReadsG.use (corePipe_r HX.out) (HT.out) [3] rfl rfl).mono ?_
  rintro e w1 ⟨rfl, mq, rfl⟩
  have HT := Lib.hid (HT.out.drewN mq)
  generalize World.drewN _ _ = wq at HT ⊢
  go_wp2_with fail
  refine (DoesG.use (pipeShut_g HPP.out) (HT.out) [4] rfl rfl).mono ?_
  rintro e w1 ⟨gs, ⟨rfl, g2, hp2, rfl⟩, Ta⟩
  simp only [putG, List.set_cons_zero, List.set_cons_succ, List.cons_append, List.nil_append, List.append_nil] at Ta
  have HPP := Lib.hid hp2
  clear hp2 k0 b0
  have HT := Lib.hid Ta
  clear Ta
  go_wp2
  exact bodyPost_end (results_none rfl _ _ _) rfl ⟨_, ⟨e, leE.refl _, _, _, rfl, ⟨vl, al, gl, gC, g2, HL.out, HX.out, HPP.out, rfl, rfl⟩, rfl⟩, (HT.out.pick [0, 1, 2, 3, 4] rfl).sum (fun n ha h0 h1 h2 => by simp only [pickG, List.map_cons, List.map_nil, List.getD_cons_succ, List.getD_cons_zero, List.set_cons_succ, List.set_cons_zero, List.cons_append, List.flatten_append, List.flatten_cons, List.flatten_nil, List.append_nil, List.nil_append, ha, h0, h1, h2] <;> omega)⟩
set_option maxRecDepth 100000 in
theorem aDropS (hz : repS L kb pv e ⟨k, x, p⟩ gK gF) (hp : preAS .drop ⟨k, x, p⟩) (bk : Nat) (hb : cl bk 75 #[ptr' kb] ∈ e) : DoesG Tryz.prog 201 #[ptr' bk] [gK, gF] (ARS L kb pv e (runAS .drop ⟨k, x, p⟩)) := by
  have HC := Lib.hid (And.intro hp.core.slab.c0 (show x.slab.count ≤ 64 by have := hp.core.slab.c1; have := hp.core.slab.n1; simp only at *; omega))
  simp only at HC
  clear hp
  unfold ARS
  dsimp only [runAS]
  obtain ⟨vl, al, gl, gC, gP, hl, hx, hpp, rfl, rfl⟩ := hz
  intro w hw
  have T0 := TG.refl hw
  have HT := Lib.hid T0
  clear hw T0
  have HT := Lib.hid (HT.out.sum (H' := [shutB kb L.fb pv vl al k, gl, e, gC, gP]) (fun n ha h0 h1 h2 => by simp only [pickG, List.map_cons, List.map_nil, List.getD_cons_succ, List.getD_cons_zero, List.set_cons_succ, List.set_cons_zero, List.cons_append, List.flatten_append, List.flatten_cons, List.flatten_nil, List.append_nil, List.nil_append, ha, h0, h1, h2] <;> omega))
  have HX := Lib.hid hx
  have HL := Lib.hid hl
  have HPP := Lib.hid hpp
  clear hx hl hpp
  have b0 := HT.out.mem_cell 2 hb 0
  simp only [List.getElem?_toArray, List.getElem?_cons_zero] at b0
  have HB := Lib.hid hb
  clear hb
  have k0 := HT.out.cell 0 0 rfl 0
  simp only [shutC, List.getElem?_toArray, List.getElem?_cons_zero, List.getElem?_cons_succ] at k0
  go_enter Tryz.func201, Tryz.ntmps201
  go_wp2_with fail
  refine (ReadsG.use (coreSlab_r HX.out) (HT.out) [3] rfl rfl).mono ?_
  rintro e w1 ⟨rfl, mq, rfl⟩
  have HT := Lib.hid (HT.out.drewN mq)
  generalize World.drewN _ _ = wq at HT ⊢
  go_wp2_with fail
  refine (DoesG.use (coreDrop HX.out HC.out.1 HC.out.2) (HT.out) [3] rfl rfl).mono ?_
  rintro e w1 ⟨gs, ⟨rfl, g2, hx2, rfl⟩, Ta⟩
  simp only [putG, List.set_cons_zero, List.set_cons_succ, List.cons_append, List.nil_append, List.append_nil] at Ta
  have HX := Lib.hid hx2
  clear hx2 k0 b0
  have HT := Lib.hid Ta
  clear Ta
  go_wp2
  exact bodyPost_end (results_none rfl _ _ _) rfl ⟨_, ⟨e, leE.refl _, _, _, rfl, ⟨vl, al, gl, g2, gP, HL.out, HX.out, HPP.out, rfl, rfl⟩, rfl⟩, (HT.out.pick [0, 1, 2, 3, 4] rfl).sum (fun n ha h0 h1 h2 => by simp only [pickG, List.map_cons, List.map_nil, List.getD_cons_succ, List.getD_cons_zero, List.set_cons_succ, List.set_cons_zero, List.cons_append, List.flatten_append, List.flatten_cons, List.flatten_nil, List.append_nil, List.nil_append, ha, h0, h1, h2] <;> omega)⟩
set_option maxRecDepth 100000 in
theorem aReleaseS (i : Int) (hz : repS L kb pv e ⟨k, x, p⟩ gK gF) (hp : preAS (.release i) ⟨k, x, p⟩) (bk bi : Nat) (hb : cl bk 75 #[ptr' kb] ∈ e) (hbi : cl bi 3 #[.int .i64 i] ∈ e) : DoesG Tryz.prog 200 #[ptr' bk, ptr' bi] [gK, gF] (ARS L kb pv e (runAS (.release i) ⟨k, x, p⟩)) := by
  have hok := hp.core
  simp only at hok
  obtain ⟨w0, w1, w2⟩ := word_bd hok.slab i
  unfold ARS
  dsimp only [runAS]
  have HY := Lib.hid (show ∀ g', isCore L x g' → _ from fun g' hx' => coreTry (g := g') hx' hok.slab.n1 i (x.slab.word i) 10 w0 w1)
  have HWD := Lib.hid (show ∀ g', isCore L x g' → _ from fun g' hx' => coreWord (g := g') hx' hok.slab.n1 i)
  clear w0 w1 w2 hok hp
  obtain ⟨vl, al, gl, gC, gP, hl, hx, hpp, rfl, rfl⟩ := hz
  intro w hw
  have T0 := TG.refl hw
  have HT := Lib.hid T0
  clear hw T0
  have HT := Lib.hid (HT.out.sum (H' := [shutB kb L.fb pv vl al k, gl, e, gC, gP]) (fun n ha h0 h1 h2 => by simp only [pickG, List.map_cons, List.map_nil, List.getD_cons_succ, List.getD_cons_zero, List.set_cons_succ, List.set_cons_zero, List.cons_append, List.flatten_append, List.flatten_cons, List.flatten_nil, List.append_nil, List.nil_append, ha, h0, h1, h2] <;> omega))
  have HX := Lib.hid hx
  have HL := Lib.hid hl
  have HPP := Lib.hid hpp
  clear hx hl hpp
  have b0 := HT.out.mem_cell 2 hb 0
  simp only [List.getElem?_toArray, List.getElem?_cons_zero] at b0
  have HB := Lib.hid hb
  clear hb
  have i0 := HT.out.mem_cell 2 hbi 0
  simp only [List.getElem?_toArray, List.getElem?_cons_zero] at i0
  have HBI := Lib.hid hbi
  clear hbi
  have k0 := HT.out.cell 0 0 rfl 0
  simp only [shutC, List.getElem?_toArray, List.getElem?_cons_zero, List.getElem?_cons_succ] at k0
  go_enter Tryz.func200, Tryz.ntmps200
  go_wp2_with fail
  refine wp_region_mix1 6 (by kernel_rfl) (by kernel_rfl) ?_
  simp only [List.take_succ_cons, List.take_zero, List.drop_succ_cons, List.drop_zero]
  repeat (go_big_quiet_step ((first | (go_at_call 26; with_reducible exact ReadsG.quiet (coreSlab_r HX.out) HT.out _ [3] rfl rfl))))
  refine wpQuiet_nil ?_
  intro _ hw'
  obtain ⟨nq, hw''⟩ := hw'
  subst hw''
  have HT := Lib.hid (HT.out.drewN nq)
  go_wp2_with fail
  refine (DoesG.use (HWD.out _ HX.out) (HT.out) [3] rfl rfl).mono ?_
  rintro e w1 ⟨gs, ⟨rfl, g1, hx1, rfl⟩, Ta⟩
  simp only [putG, List.set_cons_zero, List.set_cons_succ, List.cons_append, List.nil_append, List.append_nil] at Ta
  have HX := Lib.hid hx1
  clear hx1 k0 b0 i0
  have HT := Lib.hid Ta
  clear Ta
  go_wp2_with fail
  refine ⟨rfl, ?_⟩
  have hb := HB.out
  have hbi := HBI.out
  have b0 := HT.out.mem_cell 2 hb 0
  simp only [List.getElem?_toArray, List.getElem?_cons_zero] at b0
  have HB := Lib.hid hb
  clear hb
  have i0 := HT.out.mem_cell 2 hbi 0
  simp only [List.getElem?_toArray, List.getElem?_cons_zero] at i0
  have HBI := Lib.hid hbi
  clear hbi
  have k0 := HT.out.cell 0 0 rfl 0
  simp only [shutC, List.getElem?_toArray, List.getElem?_cons_zero, List.getElem?_cons_succ] at k0
  go_wp2_with fail
  refine wp_region_mix1 7 (by kernel_rfl) (by kernel_rfl) ?_
  simp only [List.take_succ_cons, List.take_zero, List.drop_succ_cons, List.drop_zero]
  repeat (go_big_quiet_step ((first | (go_at_call 26; with_reducible exact ReadsG.quiet (coreSlab_r HX.out) HT.out _ [3] rfl rfl))))
  refine wpQuiet_nil ?_
  intro _ hw'
  obtain ⟨nq, hw''⟩ := hw'
  subst hw''
  have HT := Lib.hid (HT.out.drewN nq)
  go_wp2_with fail
  refine (DoesG.use (HY.out _ HX.out) (HT.out) [3] rfl rfl).mono ?_
  rintro e w1 ⟨gs, ⟨rfl, g2, hx2, rfl⟩, Ta⟩
  simp only [putG, List.set_cons_zero, List.set_cons_succ, List.cons_append, List.nil_append, List.append_nil] at Ta
  have HX2 := Lib.hid hx2
  clear hx2 k0 b0 i0
  have HT := Lib.hid Ta
  clear Ta
  go_wp2_with fail
  refine ⟨rfl, ?_⟩
  go_wp2
  exact bodyPost_end (results_none rfl _ _ _) rfl ⟨_, ⟨e, leE.refl _, _, _, rfl, ⟨vl, al, gl, g2, gP, HL.out, HX2.out, HPP.out, rfl, rfl⟩, rfl⟩, (HT.out.pick [0, 1, 2, 3, 4] rfl).sum (fun n ha h0 h1 h2 => by simp only [pickG, List.map_cons, List.map_nil, List.getD_cons_succ, List.getD_cons_zero, List.set_cons_succ, List.set_cons_zero, List.cons_append, List.flatten_append, List.flatten_cons, List.flatten_nil, List.append_nil, List.nil_append, ha, h0, h1, h2] <;> omega)⟩
/-- what a condition leaves -/
def YRS (L : Lay) (kb : Nat) (pv : Value) (e : List Blk) (v : Bool) (z : ZS) (en : Ending) (gs : GH) : Prop := ∃ gK' gF', en = .returned (.bool v) ∧ repS L kb pv e z gK' gF' ∧ gs = [gK', gF']
set_option maxRecDepth 100000 in
theorem yInside (hz : repS L kb pv e ⟨k, x, p⟩ gK gF) (bk : Nat) (hb : cl bk 75 #[ptr' kb] ∈ e) : DoesG Tryz.prog 119 #[ptr' bk] [gK, gF] (YRS L kb pv e (mayS .inside ⟨k, x, p⟩) ⟨k, x, p⟩) := by
  unfold YRS
  dsimp only [mayS]
  obtain ⟨vl, al, gl, gC, gP, hl, hx, hpp, rfl, rfl⟩ := hz
  intro w hw
  have T0 := TG.refl hw
  have HT := Lib.hid T0
  clear hw T0
  have HT := Lib.hid (HT.out.sum (H' := [shutB kb L.fb pv vl al k, gl, e, gC, gP]) (fun n ha h0 h1 h2 => by simp only [pickG, List.map_cons, List.map_nil, List.getD_cons_succ, List.getD_cons_zero, List.set_cons_succ, List.set_cons_zero, List.cons_append, List.flatten_append, List.flatten_cons, List.flatten_nil, List.append_nil, List.nil_append, ha, h0, h1, h2] <;> omega))
  have HX := Lib.hid hx
  have HL := Lib.hid hl
  have HPP := Lib.hid hpp
  clear hx hl hpp
  have b0 := HT.out.mem_cell 2 hb 0
  simp only [List.getElem?_toArray, List.getElem?_cons_zero] at b0
  have HB := Lib.hid hb
  clear hb
  have k0 := HT.out.cell 0 0 rfl 0
  simp only [shutC, List.getElem?_toArray, List.getElem?_cons_zero, List.getElem?_cons_succ] at k0
  go_enter Tryz.func119, Tryz.ntmps119
  go_wp2_with fail
  refine (DoesG.use (coreInside HX.out) (HT.out) [3] rfl rfl).mono ?_
  rintro e w1 ⟨gs, ⟨rfl, g2, hx2, rfl⟩, Ta⟩
  simp only [putG, List.set_cons_zero, List.set_cons_succ, List.cons_append, List.nil_append, List.append_nil] at Ta
  have HX := Lib.hid hx2
  clear hx2 k0 b0
  have HT := Lib.hid Ta
  clear Ta
  go_wp2
  go_ret
  exact ⟨_, ⟨_, _, rfl, ⟨vl, al, gl, g2, gP, HL.out, HX.out, HPP.out, rfl, rfl⟩, rfl⟩, (HT.out.pick [0, 1, 2, 3, 4] rfl).sum (fun n ha h0 h1 h2 => by simp only [pickG, List.map_cons, List.map_nil, List.getD_cons_succ, List.getD_cons_zero, List.set_cons_succ, List.set_cons_zero, List.cons_append, List.flatten_append, List.flatten_cons, List.flatten_nil, List.append_nil, List.nil_append, ha, h0, h1, h2] <;> omega)⟩
set_option maxRecDepth 100000 in
theorem yIdle (hz : repS L kb pv e ⟨k, x, p⟩ gK gF) (bk : Nat) (hb : cl bk 75 #[ptr' kb] ∈ e) : DoesG Tryz.prog 176 #[ptr' bk] [gK, gF] (YRS L kb pv e (mayS .idle ⟨k, x, p⟩) ⟨k, x, p⟩) := by
  unfold YRS
  dsimp only [mayS]
  obtain ⟨vl, al, gl, gC, gP, hl, hx, hpp, rfl, rfl⟩ := hz
  intro w hw
  have T0 := TG.refl hw
  have HT := Lib.hid T0
  clear hw T0
  have HT := Lib.hid (HT.out.sum (H' := [shutB kb L.fb pv vl al k, gl, e, gC, gP]) (fun n ha h0 h1 h2 => by simp only [pickG, List.map_cons, List.map_nil, List.getD_cons_succ, List.getD_cons_zero, List.set_cons_succ, List.set_cons_zero, List.cons_append, List.flatten_append, List.flatten_cons, List.flatten_nil, List.append_nil, List.nil_append, ha, h0, h1, h2] <;> omega))
  have HX := Lib.hid hx
  have HL := Lib.hid hl
  have HPP := Lib.hid hpp
  clear hx hl hpp
  have b0 := HT.out.mem_cell 2 hb 0
  simp only [List.getElem?_toArray, List.getElem?_cons_zero] at b0
  have HB := Lib.hid hb
  clear hb
  have k0 := HT.out.cell 0 0 rfl 0
  simp only [shutC, List.getElem?_toArray, List.getElem?_cons_zero, List.getElem?_cons_succ] at k0
  have hcl := pipeClosed_r HPP.out
  cases hq : (p.shut && decide (p.ch = [])) with
  | false =>
    rw [hq] at hcl
    have HCL := Lib.hid hcl
    clear hcl hq
    go_enter Tryz.func176, Tryz.ntmps176
    go_wp2_with fail
    refine (ReadsG.use (corePipe_r HX.out) (HT.out) [3] rfl rfl).mono ?_
    rintro e w1 ⟨rfl, mq, rfl⟩
    have HT := Lib.hid (HT.out.drewN mq)
    generalize World.drewN _ _ = wq at HT ⊢
    go_wp2_with fail
    refine (ReadsG.use (HCL.out) (HT.out) [4] rfl rfl).mono ?_
    rintro e w1 ⟨rfl, mq, rfl⟩
    have HT := Lib.hid (HT.out.drewN mq)
    generalize World.drewN _ _ = wq at HT ⊢
    go_wp2
    go_ret
    exact ⟨_, ⟨_, _, rfl, ⟨vl, al, gl, gC, gP, HL.out, HX.out, HPP.out, rfl, rfl⟩, rfl⟩, (HT.out.pick [0, 1, 2, 3, 4] rfl).sum (fun n ha h0 h1 h2 => by simp only [pickG, List.map_cons, List.map_nil, List.getD_cons_succ, List.getD_cons_zero, List.set_cons_succ, List.set_cons_zero, List.cons_append, List.flatten_append, List.flatten_cons, List.flatten_nil, List.append_nil, List.nil_append, ha, h0, h1, h2] <;> omega)⟩
  | true =>
    rw [hq] at hcl
    have HCL := Lib.hid hcl
    clear hcl hq
    go_enter Tryz.func176, Tryz.ntmps176
    go_wp2_with fail
    refine (ReadsG.use (corePipe_r HX.out) (HT.out) [3] rfl rfl).mono ?_
    rintro e w1 ⟨rfl, mq, rfl⟩
    have HT := Lib.hid (HT.out.drewN mq)
    generalize World.drewN _ _ = wq at HT ⊢
    go_wp2_with fail
    refine (ReadsG.use (HCL.out) (HT.out) [4] rfl rfl).mono ?_
    rintro e w1 ⟨rfl, mq, rfl⟩
    have HT := Lib.hid (HT.out.drewN mq)
    generalize World.drewN _ _ = wq at HT ⊢
    clear k0 b0
    have hb := HB.out
    have b0 := HT.out.mem_cell 2 hb 0
    simp only [List.getElem?_toArray, List.getElem?_cons_zero] at b0
    have HB := Lib.hid hb
    clear hb
    have k0 := HT.out.cell 0 0 rfl 0
    simp only [shutC, List.getElem?_toArray, List.getElem?_cons_zero, List.getElem?_cons_succ] at k0
    go_wp2_with fail
    refine (DoesG.use (coreBusy HX.out) (HT.out) [3] rfl rfl).mono ?_
    rintro e w1 ⟨gs, ⟨rfl, g2, hx2, rfl⟩, Ta⟩
    simp only [putG, List.set_cons_zero, List.set_cons_succ, List.cons_append, List.nil_append, List.append_nil] at Ta
    have HX := Lib.hid hx2
    clear hx2 k0 b0
    have HT := Lib.hid Ta
    clear Ta
    go_wp2
    go_ret
    exact ⟨_, ⟨_, _, rfl, ⟨vl, al, gl, g2, gP, HL.out, HX.out, HPP.out, rfl, rfl⟩, rfl⟩, (HT.out.pick [0, 1, 2, 3, 4] rfl).sum (fun n ha h0 h1 h2 => by simp only [pickG, List.map_cons, List.map_nil, List.getD_cons_succ, List.getD_cons_zero, List.set_cons_succ, List.set_cons_zero, List.cons_append, List.flatten_append, List.flatten_cons, List.flatten_nil, List.append_nil, List.nil_append, ha, h0, h1, h2] <;> omega)⟩
end
end Go.Proofs.YthbjaoinklhikaaGreat

namespace Go.Proofs.YthbjaoinklhikaaGreat
set_option linter.unusedVariables false
set_option linter.unusedSimpArgs false
open Go.RowKit Go.Shelf
theorem genR (n : Int) (h0 : 0 ≤ n) (h1 : n < 18446744073709551616) : ReadsG Tryz.prog 171 #[.int .u64 n] [] (.int .u64 (genW n)) := fun w hw => (gen_calls n w h0 h1).mono (by rintro e w' ⟨rfl, rfl⟩; exact ⟨rfl, 0, rfl⟩)
theorem use_key3 {G : Prop} {α β : Type} {P A : α → β → World → Prop} (main : (∀ a b w2, A a b w2 → P a b w2) → G) (key : ∀ a b w2, A a b w2 → P a b w2) : G := main key
section
variable {L : Lay} {x : CoreS} {p : PipeS} {e gl gC gK gF : List Blk} {kb : Nat} {pv vl al : Value} {k : ShutS}
/-- what the leaving of a slot's timer makes -/
def LVS (L : Lay) (kb : Nat) (pv al : Value) (s : SS) (k : ShutS) (x : CoreS) (en : Ending) (gs : GH) : Prop :=
  ∃ g' l vl' gl' gC', SRS L kb pv s en g' l ∧ rowG 22 1 vl' k.left.length (u64s k.left) gl' ∧ isCore L x gC' ∧ gs = [g', l, shutB kb L.fb pv vl' al k, gl', gC']
set_option maxRecDepth 100000 in
set_option maxHeartbeats 4000000 in
theorem sLeavesS (hr : rowG 22 1 vl k.left.length (u64s k.left) gl) (hx : isCore L x gC) (hp : ShutOk ⟨k, x, p⟩) (ix : Int) (h0 : 0 ≤ ix ∧ ix ≤ 64) :
    DoesG Tryz.prog 182 #[ptr' kb, .int .i64 ix] [shutB kb L.fb pv vl al k, gl, gC] (LVS L kb pv al (runS (.leaves0 ix) ⟨k, x, p⟩).1 (runS (.leaves0 ix) ⟨k, x, p⟩).2.k (runS (.leaves0 ix) ⟨k, x, p⟩).2.x) := by
  obtain ⟨s0, s1, s2⟩ := hp.saw
  simp only at s0 s1 s2
  have hok := hp.core
  simp only at hok
  have hty := coreTry hx hok.slab.n1 ix k.saw 6 s0 s1
  obtain ⟨to1, to2⟩ := try_ok hok.slab ix k.saw 6
  obtain ⟨tw0, tw1⟩ := try_word hok.slab ix k.saw 6 s0 s1 s2
  dsimp only [runS, ZS.note]
  have hcap := hp.cap
  simp only at hcap
  have HN := Lib.hid (show ∀ g', isCore L { x with slab := (x.slab.try ix k.saw 6).1 } g' → _ from fun g' hx' => coreNumber (g := g') hx' (by simp only; rw [to2]; exact hcap) to1 ix)
  have HTR := Lib.hid (show x.tr.length ≤ 1000000 from hok.tr)
  have HLL := Lib.hid (show k.left.length ≤ 1000000 from hp.left)
  generalize x.slab.try ix k.saw 6 = r at *
  obtain ⟨rs, rw_, re⟩ := r
  simp only at hty to1 to2 tw0 tw1 HN ⊢
  have HTY := Lib.hid hty
  have HTW := Lib.hid (And.intro tw0 tw1)
  clear hty hok hp s0 s1 s2 to1 to2 tw0 tw1 hcap
  obtain ⟨av, cap, rfl⟩ := hr.val
  by_cases he : re = 0
  · subst he
    rw [if_neg (by simp)]
    unfold LVS
    dsimp only
    obtain ⟨nu, hnu⟩ : ∃ nu, nu = numV rs ix := ⟨_, rfl⟩
    rw [← hnu] at HN ⊢
    obtain ⟨nv, ne⟩ := nu
    dsimp only at HN ⊢
    clear hnu
    intro w hw
    have T0 := TG.refl hw
    have HT := Lib.hid T0
    clear hw T0
    have HX := Lib.hid hx
    have HR := Lib.hid hr
    clear hx hr
    go_enter Tryz.func182, Tryz.ntmps182
    go_wp2_with fail
    have HT := Lib.hid (((HT.out.alloc (k := w.heap.size) rfl 75 #[ptr' kb]).alloc (k := w.heap.size + 1) (by simp) 3 #[.int .i64 ix]).alloc (k := w.heap.size + 1 + 1) (by simp) 106 #[.nilFunc, .nilFunc])
    generalize World.alloc (World.alloc (World.alloc w _) _) _ = w1 at HT ⊢
    have k0 := HT.out.cell 0 0 rfl 0
    have k10 := HT.out.cell 0 0 rfl 10
    simp only [shutC, List.getElem?_toArray, List.getElem?_cons_zero, List.getElem?_cons_succ] at k0 k10
    have a0 := HT.out.cell 3 0 rfl 0
    simp only [List.getElem?_nil, List.getElem?_toArray, List.getElem?_cons_zero, List.getElem?_cons_succ] at a0
    have b0 := HT.out.cell 4 0 rfl 0
    simp only [List.getElem?_nil, List.getElem?_toArray, List.getElem?_cons_zero, List.getElem?_cons_succ] at b0
    refine wp_region_mix1 10 (by kernel_rfl) (by kernel_rfl) ?_
    simp only [List.take_succ_cons, List.take_zero, List.drop_succ_cons, List.drop_zero]
    repeat (go_big_quiet_step ((first | (go_at_call 26; with_reducible exact ReadsG.quiet (coreSlab_r HX.out) HT.out _ [2] rfl rfl))))
    refine wpQuiet_nil ?_
    intro _ hw'
    obtain ⟨nq, hw''⟩ := hw'
    subst hw''
    have HT := Lib.hid (HT.out.drewN nq)
    go_wp2_with fail
    refine (DoesG.use (HTY.out) (HT.out) [2] rfl rfl).mono ?_
    rintro e w1 ⟨gs, ⟨rfl, g1, hx1, rfl⟩, Ta⟩
    simp only [putG, List.set_cons_zero, List.set_cons_succ, List.cons_append, List.nil_append, List.append_nil] at Ta
    have HX := Lib.hid hx1
    clear hx1 k0 k10 a0 b0
    have HT := Lib.hid Ta
    clear Ta
    go_wp2_with fail
    refine ⟨rfl, ?_⟩
    have k0 := HT.out.cell 0 0 rfl 0
    simp only [shutC, List.getElem?_toArray, List.getElem?_cons_zero, List.getElem?_cons_succ] at k0
    have a0 := HT.out.cell 3 0 rfl 0
    simp only [List.getElem?_nil, List.getElem?_toArray, List.getElem?_cons_zero, List.getElem?_cons_succ] at a0
    have b0 := HT.out.cell 4 0 rfl 0
    simp only [List.getElem?_nil, List.getElem?_toArray, List.getElem?_cons_zero, List.getElem?_cons_succ] at b0
    go_wp2_with fail
    refine wp_region_mix1 5 (by kernel_rfl) (by kernel_rfl) ?_
    simp only [List.take_succ_cons, List.take_zero, List.drop_succ_cons, List.drop_zero]
    repeat (go_big_quiet_step ((fail)))
    refine wpQuiet_nil ?_
    intro _ hw'
    obtain ⟨nq, hw''⟩ := hw'
    subst hw''
    have HT := Lib.hid (HT.out.drewN nq)
    go_wp2_with fail
    refine (DoesG.use (HN.out _ HX.out) (HT.out) [2] rfl rfl).mono ?_
    rintro e w1 ⟨gs, ⟨rfl, g2, hx2, rfl⟩, Ta⟩
    simp only [putG, List.set_cons_zero, List.set_cons_succ, List.cons_append, List.nil_append, List.append_nil] at Ta
    have HX := Lib.hid hx2
    clear hx2 k0 a0 b0
    have HT := Lib.hid Ta
    clear Ta
    go_wp2_with fail
    refine ⟨rfl, ?_⟩
    go_wp2_with fail
    have k9 := HT.out.cell 0 0 rfl 9
    have fk9 := HT.out.free 0 0 rfl 9
    simp only [shutC, List.getElem?_toArray, List.getElem?_cons_zero, List.getElem?_cons_succ] at k9
    have a0 := HT.out.cell 3 0 rfl 0
    simp only [List.getElem?_nil, List.getElem?_toArray, List.getElem?_cons_zero, List.getElem?_cons_succ] at a0
    have HT := Lib.hid HT.out.drew
    have hl0 := HT.out.lt 0 0 rfl
    have hl3 := HT.out.lt 3 0 rfl
    simp only [World.drew] at hl0 hl3
    have hll := HLL.out
    apply use_key3 (α := Option Addr) (β := Nat) (A := fun a1 cap1 w5 => ∃ gl1, rowG 22 1 (.slice a1 (k.left.length + 1) cap1) (k.left.length + 1) (u64s k.left ++ [.int .u64 nv]) gl1 ∧ TG [shutB kb L.fb pv (.slice av k.left.length cap) al k, gl, gC] w [shutB kb L.fb pv (.slice a1 (k.left.length + 1) cap1) al { k with left := k.left ++ [nv] }, gl1, g2, [cl w.heap.size 75 #[ptr' kb]], [cl (w.heap.size + 1) 3 #[.int .i64 ix]], [cl (w.heap.size + 1 + 1) 106 #[.nilFunc, .nilFunc]]] w5)
    case main =>
      intro key
      go_region_law (
        refine step_append_G rfl (.tmp 41) (.tmp 43) 28 rfl 1 8 _ Tryz.underlying28 Tryz.infoU64 rfl (by decide) (HT.out.alloc0 _) 1 rfl rfl HR.out rfl ⟨w1.heap.size, 0, none⟩ 1 1 [.int .u64 nv] rfl rfl (news_alloc _ _ _) (by simp [Value.oneCell']) (by unfold maxLen; omega) (by omega) ?_
        intro v w3 gl1 r T
        simp only [List.set_cons_zero, List.set_cons_succ] at T
        obtain ⟨a1, cap1, rfl⟩ := r.val
        have f9 := T.free 0 0 rfl 9
        have c9 := T.cell 0 0 rfl 9
        have a1' := T.cell 3 0 rfl 0
        simp only [shutC, List.getElem?_toArray, List.getElem?_cons_zero, List.getElem?_cons_succ] at c9 a1'
        have T := Lib.hid T
        have r := Lib.hid r)
      all_goals
        have T5 := (T.out.set 0 0 rfl 9 (.slice a1 (k.left.length + 1) cap1)).eq (H' := [shutB kb L.fb pv (.slice a1 (k.left.length + 1) cap1) al { k with left := k.left ++ [nv] }, gl1, g2, [cl w.heap.size 75 #[ptr' kb]], [cl (w.heap.size + 1) 3 #[.int .i64 ix]], [cl (w.heap.size + 1 + 1) 106 #[.nilFunc, .nilFunc]]]) rfl
        generalize World.setCell _ _ _ = w5 at T5 ⊢
        exact key a1 cap1 w5 ⟨gl1, r.out, T5⟩
    case key =>
      rintro a1 cap1 w5 ⟨gl1, r, T⟩
      have HT := Lib.hid T
      have RR := Lib.hid (show rowG 22 1 (.slice a1 (k.left.length + 1) cap1) (k.left ++ [nv]).length (u64s (k.left ++ [nv])) gl1 from by simpa [u64s] using r)
      clear r T k9 fk9 a0 hl0 hl3 hll
      have a0 := HT.out.cell 3 0 rfl 0
      simp only [List.getElem?_nil, List.getElem?_toArray, List.getElem?_cons_zero, List.getElem?_cons_succ] at a0
      go_wp2_with fail
      refine wp_region_mix1 5 (by kernel_rfl) (by kernel_rfl) ?_
      simp only [List.take_succ_cons, List.take_zero, List.drop_succ_cons, List.drop_zero]
      repeat (go_big_quiet_step ((first | (go_at_call 171; with_reducible exact ReadsG.quiet (genR rw_ HTW.out.1 HTW.out.2) HT.out _ [] rfl rfl))))
      refine wpQuiet_nil ?_
      intro _ hw'
      obtain ⟨nq, hw''⟩ := hw'
      subst hw''
      have HT := Lib.hid (HT.out.drewN nq)
      go_wp2_with fail
      refine (DoesG.use (shutNote HX.out { ev0 with kind := 12, id := nv, gen := genW rw_ } HTR.out) (HT.out) [0, 2] rfl rfl).mono ?_
      rintro e w1 ⟨gs, ⟨rfl, g3, hx3, rfl⟩, Ta⟩
      simp only [putG, List.set_cons_zero, List.set_cons_succ, List.cons_append, List.nil_append, List.append_nil] at Ta
      have HX := Lib.hid hx3
      clear hx3 a0
      have HT := Lib.hid Ta
      clear Ta
      go_wp2_with fail
      refine ⟨rfl, ?_⟩
      generalize w1 = wq at HT ⊢
      go_wp2_with fail
      refine (DoesG.use (Cli.row_1 (b := wq.heap.size) (o := 0) (D := #[.func (.func 200) #[] #[ptr' w.heap.size, ptr' (w.heap.size + 1)], .func (.func 201) #[] #[ptr' w.heap.size]]) rfl 2 (.inr rfl)) (HT.out.alloc (k := wq.heap.size) rfl _ _) [6] rfl rfl).mono ?_
      rintro e w1 ⟨gs, ⟨bf, bl, bi, rfl, rfl⟩, Ta⟩
      simp only [putG, List.set_cons_zero, List.set_cons_succ, List.cons_append, List.nil_append, List.append_nil] at Ta
      have HT := Lib.hid Ta
      clear Ta
      have e0 := HT.out.cell 5 0 rfl 0
      have fe0 := HT.out.free 5 0 rfl 0
      have e1 := HT.out.cell 5 0 rfl 1
      have fe1 := HT.out.free 5 0 rfl 1
      simp only [List.getElem?_nil, List.getElem?_toArray, List.getElem?_cons_zero, List.getElem?_cons_succ] at e0 e1
      go_wp2
      exact bodyPost_ret (v := .agg #[.nilFunc, _]) (by simp [results, Tryz.results182, go_sem, e0, e1]) rfl ⟨_, ⟨_, [cl w.heap.size 75 #[ptr' kb], cl (w.heap.size + 1) 3 #[.int .i64 ix]], _, gl1, g3, ⟨_, _, rfl, fun e he => ⟨rfl, bf, bl, bi, wq.heap.size, .func (.func 200) #[] #[ptr' w.heap.size, ptr' (w.heap.size + 1)], .func (.func 201) #[] #[ptr' w.heap.size], [], [], rfl, ⟨rfl, w.heap.size, w.heap.size + 1, rfl, he _ (by simp), he _ (by simp)⟩, ⟨rfl, w.heap.size, rfl, he _ (by simp)⟩, rfl⟩⟩, RR.out, HX.out, rfl⟩, (((HT.out.set 5 0 rfl 0 _).set 5 0 rfl 1 _).pick [7, 8, 9, 6, 3, 4, 0, 1, 2] rfl).sum (fun n ha h0 h1 h2 => by simp only [pickG, List.map_cons, List.map_nil, List.getD_cons_succ, List.getD_cons_zero, List.set_cons_succ, List.set_cons_zero, List.cons_append, List.flatten_append, List.flatten_cons, List.flatten_nil, List.append_nil, List.nil_append, ha, h0, h1, h2] <;> omega)⟩
  · rw [if_pos he]
    have hb : (re != 0) = true := bne_iff_ne.2 he
    unfold LVS
    dsimp only
    intro w hw
    have T0 := TG.refl hw
    have HT := Lib.hid T0
    clear hw T0
    have HX := Lib.hid hx
    have HR := Lib.hid hr
    clear hx hr
    go_enter Tryz.func182, Tryz.ntmps182
    go_wp2_with fail
    have HT := Lib.hid (((HT.out.alloc (k := w.heap.size) rfl 75 #[ptr' kb]).alloc (k := w.heap.size + 1) (by simp) 3 #[.int .i64 ix]).alloc (k := w.heap.size + 1 + 1) (by simp) 106 #[.nilFunc, .nilFunc])
    generalize World.alloc (World.alloc (World.alloc w _) _) _ = w1 at HT ⊢
    have k0 := HT.out.cell 0 0 rfl 0
    have k10 := HT.out.cell 0 0 rfl 10
    simp only [shutC, List.getElem?_toArray, List.getElem?_cons_zero, List.getElem?_cons_succ] at k0 k10
    have a0 := HT.out.cell 3 0 rfl 0
    simp only [List.getElem?_nil, List.getElem?_toArray, List.getElem?_cons_zero, List.getElem?_cons_succ] at a0
    have b0 := HT.out.cell 4 0 rfl 0
    simp only [List.getElem?_nil, List.getElem?_toArray, List.getElem?_cons_zero, List.getElem?_cons_succ] at b0
    refine wp_region_mix1 10 (by kernel_rfl) (by kernel_rfl) ?_
    simp only [List.take_succ_cons, List.take_zero, List.drop_succ_cons, List.drop_zero]
    repeat (go_big_quiet_step ((first | (go_at_call 26; with_reducible exact ReadsG.quiet (coreSlab_r HX.out) HT.out _ [2] rfl rfl))))
    refine wpQuiet_nil ?_
    intro _ hw'
    obtain ⟨nq, hw''⟩ := hw'
    subst hw''
    have HT := Lib.hid (HT.out.drewN nq)
    go_wp2_with fail
    refine (DoesG.use (HTY.out) (HT.out) [2] rfl rfl).mono ?_
    rintro e w1 ⟨gs, ⟨rfl, g1, hx1, rfl⟩, Ta⟩
    simp only [putG, List.set_cons_zero, List.set_cons_succ, List.cons_append, List.nil_append, List.append_nil] at Ta
    have HX := Lib.hid hx1
    clear hx1 k0 k10 a0 b0
    have HT := Lib.hid Ta
    clear Ta
    go_wp2_with fail
    refine ⟨rfl, ?_⟩
    have a0 := HT.out.cell 3 0 rfl 0
    simp only [List.getElem?_nil, List.getElem?_toArray, List.getElem?_cons_zero, List.getElem?_cons_succ] at a0
    have b0 := HT.out.cell 4 0 rfl 0
    simp only [List.getElem?_nil, List.getElem?_toArray, List.getElem?_cons_zero, List.getElem?_cons_succ] at b0
    go_wp2_with fail
    refine (DoesG.use (sLooksS L kb pv ix) (HT.out) [] rfl rfl).mono ?_
    rintro e w1 ⟨gs, ⟨g2, l2, ⟨m2, d2, rfl, hs2⟩, rfl⟩, Ta⟩
    simp only [putG, List.set_cons_zero, List.set_cons_succ, List.cons_append, List.nil_append, List.append_nil] at Ta
    clear a0 b0
    have HT := Lib.hid Ta
    clear Ta
    have r0 := HT.out.cell 5 0 rfl 0
    have fr0 := HT.out.free 5 0 rfl 0
    have r1 := HT.out.cell 5 0 rfl 1
    have fr1 := HT.out.free 5 0 rfl 1
    simp only [List.getElem?_nil, List.getElem?_toArray, List.getElem?_cons_zero, List.getElem?_cons_succ] at r0 r1
    have hv2 := (cliS_vals L kb pv l2).vals (hs2 l2 (leE.refl _))
    obtain ⟨st1, st2⟩ := Cli.store_fv2 (P := Tryz.prog) hv2.1 hv2.2 r0 fr0 r1 fr1
    have HS := Lib.hid hs2
    clear hv2 hs2
    go_wp2
    exact bodyPost_ret (v := .agg #[_, _]) (by simp [results, Tryz.results182, go_sem, r0, r1]) rfl ⟨_, ⟨g2, l2, _, gl, g1, ⟨m2, d2, rfl, HS.out⟩, HR.out, HX.out, rfl⟩, ((HT.out.set 5 0 rfl 0 _).set 5 0 rfl 1 _).pick [6, 7, 0, 1, 2] rfl⟩
end
end Go.Proofs.YthbjaoinklhikaaGreat

namespace Go.Proofs.YthbjaoinklhikaaGreat
set_option linter.unusedVariables false
set_option linter.unusedSimpArgs false
open Go.RowKit Go.Shelf
section
variable {L : Lay} {x : CoreS} {p : PipeS} {e gl gC gK gF : List Blk} {kb : Nat} {pv vl al : Value} {k : ShutS}
set_option maxRecDepth 100000 in
theorem mLeaves0 (ix : Int) (hz : repS L kb pv e ⟨k, x, p⟩ gK gF) (hp : preS (.leaves0 ix) ⟨k, x, p⟩) (bk bi : Nat) (hb : cl bk 75 #[ptr' kb] ∈ e) (hbi : cl bi 3 #[.int .i64 ix] ∈ e) : DoesG Tryz.prog 181 #[ptr' bk, ptr' bi] [gK, gF] (MRS L kb pv e (runS (.leaves0 ix) ⟨k, x, p⟩).1 (runS (.leaves0 ix) ⟨k, x, p⟩).2) := by
  obtain ⟨hok, ⟨hi0, hi1⟩, hset⟩ := hp
  simp only at hset
  unfold MRS
  obtain ⟨vl, al, gl, gC, gP, hl, hx, hpp, rfl, rfl⟩ := hz
  have hset2 : (runS (.leaves0 ix) ⟨k, x, p⟩).2.k.aset = false := by
    dsimp only [runS]
    split <;> exact hset
  have hpipe : (runS (.leaves0 ix) ⟨k, x, p⟩).2.p = p := by
    dsimp only [runS]
    split <;> rfl
  have hal : al = .slice none 0 0 := by have := hl.2; rw [hset] at this; simpa using this
  subst hal
  have hlv := sLeavesS (kb := kb) (pv := pv) (al := .slice none 0 0) hl.1 hx hok ix ⟨hi0, hi1⟩
  generalize runS (.leaves0 ix) ⟨k, x, p⟩ = R at *
  obtain ⟨s', ⟨k', x', p'⟩⟩ := R
  simp only at hset2 hpipe hlv ⊢
  subst hpipe
  intro w hw
  have T0 := TG.refl hw
  have HT := Lib.hid T0
  clear hw T0
  have HT := Lib.hid (HT.out.sum (H' := [shutB kb L.fb pv vl (.slice none 0 0) k, gl, e, gC, gP]) (fun n ha h0 h1 h2 => by simp only [pickG, List.map_cons, List.map_nil, List.getD_cons_succ, List.getD_cons_zero, List.set_cons_succ, List.set_cons_zero, List.cons_append, List.flatten_append, List.flatten_cons, List.flatten_nil, List.append_nil, List.nil_append, ha, h0, h1, h2] <;> omega))
  have HLV := Lib.hid hlv
  have HPP := Lib.hid hpp
  have HST := Lib.hid hset2
  have ltb := HT.out.mem_lt 2 hb
  have lti := HT.out.mem_lt 2 hbi
  simp only [] at ltb lti
  have b0 := HT.out.mem_cell 2 hb 0
  have i0 := HT.out.mem_cell 2 hbi 0
  simp only [List.getElem?_toArray, List.getElem?_cons_zero] at b0 i0
  clear hb hbi hl hx hpp hok hset hset2 hlv
  go_enter Tryz.func181, Tryz.ntmps181
  go_wp2_with fail
  refine (DoesG.use (HLV.out) (HT.out.alloc (k := w.heap.size) rfl _ _) [0, 1, 3] rfl rfl).mono ?_
  rintro e w1 ⟨gs, ⟨g2, l2, vl2, gl2, gC2, ⟨m2, d2, rfl, hs2⟩, hr2, hx2, rfl⟩, Ta⟩
  simp only [putG, List.set_cons_zero, List.set_cons_succ, List.cons_append, List.nil_append, List.append_nil] at Ta
  clear b0 i0
  have HT := Lib.hid Ta
  clear Ta
  have r0 := HT.out.cell 5 0 rfl 0
  have fr0 := HT.out.free 5 0 rfl 0
  have r1 := HT.out.cell 5 0 rfl 1
  have fr1 := HT.out.free 5 0 rfl 1
  simp only [List.getElem?_nil, List.getElem?_toArray, List.getElem?_cons_zero, List.getElem?_cons_succ] at r0 r1
  have hv2 := (cliS_vals L kb pv l2).vals (hs2 l2 (leE.refl _))
  obtain ⟨st1, st2⟩ := Cli.store_fv2 (P := Tryz.prog) hv2.1 hv2.2 r0 fr0 r1 fr1
  have HS := Lib.hid hs2
  have HR2 := Lib.hid hr2
  have HX2 := Lib.hid hx2
  clear hv2 hs2 hr2 hx2
  go_wp2
  exact bodyPost_ret (v := .agg #[_, _]) (by simp [results, Tryz.results181, go_sem, r0, r1]) rfl ⟨_, ⟨e ++ l2, leE.app _ _, m2, d2, g2, _, _, rfl, HS.out _ (fun b hb => List.mem_append_right _ hb), ⟨vl2, .slice none 0 0, gl2, gC2, gP, ⟨HR2.out, by rw [HST.out]; rfl⟩, HX2.out, HPP.out, rfl, rfl⟩, rfl⟩, (((HT.out.set 5 0 rfl 0 _).set 5 0 rfl 1 _).pick [0, 3, 6, 2, 1, 7, 4] rfl).sum (fun n ha h0 h1 h2 => by simp only [pickG, List.map_cons, List.map_nil, List.getD_cons_succ, List.getD_cons_zero, List.set_cons_succ, List.set_cons_zero, List.cons_append, List.flatten_append, List.flatten_cons, List.flatten_nil, List.append_nil, List.nil_append, ha, h0, h1, h2] <;> omega)⟩
set_option maxRecDepth 100000 in
/-- **A CLOSING'S STEPS.** -/
theorem cliS_ok (L : Lay) (kb : Nat) (pv : Value) : (cliS L kb pv).Ok where
  refl := leE.refl
  trans h1 h2 := fun b hb => h2 b (h1 b hb)
  mm hl h := VMS.le hl h
  ma hl h := VAS.le hl h
  v e := cliS_vals L kb pv e
  m {e f v g gK gF z} hv hz hp := by
    obtain ⟨k, x, p⟩ := z
    obtain ⟨rfl, hv⟩ := hv
    cases f with
    | shuts => subst hv; exact ⟨_, _, _, rfl, fun _ _ => rfl, (mShuts hz hp).pre rfl⟩
    | slots0 => obtain ⟨bk, rfl, hb⟩ := hv; exact ⟨_, _, _, rfl, fun _ _ => rfl, (mSlots0 hz hp bk hb).pre rfl⟩
    | slots2 i => obtain ⟨bk, bi, rfl, hb, hbi⟩ := hv; exact ⟨_, _, _, rfl, fun _ _ => rfl, (mSlots2 i hz hp bk bi hb hbi).pre rfl⟩
    | waits => subst hv; exact ⟨_, _, _, rfl, fun _ _ => rfl, (mWaits hz).pre rfl⟩
    | looks1 i => obtain ⟨bk, bi, rfl, hb, hbi⟩ := hv; exact ⟨_, _, _, rfl, fun _ _ => rfl, (mLooks1 i hz hp bk bi hb hbi).pre rfl⟩
    | leaves0 i => obtain ⟨bk, bi, rfl, hb, hbi⟩ := hv; exact ⟨_, _, _, rfl, fun _ _ => rfl, (mLeaves0 i hz hp bk bi hb hbi).pre rfl⟩
    | waits2 => obtain ⟨bk, rfl, hb⟩ := hv; exact ⟨_, _, _, rfl, fun _ _ => rfl, (mWaits2 hz hp bk hb).pre rfl⟩
  a {e f v g gK gF z} hv hz hp := by
    obtain ⟨k, x, p⟩ := z
    obtain ⟨rfl, hv⟩ := hv
    cases f with
    | ends1 => obtain ⟨bk, rfl, hb⟩ := hv; exact ⟨_, _, _, rfl, fun _ _ => rfl, (aEndsS hz hp bk hb).pre rfl⟩
    | pshut => obtain ⟨bk, rfl, hb⟩ := hv; exact ⟨_, _, _, rfl, fun _ _ => rfl, (aPshut hz hp bk hb).pre rfl⟩
    | release i => obtain ⟨bk, bi, rfl, hb, hbi⟩ := hv; exact ⟨_, _, _, rfl, fun _ _ => rfl, (aReleaseS i hz hp bk bi hb hbi).pre rfl⟩
    | drop => obtain ⟨bk, rfl, hb⟩ := hv; exact ⟨_, _, _, rfl, fun _ _ => rfl, (aDropS hz hp bk hb).pre rfl⟩
  y {e f v g gK gF z} hv hz hp := by
    obtain ⟨k, x, p⟩ := z
    obtain ⟨rfl, hv⟩ := hv
    cases f with
    | inside => obtain ⟨bk, rfl, hb⟩ := hv; exact ⟨_, _, _, rfl, fun _ _ => rfl, ((yInside hz bk hb).pre rfl).post (by rintro e gs ⟨gK', gF', h1, h2, rfl⟩; exact ⟨_, ⟨gK', gF', h1, h2, rfl⟩, .refl _⟩)⟩
    | idle => obtain ⟨bk, rfl, hb⟩ := hv; exact ⟨_, _, _, rfl, fun _ _ => rfl, ((yIdle hz bk hb).pre rfl).post (by rintro e gs ⟨gK', gF', h1, h2, rfl⟩; exact ⟨_, ⟨gK', gF', h1, h2, rfl⟩, .refl _⟩)⟩
end
end Go.Proofs.YthbjaoinklhikaaGreat

namespace Go.Proofs.YthbjaoinklhikaaGreat
set_option linter.unusedVariables false
set_option linter.unusedSimpArgs false
open Go.RowKit Go.Shelf

/-! ## A closing's work, whole: Begin, Step, May, Done, Answer -/
def isSK (L : Lay) (kb : Nat) (pv : Value) (e : List Blk) (k : ShutS) (gK : List Blk) : Prop := ∃ vl al gl, isLeft k vl al gl ∧ gK = shutB kb L.fb pv vl al k ++ (gl ++ e)
def isCP (L : Lay) (x : CoreS) (p : PipeS) (gF : List Blk) : Prop := ∃ gC gP, isCore L x gC ∧ isPipe L.p.pb p gP ∧ gF = gC ++ gP
theorem repS_iff {L : Lay} {kb : Nat} {pv : Value} {e gK gF : List Blk} {z : ZS} : repS L kb pv e z gK gF ↔ isSK L kb pv e z.k gK ∧ isCP L z.x z.p gF :=
  ⟨fun ⟨vl, al, gl, gC, gP, a, b, c, d, f⟩ => ⟨⟨vl, al, gl, a, d⟩, ⟨gC, gP, b, c, f⟩⟩, fun ⟨⟨vl, al, gl, a, d⟩, ⟨gC, gP, b, c, f⟩⟩ => ⟨vl, al, gl, gC, gP, a, b, c, d, f⟩⟩
/-- a closing's work at a stage, behind n steps -/
def isClo (L : Lay) (kb : Nat) (s : SS) (n : Int) (k : ShutS) (g : List Blk) : Prop :=
  ∃ (pb : Nat) (e : List Blk) (m d : Value) (gst gK : List Blk), (cliS L kb (ptr' pb)).SV e s m d gst ∧ isSK L kb (ptr' pb) e k gK ∧ g = Cli.progB pb m d n ++ (gst ++ gK)
def stepS (s : SS) (z : ZS) : SS × ZS := St.run runS runAS s z
def preSS (s : SS) (z : ZS) : Prop := St.pre runS runAS preS preAS s z
def mayS' (s : SS) (z : ZS) : Bool := s.may mayS z
theorem preYS : ∀ (s : SS) {z : ZS}, ShutOk z → St.preY (fun (_ : YS) (z : ZS) => ShutOk z) s z
  | .nil, _, _ => trivial
  | .at none _, _, _ => trivial
  | .at (some y) _, _, h => h
  | .row1 _, _, _ => trivial
  | .row2 _ _, _, _ => trivial
  | .thn s _, _, h => preYS s h
section
variable {L : Lay} {x : CoreS} {p : PipeS} {g gF : List Blk} {kb : Nat} {s : SS} {n : Int} {k : ShutS}
set_option maxRecDepth 100000 in
theorem cloStep (hc : isClo L kb s n k g) (hx : isCP L x p gF) (ho : ShutOk ⟨k, x, p⟩) (hm : mayS' s ⟨k, x, p⟩ = true) (hp : preSS s ⟨k, x, p⟩) (hb : 0 ≤ n ∧ n ≤ 1000000000) :
    DoesG Tryz.prog 38 #[ptr' kb] [g, gF] fun en gs => ∃ g' gF', en = .returned (.bool true) ∧ isClo L kb (stepS s ⟨k, x, p⟩).1 (n + 1) (stepS s ⟨k, x, p⟩).2.k g' ∧ isCP L (stepS s ⟨k, x, p⟩).2.x (stepS s ⟨k, x, p⟩).2.p gF' ∧ gs = [g', gF'] := by
  obtain ⟨pb, e, m, d, gst, gK, hs, hk, rfl⟩ := hc
  have hd := CliE.prog_step (n := n) (cliS_ok L kb (ptr' pb)) hs (x := (⟨k, x, p⟩ : ZS)) (repS_iff.2 ⟨hk, hx⟩) (preYS s ho) hp pb hb hm
  obtain ⟨vl, al, gl, hl, rfl⟩ := hk
  intro w hw
  have T0 := TG.refl hw
  have HT := Lib.hid T0
  clear hw T0
  have T1 := HT.out.sum (H' := [shutB kb L.fb (ptr' pb) vl al k, Cli.progB pb m d n ++ (gst ++ (gl ++ e)), gF]) (fun n ha h0 h1 h2 => by simp only [pickG, List.map_cons, List.map_nil, List.getD_cons_succ, List.getD_cons_zero, List.set_cons_succ, List.set_cons_zero, List.cons_append, List.flatten_append, List.flatten_cons, List.flatten_nil, List.append_nil, List.nil_append, ha, h0, h1, h2] <;> omega)
  have k8 := T1.cell 0 0 rfl 8
  simp only [shutC, List.getElem?_toArray, List.getElem?_cons_zero, List.getElem?_cons_succ] at k8
  have lt := T1.lt 0 0 rfl
  simp only [] at lt
  have HD := Lib.hid hd
  have HT := Lib.hid (HT.out.sum (H' := [Cli.progB pb m d n, gst, shutB kb L.fb (ptr' pb) vl al k ++ (gl ++ e), gF]) (fun n ha h0 h1 h2 => by simp only [pickG, List.map_cons, List.map_nil, List.getD_cons_succ, List.getD_cons_zero, List.set_cons_succ, List.set_cons_zero, List.cons_append, List.flatten_append, List.flatten_cons, List.flatten_nil, List.append_nil, List.nil_append, ha, h0, h1, h2] <;> omega))
  clear hs hl hx ho hm hp hb hd T1
  go_enter Tryz.func38, Tryz.ntmps38
  go_wp2_with fail
  refine (DoesG.use (HD.out) (HT.out) [0, 1, 2, 3] rfl rfl).mono ?_
  rintro e w1 ⟨gs, ⟨e', hle, m', d', gst', gK', gF', rfl, hs', hx', rfl⟩, Ta⟩
  simp only [putG, List.set_cons_zero, List.set_cons_succ, List.cons_append, List.nil_append, List.append_nil] at Ta
  have HS := Lib.hid hs'
  have HX := Lib.hid (repS_iff.1 hx')
  clear hs' hx' k8
  have HT := Lib.hid Ta
  clear Ta
  go_wp2
  go_ret
  exact ⟨_, ⟨_, gF', rfl, ⟨pb, e', m', d', gst', gK', HS.out, HX.out.1, rfl⟩, HX.out.2, rfl⟩, HT.out.sum (fun n ha h0 h1 h2 => by simp only [pickG, List.map_cons, List.map_nil, List.getD_cons_succ, List.getD_cons_zero, List.set_cons_succ, List.set_cons_zero, List.cons_append, List.flatten_append, List.flatten_cons, List.flatten_nil, List.append_nil, List.nil_append, ha, h0, h1, h2] <;> omega)⟩
set_option maxRecDepth 100000 in
theorem cloNo (hc : isClo L kb s n k g) (hx : isCP L x p gF) (ho : ShutOk ⟨k, x, p⟩) (hm : mayS' s ⟨k, x, p⟩ = false) :
    DoesG Tryz.prog 38 #[ptr' kb] [g, gF] fun en gs => en = .returned (.bool false) ∧ ∃ g' gF', isClo L kb s n k g' ∧ isCP L x p gF' ∧ gs = [g', gF'] := by
  obtain ⟨pb, e, m, d, gst, gK, hs, hk, rfl⟩ := hc
  have hd := CliE.prog_step_no (n := n) (cliS_ok L kb (ptr' pb)) hs (x := (⟨k, x, p⟩ : ZS)) (repS_iff.2 ⟨hk, hx⟩) (preYS s ho) pb hm
  obtain ⟨vl, al, gl, hl, rfl⟩ := hk
  intro w hw
  have T0 := TG.refl hw
  have HT := Lib.hid T0
  clear hw T0
  have T1 := HT.out.sum (H' := [shutB kb L.fb (ptr' pb) vl al k, Cli.progB pb m d n ++ (gst ++ (gl ++ e)), gF]) (fun n ha h0 h1 h2 => by simp only [pickG, List.map_cons, List.map_nil, List.getD_cons_succ, List.getD_cons_zero, List.set_cons_succ, List.set_cons_zero, List.cons_append, List.flatten_append, List.flatten_cons, List.flatten_nil, List.append_nil, List.nil_append, ha, h0, h1, h2] <;> omega)
  have k8 := T1.cell 0 0 rfl 8
  simp only [shutC, List.getElem?_toArray, List.getElem?_cons_zero, List.getElem?_cons_succ] at k8
  have lt := T1.lt 0 0 rfl
  simp only [] at lt
  have HD := Lib.hid hd
  have HS := Lib.hid hs
  have HT := Lib.hid (HT.out.sum (H' := [Cli.progB pb m d n, gst, shutB kb L.fb (ptr' pb) vl al k ++ (gl ++ e), gF]) (fun n ha h0 h1 h2 => by simp only [pickG, List.map_cons, List.map_nil, List.getD_cons_succ, List.getD_cons_zero, List.set_cons_succ, List.set_cons_zero, List.cons_append, List.flatten_append, List.flatten_cons, List.flatten_nil, List.append_nil, List.nil_append, ha, h0, h1, h2] <;> omega))
  clear hs hl hx ho hm hd T1
  go_enter Tryz.func38, Tryz.ntmps38
  go_wp2_with fail
  refine (DoesG.use (HD.out) (HT.out) [0, 1, 2, 3] rfl rfl).mono ?_
  rintro e w1 ⟨gs, ⟨gK', gF', rfl, hx', rfl⟩, Ta⟩
  simp only [putG, List.set_cons_zero, List.set_cons_succ, List.cons_append, List.nil_append, List.append_nil] at Ta
  have HX := Lib.hid (repS_iff.1 hx')
  clear hx' k8
  have HT := Lib.hid Ta
  clear Ta
  go_wp2
  go_ret
  exact ⟨_, ⟨rfl, _, gF', ⟨pb, e, m, d, gst, gK', HS.out, HX.out.1, rfl⟩, HX.out.2, rfl⟩, HT.out.sum (fun n ha h0 h1 h2 => by simp only [pickG, List.map_cons, List.map_nil, List.getD_cons_succ, List.getD_cons_zero, List.set_cons_succ, List.set_cons_zero, List.cons_append, List.flatten_append, List.flatten_cons, List.flatten_nil, List.append_nil, List.nil_append, ha, h0, h1, h2] <;> omega)⟩
set_option maxRecDepth 100000 in
theorem cloMay (hc : isClo L kb s n k g) (hx : isCP L x p gF) (ho : ShutOk ⟨k, x, p⟩) :
    DoesG Tryz.prog 37 #[ptr' kb] [g, gF] fun en gs => en = .returned (.bool (mayS' s ⟨k, x, p⟩)) ∧ ∃ g' gF', isClo L kb s n k g' ∧ isCP L x p gF' ∧ gs = [g', gF'] := by
  obtain ⟨pb, e, m, d, gst, gK, hs, hk, rfl⟩ := hc
  have hd := CliE.prog_may (n := n) (cliS_ok L kb (ptr' pb)) hs (x := (⟨k, x, p⟩ : ZS)) (repS_iff.2 ⟨hk, hx⟩) (preYS s ho) pb
  have hd : DoesG Tryz.prog 66 _ _ fun en gs => ∃ gK' gF', en = .returned (.bool (mayS' s ⟨k, x, p⟩)) ∧ repS L kb (ptr' pb) e ⟨k, x, p⟩ gK' gF' ∧ _ := hd
  generalize mayS' s ⟨k, x, p⟩ = v at *
  obtain ⟨vl, al, gl, hl, rfl⟩ := hk
  intro w hw
  have T0 := TG.refl hw
  have HT := Lib.hid T0
  clear hw T0
  have T1 := HT.out.sum (H' := [shutB kb L.fb (ptr' pb) vl al k, Cli.progB pb m d n ++ (gst ++ (gl ++ e)), gF]) (fun n ha h0 h1 h2 => by simp only [pickG, List.map_cons, List.map_nil, List.getD_cons_succ, List.getD_cons_zero, List.set_cons_succ, List.set_cons_zero, List.cons_append, List.flatten_append, List.flatten_cons, List.flatten_nil, List.append_nil, List.nil_append, ha, h0, h1, h2] <;> omega)
  have k8 := T1.cell 0 0 rfl 8
  simp only [shutC, List.getElem?_toArray, List.getElem?_cons_zero, List.getElem?_cons_succ] at k8
  have lt := T1.lt 0 0 rfl
  simp only [] at lt
  have HD := Lib.hid hd
  have HS := Lib.hid hs
  have HT := Lib.hid (HT.out.sum (H' := [Cli.progB pb m d n, gst, shutB kb L.fb (ptr' pb) vl al k ++ (gl ++ e), gF]) (fun n ha h0 h1 h2 => by simp only [pickG, List.map_cons, List.map_nil, List.getD_cons_succ, List.getD_cons_zero, List.set_cons_succ, List.set_cons_zero, List.cons_append, List.flatten_append, List.flatten_cons, List.flatten_nil, List.append_nil, List.nil_append, ha, h0, h1, h2] <;> omega))
  clear hs hl hx ho hd T1
  go_enter Tryz.func37, Tryz.ntmps37
  go_wp2_with fail
  refine (DoesG.use (HD.out) (HT.out) [0, 1, 2, 3] rfl rfl).mono ?_
  rintro e w1 ⟨gs, ⟨gK', gF', rfl, hx', rfl⟩, Ta⟩
  simp only [putG, List.set_cons_zero, List.set_cons_succ, List.cons_append, List.nil_append, List.append_nil] at Ta
  have HX := Lib.hid (repS_iff.1 hx')
  clear hx' k8
  have HT := Lib.hid Ta
  clear Ta
  go_wp2
  go_ret
  exact ⟨_, ⟨rfl, _, gF', ⟨pb, e, m, d, gst, gK', HS.out, HX.out.1, rfl⟩, HX.out.2, rfl⟩, HT.out.sum (fun n ha h0 h1 h2 => by simp only [pickG, List.map_cons, List.map_nil, List.getD_cons_succ, List.getD_cons_zero, List.set_cons_succ, List.set_cons_zero, List.cons_append, List.flatten_append, List.flatten_cons, List.flatten_nil, List.append_nil, List.nil_append, ha, h0, h1, h2] <;> omega)⟩
set_option maxRecDepth 100000 in
theorem cloDone (hc : isClo L kb s n k g) : ReadsG Tryz.prog 39 #[ptr' kb] [g] (.bool s.isNil) := by
  obtain ⟨pb, e, m, d, gst, gK, hs, hk, rfl⟩ := hc
  have hd := CliE.prog_done (cliS_ok L kb (ptr' pb)) hs pb n
  obtain ⟨vl, al, gl, hl, rfl⟩ := hk
  intro w hw
  have T0 := TG.refl hw
  have HT := Lib.hid T0
  clear hw T0
  have T1 := HT.out.sum (H' := [shutB kb L.fb (ptr' pb) vl al k, Cli.progB pb m d n ++ (gst ++ (gl ++ e))]) (fun n ha h0 h1 h2 => by simp only [pickG, List.map_cons, List.map_nil, List.getD_cons_succ, List.getD_cons_zero, List.set_cons_succ, List.set_cons_zero, List.cons_append, List.flatten_append, List.flatten_cons, List.flatten_nil, List.append_nil, List.nil_append, ha, h0, h1, h2] <;> omega)
  have k8 := T1.cell 0 0 rfl 8
  simp only [shutC, List.getElem?_toArray, List.getElem?_cons_zero, List.getElem?_cons_succ] at k8
  have lt := T1.lt 0 0 rfl
  simp only [] at lt
  have HD := Lib.hid hd
  have HT := Lib.hid (HT.out.sum (H' := [Cli.progB pb m d n, gst, shutB kb L.fb (ptr' pb) vl al k ++ (gl ++ e)]) (fun n ha h0 h1 h2 => by simp only [pickG, List.map_cons, List.map_nil, List.getD_cons_succ, List.getD_cons_zero, List.set_cons_succ, List.set_cons_zero, List.cons_append, List.flatten_append, List.flatten_cons, List.flatten_nil, List.append_nil, List.nil_append, ha, h0, h1, h2] <;> omega))
  clear hs hl hd T1
  go_enter Tryz.func39, Tryz.ntmps39
  go_wp2_with fail
  refine (ReadsG.use (HD.out) (HT.out) [0] rfl rfl).mono ?_
  rintro e w1 ⟨rfl, mq, rfl⟩
  go_wp2
  go_ret
  exact ⟨rfl, _, rfl⟩
end
end Go.Proofs.YthbjaoinklhikaaGreat
