import Derived.Test.YtblhfbcodbjgcaaGreatTU19
import Derived.Test.YtblhfbcodbjgcaaGreatTU15
namespace Go.Proofs.YtblhfbcodbjgcaaGreat
set_option linter.unusedVariables false
set_option linter.unusedSimpArgs false
open Go.RowKit Go.Shelf
def PipeS.put (p : PipeS) (v : FireS) : PipeS × Bool × Int :=
  if p.shut = true then (p, false, 3)
  else if p.sp = [] ∧ p.ch.length < p.room then ({ p with ch := p.ch ++ [v] }, false, 0)
  else ({ p with sp := p.sp ++ [v], most := max p.most (p.sp.length + 1) }, true, 0)
set_option maxRecDepth 100000 in
theorem listPush_g {lb hb : Nat} {l : List Nd} {g : List Blk} (hg : isListF lb hb l g) (hn : l.length ≤ 1000000000) (v : FireS) :
    DoesG Tryz.prog 336 #[ptr' lb, .agg v.vals.toArray] [g] fun e gs => ∃ nb g', e = .returned (ptr' nb) ∧ isListF lb hb (l ++ [⟨nb, v.vals⟩]) g' ∧ gs = [g'] := by
  have HP := Lib.hid (show ∀ nb, _ from fun nb => listPutF_g hg hn nb (.int .u64 v.id) (.int .u64 v.gen) (.int .u64 v.dl) (.int .u64 v.tick) (.pointer none) (.pointer none))
  intro w hw
  have T0 := TG.refl hw
  have HT := Lib.hid T0
  clear hw T0
  simp only [FireS.vals]
  clear hg hn
  go_enter Tryz.func336, Tryz.ntmps336
  go_wp2_with fail
  obtain ⟨nb, hnb⟩ : ∃ nb, nb = w.heap.size + 1 := ⟨_, rfl⟩
  have HT := Lib.hid ((HT.out.alloc0 (.cells #[.int .u64 v.id, .int .u64 v.gen, .int .u64 v.dl, .int .u64 v.tick] 69)).alloc (k := nb) (by rw [hnb]; simp) 320 #[.int .u64 v.id, .int .u64 v.gen, .int .u64 v.dl, .int .u64 v.tick, .pointer none, .pointer none, .pointer none])
  rw [← hnb]
  clear hnb
  generalize World.alloc (World.alloc w _) _ = w1 at HT ⊢
  go_wp2_with fail
  refine (DoesG.use (HP.out nb) (HT.out) [0, 1] rfl rfl).mono ?_
  rintro e w1 ⟨gs, ⟨rfl, g1, hg1, rfl⟩, Ta⟩
  simp only [PU] at Ta
  have HG := Lib.hid hg1
  clear hg1
  have HT := Lib.hid Ta
  clear Ta
  go_wp2
  go_ret
  exact ⟨_, ⟨nb, g1, rfl, HG.out, rfl⟩, HT.out.pick [0] rfl⟩
section
variable {pb : Nat} {p : PipeS} {g : List Blk}
set_option maxRecDepth 100000 in
theorem pipeLen_r (hg : isPipe pb p g) (hn : p.ch.length ≤ 1000000 ∧ p.sp.length ≤ 1000000) : ReadsG Tryz.prog 41 #[ptr' pb] [g] (.int .i64 ((p.ch.length : Int) + p.sp.length)) := by
  obtain ⟨cb, lb, hb, a, b, l, gl, h1, h2, rfl⟩ := hg
  have hll : l.length = p.sp.length := by
    have := congrArg List.length h2
    simpa using this
  intro w hw
  have T0 := TG.refl hw
  have HT := Lib.hid T0
  clear hw T0
  have HT := Lib.hid (HT.out.sum (H' := [pipeB pb cb lb p, [(cb, .chan p.room (p.ch.map fun f => Value.agg f.vals.toArray).toArray false a b false)], gl]) (fun n ha h0 h1 h2 => by simp only [SU, ha, h0, h1, h2] <;> omega))
  have H1 := Lib.hid h1
  have H2 := Lib.hid h2
  have b1 := HT.out.obj 1 0 rfl
  simp only [] at b1
  have hlc := fun m => len_chan cb p.room _ false a b (w.drewN m) b1
  simp only [List.size_toArray, List.length_map] at hlc
  have HLL := Lib.hid (listLenF_r h1)
  rw [hll] at HLL
  have c0 := HT.out.cell 0 0 rfl 0
  have c1 := HT.out.cell 0 0 rfl 1
  simp only [pipeB, List.getElem?_toArray, List.getElem?_cons_zero, List.getElem?_cons_succ] at c0 c1
  clear h1 h2 b1
  generalize p.ch.length = n at *
  generalize p.sp.length = m at *
  obtain ⟨hn1, hn2⟩ := hn
  go_enter Tryz.func41, Tryz.ntmps41
  go_wp2_with fail
  go_quiet ((first | (go_at_call 107; with_reducible exact ReadsG.quiet (HLL.out) HT.out _ [2] rfl rfl)))
  have HT := Lib.hid (HT.out.drewN nq)
  go_wp2
  go_ret
  exact ⟨rfl, _, rfl⟩
theorem vals_arr (v : FireS) : v.vals.toArray = #[.int .u64 v.id, .int .u64 v.gen, .int .u64 v.dl, .int .u64 v.tick] := rfl
set_option maxRecDepth 100000 in
set_option maxHeartbeats 2000000 in
theorem pipePut_g (hg : isPipe pb p g) (v : FireS) (hn : p.sp.length ≤ 1000000) : DoesG Tryz.prog 323 #[ptr' pb, .agg v.vals.toArray] [g] fun e gs =>
    e = .returned (.tuple #[.bool (p.put v).2.1, .int .i64 (p.put v).2.2]) ∧ ∃ g', isPipe pb (p.put v).1 g' ∧ gs = [g'] := by
  cases hs : p.shut with
  | true =>
    have he : p.put v = (p, false, 3) := by unfold PipeS.put; rw [if_pos hs]
    rw [he]
    obtain ⟨cb, lb, hb, a, b, l, gl, h1, h2, rfl⟩ := hg
    have hll : l.length = p.sp.length := by
      have := congrArg List.length h2
      simpa using this
    intro w hw
    have T0 := TG.refl hw
    have HT := Lib.hid T0
    clear hw T0
    have HT := Lib.hid (HT.out.sum (H' := [pipeB pb cb lb p, [(cb, .chan p.room (p.ch.map fun f => Value.agg f.vals.toArray).toArray false a b false)], gl]) (fun n ha h0 h1 h2 => by simp only [SU, ha, h0, h1, h2] <;> omega))
    have H1 := Lib.hid h1
    have H2 := Lib.hid h2
    have c3 := HT.out.cell 0 0 rfl 3
    simp only [pipeB, hs, List.getElem?_toArray, List.getElem?_cons_zero, List.getElem?_cons_succ] at c3
    have lt := HT.out.lt 0 0 rfl
    simp only [] at lt
    rw [vals_arr]
    clear h1 h2 he hs
    go_enter Tryz.func323, Tryz.ntmps323
    go_wp2
    go_ret2
    exact ⟨_, ⟨rfl, _, ⟨cb, lb, hb, a, b, l, gl, H1.out, H2.out, rfl⟩, rfl⟩, (HT.out.alloc0 _).sum (fun n ha h0 h1 h2 => by simp only [SU, ha, h0, h1, h2] <;> omega)⟩
  | false =>
    by_cases hsp : p.sp = []
    · by_cases hr : p.ch.length < p.room
      · have he : p.put v = ({ p with ch := p.ch ++ [v] }, false, 0) := by unfold PipeS.put; rw [if_neg (by rw [hs]; decide), if_pos ⟨hsp, hr⟩]
        rw [he]
        have hsd := pipeSend_yes hg v hr
        have hg0 := hg
        obtain ⟨cb, lb, hb, a, b, l, gl, h1, h2, rfl⟩ := hg
        have hll : l.length = p.sp.length := by
          have := congrArg List.length h2
          simpa using this
        intro w hw
        have T0 := TG.refl hw
        have HT := Lib.hid T0
        clear hw T0
        have HT := Lib.hid (HT.out.sum (H' := [pipeB pb cb lb p, [(cb, .chan p.room (p.ch.map fun f => Value.agg f.vals.toArray).toArray false a b false)], gl]) (fun n ha h0 h1 h2 => by simp only [SU, ha, h0, h1, h2] <;> omega))
        have H1 := Lib.hid h1
        have H2 := Lib.hid h2
        rw [vals_arr] at hsd ⊢
        have HSD := Lib.hid hsd
        have HLL := Lib.hid (listLenF_r h1)
        rw [hll, hsp] at HLL
        have c1 := HT.out.cell 0 0 rfl 1
        have c3 := HT.out.cell 0 0 rfl 3
        simp only [pipeB, hs, List.getElem?_toArray, List.getElem?_cons_zero, List.getElem?_cons_succ] at c1 c3
        have lt := HT.out.lt 0 0 rfl
        simp only [] at lt
        clear h1 h2 he hs hsd hll hsp hg0
        go_enter Tryz.func323, Tryz.ntmps323
        go_wp2_with fail
        obtain ⟨vb, hvb⟩ : ∃ vb, vb = w.heap.size := ⟨_, rfl⟩
        have HT := Lib.hid (HT.out.alloc (k := vb) hvb 69 #[.int .u64 v.id, .int .u64 v.gen, .int .u64 v.dl, .int .u64 v.tick])
        rw [← hvb]
        clear c1 c3 lt hvb
        generalize World.alloc w _ = w1 at HT ⊢
        go_wp2_with fail
        refine (ReadsG.use (HLL.out) (HT.out) [2] rfl rfl).mono ?_
        rintro e w1 ⟨rfl, mq, rfl⟩
        have HT := Lib.hid (HT.out.drewN mq)
        generalize World.drewN _ _ = wq at HT ⊢
        have a0 := HT.out.cell 3 0 rfl 0
        have a1 := HT.out.cell 3 0 rfl 1
        have a2 := HT.out.cell 3 0 rfl 2
        have a3 := HT.out.cell 3 0 rfl 3
        simp only [List.getElem?_nil, List.getElem?_toArray, List.getElem?_cons_zero, List.getElem?_cons_succ] at a0 a1 a2 a3
        go_wp2_with fail
        refine (DoesG.use (HSD.out) (HT.out.sum (H' := [pipeB pb cb lb p ++ ([(cb, .chan p.room (p.ch.map fun f => Value.agg f.vals.toArray).toArray false a b false)] ++ gl), [cl vb 69 #[.int .u64 v.id, .int .u64 v.gen, .int .u64 v.dl, .int .u64 v.tick]]]) (fun n ha h0 h1 h2 => by simp only [SU, ha, h0, h1, h2] <;> omega)) [0] rfl rfl).mono ?_
        rintro e w1 ⟨gs, ⟨rfl, g1, hg1, rfl⟩, Ta⟩
        simp only [PU] at Ta
        have HG := Lib.hid hg1
        clear hg1 a0 a1 a2 a3
        have HT := Lib.hid Ta
        clear Ta
        go_wp2
        go_ret2
        exact ⟨_, ⟨rfl, g1, HG.out, rfl⟩, HT.out.pick [0] rfl⟩
      · have he : p.put v = ({ p with sp := p.sp ++ [v], most := max p.most ((p.sp.length : Int) + 1) }, true, 0) := by unfold PipeS.put; rw [if_neg (by rw [hs]; decide), if_neg (fun h => hr h.2)]
        rw [he]
        obtain ⟨M, hM⟩ : ∃ M, max p.most ((p.sp.length : Int) + 1) = M := ⟨_, rfl⟩
        rw [hM]
        have hpu : ∀ lb hb l gl, isListF lb hb l gl → l.map Nd.v = p.sp.map FireS.vals → _ := fun lb hb l gl h1 h2 => listPush_g h1 (by
          have := congrArg List.length h2
          simp only [List.length_map] at this
          omega) v
        have hln : ∀ lb hb (l : List Nd) nb g', l.map Nd.v = p.sp.map FireS.vals → isListF lb hb (l ++ [⟨nb, v.vals⟩]) g' → ReadsG Tryz.prog 107 #[ptr' lb] [g'] (.int .i64 ((p.sp.length : Int) + 1)) := fun lb hb l nb g' h2 h => by
          have := listLenF_r h
          have e := congrArg List.length h2
          simp only [List.length_map] at e
          rw [List.length_append, e] at this
          exact this
        rw [vals_arr] at hpu ⊢
        have HPU := Lib.hid hpu
        have HLN := Lib.hid hln
        have HM := Lib.hid hM
        have hsd := pipeSend_no hg v (by omega)
        obtain ⟨cb, lb, hb, a, b, l, gl, h1, h2, rfl⟩ := hg
        have hll : l.length = p.sp.length := by
          have := congrArg List.length h2
          simpa using this
        intro w hw
        have T0 := TG.refl hw
        have HT := Lib.hid T0
        clear hw T0
        have HT := Lib.hid (HT.out.sum (H' := [pipeB pb cb lb p, [(cb, .chan p.room (p.ch.map fun f => Value.agg f.vals.toArray).toArray false a b false)], gl]) (fun n ha h0 h1 h2 => by simp only [SU, ha, h0, h1, h2] <;> omega))
        have H1 := Lib.hid h1
        have H2 := Lib.hid h2
        rw [vals_arr] at hsd
        have HSD := Lib.hid hsd
        have HLL := Lib.hid (listLenF_r h1)
        rw [hll, hsp] at HLL
        have c1 := HT.out.cell 0 0 rfl 1
        have c3 := HT.out.cell 0 0 rfl 3
        simp only [pipeB, hs, List.getElem?_toArray, List.getElem?_cons_zero, List.getElem?_cons_succ] at c1 c3
        have lt := HT.out.lt 0 0 rfl
        simp only [] at lt
        clear h1 h2 he hs hsd hll hsp hpu hln hr
        generalize (p.sp.length : Int) = n at *
        go_enter Tryz.func323, Tryz.ntmps323
        go_wp2_with fail
        obtain ⟨vb, hvb⟩ : ∃ vb, vb = w.heap.size := ⟨_, rfl⟩
        have HT := Lib.hid (HT.out.alloc (k := vb) hvb 69 #[.int .u64 v.id, .int .u64 v.gen, .int .u64 v.dl, .int .u64 v.tick])
        rw [← hvb]
        clear c1 c3 lt hvb
        generalize World.alloc w _ = w1 at HT ⊢
        go_wp2_with fail
        refine (ReadsG.use (HLL.out) (HT.out) [2] rfl rfl).mono ?_
        rintro e w1 ⟨rfl, mq, rfl⟩
        have HT := Lib.hid (HT.out.drewN mq)
        generalize World.drewN _ _ = wq at HT ⊢
        have a0 := HT.out.cell 3 0 rfl 0
        have a1 := HT.out.cell 3 0 rfl 1
        have a2 := HT.out.cell 3 0 rfl 2
        have a3 := HT.out.cell 3 0 rfl 3
        simp only [List.getElem?_nil, List.getElem?_toArray, List.getElem?_cons_zero, List.getElem?_cons_succ] at a0 a1 a2 a3
        go_wp2_with fail
        refine (DoesG.use (HSD.out) (HT.out.sum (H' := [pipeB pb cb lb p ++ ([(cb, .chan p.room (p.ch.map fun f => Value.agg f.vals.toArray).toArray false a b false)] ++ gl), [cl vb 69 #[.int .u64 v.id, .int .u64 v.gen, .int .u64 v.dl, .int .u64 v.tick]]]) (fun n ha h0 h1 h2 => by simp only [SU, ha, h0, h1, h2] <;> omega)) [0] rfl rfl).mono ?_
        rintro e w1 ⟨gs, ⟨rfl, g1, hg1, rfl⟩, Ta⟩
        simp only [PU] at Ta
        clear a0 a1 a2 a3
        have HT := Lib.hid Ta
        clear Ta
        obtain ⟨cb, lb, hb, a, b, l, gl, h1, h2, rfl⟩ := hg1
        have HT := Lib.hid (HT.out.sum (H' := [pipeB pb cb lb p, [(cb, .chan p.room (p.ch.map fun f => Value.agg f.vals.toArray).toArray false a b false)], gl, [cl vb 69 #[.int .u64 v.id, .int .u64 v.gen, .int .u64 v.dl, .int .u64 v.tick]]]) (fun n ha h0 h1 h2 => by simp only [SU, ha, h0, h1, h2] <;> omega))
        have H1 := Lib.hid h1
        have H2 := Lib.hid h2
        clear h1 h2
        have HP1 := Lib.hid (HPU.out _ _ _ _ H1.out H2.out)
        have a0 := HT.out.cell 3 0 rfl 0
        have a1 := HT.out.cell 3 0 rfl 1
        have a2 := HT.out.cell 3 0 rfl 2
        have a3 := HT.out.cell 3 0 rfl 3
        simp only [List.getElem?_nil, List.getElem?_toArray, List.getElem?_cons_zero, List.getElem?_cons_succ] at a0 a1 a2 a3
        have c1 := HT.out.cell 0 0 rfl 1
        simp only [pipeB, List.getElem?_toArray, List.getElem?_cons_zero, List.getElem?_cons_succ] at c1
        go_wp2_with fail
        refine wp_region_mix1 5 (by kernel_rfl) (by kernel_rfl) ?_
        simp only [List.take_succ_cons, List.take_zero, List.drop_succ_cons, List.drop_zero]
        repeat (go_big_quiet_step ((fail)))
        refine wpQuiet_nil ?_
        intro _ hw'
        obtain ⟨nq, hw''⟩ := hw'
        subst hw''
        have HT := Lib.hid (HT.out.drewN nq)
        go_wp2_with fail
        refine (DoesG.use (HP1.out) (HT.out) [2] rfl rfl).mono ?_
        rintro e w1 ⟨gs, ⟨nb, g1, rfl, hg1, rfl⟩, Ta⟩
        simp only [PU] at Ta
        have HG := Lib.hid hg1
        have HL1 := Lib.hid (HLN.out _ _ _ nb g1 H2.out hg1)
        clear hg1 a0 a1 a2 a3 c1
        have HT := Lib.hid Ta
        clear Ta
        go_wp2_with fail
        refine ⟨rfl, ?_⟩
        have c1 := HT.out.cell 0 0 rfl 1
        have c2 := HT.out.cell 0 0 rfl 2
        have fc2 := HT.out.free 0 0 rfl 2
        simp only [pipeB, List.getElem?_toArray, List.getElem?_cons_zero, List.getElem?_cons_succ] at c1 c2
        have HM1 := HM.out
        clear hM HPU HLN HP1
        by_cases hmx : p.most < n + 1
        · obtain rfl : M = n + 1 := by omega
          have hmx2 : p.most ≤ n + 1 := by omega
          clear HM HM1
          go_wp2_with fail
          refine wp_region_mix1 13 (by kernel_rfl) (by kernel_rfl) ?_
          simp only [List.take_succ_cons, List.take_zero, List.drop_succ_cons, List.drop_zero]
          repeat (go_big_quiet_step ((first | (go_at_call 107; with_reducible exact ReadsG.quiet (HL1.out) HT.out _ [2] rfl rfl))))
          refine wpQuiet_nil ?_
          intro _ hw'
          obtain ⟨nq, hw''⟩ := hw'
          subst hw''
          have HT := Lib.hid (HT.out.drewN nq)
          go_wp2_with fail
          refine ⟨rfl, ?_⟩
          go_wp2
          go_ret2
          exact ⟨_, ⟨rfl, _, ⟨cb, lb, hb, a, b, _, g1, HG.out, by rw [List.map_append, H2.out, List.map_append]; rfl, rfl⟩, rfl⟩, ((HT.out.set 0 0 rfl 2 (.int .i64 (n + 1))).pick [0, 1, 2] rfl).eq (H' := [pipeB pb cb lb { p with sp := p.sp ++ [v], most := n + 1 } ++ ([(cb, .chan p.room (p.ch.map fun f => Value.agg f.vals.toArray).toArray false a b false)] ++ g1)]) (by simp [pickG, pipeB])⟩
        · obtain rfl : M = p.most := by omega
          have hmx2 : n + 1 ≤ p.most := by omega
          clear HM HM1
          go_wp2_with fail
          refine wp_region_mix1 13 (by kernel_rfl) (by kernel_rfl) ?_
          simp only [List.take_succ_cons, List.take_zero, List.drop_succ_cons, List.drop_zero]
          repeat (go_big_quiet_step ((first | (go_at_call 107; with_reducible exact ReadsG.quiet (HL1.out) HT.out _ [2] rfl rfl))))
          refine wpQuiet_nil ?_
          intro _ hw'
          obtain ⟨nq, hw''⟩ := hw'
          subst hw''
          have HT := Lib.hid (HT.out.drewN nq)
          go_wp2_with fail
          refine ⟨rfl, ?_⟩
          go_wp2
          go_ret2
          exact ⟨_, ⟨rfl, _, ⟨cb, lb, hb, a, b, _, g1, HG.out, by rw [List.map_append, H2.out, List.map_append]; rfl, rfl⟩, rfl⟩, ((HT.out.set 0 0 rfl 2 (.int .i64 p.most)).pick [0, 1, 2] rfl).eq (H' := [pipeB pb cb lb { p with sp := p.sp ++ [v], most := p.most } ++ ([(cb, .chan p.room (p.ch.map fun f => Value.agg f.vals.toArray).toArray false a b false)] ++ g1)]) (by simp [pickG, pipeB])⟩
    · have he : p.put v = ({ p with sp := p.sp ++ [v], most := max p.most ((p.sp.length : Int) + 1) }, true, 0) := by unfold PipeS.put; rw [if_neg (by rw [hs]; decide), if_neg (fun h => hsp h.1)]
      rw [he]
      obtain ⟨M, hM⟩ : ∃ M, max p.most ((p.sp.length : Int) + 1) = M := ⟨_, rfl⟩
      rw [hM]
      have hpu : ∀ lb hb l gl, isListF lb hb l gl → l.map Nd.v = p.sp.map FireS.vals → _ := fun lb hb l gl h1 h2 => listPush_g h1 (by
        have := congrArg List.length h2
        simp only [List.length_map] at this
        omega) v
      have hln : ∀ lb hb (l : List Nd) nb g', l.map Nd.v = p.sp.map FireS.vals → isListF lb hb (l ++ [⟨nb, v.vals⟩]) g' → ReadsG Tryz.prog 107 #[ptr' lb] [g'] (.int .i64 ((p.sp.length : Int) + 1)) := fun lb hb l nb g' h2 h => by
        have := listLenF_r h
        have e := congrArg List.length h2
        simp only [List.length_map] at e
        rw [List.length_append, e] at this
        exact this
      rw [vals_arr] at hpu ⊢
      have HPU := Lib.hid hpu
      have HLN := Lib.hid hln
      have HM := Lib.hid hM
      obtain ⟨cb, lb, hb, a, b, l, gl, h1, h2, rfl⟩ := hg
      have hll : l.length = p.sp.length := by
        have := congrArg List.length h2
        simpa using this
      intro w hw
      have T0 := TG.refl hw
      have HT := Lib.hid T0
      clear hw T0
      have HT := Lib.hid (HT.out.sum (H' := [pipeB pb cb lb p, [(cb, .chan p.room (p.ch.map fun f => Value.agg f.vals.toArray).toArray false a b false)], gl]) (fun n ha h0 h1 h2 => by simp only [SU, ha, h0, h1, h2] <;> omega))
      have H1 := Lib.hid h1
      have H2 := Lib.hid h2
      have HLL := Lib.hid (listLenF_r h1)
      rw [hll] at HLL
      have hz : (((p.sp.length : Nat) : Int) == 0) = false := beq_eq_false_iff_ne.2 (by
        intro h0
        have : p.sp.length = 0 := by omega
        exact hsp (List.eq_nil_of_length_eq_zero this))
      have c1 := HT.out.cell 0 0 rfl 1
      have c3 := HT.out.cell 0 0 rfl 3
      simp only [pipeB, hs, List.getElem?_toArray, List.getElem?_cons_zero, List.getElem?_cons_succ] at c1 c3
      have lt := HT.out.lt 0 0 rfl
      simp only [] at lt
      clear h1 h2 he hs hll hsp hpu hln
      generalize (p.sp.length : Int) = n at *
      go_enter Tryz.func323, Tryz.ntmps323
      go_wp2_with fail
      obtain ⟨vb, hvb⟩ : ∃ vb, vb = w.heap.size := ⟨_, rfl⟩
      have HT := Lib.hid (HT.out.alloc (k := vb) hvb 69 #[.int .u64 v.id, .int .u64 v.gen, .int .u64 v.dl, .int .u64 v.tick])
      rw [← hvb]
      clear c1 c3 lt hvb
      generalize World.alloc w _ = w1 at HT ⊢
      go_wp2_with fail
      refine (ReadsG.use (HLL.out) (HT.out) [2] rfl rfl).mono ?_
      rintro e w1 ⟨rfl, mq, rfl⟩
      have HT := Lib.hid (HT.out.drewN mq)
      generalize World.drewN _ _ = wq at HT ⊢
      have HP1 := Lib.hid (HPU.out _ _ _ _ H1.out H2.out)
      have a0 := HT.out.cell 3 0 rfl 0
      have a1 := HT.out.cell 3 0 rfl 1
      have a2 := HT.out.cell 3 0 rfl 2
      have a3 := HT.out.cell 3 0 rfl 3
      simp only [List.getElem?_nil, List.getElem?_toArray, List.getElem?_cons_zero, List.getElem?_cons_succ] at a0 a1 a2 a3
      have c1 := HT.out.cell 0 0 rfl 1
      simp only [pipeB, List.getElem?_toArray, List.getElem?_cons_zero, List.getElem?_cons_succ] at c1
      go_wp2_with fail
      refine wp_region_mix1 5 (by kernel_rfl) (by kernel_rfl) ?_
      simp only [List.take_succ_cons, List.take_zero, List.drop_succ_cons, List.drop_zero]
      repeat (go_big_quiet_step ((fail)))
      refine wpQuiet_nil ?_
      intro _ hw'
      obtain ⟨nq, hw''⟩ := hw'
      subst hw''
      have HT := Lib.hid (HT.out.drewN nq)
      go_wp2_with fail
      refine (DoesG.use (HP1.out) (HT.out) [2] rfl rfl).mono ?_
      rintro e w1 ⟨gs, ⟨nb, g1, rfl, hg1, rfl⟩, Ta⟩
      simp only [PU] at Ta
      have HG := Lib.hid hg1
      have HL1 := Lib.hid (HLN.out _ _ _ nb g1 H2.out hg1)
      clear hg1 a0 a1 a2 a3 c1
      have HT := Lib.hid Ta
      clear Ta
      go_wp2_with fail
      refine ⟨rfl, ?_⟩
      have c1 := HT.out.cell 0 0 rfl 1
      have c2 := HT.out.cell 0 0 rfl 2
      have fc2 := HT.out.free 0 0 rfl 2
      simp only [pipeB, List.getElem?_toArray, List.getElem?_cons_zero, List.getElem?_cons_succ] at c1 c2
      have HM1 := HM.out
      clear hM HPU HLN HP1
      by_cases hmx : p.most < n + 1
      · obtain rfl : M = n + 1 := by omega
        have hmx2 : p.most ≤ n + 1 := by omega
        clear HM HM1
        go_wp2_with fail
        refine wp_region_mix1 13 (by kernel_rfl) (by kernel_rfl) ?_
        simp only [List.take_succ_cons, List.take_zero, List.drop_succ_cons, List.drop_zero]
        repeat (go_big_quiet_step ((first | (go_at_call 107; with_reducible exact ReadsG.quiet (HL1.out) HT.out _ [2] rfl rfl))))
        refine wpQuiet_nil ?_
        intro _ hw'
        obtain ⟨nq, hw''⟩ := hw'
        subst hw''
        have HT := Lib.hid (HT.out.drewN nq)
        go_wp2_with fail
        refine ⟨rfl, ?_⟩
        go_wp2
        go_ret2
        exact ⟨_, ⟨rfl, _, ⟨cb, lb, hb, a, b, _, g1, HG.out, by rw [List.map_append, H2.out, List.map_append]; rfl, rfl⟩, rfl⟩, ((HT.out.set 0 0 rfl 2 (.int .i64 (n + 1))).pick [0, 1, 2] rfl).eq (H' := [pipeB pb cb lb { p with sp := p.sp ++ [v], most := n + 1 } ++ ([(cb, .chan p.room (p.ch.map fun f => Value.agg f.vals.toArray).toArray false a b false)] ++ g1)]) (by simp [pickG, pipeB])⟩
      · obtain rfl : M = p.most := by omega
        have hmx2 : n + 1 ≤ p.most := by omega
        clear HM HM1
        go_wp2_with fail
        refine wp_region_mix1 13 (by kernel_rfl) (by kernel_rfl) ?_
        simp only [List.take_succ_cons, List.take_zero, List.drop_succ_cons, List.drop_zero]
        repeat (go_big_quiet_step ((first | (go_at_call 107; with_reducible exact ReadsG.quiet (HL1.out) HT.out _ [2] rfl rfl))))
        refine wpQuiet_nil ?_
        intro _ hw'
        obtain ⟨nq, hw''⟩ := hw'
        subst hw''
        have HT := Lib.hid (HT.out.drewN nq)
        go_wp2_with fail
        refine ⟨rfl, ?_⟩
        go_wp2
        go_ret2
        exact ⟨_, ⟨rfl, _, ⟨cb, lb, hb, a, b, _, g1, HG.out, by rw [List.map_append, H2.out, List.map_append]; rfl, rfl⟩, rfl⟩, ((HT.out.set 0 0 rfl 2 (.int .i64 p.most)).pick [0, 1, 2] rfl).eq (H' := [pipeB pb cb lb { p with sp := p.sp ++ [v], most := p.most } ++ ([(cb, .chan p.room (p.ch.map fun f => Value.agg f.vals.toArray).toArray false a b false)] ++ g1)]) (by simp [pickG, pipeB])⟩
end
end Go.Proofs.YtblhfbcodbjgcaaGreat

namespace Go.Proofs.YtblhfbcodbjgcaaGreat
set_option linter.unusedVariables false
set_option linter.unusedSimpArgs false
open Go.RowKit Go.Shelf Go.Conc
def FireS.zero : FireS := ⟨0, 0, 0, 0⟩
def PipeS.take (p : PipeS) : PipeS × FireS × Int :=
  match p.ch, p.sp with
  | [], _ => (p, FireS.zero, 6)
  | f :: l, [] => ({ p with ch := l }, f, 0)
  | f :: l, x :: sp => ({ p with ch := l ++ [x], sp := sp }, f, 0)
section
variable {pb : Nat} {p : PipeS} {g : List Blk}
structure PipeOk (p : PipeS) : Prop where
  ch : p.ch.length ≤ p.room
  sp : p.sp.length ≤ 1000000
end
end Go.Proofs.YtblhfbcodbjgcaaGreat

namespace Go.Proofs.YtblhfbcodbjgcaaGreat
set_option linter.unusedVariables false
set_option linter.unusedSimpArgs false
open Go.RowKit Go.Shelf
structure TurnS where
  th : Int
  no : Int
  err : Int
  ok : Bool
  now : Int
  s : Option Nat
  t : TaskS
  saw : Int
  nd : Nat
  due : List TaskS
inductive MT where
  | enter | gate | tick | shards1 (i : Nat) | one2 (d : Nat) | one21 (d : Nat) | one211 (d : Nat) | one2112 (d : Nat) | one21121 | pops1 (n : Int) | pops11 (n : Int)
  | rec1 | rec11 | fires1 (d : Nat) (i : Nat) | looks | claims | claims2 | behind | rearm1 (next : Int) | finishes
inductive AT where
  | leave1 | answer | turnA (d : Nat) | unlock | put (f : FireS) | rel | drop
inductive YT where
  | lock | ready (i : Nat)
abbrev ST : Type := St MT AT YT
structure ZT where
  k : TurnS
  x : CoreS
  ws : List WheelS
  p : PipeS
def evT (k : TurnS) (E : EvS) : EvS := { E with thread := k.th, call := k.no, what := 7 }
def ZT.note (E : EvS) (z : ZT) : ZT := { z with x := { z.x with tr := z.x.tr ++ [evT z.k E] } }
def leavesT : ST := .row2 .leave1 .answer
def refuseT (e : Int) (z : ZT) : ST × ZT := (leavesT, { (z.note { ev0 with kind := 9, err := e }) with k := { z.k with err := e, ok := false } })
def shardsT (i : Nat) (z : ZT) : ST × ZT :=
  if i < z.x.shs.length then (.thn (.at (some .lock) (.one2 z.k.nd)) (.shards1 i), { z with k := { z.k with s := some i, nd := z.k.nd + 1, due := [] } })
  else (leavesT, { z with k := { z.k with err := 0, ok := true } })
def ZT.sh (z : ZT) : Nat := z.k.s.getD 0
def ZT.shS (z : ZT) : ShardS := z.x.shs.getD z.sh (newShard 1)
def ZT.wh (z : ZT) : WheelS := z.ws.getD z.sh ⟨0, [], []⟩
def ZT.onSh (z : ZT) (s : ShardS) : ZT := { z with x := { z.x with shs := z.x.shs.set z.sh s } }
def popsT (n : Int) (z : ZT) : ST := if n ≤ 0 then .nil else .at (some (.ready z.sh)) (.pops1 n)
def receivesT (z : ZT) : ST := if z.k.t.slot < 0 then .nil else .at none .rec1
def firesT (d i : Nat) (z : ZT) : ST × ZT :=
  match z.k.due[i]? with
  | none => (.nil, z)
  | some t => (.thn (.at none .looks) (.fires1 d i), { z with k := { z.k with t := t } })
def lookTu (st : Int) (z : ZT) : ZT × Bool :=
  ({ z with k := { z.k with saw := z.x.slab.word z.k.t.slot } }, stW (z.x.slab.word z.k.t.slot) == st && genW (z.x.slab.word z.k.t.slot) == z.k.t.gen && z.x.slab.mine z.k.t.id)
def tryTu (ev : Int) (z : ZT) : ZT × Bool :=
  ({ z with x := { z.x with slab := (z.x.slab.try z.k.t.slot z.k.saw ev).1 } }, (z.x.slab.try z.k.t.slot z.k.saw ev).2.2 == 0)
def armT (z : ZT) : ZT :=
  ({ z with ws := z.ws.set z.sh (z.wh.place (armE z.wh z.k.t)) } : ZT).note { ev0 with kind := 4, id := z.k.t.id, gen := z.k.t.gen, dl := armD z.wh z.k.t }
def one211T (d : Nat) (z : ZT) : ST × ZT := (.thn (.row1 (.turnA d)) (.one2112 d), z)
def runT : MT → ZT → ST × ZT
  | .enter, z => (.at none .gate, { z with x := { z.x with f := { z.x.f with inside := z.x.f.inside + 1 } } })
  | .gate, z => if z.x.f.closed = true then refuseT 3 z else (.at none .tick, z)
  | .tick, z => shardsT 0 (({ z with x := { z.x with f := { z.x.f with now := z.x.f.now + 1 } }, k := { z.k with now := z.x.f.now + 1 } } : ZT).note { ev0 with kind := 11, tick := z.x.f.now + 1 })
  | .shards1 i, z => shardsT (i + 1) z
  | .one2 d, z => (.at none (.one21 d), z.onSh { z.shS with who := tryW z.shS.who z.k.th, turns := tryN z.shS.who z.shS.turns })
  | .one21 d, z => if z.shS.ring.tail - z.shS.ring.head ≤ 0 then one211T d z else (.thn (popsT (z.shS.ring.tail - z.shS.ring.head) z) (.one211 d), z)
  | .one211 d, z => one211T d z
  | .one2112 d, z => match z.k.due[0]? with
    | none => (.row1 .unlock, z)
    | some _ => (.thn (firesT d 0 z).1 .one21121, (firesT d 0 z).2)
  | .one21121, z => (.row1 .unlock, z)
  | .pops1 n, z =>
    let z' : ZT := { (z.onSh { z.shS with ring := (popR z.shS.ring).1 }) with k := { z.k with t := (popR z.shS.ring).2.1 } }
    if z'.k.t.slot < 0 then (popsT (n - 1) z', z') else (.thn (.at none .rec1) (.pops11 n), z')
  | .pops11 n, z => (popsT (n - 1) z, z)
  | .rec1, z => if (lookTu 2 z).2 = true then (.at none .rec11, (lookTu 2 z).1) else (.nil, (lookTu 2 z).1)
  | .rec11, z => if (tryTu 3 z).2 = true then (.nil, armT (tryTu 3 z).1) else (receivesT (tryTu 3 z).1, (tryTu 3 z).1)
  | .fires1 d i, z => firesT d (i + 1) z
  | .looks, z => if (lookTu 3 z).2 = true then (.at none .claims, (lookTu 3 z).1) else (.nil, (lookTu 3 z).1)
  | .claims, z =>
    if (tryTu 4 z).2 = true then (.thn (.row1 (.put ⟨z.k.t.id, z.k.t.gen, z.k.t.dl, z.k.now⟩)) .claims2, (tryTu 4 z).1.note { ev0 with kind := 5, id := z.k.t.id, gen := z.k.t.gen, dl := z.k.t.dl, tick := z.k.now })
    else (.at none .looks, (tryTu 4 z).1)
  | .claims2, z => (.at none .behind, z)
  | .behind, z =>
    let w := z.x.slab.word z.k.t.slot
    let z' : ZT := { z with k := { z.k with saw := w } }
    if stW w ≠ 4 ∨ genW w ≠ z.k.t.gen then (.nil, z')
    else if 0 < z.k.t.per ∧ lastW w = false ∧ z.k.t.dl + z.k.t.per < 18446744073709551616 then (.at none (.rearm1 (z.k.t.dl + z.k.t.per)), z')
    else (.at none .finishes, z')
  | .rearm1 next, z =>
    if (tryTu 5 z).2 = true then (.nil, armT { (tryTu 5 z).1 with k := { z.k with t := { z.k.t with gen := z.k.t.gen + 1, dl := next } } }) else (.at none .behind, (tryTu 5 z).1)
  | .finishes, z =>
    if (tryTu 9 z).2 = true then (.row2 .rel .drop, if 0 < z.k.t.per ∧ lastW z.k.saw = false then (tryTu 9 z).1.note { ev0 with kind := 14, id := z.k.t.id, gen := z.k.t.gen } else (tryTu 9 z).1)
    else (.at none .behind, (tryTu 9 z).1)
def runAT : AT → ZT → ZT
  | .leave1, z => { z with x := { z.x with f := { z.x.f with inside := lessN z.x.f.inside } } }
  | .answer, z => z.note { ev0 with kind := 2, err := z.k.err }
  | .turnA d, z => { z with ws := z.ws.set z.sh z.wh.adv.1, k := { z.k with due := z.wh.adv.2.map EntS.v } }
  | .unlock, z => z.onSh { z.shS with who := 0 }
  | .put f, z => { z with p := (z.p.put f).1 }
  | .rel, z => { z with x := { z.x with slab := (z.x.slab.try z.k.t.slot (z.x.slab.word z.k.t.slot) 10).1 } }
  | .drop, z => { z with x := { z.x with slab := z.x.slab.drop.1 } }
def mayT : YT → ZT → Bool
  | .lock, z => decide (0 ≤ z.k.th) && (z.shS.who == 0)
  | .ready i, z => (z.x.shs.getD i (newShard 1)).ring.ready
structure TaskOk (t : TaskS) : Prop where
  id : 0 ≤ t.id ∧ t.id < 18446744073709551616
  gen : 0 ≤ t.gen ∧ t.gen ≤ 4294967296
  dl : 0 ≤ t.dl ∧ t.dl < 18446744073709551616
  per : 0 ≤ t.per ∧ t.per < 18446744073709551616
structure TurnOk (z : ZT) : Prop where
  core : CoreOk z.x
  th : 0 ≤ z.k.th
  now : 0 ≤ z.x.f.now ∧ z.x.f.now ≤ 15000000
  saw : 0 ≤ z.k.saw ∧ z.k.saw < 18446744073709551616 ∧ okW z.k.saw = true
  t : TaskOk z.k.t
  due : z.k.due.length ≤ 1000000
  ws : z.ws.length = z.x.shs.length
  wok : ∀ w ∈ z.ws, WheelOk w
  sh : ∀ i, z.k.s = some i → i < z.x.shs.length
  turns : ∀ s ∈ z.x.shs, 0 ≤ s.turns ∧ s.turns ≤ 1000000
  pipe : PipeOk z.p
def HasSh (z : ZT) : Prop := ∃ i, z.k.s = some i
def CurD (d : Nat) (z : ZT) : Prop := z.k.nd = d + 1
def MT.fit : MT → ZT → Prop
  | .shards1 i, z => i ≤ 64
  | .one2 d, z => HasSh z ∧ CurD d z ∧ z.k.th ≤ 1000000
  | .one21 d, z => HasSh z ∧ CurD d z
  | .one211 d, z => HasSh z ∧ CurD d z
  | .one2112 d, z => HasSh z ∧ CurD d z
  | .one21121, z => HasSh z
  | .pops1 n, z => HasSh z ∧ 0 ≤ n ∧ n ≤ 1000000 ∧ TurnOk (runT (.pops1 n) z).2
  | .pops11 n, z => HasSh z ∧ 0 ≤ n ∧ n ≤ 1000000
  | .rec11, z => HasSh z ∧ 0 ≤ z.k.t.slot
  | .fires1 d i, z => HasSh z ∧ CurD d z ∧ i ≤ 1000000
  | .rearm1 next, z => HasSh z ∧ 0 ≤ z.k.t.slot ∧ 0 ≤ next ∧ next < 18446744073709551616
  | _, _ => True
def preT (f : MT) (z : ZT) : Prop := TurnOk z ∧ f.fit z
def preAT (a : AT) (z : ZT) : Prop := TurnOk z ∧ match a with
  | .turnA d => HasSh z ∧ CurD d z
  | .unlock => HasSh z ∧ z.shS.who = z.k.th + 1 ∧ z.k.th ≤ 1000000
  | _ => True
def preYT (y : YT) (z : ZT) : Prop := TurnOk z ∧ match y with
  | .lock => HasSh z
  | .ready i => i < z.x.shs.length
def sVal (L : Lay) (k : TurnS) : Value := match k.s with
  | none => .pointer none
  | some i => match L.qs[i]? with
    | none => .pointer none
    | some q => ptr' q.b
def turnC (fb : Nat) (pv sv : Value) (k : TurnS) : Array Value := #[ptr' fb, .int .i64 k.th, .int .i64 k.no, .int .i64 k.err, .bool k.ok, .int .u64 0, .int .u64 0, .slice none 0 0, pv, .int .u64 k.now, sv,
  .int .u64 k.t.id, .int .i64 k.t.slot, .int .u64 k.t.gen, .int .u64 k.t.dl, .int .u64 k.t.per, .int .u64 k.saw]
abbrev turnB (kb fb : Nat) (pv sv : Value) (k : TurnS) : List Blk := [cl kb 164 (turnC fb pv sv k)]
def isDue (ds : List Nat) (k : TurnS) (g : List Blk) : Prop := ds.length = k.nd ∧ ((k.nd = 0 ∧ g = []) ∨
  ∃ m bd v gr, k.nd = m + 1 ∧ ds[m]? = some bd ∧ rowG 40 5 v k.due.length (tasksV k.due) gr ∧ g = [cl bd 343 #[v]] ++ gr)
def isWheels (L : Lay) (ws : List WheelS) (g : List Blk) : Prop := ws.length = L.qs.length ∧ FamP (fun (z : ShP × WheelS) => isWheel z.1.wb z.2) (L.qs.zip ws) g
abbrev ET : Type := List Blk × List Nat
structure leT (e e' : ET) : Prop where
  b : ∀ x ∈ e.1, x ∈ e'.1
  d : ∀ (i : Nat) (n : Nat), e.2[i]? = some n → e'.2[i]? = some n
theorem leT.refl (e : ET) : leT e e := ⟨fun _ h => h, fun _ _ h => h⟩
theorem leT.trans {a b c : ET} (h : leT a b) (k : leT b c) : leT a c := ⟨fun x hx => k.b x (h.b x hx), fun i n hn => k.d i n (h.d i n hn)⟩
theorem leT.app (e : ET) (l : List Blk) : leT e (e.1 ++ l, e.2) := ⟨fun x h => List.mem_append_left _ h, fun _ _ h => h⟩
theorem leT.app2 (e : ET) (l : List Blk) (d : Nat) : leT e (e.1 ++ l, e.2 ++ [d]) := ⟨fun x h => List.mem_append_left _ h, fun i n h => by rw [List.getElem?_append_left (List.getElem?_eq_some_iff.1 h).1]; exact h⟩
def repT (L : Lay) (kb : Nat) (pv : Value) (e : ET) (z : ZT) (gK gF : List Blk) : Prop :=
  ∃ gd gC gW gP, isDue e.2 z.k gd ∧ isCore L z.x gC ∧ isWheels L z.ws gW ∧ isPipe L.p.pb z.p gP ∧ gK = turnB kb L.fb pv (sVal L z.k) z.k ++ (gd ++ e.1) ∧ gF = gC ++ (gW ++ gP)
def kBox (kb bk : Nat) (e : ET) : Prop := cl bk 56 #[ptr' kb] ∈ e.1
def cloT (kb : Nat) (e : ET) (fn : FuncId) (v : Value) : Prop := ∃ bk, v = .func (.func fn) #[] #[ptr' bk] ∧ kBox kb bk e
def cloTi (kb : Nat) (e : ET) (fn : FuncId) (i : Int) (v : Value) : Prop := ∃ bk bi, v = .func (.func fn) #[] #[ptr' bk, ptr' bi] ∧ kBox kb bk e ∧ cl bi 3 #[.int .i64 i] ∈ e.1
def cloTd (kb : Nat) (e : ET) (fn : FuncId) (d : Nat) (v : Value) : Prop := ∃ bk bd, v = .func (.func fn) #[] #[ptr' bk, ptr' bd] ∧ kBox kb bk e ∧ e.2[d]? = some bd
def VMT (kb : Nat) (e : ET) (f : MT) (v : Value) (g : List Blk) : Prop := g = [] ∧ match f with
  | .enter => v = .func (.func 99) #[ptr' kb] #[]
  | .gate => v = .func (.func 147) #[ptr' kb] #[]
  | .tick => v = .func (.func 179) #[ptr' kb] #[]
  | .shards1 i => cloTi kb e 244 i v
  | .one2 d => cloTd kb e 256 d v
  | .one21 d => cloTd kb e 258 d v
  | .one211 d => cloTd kb e 260 d v
  | .one2112 d => cloTd kb e 263 d v
  | .one21121 => cloT kb e 265 v
  | .pops1 n => cloTi kb e 281 n v
  | .pops11 n => cloTi kb e 283 n v
  | .rec1 => cloT kb e 297 v
  | .rec11 => cloT kb e 299 v
  | .fires1 d i => ∃ bk bp bi bd, v = .func (.func 288) #[] #[ptr' bk, ptr' bp, ptr' bi] ∧ kBox kb bk e ∧ e.2[d]? = some bd ∧ cl bp 347 #[ptr' bd] ∈ e.1 ∧ cl bi 3 #[.int .i64 i] ∈ e.1
  | .looks => v = .func (.func 287) #[ptr' kb] #[]
  | .claims => v = .func (.func 310) #[ptr' kb] #[]
  | .claims2 => cloT kb e 324 v
  | .behind => v = .func (.func 325) #[ptr' kb] #[]
  | .rearm1 next => ∃ bk bn, v = .func (.func 337) #[] #[ptr' bk, ptr' bn] ∧ kBox kb bk e ∧ cl bn 36 #[.int .u64 next] ∈ e.1
  | .finishes => v = .func (.func 339) #[ptr' kb] #[]
def VAT (kb : Nat) (e : ET) (f : AT) (v : Value) (g : List Blk) : Prop := g = [] ∧ match f with
  | .leave1 => cloT kb e 240 v
  | .answer => cloT kb e 241 v
  | .turnA d => cloTd kb e 261 d v
  | .unlock => cloT kb e 266 v
  | .put f => ∃ bk bf, v = .func (.func 322) #[] #[ptr' bk, ptr' bf] ∧ kBox kb bk e ∧ cl bf 69 f.vals.toArray ∈ e.1
  | .rel => cloT kb e 342 v
  | .drop => cloT kb e 343 v
def VYT (L : Lay) (kb : Nat) (e : ET) (f : YT) (v : Value) (g : List Blk) : Prop := g = [] ∧ match f with
  | .lock => cloT kb e 254 v
  | .ready i => ∃ q, L.qs[i]? = some q ∧ v = .func (.func 280) #[ptr' q.b] #[]
def cliT (L : Lay) (kb : Nat) (pv : Value) : CliE :=
  ⟨MT, AT, YT, ZT, ET, leT, repT L kb pv, VMT kb, VAT kb, VYT L kb, runT, runAT, mayT, preT, preAT, preYT⟩
theorem kBox.le {kb bk : Nat} {e e' : ET} (h : kBox kb bk e) (hl : leT e e') : kBox kb bk e' := hl.b _ h
theorem cloT.le {kb : Nat} {e e' : ET} {fn : FuncId} {v : Value} (h : cloT kb e fn v) (hl : leT e e') : cloT kb e' fn v := by
  obtain ⟨bk, h1, h2⟩ := h; exact ⟨bk, h1, h2.le hl⟩
theorem cloTi.le {kb : Nat} {e e' : ET} {fn : FuncId} {i : Int} {v : Value} (h : cloTi kb e fn i v) (hl : leT e e') : cloTi kb e' fn i v := by
  obtain ⟨bk, bi, h1, h2, h3⟩ := h; exact ⟨bk, bi, h1, h2.le hl, hl.b _ h3⟩
theorem cloTd.le {kb : Nat} {e e' : ET} {fn : FuncId} {d : Nat} {v : Value} (h : cloTd kb e fn d v) (hl : leT e e') : cloTd kb e' fn d v := by
  obtain ⟨bk, bi, h1, h2, h3⟩ := h; exact ⟨bk, bi, h1, h2.le hl, hl.d _ _ h3⟩
theorem cloT.is {kb : Nat} {e : ET} {fn : FuncId} {v : Value} (h : cloT kb e fn v) : ∃ fn first caps, v = .func (.func fn) first caps := by
  obtain ⟨bk, h1, h2⟩ := h; exact ⟨_, _, _, h1⟩
theorem cloTi.is {kb : Nat} {e : ET} {fn : FuncId} {i : Int} {v : Value} (h : cloTi kb e fn i v) : ∃ fn first caps, v = .func (.func fn) first caps := by
  obtain ⟨bk, bi, h1, h2, h3⟩ := h; exact ⟨_, _, _, h1⟩
theorem cloTd.is {kb : Nat} {e : ET} {fn : FuncId} {d : Nat} {v : Value} (h : cloTd kb e fn d v) : ∃ fn first caps, v = .func (.func fn) first caps := by
  obtain ⟨bk, bi, h1, h2, h3⟩ := h; exact ⟨_, _, _, h1⟩
theorem VMT.le {kb : Nat} {e e' : ET} {f : MT} {v : Value} {g : List Blk} (hl : leT e e') (h : VMT kb e f v g) : VMT kb e' f v g := by
  refine ⟨h.1, ?_⟩
  have := h.2
  cases f
  case fires1 d i => obtain ⟨bk, bp, bi, bd, h1, h2, h3, h4, h5⟩ := this; exact ⟨bk, bp, bi, bd, h1, h2.le hl, hl.d _ _ h3, hl.b _ h4, hl.b _ h5⟩
  case rearm1 next => obtain ⟨bk, bn, h1, h2, h3⟩ := this; exact ⟨bk, bn, h1, h2.le hl, hl.b _ h3⟩
  all_goals first | exact this | exact cloT.le this hl | exact cloTi.le this hl | exact cloTd.le this hl
theorem VAT.le {kb : Nat} {e e' : ET} {f : AT} {v : Value} {g : List Blk} (hl : leT e e') (h : VAT kb e f v g) : VAT kb e' f v g := by
  refine ⟨h.1, ?_⟩
  have := h.2
  cases f
  case put f => obtain ⟨bk, bn, h1, h2, h3⟩ := this; exact ⟨bk, bn, h1, h2.le hl, hl.b _ h3⟩
  all_goals first | exact this | exact cloT.le this hl | exact cloTi.le this hl | exact cloTd.le this hl
theorem cliT_vals (L : Lay) (kb : Nat) (pv : Value) (e : ET) : ((cliT L kb pv).on e).Vals where
  vm {f v g} h := by
    have := h.2
    cases f
    case fires1 d i => obtain ⟨bk, bp, bi, bd, h1, h2⟩ := this; exact ⟨_, _, _, h1⟩
    case rearm1 next => obtain ⟨bk, bn, h1, h2⟩ := this; exact ⟨_, _, _, h1⟩
    all_goals first | exact ⟨_, _, _, this⟩ | exact cloT.is this | exact cloTi.is this | exact cloTd.is this
  va {f v g} h := by
    have := h.2
    cases f
    case put f => obtain ⟨bk, bn, h1, h2⟩ := this; exact ⟨_, _, _, h1⟩
    all_goals first | exact cloT.is this | exact cloTi.is this | exact cloTd.is this
  vy {f v g} h := by
    have := h.2
    cases f
    · exact cloT.is this
    · obtain ⟨q, _, h1⟩ := this; exact ⟨_, _, _, h1⟩
def MRT (L : Lay) (kb : Nat) (pv : Value) (e : ET) (s : ST) (z : ZT) (en : Ending) (gs : GH) : Prop :=
  ∃ e', leT e e' ∧ ∃ m d g' gK' gF', en = .returned (.agg #[m, d]) ∧ (cliT L kb pv).SV e' s m d g' ∧ repT L kb pv e' z gK' gF' ∧ gs = [g', gK', gF']
def ART (L : Lay) (kb : Nat) (pv : Value) (e : ET) (z : ZT) (en : Ending) (gs : GH) : Prop :=
  ∃ e', leT e e' ∧ ∃ gK' gF', en = .returned (.tuple #[]) ∧ repT L kb pv e' z gK' gF' ∧ gs = [[], gK', gF']
def SRT (L : Lay) (kb : Nat) (pv : Value) (s : ST) (en : Ending) (g' l : List Blk) : Prop :=
  ∃ m d, en = .returned (.agg #[m, d]) ∧ ∀ e : ET, (∀ b ∈ l, b ∈ e.1) → (cliT L kb pv).SV e s m d g'
theorem at_g (fn : FuncId) (a c : Array Value) : DoesG Tryz.prog 98 #[.func (.func fn) a c] [] fun en gs => en = .returned (.agg #[.nilFunc, .func (.func fn) a c]) ∧ gs = [] := by
  intro w hw
  have T0 := TG.refl hw
  have HT := Lib.hid T0
  clear hw T0
  go_enter Tryz.func98, Tryz.ntmps98
  go_wp2
  exact bodyPost_ret (v := .agg #[_, _]) (by simp [results, Tryz.results98, go_sem]) rfl ⟨_, ⟨rfl, rfl⟩, HT.out.alloc0 _⟩
end Go.Proofs.YtblhfbcodbjgcaaGreat

namespace Go.Proofs.YtblhfbcodbjgcaaGreat
set_option linter.unusedVariables false
set_option linter.unusedSimpArgs false
open Go.RowKit Go.Shelf
section
variable {L : Lay} {x : CoreS} {p : PipeS} {e gK gF : List Blk} {kb : Nat} {pv : Value} {k : ShutS}
end
end Go.Proofs.YtblhfbcodbjgcaaGreat

namespace Go.Proofs.YtblhfbcodbjgcaaGreat
set_option linter.unusedVariables false
set_option linter.unusedSimpArgs false
open Go.RowKit Go.Shelf
section
variable {L : Lay} {x : CoreS} {p : PipeS} {e g gC gK gF : List Blk} {kb : Nat} {pv vl al : Value} {k : ShutS}
end
end Go.Proofs.YtblhfbcodbjgcaaGreat

namespace Go.Proofs.YtblhfbcodbjgcaaGreat
set_option linter.unusedVariables false
set_option linter.unusedSimpArgs false
open Go.RowKit Go.Shelf
section
variable {L : Lay} {x : CoreS} {p : PipeS} {e gK gF : List Blk} {kb : Nat} {pv : Value} {k : ShutS}
end
end Go.Proofs.YtblhfbcodbjgcaaGreat

namespace Go.Proofs.YtblhfbcodbjgcaaGreat
set_option linter.unusedVariables false
set_option linter.unusedSimpArgs false
open Go.RowKit Go.Shelf
section
variable {L : Lay} {x : CoreS} {p : PipeS} {e gl gC gK gF : List Blk} {kb : Nat} {pv vl al : Value} {k : ShutS}
end
end Go.Proofs.YtblhfbcodbjgcaaGreat

namespace Go.Proofs.YtblhfbcodbjgcaaGreat
set_option linter.unusedVariables false
set_option linter.unusedSimpArgs false
open Go.RowKit Go.Shelf
section
variable {L : Lay} {x : CoreS} {p : PipeS} {e gK gF : List Blk} {kb : Nat} {pv : Value} {k : ShutS}
end
end Go.Proofs.YtblhfbcodbjgcaaGreat

namespace Go.Proofs.YtblhfbcodbjgcaaGreat
set_option linter.unusedVariables false
set_option linter.unusedSimpArgs false
open Go.RowKit Go.Shelf
theorem genR (n : Int) (h0 : 0 ≤ n) (h1 : n < 18446744073709551616) : ReadsG Tryz.prog 209 #[.int .u64 n] [] (.int .u64 (genW n)) := fun w hw => (gen_calls n w h0 h1).mono (by rintro e w' ⟨rfl, rfl⟩; exact ⟨rfl, 0, rfl⟩)
section
variable {L : Lay} {x : CoreS} {p : PipeS} {e gl gC gK gF : List Blk} {kb : Nat} {pv vl al : Value} {k : ShutS}
end
end Go.Proofs.YtblhfbcodbjgcaaGreat

namespace Go.Proofs.YtblhfbcodbjgcaaGreat
set_option linter.unusedVariables false
set_option linter.unusedSimpArgs false
open Go.RowKit Go.Shelf
theorem stateR (n : Int) (h0 : 0 ≤ n) (h1 : n < 18446744073709551616) : ReadsG Tryz.prog 47 #[.int .u64 n] [] (.int .i64 (stW n)) := fun w hw => (state_calls n w h0 h1).mono (by rintro e w' ⟨rfl, rfl⟩; exact ⟨rfl, 0, rfl⟩)
theorem lastR (n : Int) (h0 : 0 ≤ n) (h1 : n < 18446744073709551616) : ReadsG Tryz.prog 236 #[.int .u64 n] [] (.bool (lastW n)) := fun w hw => (last_calls n w h0 h1).mono (by rintro e w' ⟨rfl, rfl⟩; exact ⟨rfl, 0, rfl⟩)
section
variable {L : Lay} {x : CoreS} {gC : List Blk} {kb : Nat} {pv sv : Value} {k : TurnS}
set_option maxRecDepth 100000 in
theorem turnNote (hx : isCore L x gC) (E : EvS) (hn : x.tr.length ≤ 1000000) : DoesG Tryz.prog 100 #[ptr' kb, .agg E.cells] [turnB kb L.fb pv sv k, gC] fun e gs =>
    e = .returned (.tuple #[]) ∧ ∃ g', isCore L { x with tr := x.tr ++ [evT k E] } g' ∧ gs = [turnB kb L.fb pv sv k, g'] := by
  intro w hw
  have T0 := TG.refl hw
  have HT := Lib.hid T0
  clear hw T0
  have HN := Lib.hid (coreNote hx (evT k E) hn)
  have lt := HT.out.lt 0 0 rfl
  simp only [] at lt
  have k0 := HT.out.cell 0 0 rfl 0
  have k1 := HT.out.cell 0 0 rfl 1
  have k2 := HT.out.cell 0 0 rfl 2
  simp only [turnC, List.getElem?_toArray, List.getElem?_cons_zero, List.getElem?_cons_succ] at k0 k1 k2
  clear hx hn
  simp only [EvS.cells]
  go_enter Tryz.func100, Tryz.ntmps100
  go_wp2
  go_region
  go_wp2
  have HT := Lib.hid (HT.out.alloc (k := w.heap.size) rfl 152 (evT k E).cells).drew
  simp only [List.cons_append, List.nil_append] at HT
  simp only [EvS.cells, evT] at HT
  clear lt k1 k2 k0
  generalize World.drew _ = w1 at HT ⊢
  have k0 := HT.out.cell 0 0 rfl 0
  simp only [turnC, List.getElem?_toArray, List.getElem?_cons_zero, List.getElem?_cons_succ] at k0
  have b0 := HT.out.cell 2 0 rfl 0
  have b1 := HT.out.cell 2 0 rfl 1
  have b2 := HT.out.cell 2 0 rfl 2
  have b3 := HT.out.cell 2 0 rfl 3
  have b4 := HT.out.cell 2 0 rfl 4
  have b5 := HT.out.cell 2 0 rfl 5
  have b6 := HT.out.cell 2 0 rfl 6
  have b7 := HT.out.cell 2 0 rfl 7
  have b8 := HT.out.cell 2 0 rfl 8
  have b9 := HT.out.cell 2 0 rfl 9
  simp only [List.getElem?_nil, List.getElem?_toArray, List.getElem?_cons_zero, List.getElem?_cons_succ] at b0 b1 b2 b3 b4 b5 b6 b7 b8 b9
  refine wp_region_mix1 5 (by kernel_rfl) (by kernel_rfl) ?_
  simp only [List.take_succ_cons, List.take_zero, List.drop_succ_cons, List.drop_zero]
  repeat (go_big_quiet_step ((fail)))
  refine wpQuiet_nil ?_
  intro _ hw'
  obtain ⟨nq, hw''⟩ := hw'
  subst hw''
  have HT := Lib.hid (HT.out.drewN nq)
  go_wp2_with fail
  refine (DoesG.use (HN.out) (HT.out) [1] rfl rfl).mono ?_
  rintro e w1 ⟨gs, ⟨rfl, g', hx', rfl⟩, Ta⟩
  simp only [PU] at Ta
  have HX := Lib.hid hx'
  clear hx'
  have HT := Lib.hid Ta
  clear Ta
  go_wp2_with fail
  refine ⟨rfl, ?_⟩
  go_wp2
  exact bodyPost_end (results_none rfl _ _ _) rfl ⟨_, ⟨rfl, g', HX.out, rfl⟩, HT.out.pick [0, 1] rfl⟩
set_option maxRecDepth 100000 in
set_option maxHeartbeats 4000000 in
theorem turnLook (hx : isCore L x gC) (ho : CoreOk x) (ht : TaskOk k.t) (st : Int) : DoesG Tryz.prog 298 #[ptr' kb, .int .i64 st] [turnB kb L.fb pv sv k, gC] fun e gs =>
    e = .returned (.bool (stW (x.slab.word k.t.slot) == st && genW (x.slab.word k.t.slot) == k.t.gen && x.slab.mine k.t.id)) ∧ ∃ g', isCore L x g' ∧ gs = [turnB kb L.fb pv sv { k with saw := x.slab.word k.t.slot }, g'] := by
  have HWB := Lib.hid (word_bd ho.slab k.t.slot)
  have HWD := Lib.hid (show ∀ g', isCore L x g' → _ from fun g' hx' => coreWord (g := g') hx' ho.slab.n1 k.t.slot)
  have HMI := Lib.hid (show ∀ g', isCore L x g' → _ from fun g' hx' => coreMine (g := g') hx' ho.slab.n1 k.t.id ht.id.1 ht.id.2)
  have HX := Lib.hid hx
  generalize x.slab.mine k.t.id = mi at *
  obtain ⟨wd, hwd⟩ : ∃ wd, wd = x.slab.word k.t.slot := ⟨_, rfl⟩
  rw [← hwd] at HWB HWD ⊢
  have HSW := Lib.hid (stateR wd HWB.out.1 HWB.out.2.1)
  have HGW := Lib.hid (genR wd HWB.out.1 HWB.out.2.1)
  generalize stW wd = sw at *
  generalize genW wd = gw at *
  clear ho ht hx hwd HWB
  intro w hw
  have T0 := TG.refl hw
  have HT := Lib.hid T0
  clear hw T0
  go_enter Tryz.func298, Tryz.ntmps298
  go_wp2_with fail
  obtain ⟨ι, W, hW0, hend, hin⟩ : ∃ (ι : Type) (W : ι → World), (∃ i, World.drew w = W i) ∧ (∀ i, ∃ gx, isCore L x gx ∧ TG [turnB kb L.fb pv sv k, gC] w [turnB kb L.fb pv sv k, gx] (W i)) ∧ (∀ w', (∃ gx, isCore L x gx ∧ TG [turnB kb L.fb pv sv k, gC] w [turnB kb L.fb pv sv k, gx] w') → ∃ i, w' = W i) := ⟨{w' // ∃ gx, isCore L x gx ∧ TG [turnB kb L.fb pv sv k, gC] w [turnB kb L.fb pv sv k, gx] w'}, Subtype.val, ⟨⟨_, gC, HX.out, HT.out.drew⟩, rfl⟩, fun i => i.2, fun w' h => ⟨⟨w', h⟩, rfl⟩⟩
  have hne : Nonempty ι := hW0.elim fun i _ => ⟨i⟩
  have k0 : ∀ i, (W i).cell? ⟨kb, 0, none⟩ = some (ptr' L.fb) := fun i => by obtain ⟨_, _, T⟩ := hend i; exact T.cell 0 0 rfl 0
  have k12 : ∀ i, (W i).cell? ⟨kb, 12, none⟩ = some (.int .i64 k.t.slot) := fun i => by obtain ⟨_, _, T⟩ := hend i; exact T.cell 0 0 rfl 12
  have m1 : ∀ i, Calls Tryz.prog 22 #[ptr' L.fb] (W i) fun e w2 => e = .returned (ptr' L.p.sb) ∧ ∃ j, w2 = W j := fun i => by
    obtain ⟨_, hg, T⟩ := hend i
    refine (DoesG.use ((coreSlab_r hg).does) T [1] rfl rfl).mono ?_
    rintro e w2 ⟨gs, ⟨rfl, rfl⟩, T2⟩
    exact ⟨rfl, hin _ ⟨_, hg, T2⟩⟩
  have m2 : ∀ i, Calls Tryz.prog 46 #[ptr' L.p.sb, .int .i64 k.t.slot] (W i) fun e w2 => e = .returned (.tuple #[.int .u64 wd, .int .i64 (x.slab.werr k.t.slot)]) ∧ ∃ j, w2 = W j := fun i => by
    obtain ⟨_, hg, T⟩ := hend i
    refine (DoesG.use (HWD.out _ hg) T [1] rfl rfl).mono ?_
    rintro e w2 ⟨gs, ⟨rfl, g3, hg3, rfl⟩, T2⟩
    exact ⟨rfl, hin _ ⟨g3, hg3, T2⟩⟩
  refine wp_region_mix (fun w' => ∃ i, w' = W i) 17 (by kernel_rfl) (by kernel_rfl) hW0 ?_
  simp only [List.take_succ_cons, List.take_zero, List.drop_succ_cons, List.drop_zero]
  repeat (go_big_quiet_step ((first | (go_at_call 22; with_reducible exact m1 _) | (go_at_call 46; with_reducible exact m2 _))))
  refine wpQuiet_nil ?_
  intro _ hw'
  obtain ⟨iq, hw''⟩ := hw'
  subst hw''
  obtain ⟨g1, hx1, T⟩ := hend iq
  have HT := Lib.hid T
  generalize W iq = w1 at HT ⊢
  clear T hend hin hW0 hne
  have HX1 := Lib.hid hx1
  clear hx1 k0 k12 m1 m2
  have k16 := HT.out.cell 0 0 rfl 16
  have fk16 := HT.out.free 0 0 rfl 16
  simp only [turnC, List.getElem?_toArray, List.getElem?_cons_zero, List.getElem?_cons_succ] at k16
  go_wp2_with fail
  refine ⟨rfl, ?_⟩
  have HT := Lib.hid ((HT.out.set 0 0 rfl 16 (.int .u64 wd)).eq (H' := [turnB kb L.fb pv sv { k with saw := wd }, g1]) rfl)
  clear k16 fk16
  generalize World.setCell _ _ _ = w5 at HT ⊢
  have k0 := HT.out.cell 0 0 rfl 0
  have k11 := HT.out.cell 0 0 rfl 11
  have k13 := HT.out.cell 0 0 rfl 13
  have k16 := HT.out.cell 0 0 rfl 16
  simp only [turnC, List.getElem?_toArray, List.getElem?_cons_zero, List.getElem?_cons_succ] at k0 k11 k13 k16
  cases hb1 : (sw == st) with
  | false =>
    go_wp2_with fail
    refine wp_region_mix1 31 (by kernel_rfl) (by kernel_rfl) ?_
    simp only [List.take_succ_cons, List.take_zero, List.drop_succ_cons, List.drop_zero]
    repeat (go_big_quiet_step ((first | (go_at_call 47; with_reducible exact ReadsG.quiet (HSW.out) HT.out _ [] rfl rfl) | (go_at_call 209; with_reducible exact ReadsG.quiet (HGW.out) HT.out _ [] rfl rfl) | (go_at_call 22; with_reducible exact ReadsG.quiet (coreSlab_r HX1.out) HT.out _ [1] rfl rfl))))
    refine wpQuiet_nil ?_
    intro _ hw'
    obtain ⟨nq, hw''⟩ := hw'
    subst hw''
    have HT := Lib.hid (HT.out.drewN nq)
    go_wp2_with fail
    refine ⟨rfl, ?_⟩
    clear HSW HGW HMI HWD
    go_wp2
    go_ret
    exact ⟨_, ⟨by rw [hb1]; rfl, g1, HX1.out, rfl⟩, HT.out⟩
  | true =>
    cases hb2 : (gw == k.t.gen) with
    | false =>
      go_wp2_with fail
      refine wp_region_mix1 31 (by kernel_rfl) (by kernel_rfl) ?_
      simp only [List.take_succ_cons, List.take_zero, List.drop_succ_cons, List.drop_zero]
      repeat (go_big_quiet_step ((first | (go_at_call 47; with_reducible exact ReadsG.quiet (HSW.out) HT.out _ [] rfl rfl) | (go_at_call 209; with_reducible exact ReadsG.quiet (HGW.out) HT.out _ [] rfl rfl) | (go_at_call 22; with_reducible exact ReadsG.quiet (coreSlab_r HX1.out) HT.out _ [1] rfl rfl))))
      refine wpQuiet_nil ?_
      intro _ hw'
      obtain ⟨nq, hw''⟩ := hw'
      subst hw''
      have HT := Lib.hid (HT.out.drewN nq)
      go_wp2_with fail
      refine ⟨rfl, ?_⟩
      clear HSW HGW HMI HWD
      go_wp2
      go_ret
      exact ⟨_, ⟨by rw [hb1, hb2]; rfl, g1, HX1.out, rfl⟩, HT.out⟩
    | true =>
      go_wp2_with fail
      refine wp_region_mix1 31 (by kernel_rfl) (by kernel_rfl) ?_
      simp only [List.take_succ_cons, List.take_zero, List.drop_succ_cons, List.drop_zero]
      repeat (go_big_quiet_step ((first | (go_at_call 47; with_reducible exact ReadsG.quiet (HSW.out) HT.out _ [] rfl rfl) | (go_at_call 209; with_reducible exact ReadsG.quiet (HGW.out) HT.out _ [] rfl rfl) | (go_at_call 22; with_reducible exact ReadsG.quiet (coreSlab_r HX1.out) HT.out _ [1] rfl rfl))))
      refine wpQuiet_nil ?_
      intro _ hw'
      obtain ⟨nq, hw''⟩ := hw'
      subst hw''
      have HT := Lib.hid (HT.out.drewN nq)
      go_wp2_with fail
      refine (DoesG.use (HMI.out _ HX1.out) (HT.out) [1] rfl rfl).mono ?_
      rintro e w1 ⟨gs, ⟨rfl, g2, hx2, rfl⟩, Ta⟩
      simp only [PU] at Ta
      have HX2 := Lib.hid hx2
      clear hx2 k0 k11 k13 k16
      have HT := Lib.hid Ta
      clear Ta
      go_wp2_with fail
      refine ⟨rfl, ?_⟩
      go_wp2
      go_ret
      exact ⟨_, ⟨by rw [hb1, hb2]; rfl, g2, HX2.out, rfl⟩, HT.out⟩
set_option maxRecDepth 100000 in
set_option maxHeartbeats 4000000 in
theorem turnTry (hx : isCore L x gC) (ho : CoreOk x) (hs : 0 ≤ k.saw ∧ k.saw < 18446744073709551616) (ev : Int) : DoesG Tryz.prog 300 #[ptr' kb, .int .i64 ev] [turnB kb L.fb pv sv k, gC] fun e gs =>
    e = .returned (.bool ((x.slab.try k.t.slot k.saw ev).2.2 == 0)) ∧ ∃ g', isCore L { x with slab := (x.slab.try k.t.slot k.saw ev).1 } g' ∧ gs = [turnB kb L.fb pv sv k, g'] := by
  have HY := Lib.hid (coreTry hx ho.slab.n1 k.t.slot k.saw ev hs.1 hs.2)
  have HSL := Lib.hid (coreSlab_r hx)
  generalize x.slab.try k.t.slot k.saw ev = r at *
  clear ho hs hx
  intro w hw
  have T0 := TG.refl hw
  have HT := Lib.hid T0
  clear hw T0
  have k0 := HT.out.cell 0 0 rfl 0
  have k12 := HT.out.cell 0 0 rfl 12
  have k16 := HT.out.cell 0 0 rfl 16
  simp only [turnC, List.getElem?_toArray, List.getElem?_cons_zero, List.getElem?_cons_succ] at k0 k12 k16
  go_enter Tryz.func300, Tryz.ntmps300
  go_wp2_with fail
  refine wp_region_mix1 15 (by kernel_rfl) (by kernel_rfl) ?_
  simp only [List.take_succ_cons, List.take_zero, List.drop_succ_cons, List.drop_zero]
  repeat (go_big_quiet_step ((first | (go_at_call 22; with_reducible exact ReadsG.quiet (HSL.out) HT.out _ [1] rfl rfl))))
  refine wpQuiet_nil ?_
  intro _ hw'
  obtain ⟨nq, hw''⟩ := hw'
  subst hw''
  have HT := Lib.hid (HT.out.drewN nq)
  go_wp2_with fail
  refine (DoesG.use (HY.out) (HT.out) [1] rfl rfl).mono ?_
  rintro e w1 ⟨gs, ⟨rfl, g1, hx1, rfl⟩, Ta⟩
  simp only [PU] at Ta
  have HX := Lib.hid hx1
  clear hx1 k0 k12 k16
  have HT := Lib.hid Ta
  clear Ta
  go_wp2_with fail
  refine ⟨rfl, ?_⟩
  go_wp2
  go_ret
  exact ⟨_, ⟨rfl, g1, HX.out, rfl⟩, HT.out⟩
end
end Go.Proofs.YtblhfbcodbjgcaaGreat
