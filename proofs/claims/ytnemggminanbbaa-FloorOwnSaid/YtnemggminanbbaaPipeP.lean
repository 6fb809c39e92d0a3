import Derived.Test.YtnemggminanbbaaPipeS
import Derived.Test.YtnemggminanbbaaListB
namespace Go.Proofs.Ytnemggminanbbaa
set_option linter.unusedVariables false
set_option linter.unusedSimpArgs false
open Go.RowKit Go.Shelf

/-! ## The pipe: Put, Len -/
def PipeS.put (p : PipeS) (v : FireS) : PipeS × Bool × Int :=
  if p.shut = true then (p, false, 3)
  else if p.sp = [] ∧ p.ch.length < p.room then ({ p with ch := p.ch ++ [v] }, false, 0)
  else ({ p with sp := p.sp ++ [v], most := max p.most (p.sp.length + 1) }, true, 0)
set_option maxRecDepth 100000 in
theorem listPush_g {lb hb : Nat} {l : List Nd} {g : List Blk} (hg : isListF lb hb l g) (hn : l.length ≤ 1000000000) (v : FireS) :
    DoesG Try.prog 59 #[ptr' lb, .agg v.vals.toArray] [g] fun e gs => ∃ nb g', e = .returned (ptr' nb) ∧ isListF lb hb (l ++ [⟨nb, v.vals⟩]) g' ∧ gs = [g'] := by
  have HP := Lib.hid (show ∀ nb, _ from fun nb => listPutF_g hg hn nb (.int .u64 v.id) (.int .u64 v.gen) (.int .u64 v.dl) (.int .u64 v.tick) (.pointer none) (.pointer none))
  intro w hw
  have T0 := TG.refl hw
  have HT := Lib.hid T0
  clear hw T0
  simp only [FireS.vals]
  clear hg hn
  go_enter Try.func59, Try.ntmps59
  go_wp2_with fail
  obtain ⟨nb, hnb⟩ : ∃ nb, nb = w.heap.size + 1 := ⟨_, rfl⟩
  have HT := Lib.hid ((HT.out.alloc0 (.cells #[.int .u64 v.id, .int .u64 v.gen, .int .u64 v.dl, .int .u64 v.tick] 68)).alloc (k := nb) (by rw [hnb]; simp) 175 #[.int .u64 v.id, .int .u64 v.gen, .int .u64 v.dl, .int .u64 v.tick, .pointer none, .pointer none, .pointer none])
  rw [← hnb]
  clear hnb
  generalize World.alloc (World.alloc w _) _ = w1 at HT ⊢
  go_wp2_with fail
  refine (DoesG.use (HP.out nb) (HT.out) [0, 1] rfl rfl).mono ?_
  rintro e w1 ⟨gs, ⟨rfl, g1, hg1, rfl⟩, Ta⟩
  simp only [PU] at Ta
  have HG := Lib.hid hg1
  clear hg1
  have HT := Lib.hid Ta
  clear Ta
  go_wp2
  go_ret
  exact ⟨_, ⟨nb, g1, rfl, HG.out, rfl⟩, HT.out.pick [0] rfl⟩
section
variable {pb : Nat} {p : PipeS} {g : List Blk}
set_option maxRecDepth 100000 in
theorem pipeLen_r (hg : isPipe pb p g) (hn : p.ch.length ≤ 1000000 ∧ p.sp.length ≤ 1000000) : ReadsG Try.prog 34 #[ptr' pb] [g] (.int .i64 ((p.ch.length : Int) + p.sp.length)) := by
  obtain ⟨cb, lb, hb, a, b, l, gl, h1, h2, rfl⟩ := hg
  have hll : l.length = p.sp.length := by
    have := congrArg List.length h2
    simpa using this
  intro w hw
  have T0 := TG.refl hw
  have HT := Lib.hid T0
  clear hw T0
  have HT := Lib.hid (HT.out.sum (H' := [pipeB pb cb lb p, [(cb, .chan p.room (p.ch.map fun f => Value.agg f.vals.toArray).toArray false a b false)], gl]) (fun n ha h0 h1 h2 => by simp only [SU, ha, h0, h1, h2] <;> omega))
  have H1 := Lib.hid h1
  have H2 := Lib.hid h2
  have b1 := HT.out.obj 1 0 rfl
  simp only [] at b1
  have hlc := fun m => len_chan cb p.room _ false a b (w.drewN m) b1
  simp only [List.size_toArray, List.length_map] at hlc
  have HLL := Lib.hid (listLenF_r h1)
  rw [hll] at HLL
  have c0 := HT.out.cell 0 0 rfl 0
  have c1 := HT.out.cell 0 0 rfl 1
  simp only [pipeB, List.getElem?_toArray, List.getElem?_cons_zero, List.getElem?_cons_succ] at c0 c1
  clear h1 h2 b1
  generalize p.ch.length = n at *
  generalize p.sp.length = m at *
  obtain ⟨hn1, hn2⟩ := hn
  go_enter Try.func34, Try.ntmps34
  go_wp2_with fail
  go_quiet ((first | (go_at_call 57; with_reducible exact ReadsG.quiet (HLL.out) HT.out _ [2] rfl rfl)))
  have HT := Lib.hid (HT.out.drewN nq)
  go_wp2
  go_ret
  exact ⟨rfl, _, rfl⟩
theorem vals_arr (v : FireS) : v.vals.toArray = #[.int .u64 v.id, .int .u64 v.gen, .int .u64 v.dl, .int .u64 v.tick] := rfl
set_option maxRecDepth 100000 in
set_option maxHeartbeats 2000000 in
theorem pipePut_g (hg : isPipe pb p g) (v : FireS) (hn : p.sp.length ≤ 1000000) : DoesG Try.prog 24 #[ptr' pb, .agg v.vals.toArray] [g] fun e gs =>
    e = .returned (.tuple #[.bool (p.put v).2.1, .int .i64 (p.put v).2.2]) ∧ ∃ g', isPipe pb (p.put v).1 g' ∧ gs = [g'] := by
  cases hs : p.shut with
  | true =>
    have he : p.put v = (p, false, 3) := by unfold PipeS.put; rw [if_pos hs]
    rw [he]
    obtain ⟨cb, lb, hb, a, b, l, gl, h1, h2, rfl⟩ := hg
    have hll : l.length = p.sp.length := by
      have := congrArg List.length h2
      simpa using this
    intro w hw
    have T0 := TG.refl hw
    have HT := Lib.hid T0
    clear hw T0
    have HT := Lib.hid (HT.out.sum (H' := [pipeB pb cb lb p, [(cb, .chan p.room (p.ch.map fun f => Value.agg f.vals.toArray).toArray false a b false)], gl]) (fun n ha h0 h1 h2 => by simp only [SU, ha, h0, h1, h2] <;> omega))
    have H1 := Lib.hid h1
    have H2 := Lib.hid h2
    have c3 := HT.out.cell 0 0 rfl 3
    simp only [pipeB, hs, List.getElem?_toArray, List.getElem?_cons_zero, List.getElem?_cons_succ] at c3
    have lt := HT.out.lt 0 0 rfl
    simp only [] at lt
    rw [vals_arr]
    clear h1 h2 he hs
    go_enter Try.func24, Try.ntmps24
    go_wp2
    go_ret2
    exact ⟨_, ⟨rfl, _, ⟨cb, lb, hb, a, b, l, gl, H1.out, H2.out, rfl⟩, rfl⟩, (HT.out.alloc0 _).sum (fun n ha h0 h1 h2 => by simp only [SU, ha, h0, h1, h2] <;> omega)⟩
  | false =>
    by_cases hsp : p.sp = []
    · by_cases hr : p.ch.length < p.room
      · have he : p.put v = ({ p with ch := p.ch ++ [v] }, false, 0) := by unfold PipeS.put; rw [if_neg (by rw [hs]; decide), if_pos ⟨hsp, hr⟩]
        rw [he]
        have hsd := pipeSend_yes hg v hr
        have hg0 := hg
        obtain ⟨cb, lb, hb, a, b, l, gl, h1, h2, rfl⟩ := hg
        have hll : l.length = p.sp.length := by
          have := congrArg List.length h2
          simpa using this
        intro w hw
        have T0 := TG.refl hw
        have HT := Lib.hid T0
        clear hw T0
        have HT := Lib.hid (HT.out.sum (H' := [pipeB pb cb lb p, [(cb, .chan p.room (p.ch.map fun f => Value.agg f.vals.toArray).toArray false a b false)], gl]) (fun n ha h0 h1 h2 => by simp only [SU, ha, h0, h1, h2] <;> omega))
        have H1 := Lib.hid h1
        have H2 := Lib.hid h2
        rw [vals_arr] at hsd ⊢
        have HSD := Lib.hid hsd
        have HLL := Lib.hid (listLenF_r h1)
        rw [hll, hsp] at HLL
        have c1 := HT.out.cell 0 0 rfl 1
        have c3 := HT.out.cell 0 0 rfl 3
        simp only [pipeB, hs, List.getElem?_toArray, List.getElem?_cons_zero, List.getElem?_cons_succ] at c1 c3
        have lt := HT.out.lt 0 0 rfl
        simp only [] at lt
        clear h1 h2 he hs hsd hll hsp hg0
        go_enter Try.func24, Try.ntmps24
        go_wp2_with fail
        obtain ⟨vb, hvb⟩ : ∃ vb, vb = w.heap.size := ⟨_, rfl⟩
        have HT := Lib.hid (HT.out.alloc (k := vb) hvb 68 #[.int .u64 v.id, .int .u64 v.gen, .int .u64 v.dl, .int .u64 v.tick])
        rw [← hvb]
        clear c1 c3 lt hvb
        generalize World.alloc w _ = w1 at HT ⊢
        go_wp2_with fail
        refine (ReadsG.use (HLL.out) (HT.out) [2] rfl rfl).mono ?_
        rintro e w1 ⟨rfl, mq, rfl⟩
        have HT := Lib.hid (HT.out.drewN mq)
        generalize World.drewN _ _ = wq at HT ⊢
        have a0 := HT.out.cell 3 0 rfl 0
        have a1 := HT.out.cell 3 0 rfl 1
        have a2 := HT.out.cell 3 0 rfl 2
        have a3 := HT.out.cell 3 0 rfl 3
        simp only [List.getElem?_nil, List.getElem?_toArray, List.getElem?_cons_zero, List.getElem?_cons_succ] at a0 a1 a2 a3
        go_wp2_with fail
        refine (DoesG.use (HSD.out) (HT.out.sum (H' := [pipeB pb cb lb p ++ ([(cb, .chan p.room (p.ch.map fun f => Value.agg f.vals.toArray).toArray false a b false)] ++ gl), [cl vb 68 #[.int .u64 v.id, .int .u64 v.gen, .int .u64 v.dl, .int .u64 v.tick]]]) (fun n ha h0 h1 h2 => by simp only [SU, ha, h0, h1, h2] <;> omega)) [0] rfl rfl).mono ?_
        rintro e w1 ⟨gs, ⟨rfl, g1, hg1, rfl⟩, Ta⟩
        simp only [PU] at Ta
        have HG := Lib.hid hg1
        clear hg1 a0 a1 a2 a3
        have HT := Lib.hid Ta
        clear Ta
        go_wp2
        go_ret2
        exact ⟨_, ⟨rfl, g1, HG.out, rfl⟩, HT.out.pick [0] rfl⟩
      · have he : p.put v = ({ p with sp := p.sp ++ [v], most := max p.most ((p.sp.length : Int) + 1) }, true, 0) := by unfold PipeS.put; rw [if_neg (by rw [hs]; decide), if_neg (fun h => hr h.2)]
        rw [he]
        obtain ⟨M, hM⟩ : ∃ M, max p.most ((p.sp.length : Int) + 1) = M := ⟨_, rfl⟩
        rw [hM]
        have hpu : ∀ lb hb l gl, isListF lb hb l gl → l.map Nd.v = p.sp.map FireS.vals → _ := fun lb hb l gl h1 h2 => listPush_g h1 (by
          have := congrArg List.length h2
          simp only [List.length_map] at this
          omega) v
        have hln : ∀ lb hb (l : List Nd) nb g', l.map Nd.v = p.sp.map FireS.vals → isListF lb hb (l ++ [⟨nb, v.vals⟩]) g' → ReadsG Try.prog 57 #[ptr' lb] [g'] (.int .i64 ((p.sp.length : Int) + 1)) := fun lb hb l nb g' h2 h => by
          have := listLenF_r h
          have e := congrArg List.length h2
          simp only [List.length_map] at e
          rw [List.length_append, e] at this
          exact this
        rw [vals_arr] at hpu ⊢
        have HPU := Lib.hid hpu
        have HLN := Lib.hid hln
        have HM := Lib.hid hM
        have hsd := pipeSend_no hg v (by omega)
        obtain ⟨cb, lb, hb, a, b, l, gl, h1, h2, rfl⟩ := hg
        have hll : l.length = p.sp.length := by
          have := congrArg List.length h2
          simpa using this
        intro w hw
        have T0 := TG.refl hw
        have HT := Lib.hid T0
        clear hw T0
        have HT := Lib.hid (HT.out.sum (H' := [pipeB pb cb lb p, [(cb, .chan p.room (p.ch.map fun f => Value.agg f.vals.toArray).toArray false a b false)], gl]) (fun n ha h0 h1 h2 => by simp only [SU, ha, h0, h1, h2] <;> omega))
        have H1 := Lib.hid h1
        have H2 := Lib.hid h2
        rw [vals_arr] at hsd
        have HSD := Lib.hid hsd
        have HLL := Lib.hid (listLenF_r h1)
        rw [hll, hsp] at HLL
        have c1 := HT.out.cell 0 0 rfl 1
        have c3 := HT.out.cell 0 0 rfl 3
        simp only [pipeB, hs, List.getElem?_toArray, List.getElem?_cons_zero, List.getElem?_cons_succ] at c1 c3
        have lt := HT.out.lt 0 0 rfl
        simp only [] at lt
        clear h1 h2 he hs hsd hll hsp hpu hln hr
        generalize (p.sp.length : Int) = n at *
        go_enter Try.func24, Try.ntmps24
        go_wp2_with fail
        obtain ⟨vb, hvb⟩ : ∃ vb, vb = w.heap.size := ⟨_, rfl⟩
        have HT := Lib.hid (HT.out.alloc (k := vb) hvb 68 #[.int .u64 v.id, .int .u64 v.gen, .int .u64 v.dl, .int .u64 v.tick])
        rw [← hvb]
        clear c1 c3 lt hvb
        generalize World.alloc w _ = w1 at HT ⊢
        go_wp2_with fail
        refine (ReadsG.use (HLL.out) (HT.out) [2] rfl rfl).mono ?_
        rintro e w1 ⟨rfl, mq, rfl⟩
        have HT := Lib.hid (HT.out.drewN mq)
        generalize World.drewN _ _ = wq at HT ⊢
        have a0 := HT.out.cell 3 0 rfl 0
        have a1 := HT.out.cell 3 0 rfl 1
        have a2 := HT.out.cell 3 0 rfl 2
        have a3 := HT.out.cell 3 0 rfl 3
        simp only [List.getElem?_nil, List.getElem?_toArray, List.getElem?_cons_zero, List.getElem?_cons_succ] at a0 a1 a2 a3
        go_wp2_with fail
        refine (DoesG.use (HSD.out) (HT.out.sum (H' := [pipeB pb cb lb p ++ ([(cb, .chan p.room (p.ch.map fun f => Value.agg f.vals.toArray).toArray false a b false)] ++ gl), [cl vb 68 #[.int .u64 v.id, .int .u64 v.gen, .int .u64 v.dl, .int .u64 v.tick]]]) (fun n ha h0 h1 h2 => by simp only [SU, ha, h0, h1, h2] <;> omega)) [0] rfl rfl).mono ?_
        rintro e w1 ⟨gs, ⟨rfl, g1, hg1, rfl⟩, Ta⟩
        simp only [PU] at Ta
        clear a0 a1 a2 a3
        have HT := Lib.hid Ta
        clear Ta
        obtain ⟨cb, lb, hb, a, b, l, gl, h1, h2, rfl⟩ := hg1
        have HT := Lib.hid (HT.out.sum (H' := [pipeB pb cb lb p, [(cb, .chan p.room (p.ch.map fun f => Value.agg f.vals.toArray).toArray false a b false)], gl, [cl vb 68 #[.int .u64 v.id, .int .u64 v.gen, .int .u64 v.dl, .int .u64 v.tick]]]) (fun n ha h0 h1 h2 => by simp only [SU, ha, h0, h1, h2] <;> omega))
        have H1 := Lib.hid h1
        have H2 := Lib.hid h2
        clear h1 h2
        have HP1 := Lib.hid (HPU.out _ _ _ _ H1.out H2.out)
        have a0 := HT.out.cell 3 0 rfl 0
        have a1 := HT.out.cell 3 0 rfl 1
        have a2 := HT.out.cell 3 0 rfl 2
        have a3 := HT.out.cell 3 0 rfl 3
        simp only [List.getElem?_nil, List.getElem?_toArray, List.getElem?_cons_zero, List.getElem?_cons_succ] at a0 a1 a2 a3
        have c1 := HT.out.cell 0 0 rfl 1
        simp only [pipeB, List.getElem?_toArray, List.getElem?_cons_zero, List.getElem?_cons_succ] at c1
        go_wp2_with fail
        refine wp_region_mix1 5 (by kernel_rfl) (by kernel_rfl) ?_
        simp only [List.take_succ_cons, List.take_zero, List.drop_succ_cons, List.drop_zero]
        repeat (go_big_quiet_step ((fail)))
        refine wpQuiet_nil ?_
        intro _ hw'
        obtain ⟨nq, hw''⟩ := hw'
        subst hw''
        have HT := Lib.hid (HT.out.drewN nq)
        go_wp2_with fail
        refine (DoesG.use (HP1.out) (HT.out) [2] rfl rfl).mono ?_
        rintro e w1 ⟨gs, ⟨nb, g1, rfl, hg1, rfl⟩, Ta⟩
        simp only [PU] at Ta
        have HG := Lib.hid hg1
        have HL1 := Lib.hid (HLN.out _ _ _ nb g1 H2.out hg1)
        clear hg1 a0 a1 a2 a3 c1
        have HT := Lib.hid Ta
        clear Ta
        go_wp2_with fail
        refine ⟨rfl, ?_⟩
        have c1 := HT.out.cell 0 0 rfl 1
        have c2 := HT.out.cell 0 0 rfl 2
        have fc2 := HT.out.free 0 0 rfl 2
        simp only [pipeB, List.getElem?_toArray, List.getElem?_cons_zero, List.getElem?_cons_succ] at c1 c2
        have HM1 := HM.out
        clear hM HPU HLN HP1
        by_cases hmx : p.most < n + 1
        · obtain rfl : M = n + 1 := by omega
          have hmx2 : p.most ≤ n + 1 := by omega
          clear HM HM1
          go_wp2_with fail
          refine wp_region_mix1 13 (by kernel_rfl) (by kernel_rfl) ?_
          simp only [List.take_succ_cons, List.take_zero, List.drop_succ_cons, List.drop_zero]
          repeat (go_big_quiet_step ((first | (go_at_call 57; with_reducible exact ReadsG.quiet (HL1.out) HT.out _ [2] rfl rfl))))
          refine wpQuiet_nil ?_
          intro _ hw'
          obtain ⟨nq, hw''⟩ := hw'
          subst hw''
          have HT := Lib.hid (HT.out.drewN nq)
          go_wp2_with fail
          refine ⟨rfl, ?_⟩
          go_wp2
          go_ret2
          exact ⟨_, ⟨rfl, _, ⟨cb, lb, hb, a, b, _, g1, HG.out, by rw [List.map_append, H2.out, List.map_append]; rfl, rfl⟩, rfl⟩, ((HT.out.set 0 0 rfl 2 (.int .i64 (n + 1))).pick [0, 1, 2] rfl).eq (H' := [pipeB pb cb lb { p with sp := p.sp ++ [v], most := n + 1 } ++ ([(cb, .chan p.room (p.ch.map fun f => Value.agg f.vals.toArray).toArray false a b false)] ++ g1)]) (by simp [pickG, pipeB])⟩
        · obtain rfl : M = p.most := by omega
          have hmx2 : n + 1 ≤ p.most := by omega
          clear HM HM1
          go_wp2_with fail
          refine wp_region_mix1 13 (by kernel_rfl) (by kernel_rfl) ?_
          simp only [List.take_succ_cons, List.take_zero, List.drop_succ_cons, List.drop_zero]
          repeat (go_big_quiet_step ((first | (go_at_call 57; with_reducible exact ReadsG.quiet (HL1.out) HT.out _ [2] rfl rfl))))
          refine wpQuiet_nil ?_
          intro _ hw'
          obtain ⟨nq, hw''⟩ := hw'
          subst hw''
          have HT := Lib.hid (HT.out.drewN nq)
          go_wp2_with fail
          refine ⟨rfl, ?_⟩
          go_wp2
          go_ret2
          exact ⟨_, ⟨rfl, _, ⟨cb, lb, hb, a, b, _, g1, HG.out, by rw [List.map_append, H2.out, List.map_append]; rfl, rfl⟩, rfl⟩, ((HT.out.set 0 0 rfl 2 (.int .i64 p.most)).pick [0, 1, 2] rfl).eq (H' := [pipeB pb cb lb { p with sp := p.sp ++ [v], most := p.most } ++ ([(cb, .chan p.room (p.ch.map fun f => Value.agg f.vals.toArray).toArray false a b false)] ++ g1)]) (by simp [pickG, pipeB])⟩
    · have he : p.put v = ({ p with sp := p.sp ++ [v], most := max p.most ((p.sp.length : Int) + 1) }, true, 0) := by unfold PipeS.put; rw [if_neg (by rw [hs]; decide), if_neg (fun h => hsp h.1)]
      rw [he]
      obtain ⟨M, hM⟩ : ∃ M, max p.most ((p.sp.length : Int) + 1) = M := ⟨_, rfl⟩
      rw [hM]
      have hpu : ∀ lb hb l gl, isListF lb hb l gl → l.map Nd.v = p.sp.map FireS.vals → _ := fun lb hb l gl h1 h2 => listPush_g h1 (by
        have := congrArg List.length h2
        simp only [List.length_map] at this
        omega) v
      have hln : ∀ lb hb (l : List Nd) nb g', l.map Nd.v = p.sp.map FireS.vals → isListF lb hb (l ++ [⟨nb, v.vals⟩]) g' → ReadsG Try.prog 57 #[ptr' lb] [g'] (.int .i64 ((p.sp.length : Int) + 1)) := fun lb hb l nb g' h2 h => by
        have := listLenF_r h
        have e := congrArg List.length h2
        simp only [List.length_map] at e
        rw [List.length_append, e] at this
        exact this
      rw [vals_arr] at hpu ⊢
      have HPU := Lib.hid hpu
      have HLN := Lib.hid hln
      have HM := Lib.hid hM
      obtain ⟨cb, lb, hb, a, b, l, gl, h1, h2, rfl⟩ := hg
      have hll : l.length = p.sp.length := by
        have := congrArg List.length h2
        simpa using this
      intro w hw
      have T0 := TG.refl hw
      have HT := Lib.hid T0
      clear hw T0
      have HT := Lib.hid (HT.out.sum (H' := [pipeB pb cb lb p, [(cb, .chan p.room (p.ch.map fun f => Value.agg f.vals.toArray).toArray false a b false)], gl]) (fun n ha h0 h1 h2 => by simp only [SU, ha, h0, h1, h2] <;> omega))
      have H1 := Lib.hid h1
      have H2 := Lib.hid h2
      have HLL := Lib.hid (listLenF_r h1)
      rw [hll] at HLL
      have hz : (((p.sp.length : Nat) : Int) == 0) = false := beq_eq_false_iff_ne.2 (by
        intro h0
        have : p.sp.length = 0 := by omega
        exact hsp (List.eq_nil_of_length_eq_zero this))
      have c1 := HT.out.cell 0 0 rfl 1
      have c3 := HT.out.cell 0 0 rfl 3
      simp only [pipeB, hs, List.getElem?_toArray, List.getElem?_cons_zero, List.getElem?_cons_succ] at c1 c3
      have lt := HT.out.lt 0 0 rfl
      simp only [] at lt
      clear h1 h2 he hs hll hsp hpu hln
      generalize (p.sp.length : Int) = n at *
      go_enter Try.func24, Try.ntmps24
      go_wp2_with fail
      obtain ⟨vb, hvb⟩ : ∃ vb, vb = w.heap.size := ⟨_, rfl⟩
      have HT := Lib.hid (HT.out.alloc (k := vb) hvb 68 #[.int .u64 v.id, .int .u64 v.gen, .int .u64 v.dl, .int .u64 v.tick])
      rw [← hvb]
      clear c1 c3 lt hvb
      generalize World.alloc w _ = w1 at HT ⊢
      go_wp2_with fail
      refine (ReadsG.use (HLL.out) (HT.out) [2] rfl rfl).mono ?_
      rintro e w1 ⟨rfl, mq, rfl⟩
      have HT := Lib.hid (HT.out.drewN mq)
      generalize World.drewN _ _ = wq at HT ⊢
      have HP1 := Lib.hid (HPU.out _ _ _ _ H1.out H2.out)
      have a0 := HT.out.cell 3 0 rfl 0
      have a1 := HT.out.cell 3 0 rfl 1
      have a2 := HT.out.cell 3 0 rfl 2
      have a3 := HT.out.cell 3 0 rfl 3
      simp only [List.getElem?_nil, List.getElem?_toArray, List.getElem?_cons_zero, List.getElem?_cons_succ] at a0 a1 a2 a3
      have c1 := HT.out.cell 0 0 rfl 1
      simp only [pipeB, List.getElem?_toArray, List.getElem?_cons_zero, List.getElem?_cons_succ] at c1
      go_wp2_with fail
      refine wp_region_mix1 5 (by kernel_rfl) (by kernel_rfl) ?_
      simp only [List.take_succ_cons, List.take_zero, List.drop_succ_cons, List.drop_zero]
      repeat (go_big_quiet_step ((fail)))
      refine wpQuiet_nil ?_
      intro _ hw'
      obtain ⟨nq, hw''⟩ := hw'
      subst hw''
      have HT := Lib.hid (HT.out.drewN nq)
      go_wp2_with fail
      refine (DoesG.use (HP1.out) (HT.out) [2] rfl rfl).mono ?_
      rintro e w1 ⟨gs, ⟨nb, g1, rfl, hg1, rfl⟩, Ta⟩
      simp only [PU] at Ta
      have HG := Lib.hid hg1
      have HL1 := Lib.hid (HLN.out _ _ _ nb g1 H2.out hg1)
      clear hg1 a0 a1 a2 a3 c1
      have HT := Lib.hid Ta
      clear Ta
      go_wp2_with fail
      refine ⟨rfl, ?_⟩
      have c1 := HT.out.cell 0 0 rfl 1
      have c2 := HT.out.cell 0 0 rfl 2
      have fc2 := HT.out.free 0 0 rfl 2
      simp only [pipeB, List.getElem?_toArray, List.getElem?_cons_zero, List.getElem?_cons_succ] at c1 c2
      have HM1 := HM.out
      clear hM HPU HLN HP1
      by_cases hmx : p.most < n + 1
      · obtain rfl : M = n + 1 := by omega
        have hmx2 : p.most ≤ n + 1 := by omega
        clear HM HM1
        go_wp2_with fail
        refine wp_region_mix1 13 (by kernel_rfl) (by kernel_rfl) ?_
        simp only [List.take_succ_cons, List.take_zero, List.drop_succ_cons, List.drop_zero]
        repeat (go_big_quiet_step ((first | (go_at_call 57; with_reducible exact ReadsG.quiet (HL1.out) HT.out _ [2] rfl rfl))))
        refine wpQuiet_nil ?_
        intro _ hw'
        obtain ⟨nq, hw''⟩ := hw'
        subst hw''
        have HT := Lib.hid (HT.out.drewN nq)
        go_wp2_with fail
        refine ⟨rfl, ?_⟩
        go_wp2
        go_ret2
        exact ⟨_, ⟨rfl, _, ⟨cb, lb, hb, a, b, _, g1, HG.out, by rw [List.map_append, H2.out, List.map_append]; rfl, rfl⟩, rfl⟩, ((HT.out.set 0 0 rfl 2 (.int .i64 (n + 1))).pick [0, 1, 2] rfl).eq (H' := [pipeB pb cb lb { p with sp := p.sp ++ [v], most := n + 1 } ++ ([(cb, .chan p.room (p.ch.map fun f => Value.agg f.vals.toArray).toArray false a b false)] ++ g1)]) (by simp [pickG, pipeB])⟩
      · obtain rfl : M = p.most := by omega
        have hmx2 : n + 1 ≤ p.most := by omega
        clear HM HM1
        go_wp2_with fail
        refine wp_region_mix1 13 (by kernel_rfl) (by kernel_rfl) ?_
        simp only [List.take_succ_cons, List.take_zero, List.drop_succ_cons, List.drop_zero]
        repeat (go_big_quiet_step ((first | (go_at_call 57; with_reducible exact ReadsG.quiet (HL1.out) HT.out _ [2] rfl rfl))))
        refine wpQuiet_nil ?_
        intro _ hw'
        obtain ⟨nq, hw''⟩ := hw'
        subst hw''
        have HT := Lib.hid (HT.out.drewN nq)
        go_wp2_with fail
        refine ⟨rfl, ?_⟩
        go_wp2
        go_ret2
        exact ⟨_, ⟨rfl, _, ⟨cb, lb, hb, a, b, _, g1, HG.out, by rw [List.map_append, H2.out, List.map_append]; rfl, rfl⟩, rfl⟩, ((HT.out.set 0 0 rfl 2 (.int .i64 p.most)).pick [0, 1, 2] rfl).eq (H' := [pipeB pb cb lb { p with sp := p.sp ++ [v], most := p.most } ++ ([(cb, .chan p.room (p.ch.map fun f => Value.agg f.vals.toArray).toArray false a b false)] ++ g1)]) (by simp [pickG, pipeB])⟩
end
end Go.Proofs.Ytnemggminanbbaa
