import Derived.Test.YthbjaoinklhikaaGreatCallsRefusedM7
import Derived.Deep.Slices
import Derived.ChangeSame
import Derived.ProofKit
import Derived.OpenShut
import Derived.Test.YthbjaoinklhikaaGreatCallsRefusedM3
import Derived.Test.YthbjaoinklhikaaGreatCallsRefusedM17
import Derived.Test.YthbjaoinklhikaaGreatCallsRefusedM2
import Derived.Test.YthbjaoinklhikaaGreatChecked
namespace Go.Proofs.YthbjaoinklhikaaGreat
set_option linter.unusedVariables false
set_option linter.unusedSimpArgs false
open Go.RowKit Go.Shelf Go.ChangeShapes Go.WideShapes Go.Deep
def Cfg.wf (e : Cfg) : Prop := (Lit.int .i64 e.sh).wf = true ∧ (Lit.int .i64 e.cap).wf = true ∧ (Lit.int .i64 e.ring).wf = true ∧ (Lit.int .i64 e.room).wf = true ∧ (Lit.int .i64 e.wk).wf = true ∧ (Lit.int .i64 e.cli).wf = true
def EvS.wf (e : EvS) : Prop := (Lit.int .i64 e.kind).wf = true ∧ (Lit.int .i64 e.thread).wf = true ∧ (Lit.int .i64 e.call).wf = true ∧ (Lit.int .i64 e.what).wf = true ∧ (Lit.int .u64 e.id).wf = true ∧ (Lit.int .u64 e.gen).wf = true ∧ (Lit.int .u64 e.dl).wf = true ∧ (Lit.int .u64 e.per).wf = true ∧ (Lit.int .u64 e.tick).wf = true ∧ (Lit.int .i64 e.err).wf = true
section
variable {H : Type} {enc : TypeId × Value → H} {w : World} {base : Nat} {spare : Nat → Bool} {held : Bool}
theorem one_int {t : TypeId} {k : IntKind} {n : Nat} {c : Value} {x : Option (DataW H × List MemPlace)} (ht : Tryz.prog.underlying t = some (.int k)) (h : DataW.trod enc Tryz.prog w base spare held n t [c] = x) (hx : x.isSome = true) :
    ∃ z, c = .int k z ∧ (Lit.int k z).wf = true := by
  obtain ⟨y, hy⟩ := Option.isSome_iff_exists.1 hx
  obtain ⟨z, hz, _, hw⟩ := DataW.trod_int ht (h.trans hy)
  exact ⟨z, by simpa using hz, hw⟩
theorem cfg_len {l : List Value} (h : l.length = 6) : ∃ c0 c1 c2 c3 c4 c5, l = [c0, c1, c2, c3, c4, c5] := by
  match l, h with
  | [c0, c1, c2, c3, c4, c5], _ => exact ⟨c0, c1, c2, c3, c4, c5, rfl⟩
theorem cfg_of_trod {n : Nat} {cs : List Value} {x : DataW H × List MemPlace} (h : DataW.trod enc Tryz.prog w base spare held n 41 cs = some x) : ∃ e : Cfg, cs = e.cells.toList ∧ e.wf := by
  obtain ⟨xs, n1, _, _, hl, hlen, hf⟩ := DataW.trod_struct Tryz.underlying41 h
  rw [show Tryz.prog.cellsOf 41 = 6 from by kernel_rfl] at hl
  obtain ⟨c0, c1, c2, c3, c4, c5, rfl⟩ := cfg_len hl
  have hs : ∀ i, i < 6 → (xs[i]?).isSome = true := fun i hi => by rw [List.getElem?_eq_getElem (by rw [hlen]; exact hi)]; rfl
  have f0 : DataW.trod enc Tryz.prog w base spare held n1 3 (List.take (Tryz.prog.cellsOf 3) (List.drop 0 [c0, c1, c2, c3, c4, c5])) = xs[0]? := hf 0 _ rfl
  simp only [show Tryz.prog.cellsOf 3 = 1 from by kernel_rfl, List.drop_zero, List.drop_succ_cons, List.take_succ_cons, List.take_zero] at f0
  have f1 : DataW.trod enc Tryz.prog w base spare held n1 3 (List.take (Tryz.prog.cellsOf 3) (List.drop 1 [c0, c1, c2, c3, c4, c5])) = xs[1]? := hf 1 _ rfl
  simp only [show Tryz.prog.cellsOf 3 = 1 from by kernel_rfl, List.drop_zero, List.drop_succ_cons, List.take_succ_cons, List.take_zero] at f1
  have f2 : DataW.trod enc Tryz.prog w base spare held n1 3 (List.take (Tryz.prog.cellsOf 3) (List.drop 2 [c0, c1, c2, c3, c4, c5])) = xs[2]? := hf 2 _ rfl
  simp only [show Tryz.prog.cellsOf 3 = 1 from by kernel_rfl, List.drop_zero, List.drop_succ_cons, List.take_succ_cons, List.take_zero] at f2
  have f3 : DataW.trod enc Tryz.prog w base spare held n1 3 (List.take (Tryz.prog.cellsOf 3) (List.drop 3 [c0, c1, c2, c3, c4, c5])) = xs[3]? := hf 3 _ rfl
  simp only [show Tryz.prog.cellsOf 3 = 1 from by kernel_rfl, List.drop_zero, List.drop_succ_cons, List.take_succ_cons, List.take_zero] at f3
  have f4 : DataW.trod enc Tryz.prog w base spare held n1 3 (List.take (Tryz.prog.cellsOf 3) (List.drop 4 [c0, c1, c2, c3, c4, c5])) = xs[4]? := hf 4 _ rfl
  simp only [show Tryz.prog.cellsOf 3 = 1 from by kernel_rfl, List.drop_zero, List.drop_succ_cons, List.take_succ_cons, List.take_zero] at f4
  have f5 : DataW.trod enc Tryz.prog w base spare held n1 3 (List.take (Tryz.prog.cellsOf 3) (List.drop 5 [c0, c1, c2, c3, c4, c5])) = xs[5]? := hf 5 _ rfl
  simp only [show Tryz.prog.cellsOf 3 = 1 from by kernel_rfl, List.drop_zero, List.drop_succ_cons, List.take_succ_cons, List.take_zero] at f5
  obtain ⟨z0, rfl, w0⟩ := one_int Tryz.underlying3 f0 (hs 0 (by omega))
  obtain ⟨z1, rfl, w1⟩ := one_int Tryz.underlying3 f1 (hs 1 (by omega))
  obtain ⟨z2, rfl, w2⟩ := one_int Tryz.underlying3 f2 (hs 2 (by omega))
  obtain ⟨z3, rfl, w3⟩ := one_int Tryz.underlying3 f3 (hs 3 (by omega))
  obtain ⟨z4, rfl, w4⟩ := one_int Tryz.underlying3 f4 (hs 4 (by omega))
  obtain ⟨z5, rfl, w5⟩ := one_int Tryz.underlying3 f5 (hs 5 (by omega))
  exact ⟨⟨z0, z1, z2, z3, z4, z5⟩, rfl, w0, w1, w2, w3, w4, w5⟩
theorem ev_len {l : List Value} (h : l.length = 10) : ∃ c0 c1 c2 c3 c4 c5 c6 c7 c8 c9, l = [c0, c1, c2, c3, c4, c5, c6, c7, c8, c9] := by
  match l, h with
  | [c0, c1, c2, c3, c4, c5, c6, c7, c8, c9], _ => exact ⟨c0, c1, c2, c3, c4, c5, c6, c7, c8, c9, rfl⟩
theorem ev_of_trod {n : Nat} {cs : List Value} {x : DataW H × List MemPlace} (h : DataW.trod enc Tryz.prog w base spare held n 46 cs = some x) : ∃ e : EvS, cs = e.cells.toList ∧ e.wf := by
  obtain ⟨xs, n1, _, _, hl, hlen, hf⟩ := DataW.trod_struct Tryz.underlying46 h
  rw [show Tryz.prog.cellsOf 46 = 10 from by kernel_rfl] at hl
  obtain ⟨c0, c1, c2, c3, c4, c5, c6, c7, c8, c9, rfl⟩ := ev_len hl
  have hs : ∀ i, i < 10 → (xs[i]?).isSome = true := fun i hi => by rw [List.getElem?_eq_getElem (by rw [hlen]; exact hi)]; rfl
  have f0 : DataW.trod enc Tryz.prog w base spare held n1 3 (List.take (Tryz.prog.cellsOf 3) (List.drop 0 [c0, c1, c2, c3, c4, c5, c6, c7, c8, c9])) = xs[0]? := hf 0 _ rfl
  simp only [show Tryz.prog.cellsOf 3 = 1 from by kernel_rfl, List.drop_zero, List.drop_succ_cons, List.take_succ_cons, List.take_zero] at f0
  have f1 : DataW.trod enc Tryz.prog w base spare held n1 3 (List.take (Tryz.prog.cellsOf 3) (List.drop 1 [c0, c1, c2, c3, c4, c5, c6, c7, c8, c9])) = xs[1]? := hf 1 _ rfl
  simp only [show Tryz.prog.cellsOf 3 = 1 from by kernel_rfl, List.drop_zero, List.drop_succ_cons, List.take_succ_cons, List.take_zero] at f1
  have f2 : DataW.trod enc Tryz.prog w base spare held n1 3 (List.take (Tryz.prog.cellsOf 3) (List.drop 2 [c0, c1, c2, c3, c4, c5, c6, c7, c8, c9])) = xs[2]? := hf 2 _ rfl
  simp only [show Tryz.prog.cellsOf 3 = 1 from by kernel_rfl, List.drop_zero, List.drop_succ_cons, List.take_succ_cons, List.take_zero] at f2
  have f3 : DataW.trod enc Tryz.prog w base spare held n1 3 (List.take (Tryz.prog.cellsOf 3) (List.drop 3 [c0, c1, c2, c3, c4, c5, c6, c7, c8, c9])) = xs[3]? := hf 3 _ rfl
  simp only [show Tryz.prog.cellsOf 3 = 1 from by kernel_rfl, List.drop_zero, List.drop_succ_cons, List.take_succ_cons, List.take_zero] at f3
  have f4 : DataW.trod enc Tryz.prog w base spare held n1 22 (List.take (Tryz.prog.cellsOf 22) (List.drop 4 [c0, c1, c2, c3, c4, c5, c6, c7, c8, c9])) = xs[4]? := hf 4 _ rfl
  simp only [show Tryz.prog.cellsOf 22 = 1 from by kernel_rfl, List.drop_zero, List.drop_succ_cons, List.take_succ_cons, List.take_zero] at f4
  have f5 : DataW.trod enc Tryz.prog w base spare held n1 22 (List.take (Tryz.prog.cellsOf 22) (List.drop 5 [c0, c1, c2, c3, c4, c5, c6, c7, c8, c9])) = xs[5]? := hf 5 _ rfl
  simp only [show Tryz.prog.cellsOf 22 = 1 from by kernel_rfl, List.drop_zero, List.drop_succ_cons, List.take_succ_cons, List.take_zero] at f5
  have f6 : DataW.trod enc Tryz.prog w base spare held n1 22 (List.take (Tryz.prog.cellsOf 22) (List.drop 6 [c0, c1, c2, c3, c4, c5, c6, c7, c8, c9])) = xs[6]? := hf 6 _ rfl
  simp only [show Tryz.prog.cellsOf 22 = 1 from by kernel_rfl, List.drop_zero, List.drop_succ_cons, List.take_succ_cons, List.take_zero] at f6
  have f7 : DataW.trod enc Tryz.prog w base spare held n1 22 (List.take (Tryz.prog.cellsOf 22) (List.drop 7 [c0, c1, c2, c3, c4, c5, c6, c7, c8, c9])) = xs[7]? := hf 7 _ rfl
  simp only [show Tryz.prog.cellsOf 22 = 1 from by kernel_rfl, List.drop_zero, List.drop_succ_cons, List.take_succ_cons, List.take_zero] at f7
  have f8 : DataW.trod enc Tryz.prog w base spare held n1 22 (List.take (Tryz.prog.cellsOf 22) (List.drop 8 [c0, c1, c2, c3, c4, c5, c6, c7, c8, c9])) = xs[8]? := hf 8 _ rfl
  simp only [show Tryz.prog.cellsOf 22 = 1 from by kernel_rfl, List.drop_zero, List.drop_succ_cons, List.take_succ_cons, List.take_zero] at f8
  have f9 : DataW.trod enc Tryz.prog w base spare held n1 27 (List.take (Tryz.prog.cellsOf 27) (List.drop 9 [c0, c1, c2, c3, c4, c5, c6, c7, c8, c9])) = xs[9]? := hf 9 _ rfl
  simp only [show Tryz.prog.cellsOf 27 = 1 from by kernel_rfl, List.drop_zero, List.drop_succ_cons, List.take_succ_cons, List.take_zero] at f9
  obtain ⟨z0, rfl, w0⟩ := one_int Tryz.underlying3 f0 (hs 0 (by omega))
  obtain ⟨z1, rfl, w1⟩ := one_int Tryz.underlying3 f1 (hs 1 (by omega))
  obtain ⟨z2, rfl, w2⟩ := one_int Tryz.underlying3 f2 (hs 2 (by omega))
  obtain ⟨z3, rfl, w3⟩ := one_int Tryz.underlying3 f3 (hs 3 (by omega))
  obtain ⟨z4, rfl, w4⟩ := one_int Tryz.underlying22 f4 (hs 4 (by omega))
  obtain ⟨z5, rfl, w5⟩ := one_int Tryz.underlying22 f5 (hs 5 (by omega))
  obtain ⟨z6, rfl, w6⟩ := one_int Tryz.underlying22 f6 (hs 6 (by omega))
  obtain ⟨z7, rfl, w7⟩ := one_int Tryz.underlying22 f7 (hs 7 (by omega))
  obtain ⟨z8, rfl, w8⟩ := one_int Tryz.underlying22 f8 (hs 8 (by omega))
  obtain ⟨z9, rfl, w9⟩ := one_int Tryz.underlying27 f9 (hs 9 (by omega))
  exact ⟨⟨z0, z1, z2, z3, z4, z5, z6, z7, z8, z9⟩, rfl, w0, w1, w2, w3, w4, w5, w6, w7, w8, w9⟩
/-- a struct that came in -/
theorem agg_open {S : Type} {cells : S → Array Value} {wf : S → Prop} {t : TypeId} {cs : Array Value} {x : DataW H × List MemPlace}
    (hl : ∀ {n : Nat} {l : List Value} {x : DataW H × List MemPlace}, DataW.trod enc Tryz.prog w base spare held n t l = some x → ∃ e : S, l = (cells e).toList ∧ wf e)
    (h : ∃ fuel, DataW.trod enc Tryz.prog w base spare held fuel t (Value.cells (.agg cs)).toList = some x) : ∃ e : S, cs = cells e ∧ wf e := by
  obtain ⟨fuel, hf⟩ := h
  obtain ⟨e, he, hw⟩ := hl hf
  exact ⟨e, by simpa [Value.cells] using he, hw⟩
end
end Go.Proofs.YthbjaoinklhikaaGreat

namespace Go.Proofs.YthbjaoinklhikaaGreat
set_option linter.unusedVariables false
set_option linter.unusedSimpArgs false
open Go.RowKit

set_option maxHeartbeats 400000 in
theorem parts_calls (n : Int) (w : World) (h0 : 0 ≤ n) (h1 : n < 18446744073709551616) :
    Calls Tryz.prog 23 #[.int .u64 n] w fun e w' => e = .returned (.tuple #[.int .i64 (stW n), .int .u64 (genW n), .bool (lastW n), .bool (okW n)]) ∧ w = w' := by
  go_enter Tryz.func23, Tryz.ntmps23
  go_wp2
  all_goals refine bodyPost_ret (v := .tuple #[.int .i64 (stW n), .int .u64 (genW n), .bool (lastW n), .bool (okW n)]) ?_ rfl ⟨rfl, rfl⟩
  all_goals simp only [results, Tryz.results23]
  all_goals simp [go_sem]
  all_goals go_light
  · have h : okW n = false := by simp only [okW, Bool.and_eq_false_iff, decide_eq_false_iff_not]; omega
    simp [stW, genW, lastW, h]
  · have h : okW n = true := by simp only [okW, Bool.and_eq_true, decide_eq_true_eq]; omega
    simp only [stW, genW, lastW, h, if_true, Bool.true_and, true_and]
    exact ⟨by omega, by rw [Bool.eq_iff_iff]; simp⟩
  · have h : okW n = false := by simp only [okW, Bool.and_eq_false_iff, decide_eq_false_iff_not]; omega
    simp [stW, genW, lastW, h]
  · have h : okW n = false := by simp only [okW, Bool.and_eq_false_iff, decide_eq_false_iff_not]; omega
    simp [stW, genW, lastW, h]

end Go.Proofs.YthbjaoinklhikaaGreat

namespace Go.Proofs.YthbjaoinklhikaaGreat
set_option linter.unusedVariables false
set_option linter.unusedSimpArgs false
open Go.RowKit Go.Shelf

theorem coreTrace {L : Lay} {x : CoreS} {g : List Blk} (hx : isCore L x g) (hn : x.tr.length ≤ 1000000) : DoesG Tryz.prog 22 #[ptr' L.fb] [g] fun e gs => ∃ v g' gv, e = .returned v ∧ isCore L x g' ∧ trG v x.tr gv ∧ gs = [g', gv] := by
  obtain ⟨tr, gF, gS, gR, gH, gT, h1, h2, h3, h4, h5, h6, rfl⟩ := hx
  intro w hw
  have T := (TG.refl hw).sum (H' := [gF, gS, gR, gH, gT]) (fun n ha h0 h1 h2 => by simp only [pickG, List.map_cons, List.map_nil, List.getD_cons_succ, List.getD_cons_zero, List.set_cons_succ, List.set_cons_zero, List.cons_append, List.flatten_append, List.flatten_cons, List.flatten_nil, List.append_nil, List.nil_append, ha, h0, h1, h2] <;> omega)
  refine (DoesG.use (floorTrace_g h1 h6 (by omega)) T [0, 4] rfl rfl).mono ?_
  rintro e w' ⟨gs, ⟨v, gv, he, hv, rfl⟩, T'⟩
  exact ⟨_, ⟨v, _, gv, he, ⟨tr, gF, gS, gR, gH, gT, h1, h2, h3, h4, h5, h6, rfl⟩, hv, rfl⟩, TG.sum (H := [gF, gS, gR, gH, gT, gv]) T' (fun n ha h0 h1 h2 => by simp only [pickG, List.map_cons, List.map_nil, List.getD_cons_succ, List.getD_cons_zero, List.set_cons_succ, List.set_cons_zero, List.cons_append, List.flatten_append, List.flatten_cons, List.flatten_nil, List.append_nil, List.nil_append, ha, h0, h1, h2] <;> omega)⟩
theorem trG.lt {h H : GH} {w w' : World} (T : TG h w H w') (i : Nat) {tr : Value} {l : List EvS} {g : List Blk} (hi : H.getD i [] = g) (r : trG tr l g) (hk : 0 < l.length) {b n cap : Nat} (hv : tr = .slice (some ⟨b, 0, none⟩) n cap) : b < w'.heap.size := by
  obtain ⟨b', cap', cur, rfl, rfl, _⟩ := rowG.open r hk
  have hb : b' = b := by injection hv with h1 _ _; injection h1 with h1; injection h1
  subst hb
  exact T.lt i 0 (by rw [hi]; rfl)
theorem call_zero (w : World) : (binOp .neq 24 (.agg #[.int .i64 0, .int .u64 0, .int .u64 0, .int .u64 0]) (.agg #[.int .i64 0, .int .u64 0, .int .u64 0, .int .u64 0])).run Tryz.prog w = .ok (.bool false) w := by kernel_rfl
theorem plain16_ok {room ring : Int} (h1 : 1 ≤ room) (h2 : room ≤ 64) (h3 : 1 ≤ ring) (h4 : ring ≤ 64) : (plain16 room ring).ok = true := by
  simp [plain16, Cfg.ok, Cfg.fine, Cfg.pair]; omega
theorem first_notnil (kd : Int) : (firstC kd).isNil = false := by
  unfold firstC
  split
  · rfl
  · split <;> rfl
set_option maxHeartbeats 4000000 in
set_option maxRecDepth 100000 in
theorem lawCallsNone (c : CallC) (kd : Int) : DoesG Tryz.prog 3 #[.agg c.cells, .int .i64 kd] [] fun e gs => e = .returned (.bool true) := by
  by_cases h : 1 ≤ kd ∧ kd ≤ 5
  · obtain ⟨h1, h5⟩ := h
    intro w hw
    have T0 := TG.refl hw
    have HT := Lib.hid T0
    clear hw T0
    simp only [CallC.cells]
    have q := fun w => call_zero w
    go_enter Tryz.func3, Tryz.ntmps3
    go_wp2_with fail
    refine (DoesG.use (alive16_g) (HT.out.alloc (k := w.heap.size) rfl _ _) [] rfl rfl).mono ?_
    rintro e w1 ⟨gs, ⟨rfl, rfl⟩, Ta⟩
    simp only [putG, List.set_cons_zero, List.set_cons_succ, List.cons_append, List.nil_append, List.append_nil] at Ta
    have HT := Lib.hid Ta
    clear Ta
    go_wp2_with fail
    refine (DoesG.use (callAnswer_nil) (HT.out) [] rfl rfl).mono ?_
    rintro e w1 ⟨gs, ⟨rfl, rfl⟩, Ta⟩
    simp only [putG, List.set_cons_zero, List.set_cons_succ, List.cons_append, List.nil_append, List.append_nil] at Ta
    have HT := Lib.hid Ta
    clear Ta
    have c0 := HT.out.cell 0 0 rfl 0
    have c1 := HT.out.cell 0 0 rfl 1
    have c2 := HT.out.cell 0 0 rfl 2
    have c3 := HT.out.cell 0 0 rfl 3
    simp only [List.getElem?_nil, List.getElem?_toArray, List.getElem?_cons_zero, List.getElem?_cons_succ] at c0 c1 c2 c3
    have ltc := HT.out.lt 0 0 rfl
    simp only [] at ltc
    simp only [ansC]
    go_wp2_with fail
    have HT := Lib.hid (HT.out.alloc (k := w1.heap.size) rfl 30 (ansC 0 false 0 0))
    simp only [List.cons_append, List.nil_append, ansC] at HT
    refine (DoesG.use (callBegin_none 0 0 c) HT.out [] rfl rfl).mono ?_
    rintro e w2 ⟨gs, ⟨rfl, rfl⟩, Ta⟩
    simp only [putG, List.append_nil] at Ta
    have HT := Lib.hid Ta
    clear Ta c0 c1 c2 c3 ltc
    go_wp2_with fail
    refine (DoesG.use (callMay_nil) (HT.out) [] rfl rfl).mono ?_
    rintro e w1 ⟨gs, ⟨rfl, rfl⟩, Ta⟩
    simp only [putG, List.set_cons_zero, List.set_cons_succ, List.cons_append, List.nil_append, List.append_nil] at Ta
    have HT := Lib.hid Ta
    clear Ta
    go_wp2_with fail
    refine (DoesG.use (callStepNone) (HT.out) [] rfl rfl).mono ?_
    rintro e w1 ⟨gs, ⟨rfl, rfl⟩, Ta⟩
    simp only [putG, List.set_cons_zero, List.set_cons_succ, List.cons_append, List.nil_append, List.append_nil] at Ta
    have HT := Lib.hid Ta
    clear Ta
    go_wp2_with fail
    refine (DoesG.use (callDone_nil) (HT.out) [] rfl rfl).mono ?_
    rintro e w1 ⟨gs, ⟨rfl, rfl⟩, Ta⟩
    simp only [putG, List.set_cons_zero, List.set_cons_succ, List.cons_append, List.nil_append, List.append_nil] at Ta
    have HT := Lib.hid Ta
    clear Ta
    have a0 := HT.out.cell 1 0 rfl 0
    have a1 := HT.out.cell 1 0 rfl 1
    have a2 := HT.out.cell 1 0 rfl 2
    have a3 := HT.out.cell 1 0 rfl 3
    have a4 := HT.out.cell 1 0 rfl 4
    simp only [List.getElem?_nil, List.getElem?_toArray, List.getElem?_cons_zero, List.getElem?_cons_succ] at a0 a1 a2 a3 a4
    go_wp2_with fail
    refine (DoesG.use (answers_zero) (HT.out) [] rfl rfl).mono ?_
    rintro e w1 ⟨gs, ⟨rfl, rfl⟩, Ta⟩
    simp only [putG, List.set_cons_zero, List.set_cons_succ, List.cons_append, List.nil_append, List.append_nil] at Ta
    have HT := Lib.hid Ta
    clear Ta
    clear a0 a1 a2 a3 a4
    go_wp2_with fail
    refine (DoesG.use (callCall_nil) (HT.out) [] rfl rfl).mono ?_
    rintro e w1 ⟨gs, ⟨rfl, rfl⟩, Ta⟩
    simp only [putG, List.set_cons_zero, List.set_cons_succ, List.cons_append, List.nil_append, List.append_nil] at Ta
    have HT := Lib.hid Ta
    clear Ta
    go_wp2_with fail
    refine (DoesG.use (plain16_g 1 1) (HT.out) [] rfl rfl).mono ?_
    rintro e w1 ⟨gs, ⟨rfl, rfl⟩, Ta⟩
    simp only [putG, List.set_cons_zero, List.set_cons_succ, List.cons_append, List.nil_append, List.append_nil] at Ta
    have HT := Lib.hid Ta
    clear Ta
    go_wp2_with fail
    refine (DoesG.use (newCore (plain16 1 1) (plain16_ok (by decide) (by decide) (by decide) (by decide))) (HT.out) [] rfl rfl).mono ?_
    rintro e w1 ⟨gs, ⟨L, gF, gP, gL, rfl, hx, hp, rfl, rfl⟩, Ta⟩
    simp only [putG, List.set_cons_zero, List.set_cons_succ, List.cons_append, List.nil_append, List.append_nil] at Ta
    have HX := Lib.hid hx
    clear hx hp
    have HT := Lib.hid Ta
    clear Ta
    have c0 := HT.out.cell 0 0 rfl 0
    have fc0 := HT.out.free 0 0 rfl 0
    have c1 := HT.out.cell 0 0 rfl 1
    have c2 := HT.out.cell 0 0 rfl 2
    have c3 := HT.out.cell 0 0 rfl 3
    simp only [List.getElem?_nil, List.getElem?_toArray, List.getElem?_cons_zero, List.getElem?_cons_succ] at c0 c1 c2 c3
    go_wp2_with fail
    have HT := Lib.hid (HT.out.set 0 0 rfl 0 (.int .i64 kd))
    clear c0 c1 c2 c3 fc0
    have hbg := callBegin HX.out (show (core0 (plain16 1 1)).tr.length ≤ 1000000 from by show ([] : List EvS).length ≤ _; simp) 0 0 ⟨kd, c.id, c.dl, c.per⟩ h1 h5
    unfold BeginR at hbg
    refine (DoesG.use hbg HT.out [2] rfl rfl).mono ?_
    rintro e w3 ⟨gs, ⟨kb, g, gF1, rfl, hc, hx1, rfl⟩, Ta⟩
    simp only [putG, List.set_cons_zero, List.set_cons_succ, List.cons_append, List.nil_append, List.append_nil] at Ta
    have HT := Lib.hid Ta
    have HC := Lib.hid hc
    have HX1 := Lib.hid hx1
    clear Ta hc hx1 hbg
    have d1 : decide (1 ≤ kd) = true := decide_eq_true h1
    have d5 : decide (kd ≤ 5) = true := decide_eq_true h5
    go_wp2_with fail
    refine (DoesG.use (coreTrace HX1.out (by show ([] ++ [_] : List EvS).length ≤ _; simp)) (HT.out) [5] rfl rfl).mono ?_
    rintro e w1 ⟨gs, ⟨v, g3, gv, rfl, hx3, hv, rfl⟩, Ta⟩
    simp only [putG, List.set_cons_zero, List.set_cons_succ, List.cons_append, List.nil_append, List.append_nil] at Ta
    have HV := Lib.hid hv
    clear hx3 hv
    have HT := Lib.hid Ta
    clear Ta
    go_wp2_with fail
    refine (DoesG.use (callBusy HC.out (first_notnil _)) (HT.out) [2] rfl rfl).mono ?_
    rintro e w1 ⟨gs, ⟨rfl, rfl⟩, Ta⟩
    simp only [putG, List.set_cons_zero, List.set_cons_succ, List.cons_append, List.nil_append, List.append_nil] at Ta
    have HT := Lib.hid Ta
    clear Ta
    have lb0 := fun b n cap => trG.lt HT.out 6 rfl HV.out (by show 0 < ([] ++ [_] : List EvS).length; simp) (b := b) (n := n) (cap := cap)
    obtain ⟨b, cap, rfl, l1, l2, e, he, c0, c1, c2, c3, _⟩ := trG.cells HT.out 6 rfl HV.out (k := 0) (by show 0 < ([] ++ [_] : List EvS).length; simp)
    have lb := lb0 _ _ _ rfl
    clear lb0
    have he' : e = WorkS.ev (newW 0 0 ⟨kd, c.id, c.dl, c.per⟩) { ev0 with kind := 1, id := c.id, dl := c.dl, per := c.per } := he.symm
    subst he'
    have hl : (noteC (newW 0 0 ⟨kd, c.id, c.dl, c.per⟩) { ev0 with kind := 1, id := c.id, dl := c.dl, per := c.per } (core0 (plain16 1 1))).tr.length = 1 := rfl
    rw [hl] at l1 ⊢
    simp only [Nat.zero_mul, Nat.zero_add, WorkS.ev, newW] at c0 c3
    clear c1 c2 he hl l1 l2
    simp only [ansC]
    go_wp2_with fail
    go_ret
    exact ⟨rfl, _, HT.out.alloc (k := _) rfl _ _⟩
  · have h' : kd < 1 ∨ 5 < kd := by omega
    have HBD := Lib.hid h'
    intro w hw
    have T0 := TG.refl hw
    have HT := Lib.hid T0
    clear hw T0
    simp only [CallC.cells]
    have q := fun w => call_zero w
    go_enter Tryz.func3, Tryz.ntmps3
    go_wp2_with fail
    refine (DoesG.use (alive16_g) (HT.out.alloc (k := w.heap.size) rfl _ _) [] rfl rfl).mono ?_
    rintro e w1 ⟨gs, ⟨rfl, rfl⟩, Ta⟩
    simp only [putG, List.set_cons_zero, List.set_cons_succ, List.cons_append, List.nil_append, List.append_nil] at Ta
    have HT := Lib.hid Ta
    clear Ta
    go_wp2_with fail
    refine (DoesG.use (callAnswer_nil) (HT.out) [] rfl rfl).mono ?_
    rintro e w1 ⟨gs, ⟨rfl, rfl⟩, Ta⟩
    simp only [putG, List.set_cons_zero, List.set_cons_succ, List.cons_append, List.nil_append, List.append_nil] at Ta
    have HT := Lib.hid Ta
    clear Ta
    have c0 := HT.out.cell 0 0 rfl 0
    have c1 := HT.out.cell 0 0 rfl 1
    have c2 := HT.out.cell 0 0 rfl 2
    have c3 := HT.out.cell 0 0 rfl 3
    simp only [List.getElem?_nil, List.getElem?_toArray, List.getElem?_cons_zero, List.getElem?_cons_succ] at c0 c1 c2 c3
    have ltc := HT.out.lt 0 0 rfl
    simp only [] at ltc
    simp only [ansC]
    go_wp2_with fail
    have HT := Lib.hid (HT.out.alloc (k := w1.heap.size) rfl 30 (ansC 0 false 0 0))
    simp only [List.cons_append, List.nil_append, ansC] at HT
    refine (DoesG.use (callBegin_none 0 0 c) HT.out [] rfl rfl).mono ?_
    rintro e w2 ⟨gs, ⟨rfl, rfl⟩, Ta⟩
    simp only [putG, List.append_nil] at Ta
    have HT := Lib.hid Ta
    clear Ta c0 c1 c2 c3 ltc
    go_wp2_with fail
    refine (DoesG.use (callMay_nil) (HT.out) [] rfl rfl).mono ?_
    rintro e w1 ⟨gs, ⟨rfl, rfl⟩, Ta⟩
    simp only [putG, List.set_cons_zero, List.set_cons_succ, List.cons_append, List.nil_append, List.append_nil] at Ta
    have HT := Lib.hid Ta
    clear Ta
    go_wp2_with fail
    refine (DoesG.use (callStepNone) (HT.out) [] rfl rfl).mono ?_
    rintro e w1 ⟨gs, ⟨rfl, rfl⟩, Ta⟩
    simp only [putG, List.set_cons_zero, List.set_cons_succ, List.cons_append, List.nil_append, List.append_nil] at Ta
    have HT := Lib.hid Ta
    clear Ta
    go_wp2_with fail
    refine (DoesG.use (callDone_nil) (HT.out) [] rfl rfl).mono ?_
    rintro e w1 ⟨gs, ⟨rfl, rfl⟩, Ta⟩
    simp only [putG, List.set_cons_zero, List.set_cons_succ, List.cons_append, List.nil_append, List.append_nil] at Ta
    have HT := Lib.hid Ta
    clear Ta
    have a0 := HT.out.cell 1 0 rfl 0
    have a1 := HT.out.cell 1 0 rfl 1
    have a2 := HT.out.cell 1 0 rfl 2
    have a3 := HT.out.cell 1 0 rfl 3
    have a4 := HT.out.cell 1 0 rfl 4
    simp only [List.getElem?_nil, List.getElem?_toArray, List.getElem?_cons_zero, List.getElem?_cons_succ] at a0 a1 a2 a3 a4
    go_wp2_with fail
    refine (DoesG.use (answers_zero) (HT.out) [] rfl rfl).mono ?_
    rintro e w1 ⟨gs, ⟨rfl, rfl⟩, Ta⟩
    simp only [putG, List.set_cons_zero, List.set_cons_succ, List.cons_append, List.nil_append, List.append_nil] at Ta
    have HT := Lib.hid Ta
    clear Ta
    clear a0 a1 a2 a3 a4
    go_wp2_with fail
    refine (DoesG.use (callCall_nil) (HT.out) [] rfl rfl).mono ?_
    rintro e w1 ⟨gs, ⟨rfl, rfl⟩, Ta⟩
    simp only [putG, List.set_cons_zero, List.set_cons_succ, List.cons_append, List.nil_append, List.append_nil] at Ta
    have HT := Lib.hid Ta
    clear Ta
    go_wp2_with fail
    refine (DoesG.use (plain16_g 1 1) (HT.out) [] rfl rfl).mono ?_
    rintro e w1 ⟨gs, ⟨rfl, rfl⟩, Ta⟩
    simp only [putG, List.set_cons_zero, List.set_cons_succ, List.cons_append, List.nil_append, List.append_nil] at Ta
    have HT := Lib.hid Ta
    clear Ta
    go_wp2_with fail
    refine (DoesG.use (newCore (plain16 1 1) (plain16_ok (by decide) (by decide) (by decide) (by decide))) (HT.out) [] rfl rfl).mono ?_
    rintro e w1 ⟨gs, ⟨L, gF, gP, gL, rfl, hx, hp, rfl, rfl⟩, Ta⟩
    simp only [putG, List.set_cons_zero, List.set_cons_succ, List.cons_append, List.nil_append, List.append_nil] at Ta
    have HX := Lib.hid hx
    clear hx hp
    have HT := Lib.hid Ta
    clear Ta
    have c0 := HT.out.cell 0 0 rfl 0
    have fc0 := HT.out.free 0 0 rfl 0
    have c1 := HT.out.cell 0 0 rfl 1
    have c2 := HT.out.cell 0 0 rfl 2
    have c3 := HT.out.cell 0 0 rfl 3
    simp only [List.getElem?_nil, List.getElem?_toArray, List.getElem?_cons_zero, List.getElem?_cons_succ] at c0 c1 c2 c3
    go_wp2_with fail
    have HT := Lib.hid (HT.out.set 0 0 rfl 0 (.int .i64 kd))
    clear c0 c1 c2 c3 fc0
    refine (DoesG.use (callBegin_bad HX.out 0 0 ⟨kd, c.id, c.dl, c.per⟩ HBD.out) HT.out [2] rfl rfl).mono ?_
    rintro e w3 ⟨gs, ⟨rfl, rfl⟩, Ta⟩
    simp only [putG, List.set_cons_zero, List.set_cons_succ, List.cons_append, List.nil_append, List.append_nil] at Ta
    have HT := Lib.hid Ta
    clear Ta
    rcases HBD.out with h1 | h5
    · have d1 : decide (1 ≤ kd) = false := decide_eq_false (by omega)
      have d1n : decide (kd ≥ 1) = false := decide_eq_false (by omega)
      clear h' HBD h1
      have p0 : okW 0 = true := by decide
      go_wp2_with (go_at_call 23; refine (parts_calls 0 _ (by decide) (by decide)).mono ?_; rintro e w' ⟨rfl, rfl⟩; rw [p0])
      go_wp2_with fail
      refine (DoesG.use (coreTrace HX.out (by show ([] : List EvS).length ≤ _; simp)) (HT.out) [2] rfl rfl).mono ?_
      rintro e w1 ⟨gs, ⟨v, g3, gv, rfl, hx3, hv, rfl⟩, Ta⟩
      simp only [putG, List.set_cons_zero, List.set_cons_succ, List.cons_append, List.nil_append, List.append_nil] at Ta
      obtain ⟨a, cap, rfl⟩ := rowG.val hv
      clear hx3 hv
      have HT := Lib.hid Ta
      clear Ta
      go_wp2_with fail
      go_ret
      exact ⟨_, rfl, HT.out⟩
    · have d1 : decide (1 ≤ kd) = true := decide_eq_true (by omega)
      have d5 : decide (kd ≤ 5) = false := decide_eq_false (by omega)
      clear h' HBD h5
      have p0 : okW 0 = true := by decide
      go_wp2_with (go_at_call 23; refine (parts_calls 0 _ (by decide) (by decide)).mono ?_; rintro e w' ⟨rfl, rfl⟩; rw [p0])
      go_wp2_with fail
      refine (DoesG.use (coreTrace HX.out (by show ([] : List EvS).length ≤ _; simp)) (HT.out) [2] rfl rfl).mono ?_
      rintro e w1 ⟨gs, ⟨v, g3, gv, rfl, hx3, hv, rfl⟩, Ta⟩
      simp only [putG, List.set_cons_zero, List.set_cons_succ, List.cons_append, List.nil_append, List.append_nil] at Ta
      obtain ⟨a, cap, rfl⟩ := rowG.val hv
      clear hx3 hv
      have HT := Lib.hid Ta
      clear Ta
      go_wp2_with fail
      go_ret
      exact ⟨_, rfl, HT.out⟩
end Go.Proofs.YthbjaoinklhikaaGreat

namespace Go.Proofs.YthbjaoinklhikaaGreat
set_option linter.unusedVariables false
set_option linter.unusedSimpArgs false
open Go.RowKit Go.Shelf Go.ChangeShapes Go.WideShapes Go.Deep
def CallC.fits (e : CallC) : Prop := (Lit.int .i64 e.kind).wf = true ∧ (Lit.int .u64 e.id).wf = true ∧ (Lit.int .u64 e.dl).wf = true ∧ (Lit.int .u64 e.per).wf = true
section
variable {H : Type} {enc : TypeId × Value → H} {w : World} {base : Nat} {spare : Nat → Bool} {held : Bool}
theorem call_len {l : List Value} (h : l.length = 4) : ∃ c0 c1 c2 c3, l = [c0, c1, c2, c3] := by
  match l, h with
  | [c0, c1, c2, c3], _ => exact ⟨c0, c1, c2, c3, rfl⟩
theorem call_of_trod {n : Nat} {cs : List Value} {x : DataW H × List MemPlace} (h : DataW.trod enc Tryz.prog w base spare held n 24 cs = some x) : ∃ e : CallC, cs = e.cells.toList ∧ e.fits := by
  obtain ⟨xs, n1, _, _, hl, hlen, hf⟩ := DataW.trod_struct Tryz.underlying24 h
  rw [show Tryz.prog.cellsOf 24 = 4 from by kernel_rfl] at hl
  obtain ⟨c0, c1, c2, c3, rfl⟩ := call_len hl
  have hs : ∀ i, i < 4 → (xs[i]?).isSome = true := fun i hi => by rw [List.getElem?_eq_getElem (by rw [hlen]; exact hi)]; rfl
  have f0 : DataW.trod enc Tryz.prog w base spare held n1 3 (List.take (Tryz.prog.cellsOf 3) (List.drop 0 [c0, c1, c2, c3])) = xs[0]? := hf 0 _ rfl
  simp only [show Tryz.prog.cellsOf 3 = 1 from by kernel_rfl, List.drop_zero, List.drop_succ_cons, List.take_succ_cons, List.take_zero] at f0
  have f1 : DataW.trod enc Tryz.prog w base spare held n1 22 (List.take (Tryz.prog.cellsOf 22) (List.drop 1 [c0, c1, c2, c3])) = xs[1]? := hf 1 _ rfl
  simp only [show Tryz.prog.cellsOf 22 = 1 from by kernel_rfl, List.drop_zero, List.drop_succ_cons, List.take_succ_cons, List.take_zero] at f1
  have f2 : DataW.trod enc Tryz.prog w base spare held n1 22 (List.take (Tryz.prog.cellsOf 22) (List.drop 2 [c0, c1, c2, c3])) = xs[2]? := hf 2 _ rfl
  simp only [show Tryz.prog.cellsOf 22 = 1 from by kernel_rfl, List.drop_zero, List.drop_succ_cons, List.take_succ_cons, List.take_zero] at f2
  have f3 : DataW.trod enc Tryz.prog w base spare held n1 22 (List.take (Tryz.prog.cellsOf 22) (List.drop 3 [c0, c1, c2, c3])) = xs[3]? := hf 3 _ rfl
  simp only [show Tryz.prog.cellsOf 22 = 1 from by kernel_rfl, List.drop_zero, List.drop_succ_cons, List.take_succ_cons, List.take_zero] at f3
  obtain ⟨z0, rfl, w0⟩ := one_int Tryz.underlying3 f0 (hs 0 (by omega))
  obtain ⟨z1, rfl, w1⟩ := one_int Tryz.underlying22 f1 (hs 1 (by omega))
  obtain ⟨z2, rfl, w2⟩ := one_int Tryz.underlying22 f2 (hs 2 (by omega))
  obtain ⟨z3, rfl, w3⟩ := one_int Tryz.underlying22 f3 (hs 3 (by omega))
  exact ⟨⟨z0, z1, z2, z3⟩, rfl, w0, w1, w2, w3⟩
end
end Go.Proofs.YthbjaoinklhikaaGreat

namespace Go.Proofs.YthbjaoinklhikaaGreat
set_option linter.unusedVariables false
set_option linter.unusedSimpArgs false
open Go.RowKit Go.Shelf Go.ChangeShapes Go.WideShapes Go.Deep

/-! ## What came in: structs, slices of structs -/
section
variable {H : Type} {enc : TypeId × Value → H} {w : World} {base : Nat} {spare : Nat → Bool} {held : Bool}
theorem int_of_trod {t : TypeId} {k : IntKind} {n : Nat} {c : Value} {x : Option (DataW H × List MemPlace)} (ht : Tryz.prog.underlying t = some (.int k)) (h : DataW.trod enc Tryz.prog w base spare held n t [c] = x) (hx : x.isSome = true) :
    ∃ z, c = .int k z ∧ (Lit.int k z).wf = true := by
  obtain ⟨y, hy⟩ := Option.isSome_iff_exists.1 hx
  obtain ⟨z, hz, _, hw⟩ := DataW.trod_int ht (h.trans hy)
  exact ⟨z, by simpa using hz, hw⟩
theorem choose_list {α : Type} (z : α) {q : Nat → α → Prop} (n : Nat) (h : ∀ i, i < n → ∃ e, q i e) : ∃ es : List α, es.length = n ∧ ∀ i, i < n → q i (es.getD i z) := by
  induction n with
  | zero => exact ⟨[], rfl, fun i hi => by omega⟩
  | succ n ih =>
    obtain ⟨es, hl, hq⟩ := ih (fun i hi => h i (by omega))
    obtain ⟨e, he⟩ := h n (by omega)
    refine ⟨es ++ [e], by simp [hl], fun i hi => ?_⟩
    by_cases hin : i < n
    · rw [List.getD_eq_getElem?_getD, List.getElem?_append_left (by omega), ← List.getD_eq_getElem?_getD]; exact hq i hin
    · obtain rfl : i = n := by omega
      rw [List.getD_eq_getElem?_getD, List.getElem?_append_right (by omega), hl]
      simpa using he
/-- a slice of structs of so many cells that came in -/
theorem open_structs' {α : Type} (z : α) (wf : α → Prop) (cells : α → List Value) (sz : Nat) {T E : TypeId} (hT : Tryz.prog.underlying T = some (.slice E)) (hsz : Tryz.prog.cellsOf E = sz) (hpos : 0 < sz)
    (hl : ∀ {n : Nat} {cs : List Value} {x : DataW H × List MemPlace}, DataW.trod enc Tryz.prog w base spare held n E cs = some x → ∃ e : α, cs = cells e ∧ wf e) (hc : ∀ e, (cells e).length = sz)
    {fuel : Nat} {a : Option Addr} {len cap : Nat} {x : DataW H × List MemPlace} (h : DataW.trod enc Tryz.prog w base spare held fuel T (Value.cells (.slice a len cap)).toList = some x) :
    ∃ es : List α, es.length = len ∧ len ≤ 9223372036854775807 ∧ (∀ e ∈ es, wf e) ∧ (es = [] ∨ ∃ b off, a = some ⟨b, off, none⟩ ∧ b < w.heap.size ∧ ∀ i j, i < es.length → j < sz → w.cell? ⟨b, off + (i * sz + j), none⟩ = (cells (es.getD i z))[j]?) := by
  rcases open_slice hT h with ⟨hcs, _⟩ | ⟨x, l, c, m, n, D, Pl, hcs, hb, hl', hm, hmm, _, hx⟩
  · simp [Value.cells] at hcs
    obtain ⟨rfl, rfl, rfl⟩ := hcs
    exact ⟨[], rfl, by omega, fun e he => (by cases he), .inl rfl⟩
  · simp [Value.cells] at hcs
    obtain ⟨rfl, rfl, rfl⟩ := hcs
    have hlm : len ≤ m := by rw [hmm]; split <;> omega
    obtain ⟨es, hel, hq⟩ := choose_list z (q := fun i e => (∀ j, j < sz → w.cell? (x.add (i * sz + j)) = (cells e)[j]?) ∧ wf e) len (fun i hi => by
      obtain ⟨cs', h1, h2⟩ := hx i (by omega)
      rw [hsz] at h1
      obtain ⟨e, rfl, hwe⟩ := hl h2
      obtain ⟨_, _, hc'⟩ := World.cells?_some h1
      exact ⟨e, fun j hj => by rw [← Go.Deep.add_add]; exact hc' j hj, hwe⟩)
    refine ⟨es, hel, by unfold maxLen at hm; omega, fun e he => (by
      obtain ⟨i, hi, rfl⟩ := List.getElem_of_mem he
      have := (hq i (by omega)).2
      rwa [List.getD_eq_getElem?_getD, List.getElem?_eq_getElem hi] at this), ?_⟩
    by_cases h0 : len = 0
    · exact .inl (List.eq_nil_of_length_eq_zero (by omega))
    · obtain ⟨b, off, spot⟩ := x
      obtain ⟨v0, hv0⟩ : ∃ v, (cells (es.getD 0 z))[0]? = some v := ⟨_, List.getElem?_eq_getElem (by rw [hc]; exact hpos)⟩
      have hc0 := ((hq 0 (by omega)).1 0 hpos).trans hv0
      have hspot : spot = none := by
        have := World.cell?_spot hc0
        simpa [Addr.add] using this
      subst hspot
      refine .inr ⟨b, off, rfl, ?_, fun i j hi hj => ?_⟩
      · obtain ⟨o, ho, _⟩ := cells_of_cell hc0
        rw [show ((⟨b, off, none⟩ : Addr).add (0 * sz + 0)) = ⟨b, off + (0 * sz + 0), none⟩ from add_plain _ _ _] at ho
        exact (Array.getElem?_eq_some_iff.1 ho).1
      · have h1 := (hq i (by omega)).1 j hj
        rwa [show ((⟨b, off, none⟩ : Addr).add (i * sz + j)) = ⟨b, off + (i * sz + j), none⟩ from add_plain _ _ _] at h1
end
end Go.Proofs.YthbjaoinklhikaaGreat

namespace Go.Proofs.YthbjaoinklhikaaGreat
set_option linter.unusedVariables false
set_option linter.unusedSimpArgs false
open Go.RowKit Go.Shelf Go.ChangeShapes Go.WideShapes Go.Deep
theorem CallC.fits.to_wf {e : CallC} (h : e.fits) : e.wf := by
  obtain ⟨_, h1, h2, h3⟩ := h
  have b1 := bounds_u64 h1
  have b2 := bounds_u64 h2
  have b3 := bounds_u64 h3
  exact ⟨⟨b1.1, by omega⟩, ⟨b2.1, by omega⟩, ⟨b3.1, by omega⟩⟩
section
variable {H : Type} {enc : TypeId × Value → H} {w : World} {base : Nat} {spare : Nat → Bool} {held : Bool}
abbrev CallL := List CallC
def IsCalls (w : World) (a : Option Addr) (len cap : Nat) (es : CallL) : Prop := es.length = len ∧ len ≤ 9223372036854775807 ∧ (∀ z ∈ es, z.wf) ∧ CallsAt w a es
theorem open_calls {fuel : Nat} {a : Option Addr} {len cap : Nat} {x : DataW H × List MemPlace} (h : DataW.trod enc Tryz.prog w base spare held fuel 53 (Value.cells (.slice a len cap)).toList = some x) : ∃ es, IsCalls w a len cap es := by
  obtain ⟨es, h1, h2, hw, h3⟩ := open_structs' CallC.zero CallC.fits (fun e : CallC => e.cells.toList) 4 Tryz.underlying53 (by kernel_rfl) (by decide) call_of_trod (fun _ => rfl) h
  refine ⟨es, h1, h2, fun z hz => (hw z hz).to_wf, h3.imp id ?_⟩
  rintro ⟨b, off, e1, e2, e3⟩
  exact ⟨b, off, e1, e2, fun i j hi hj => (e3 i j hi hj).trans (by rw [Array.getElem?_toList])⟩
end
end Go.Proofs.YthbjaoinklhikaaGreat
