import Derived.Test.YtnemggminanbbaaFloorZ
import Derived.Deep.Slices
import Derived.ChangeSame
import Derived.ProofKit
import Derived.OpenShut
namespace Go.Proofs.Ytnemggminanbbaa
set_option linter.unusedVariables false
set_option linter.unusedSimpArgs false
open Go.RowKit Go.Shelf Go.ChangeShapes Go.WideShapes Go.Deep
def Cfg.wf (e : Cfg) : Prop := (Lit.int .i64 e.sh).wf = true ∧ (Lit.int .i64 e.cap).wf = true ∧ (Lit.int .i64 e.ring).wf = true ∧ (Lit.int .i64 e.room).wf = true ∧ (Lit.int .i64 e.wk).wf = true ∧ (Lit.int .i64 e.cli).wf = true
def EvS.wf (e : EvS) : Prop := (Lit.int .i64 e.kind).wf = true ∧ (Lit.int .i64 e.thread).wf = true ∧ (Lit.int .i64 e.call).wf = true ∧ (Lit.int .i64 e.what).wf = true ∧ (Lit.int .u64 e.id).wf = true ∧ (Lit.int .u64 e.gen).wf = true ∧ (Lit.int .u64 e.dl).wf = true ∧ (Lit.int .u64 e.per).wf = true ∧ (Lit.int .u64 e.tick).wf = true ∧ (Lit.int .i64 e.err).wf = true
section
variable {H : Type} {enc : TypeId × Value → H} {w : World} {base : Nat} {spare : Nat → Bool} {held : Bool}
theorem one_int {t : TypeId} {k : IntKind} {n : Nat} {c : Value} {x : Option (DataW H × List MemPlace)} (ht : Try.prog.underlying t = some (.int k)) (h : DataW.trod enc Try.prog w base spare held n t [c] = x) (hx : x.isSome = true) :
    ∃ z, c = .int k z ∧ (Lit.int k z).wf = true := by
  obtain ⟨y, hy⟩ := Option.isSome_iff_exists.1 hx
  obtain ⟨z, hz, _, hw⟩ := DataW.trod_int ht (h.trans hy)
  exact ⟨z, by simpa using hz, hw⟩
theorem cfg_len {l : List Value} (h : l.length = 6) : ∃ c0 c1 c2 c3 c4 c5, l = [c0, c1, c2, c3, c4, c5] := by
  match l, h with
  | [c0, c1, c2, c3, c4, c5], _ => exact ⟨c0, c1, c2, c3, c4, c5, rfl⟩
theorem cfg_of_trod {n : Nat} {cs : List Value} {x : DataW H × List MemPlace} (h : DataW.trod enc Try.prog w base spare held n 46 cs = some x) : ∃ e : Cfg, cs = e.cells.toList ∧ e.wf := by
  obtain ⟨xs, n1, _, _, hl, hlen, hf⟩ := DataW.trod_struct Try.underlying46 h
  rw [show Try.prog.cellsOf 46 = 6 from by kernel_rfl] at hl
  obtain ⟨c0, c1, c2, c3, c4, c5, rfl⟩ := cfg_len hl
  have hs : ∀ i, i < 6 → (xs[i]?).isSome = true := fun i hi => by rw [List.getElem?_eq_getElem (by rw [hlen]; exact hi)]; rfl
  have f0 : DataW.trod enc Try.prog w base spare held n1 3 (List.take (Try.prog.cellsOf 3) (List.drop 0 [c0, c1, c2, c3, c4, c5])) = xs[0]? := hf 0 _ rfl
  simp only [show Try.prog.cellsOf 3 = 1 from by kernel_rfl, List.drop_zero, List.drop_succ_cons, List.take_succ_cons, List.take_zero] at f0
  have f1 : DataW.trod enc Try.prog w base spare held n1 3 (List.take (Try.prog.cellsOf 3) (List.drop 1 [c0, c1, c2, c3, c4, c5])) = xs[1]? := hf 1 _ rfl
  simp only [show Try.prog.cellsOf 3 = 1 from by kernel_rfl, List.drop_zero, List.drop_succ_cons, List.take_succ_cons, List.take_zero] at f1
  have f2 : DataW.trod enc Try.prog w base spare held n1 3 (List.take (Try.prog.cellsOf 3) (List.drop 2 [c0, c1, c2, c3, c4, c5])) = xs[2]? := hf 2 _ rfl
  simp only [show Try.prog.cellsOf 3 = 1 from by kernel_rfl, List.drop_zero, List.drop_succ_cons, List.take_succ_cons, List.take_zero] at f2
  have f3 : DataW.trod enc Try.prog w base spare held n1 3 (List.take (Try.prog.cellsOf 3) (List.drop 3 [c0, c1, c2, c3, c4, c5])) = xs[3]? := hf 3 _ rfl
  simp only [show Try.prog.cellsOf 3 = 1 from by kernel_rfl, List.drop_zero, List.drop_succ_cons, List.take_succ_cons, List.take_zero] at f3
  have f4 : DataW.trod enc Try.prog w base spare held n1 3 (List.take (Try.prog.cellsOf 3) (List.drop 4 [c0, c1, c2, c3, c4, c5])) = xs[4]? := hf 4 _ rfl
  simp only [show Try.prog.cellsOf 3 = 1 from by kernel_rfl, List.drop_zero, List.drop_succ_cons, List.take_succ_cons, List.take_zero] at f4
  have f5 : DataW.trod enc Try.prog w base spare held n1 3 (List.take (Try.prog.cellsOf 3) (List.drop 5 [c0, c1, c2, c3, c4, c5])) = xs[5]? := hf 5 _ rfl
  simp only [show Try.prog.cellsOf 3 = 1 from by kernel_rfl, List.drop_zero, List.drop_succ_cons, List.take_succ_cons, List.take_zero] at f5
  obtain ⟨z0, rfl, w0⟩ := one_int Try.underlying3 f0 (hs 0 (by omega))
  obtain ⟨z1, rfl, w1⟩ := one_int Try.underlying3 f1 (hs 1 (by omega))
  obtain ⟨z2, rfl, w2⟩ := one_int Try.underlying3 f2 (hs 2 (by omega))
  obtain ⟨z3, rfl, w3⟩ := one_int Try.underlying3 f3 (hs 3 (by omega))
  obtain ⟨z4, rfl, w4⟩ := one_int Try.underlying3 f4 (hs 4 (by omega))
  obtain ⟨z5, rfl, w5⟩ := one_int Try.underlying3 f5 (hs 5 (by omega))
  exact ⟨⟨z0, z1, z2, z3, z4, z5⟩, rfl, w0, w1, w2, w3, w4, w5⟩
theorem ev_len {l : List Value} (h : l.length = 10) : ∃ c0 c1 c2 c3 c4 c5 c6 c7 c8 c9, l = [c0, c1, c2, c3, c4, c5, c6, c7, c8, c9] := by
  match l, h with
  | [c0, c1, c2, c3, c4, c5, c6, c7, c8, c9], _ => exact ⟨c0, c1, c2, c3, c4, c5, c6, c7, c8, c9, rfl⟩
theorem ev_of_trod {n : Nat} {cs : List Value} {x : DataW H × List MemPlace} (h : DataW.trod enc Try.prog w base spare held n 49 cs = some x) : ∃ e : EvS, cs = e.cells.toList ∧ e.wf := by
  obtain ⟨xs, n1, _, _, hl, hlen, hf⟩ := DataW.trod_struct Try.underlying49 h
  rw [show Try.prog.cellsOf 49 = 10 from by kernel_rfl] at hl
  obtain ⟨c0, c1, c2, c3, c4, c5, c6, c7, c8, c9, rfl⟩ := ev_len hl
  have hs : ∀ i, i < 10 → (xs[i]?).isSome = true := fun i hi => by rw [List.getElem?_eq_getElem (by rw [hlen]; exact hi)]; rfl
  have f0 : DataW.trod enc Try.prog w base spare held n1 3 (List.take (Try.prog.cellsOf 3) (List.drop 0 [c0, c1, c2, c3, c4, c5, c6, c7, c8, c9])) = xs[0]? := hf 0 _ rfl
  simp only [show Try.prog.cellsOf 3 = 1 from by kernel_rfl, List.drop_zero, List.drop_succ_cons, List.take_succ_cons, List.take_zero] at f0
  have f1 : DataW.trod enc Try.prog w base spare held n1 3 (List.take (Try.prog.cellsOf 3) (List.drop 1 [c0, c1, c2, c3, c4, c5, c6, c7, c8, c9])) = xs[1]? := hf 1 _ rfl
  simp only [show Try.prog.cellsOf 3 = 1 from by kernel_rfl, List.drop_zero, List.drop_succ_cons, List.take_succ_cons, List.take_zero] at f1
  have f2 : DataW.trod enc Try.prog w base spare held n1 3 (List.take (Try.prog.cellsOf 3) (List.drop 2 [c0, c1, c2, c3, c4, c5, c6, c7, c8, c9])) = xs[2]? := hf 2 _ rfl
  simp only [show Try.prog.cellsOf 3 = 1 from by kernel_rfl, List.drop_zero, List.drop_succ_cons, List.take_succ_cons, List.take_zero] at f2
  have f3 : DataW.trod enc Try.prog w base spare held n1 3 (List.take (Try.prog.cellsOf 3) (List.drop 3 [c0, c1, c2, c3, c4, c5, c6, c7, c8, c9])) = xs[3]? := hf 3 _ rfl
  simp only [show Try.prog.cellsOf 3 = 1 from by kernel_rfl, List.drop_zero, List.drop_succ_cons, List.take_succ_cons, List.take_zero] at f3
  have f4 : DataW.trod enc Try.prog w base spare held n1 28 (List.take (Try.prog.cellsOf 28) (List.drop 4 [c0, c1, c2, c3, c4, c5, c6, c7, c8, c9])) = xs[4]? := hf 4 _ rfl
  simp only [show Try.prog.cellsOf 28 = 1 from by kernel_rfl, List.drop_zero, List.drop_succ_cons, List.take_succ_cons, List.take_zero] at f4
  have f5 : DataW.trod enc Try.prog w base spare held n1 28 (List.take (Try.prog.cellsOf 28) (List.drop 5 [c0, c1, c2, c3, c4, c5, c6, c7, c8, c9])) = xs[5]? := hf 5 _ rfl
  simp only [show Try.prog.cellsOf 28 = 1 from by kernel_rfl, List.drop_zero, List.drop_succ_cons, List.take_succ_cons, List.take_zero] at f5
  have f6 : DataW.trod enc Try.prog w base spare held n1 28 (List.take (Try.prog.cellsOf 28) (List.drop 6 [c0, c1, c2, c3, c4, c5, c6, c7, c8, c9])) = xs[6]? := hf 6 _ rfl
  simp only [show Try.prog.cellsOf 28 = 1 from by kernel_rfl, List.drop_zero, List.drop_succ_cons, List.take_succ_cons, List.take_zero] at f6
  have f7 : DataW.trod enc Try.prog w base spare held n1 28 (List.take (Try.prog.cellsOf 28) (List.drop 7 [c0, c1, c2, c3, c4, c5, c6, c7, c8, c9])) = xs[7]? := hf 7 _ rfl
  simp only [show Try.prog.cellsOf 28 = 1 from by kernel_rfl, List.drop_zero, List.drop_succ_cons, List.take_succ_cons, List.take_zero] at f7
  have f8 : DataW.trod enc Try.prog w base spare held n1 28 (List.take (Try.prog.cellsOf 28) (List.drop 8 [c0, c1, c2, c3, c4, c5, c6, c7, c8, c9])) = xs[8]? := hf 8 _ rfl
  simp only [show Try.prog.cellsOf 28 = 1 from by kernel_rfl, List.drop_zero, List.drop_succ_cons, List.take_succ_cons, List.take_zero] at f8
  have f9 : DataW.trod enc Try.prog w base spare held n1 42 (List.take (Try.prog.cellsOf 42) (List.drop 9 [c0, c1, c2, c3, c4, c5, c6, c7, c8, c9])) = xs[9]? := hf 9 _ rfl
  simp only [show Try.prog.cellsOf 42 = 1 from by kernel_rfl, List.drop_zero, List.drop_succ_cons, List.take_succ_cons, List.take_zero] at f9
  obtain ⟨z0, rfl, w0⟩ := one_int Try.underlying3 f0 (hs 0 (by omega))
  obtain ⟨z1, rfl, w1⟩ := one_int Try.underlying3 f1 (hs 1 (by omega))
  obtain ⟨z2, rfl, w2⟩ := one_int Try.underlying3 f2 (hs 2 (by omega))
  obtain ⟨z3, rfl, w3⟩ := one_int Try.underlying3 f3 (hs 3 (by omega))
  obtain ⟨z4, rfl, w4⟩ := one_int Try.underlying28 f4 (hs 4 (by omega))
  obtain ⟨z5, rfl, w5⟩ := one_int Try.underlying28 f5 (hs 5 (by omega))
  obtain ⟨z6, rfl, w6⟩ := one_int Try.underlying28 f6 (hs 6 (by omega))
  obtain ⟨z7, rfl, w7⟩ := one_int Try.underlying28 f7 (hs 7 (by omega))
  obtain ⟨z8, rfl, w8⟩ := one_int Try.underlying28 f8 (hs 8 (by omega))
  obtain ⟨z9, rfl, w9⟩ := one_int Try.underlying42 f9 (hs 9 (by omega))
  exact ⟨⟨z0, z1, z2, z3, z4, z5, z6, z7, z8, z9⟩, rfl, w0, w1, w2, w3, w4, w5, w6, w7, w8, w9⟩
/-- a struct that came in -/
theorem agg_open {S : Type} {cells : S → Array Value} {wf : S → Prop} {t : TypeId} {cs : Array Value} {x : DataW H × List MemPlace}
    (hl : ∀ {n : Nat} {l : List Value} {x : DataW H × List MemPlace}, DataW.trod enc Try.prog w base spare held n t l = some x → ∃ e : S, l = (cells e).toList ∧ wf e)
    (h : ∃ fuel, DataW.trod enc Try.prog w base spare held fuel t (Value.cells (.agg cs)).toList = some x) : ∃ e : S, cs = cells e ∧ wf e := by
  obtain ⟨fuel, hf⟩ := h
  obtain ⟨e, he, hw⟩ := hl hf
  exact ⟨e, by simpa [Value.cells] using he, hw⟩
end
end Go.Proofs.Ytnemggminanbbaa
