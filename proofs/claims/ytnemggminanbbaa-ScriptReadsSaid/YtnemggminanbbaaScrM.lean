import Derived.Test.YtnemggminanbbaaScrL
import Derived.Deep.Slices
import Derived.ChangeSame
import Derived.ProofKit
import Derived.OpenShut
namespace Go.Proofs.Ytnemggminanbbaa
set_option linter.unusedVariables false
set_option linter.unusedSimpArgs false
open Go.RowKit Go.Shelf Go.ChangeShapes Go.WideShapes Go.Deep

theorem six_of {l : List Value} (h : l.length = 6) : ∃ a b c d e f, l = [a, b, c, d, e, f] := by
  match l, h with
  | [a, b, c, d, e, f], _ => exact ⟨a, b, c, d, e, f, rfl⟩
theorem Try.cellsEnt : Try.prog.cellsOf 32 = 6 := by kernel_rfl
theorem Try.cellsCall : Try.prog.cellsOf 30 = 4 := by kernel_rfl
theorem Try.cellsInt : Try.prog.cellsOf 3 = 1 := by kernel_rfl
theorem Try.cellsU64 : Try.prog.cellsOf 28 = 1 := by kernel_rfl

section
variable {H : Type} {enc : TypeId × Value → H} {w : World} {base : Nat} {spare : Nat → Bool} {held : Bool}

theorem one_int {t : TypeId} {k : IntKind} {n : Nat} {c : Value} {x : Option (DataW H × List MemPlace)} (ht : Try.prog.underlying t = some (.int k)) (h : DataW.trod enc Try.prog w base spare held n t [c] = x) (hx : x.isSome = true) :
    ∃ z, c = .int k z ∧ (Lit.int k z).wf = true := by
  obtain ⟨y, hy⟩ := Option.isSome_iff_exists.1 hx
  obtain ⟨z, hz, _, hw⟩ := DataW.trod_int ht (h.trans hy)
  exact ⟨z, by simpa using hz, hw⟩

theorem ent_of_trod {n : Nat} {cs : List Value} {x : DataW H × List MemPlace} (h : DataW.trod enc Try.prog w base spare held n 32 cs = some x) : ∃ e : Ent, cs = e.cells ∧ e.wf := by
  obtain ⟨xs, n1, _, _, hl, hlen, hf⟩ := DataW.trod_struct Try.underlying32 h
  rw [Try.cellsEnt] at hl
  obtain ⟨c0, c1, c2, c3, c4, c5, rfl⟩ := six_of hl
  have hs : ∀ i, i < 3 → (xs[i]?).isSome = true := fun i hi => by rw [List.getElem?_eq_getElem (by rw [hlen]; exact hi)]; rfl
  have f0 : DataW.trod enc Try.prog w base spare held n1 3 (List.take (Try.prog.cellsOf 3) (List.drop 0 [c0, c1, c2, c3, c4, c5])) = xs[0]? := hf 0 _ rfl
  simp only [Try.cellsInt, List.drop_zero, List.drop_succ_cons, List.take_succ_cons, List.take_zero] at f0
  have f1 : DataW.trod enc Try.prog w base spare held n1 3 (List.take (Try.prog.cellsOf 3) (List.drop 1 [c0, c1, c2, c3, c4, c5])) = xs[1]? := hf 1 _ rfl
  simp only [Try.cellsInt, List.drop_zero, List.drop_succ_cons, List.take_succ_cons, List.take_zero] at f1
  have f2 : DataW.trod enc Try.prog w base spare held n1 30 (List.take (Try.prog.cellsOf 30) (List.drop 2 [c0, c1, c2, c3, c4, c5])) = xs[2]? := hf 2 _ rfl
  simp only [Try.cellsCall, List.drop_zero, List.drop_succ_cons, List.take_succ_cons, List.take_zero] at f2
  obtain ⟨k, rfl, _⟩ := one_int Try.underlying3 f0 (hs 0 (by omega))
  obtain ⟨m, rfl, _⟩ := one_int Try.underlying3 f1 (hs 1 (by omega))
  obtain ⟨y, hy⟩ := Option.isSome_iff_exists.1 (hs 2 (by omega))
  obtain ⟨ys, n2, _, _, hl2, hlen2, hg⟩ := DataW.trod_struct Try.underlying30 (f2.trans hy)
  have hs2 : ∀ i, i < 4 → (ys[i]?).isSome = true := fun i hi => by rw [List.getElem?_eq_getElem (by rw [hlen2]; exact hi)]; rfl
  have g0 : DataW.trod enc Try.prog w base spare held n2 3 (List.take (Try.prog.cellsOf 3) (List.drop 0 [c2, c3, c4, c5])) = ys[0]? := hg 0 _ rfl
  simp only [Try.cellsInt, List.drop_zero, List.drop_succ_cons, List.take_succ_cons, List.take_zero] at g0
  have g1 : DataW.trod enc Try.prog w base spare held n2 28 (List.take (Try.prog.cellsOf 28) (List.drop 1 [c2, c3, c4, c5])) = ys[1]? := hg 1 _ rfl
  simp only [Try.cellsU64, List.drop_zero, List.drop_succ_cons, List.take_succ_cons, List.take_zero] at g1
  have g2 : DataW.trod enc Try.prog w base spare held n2 28 (List.take (Try.prog.cellsOf 28) (List.drop 2 [c2, c3, c4, c5])) = ys[2]? := hg 2 _ rfl
  simp only [Try.cellsU64, List.drop_zero, List.drop_succ_cons, List.take_succ_cons, List.take_zero] at g2
  have g3 : DataW.trod enc Try.prog w base spare held n2 28 (List.take (Try.prog.cellsOf 28) (List.drop 3 [c2, c3, c4, c5])) = ys[3]? := hg 3 _ rfl
  simp only [Try.cellsU64, List.drop_zero, List.drop_succ_cons, List.take_succ_cons, List.take_zero] at g3
  obtain ⟨c, rfl, _⟩ := one_int Try.underlying3 g0 (hs2 0 (by omega))
  obtain ⟨i, rfl, wi⟩ := one_int Try.underlying28 g1 (hs2 1 (by omega))
  obtain ⟨d, rfl, wd⟩ := one_int Try.underlying28 g2 (hs2 2 (by omega))
  obtain ⟨p, rfl, wp⟩ := one_int Try.underlying28 g3 (hs2 3 (by omega))
  exact ⟨⟨k, m, c, i, d, p⟩, rfl, (bounds_u64 wi).1, (bounds_u64 wd).1, (bounds_u64 wp).1⟩

theorem choose_ents {q : Nat → Ent → Prop} (n : Nat) (h : ∀ i, i < n → ∃ e, q i e) : ∃ es : List Ent, es.length = n ∧ ∀ i, i < n → q i (es.getD i Ent.zero) := by
  induction n with
  | zero => exact ⟨[], rfl, fun i hi => by omega⟩
  | succ n ih =>
    obtain ⟨es, hl, hq⟩ := ih (fun i hi => h i (by omega))
    obtain ⟨e, he⟩ := h n (by omega)
    refine ⟨es ++ [e], by simp [hl], fun i hi => ?_⟩
    by_cases hin : i < n
    · rw [List.getD_eq_getElem?_getD, List.getElem?_append_left (by omega), ← List.getD_eq_getElem?_getD]; exact hq i hin
    · obtain rfl : i = n := by omega
      rw [List.getD_eq_getElem?_getD, List.getElem?_append_right (by omega), hl]
      simpa using he

/-- a slice of entries that came in -/
def IsEnts (w : World) (a : Option Addr) (len cap : Nat) (es : List Ent) : Prop := es.length = len ∧ EntsAt w a es ∧ (∀ e ∈ es, e.wf) ∧ len ≤ 9223372036854775807 ∧ (a = none → cap = 0)

theorem open_ents {fuel : Nat} {a : Option Addr} {len cap : Nat} {x : DataW H × List MemPlace} (h : DataW.trod enc Try.prog w base spare held fuel 26 (Value.cells (.slice a len cap)).toList = some x) : ∃ es, IsEnts w a len cap es := by
  rcases open_slice Try.underlying26 h with ⟨hcs, _⟩ | ⟨x, l, c, m, n, D, Pl, hcs, hb, hl, hm, hmm, _, hx⟩
  · simp [Value.cells] at hcs
    obtain ⟨rfl, rfl, rfl⟩ := hcs
    exact ⟨[], rfl, .inl rfl, fun e he => (by cases he), by omega, fun _ => rfl⟩
  · simp [Value.cells] at hcs
    obtain ⟨rfl, rfl, rfl⟩ := hcs
    have hlm : len ≤ m := by rw [hmm]; split <;> omega
    obtain ⟨es, hel, hq⟩ := choose_ents (q := fun i e => (∀ j, j < 6 → w.cell? (x.add (i * 6 + j)) = e.cells[j]?) ∧ e.wf) len (fun i hi => by
      obtain ⟨cs', h1, h2⟩ := hx i (by omega)
      rw [Try.cellsEnt] at h1
      obtain ⟨e, rfl, hw⟩ := ent_of_trod h2
      obtain ⟨_, _, hc⟩ := World.cells?_some h1
      exact ⟨e, fun j hj => by rw [← Go.Deep.add_add]; exact hc j hj, hw⟩)
    refine ⟨es, hel, ?_, fun e he => ?_, by unfold maxLen at hm; omega, fun h => (by cases h)⟩
    · by_cases h0 : len = 0
      · exact .inl (List.eq_nil_of_length_eq_zero (by omega))
      · obtain ⟨b, off, spot⟩ := x
        have hc0 := (hq 0 (by omega)).1 0 (by omega)
        have hspot : spot = none := by
          have := World.cell?_spot (show w.cell? ((⟨b, off, spot⟩ : Addr).add (0 * 6 + 0)) = some _ from hc0)
          simpa [Addr.add] using this
        subst hspot
        refine .inr ⟨b, off, rfl, ?_, fun j hj => ?_⟩
        · obtain ⟨o, ho, _⟩ := cells_of_cell (show w.cell? ((⟨b, off, none⟩ : Addr).add (0 * 6 + 0)) = some _ from hc0)
          rw [show ((⟨b, off, none⟩ : Addr).add (0 * 6 + 0)) = ⟨b, off + (0 * 6 + 0), none⟩ from add_plain _ _ _] at ho
          exact (Array.getElem?_eq_some_iff.1 ho).1
        · have h1 := (hq (j / 6) (by omega)).1 (j % 6) (by omega)
          rw [show ((⟨b, off, none⟩ : Addr).add (j / 6 * 6 + j % 6)) = ⟨b, off + (j / 6 * 6 + j % 6), none⟩ from add_plain _ _ _, show j / 6 * 6 + j % 6 = j by omega] at h1
          rw [h1, ← cellsOf_at es (j / 6) (j % 6) (by omega) (by omega), show j / 6 * 6 + j % 6 = j by omega]
    · obtain ⟨i, hi, rfl⟩ := List.getElem_of_mem he
      have := (hq i (by omega)).2
      rwa [List.getD_eq_getElem?_getD, List.getElem?_eq_getElem hi] at this
end
end Go.Proofs.Ytnemggminanbbaa
