import Derived.Test.YtnemggminanbbaaFloorActs
import Derived.Test.YtnemggminanbbaaFloorS
namespace Go.Proofs.Ytnemggminanbbaa
set_option linter.unusedVariables false
set_option linter.unusedSimpArgs false
open Go.RowKit Go.Shelf Go.ChangeShapes Go.WideShapes Go.Deep

/-! ## A slice of acts that came in -/
section
variable {H : Type} {enc : TypeId × Value → H} {w : World} {base : Nat} {spare : Nat → Bool} {held : Bool}
theorem twelve_of {l : List Value} (h : l.length = 12) : ∃ a b t, l = a :: b :: t ∧ t.length = 10 := by
  match l, h with
  | a :: b :: t, h => exact ⟨a, b, t, rfl, by simpa using h⟩
theorem act_of_trod {n : Nat} {cs : List Value} {x : DataW H × List MemPlace} (h : DataW.trod enc Try.prog w base spare held n 51 cs = some x) : ∃ e : ActF, cs = e.cells.toList := by
  obtain ⟨xs, n1, _, _, hl, hlen, hf⟩ := DataW.trod_struct Try.underlying51 h
  rw [show Try.prog.cellsOf 51 = 12 from by kernel_rfl] at hl
  obtain ⟨c0, c1, t, rfl, ht⟩ := twelve_of hl
  have hs : ∀ i, i < 3 → (xs[i]?).isSome = true := fun i hi => by rw [List.getElem?_eq_getElem (by rw [hlen]; exact hi)]; rfl
  have f0 : DataW.trod enc Try.prog w base spare held n1 3 (List.take (Try.prog.cellsOf 3) (List.drop 0 (c0 :: c1 :: t))) = xs[0]? := hf 0 _ rfl
  simp only [show Try.prog.cellsOf 3 = 1 from by kernel_rfl, List.drop_zero, List.drop_succ_cons, List.take_succ_cons, List.take_zero] at f0
  have f1 : DataW.trod enc Try.prog w base spare held n1 4 (List.take (Try.prog.cellsOf 4) (List.drop 1 (c0 :: c1 :: t))) = xs[1]? := hf 1 _ rfl
  simp only [show Try.prog.cellsOf 4 = 1 from by kernel_rfl, List.drop_zero, List.drop_succ_cons, List.take_succ_cons, List.take_zero] at f1
  have f2 : DataW.trod enc Try.prog w base spare held n1 49 (List.take (Try.prog.cellsOf 49) (List.drop 2 (c0 :: c1 :: t))) = xs[2]? := hf 2 _ rfl
  rw [show Try.prog.cellsOf 49 = 10 from by kernel_rfl, List.drop_succ_cons, List.drop_succ_cons, List.drop_zero, List.take_of_length_le (by omega)] at f2
  obtain ⟨z0, rfl, _⟩ := one_int Try.underlying3 f0 (hs 0 (by omega))
  obtain ⟨y1, hy1⟩ := Option.isSome_iff_exists.1 (hs 1 (by omega))
  obtain ⟨z1, hz1, _⟩ := DataW.trod_bool Try.underlying4 (f1.trans hy1)
  obtain ⟨y2, hy2⟩ := Option.isSome_iff_exists.1 (hs 2 (by omega))
  obtain ⟨e, rfl, _⟩ := ev_of_trod (f2.trans hy2)
  cases hz1
  exact ⟨⟨z0, z1, e⟩, rfl⟩
theorem choose_list {α : Type} (z : α) {q : Nat → α → Prop} (n : Nat) (h : ∀ i, i < n → ∃ e, q i e) : ∃ es : List α, es.length = n ∧ ∀ i, i < n → q i (es.getD i z) := by
  induction n with
  | zero => exact ⟨[], rfl, fun i hi => by omega⟩
  | succ n ih =>
    obtain ⟨es, hl, hq⟩ := ih (fun i hi => h i (by omega))
    obtain ⟨e, he⟩ := h n (by omega)
    refine ⟨es ++ [e], by simp [hl], fun i hi => ?_⟩
    by_cases hin : i < n
    · rw [List.getD_eq_getElem?_getD, List.getElem?_append_left (by omega), ← List.getD_eq_getElem?_getD]; exact hq i hin
    · obtain rfl : i = n := by omega
      rw [List.getD_eq_getElem?_getD, List.getElem?_append_right (by omega), hl]
      simpa using he
/-- a slice of structs of so many cells that came in -/
theorem open_structs {α : Type} (z : α) (cells : α → List Value) (sz : Nat) {T E : TypeId} (hT : Try.prog.underlying T = some (.slice E)) (hsz : Try.prog.cellsOf E = sz) (hpos : 0 < sz)
    (hl : ∀ {n : Nat} {cs : List Value} {x : DataW H × List MemPlace}, DataW.trod enc Try.prog w base spare held n E cs = some x → ∃ e : α, cs = cells e) (hc : ∀ e, (cells e).length = sz)
    {fuel : Nat} {a : Option Addr} {len cap : Nat} {x : DataW H × List MemPlace} (h : DataW.trod enc Try.prog w base spare held fuel T (Value.cells (.slice a len cap)).toList = some x) :
    ∃ es : List α, es.length = len ∧ len ≤ 9223372036854775807 ∧ (es = [] ∨ ∃ b off, a = some ⟨b, off, none⟩ ∧ b < w.heap.size ∧ ∀ i j, i < es.length → j < sz → w.cell? ⟨b, off + (i * sz + j), none⟩ = (cells (es.getD i z))[j]?) := by
  rcases open_slice hT h with ⟨hcs, _⟩ | ⟨x, l, c, m, n, D, Pl, hcs, hb, hl', hm, hmm, _, hx⟩
  · simp [Value.cells] at hcs
    obtain ⟨rfl, rfl, rfl⟩ := hcs
    exact ⟨[], rfl, by omega, .inl rfl⟩
  · simp [Value.cells] at hcs
    obtain ⟨rfl, rfl, rfl⟩ := hcs
    have hlm : len ≤ m := by rw [hmm]; split <;> omega
    obtain ⟨es, hel, hq⟩ := choose_list z (q := fun i e => (∀ j, j < sz → w.cell? (x.add (i * sz + j)) = (cells e)[j]?)) len (fun i hi => by
      obtain ⟨cs', h1, h2⟩ := hx i (by omega)
      rw [hsz] at h1
      obtain ⟨e, rfl⟩ := hl h2
      obtain ⟨_, _, hc'⟩ := World.cells?_some h1
      exact ⟨e, fun j hj => by rw [← Go.Deep.add_add]; exact hc' j hj⟩)
    refine ⟨es, hel, by unfold maxLen at hm; omega, ?_⟩
    by_cases h0 : len = 0
    · exact .inl (List.eq_nil_of_length_eq_zero (by omega))
    · obtain ⟨b, off, spot⟩ := x
      obtain ⟨v0, hv0⟩ : ∃ v, (cells (es.getD 0 z))[0]? = some v := ⟨_, List.getElem?_eq_getElem (by rw [hc]; exact hpos)⟩
      have hc0 := (hq 0 (by omega) 0 hpos).trans hv0
      have hspot : spot = none := by
        have := World.cell?_spot hc0
        simpa [Addr.add] using this
      subst hspot
      refine .inr ⟨b, off, rfl, ?_, fun i j hi hj => ?_⟩
      · obtain ⟨o, ho, _⟩ := cells_of_cell hc0
        rw [show ((⟨b, off, none⟩ : Addr).add (0 * sz + 0)) = ⟨b, off + (0 * sz + 0), none⟩ from add_plain _ _ _] at ho
        exact (Array.getElem?_eq_some_iff.1 ho).1
      · have h1 := hq i (by omega) j hj
        rwa [show ((⟨b, off, none⟩ : Addr).add (i * sz + j)) = ⟨b, off + (i * sz + j), none⟩ from add_plain _ _ _] at h1
abbrev ActL := List ActF
def IsActs (w : World) (a : Option Addr) (len cap : Nat) (es : ActL) : Prop := es.length = len ∧ len ≤ 9223372036854775807 ∧ ActsAt w a es
theorem open_acts {fuel : Nat} {a : Option Addr} {len cap : Nat} {x : DataW H × List MemPlace} (h : DataW.trod enc Try.prog w base spare held fuel 40 (Value.cells (.slice a len cap)).toList = some x) : ∃ es, IsActs w a len cap es := by
  obtain ⟨es, h1, h2, h3⟩ := open_structs ActF.zero (fun e : ActF => e.cells.toList) 12 Try.underlying40 (by kernel_rfl) (by decide) act_of_trod (fun _ => rfl) h
  refine ⟨es, h1, h2, h3.imp id ?_⟩
  rintro ⟨b, off, e1, e2, e3⟩
  exact ⟨b, off, e1, e2, fun i j hi hj => (e3 i j hi hj).trans (by rw [Array.getElem?_toList])⟩
end
end Go.Proofs.Ytnemggminanbbaa
