import Derived.Test.YtnemggminanbbaaWordA
import Derived.Test.YtnemggminanbbaaHas
namespace Go.Proofs.Ytnemggminanbbaa
set_option linter.unusedVariables false
set_option linter.unusedSimpArgs false
open Go.RowKit

/-- at a place among some cells lies a Cell that holds a value; its counts are some numbers -/
def cellAt (C : Array Value) (o : Nat) (v : Value) : Prop :=
  C[o]? = some v ∧ ∃ l t u : Int, C[o + 1]? = some (.int .i64 l) ∧ C[o + 2]? = some (.int .i64 t) ∧ C[o + 3]? = some (.int .i64 u)
/-- that Cell alone has turned: it holds v -/
structure Recell (C : Array Value) (o : Nat) (v : Value) (C' : Array Value) : Prop where
  size : C'.size = C.size
  other : ∀ i, (i < o ∨ o + 4 ≤ i) → C'[i]? = C[i]?
  cell : cellAt C' o v
/-- what a method of a Cell hands back, and leaves -/
def CellPost (b : Nat) (T : TypeId) (C : Array Value) (o : Nat) (v r : Value) (e : Ending) (h' : PH) : Prop :=
  e = .returned r ∧ ∃ C', h' = [pt b T C'] ∧ Recell C o v C'

theorem Recell.trans {A B C : Array Value} {o : Nat} {u v : Value} (h : Recell A o u B) (k : Recell B o v C) : Recell A o v C :=
  ⟨k.size.trans h.size, fun i hi => (k.other i hi).trans (h.other i hi), k.cell⟩
theorem set_get {C : Array Value} {i j : Nat} {v : Value} : (C.setIfInBounds i v)[j]? = if i = j then (if i < C.size then some v else none) else C[j]? := by
  rw [Array.getElem?_setIfInBounds]
theorem lt_of_some {C : Array Value} {i : Nat} {v : Value} (h : C[i]? = some v) : i < C.size := (Array.getElem?_eq_some_iff.1 h).1
theorem get_set_ne {C : Array Value} {i j : Nat} {v : Value} (h : i ≠ j) : (C.setIfInBounds i v)[j]? = C[j]? := by rw [set_get, if_neg h]
theorem get_set_eq {C : Array Value} {i : Nat} {u v : Value} (h : C[i]? = some u) : (C.setIfInBounds i v)[i]? = some v := by rw [set_get, if_pos rfl, if_pos (lt_of_some h)]
section
variable {C : Array Value} {o : Nat} {v v' : Value} {l t u : Int}
theorem Recell.refl (h : cellAt C o v) : Recell C o v C := ⟨rfl, fun _ _ => rfl, h⟩
theorem recell_loads (h0 : C[o]? = some v) (h1 : C[o + 1]? = some (.int .i64 l)) (h2 : C[o + 2]? = some (.int .i64 t)) (h3 : C[o + 3]? = some (.int .i64 u)) {x : Int} :
    Recell C o v (C.setIfInBounds (o + 1) (.int .i64 x)) :=
  ⟨by simp, fun i hi => get_set_ne (by omega), (get_set_ne (by omega)).trans h0, x, t, u, get_set_eq h1, (get_set_ne (by omega)).trans h2, (get_set_ne (by omega)).trans h3⟩
theorem recell_tries (h0 : C[o]? = some v) (h1 : C[o + 1]? = some (.int .i64 l)) (h2 : C[o + 2]? = some (.int .i64 t)) (h3 : C[o + 3]? = some (.int .i64 u)) {x : Int} :
    Recell C o v (C.setIfInBounds (o + 2) (.int .i64 x)) :=
  ⟨by simp, fun i hi => get_set_ne (by omega), (get_set_ne (by omega)).trans h0, l, x, u, (get_set_ne (by omega)).trans h1, get_set_eq h2, (get_set_ne (by omega)).trans h3⟩
theorem recell_turned (h0 : C[o]? = some v) (h1 : C[o + 1]? = some (.int .i64 l)) (h2 : C[o + 2]? = some (.int .i64 t)) (h3 : C[o + 3]? = some (.int .i64 u)) {x : Int} :
    Recell C o v (C.setIfInBounds (o + 3) (.int .i64 x)) :=
  ⟨by simp, fun i hi => get_set_ne (by omega), (get_set_ne (by omega)).trans h0, l, t, x, (get_set_ne (by omega)).trans h1, (get_set_ne (by omega)).trans h2, get_set_eq h3⟩
theorem recell_value (hc : cellAt C o v) : Recell C o v' (C.setIfInBounds o v') := by
  obtain ⟨h0, l, t, u, h1, h2, h3⟩ := hc
  exact ⟨by simp, fun i hi => get_set_ne (by omega), get_set_eq h0, l, t, u, (get_set_ne (by omega)).trans h1, (get_set_ne (by omega)).trans h2, (get_set_ne (by omega)).trans h3⟩
theorem Recell.turned {A : Array Value} (h : Recell A o v C) {x : Int} : Recell A o v (C.setIfInBounds (o + 3) (.int .i64 x)) := by
  obtain ⟨h0, l, t, u, h1, h2, h3⟩ := h.cell
  exact h.trans (recell_turned h0 h1 h2 h3)
theorem recell_swap (h0 : C[o]? = some v) (h1 : C[o + 1]? = some (.int .i64 l)) (h2 : C[o + 2]? = some (.int .i64 t)) (h3 : C[o + 3]? = some (.int .i64 u)) {x y : Int} :
    Recell C o v' (((C.setIfInBounds (o + 2) (.int .i64 x)).setIfInBounds o v').setIfInBounds (o + 3) (.int .i64 y)) :=
  ((recell_tries h0 h1 h2 h3).trans (recell_value (recell_tries h0 h1 h2 h3).cell)).turned
theorem Recell.cellOther {C' : Array Value} (h : Recell C o v C') {o' : Nat} {x : Value} (hc : cellAt C o' x) (hd : o' + 4 ≤ o ∨ o + 4 ≤ o') : cellAt C' o' x := by
  obtain ⟨h0, l, t, u, h1, h2, h3⟩ := hc
  exact ⟨(h.other _ (by omega)).trans h0, l, t, u, (h.other _ (by omega)).trans h1, (h.other _ (by omega)).trans h2, (h.other _ (by omega)).trans h3⟩
end
end Go.Proofs.Ytnemggminanbbaa
