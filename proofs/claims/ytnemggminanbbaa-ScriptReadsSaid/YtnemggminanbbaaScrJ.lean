import Derived.Test.YtnemggminanbbaaScrI
namespace Go.Proofs.Ytnemggminanbbaa
set_option linter.unusedVariables false
set_option linter.unusedSimpArgs false
open Go.RowKit Go.Shelf

/-- a slice of entries: where there is one, its cells -/
def EntsAt (w : World) (a : Option Addr) (es : List Ent) : Prop :=
  es = [] ∨ ∃ g off, a = some ⟨g, off, none⟩ ∧ g < w.heap.size ∧ ∀ j, j < es.length * 6 → w.cell? ⟨g, off + j, none⟩ = (cellsOf es)[j]?
theorem EntsAt.grew {w w' : World} {a : Option Addr} {es : List Ent} (h : EntsAt w a es) (hg : Grew w w') : EntsAt w' a es := by
  refine h.imp id ?_
  rintro ⟨g, off, h1, h2, h3⟩
  exact ⟨g, off, h1, Nat.lt_of_lt_of_le h2 hg.size, fun j hj => (hg.facts.1 g (off + j) h2).trans (h3 j hj)⟩
theorem EntsAt.of_row {w : World} {base : Nat} {e : TypeId} {v : Value} {n : Nat} {es : List Ent} (h : w.ownsRow base e 6 v n (cellsOf es)) : ∃ a cap, v = .slice a n cap ∧ es.length = n ∧ EntsAt w a es := by
  have hl : es.length = n := by have := h.1; rw [cellsOf_length] at this; omega
  obtain ⟨a, cap, rfl, hc⟩ := row_slice h
  refine ⟨a, cap, rfl, hl, ?_⟩
  by_cases h0 : 0 < n
  · obtain ⟨g, rfl, _, hg, hx⟩ := hc h0
    exact .inr ⟨g, 0, rfl, hg, fun j hj => by rw [Nat.zero_add]; exact hx j (by omega)⟩
  · exact .inl (List.eq_nil_of_length_eq_zero (by omega))
/-- the cells of entry i, each alone -/
theorem EntsAt.cells {w : World} {a : Option Addr} {es : List Ent} (h : EntsAt w a es) {i : Nat} (hi : i < es.length) : ∃ g off, a = some ⟨g, off, none⟩ ∧ g < w.heap.size ∧
    (w.cell? ⟨g, off + i * 6, none⟩ = some (.int .i64 (es.getD i Ent.zero).k) ∧ w.cell? ⟨g, off + i * 6 + 1, none⟩ = some (.int .i64 (es.getD i Ent.zero).n) ∧ w.cell? ⟨g, off + i * 6 + 2, none⟩ = some (.int .i64 (es.getD i Ent.zero).c) ∧
    w.cell? ⟨g, off + i * 6 + 3, none⟩ = some (.int .u64 (es.getD i Ent.zero).i) ∧ w.cell? ⟨g, off + i * 6 + 4, none⟩ = some (.int .u64 (es.getD i Ent.zero).d) ∧ w.cell? ⟨g, off + i * 6 + 5, none⟩ = some (.int .u64 (es.getD i Ent.zero).p)) := by
  rcases h with rfl | ⟨g, off, h1, h2, h3⟩
  · simp at hi
  · have hh := fun j (hj : j < 6) => (h3 (i * 6 + j) (by omega)).trans (cellsOf_at es i j hi hj)
    simp only [← Nat.add_assoc] at hh
    exact ⟨g, off, h1, h2, hh 0 (by omega), hh 1 (by omega), hh 2 (by omega), hh 3 (by omega), hh 4 (by omega), hh 5 (by omega)⟩

def bytesOf (l : List Ent) : List Int := l.flatMap Ent.bytes
theorem bytesOf_length (l : List Ent) : (bytesOf l).length = 6 * l.length := by
  induction l with
  | nil => rfl
  | cons e l ih => simp only [bytesOf, List.flatMap_cons, List.length_append, List.length_cons] at ih ⊢; rw [ih, Ent.bytes_length]; omega
theorem bytesOf_snoc (l : List Ent) (e : Ent) : bytesOf (l ++ [e]) = bytesOf l ++ e.bytes := by simp [bytesOf]
theorem bytesOf_range (l : List Ent) : ∀ x ∈ bytesOf l, 0 ≤ x ∧ x ≤ 255 := by
  intro x hx
  obtain ⟨e, _, h⟩ := List.mem_flatMap.1 hx
  exact e.bytes_range x h
theorem take_snocE (l : List Ent) (k : Nat) (h : k < l.length) : l.take (k + 1) = l.take k ++ [l.getD k Ent.zero] := by
  rw [List.take_succ_eq_append_getElem h, List.getD_eq_getElem?_getD, List.getElem?_eq_getElem h]; rfl

/-- what Encode hands back -/
def EncPost (w : World) (es : List Ent) (e : Ending) (w' : World) : Prop :=
  Grew w w' ∧ ((es.all Ent.ok = true ∧ ∃ v, e = .returned (.tuple #[v, .int .i64 0]) ∧ w'.ownsRow w.heap.size 5 1 v (6 * es.length) ((bytesOf es).map (Value.int .u8))) ∨
    (es.all Ent.ok = false ∧ e = .returned (.tuple #[.slice none 0 0, .int .i64 5])))

theorem six_new {w : World} {B : Nat} {T : TypeId} {c0 c1 c2 c3 c4 c5 : Value} (h : w.heap[B]? = some (.cells #[c0, c1, c2, c3, c4, c5] T (0, 0))) :
    w.cell? ⟨B, 0, none⟩ = some c0 ∧ w.cell? ⟨B, 1, none⟩ = some c1 ∧ w.cell? ⟨B, 2, none⟩ = some c2 ∧ w.cell? ⟨B, 3, none⟩ = some c3 ∧ w.cell? ⟨B, 4, none⟩ = some c4 ∧ w.cell? ⟨B, 5, none⟩ = some c5 := by
  have hk := blk_cell h
  exact ⟨hk 0, hk 1, hk 2, hk 3, hk 4, hk 5⟩
theorem ret32 {fn : Func} {tmps : Array Value} {W : World} {B : Nat} {p : Tmp} {v0 v1 v2 v3 v4 v5 : Value} (hres : fn.results = #[.cell p 32]) (hp : tmps.getD p undef = .pointer (some ⟨B, 0, none⟩))
    (h : W.cell? ⟨B, 0, none⟩ = some v0 ∧ W.cell? ⟨B, 1, none⟩ = some v1 ∧ W.cell? ⟨B, 2, none⟩ = some v2 ∧ W.cell? ⟨B, 3, none⟩ = some v3 ∧ W.cell? ⟨B, 4, none⟩ = some v4 ∧ W.cell? ⟨B, 5, none⟩ = some v5) :
    (results fn tmps).run Try.prog W = .ok (.agg #[v0, v1, v2, v3, v4, v5]) W := by
  obtain ⟨h0, h1, h2, h3, h4, h5⟩ := h
  have hp' : tmps[p]?.getD undef = .pointer (some ⟨B, 0, none⟩) := by simpa using hp
  simp only [results, hres]
  simp [hp', go_sem, h0, h1, h2, h3, h4, h5]

set_option maxHeartbeats 1000000 in
theorem plain_calls (e1 e2 e3 e4 e5 e6 : Int) (w : World) : Calls Try.prog 8 #[.agg #[.int .i64 e1, .int .i64 e2, .int .i64 e3, .int .u64 e4, .int .u64 e5, .int .u64 e6]] w (RetEnt ⟨e1, e2, e3, e4, e5, e6⟩ w) := by
  go_enter Try.func8, Try.ntmps8
  go_wp2
  exact bodyPost_ret (v := Ent.val ⟨e1, e2, e3, e4, e5, e6⟩) (ret32 rfl rfl (six_new (alloc_new _ (by simp)))) rfl ⟨rfl, ((Only.refl _ _).alloc _).alloc _⟩
end Go.Proofs.Ytnemggminanbbaa
