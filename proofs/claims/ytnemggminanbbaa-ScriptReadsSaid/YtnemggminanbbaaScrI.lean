import Derived.Test.YtnemggminanbbaaScrH
import Derived.BigQuiet
namespace Go.Proofs.Ytnemggminanbbaa
set_option linter.unusedVariables false
set_option linter.unusedSimpArgs false
open Go.RowKit Go.Shelf

theorem six_append_left {A B : List Int} {m k : Nat} (hA : A.length = 6 * m) (hk : k < m) : six (A ++ B) k = six A k := by
  unfold six
  rw [List.drop_append_of_le_length (by omega), List.take_append_of_le_length (by rw [List.length_drop]; omega)]
theorem six_append_right {A B : List Int} {m k : Nat} (hA : A.length = 6 * m) : six (A ++ B) (m + k) = six B k := by
  unfold six
  rw [show 6 * (m + k) = A.length + 6 * k by omega, List.drop_append, List.drop_eq_nil_of_le (by omega)]
  simp
theorem entsK_append {A B : List Int} {m n : Nat} (hA : A.length = 6 * m) : entsK (A ++ B) (m + n) = entsK A m ++ entsK B n := by
  unfold entsK
  rw [List.range_add, List.map_append, List.map_map]
  congr 1
  · refine List.map_congr_left (fun k hk => ?_)
    rw [six_append_left hA (List.mem_range.1 hk)]
  · refine List.map_congr_left (fun k hk => ?_)
    simp only [Function.comp]
    rw [six_append_right hA]
theorem chunkN_mul (m : Nat) : chunkN (6 * m) = m := by unfold chunkN; omega
theorem chunkN_add (m n : Nat) : chunkN (6 * m + n) = m + chunkN n := by unfold chunkN; omega

theorem cellsOf_at (l : List Ent) (i j : Nat) (hi : i < l.length) (hj : j < 6) : (cellsOf l)[i * 6 + j]? = (l.getD i Ent.zero).cells[j]? := by
  induction l generalizing i with
  | nil => simp at hi
  | cons e l ih =>
    have hc : cellsOf (e :: l) = e.cells ++ cellsOf l := by simp [cellsOf]
    have he : e.cells.length = 6 := rfl
    rw [hc]
    cases i with
    | zero =>
      rw [show 0 * 6 + j = j by omega, List.getElem?_append_left (by omega)]
      rfl
    | succ i =>
      rw [List.getElem?_append_right (by omega), show (i + 1) * 6 + j - e.cells.length = i * 6 + j by omega, ih i (by simpa using hi)]
      rfl

/-- the cells of entry i, each alone, in the walk's form -/
theorem ent_cells {w : World} {g n : Nat} {l : List Ent} (h : ∀ j, j < n * 6 → w.cell? ⟨g, j, none⟩ = (cellsOf l)[j]?) (hn : l.length = n) (i : Nat) (hi : i < n) :
    w.cell? ⟨g, i * 6, none⟩ = some (.int .i64 (l.getD i Ent.zero).k) ∧ w.cell? ⟨g, i * 6 + 1, none⟩ = some (.int .i64 (l.getD i Ent.zero).n) ∧ w.cell? ⟨g, i * 6 + 2, none⟩ = some (.int .i64 (l.getD i Ent.zero).c) ∧
    w.cell? ⟨g, i * 6 + 3, none⟩ = some (.int .u64 (l.getD i Ent.zero).i) ∧ w.cell? ⟨g, i * 6 + 4, none⟩ = some (.int .u64 (l.getD i Ent.zero).d) ∧ w.cell? ⟨g, i * 6 + 5, none⟩ = some (.int .u64 (l.getD i Ent.zero).p) := by
  subst hn
  have hh := fun j (hj : j < 6) => (h (i * 6 + j) (by omega)).trans (cellsOf_at l i j hi hj)
  exact ⟨hh 0 (by omega), hh 1 (by omega), hh 2 (by omega), hh 3 (by omega), hh 4 (by omega), hh 5 (by omega)⟩

/-- a slice of bytes that came in, of any capacity -/
structure InU8 (w : World) (a : Option Addr) (cap : Nat) (zs : List Int) : Prop where
  bytes : Bytes w a zs
  le : zs.length ≤ cap
  max : cap ≤ 9223372036854775807
  nil : a = none → cap = 0
theorem InU8.src {w : World} {a : Option Addr} {cap n : Nat} {zs : List Int} (h : InU8 w a cap zs) (hn : zs.length = n) {w' : World} (hg : Grew w w') :
    (a = none ∧ n = 0 ∧ cap = 0) ∨ ∃ ad, a = some ad ∧ ∀ j u, (zs.map (Value.int .u8))[j]? = some u → w'.cell? (ad.add j) = some u := by
  cases a with
  | none => exact .inl ⟨rfl, by have := h.nil rfl; have := h.le; omega, h.nil rfl⟩
  | some ad =>
    refine .inr ⟨ad, rfl, fun j u hu => ?_⟩
    rcases (h.bytes.grew hg).2 with rfl | ⟨b, off, he, hb, hc⟩
    · simp at hu
    · cases he
      have hj : j < zs.length := by
        rcases Nat.lt_or_ge j zs.length with hj | hj
        · exact hj
        · rw [List.getElem?_eq_none (by simpa using hj)] at hu; cases hu
      rw [show (⟨b, off, none⟩ : Addr).add j = ⟨b, off + j, none⟩ from Go.WideShapes.add_plain _ _ _, hc j hj]
      rw [List.getElem?_map, List.getElem?_eq_getElem hj] at hu
      rw [List.getD_eq_getElem?_getD, List.getElem?_eq_getElem hj]
      simpa using hu

theorem row_bytes {w : World} {base : Nat} {e : TypeId} {v : Value} {n : Nat} {zs : List Int} (h : w.ownsRow base e 1 v n (zs.map (Value.int .u8))) (hz : ∀ x ∈ zs, 0 ≤ x ∧ x ≤ 255) :
    ∃ a cap, v = .slice a n cap ∧ zs.length = n ∧ InU8 w a cap zs := by
  have hl : zs.length = n := by have := h.1; simpa using this
  have h' := h
  rcases h.2 with ⟨rfl, rfl⟩ | ⟨g, cap, cur, rfl, h1, h2, h3, h4, h5, h6⟩
  · exact ⟨none, 0, rfl, hl, ⟨⟨hz, .inl (List.eq_nil_of_length_eq_zero hl)⟩, by omega, by omega, fun _ => rfl⟩⟩
  · refine ⟨some ⟨g, 0, none⟩, cap, rfl, hl, ⟨⟨hz, .inr ⟨g, 0, rfl, (Array.getElem?_eq_some_iff.1 h2).1, fun i hi => ?_⟩⟩, by omega, h4, fun x => by cases x⟩⟩
    have := h'.cellAt i (by omega)
    rw [Nat.zero_add, this, List.getElem?_map, List.getElem?_eq_getElem hi, List.getD_eq_getElem?_getD, List.getElem?_eq_getElem hi]
    rfl

theorem row_only' {S : Nat → Prop} {w w' : World} {base : Nat} {e : TypeId} {size : Nat} {v : Value} {n : Nat} {xs : List Value} (h : w.ownsRow base e size v n xs) (ho : Only S w w') (hn : ∀ g, base ≤ g → g < w.heap.size → ¬ S g) : w'.ownsRow base e size v n xs := by
  refine ⟨h.1, h.2.imp id ?_⟩
  rintro ⟨g, cap, cur, h1, h2, h3, h4⟩
  exact ⟨g, cap, cur, h1, h2, ho.blk h3 (hn g h2 (Array.getElem?_eq_some_iff.1 h3).1), h4⟩
theorem row_slice {w : World} {base : Nat} {e : TypeId} {size : Nat} {v : Value} {n : Nat} {xs : List Value} (h : w.ownsRow base e size v n xs) :
    ∃ a cap, v = .slice a n cap ∧ (0 < n → ∃ g, a = some ⟨g, 0, none⟩ ∧ base ≤ g ∧ g < w.heap.size ∧ ∀ j, j < n * size → w.cell? ⟨g, j, none⟩ = xs[j]?) := by
  have h' := h
  rcases h.2 with ⟨rfl, rfl⟩ | ⟨g, cap, cur, rfl, h1, h2, h3⟩
  · exact ⟨none, 0, rfl, fun x => by omega⟩
  · exact ⟨_, cap, rfl, fun _ => ⟨g, rfl, h1, (Array.getElem?_eq_some_iff.1 h2).1, fun j hj => h'.cellAt j hj⟩⟩

end Go.Proofs.Ytnemggminanbbaa
