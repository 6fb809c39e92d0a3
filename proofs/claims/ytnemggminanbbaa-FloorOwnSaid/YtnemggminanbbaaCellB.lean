import Derived.Test.YtnemggminanbbaaCellP
namespace Go.Proofs.Ytnemggminanbbaa
set_option linter.unusedVariables false
set_option linter.unusedSimpArgs false
open Go.RowKit

theorem loadB_does (b o : Nat) (T : TypeId) (C : Array Value) (n : Bool) (hc : cellAt C o (.bool n)) :
    Does Try.prog 67 #[.pointer (some ⟨b, o, none⟩)] [pt b T C] (CellPost b T C o (.bool n) (.bool n)) := by
  intro w hw
  obtain ⟨h0, l, t, u, h1, h2, h3⟩ := hc
  have T0 := Turned.refl hw
  have hb := T0.blk 0 rfl
  have c0 : w.cell? ⟨b, o, none⟩ = some (.bool n) := (blk_cell hb o).trans h0
  have c1 : w.cell? ⟨b, o + 1, none⟩ = some (.int .i64 l) := (blk_cell hb (o + 1)).trans h1
  have f1 := blk_free hb (o + 1)
  have T1 := Lib.hid T0
  have H := Lib.hid (And.intro h0 (And.intro h1 (And.intro h2 h3)))
  clear T0 hb hw h0 h1 h2 h3
  go_enter Try.func67, Try.ntmps67
  go_wp2
  go_ret
  obtain ⟨h0, h1, h2, h3⟩ := H.out
  exact ⟨_, ⟨rfl, _, rfl, recell_loads h0 h1 h2 h3⟩, T1.out.set (o + 1) _⟩

theorem swapB_does (b o : Nat) (T : TypeId) (C : Array Value) (n old new : Bool) (hc : cellAt C o (.bool n)) :
    Does Try.prog 50 #[.pointer (some ⟨b, o, none⟩), .bool old, .bool new] [pt b T C] (CellPost b T C o (.bool (if n = old then new else n)) (.bool (decide (n = old)))) := by
  intro w hw
  obtain ⟨h0, l, t, u, h1, h2, h3⟩ := hc
  have T0 := Turned.refl hw
  have hb := T0.blk 0 rfl
  have c0 : w.cell? ⟨b, o, none⟩ = some (.bool n) := (blk_cell hb o).trans h0
  have c2 : w.cell? ⟨b, o + 2, none⟩ = some (.int .i64 t) := (blk_cell hb (o + 2)).trans h2
  have c3 : w.cell? ⟨b, o + 3, none⟩ = some (.int .i64 u) := (blk_cell hb (o + 3)).trans h3
  have f0 := blk_free hb o
  have f2 := blk_free hb (o + 2)
  have f3 := blk_free hb (o + 3)
  have T1 := Lib.hid T0
  have H := Lib.hid (And.intro h0 (And.intro h1 (And.intro h2 h3)))
  clear T0 hb hw h0 h1 h2 h3
  by_cases he : n = old
  · subst he
    cases n
    all_goals
      go_enter Try.func50, Try.ntmps50
      go_wp2
      go_ret
      obtain ⟨h0, h1, h2, h3⟩ := H.out
      exact ⟨_, ⟨by simp, _, rfl, recell_swap h0 h1 h2 h3⟩, ((T1.out.set (o + 2) _).set o _).set (o + 3) _⟩
  · cases n <;> cases old <;> first | exact absurd rfl he | skip
    all_goals
      go_enter Try.func50, Try.ntmps50
      go_wp2
      go_ret
      obtain ⟨h0, h1, h2, h3⟩ := H.out
      exact ⟨_, ⟨by simp [he], _, rfl, recell_tries h0 h1 h2 h3⟩, T1.out.set (o + 2) _⟩

end Go.Proofs.Ytnemggminanbbaa
