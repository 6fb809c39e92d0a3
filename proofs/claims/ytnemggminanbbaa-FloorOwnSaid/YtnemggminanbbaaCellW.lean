import Derived.Test.YtnemggminanbbaaCellP
namespace Go.Proofs.Ytnemggminanbbaa
set_option linter.unusedVariables false
set_option linter.unusedSimpArgs false
open Go.RowKit

theorem loadW_does (b o : Nat) (T : TypeId) (C : Array Value) (n : Int) (hc : cellAt C o (.int .u64 n)) :
    Does Try.prog 89 #[.pointer (some ⟨b, o, none⟩)] [pt b T C] (CellPost b T C o (.int .u64 n) (.int .u64 n)) := by
  intro w hw
  obtain ⟨h0, l, t, u, h1, h2, h3⟩ := hc
  have T0 := Turned.refl hw
  have hb := T0.blk 0 rfl
  have c0 : w.cell? ⟨b, o, none⟩ = some (.int .u64 n) := (blk_cell hb o).trans h0
  have c1 : w.cell? ⟨b, o + 1, none⟩ = some (.int .i64 l) := (blk_cell hb (o + 1)).trans h1
  have f1 := blk_free hb (o + 1)
  have T1 := Lib.hid T0
  have H := Lib.hid (And.intro h0 (And.intro h1 (And.intro h2 h3)))
  clear T0 hb hw h0 h1 h2 h3
  go_enter Try.func89, Try.ntmps89
  go_wp2
  go_ret
  obtain ⟨h0, h1, h2, h3⟩ := H.out
  exact ⟨_, ⟨rfl, _, rfl, recell_loads h0 h1 h2 h3⟩, T1.out.set (o + 1) _⟩

theorem swapW_does (b o : Nat) (T : TypeId) (C : Array Value) (n old new : Int) (hc : cellAt C o (.int .u64 n)) :
    Does Try.prog 90 #[.pointer (some ⟨b, o, none⟩), .int .u64 old, .int .u64 new] [pt b T C] (CellPost b T C o (.int .u64 (if n = old then new else n)) (.bool (decide (n = old)))) := by
  intro w hw
  obtain ⟨h0, l, t, u, h1, h2, h3⟩ := hc
  have T0 := Turned.refl hw
  have hb := T0.blk 0 rfl
  have c0 : w.cell? ⟨b, o, none⟩ = some (.int .u64 n) := (blk_cell hb o).trans h0
  have c2 : w.cell? ⟨b, o + 2, none⟩ = some (.int .i64 t) := (blk_cell hb (o + 2)).trans h2
  have c3 : w.cell? ⟨b, o + 3, none⟩ = some (.int .i64 u) := (blk_cell hb (o + 3)).trans h3
  have f0 := blk_free hb o
  have f2 := blk_free hb (o + 2)
  have f3 := blk_free hb (o + 3)
  have T1 := Lib.hid T0
  have H := Lib.hid (And.intro h0 (And.intro h1 (And.intro h2 h3)))
  clear T0 hb hw h0 h1 h2 h3
  by_cases he : n = old
  · subst he
    skip
    all_goals
      go_enter Try.func90, Try.ntmps90
      go_wp2
      go_ret
      obtain ⟨h0, h1, h2, h3⟩ := H.out
      exact ⟨_, ⟨by simp, _, rfl, recell_swap h0 h1 h2 h3⟩, ((T1.out.set (o + 2) _).set o _).set (o + 3) _⟩
  · skip
    all_goals
      go_enter Try.func90, Try.ntmps90
      go_wp2
      go_ret
      obtain ⟨h0, h1, h2, h3⟩ := H.out
      exact ⟨_, ⟨by simp [he], _, rfl, recell_tries h0 h1 h2 h3⟩, T1.out.set (o + 2) _⟩

theorem turnW_does (b o : Nat) (T : TypeId) (C : Array Value) (n v : Int) (ok : Bool) (g : Nat) (caps : Array Value) (F : PH) (hc : cellAt C o (.int .u64 n))
    (eg : ∀ args w, (callFunc g args).run Try.prog w = .ok (.enter g args) w)
    (hg : Does Try.prog g (#[.int .u64 n] ++ caps) F fun e h' => e = .returned (.tuple #[.int .u64 v, .bool ok]) ∧ h' = F) :
    Does Try.prog 80 #[.pointer (some ⟨b, o, none⟩), .func (.func g) #[] caps] (pt b T C :: F) fun e h' =>
      e = .returned (.tuple #[.int .u64 n, .bool ok]) ∧ ∃ C', h' = pt b T C' :: F ∧ Recell C o (.int .u64 (if ok = true then v else n)) C' := by
  intro w hw
  have T0 := Lib.hid (Turned.refl hw)
  have HC := Lib.hid hc
  have HG := Lib.hid hg
  clear hw hc hg
  cases ok
  · go_enter Try.func80, Try.ntmps80
    go_wp2_with (first
      | (go_at_call 89; refine ((loadW_does b o T C n HC.out).use T0.out (List.Perm.refl _)).mono ?_
         rintro e w1 ⟨h', ⟨rfl, C1, rfl, hr1⟩, T1⟩; have T1 := Lib.hid T1; have HR1 := Lib.hid hr1; clear hr1)
      | (refine (HG.out.use T1.out (List.perm_append_comm (l₁ := [pt b T C1]) (l₂ := F))).mono ?_
         rintro e w2 ⟨h', ⟨rfl, rfl⟩, T2⟩; have T2 := Lib.hid T2))

    go_ret2
    exact ⟨_, ⟨rfl, C1, rfl, HR1.out⟩, T2.out.perm (List.perm_append_comm)⟩
  · go_enter Try.func80, Try.ntmps80
    go_wp2_with (first
      | (go_at_call 89; refine ((loadW_does b o T C n HC.out).use T0.out (List.Perm.refl _)).mono ?_
         rintro e w1 ⟨h', ⟨rfl, C1, rfl, hr1⟩, T1⟩; have T1 := Lib.hid T1; have HR1 := Lib.hid hr1; clear hr1)
      | (go_at_call 90; refine ((swapW_does b o T C1 n n v HR1.out.cell).use T2.out (List.perm_append_comm)).mono ?_
         rintro e w3 ⟨h', ⟨rfl, C3, rfl, hr3⟩, T3⟩; rw [if_pos rfl] at hr3; have T3 := Lib.hid T3; have HR3 := Lib.hid hr3; clear hr3)
      | (refine (HG.out.use T1.out (List.perm_append_comm (l₁ := [pt b T C1]) (l₂ := F))).mono ?_
         rintro e w2 ⟨h', ⟨rfl, rfl⟩, T2⟩; have T2 := Lib.hid T2))
    all_goals go_ret2
    all_goals exact ⟨_, ⟨by simp, C3, rfl, HR1.out.trans HR3.out⟩, T3.out⟩
end Go.Proofs.Ytnemggminanbbaa
