import Derived.Test.YtnemggminanbbaaScrP
namespace Go.Proofs.Ytnemggminanbbaa
set_option linter.unusedVariables false
set_option linter.unusedSimpArgs false
open Go.RowKit

/-- two own rows of different elements lie apart: one grows, the other stays -/
theorem row_other {w w' : World} {b b1 : Nat} {e1 e2 : TypeId} {s1 s2 : Nat} {v1 v2 : Value} {n1 n2 : Nat} {xs1 xs2 : List Value} (h2 : w.ownsRow b e2 s2 v2 n2 xs2) (h1 : w.ownsRow b1 e1 s1 v1 n1 xs1) (hne : e1 ≠ e2) (hg : w.grownBy w' v1.ownBlock) : w'.ownsRow b e2 s2 v2 n2 xs2 := by
  refine ⟨h2.1, h2.2.imp id ?_⟩
  rintro ⟨g, cap, cur, rfl, hb, hh, r⟩
  refine ⟨g, cap, cur, rfl, hb, (Only.of_grownBy hg).blk hh (fun e => ?_), r⟩
  rcases h1.2 with ⟨rfl, _⟩ | ⟨g1, c1, cur1, rfl, _, hh1, _⟩
  · simp [Value.ownBlock] at e
  · simp only [Value.ownBlock, Option.some.injEq] at e
    subst e
    rw [hh] at hh1
    simp only [Option.some.injEq, Obj.cells.injEq] at hh1
    exact hne hh1.2.1.symm

/-- the bytes of the entries that may be -/
def wantOf (l : List Ent) : List Int := l.flatMap fun e => if e.ok then e.bytes else []
theorem wantOf_snoc (l : List Ent) (e : Ent) : wantOf (l ++ [e]) = wantOf l ++ (if e.ok then e.bytes else []) := by simp [wantOf]
theorem wantOf_length (l : List Ent) : (wantOf l).length ≤ 6 * l.length := by
  induction l with
  | nil => simp [wantOf]
  | cons e l ih =>
    simp only [wantOf, List.flatMap_cons, List.length_append, List.length_cons] at ih ⊢
    have : (if e.ok = true then e.bytes else []).length ≤ 6 := by split; exact Nat.le_of_eq e.bytes_length; simp
    omega
theorem wantOf_ok (l : List Ent) (h : l.all Ent.ok = true) : wantOf l = bytesOf l := by
  induction l with
  | nil => rfl
  | cons e l ih =>
    simp only [List.all_cons, Bool.and_eq_true] at h
    simp only [wantOf, bytesOf, List.flatMap_cons] at ih ⊢
    rw [ih h.2, if_pos h.1]
theorem wantOf_range (l : List Ent) : ∀ x ∈ wantOf l, 0 ≤ x ∧ x ≤ 255 := by
  intro x hx
  obtain ⟨e, _, h⟩ := List.mem_flatMap.1 hx
  split at h
  · exact e.bytes_range x h
  · cases h

end Go.Proofs.Ytnemggminanbbaa
