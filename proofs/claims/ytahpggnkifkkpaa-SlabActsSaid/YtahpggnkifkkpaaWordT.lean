import Derived.Test.YtahpggnkifkkpaaWordP
import Derived.Calls
namespace Go.Proofs.Ytahpggnkifkkpaa
set_option linter.unusedVariables false
set_option linter.unusedSimpArgs false

/-- a row of the table: event, from, again, to, more, last -/
abbrev RowW := Int × Int × Bool × Int × Int × Int
def rowsL : List RowW :=
  [(1, 0, false, 1, 1, 2), (2, 1, false, 2, 0, 0), (3, 2, false, 3, 0, 0), (4, 3, false, 4, 0, 0), (5, 4, true, 3, 1, 0),
   (6, 2, false, 5, 0, 0), (6, 3, false, 5, 0, 0), (6, 4, true, 5, 1, 0), (7, 2, true, 2, 0, 1), (7, 3, true, 3, 0, 1), (7, 4, true, 4, 0, 1),
   (8, 2, false, 2, 1, 0), (8, 3, false, 2, 1, 0), (8, 4, true, 2, 1, 0), (9, 1, false, 0, 0, 0), (9, 4, false, 6, 0, 0), (10, 5, false, 0, 0, 2), (10, 6, false, 0, 0, 2)]
def RW (k : Nat) : RowW := rowsL.getD k (0, 0, false, 0, 0, 0)
def cellsRW (r : RowW) : List Value := [.int .i64 r.1, .int .i64 r.2.1, .bool r.2.2.1, .int .i64 r.2.2.2.1, .int .u64 r.2.2.2.2.1, .int .i64 r.2.2.2.2.2]
def tabC : Array Value := (rowsL.flatMap cellsRW).toArray

theorem tab_at (k : Nat) (hk : k < 18) : tabC[k * 6]? = some (.int .i64 (RW k).1) ∧ tabC[k * 6 + 1]? = some (.int .i64 (RW k).2.1) ∧ tabC[k * 6 + 2]? = some (.bool (RW k).2.2.1)
    ∧ tabC[k * 6 + 3]? = some (.int .i64 (RW k).2.2.2.1) ∧ tabC[k * 6 + 4]? = some (.int .u64 (RW k).2.2.2.2.1) ∧ tabC[k * 6 + 5]? = some (.int .i64 (RW k).2.2.2.2.2) := by
  have h : k = 0 ∨ k = 1 ∨ k = 2 ∨ k = 3 ∨ k = 4 ∨ k = 5 ∨ k = 6 ∨ k = 7 ∨ k = 8 ∨ k = 9 ∨ k = 10 ∨ k = 11 ∨ k = 12 ∨ k = 13 ∨ k = 14 ∨ k = 15 ∨ k = 16 ∨ k = 17 := by omega
  rcases h with rfl | rfl | rfl | rfl | rfl | rfl | rfl | rfl | rfl | rfl | rfl | rfl | rfl | rfl | rfl | rfl | rfl | rfl <;> exact ⟨rfl, rfl, rfl, rfl, rfl, rfl⟩

theorem tab_bd (k : Nat) (hk : k < 18) : 0 ≤ (RW k).2.2.2.1 ∧ (RW k).2.2.2.1 ≤ 6 ∧ 0 ≤ (RW k).2.2.2.2.1 ∧ (RW k).2.2.2.2.1 ≤ 1 := by
  have h : k = 0 ∨ k = 1 ∨ k = 2 ∨ k = 3 ∨ k = 4 ∨ k = 5 ∨ k = 6 ∨ k = 7 ∨ k = 8 ∨ k = 9 ∨ k = 10 ∨ k = 11 ∨ k = 12 ∨ k = 13 ∨ k = 14 ∨ k = 15 ∨ k = 16 ∨ k = 17 := by omega
  rcases h with rfl | rfl | rfl | rfl | rfl | rfl | rfl | rfl | rfl | rfl | rfl | rfl | rfl | rfl | rfl | rfl | rfl | rfl <;> decide

/-- does a row serve? -/
def fitsRW (s e : Int) (again : Bool) (r : RowW) : Bool := (r.1 == e) && (r.2.1 == s) && (!r.2.2.1 || again)
def findRW (s e : Int) (again : Bool) (l : List RowW) : Option RowW := l.find? (fitsRW s e again)

theorem drop_RW (k : Nat) (hk : k < 18) : rowsL.drop k = RW k :: rowsL.drop (k + 1) := by
  have h : k = 0 ∨ k = 1 ∨ k = 2 ∨ k = 3 ∨ k = 4 ∨ k = 5 ∨ k = 6 ∨ k = 7 ∨ k = 8 ∨ k = 9 ∨ k = 10 ∨ k = 11 ∨ k = 12 ∨ k = 13 ∨ k = 14 ∨ k = 15 ∨ k = 16 ∨ k = 17 := by omega
  rcases h with rfl | rfl | rfl | rfl | rfl | rfl | rfl | rfl | rfl | rfl | rfl | rfl | rfl | rfl | rfl | rfl | rfl | rfl <;> rfl

/-- what the table tells of a word that may be, and an event in range -/
def refW (n s g : Int) (l : Bool) (e : Int) (again : Bool) : Int × Int :=
  match findRW s e again rowsL with
  | none => (n, 7)
  | some r => if 4294967295 < g + r.2.2.2.2.1 then (n, 9) else (packW r.2.2.2.1 (g + r.2.2.2.2.1) (r.2.2.2.2.2 == 1 || r.2.2.2.2.2 == 0 && l), 0)

theorem toW_refW (n s g : Int) (l : Bool) (e : Int) (again : Bool) (h0 : 0 ≤ s) (h1 : s ≤ 6) (e0 : 1 ≤ e) (e1 : e ≤ 10) :
    (if (toW s e again).2.2 = false then (n, 7)
    else if 4294967295 < g + (toW s e again).2.1 then (n, 9)
    else (packW (toW s e again).1 (g + (toW s e again).2.1) (if e = 7 then true else if e = 1 ∨ e = 10 then false else l), 0)) = refW n s g l e again := by
  have hs : s = 0 ∨ s = 1 ∨ s = 2 ∨ s = 3 ∨ s = 4 ∨ s = 5 ∨ s = 6 := by omega
  have he : e = 1 ∨ e = 2 ∨ e = 3 ∨ e = 4 ∨ e = 5 ∨ e = 6 ∨ e = 7 ∨ e = 8 ∨ e = 9 ∨ e = 10 := by omega
  rcases hs with rfl | rfl | rfl | rfl | rfl | rfl | rfl <;> rcases he with rfl | rfl | rfl | rfl | rfl | rfl | rfl | rfl | rfl | rfl <;> cases again <;> cases l <;> rfl

theorem nextW_ref (n e : Int) (p : Bool) (h0 : 0 ≤ n) (hk : okW n = true) (e0 : 1 ≤ e) (e1 : e ≤ 10) :
    nextW n e p = refW n (stW n) (genW n) (lastW n) e (p && !lastW n) := by
  have hb := ok_bd n h0 hk
  rw [← toW_refW n _ _ _ _ _ hb.1 hb.2.1 e0 e1]
  rw [nextW, hk, if_neg (by simp), if_neg (by omega)]

theorem find_miss {s e : Int} {a : Bool} {r : RowW} {t : List RowW} (h : fitsRW s e a r = false) : findRW s e a (r :: t) = findRW s e a t := by
  simp [findRW, h]
theorem refW_found {n s g : Int} {l : Bool} {e : Int} {a : Bool} {r : RowW} {t : List RowW} (hF : findRW s e a rowsL = findRW s e a (r :: t)) (hfit : fitsRW s e a r = true) :
    refW n s g l e a = if 4294967295 < g + r.2.2.2.2.1 then (n, 9) else (packW r.2.2.2.1 (g + r.2.2.2.2.1) (r.2.2.2.2.2 == 1 || r.2.2.2.2.2 == 0 && l), 0) := by
  have : findRW s e a rowsL = some r := by rw [hF]; simp [findRW, hfit]
  simp [refW, this]
theorem refW_none {n s g : Int} {l : Bool} {e : Int} {a : Bool} (hF : findRW s e a rowsL = findRW s e a []) : refW n s g l e a = (n, 7) := by
  have : findRW s e a rowsL = none := by rw [hF]; rfl
  simp [refW, this]
theorem miss_of {s e : Int} {a : Bool} {r1 r2 r4 r5 r6 : Int} {r3 : Bool} (h : ¬ r1 = e ∨ ¬ r2 = s ∨ (r3 = true ∧ a = false)) : fitsRW s e a (r1, r2, r3, r4, r5, r6) = false := by
  rcases h with h | h | ⟨h, h'⟩ <;> simp [fitsRW, *]
theorem hit_of {s e : Int} {a : Bool} {r1 r2 r4 r5 r6 : Int} {r3 : Bool} (h1 : r1 = e) (h2 : r2 = s) (h3 : ¬ r3 = true ∨ a = true) : fitsRW s e a (r1, r2, r3, r4, r5, r6) = true := by
  rcases h3 with h | h <;> simp [fitsRW, *]
end Go.Proofs.Ytahpggnkifkkpaa
