import Derived.Test.YtnemggminanbbaaChecked
import Derived.Test.YtnemggminanbbaaRange
import Derived.WalkKit
import Derived.WalkSpells
import Derived.WalkLawsBesides
import Derived.Lib.Hide
import Derived.Deep.Light
import Derived.Deep.QuietTactic
import Derived.BigQuiet
import Derived.StillTailTactics
namespace Go.Proofs.Ytnemggminanbbaa
set_option linter.unusedVariables false
set_option linter.unusedSimpArgs false
open Go.RowKit

/-- only new blocks -/
abbrev Grew (w w' : World) : Prop := Only (fun _ => False) w w'

/-- an entry: kind, n; the call's kind, id, deadline, period -/
structure Ent where
  k : Int
  n : Int
  c : Int
  i : Int
  d : Int
  p : Int
def Ent.val (e : Ent) : Value := .agg #[.int .i64 e.k, .int .i64 e.n, .int .i64 e.c, .int .u64 e.i, .int .u64 e.d, .int .u64 e.p]
def Ent.ok (e : Ent) : Bool :=
  if e.k = 0 then e.n == 0 && (e.c == 0 && (e.i == 0 && (e.d == 0 && e.p == 0)))
  else if e.k = 1 then decide (0 ≤ e.n) && decide (e.n ≤ 8) && decide (1 ≤ e.c) && decide (e.c ≤ 7) && decide (e.i ≤ 255) && decide (e.d ≤ 255) && decide (e.p ≤ 255)
  else decide (2 ≤ e.k) && decide (e.k ≤ 4) && decide (0 ≤ e.n) && decide (e.n ≤ 255) && (e.c == 0 && (e.i == 0 && (e.d == 0 && e.p == 0)))

theorem ret_bool {a b : Bool} (h : a = b) : Ending.returned (.bool a) = .returned (.bool b) := by rw [h]
theorem ret_int {k : IntKind} {a b : Int} (h : a = b) : Ending.returned (.int k a) = .returned (.int k b) := by rw [h]

set_option maxHeartbeats 1000000 in
theorem scrOk_calls (k n c i d p : Int) (w : World) :
    Calls Try.prog 69 #[.agg #[.int .i64 k, .int .i64 n, .int .i64 c, .int .u64 i, .int .u64 d, .int .u64 p]] w fun e w' => e = .returned (.bool (Ent.ok ⟨k, n, c, i, d, p⟩)) ∧ Grew w w' := by
  go_enter Try.func69, Try.ntmps69
  go_wp2
  all_goals go_ret
  all_goals refine ⟨ret_bool ?_, by repeat (first | exact Only.refl _ _ | apply Only.alloc)⟩
  all_goals go_light
  all_goals simp_all [Ent.ok]
  all_goals omega

theorem heap_alloc_two (w : World) (a b : Obj) : ((w.alloc a).alloc b).heap[w.heap.size + 1]? = some b := by
  have := World.alloc_heap_new (w.alloc a) b; rwa [World.size_alloc] at this

/-- what an entry's bytes are -/
def Ent.bytes (e : Ent) : List Int := if e.k = 1 then [e.k % 256, e.n % 256, e.c % 256, e.i % 256, e.d % 256, e.p % 256] else [e.k % 256, e.n % 256, 0, 0, 0, 0]

set_option maxHeartbeats 1000000 in
theorem scrWrite_calls (k n c i d p : Int) (w : World) :
    Calls Try.prog 71 #[.agg #[.int .i64 k, .int .i64 n, .int .i64 c, .int .u64 i, .int .u64 d, .int .u64 p]] w fun e w' =>
      e = .returned (.slice (some ⟨w.heap.size + 1, 0, none⟩) 6 6) ∧ w'.heap[w.heap.size + 1]? = some (.cells ((Ent.bytes ⟨k, n, c, i, d, p⟩).map (Value.int .u8)).toArray 177 (0, 0)) ∧ Grew w w' := by
  by_cases hk : k = 1
  · subst hk
    go_enter Try.func71, Try.ntmps71
    go_wp2
    go_region
    go_wp2
    go_ret
    refine ⟨rfl, ?_, ?_⟩
    · exact heap_alloc_two _ _ _
    · exact (((Only.refl _ _).alloc _).alloc _).drew
  · have hk' : (k == 1) = false := by simpa using hk
    have HK := Lib.hid hk; clear hk
    go_enter Try.func71, Try.ntmps71
    go_wp2
    go_ret
    refine ⟨rfl, ?_, ?_⟩
    · rw [Ent.bytes, if_neg HK.out]
      exact heap_alloc_two _ _ _
    · exact ((Only.refl _ _).alloc _).alloc _
end Go.Proofs.Ytnemggminanbbaa
