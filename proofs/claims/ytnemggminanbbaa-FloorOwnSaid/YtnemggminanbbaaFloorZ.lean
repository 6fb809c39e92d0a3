import Derived.Test.YtnemggminanbbaaFloorR
import Derived.Test.YtnemggminanbbaaArg
namespace Go.Proofs.Ytnemggminanbbaa
set_option linter.unusedVariables false
set_option linter.unusedSimpArgs false
open Go.RowKit Go.Shelf

/-! ## The floor that is none: every method -/
structure EvS where
  kind : Int
  thread : Int
  call : Int
  what : Int
  id : Int
  gen : Int
  dl : Int
  per : Int
  tick : Int
  err : Int
def EvS.cells (e : EvS) : Array Value := #[.int .i64 e.kind, .int .i64 e.thread, .int .i64 e.call, .int .i64 e.what, .int .u64 e.id, .int .u64 e.gen, .int .u64 e.dl, .int .u64 e.per, .int .u64 e.tick, .int .i64 e.err]
def noCfg : Cfg := ⟨0, 0, 0, 0, 0, 0⟩
theorem floorEnter_nil : DoesG Try.prog 14 #[.pointer none] [] fun e gs => e = .returned (.tuple #[]) ∧ gs = [] := by
  intro w hw
  have T0 := TG.refl hw
  have HT := Lib.hid T0
  clear hw T0
  go_enter Try.func14, Try.ntmps14
  go_wp2
  exact bodyPost_end (results_none rfl _ _ _) rfl ⟨_, ⟨rfl, rfl⟩, HT.out⟩
theorem floorLeave_nil : DoesG Try.prog 15 #[.pointer none] [] fun e gs => e = .returned (.int .i64 6) ∧ gs = [] := by
  intro w hw
  have HT := Lib.hid (TG.refl hw)
  clear hw
  go_enter Try.func15, Try.ntmps15
  go_wp2
  go_ret
  exact ⟨_, ⟨rfl, rfl⟩, HT.out⟩
theorem floorWork_nil (b : Bool) : DoesG Try.prog 16 #[.pointer none, .bool b] [] fun e gs => e = .returned (.int .i64 6) ∧ gs = [] := by
  intro w hw
  have T0 := TG.refl hw
  have HT := Lib.hid T0
  clear hw T0
  go_enter Try.func16, Try.ntmps16
  go_wp2
  go_ret
  exact ⟨_, ⟨rfl, rfl⟩, HT.out⟩
theorem floorTurn_nil : DoesG Try.prog 18 #[.pointer none] [] fun e gs => e = .returned (.tuple #[.int .u64 0, .int .i64 6]) ∧ gs = [] := by
  intro w hw
  have HT := Lib.hid (TG.refl hw)
  clear hw
  go_enter Try.func18, Try.ntmps18
  go_wp2
  go_ret2
  exact ⟨_, ⟨rfl, rfl⟩, HT.out⟩
theorem floorTrace_nil : DoesG Try.prog 33 #[.pointer none] [] fun e gs => e = .returned (.slice none 0 0) ∧ gs = [] := by
  intro w hw
  have HT := Lib.hid (TG.refl hw)
  clear hw
  go_enter Try.func33, Try.ntmps33
  go_wp2
  go_ret
  exact ⟨_, ⟨rfl, rfl⟩, HT.out⟩
theorem floorNote_nil (E : EvS) : DoesG Try.prog 19 #[.pointer none, .agg E.cells] [] fun e gs => e = .returned (.tuple #[]) ∧ gs = [] := by
  intro w hw
  have T0 := TG.refl hw
  have HT := Lib.hid T0
  clear hw T0
  simp only [EvS.cells]
  go_enter Try.func19, Try.ntmps19
  go_wp2
  exact bodyPost_end (results_none rfl _ _ _) rfl ⟨_, ⟨rfl, rfl⟩, HT.out.alloc0 _⟩
theorem floorShard_nil (i : Int) : DoesG Try.prog 43 #[.pointer none, .int .i64 i] [] fun e gs => e = .returned (.pointer none) ∧ gs = [] := by
  intro w hw
  have T0 := TG.refl hw
  have HT := Lib.hid T0
  clear hw T0
  go_enter Try.func43, Try.ntmps43
  go_wp2
  go_ret
  exact ⟨_, ⟨rfl, rfl⟩, HT.out⟩
theorem floorHome_nil (i : Int) : DoesG Try.prog 27 #[.pointer none, .int .i64 i] [] fun e gs => e = .returned (.pointer none) ∧ gs = [] := by
  intro w hw
  have T0 := TG.refl hw
  have HT := Lib.hid T0
  clear hw T0
  go_enter Try.func27, Try.ntmps27
  go_wp2
  go_ret
  exact ⟨_, ⟨rfl, rfl⟩, HT.out⟩
end Go.Proofs.Ytnemggminanbbaa
