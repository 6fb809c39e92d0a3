import Derived.Test.YtmakficmfgkngaaFloorR
import Derived.Test.YtmakficmfgkngaaArg
namespace Go.Proofs.Ytmakficmfgkngaa
set_option linter.unusedVariables false
set_option linter.unusedSimpArgs false
open Go.RowKit Go.Shelf

/-! ## The floor that is none: every method -/
structure EvS where
  kind : Int
  thread : Int
  call : Int
  what : Int
  id : Int
  gen : Int
  dl : Int
  per : Int
  tick : Int
  err : Int
def EvS.cells (e : EvS) : Array Value := #[.int .i64 e.kind, .int .i64 e.thread, .int .i64 e.call, .int .i64 e.what, .int .u64 e.id, .int .u64 e.gen, .int .u64 e.dl, .int .u64 e.per, .int .u64 e.tick, .int .i64 e.err]
def noCfg : Cfg := ⟨0, 0, 0, 0, 0, 0⟩
theorem floorConfig_nil : DoesG Try.prog 15 #[.pointer none] [] fun e gs => e = .returned (.agg noCfg.cells) ∧ gs = [] := by
  intro w hw
  have T0 := TG.refl hw
  have HT := Lib.hid T0
  clear hw T0
  go_enter Try.func15, Try.ntmps15
  go_wp2
  exact bodyPost_ret (v := .agg noCfg.cells) (by simp [results, Try.results15, go_sem, noCfg, Cfg.cells]) rfl ⟨_, ⟨rfl, rfl⟩, HT.out.alloc0 _⟩
theorem floorConfig_nil' : DoesG Try.prog 15 #[.pointer none] [] fun e gs => e = .returned (.agg #[.int .i64 0, .int .i64 0, .int .i64 0, .int .i64 0, .int .i64 0, .int .i64 0]) ∧ gs = [] := floorConfig_nil
theorem floorEnter_nil : DoesG Try.prog 24 #[.pointer none] [] fun e gs => e = .returned (.tuple #[]) ∧ gs = [] := by
  intro w hw
  have T0 := TG.refl hw
  have HT := Lib.hid T0
  clear hw T0
  go_enter Try.func24, Try.ntmps24
  go_wp2
  exact bodyPost_end (results_none rfl _ _ _) rfl ⟨_, ⟨rfl, rfl⟩, HT.out⟩
theorem floorLeave_nil : DoesG Try.prog 25 #[.pointer none] [] fun e gs => e = .returned (.int .i64 6) ∧ gs = [] := by
  intro w hw
  have HT := Lib.hid (TG.refl hw)
  clear hw
  go_enter Try.func25, Try.ntmps25
  go_wp2
  go_ret
  exact ⟨_, ⟨rfl, rfl⟩, HT.out⟩
theorem floorWork_nil (b : Bool) : DoesG Try.prog 26 #[.pointer none, .bool b] [] fun e gs => e = .returned (.int .i64 6) ∧ gs = [] := by
  intro w hw
  have T0 := TG.refl hw
  have HT := Lib.hid T0
  clear hw T0
  go_enter Try.func26, Try.ntmps26
  go_wp2
  go_ret
  exact ⟨_, ⟨rfl, rfl⟩, HT.out⟩
theorem floorTurn_nil : DoesG Try.prog 28 #[.pointer none] [] fun e gs => e = .returned (.tuple #[.int .u64 0, .int .i64 6]) ∧ gs = [] := by
  intro w hw
  have HT := Lib.hid (TG.refl hw)
  clear hw
  go_enter Try.func28, Try.ntmps28
  go_wp2
  go_ret2
  exact ⟨_, ⟨rfl, rfl⟩, HT.out⟩
theorem floorTrace_nil : DoesG Try.prog 36 #[.pointer none] [] fun e gs => e = .returned (.slice none 0 0) ∧ gs = [] := by
  intro w hw
  have HT := Lib.hid (TG.refl hw)
  clear hw
  go_enter Try.func36, Try.ntmps36
  go_wp2
  go_ret
  exact ⟨_, ⟨rfl, rfl⟩, HT.out⟩
theorem floorNumber_nil (i : Int) : DoesG Try.prog 37 #[.pointer none, .int .i64 i] [] fun e gs => e = .returned (.tuple #[.int .u64 0, .int .i64 6]) ∧ gs = [] := by
  intro w hw
  have T0 := TG.refl hw
  have HT := Lib.hid T0
  clear hw T0
  go_enter Try.func37, Try.ntmps37
  go_wp2
  go_ret2
  exact ⟨_, ⟨rfl, rfl⟩, HT.out⟩
theorem floorNote_nil (E : EvS) : DoesG Try.prog 29 #[.pointer none, .agg E.cells] [] fun e gs => e = .returned (.tuple #[]) ∧ gs = [] := by
  intro w hw
  have T0 := TG.refl hw
  have HT := Lib.hid T0
  clear hw T0
  simp only [EvS.cells]
  go_enter Try.func29, Try.ntmps29
  go_wp2
  exact bodyPost_end (results_none rfl _ _ _) rfl ⟨_, ⟨rfl, rfl⟩, HT.out.alloc0 _⟩
theorem floorShard_nil (i : Int) : DoesG Try.prog 22 #[.pointer none, .int .i64 i] [] fun e gs => e = .returned (.pointer none) ∧ gs = [] := by
  intro w hw
  have T0 := TG.refl hw
  have HT := Lib.hid T0
  clear hw T0
  go_enter Try.func22, Try.ntmps22
  go_wp2
  go_ret
  exact ⟨_, ⟨rfl, rfl⟩, HT.out⟩
theorem floorHome_nil (i : Int) : DoesG Try.prog 12 #[.pointer none, .int .i64 i] [] fun e gs => e = .returned (.pointer none) ∧ gs = [] := by
  intro w hw
  have T0 := TG.refl hw
  have HT := Lib.hid T0
  clear hw T0
  go_enter Try.func12, Try.ntmps12
  go_wp2
  go_ret
  exact ⟨_, ⟨rfl, rfl⟩, HT.out⟩
end Go.Proofs.Ytmakficmfgkngaa
