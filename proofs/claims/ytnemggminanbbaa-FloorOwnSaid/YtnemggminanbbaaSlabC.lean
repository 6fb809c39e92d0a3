import Derived.Test.YtnemggminanbbaaSlabB
namespace Go.Proofs.Ytnemggminanbbaa
set_option linter.unusedVariables false
set_option linter.unusedSimpArgs false
open Go.RowKit

theorem seek1_does (xb qb sb : Nat) (q : Req) (n : Int) (h0 : 0 ≤ n) (h1 : n < 18446744073709551616) :
    Does Try.prog 81 #[.int .u64 n, .pointer (some ⟨xb, 0, none⟩)] [pt xb 58 #[.pointer (some ⟨qb, 0, none⟩)], reqH qb sb q] fun e h' =>
      e = .returned (.tuple #[.int .u64 (nextW n 1 (decide (0 < q.p))).1, .bool ((nextW n 1 (decide (0 < q.p))).2 == 0)]) ∧ h' = [pt xb 58 #[.pointer (some ⟨qb, 0, none⟩)], reqH qb sb q] := by
  intro w hw
  have T0 := Turned.refl hw
  have x0 := T0.cell 0 rfl 0
  have q0 := T0.cell 1 (show _ = some (pt qb _ _) from rfl) 1
  simp [reqC] at x0 q0
  have HT := Lib.hid T0
  clear hw T0
  go_enter Try.func81, Try.ntmps81
  go_wp2_with (
    go_at_call 82
    refine (next_calls _ _ _ _ h0 h1).mono ?_
    rintro e w1 ⟨rfl, rfl⟩)
  all_goals go_ret2
  all_goals exact ⟨_, ⟨by simp_all, rfl⟩, HT.out⟩
end Go.Proofs.Ytnemggminanbbaa
