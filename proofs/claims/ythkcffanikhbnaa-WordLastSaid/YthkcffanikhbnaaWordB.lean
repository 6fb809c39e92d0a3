import Derived.Test.YthkcffanikhbnaaWordA
namespace Go.Proofs.Ythkcffanikhbnaa
set_option linter.unusedVariables false
set_option linter.unusedSimpArgs false
open Go.RowKit

set_option maxHeartbeats 400000 in
theorem packX_calls (s g : Int) (l : Bool) (w : World) (h2 : 0 ≤ g) (h3 : g < 18446744073709551616) :
    Calls Try.prog 15 #[.int .i64 s, .int .u64 g, .bool l] w fun e w' => e = .returned (.tuple #[.int .u64 (if s < 0 ∨ 6 < s ∨ 4294967295 < g then 0 else packW s g l), .int .i64 (if s < 0 ∨ 6 < s ∨ 4294967295 < g then 4 else 0)]) ∧ w = w' := by
  by_cases c1 : s < 0
  · go_enter Try.func15, Try.ntmps15
    go_wp2
    go_ret2
    exact ⟨by simp, rfl⟩
  · by_cases c2 : 6 < s
    · go_enter Try.func15, Try.ntmps15
      go_wp2
      go_ret2
      exact ⟨by simp, rfl⟩
    · by_cases c3 : 4294967295 < g
      · go_enter Try.func15, Try.ntmps15
        go_wp2
        go_ret2
        exact ⟨by simp, rfl⟩
      · rw [if_neg (by omega), if_neg (by omega)]
        go_enter Try.func15, Try.ntmps15
        go_wp2_with (go_at_call 19; refine (pack_calls _ _ _ _ (by omega) (by omega) (by omega) (by omega)).mono ?_; rintro e w' ⟨rfl, rfl⟩)
        go_ret2
        exact ⟨rfl, rfl⟩

set_option maxHeartbeats 400000 in
theorem parts_calls (n : Int) (w : World) (h0 : 0 ≤ n) (h1 : n < 18446744073709551616) :
    Calls Try.prog 10 #[.int .u64 n] w fun e w' => e = .returned (.tuple #[.int .i64 (stW n), .int .u64 (genW n), .bool (lastW n), .bool (okW n)]) ∧ w = w' := by
  go_enter Try.func10, Try.ntmps10
  go_wp2
  all_goals refine bodyPost_ret (v := .tuple #[.int .i64 (stW n), .int .u64 (genW n), .bool (lastW n), .bool (okW n)]) ?_ rfl ⟨rfl, rfl⟩
  all_goals simp only [results, Try.results10]
  all_goals simp [go_sem]
  all_goals go_light
  · have h : okW n = false := by simp only [okW, Bool.and_eq_false_iff, decide_eq_false_iff_not]; omega
    simp [stW, genW, lastW, h]
  · have h : okW n = true := by simp only [okW, Bool.and_eq_true, decide_eq_true_eq]; omega
    simp only [stW, genW, lastW, h, if_true, Bool.true_and, true_and]
    exact ⟨by omega, by rw [Bool.eq_iff_iff]; simp⟩
  · have h : okW n = false := by simp only [okW, Bool.and_eq_false_iff, decide_eq_false_iff_not]; omega
    simp [stW, genW, lastW, h]
  · have h : okW n = false := by simp only [okW, Bool.and_eq_false_iff, decide_eq_false_iff_not]; omega
    simp [stW, genW, lastW, h]

set_option maxHeartbeats 400000 in
theorem word_calls (s g : Int) (l : Bool) (w : World) (h0 : 0 ≤ s) (h1 : s ≤ 6) (h2 : 0 ≤ g) (h3 : g ≤ 4294967295) :
    Calls Try.prog 16 #[.int .i64 s, .int .u64 g, .bool l] w fun e w' => e = .returned (.int .u64 (packW s g l)) ∧ w = w' := by
  go_enter Try.func16, Try.ntmps16
  go_wp2
  all_goals go_ret
  all_goals refine ⟨ret_int ?_, rfl⟩
  all_goals (go_light; simp_all [packW]; try omega)

set_option maxHeartbeats 400000 in
theorem alive_calls (w : World) :
    Calls Try.prog 9 #[] w fun e w' => e = .returned (.bool true) ∧ w = w' := by
  have e1 : packW 3 5 false = 1283 := by decide
  have e2 : nextW 1283 4 true = (1284, 0) := by decide
  have e3 : nextW 1284 5 true = (1539, 0) := by decide
  have e4 : nextW 1284 5 false = (1284, 7) := by decide
  have e5 : stW 1284 = 4 := by decide
  have e6 : genW 1284 = 5 := by decide
  have e7 : stW 1539 = 3 := by decide
  have e8 : genW 1539 = 6 := by decide
  go_enter Try.func9, Try.ntmps9
  go_wp2_with (first
    | (go_at_call 15; refine (packX_calls _ _ _ _ (by omega) (by omega)).mono ?_; rintro e w' ⟨rfl, rfl⟩)
    | (go_at_call 17; refine (next_calls _ _ _ _ (by decide) (by decide)).mono ?_; rintro e w' ⟨rfl, rfl⟩)
    | (go_at_call 12; refine (state_calls _ _ (by decide) (by decide)).mono ?_; rintro e w' ⟨rfl, rfl⟩)
    | (go_at_call 13; refine (gen_calls _ _ (by decide) (by decide)).mono ?_; rintro e w' ⟨rfl, rfl⟩))
  go_ret
  exact ⟨rfl, rfl⟩

set_option maxHeartbeats 400000 in
theorem lawParts_walk (n : Int) (w : World) (h0 : 0 ≤ n) (h1 : n < 18446744073709551616) :
    Calls Try.prog 3 #[.int .u64 n] w fun e w' => e = .returned (.bool true) ∧ w = w' := by
  go_enter Try.func3, Try.ntmps3
  go_wp2_with (first
    | (go_at_call 9; refine (alive_calls _).mono ?_; rintro e w' ⟨rfl, rfl⟩)
    | (go_at_call 10; refine (parts_calls _ _ h0 h1).mono ?_; rintro e w' ⟨rfl, rfl⟩)
    | (go_at_call 11; refine (ok_calls _ _ h0 h1).mono ?_; rintro e w' ⟨rfl, rfl⟩)
    | (go_at_call 12; refine (state_calls _ _ h0 h1).mono ?_; rintro e w' ⟨rfl, rfl⟩)
    | (go_at_call 13; refine (gen_calls _ _ h0 h1).mono ?_; rintro e w' ⟨rfl, rfl⟩)
    | (go_at_call 14; refine (last_calls _ _ h0 h1).mono ?_; rintro e w' ⟨rfl, rfl⟩))
  go_ret
  exact ⟨rfl, rfl⟩

end Go.Proofs.Ythkcffanikhbnaa
