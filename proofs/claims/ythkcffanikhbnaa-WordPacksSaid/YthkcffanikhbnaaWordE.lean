import Derived.Test.YthkcffanikhbnaaWordD
namespace Go.Proofs.Ythkcffanikhbnaa
set_option linter.unusedVariables false
set_option linter.unusedSimpArgs false
open Go.RowKit

set_option maxHeartbeats 1000000 in
theorem refNext_any (n e : Int) (p : Bool) (w : World) (h0 : 0 ≤ n) (h1 : n < 18446744073709551616) :
    Calls Try.prog 18 #[.int .u64 n, .int .i64 e, .bool p] w (RefPost w.heap.size w (nextW n e p)) := by
  cases hk : okW n
  · have hs : stW n = 0 := by simp [stW, hk]
    have hg : genW n = 0 := by simp [genW, hk]
    have hl : lastW n = false := by simp [lastW, hk]
    have hfin : nextW n e p = (n, 5) := by simp [nextW, hk]
    have HF := Lib.hid hfin; clear hfin
    go_enter Try.func18, Try.ntmps18
    go_wp2_with (go_at_call 10; refine (parts_calls _ _ h0 h1).mono ?_; rintro e w' ⟨rfl, rfl⟩)
    go_ret2
    exact ⟨by rw [HF.out]; rfl, Below.refl _ _⟩
  · by_cases he : e < 1 ∨ 10 < e
    · have hfin : nextW n e p = (n, 1) := by simp [nextW, hk, he]
      have HF := Lib.hid hfin; clear hfin
      by_cases he1 : e < 1
      · clear he
        go_enter Try.func18, Try.ntmps18
        go_wp2_with (go_at_call 10; refine (parts_calls _ _ h0 h1).mono ?_; rintro e w' ⟨rfl, rfl⟩)
        go_ret2
        exact ⟨by rw [HF.out]; rfl, Below.refl _ _⟩
      · have he2 : 10 < e := by omega
        clear he
        go_enter Try.func18, Try.ntmps18
        go_wp2_with (go_at_call 10; refine (parts_calls _ _ h0 h1).mono ?_; rintro e w' ⟨rfl, rfl⟩)
        go_ret2
        exact ⟨by rw [HF.out]; rfl, Below.refl _ _⟩
    · exact refNext_main n e p w h0 h1 hk (by omega) (by omega)

set_option maxHeartbeats 1000000 in
theorem lawNext_walk (n e : Int) (p : Bool) (w : World) (h0 : 0 ≤ n) (h1 : n < 18446744073709551616) :
    Calls Try.prog 5 #[.int .u64 n, .int .i64 e, .bool p] w fun r w' => r = .returned (.bool true) ∧ Below w.heap.size w w' := by
  go_enter Try.func5, Try.ntmps5
  go_wp2_with (first
    | (go_at_call 9; refine (alive_calls _).mono ?_; rintro e w' ⟨rfl, rfl⟩)
    | (go_at_call 17; refine (next_calls _ _ _ _ h0 h1).mono ?_; rintro e w' ⟨rfl, rfl⟩)
    | (go_at_call 18; refine (refNext_any _ _ _ _ h0 h1).mono ?_; rintro e w' ⟨rfl, hb⟩))
  go_ret
  exact ⟨rfl, hb⟩

set_option maxHeartbeats 1000000 in
theorem lawPacks_walk (s g : Int) (l : Bool) (w : World) (h2 : 0 ≤ g) (h3 : g < 18446744073709551616) :
    Calls Try.prog 4 #[.int .i64 s, .int .u64 g, .bool l] w fun r w' => r = .returned (.bool true) ∧ w = w' := by
  by_cases c1 : s < 0
  · go_enter Try.func4, Try.ntmps4
    go_wp2_with (first
      | (go_at_call 9; refine (alive_calls _).mono ?_; rintro e w' ⟨rfl, rfl⟩)
      | (go_at_call 15; refine (packX_calls _ _ _ _ h2 h3).mono ?_; rw [if_pos (.inl c1), if_pos (.inl c1)]; rintro e w' ⟨rfl, rfl⟩))
    go_ret
    exact ⟨rfl, rfl⟩
  · by_cases c2 : 6 < s
    · go_enter Try.func4, Try.ntmps4
      go_wp2_with (first
        | (go_at_call 9; refine (alive_calls _).mono ?_; rintro e w' ⟨rfl, rfl⟩)
        | (go_at_call 15; refine (packX_calls _ _ _ _ h2 h3).mono ?_; rw [if_pos (.inr (.inl c2)), if_pos (.inr (.inl c2))]; rintro e w' ⟨rfl, rfl⟩))
      go_ret
      exact ⟨rfl, rfl⟩
    · by_cases c3 : 4294967295 < g
      · go_enter Try.func4, Try.ntmps4
        go_wp2_with (first
          | (go_at_call 9; refine (alive_calls _).mono ?_; rintro e w' ⟨rfl, rfl⟩)
          | (go_at_call 15; refine (packX_calls _ _ _ _ h2 h3).mono ?_; rw [if_pos (.inr (.inr c3)), if_pos (.inr (.inr c3))]; rintro e w' ⟨rfl, rfl⟩))
        go_ret
        exact ⟨rfl, rfl⟩
      · obtain ⟨p1, p2, p3, p4, p5, p6⟩ := packW_parts s g l (by omega) (by omega) (by omega) (by omega)
        have c4 : ¬ (s < 0 ∨ 6 < s ∨ 4294967295 < g) := by omega
        have C := Lib.hid c4; clear c4
        have P5 := Lib.hid p5; clear p5
        have P6 := Lib.hid p6; clear p6
        go_enter Try.func4, Try.ntmps4
        go_wp2_with (first
          | (go_at_call 9; refine (alive_calls _).mono ?_; rintro e w' ⟨rfl, rfl⟩)
          | (go_at_call 15; refine (packX_calls _ _ _ _ h2 h3).mono ?_; rw [if_neg C.out, if_neg C.out]; rintro e w' ⟨rfl, rfl⟩)
          | (go_at_call 16; refine (word_calls _ _ _ _ (by omega) (by omega) (by omega) (by omega)).mono ?_; rintro e w' ⟨rfl, rfl⟩)
          | (go_at_call 11; refine (ok_calls _ _ P5.out P6.out).mono ?_; rintro e w' ⟨rfl, rfl⟩)
          | (go_at_call 12; refine (state_calls _ _ P5.out P6.out).mono ?_; rintro e w' ⟨rfl, rfl⟩)
          | (go_at_call 13; refine (gen_calls _ _ P5.out P6.out).mono ?_; rintro e w' ⟨rfl, rfl⟩)
          | (go_at_call 14; refine (last_calls _ _ P5.out P6.out).mono ?_; rintro e w' ⟨rfl, rfl⟩))
        go_ret
        exact ⟨rfl, rfl⟩
end Go.Proofs.Ythkcffanikhbnaa
