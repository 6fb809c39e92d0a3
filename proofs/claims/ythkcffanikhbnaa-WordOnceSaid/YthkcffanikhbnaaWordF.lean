import Derived.Test.YthkcffanikhbnaaWordB
namespace Go.Proofs.Ythkcffanikhbnaa
set_option linter.unusedVariables false
set_option linter.unusedSimpArgs false
open Go.RowKit

theorem once_cases (g k : Int) (last p : Bool) (h0 : 0 ≤ g) (h1 : g ≤ 4294967295) :
    ∃ x er, nextW (packW 4 g last) k p = (x, er) ∧ (((er != 0) = true ∧ x = packW 4 g last) ∨ (er = 0 ∧ okW x = true ∧ 0 ≤ x ∧ x < 18446744073709551616 ∧
      (((k == 9) = true ∧ stW x = 6 ∧ genW x = g) ∨ ((k == 7) = true ∧ p = true ∧ last = false ∧ stW x = 4 ∧ lastW x = true ∧ genW x = g) ∨
        (p = true ∧ last = false ∧ genW x = g + 1 ∧ stW x = 2) ∨ (p = true ∧ last = false ∧ genW x = g + 1 ∧ stW x = 3) ∨ (p = true ∧ last = false ∧ genW x = g + 1 ∧ stW x = 5)))) := by
  obtain ⟨p1, p2, p3, p4, p5, p6⟩ := packW_parts 4 g last (by omega) (by omega) h0 h1
  have hc := nextW_cases (packW 4 g last) k p p5 p6 p1
  rw [p2, p3, p4] at hc
  refine ⟨(nextW (packW 4 g last) k p).1, (nextW (packW 4 g last) k p).2, rfl, ?_⟩
  rcases hc with ⟨a, b⟩ | ⟨c1, c2, c3, c4, c5, c6, c7, c8, c9, c10⟩
  · refine .inl ⟨?_, a⟩
    rcases b with ⟨b, _⟩ | b | b <;> rw [b] <;> rfl
  · have hd := toW_claimed k (p && !last) c2 c3 c4
    rw [c6, c7, c8]
    refine .inr ⟨c1, c5, c9, c10, ?_⟩
    rcases hd with ⟨d1, d2, d3⟩ | ⟨d1, d2, d3, d4⟩ | ⟨d1, d2, d3⟩
    · exact .inl ⟨by simp [d1], d2, by omega⟩
    · simp only [Bool.and_eq_true, Bool.not_eq_true'] at d2
      exact .inr (.inl ⟨by simp [d1], d2.1, d2.2, d3, by rw [if_pos d1], by omega⟩)
    · simp only [Bool.and_eq_true, Bool.not_eq_true'] at d1
      rcases d3 with d3 | d3 | d3
      · exact .inr (.inr (.inl ⟨d1.1, d1.2, by omega, d3⟩))
      · exact .inr (.inr (.inr (.inl ⟨d1.1, d1.2, by omega, d3⟩)))
      · exact .inr (.inr (.inr (.inr ⟨d1.1, d1.2, by omega, d3⟩)))

set_option maxHeartbeats 4000000 in
theorem lawOnce_walk (g ev : Int) (last periodic : Bool) (w : World) (h0 : 0 ≤ g) (h1 : g ≤ 4294967295) (h2 : 0 ≤ ev) (h3 : ev ≤ 255) :
    Calls Try.prog 7 #[.int .u32 g, .bool last, .bool periodic, .int .u8 ev] w fun e w' => e = .returned (.bool true) ∧ w = w' := by
  obtain ⟨_, _, _, _, p5, p6⟩ := packW_parts 4 g last (by omega) (by omega) h0 h1
  obtain ⟨x, er, hn, hc⟩ := once_cases g (1 + ev % 10) last periodic h0 h1
  have e1 : ¬ ((4 : Int) < 0 ∨ (6 : Int) < 4 ∨ 4294967295 < g) := by omega
  have E1 := Lib.hid e1; clear e1
  have P5 := Lib.hid p5; clear p5
  have P6 := Lib.hid p6; clear p6
  have HN := Lib.hid hn; clear hn
  rcases hc with ⟨c1, rfl⟩ | ⟨rfl, c2, c3, c4, hc⟩
  · go_enter Try.func7, Try.ntmps7
    go_wp2_with (first
      | (go_at_call 9; refine (alive_calls _).mono ?_; rintro e w' ⟨rfl, rfl⟩)
      | (go_at_call 15; refine (packX_calls _ _ _ _ (by omega) (by omega)).mono ?_; rw [if_neg E1.out, if_neg E1.out]; rintro e w' ⟨rfl, rfl⟩)
      | (go_at_call 17; refine (next_calls _ _ _ _ P5.out P6.out).mono ?_; simp only [HN.out]; rintro e w' ⟨rfl, rfl⟩))
    go_ret
    exact ⟨ret_bool (by simp), rfl⟩
  · have C3 := Lib.hid c3; clear c3
    have C4 := Lib.hid c4; clear c4
    rcases hc with ⟨d1, d2, d3⟩ | ⟨d1, rfl, rfl, d2, d3, d4⟩ | ⟨rfl, rfl, d2, d3⟩ | ⟨rfl, rfl, d2, d3⟩ | ⟨rfl, rfl, d2, d3⟩
    all_goals
      go_enter Try.func7, Try.ntmps7
      go_wp2_with (first
        | (go_at_call 9; refine (alive_calls _).mono ?_; rintro e w' ⟨rfl, rfl⟩)
        | (go_at_call 15; refine (packX_calls _ _ _ _ (by omega) (by omega)).mono ?_; rw [if_neg E1.out, if_neg E1.out]; rintro e w' ⟨rfl, rfl⟩)
        | (go_at_call 17; refine (next_calls _ _ _ _ P5.out P6.out).mono ?_; simp only [HN.out]; rintro e w' ⟨rfl, rfl⟩)
        | (go_at_call 12; refine (state_calls _ _ C3.out C4.out).mono ?_; rintro e w' ⟨rfl, rfl⟩)
        | (go_at_call 13; refine (gen_calls _ _ C3.out C4.out).mono ?_; rintro e w' ⟨rfl, rfl⟩)
        | (go_at_call 14; refine (last_calls _ _ C3.out C4.out).mono ?_; rintro e w' ⟨rfl, rfl⟩))
      all_goals go_ret
      all_goals exact ⟨rfl, rfl⟩
end Go.Proofs.Ythkcffanikhbnaa
