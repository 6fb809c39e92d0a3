import Derived.Test.YthkcffanikhbnaaWordB
import Derived.LoopTactic
import Derived.Deep.LoopGhost
namespace Go.Proofs.Ythkcffanikhbnaa
set_option linter.unusedVariables false
set_option linter.unusedSimpArgs false
open Go.RowKit

/-- a slice of bytes that came in: empty and nil, or its cells -/
def RowU8 (w : World) (a : Option Addr) (len : Nat) : Prop :=
  len = 0 ∨ ∃ b off, a = some ⟨b, off, none⟩ ∧ ∀ i, i < len → ∃ v : Int, 0 ≤ v ∧ v ≤ 255 ∧ w.cell? ⟨b, off + i, none⟩ = some (.int .u8 v)

/-- what the round of 'WordRuns' meets -/
theorem runs_cases (n e : Int) (p : Bool) (h0 : 0 ≤ n) (h1 : n < 18446744073709551616) (hk : okW n = true) :
    ∃ x er, nextW n e p = (x, er) ∧ (((er != 0) = true ∧ (er == 0) = false ∧ x = n) ∨
      (er = 0 ∧ okW x = true ∧ 0 ≤ x ∧ x < 18446744073709551616 ∧ genW n ≤ genW x ∧ genW x ≤ genW n + 1 ∧
        ((stW n = 5 ∧ (e != 10) = false ∧ stW x = 0) ∨ (stW n = 6 ∧ (e != 10) = false ∧ stW x = 0) ∨ (stW n = 0 ∧ (e != 1) = false ∧ (genW x != genW n + 1) = false ∧ lastW x = false) ∨ (¬ stW n = 5 ∧ ¬ stW n = 6 ∧ ¬ stW n = 0)))) := by
  have hb := ok_bd n h0 hk
  have hc := nextW_cases n e p h0 h1 hk
  refine ⟨(nextW n e p).1, (nextW n e p).2, rfl, ?_⟩
  rcases hc with ⟨a, b⟩ | ⟨c1, c2, c3, c4, c5, c6, c7, c8, c9, c10⟩
  · refine .inl ⟨?_, ?_, a⟩ <;> rcases b with ⟨b, _⟩ | b | b <;> rw [b] <;> rfl
  · have hf := toW_fits (stW n) e (p && !lastW n) hb.1 hb.2.1
    have hs : stW n = 5 ∨ stW n = 6 ∨ stW n = 0 ∨ (¬ stW n = 5 ∧ ¬ stW n = 6 ∧ ¬ stW n = 0) := by omega
    simp only [FitsW] at hf
    rw [c6, c7, c8]
    refine .inr ⟨c1, c5, c9, c10, by omega, by omega, ?_⟩
    rcases hs with hs | hs | hs | hs
    · rw [hs] at c4 ⊢
      have := toW_dead 5 e _ (.inl rfl) c2 c3 c4
      exact .inl ⟨rfl, by simp [this.1], this.2⟩
    · rw [hs] at c4 ⊢
      have := toW_dead 6 e _ (.inr rfl) c2 c3 c4
      exact .inr (.inl ⟨rfl, by simp [this.1], this.2⟩)
    · rw [hs] at c4 ⊢
      have := toW_free e _ c2 c3 c4
      refine .inr (.inr (.inl ⟨rfl, by simp [this.1], by simp [this.2], by simp [this.1]⟩))
    · exact .inr (.inr (.inr hs))

set_option maxRecDepth 100000 in
set_option maxHeartbeats 4000000 in
theorem lawRuns_walk (n : Int) (a : Option Addr) (len cap : Nat) (p : Bool) (w : World) (h0 : 0 ≤ n) (h1 : n < 18446744073709551616) (hl : len ≤ 9223372036854775807) (hr : RowU8 w a len) :
    Calls Try.prog 6 #[.int .u64 n, .slice a len cap, .bool p] w fun e w' => e = .returned (.bool true) ∧ w = w' := by
  by_cases c1 : 200 < len
  · go_enter Try.func6, Try.ntmps6
    go_wp2_with (go_at_call 9; refine (alive_calls _).mono ?_; rintro e w' ⟨rfl, rfl⟩)
    go_ret
    exact ⟨rfl, rfl⟩
  cases hk : okW n
  · go_enter Try.func6, Try.ntmps6
    go_wp2_with (first
      | (go_at_call 9; refine (alive_calls _).mono ?_; rintro e w' ⟨rfl, rfl⟩)
      | (go_at_call 11; refine (ok_calls _ _ h0 h1).mono ?_; rintro e w' ⟨rfl, rfl⟩))
    go_ret
    exact ⟨rfl, rfl⟩
  have HR := Lib.hid hr; clear hr
  go_enter Try.func6, Try.ntmps6
  go_wp2_with (first
    | (go_at_call 9; refine (alive_calls _).mono ?_; rintro e w' ⟨rfl, rfl⟩)
    | (go_at_call 11; refine (ok_calls _ _ h0 h1).mono ?_; rintro e w' ⟨rfl, rfl⟩))
  go_loop [7, 8] (fun v i => ∃ (k : Nat) (m : Int), k ≤ len ∧ i = .int .i64 k ∧ v = .int .u64 m ∧ 0 ≤ m ∧ m < 18446744073709551616 ∧ okW m = true) (fun _ i => len - (intOf i).toNat)
  case atStart => exact ⟨0, n, by omega, rfl, rfl, h0, h1, hk⟩
  case round =>
    obtain ⟨k, m, hk1, rfl, rfl, hm0, hm1, hm2⟩ := hrel
    by_cases hlt : k < len
    · obtain ⟨b, off, rfl, hcell⟩ := (HR.out).resolve_left (by omega)
      obtain ⟨v, v0, v1, hv⟩ := hcell k hlt
      obtain ⟨x, er, hn, hc⟩ := runs_cases m (v % 12) p hm0 hm1 hm2
      obtain ⟨_, _, g0, g1⟩ := ok_bd m hm0 hm2
      have HN := Lib.hid hn; clear hn
      have HM0 := Lib.hid hm0; clear hm0
      have HM1 := Lib.hid hm1; clear hm1
      clear hcell HR
      rcases hc with ⟨d1, d2, rfl⟩ | ⟨rfl, d1, d2, d3, d4, d5, hc⟩
      · go_wp2_with (first
          | (go_at_call 17; refine (next_calls _ _ _ _ HM0.out HM1.out).mono ?_; simp only [HN.out]; rintro e w' ⟨rfl, rfl⟩)
          | (go_at_call 11; refine (ok_calls _ _ HM0.out HM1.out).mono ?_; rintro e w' ⟨rfl, rfl⟩)
          | (go_at_call 12; refine (state_calls _ _ HM0.out HM1.out).mono ?_; rintro e w' ⟨rfl, rfl⟩)
          | (go_at_call 13; refine (gen_calls _ _ HM0.out HM1.out).mono ?_; rintro e w' ⟨rfl, rfl⟩)
          | (go_at_call 14; refine (last_calls _ _ HM0.out HM1.out).mono ?_; rintro e w' ⟨rfl, rfl⟩))
        go_round
        case rel => exact ⟨k + 1, _, by omega, by go_num, rfl, HM0.out, HM1.out, hm2⟩
        case measure => simp [intOf]; omega
      · have D2 := Lib.hid d2; clear d2
        have D3 := Lib.hid d3; clear d3
        rcases hc with ⟨e1, e2, e3⟩ | ⟨e1, e2, e3⟩ | ⟨e1, e2, e3, e4⟩ | ⟨e1, e2, e3⟩
        all_goals
          go_wp2_with (first
            | (go_at_call 17; refine (next_calls _ _ _ _ HM0.out HM1.out).mono ?_; simp only [HN.out]; rintro e w' ⟨rfl, rfl⟩)
            | (go_at_call 11; refine (ok_calls _ _ D2.out D3.out).mono ?_; rintro e w' ⟨rfl, rfl⟩)
            | (go_at_call 12; first | ((with_reducible refine (state_calls _ _ HM0.out HM1.out).mono ?_); rintro e w' ⟨rfl, rfl⟩) | ((with_reducible refine (state_calls _ _ D2.out D3.out).mono ?_); rintro e w' ⟨rfl, rfl⟩))
            | (go_at_call 13; first | ((with_reducible refine (gen_calls _ _ HM0.out HM1.out).mono ?_); rintro e w' ⟨rfl, rfl⟩) | ((with_reducible refine (gen_calls _ _ D2.out D3.out).mono ?_); rintro e w' ⟨rfl, rfl⟩))
            | (go_at_call 14; first | ((with_reducible refine (last_calls _ _ HM0.out HM1.out).mono ?_); rintro e w' ⟨rfl, rfl⟩) | ((with_reducible refine (last_calls _ _ D2.out D3.out).mono ?_); rintro e w' ⟨rfl, rfl⟩)))
          go_round
          case rel => exact ⟨k + 1, x, by omega, by go_num, rfl, D2.out, D3.out, d1⟩
          case measure => simp [intOf]; omega
    · go_wp2
      go_ret
      exact ⟨rfl, rfl⟩

/-- what the round of 'WordLast' meets -/
theorem last_cases (n e : Int) (p : Bool) (h0 : 0 ≤ n) (h1 : n < 18446744073709551616) (hk : okW n = true) :
    ∃ x er, nextW n e p = (x, er) ∧ (((er == 0) = false ∧ x = n) ∨
      (er = 0 ∧ 0 ≤ x ∧ x < 18446744073709551616 ∧ okW x = true ∧
        ((lastW n = true ∧ lastW x = true) ∨ (lastW n = false ∧ lastW x = false) ∨ (lastW n = false ∧ lastW x = true ∧ (e != 7) = false ∧ p = true) ∨
         (lastW n = true ∧ lastW x = false ∧ (e != 10) = false) ∨ (lastW n = true ∧ lastW x = false ∧ (e != 10) = true ∧ (e != 1) = false)))) := by
  have hc := nextW_cases n e p h0 h1 hk
  refine ⟨(nextW n e p).1, (nextW n e p).2, rfl, ?_⟩
  rcases hc with ⟨a, b⟩ | ⟨c1, c2, c3, c4, c5, c6, c7, c8, c9, c10⟩
  · refine .inl ⟨?_, a⟩; rcases b with ⟨b, _⟩ | b | b <;> rw [b] <;> rfl
  · refine .inr ⟨c1, c9, c10, c5, ?_⟩
    rw [c8]
    by_cases h7 : e = 7
    · subst h7
      have hst := toW_stop _ _ c4
      simp only [Bool.and_eq_true, Bool.not_eq_true'] at hst
      exact .inr (.inr (.inl ⟨hst.2, by simp, by simp, hst.1⟩))
    · rw [if_neg h7]
      by_cases h10 : e = 10
      · rw [if_pos (.inr h10)]
        cases hl : lastW n
        · exact .inr (.inl ⟨rfl, rfl⟩)
        · exact .inr (.inr (.inr (.inl ⟨rfl, rfl, by simp [h10]⟩)))
      · by_cases h1 : e = 1
        · rw [if_pos (.inl h1)]
          cases hl : lastW n
          · exact .inr (.inl ⟨rfl, rfl⟩)
          · exact .inr (.inr (.inr (.inr ⟨rfl, rfl, by simp [h10], by simp [h1]⟩)))
        · rw [if_neg (by omega)]
          cases hl : lastW n
          · exact .inr (.inl ⟨rfl, rfl⟩)
          · exact .inl ⟨rfl, rfl⟩

set_option maxRecDepth 100000 in
set_option maxHeartbeats 4000000 in
theorem lawLast_walk (n : Int) (a : Option Addr) (len cap : Nat) (p : Bool) (w : World) (h0 : 0 ≤ n) (h1 : n < 18446744073709551616) (hl : len ≤ 9223372036854775807) (hr : RowU8 w a len) :
    Calls Try.prog 8 #[.int .u64 n, .slice a len cap, .bool p] w fun e w' => e = .returned (.bool true) ∧ w = w' := by
  by_cases c1 : 200 < len
  · go_enter Try.func8, Try.ntmps8
    go_wp2_with (go_at_call 9; refine (alive_calls _).mono ?_; rintro e w' ⟨rfl, rfl⟩)
    go_ret
    exact ⟨rfl, rfl⟩
  have HR := Lib.hid hr; clear hr
  go_enter Try.func8, Try.ntmps8
  go_wp2_with (go_at_call 9; refine (alive_calls _).mono ?_; rintro e w' ⟨rfl, rfl⟩)
  go_loop [7, 8] (fun v i => ∃ (k : Nat) (m : Int), k ≤ len ∧ i = .int .i64 k ∧ v = .int .u64 m ∧ 0 ≤ m ∧ m < 18446744073709551616) (fun _ i => len - (intOf i).toNat)
  case atStart => exact ⟨0, n, by omega, rfl, rfl, h0, h1⟩
  case round =>
    obtain ⟨k, m, hk1, rfl, rfl, hm0, hm1⟩ := hrel
    by_cases hlt : k < len
    · cases hk : okW m
      · go_wp2_with (go_at_call 11; refine (ok_calls _ _ hm0 hm1).mono ?_; rintro e w' ⟨rfl, rfl⟩)
        go_ret
        exact ⟨rfl, rfl⟩
      obtain ⟨b, off, rfl, hcell⟩ := (HR.out).resolve_left (by omega)
      obtain ⟨v, v0, v1, hv⟩ := hcell k hlt
      obtain ⟨x, er, hn, hc⟩ := last_cases m (1 + v % 10) p hm0 hm1 hk
      have HN := Lib.hid hn; clear hn
      have HM0 := Lib.hid hm0; clear hm0
      have HM1 := Lib.hid hm1; clear hm1
      clear hcell HR
      rcases hc with ⟨d1, rfl⟩ | ⟨rfl, d2, d3, d4, hc⟩
      · go_wp2_with (first
          | (go_at_call 17; refine (next_calls _ _ _ _ HM0.out HM1.out).mono ?_; simp only [HN.out]; rintro e w' ⟨rfl, rfl⟩)
          | (go_at_call 11; refine (ok_calls _ _ HM0.out HM1.out).mono ?_; rintro e w' ⟨rfl, rfl⟩)
          | (go_at_call 14; refine (last_calls _ _ HM0.out HM1.out).mono ?_; rintro e w' ⟨rfl, rfl⟩))
        go_round
        case rel => exact ⟨k + 1, _, by omega, by go_num, rfl, HM0.out, HM1.out⟩
        case measure => simp [intOf]; omega
      · have D2 := Lib.hid d2; clear d2
        have D3 := Lib.hid d3; clear d3
        rcases hc with ⟨e1, e2⟩ | ⟨e1, e2⟩ | ⟨e1, e2, e3, rfl⟩ | ⟨e1, e2, e3⟩ | ⟨e1, e2, e3, e4⟩
        all_goals
          go_wp2_with (first
            | (go_at_call 17; refine (next_calls _ _ _ _ HM0.out HM1.out).mono ?_; simp only [HN.out]; rintro e w' ⟨rfl, rfl⟩)
            | (go_at_call 11; refine (ok_calls _ _ HM0.out HM1.out).mono ?_; rintro e w' ⟨rfl, rfl⟩)
            | (go_at_call 14; first | ((with_reducible refine (last_calls _ _ HM0.out HM1.out).mono ?_); rintro e w' ⟨rfl, rfl⟩) | ((with_reducible refine (last_calls _ _ D2.out D3.out).mono ?_); rintro e w' ⟨rfl, rfl⟩)))
          go_round
          case rel => exact ⟨k + 1, x, by omega, by go_num, rfl, D2.out, D3.out⟩
          case measure => simp [intOf]; omega
    · go_wp2
      go_ret
      exact ⟨rfl, rfl⟩
end Go.Proofs.Ythkcffanikhbnaa
