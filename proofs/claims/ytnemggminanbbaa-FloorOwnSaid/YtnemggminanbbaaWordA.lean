import Derived.Test.YtnemggminanbbaaWordP
import Derived.Test.YtnemggminanbbaaChecked
import Derived.WalkKit
import Derived.WalkSpells
import Derived.WalkLawsBesides
import Derived.Lib.Hide
import Derived.Deep.Light
namespace Go.Proofs.Ytnemggminanbbaa
set_option linter.unusedVariables false
set_option linter.unusedSimpArgs false
open Go.RowKit

theorem ret_bool {a b : Bool} (h : a = b) : Ending.returned (.bool a) = .returned (.bool b) := by rw [h]
theorem ret_int {k : IntKind} {a b : Int} (h : a = b) : Ending.returned (.int k a) = .returned (.int k b) := by rw [h]

set_option maxHeartbeats 400000 in
theorem ok_calls (n : Int) (w : World) (h0 : 0 ≤ n) (h1 : n < 18446744073709551616):
    Calls Try.prog 91 #[.int .u64 n] w fun e w' => e = .returned (.bool (okW n)) ∧ w = w' := by
  have hk := ok_iff n h0 h1
  have hb := u64_and_mask n h0 h1
  have hw : wrap64 (bits BinOp.and IntKind.u64 n 7) = bits BinOp.and IntKind.u64 n 7 := by rw [hb]; unfold wrap64; omega
  have H := Lib.hid hk; clear hk
  clear hb
  go_enter Try.func91, Try.ntmps91
  go_wp2
  all_goals go_ret
  all_goals refine ⟨ret_bool ?_, rfl⟩
  · rename_i h
    rw [Bool.eq_iff_iff, H.out, decide_eq_true_eq]
    exact ⟨fun x => ⟨h, x⟩, fun x => x.2⟩
  · rename_i h
    rw [Bool.eq_iff_iff, H.out]
    exact ⟨fun x => by simp at x, fun x => absurd x.1 h⟩

set_option maxHeartbeats 400000 in
theorem state_calls (n : Int) (w : World) (h0 : 0 ≤ n) (h1 : n < 18446744073709551616):
    Calls Try.prog 93 #[.int .u64 n] w fun e w' => e = .returned (.int .i64 (stW n)) ∧ w = w' := by
  have hb := u64_and_mask n h0 h1
  have hw : wrap64 (n % 8) = n % 8 := by unfold wrap64; omega
  cases hk : okW n
  all_goals
    have H := Lib.hid hk; clear hk
    go_enter Try.func93, Try.ntmps93
    go_wp2_with (go_at_call 91; refine (ok_calls _ _ h0 h1).mono ?_; rw [H.out]; rintro e w' ⟨rfl, rfl⟩)
    go_ret
    exact ⟨ret_int (by simp [stW, H.out]), rfl⟩

set_option maxHeartbeats 400000 in
theorem gen_calls (n : Int) (w : World) (h0 : 0 ≤ n) (h1 : n < 18446744073709551616):
    Calls Try.prog 95 #[.int .u64 n] w fun e w' => e = .returned (.int .u64 (genW n)) ∧ w = w' := by
  cases hk : okW n
  all_goals
    have H := Lib.hid hk; clear hk
    go_enter Try.func95, Try.ntmps95
    go_wp2_with (go_at_call 91; refine (ok_calls _ _ h0 h1).mono ?_; rw [H.out]; rintro e w' ⟨rfl, rfl⟩)
    go_ret
    exact ⟨ret_int (by simp [genW, H.out]), rfl⟩

set_option maxHeartbeats 400000 in
theorem last_calls (n : Int) (w : World) (h0 : 0 ≤ n) (h1 : n < 18446744073709551616):
    Calls Try.prog 94 #[.int .u64 n] w fun e w' => e = .returned (.bool (lastW n)) ∧ w = w' := by
  have hb := u64_and_8 n h0 h1
  cases hk : okW n
  all_goals
    have H := Lib.hid hk; clear hk
    go_enter Try.func94, Try.ntmps94
    go_wp2_with (go_at_call 91; refine (ok_calls _ _ h0 h1).mono ?_; rw [H.out]; rintro e w' ⟨rfl, rfl⟩)
    go_ret
    exact ⟨ret_bool (by simp only [lastW, H.out]; rw [Bool.eq_iff_iff]; simp; try omega), rfl⟩

set_option maxHeartbeats 400000 in
theorem pack_calls (s g : Int) (l : Bool) (w : World) (h0 : 0 ≤ s) (h1 : s ≤ 6) (h2 : 0 ≤ g) (h3 : g ≤ 4294967295) :
    Calls Try.prog 96 #[.int .i64 s, .int .u64 g, .bool l] w fun e w' => e = .returned (.int .u64 (packW s g l)) ∧ w = w' := by
  have ha := or_join s g h0 (by omega) h2 h3
  have hb := or_8 s g h0 (by omega) h2 h3
  have H := Lib.hid (And.intro ha hb); clear ha hb
  go_enter Try.func96, Try.ntmps96
  go_wp2
  all_goals go_ret
  all_goals rw [H.out.1]
  · rw [H.out.2]; rename_i h; exact ⟨ret_int (by simp [packW, h]), rfl⟩
  · rename_i h; exact ⟨ret_int (by simp [packW, h]), rfl⟩

set_option maxHeartbeats 400000 in
theorem live_calls (s e : Int) (again : Bool) (w : World) :
    Calls Try.prog 97 #[.int .i64 s, .int .i64 e, .bool again] w fun r w' => r = .returned (.tuple #[.int .i64 (liveW s e again).1, .int .u64 (liveW s e again).2.1, .bool (liveW s e again).2.2]) ∧ w = w' := by
  go_enter Try.func97, Try.ntmps97
  go_wp2
  all_goals go_ret3
  all_goals refine ⟨?_, rfl⟩
  all_goals go_light
  all_goals simp_all [liveW]

set_option maxHeartbeats 1000000 in
theorem to_calls (s e : Int) (again : Bool) (w : World) :
    Calls Try.prog 92 #[.int .i64 s, .int .i64 e, .bool again] w fun r w' => r = .returned (.tuple #[.int .i64 (toW s e again).1, .int .u64 (toW s e again).2.1, .bool (toW s e again).2.2]) ∧ w = w' := by
  go_enter Try.func92, Try.ntmps92
  go_wp2_with (go_at_call 97; refine (live_calls _ _ _ _).mono ?_; rintro e w' ⟨rfl, rfl⟩)
  all_goals go_ret3
  all_goals refine ⟨?_, rfl⟩
  all_goals go_light
  all_goals simp_all [toW]

set_option maxHeartbeats 1000000 in
theorem next_calls (n e : Int) (p : Bool) (w : World) (h0 : 0 ≤ n) (h1 : n < 18446744073709551616) :
    Calls Try.prog 82 #[.int .u64 n, .int .i64 e, .bool p] w fun r w' => r = .returned (.tuple #[.int .u64 (nextW n e p).1, .int .i64 (nextW n e p).2]) ∧ w = w' := by
  cases hk : okW n
  · have H := Lib.hid hk; clear hk
    go_enter Try.func82, Try.ntmps82
    go_wp2_with (go_at_call 91; refine (ok_calls _ _ h0 h1).mono ?_; rw [H.out]; rintro e w' ⟨rfl, rfl⟩)
    go_ret2
    exact ⟨by simp [nextW, H.out], rfl⟩
  · by_cases he : e < 1 ∨ 10 < e
    · have hfin : nextW n e p = (n, 1) := by simp [nextW, hk, he]
      have H := Lib.hid hk; clear hk
      have HF := Lib.hid hfin; clear hfin
      by_cases he1 : e < 1
      · clear he
        go_enter Try.func82, Try.ntmps82
        go_wp2_with (go_at_call 91; refine (ok_calls _ _ h0 h1).mono ?_; rw [H.out]; rintro e w' ⟨rfl, rfl⟩)
        go_ret2
        exact ⟨by rw [HF.out]; rfl, rfl⟩
      · have he2 : 10 < e := by omega
        clear he
        go_enter Try.func82, Try.ntmps82
        go_wp2_with (go_at_call 91; refine (ok_calls _ _ h0 h1).mono ?_; rw [H.out]; rintro e w' ⟨rfl, rfl⟩)
        go_ret2
        exact ⟨by rw [HF.out]; rfl, rfl⟩
    · have hb := ok_bd n h0 hk
      have hf := toW_fits (stW n) e (p && !lastW n) hb.1 hb.2.1
      have hT := to_calls (stW n) e (p && !lastW n)
      have hfin : nextW n e p = nextW n e p := rfl
      conv at hfin => rhs; unfold nextW
      rw [hk, if_neg (by simp), if_neg he] at hfin
      generalize toW (stW n) e (p && !lastW n) = t at hT hf hfin
      obtain ⟨s', g', m⟩ := t
      simp only [FitsW] at hf hT hfin
      generalize hg : genW n = g at *
      generalize hs : stW n = s at *
      generalize hl : lastW n = l at *
      have H := Lib.hid hk; clear hk
      have HF := Lib.hid hfin; clear hfin
      have HT := Lib.hid hT; clear hT
      have HG := Lib.hid hg; clear hg
      have HS := Lib.hid hs; clear hs
      have HL := Lib.hid hl; clear hl
      obtain ⟨b1, b2, b3, b4⟩ := hb
      obtain ⟨c1, c2, c3, c4⟩ := hf
      have he1 : ¬ e < 1 := by omega
      have he2 : ¬ 10 < e := by omega
      clear he
      cases p
      all_goals
        go_enter Try.func82, Try.ntmps82
        go_wp2_with (first
          | (go_at_call 91; refine (ok_calls _ _ h0 h1).mono ?_; rw [H.out]; rintro e w' ⟨rfl, rfl⟩)
          | (go_at_call 93; refine (state_calls _ _ h0 h1).mono ?_; rw [HS.out]; rintro e w' ⟨rfl, rfl⟩)
          | (go_at_call 95; refine (gen_calls _ _ h0 h1).mono ?_; rw [HG.out]; rintro e w' ⟨rfl, rfl⟩)
          | (go_at_call 94; refine (last_calls _ _ h0 h1).mono ?_; rw [HL.out]; rintro e w' ⟨rfl, rfl⟩)
          | (go_at_call 92; refine (HT.out _).mono ?_; rintro e w' ⟨rfl, rfl⟩)
          | (go_at_call 96; refine (pack_calls _ _ _ _ (by omega) (by omega) (by omega) (by omega)).mono ?_; rintro e w' ⟨rfl, rfl⟩))
        all_goals go_ret2
        all_goals refine ⟨?_, rfl⟩
        all_goals rw [HF.out]
        all_goals clear H HF HT HG HS HL
        all_goals go_light
        all_goals simp_all
        all_goals (rw [if_neg (by omega)]; simp)
end Go.Proofs.Ytnemggminanbbaa
