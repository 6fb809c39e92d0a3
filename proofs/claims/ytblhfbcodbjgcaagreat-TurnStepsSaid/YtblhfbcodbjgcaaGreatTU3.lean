import Derived.Laws.BitsAllLaws
import Derived.Laws.Bits64b
import Derived.Test.YtblhfbcodbjgcaaGreatChecked
import Derived.WalkKit
import Derived.WalkSpells
import Derived.WalkLawsBesides
import Derived.Lib.Hide
import Derived.Deep.Light
import Derived.Test.YtblhfbcodbjgcaaGreatTU1
import Derived.Test.YtblhfbcodbjgcaaGreatTU2
namespace Go.Proofs.YtblhfbcodbjgcaaGreat
set_option linter.unusedVariables false
set_option linter.unusedSimpArgs false
def okW (n : Int) : Bool := decide (n % 8 ≤ 6) && decide (n / 16 % 16 = 0) && decide (n / 256 < 4294967296)
def stW (n : Int) : Int := if okW n = true then n % 8 else 0
def genW (n : Int) : Int := if okW n = true then n / 256 else 0
def lastW (n : Int) : Bool := okW n && decide (n / 8 % 2 = 1)
def packW (s g : Int) (l : Bool) : Int := s + 256 * g + (if l = true then 8 else 0)
def liveW (s e : Int) (again : Bool) : Int × Int × Bool :=
  if s = 4 then
    if again = true then
      if e = 6 then (5, 1, true) else if e = 8 then (2, 1, true) else (s, 0, again)
    else (s, 0, false)
  else if s = 2 ∨ s = 3 then
    if e = 6 then (5, 0, true) else if e = 8 then (2, 1, true) else (s, 0, again)
  else (s, 0, false)
def toW (s e : Int) (again : Bool) : Int × Int × Bool :=
  if e = 1 then (1, 1, (s == 0))
  else if e = 2 then (2, 0, (s == 1))
  else if e = 3 then (3, 0, (s == 2))
  else if e = 4 then (4, 0, (s == 3))
  else if e = 5 then (3, 1, (s == 4) && again)
  else if e = 9 then (if s = 1 then (0, 0, true) else (6, 0, (s == 4)))
  else if e = 10 then (0, 0, (s == 5) || (s == 6))
  else liveW s e again
def nextW (n e : Int) (p : Bool) : Int × Int :=
  if okW n = false then (n, 5)
  else if e < 1 ∨ 10 < e then (n, 1)
  else
    let t := toW (stW n) e (p && !lastW n)
    if t.2.2 = false then (n, 7)
    else if 4294967295 < genW n + t.2.1 then (n, 9)
    else (packW t.1 (genW n + t.2.1) (if e = 7 then true else if e = 1 ∨ e = 10 then false else lastW n), 0)
theorem and_shl (n k i : Nat) : n &&& (k <<< i) = ((n >>> i) &&& k) <<< i := by
  apply Nat.eq_of_testBit_eq
  intro j
  simp only [Nat.testBit_and, Nat.testBit_shiftLeft, Nat.testBit_shiftRight]
  by_cases h : i ≤ j
  · simp [h, show i + (j - i) = j from by omega]
  · simp [h]
theorem mask_nat (n : Nat) : (n &&& (18446744073709551615 - 1099511627535)) = (n / 16 % 16) * 16 + (n / 1099511627776 % 16777216) * 1099511627776 := by
  have e : (18446744073709551615 - 1099511627535 : Nat) = (15 <<< 4) ||| ((2^24-1) <<< 40) := by decide
  rw [e, Nat.and_or_distrib_left, and_shl, and_shl]
  rw [show (15:Nat) = 2^4 - 1 from rfl, Nat.and_two_pow_sub_one_eq_mod, Nat.and_two_pow_sub_one_eq_mod]
  simp only [Nat.shiftRight_eq_div_pow]
  have h2 : (n / 2^4 % 2^4) <<< 4 < 2^40 := by
    rw [Nat.shiftLeft_eq]; omega
  rw [Nat.or_comm, Nat.shiftLeft_eq _ 40, Nat.mul_comm, ← Nat.two_pow_add_eq_or_of_lt h2, Nat.shiftLeft_eq]
  omega
theorem u64_and_mask (n : Int) (h0 : 0 ≤ n) (h1 : n < 18446744073709551616) : bits .and .u64 n 7 = n % 8 := by
  obtain ⟨k, rfl⟩ := Int.eq_ofNat_of_zero_le h0
  rw [show (7 : Int) = ((7 : Nat) : Int) from rfl, u64_and_nat k 7 (by omega) (by omega)]
  rw [show (7 : Nat) = 2 ^ 3 - 1 from rfl, Nat.and_two_pow_sub_one_eq_mod]
  omega
theorem and8_nat (k : Nat) : k &&& 8 = k / 8 % 2 * 8 := by
  have h := and_shl k (2 ^ 1 - 1) 3
  rw [Nat.and_two_pow_sub_one_eq_mod, Nat.shiftRight_eq_div_pow] at h
  rw [show (8 : Nat) = (2 ^ 1 - 1) <<< 3 from rfl, h, Nat.shiftLeft_eq]
  rfl
theorem u64_and_8 (n : Int) (h0 : 0 ≤ n) (h1 : n < 18446744073709551616) : bits .and .u64 n 8 = (n / 8 % 2) * 8 := by
  obtain ⟨k, rfl⟩ := Int.eq_ofNat_of_zero_le h0
  rw [show (8 : Int) = ((8 : Nat) : Int) from rfl, u64_and_nat k 8 (by omega) (by omega), and8_nat]
  omega
theorem u64_andNot_mask (n : Int) (h0 : 0 ≤ n) (h1 : n < 18446744073709551616) :
    bits .andNot .u64 n 1099511627535 = (n / 16 % 16) * 16 + (n / 1099511627776 % 16777216) * 1099511627776 := by
  obtain ⟨k, rfl⟩ := Int.eq_ofNat_of_zero_le h0
  rw [show (1099511627535 : Int) = ((1099511627535 : Nat) : Int) from rfl, u64_andNot_nat k _ (by omega) (by omega), mask_nat]
  omega
theorem ok_iff (n : Int) (h0 : 0 ≤ n) (h1 : n < 18446744073709551616) :
    okW n = true ↔ bits .andNot .u64 n 1099511627535 = 0 ∧ bits .and .u64 n 7 ≤ 6 := by
  rw [u64_andNot_mask n h0 h1, u64_and_mask n h0 h1]
  simp only [okW, Bool.and_eq_true, decide_eq_true_eq]
  omega
theorem ok_bd (n : Int) (h0 : 0 ≤ n) (h : okW n = true) : 0 ≤ stW n ∧ stW n ≤ 6 ∧ 0 ≤ genW n ∧ genW n ≤ 4294967295 := by
  have h' := h
  simp only [okW, Bool.and_eq_true, decide_eq_true_eq] at h'
  rw [stW, genW, if_pos h, if_pos h]
  omega
theorem or_join (x y : Int) (hx0 : 0 ≤ x) (hx : x < 256) (hy0 : 0 ≤ y) (hy : y ≤ 4294967295) :
    bits .or .u64 x (y * 256) = x + 256 * y := by
  obtain ⟨a, rfl⟩ := Int.eq_ofNat_of_zero_le hx0
  obtain ⟨b, rfl⟩ := Int.eq_ofNat_of_zero_le hy0
  rw [show ((b : Int) * 256) = ((b * 256 : Nat) : Int) from by omega, u64_or_nat a (b * 256) (by omega) (by omega)]
  rw [show b * 256 = 2 ^ 8 * b from by omega, Nat.or_comm, ← Nat.two_pow_add_eq_or_of_lt (by omega)]
  omega
theorem or8_nat (a b : Nat) (ha : a < 8) : (2 ^ 8 * b + a) ||| 8 = 2 ^ 8 * b + (a + 8) := by
  have e : a ||| 8 = 2 ^ 3 * 1 + a := by rw [Nat.two_pow_add_eq_or_of_lt ha, Nat.or_comm]
  rw [Nat.two_pow_add_eq_or_of_lt (show a < 2 ^ 8 by omega), Nat.or_assoc, e, ← Nat.two_pow_add_eq_or_of_lt (by omega)]
  omega
theorem or_8 (x y : Int) (hx0 : 0 ≤ x) (hx : x < 8) (hy0 : 0 ≤ y) (hy : y ≤ 4294967295) :
    bits .or .u64 (x + 256 * y) 8 = x + 256 * y + 8 := by
  obtain ⟨a, rfl⟩ := Int.eq_ofNat_of_zero_le hx0
  obtain ⟨b, rfl⟩ := Int.eq_ofNat_of_zero_le hy0
  rw [show ((a : Int) + 256 * (b : Int)) = ((2 ^ 8 * b + a : Nat) : Int) from by omega, show (8 : Int) = ((8 : Nat) : Int) from rfl, u64_or_nat _ 8 (by omega) (by omega),
    or8_nat a b (by omega)]
  omega
def FitsW (t : Int × Int × Bool) : Prop := 0 ≤ t.1 ∧ t.1 ≤ 6 ∧ 0 ≤ t.2.1 ∧ t.2.1 ≤ 1
theorem ite_fits {c : Prop} [Decidable c] {a b : Int × Int × Bool} (ha : FitsW a) (hb : FitsW b) : FitsW (if c then a else b) := by
  split <;> assumption
theorem toW_fits (s e : Int) (again : Bool) (h0 : 0 ≤ s) (h1 : s ≤ 6) : FitsW (toW s e again) := by
  unfold toW liveW
  repeat' (refine ite_fits ?_ ?_)
  all_goals (simp only [FitsW]; omega)
theorem packW_parts (s g : Int) (l : Bool) (h0 : 0 ≤ s) (h1 : s ≤ 6) (h2 : 0 ≤ g) (h3 : g ≤ 4294967295) :
    okW (packW s g l) = true ∧ stW (packW s g l) = s ∧ genW (packW s g l) = g ∧ lastW (packW s g l) = l ∧ 0 ≤ packW s g l ∧ packW s g l < 18446744073709551616 := by
  have hk : okW (packW s g l) = true := by
    simp only [okW, Bool.and_eq_true, decide_eq_true_eq]
    cases l <;> simp [packW] <;> omega
  rw [stW, genW, lastW, if_pos hk, if_pos hk, hk]
  cases l <;> simp [packW] <;> omega
theorem nextW_cases (n e : Int) (p : Bool) (h0 : 0 ≤ n) (h1 : n < 18446744073709551616) (hk : okW n = true) :
    ((nextW n e p).1 = n ∧ ((nextW n e p).2 = 1 ∧ (e < 1 ∨ 10 < e) ∨ (nextW n e p).2 = 7 ∨ (nextW n e p).2 = 9)) ∨
    ((nextW n e p).2 = 0 ∧ 1 ≤ e ∧ e ≤ 10 ∧ (toW (stW n) e (p && !lastW n)).2.2 = true ∧ okW (nextW n e p).1 = true ∧
      stW (nextW n e p).1 = (toW (stW n) e (p && !lastW n)).1 ∧ genW (nextW n e p).1 = genW n + (toW (stW n) e (p && !lastW n)).2.1 ∧
      lastW (nextW n e p).1 = (if e = 7 then true else if e = 1 ∨ e = 10 then false else lastW n) ∧ 0 ≤ (nextW n e p).1 ∧ (nextW n e p).1 < 18446744073709551616) := by
  have hb := ok_bd n h0 hk
  have hf := toW_fits (stW n) e (p && !lastW n) hb.1 hb.2.1
  unfold nextW
  rw [hk, if_neg (by simp)]
  by_cases he : e < 1 ∨ 10 < e
  · rw [if_pos he]; exact .inl ⟨rfl, .inl ⟨rfl, he⟩⟩
  · rw [if_neg he]
    simp only
    generalize toW (stW n) e (p && !lastW n) = t at *
    simp only [FitsW] at hf
    cases hm : t.2.2
    · rw [if_pos rfl]; exact .inl ⟨rfl, .inr (.inl rfl)⟩
    · rw [if_neg (by simp)]
      by_cases ho : 4294967295 < genW n + t.2.1
      · rw [if_pos ho]; exact .inl ⟨rfl, .inr (.inr rfl)⟩
      · rw [if_neg ho]
        have hp := packW_parts t.1 (genW n + t.2.1) (if e = 7 then true else if e = 1 ∨ e = 10 then false else lastW n) hf.1 hf.2.1 (by omega) (by omega)
        exact .inr ⟨rfl, by omega, by omega, rfl, hp.1, hp.2.1, hp.2.2.1, hp.2.2.2.1, hp.2.2.2.2.1, hp.2.2.2.2.2⟩
end Go.Proofs.YtblhfbcodbjgcaaGreat

namespace Go.Proofs.YtblhfbcodbjgcaaGreat
set_option linter.unusedVariables false
set_option linter.unusedSimpArgs false
open Go.RowKit
theorem ret_bool {a b : Bool} (h : a = b) : Ending.returned (.bool a) = .returned (.bool b) := by rw [h]
theorem ret_int {k : IntKind} {a b : Int} (h : a = b) : Ending.returned (.int k a) = .returned (.int k b) := by rw [h]
set_option maxHeartbeats 400000 in
theorem ok_calls (n : Int) (w : World) (h0 : 0 ≤ n) (h1 : n < 18446744073709551616):
    Calls Tryz.prog 111 #[.int .u64 n] w fun e w' => e = .returned (.bool (okW n)) ∧ w = w' := by
  have hk := ok_iff n h0 h1
  have hb := u64_and_mask n h0 h1
  have hw : wrap64 (bits BinOp.and IntKind.u64 n 7) = bits BinOp.and IntKind.u64 n 7 := by rw [hb]; unfold wrap64; omega
  have H := Lib.hid hk; clear hk
  clear hb
  go_enter Tryz.func111, Tryz.ntmps111
  go_wp2
  all_goals go_ret
  all_goals refine ⟨ret_bool ?_, rfl⟩
  · rename_i h
    rw [Bool.eq_iff_iff, H.out, decide_eq_true_eq]
    exact ⟨fun x => ⟨h, x⟩, fun x => x.2⟩
  · rename_i h
    rw [Bool.eq_iff_iff, H.out]
    exact ⟨fun x => by simp at x, fun x => absurd x.1 h⟩
set_option maxHeartbeats 400000 in
theorem state_calls (n : Int) (w : World) (h0 : 0 ≤ n) (h1 : n < 18446744073709551616):
    Calls Tryz.prog 47 #[.int .u64 n] w fun e w' => e = .returned (.int .i64 (stW n)) ∧ w = w' := by
  have hb := u64_and_mask n h0 h1
  have hw : wrap64 (n % 8) = n % 8 := by unfold wrap64; omega
  cases hk : okW n
  all_goals
    have H := Lib.hid hk; clear hk
    go_enter Tryz.func47, Tryz.ntmps47
    go_wp2_with (go_at_call 111; refine (ok_calls _ _ h0 h1).mono ?_; rw [H.out]; rintro e w' ⟨rfl, rfl⟩)
    go_ret
    exact ⟨ret_int (by simp [stW, H.out]), rfl⟩
set_option maxHeartbeats 400000 in
theorem gen_calls (n : Int) (w : World) (h0 : 0 ≤ n) (h1 : n < 18446744073709551616):
    Calls Tryz.prog 209 #[.int .u64 n] w fun e w' => e = .returned (.int .u64 (genW n)) ∧ w = w' := by
  cases hk : okW n
  all_goals
    have H := Lib.hid hk; clear hk
    go_enter Tryz.func209, Tryz.ntmps209
    go_wp2_with (go_at_call 111; refine (ok_calls _ _ h0 h1).mono ?_; rw [H.out]; rintro e w' ⟨rfl, rfl⟩)
    go_ret
    exact ⟨ret_int (by simp [genW, H.out]), rfl⟩
set_option maxHeartbeats 400000 in
theorem last_calls (n : Int) (w : World) (h0 : 0 ≤ n) (h1 : n < 18446744073709551616):
    Calls Tryz.prog 236 #[.int .u64 n] w fun e w' => e = .returned (.bool (lastW n)) ∧ w = w' := by
  have hb := u64_and_8 n h0 h1
  cases hk : okW n
  all_goals
    have H := Lib.hid hk; clear hk
    go_enter Tryz.func236, Tryz.ntmps236
    go_wp2_with (go_at_call 111; refine (ok_calls _ _ h0 h1).mono ?_; rw [H.out]; rintro e w' ⟨rfl, rfl⟩)
    go_ret
    exact ⟨ret_bool (by simp only [lastW, H.out]; rw [Bool.eq_iff_iff]; simp; try omega), rfl⟩
set_option maxHeartbeats 400000 in
theorem pack_calls (s g : Int) (l : Bool) (w : World) (h0 : 0 ≤ s) (h1 : s ≤ 6) (h2 : 0 ≤ g) (h3 : g ≤ 4294967295) :
    Calls Tryz.prog 237 #[.int .i64 s, .int .u64 g, .bool l] w fun e w' => e = .returned (.int .u64 (packW s g l)) ∧ w = w' := by
  have ha := or_join s g h0 (by omega) h2 h3
  have hb := or_8 s g h0 (by omega) h2 h3
  have H := Lib.hid (And.intro ha hb); clear ha hb
  go_enter Tryz.func237, Tryz.ntmps237
  go_wp2
  all_goals go_ret
  all_goals rw [H.out.1]
  · rw [H.out.2]; rename_i h; exact ⟨ret_int (by simp [packW, h]), rfl⟩
  · rename_i h; exact ⟨ret_int (by simp [packW, h]), rfl⟩
set_option maxHeartbeats 400000 in
theorem live_calls (s e : Int) (again : Bool) (w : World) :
    Calls Tryz.prog 253 #[.int .i64 s, .int .i64 e, .bool again] w fun r w' => r = .returned (.tuple #[.int .i64 (liveW s e again).1, .int .u64 (liveW s e again).2.1, .bool (liveW s e again).2.2]) ∧ w = w' := by
  go_enter Tryz.func253, Tryz.ntmps253
  go_wp2
  all_goals go_ret3
  all_goals refine ⟨?_, rfl⟩
  all_goals go_light
  all_goals simp_all [liveW]
set_option maxHeartbeats 1000000 in
theorem to_calls (s e : Int) (again : Bool) (w : World) :
    Calls Tryz.prog 235 #[.int .i64 s, .int .i64 e, .bool again] w fun r w' => r = .returned (.tuple #[.int .i64 (toW s e again).1, .int .u64 (toW s e again).2.1, .bool (toW s e again).2.2]) ∧ w = w' := by
  go_enter Tryz.func235, Tryz.ntmps235
  go_wp2_with (go_at_call 253; refine (live_calls _ _ _ _).mono ?_; rintro e w' ⟨rfl, rfl⟩)
  all_goals go_ret3
  all_goals refine ⟨?_, rfl⟩
  all_goals go_light
  all_goals simp_all [toW]
set_option maxHeartbeats 1000000 in
theorem next_calls (n e : Int) (p : Bool) (w : World) (h0 : 0 ≤ n) (h1 : n < 18446744073709551616) :
    Calls Tryz.prog 205 #[.int .u64 n, .int .i64 e, .bool p] w fun r w' => r = .returned (.tuple #[.int .u64 (nextW n e p).1, .int .i64 (nextW n e p).2]) ∧ w = w' := by
  cases hk : okW n
  · have H := Lib.hid hk; clear hk
    go_enter Tryz.func205, Tryz.ntmps205
    go_wp2_with (go_at_call 111; refine (ok_calls _ _ h0 h1).mono ?_; rw [H.out]; rintro e w' ⟨rfl, rfl⟩)
    go_ret2
    exact ⟨by simp [nextW, H.out], rfl⟩
  · by_cases he : e < 1 ∨ 10 < e
    · have hfin : nextW n e p = (n, 1) := by simp [nextW, hk, he]
      have H := Lib.hid hk; clear hk
      have HF := Lib.hid hfin; clear hfin
      by_cases he1 : e < 1
      · clear he
        go_enter Tryz.func205, Tryz.ntmps205
        go_wp2_with (go_at_call 111; refine (ok_calls _ _ h0 h1).mono ?_; rw [H.out]; rintro e w' ⟨rfl, rfl⟩)
        go_ret2
        exact ⟨by rw [HF.out]; rfl, rfl⟩
      · have he2 : 10 < e := by omega
        clear he
        go_enter Tryz.func205, Tryz.ntmps205
        go_wp2_with (go_at_call 111; refine (ok_calls _ _ h0 h1).mono ?_; rw [H.out]; rintro e w' ⟨rfl, rfl⟩)
        go_ret2
        exact ⟨by rw [HF.out]; rfl, rfl⟩
    · have hb := ok_bd n h0 hk
      have hf := toW_fits (stW n) e (p && !lastW n) hb.1 hb.2.1
      have hT := to_calls (stW n) e (p && !lastW n)
      have hfin : nextW n e p = nextW n e p := rfl
      conv at hfin => rhs; unfold nextW
      rw [hk, if_neg (by simp), if_neg he] at hfin
      generalize toW (stW n) e (p && !lastW n) = t at hT hf hfin
      obtain ⟨s', g', m⟩ := t
      simp only [FitsW] at hf hT hfin
      generalize hg : genW n = g at *
      generalize hs : stW n = s at *
      generalize hl : lastW n = l at *
      have H := Lib.hid hk; clear hk
      have HF := Lib.hid hfin; clear hfin
      have HT := Lib.hid hT; clear hT
      have HG := Lib.hid hg; clear hg
      have HS := Lib.hid hs; clear hs
      have HL := Lib.hid hl; clear hl
      obtain ⟨b1, b2, b3, b4⟩ := hb
      obtain ⟨c1, c2, c3, c4⟩ := hf
      have he1 : ¬ e < 1 := by omega
      have he2 : ¬ 10 < e := by omega
      clear he
      cases p
      all_goals
        go_enter Tryz.func205, Tryz.ntmps205
        go_wp2_with (first
          | (go_at_call 111; refine (ok_calls _ _ h0 h1).mono ?_; rw [H.out]; rintro e w' ⟨rfl, rfl⟩)
          | (go_at_call 47; refine (state_calls _ _ h0 h1).mono ?_; rw [HS.out]; rintro e w' ⟨rfl, rfl⟩)
          | (go_at_call 209; refine (gen_calls _ _ h0 h1).mono ?_; rw [HG.out]; rintro e w' ⟨rfl, rfl⟩)
          | (go_at_call 236; refine (last_calls _ _ h0 h1).mono ?_; rw [HL.out]; rintro e w' ⟨rfl, rfl⟩)
          | (go_at_call 235; refine (HT.out _).mono ?_; rintro e w' ⟨rfl, rfl⟩)
          | (go_at_call 237; refine (pack_calls _ _ _ _ (by omega) (by omega) (by omega) (by omega)).mono ?_; rintro e w' ⟨rfl, rfl⟩))
        all_goals go_ret2
        all_goals refine ⟨?_, rfl⟩
        all_goals rw [HF.out]
        all_goals clear H HF HT HG HS HL
        all_goals go_light
        all_goals simp_all
        all_goals (rw [if_neg (by omega)]; simp)
end Go.Proofs.YtblhfbcodbjgcaaGreat

namespace Go.Proofs.YtblhfbcodbjgcaaGreat
set_option linter.unusedVariables false
set_option linter.unusedSimpArgs false
open Go.RowKit
def cellAt (C : Array Value) (o : Nat) (v : Value) : Prop :=
  C[o]? = some v ∧ ∃ l t u : Int, C[o + 1]? = some (.int .i64 l) ∧ C[o + 2]? = some (.int .i64 t) ∧ C[o + 3]? = some (.int .i64 u)
structure Recell (C : Array Value) (o : Nat) (v : Value) (C' : Array Value) : Prop where
  size : C'.size = C.size
  other : ∀ i, (i < o ∨ o + 4 ≤ i) → C'[i]? = C[i]?
  cell : cellAt C' o v
def CellPost (b : Nat) (T : TypeId) (C : Array Value) (o : Nat) (v r : Value) (e : Ending) (h' : PH) : Prop :=
  e = .returned r ∧ ∃ C', h' = [pt b T C'] ∧ Recell C o v C'
theorem Recell.trans {A B C : Array Value} {o : Nat} {u v : Value} (h : Recell A o u B) (k : Recell B o v C) : Recell A o v C :=
  ⟨k.size.trans h.size, fun i hi => (k.other i hi).trans (h.other i hi), k.cell⟩
theorem set_get {C : Array Value} {i j : Nat} {v : Value} : (C.setIfInBounds i v)[j]? = if i = j then (if i < C.size then some v else none) else C[j]? := by
  rw [Array.getElem?_setIfInBounds]
theorem lt_of_some {C : Array Value} {i : Nat} {v : Value} (h : C[i]? = some v) : i < C.size := (Array.getElem?_eq_some_iff.1 h).1
theorem get_set_ne {C : Array Value} {i j : Nat} {v : Value} (h : i ≠ j) : (C.setIfInBounds i v)[j]? = C[j]? := by rw [set_get, if_neg h]
theorem get_set_eq {C : Array Value} {i : Nat} {u v : Value} (h : C[i]? = some u) : (C.setIfInBounds i v)[i]? = some v := by rw [set_get, if_pos rfl, if_pos (lt_of_some h)]
section
variable {C : Array Value} {o : Nat} {v v' : Value} {l t u : Int}
theorem Recell.refl (h : cellAt C o v) : Recell C o v C := ⟨rfl, fun _ _ => rfl, h⟩
theorem recell_loads (h0 : C[o]? = some v) (h1 : C[o + 1]? = some (.int .i64 l)) (h2 : C[o + 2]? = some (.int .i64 t)) (h3 : C[o + 3]? = some (.int .i64 u)) {x : Int} :
    Recell C o v (C.setIfInBounds (o + 1) (.int .i64 x)) :=
  ⟨by simp, fun i hi => get_set_ne (by omega), (get_set_ne (by omega)).trans h0, x, t, u, get_set_eq h1, (get_set_ne (by omega)).trans h2, (get_set_ne (by omega)).trans h3⟩
theorem recell_tries (h0 : C[o]? = some v) (h1 : C[o + 1]? = some (.int .i64 l)) (h2 : C[o + 2]? = some (.int .i64 t)) (h3 : C[o + 3]? = some (.int .i64 u)) {x : Int} :
    Recell C o v (C.setIfInBounds (o + 2) (.int .i64 x)) :=
  ⟨by simp, fun i hi => get_set_ne (by omega), (get_set_ne (by omega)).trans h0, l, x, u, (get_set_ne (by omega)).trans h1, get_set_eq h2, (get_set_ne (by omega)).trans h3⟩
theorem recell_turned (h0 : C[o]? = some v) (h1 : C[o + 1]? = some (.int .i64 l)) (h2 : C[o + 2]? = some (.int .i64 t)) (h3 : C[o + 3]? = some (.int .i64 u)) {x : Int} :
    Recell C o v (C.setIfInBounds (o + 3) (.int .i64 x)) :=
  ⟨by simp, fun i hi => get_set_ne (by omega), (get_set_ne (by omega)).trans h0, l, t, x, (get_set_ne (by omega)).trans h1, (get_set_ne (by omega)).trans h2, get_set_eq h3⟩
theorem recell_value (hc : cellAt C o v) : Recell C o v' (C.setIfInBounds o v') := by
  obtain ⟨h0, l, t, u, h1, h2, h3⟩ := hc
  exact ⟨by simp, fun i hi => get_set_ne (by omega), get_set_eq h0, l, t, u, (get_set_ne (by omega)).trans h1, (get_set_ne (by omega)).trans h2, (get_set_ne (by omega)).trans h3⟩
theorem Recell.turned {A : Array Value} (h : Recell A o v C) {x : Int} : Recell A o v (C.setIfInBounds (o + 3) (.int .i64 x)) := by
  obtain ⟨h0, l, t, u, h1, h2, h3⟩ := h.cell
  exact h.trans (recell_turned h0 h1 h2 h3)
theorem recell_swap (h0 : C[o]? = some v) (h1 : C[o + 1]? = some (.int .i64 l)) (h2 : C[o + 2]? = some (.int .i64 t)) (h3 : C[o + 3]? = some (.int .i64 u)) {x y : Int} :
    Recell C o v' (((C.setIfInBounds (o + 2) (.int .i64 x)).setIfInBounds o v').setIfInBounds (o + 3) (.int .i64 y)) :=
  ((recell_tries h0 h1 h2 h3).trans (recell_value (recell_tries h0 h1 h2 h3).cell)).turned
theorem Recell.cellOther {C' : Array Value} (h : Recell C o v C') {o' : Nat} {x : Value} (hc : cellAt C o' x) (hd : o' + 4 ≤ o ∨ o + 4 ≤ o') : cellAt C' o' x := by
  obtain ⟨h0, l, t, u, h1, h2, h3⟩ := hc
  exact ⟨(h.other _ (by omega)).trans h0, l, t, u, (h.other _ (by omega)).trans h1, (h.other _ (by omega)).trans h2, (h.other _ (by omega)).trans h3⟩
end
end Go.Proofs.YtblhfbcodbjgcaaGreat

namespace Go.Proofs.YtblhfbcodbjgcaaGreat
set_option linter.unusedVariables false
set_option linter.unusedSimpArgs false
open Go.RowKit
theorem loadI_does (b o : Nat) (T : TypeId) (C : Array Value) (n : Int) (hc : cellAt C o (.int .i64 n)) :
    Does Tryz.prog 93 #[.pointer (some ⟨b, o, none⟩)] [pt b T C] (CellPost b T C o (.int .i64 n) (.int .i64 n)) := by
  intro w hw
  obtain ⟨h0, l, t, u, h1, h2, h3⟩ := hc
  have T0 := Turned.refl hw
  have hb := T0.blk 0 rfl
  have c0 : w.cell? ⟨b, o, none⟩ = some (.int .i64 n) := (blk_cell hb o).trans h0
  have c1 : w.cell? ⟨b, o + 1, none⟩ = some (.int .i64 l) := (blk_cell hb (o + 1)).trans h1
  have f1 := blk_free hb (o + 1)
  have T1 := Lib.hid T0
  have H := Lib.hid (And.intro h0 (And.intro h1 (And.intro h2 h3)))
  clear T0 hb hw h0 h1 h2 h3
  go_enter Tryz.func93, Tryz.ntmps93
  go_wp2
  go_ret
  obtain ⟨h0, h1, h2, h3⟩ := H.out
  exact ⟨_, ⟨rfl, _, rfl, recell_loads h0 h1 h2 h3⟩, T1.out.set (o + 1) _⟩
theorem swapI_does (b o : Nat) (T : TypeId) (C : Array Value) (n old new : Int) (hc : cellAt C o (.int .i64 n)) :
    Does Tryz.prog 225 #[.pointer (some ⟨b, o, none⟩), .int .i64 old, .int .i64 new] [pt b T C] (CellPost b T C o (.int .i64 (if n = old then new else n)) (.bool (decide (n = old)))) := by
  intro w hw
  obtain ⟨h0, l, t, u, h1, h2, h3⟩ := hc
  have T0 := Turned.refl hw
  have hb := T0.blk 0 rfl
  have c0 : w.cell? ⟨b, o, none⟩ = some (.int .i64 n) := (blk_cell hb o).trans h0
  have c2 : w.cell? ⟨b, o + 2, none⟩ = some (.int .i64 t) := (blk_cell hb (o + 2)).trans h2
  have c3 : w.cell? ⟨b, o + 3, none⟩ = some (.int .i64 u) := (blk_cell hb (o + 3)).trans h3
  have f0 := blk_free hb o
  have f2 := blk_free hb (o + 2)
  have f3 := blk_free hb (o + 3)
  have T1 := Lib.hid T0
  have H := Lib.hid (And.intro h0 (And.intro h1 (And.intro h2 h3)))
  clear T0 hb hw h0 h1 h2 h3
  by_cases he : n = old
  · subst he
    skip
    all_goals
      go_enter Tryz.func225, Tryz.ntmps225
      go_wp2
      go_ret
      obtain ⟨h0, h1, h2, h3⟩ := H.out
      exact ⟨_, ⟨by simp, _, rfl, recell_swap h0 h1 h2 h3⟩, ((T1.out.set (o + 2) _).set o _).set (o + 3) _⟩
  · skip
    all_goals
      go_enter Tryz.func225, Tryz.ntmps225
      go_wp2
      go_ret
      obtain ⟨h0, h1, h2, h3⟩ := H.out
      exact ⟨_, ⟨by simp [he], _, rfl, recell_tries h0 h1 h2 h3⟩, T1.out.set (o + 2) _⟩
theorem turnI_does (b o : Nat) (T : TypeId) (C : Array Value) (n v : Int) (ok : Bool) (g : Nat) (caps : Array Value) (F : PH) (hc : cellAt C o (.int .i64 n))
    (eg : ∀ args w, (callFunc g args).run Tryz.prog w = .ok (.enter g args) w)
    (hg : Does Tryz.prog g (#[.int .i64 n] ++ caps) F fun e h' => e = .returned (.tuple #[.int .i64 v, .bool ok]) ∧ h' = F) :
    Does Tryz.prog 189 #[.pointer (some ⟨b, o, none⟩), .func (.func g) #[] caps] (pt b T C :: F) fun e h' =>
      e = .returned (.tuple #[.int .i64 n, .bool ok]) ∧ ∃ C', h' = pt b T C' :: F ∧ Recell C o (.int .i64 (if ok = true then v else n)) C' := by
  intro w hw
  have T0 := Lib.hid (Turned.refl hw)
  have HC := Lib.hid hc
  have HG := Lib.hid hg
  clear hw hc hg
  cases ok
  · go_enter Tryz.func189, Tryz.ntmps189
    go_wp2_with (first
      | (go_at_call 93; refine ((loadI_does b o T C n HC.out).use T0.out (List.Perm.refl _)).mono ?_
         rintro e w1 ⟨h', ⟨rfl, C1, rfl, hr1⟩, T1⟩; have T1 := Lib.hid T1; have HR1 := Lib.hid hr1; clear hr1)
      | (refine (HG.out.use T1.out (List.perm_append_comm (l₁ := [pt b T C1]) (l₂ := F))).mono ?_
         rintro e w2 ⟨h', ⟨rfl, rfl⟩, T2⟩; have T2 := Lib.hid T2))
    go_ret2
    exact ⟨_, ⟨rfl, C1, rfl, HR1.out⟩, T2.out.perm (List.perm_append_comm)⟩
  · go_enter Tryz.func189, Tryz.ntmps189
    go_wp2_with (first
      | (go_at_call 93; refine ((loadI_does b o T C n HC.out).use T0.out (List.Perm.refl _)).mono ?_
         rintro e w1 ⟨h', ⟨rfl, C1, rfl, hr1⟩, T1⟩; have T1 := Lib.hid T1; have HR1 := Lib.hid hr1; clear hr1)
      | (go_at_call 225; refine ((swapI_does b o T C1 n n v HR1.out.cell).use T2.out (List.perm_append_comm)).mono ?_
         rintro e w3 ⟨h', ⟨rfl, C3, rfl, hr3⟩, T3⟩; rw [if_pos rfl] at hr3; have T3 := Lib.hid T3; have HR3 := Lib.hid hr3; clear hr3)
      | (refine (HG.out.use T1.out (List.perm_append_comm (l₁ := [pt b T C1]) (l₂ := F))).mono ?_
         rintro e w2 ⟨h', ⟨rfl, rfl⟩, T2⟩; have T2 := Lib.hid T2))
    all_goals go_ret2
    all_goals exact ⟨_, ⟨by simp, C3, rfl, HR1.out.trans HR3.out⟩, T3.out⟩
end Go.Proofs.YtblhfbcodbjgcaaGreat

namespace Go.Proofs.YtblhfbcodbjgcaaGreat
set_option linter.unusedVariables false
set_option linter.unusedSimpArgs false
open Go.RowKit Go.Shelf
section
variable {h H : GH} {w w' : World}
theorem TG.permAt (T : TG h w H w') (i : Nat) {g : List Blk} (hi : decide (i < H.length) = true) (hp : (H.getD i []).Perm g) : TG h w (H.set i g) w' := by
  have hi := of_decide_eq_true hi
  exact T.re ((perm_at hi).trans ((hp.append_right _).trans (perm_set g hi).symm))
theorem TG.part (T : TG h w H w') (i : Nat) {a b : List Blk} (hi : decide (i < H.length) = true) (hp : (H.getD i []).Perm (a ++ b)) : TG h w (H.set i b ++ [a]) w' := by
  have hi := of_decide_eq_true hi
  refine T.re ((perm_at hi).trans ((hp.append_right _).trans ?_))
  have e : (H.set i b ++ [a]).flatten = (H.set i b).flatten ++ a := by simp
  rw [e]
  refine List.Perm.trans ?_ ((perm_set b hi).symm.append_right a)
  rw [List.append_assoc]
  exact List.perm_append_comm
theorem TG.merge (T : TG h w H w') (i j : Nat) (hij : i ≠ j) (hi : decide (i < H.length) = true) (hj : decide (j < H.length) = true) : TG h w ((H.set j []).set i (H.getD i [] ++ H.getD j [])) w' := by
  have hi := of_decide_eq_true hi
  have hj := of_decide_eq_true hj
  have hi' : i < (H.set j []).length := by rw [List.length_set]; exact hi
  have e : (H.set j []).getD i [] = H.getD i [] := by rw [List.getD_eq_getElem?_getD, List.getElem?_set, if_neg (Ne.symm hij), ← List.getD_eq_getElem?_getD]
  refine T.re ((perm_at hj).trans ?_)
  refine List.Perm.trans ?_ (perm_set _ hi').symm
  refine ((perm_at hi').append_left _).trans ?_
  rw [e, ← List.append_assoc]
  exact List.perm_append_comm.append_right _
end
def famB {α : Type} (f : α → List Blk) (l : List α) : List Blk := l.flatMap f
section
variable {α : Type} {f : α → List Blk} {l : List α} {k : Nat} {a : α}
theorem fam_out (hk : l[k]? = some a) : (famB f l).Perm (f a ++ famB f (l.eraseIdx k)) := by
  unfold famB
  induction l generalizing k with
  | nil => simp at hk
  | cons x l ih =>
    cases k with
    | zero => simp only [List.getElem?_cons_zero, Option.some.injEq] at hk; subst hk; simp
    | succ k =>
      simp only [List.getElem?_cons_succ] at hk
      simp only [List.flatMap_cons, List.eraseIdx_cons_succ]
      refine ((ih hk).append_left _).trans ?_
      rw [← List.append_assoc, ← List.append_assoc]
      exact List.perm_append_comm.append_right _
theorem fam_in (hk : k < l.length) (a' : α) : (f a' ++ famB f (l.eraseIdx k)).Perm (famB f (l.set k a')) := by
  have h1 : (l.set k a')[k]? = some a' := by rw [List.getElem?_set, if_pos rfl, if_pos hk]
  have h2 := fam_out (f := f) h1
  rw [List.eraseIdx_set_eq] at h2
  exact h2.symm
theorem fam_snoc (x : α) : famB f (l ++ [x]) = famB f l ++ f x := by simp [famB]
theorem fam_set_same (hk : l[k]? = some a) : l.set k a = l := by
  apply List.ext_getElem?
  intro i
  rw [List.getElem?_set]
  split
  · next e => subst e; rw [hk]; simp [(List.getElem?_eq_some_iff.1 hk).1]
  · rfl
end
section
variable {h H : GH} {w w' : World} {α : Type} {f : α → List Blk} {l : List α} {k : Nat} {a : α}
theorem TG.out (T : TG h w H w') (i : Nat) (hi : decide (i < H.length) = true) (hg : H.getD i [] = famB f l) (hk : l[k]? = some a) : TG h w (H.set i (famB f (l.eraseIdx k)) ++ [f a]) w' :=
  T.part i hi (hg ▸ fam_out hk)
theorem TG.back (T : TG h w H w') (i j : Nat) (hij : i ≠ j) (hi : decide (i < H.length) = true) (hj : decide (j < H.length) = true) {a' : α} (hg : H.getD i [] = famB f (l.eraseIdx k)) (hgj : H.getD j [] = f a') (hk : k < l.length) :
    TG h w ((H.set j []).set i (famB f (l.set k a'))) w' := by
  have T1 := T.merge i j hij hi hj
  have hi' := of_decide_eq_true hi
  have T2 := T1.permAt i (g := famB f (l.set k a')) (by rw [List.length_set, List.length_set]; exact hi) (by
    rw [List.getD_eq_getElem?_getD, List.getElem?_set, if_pos rfl, if_pos (by rw [List.length_set]; exact hi'), Option.getD_some, hg, hgj]
    exact List.perm_append_comm.trans (fam_in hk a'))
  rwa [List.set_set] at T2
theorem TG.join (T : TG h w H w') (i j : Nat) (hij : i ≠ j) (hi : decide (i < H.length) = true) (hj : decide (j < H.length) = true) {x : α} (hg : H.getD i [] = famB f l) (hgj : H.getD j [] = f x) :
    TG h w ((H.set j []).set i (famB f (l ++ [x]))) w' := by
  have T1 := T.merge i j hij hi hj
  rwa [hg, hgj, ← fam_snoc] at T1
end
def FamP {α : Type} (P : α → List Blk → Prop) : List α → List Blk → Prop
  | [], g => g = []
  | a :: l, g => ∃ x y, P a x ∧ FamP P l y ∧ g = x ++ y
section
variable {α : Type} {P : α → List Blk → Prop}
theorem FamP.snoc {l : List α} {g x : List Blk} {a : α} (h : FamP P l g) (hx : P a x) : FamP P (l ++ [a]) (g ++ x) := by
  induction l generalizing g with
  | nil => obtain rfl : g = [] := h; exact ⟨x, [], hx, rfl, by simp⟩
  | cons b l ih =>
    obtain ⟨y, z, hy, hz, rfl⟩ := h
    exact ⟨y, z ++ x, hy, ih hz, by simp⟩
theorem FamP.out {l : List α} {g : List Blk} {k : Nat} {a : α} (h : FamP P l g) (hk : l[k]? = some a) :
    ∃ x y, P a x ∧ g.Perm (x ++ y) ∧ ∀ a' x', P a' x' → ∃ g', FamP P (l.set k a') g' ∧ (x' ++ y).Perm g' := by
  induction l generalizing g k with
  | nil => simp at hk
  | cons b l ih =>
    obtain ⟨u, v, hu, hv, rfl⟩ := h
    cases k with
    | zero =>
      simp only [List.getElem?_cons_zero, Option.some.injEq] at hk
      subst hk
      exact ⟨u, v, hu, List.Perm.refl _, fun a' x' hx' => ⟨x' ++ v, ⟨x', v, hx', hv, rfl⟩, List.Perm.refl _⟩⟩
    | succ k =>
      simp only [List.getElem?_cons_succ] at hk
      obtain ⟨x, y, hx, hp, hr⟩ := ih hv hk
      refine ⟨x, u ++ y, hx, ?_, fun a' x' hx' => ?_⟩
      · refine (hp.append_left u).trans ?_
        rw [← List.append_assoc, ← List.append_assoc]
        exact List.perm_append_comm.append_right _
      · obtain ⟨g', hg', hp'⟩ := hr a' x' hx'
        refine ⟨u ++ g', ⟨u, g', hu, hg', rfl⟩, ?_⟩
        refine List.Perm.trans ?_ (hp'.append_left u)
        rw [← List.append_assoc, ← List.append_assoc]
        exact List.perm_append_comm.append_right _
end
end Go.Proofs.YtblhfbcodbjgcaaGreat

namespace Go.Proofs.YtblhfbcodbjgcaaGreat
set_option linter.unusedVariables false
set_option linter.unusedSimpArgs false
open Go.RowKit Go.Shelf
abbrev ptr' (b : Nat) : Value := .pointer (some ⟨b, 0, none⟩)
def isLock (b : Nat) (who : Int) (n : Int) (g : List Blk) : Prop := ∃ C, g = [cl b 168 C] ∧ C.size = 5 ∧ cellAt C 0 (.int .i64 who) ∧ C[4]? = some (.int .i64 n)
theorem lockNew_g : DoesG Tryz.prog 130 #[] [] fun e gs => ∃ b g, e = .returned (ptr' b) ∧ isLock b 0 0 g ∧ gs = [g] := by
  intro w hw
  have T0 := TG.refl hw
  have HT := Lib.hid T0
  clear hw T0
  go_enter Tryz.func130, Tryz.ntmps130
  go_wp2
  go_ret
  exact ⟨_, ⟨_, _, rfl, ⟨_, rfl, rfl, ⟨rfl, 0, 0, 0, rfl, rfl, rfl⟩, rfl⟩, rfl⟩, HT.out.alloc rfl _ _⟩
theorem logNew_g : DoesG Tryz.prog 80 #[] [] fun e gs => ∃ b, e = .returned (ptr' b) ∧ gs = [[cl b 214 #[.slice none 0 0]]] := by
  intro w hw
  have T0 := TG.refl hw
  have HT := Lib.hid T0
  clear hw T0
  go_enter Tryz.func80, Tryz.ntmps80
  go_wp2
  go_ret
  exact ⟨_, ⟨_, rfl, rfl⟩, HT.out.alloc rfl _ _⟩
def noList (b hb : Nat) : List Blk := [cl b 248 #[.pointer none, .pointer none, .int .i64 0, ptr' hb], cl hb 269 #[.pointer none]]
theorem fireListNew_g : DoesG Tryz.prog 128 #[] [] fun e gs => ∃ b hb, e = .returned (ptr' b) ∧ gs = [noList b hb] := by
  intro w hw
  have T0 := TG.refl hw
  have HT := Lib.hid T0
  clear hw T0
  go_enter Tryz.func128, Tryz.ntmps128
  go_wp2
  go_ret
  exact ⟨_, ⟨_, _, rfl, rfl⟩, ((HT.out.alloc rfl _ _).alloc rfl _ _).re (by simp [noList]; exact List.Perm.swap _ _ _)⟩
structure TaskS where
  id : Int
  slot : Int
  gen : Int
  dl : Int
  per : Int
def TaskS.zero : TaskS := ⟨0, 0, 0, 0, 0⟩
structure SlotS where
  seq : Int
  v : TaskS
structure RingS where
  slots : List SlotS
  tail : Int
  head : Int
def taskAt (D : Array Value) (o : Nat) (t : TaskS) : Prop := D[o]? = some (.int .u64 t.id) ∧ D[o + 1]? = some (.int .i64 t.slot) ∧ D[o + 2]? = some (.int .u64 t.gen) ∧ D[o + 3]? = some (.int .u64 t.dl) ∧ D[o + 4]? = some (.int .u64 t.per)
def slotAt (D : Array Value) (i : Nat) (s : SlotS) : Prop := cellAt D (i * 9) (.int .i64 s.seq) ∧ taskAt D (i * 9 + 4) s.v
def isRing (rb : Nat) (r : RingS) (g : List Blk) : Prop := ∃ sb C D, g = [cl rb 231 C, cl sb 233 D] ∧ C.size = 6 ∧ C[0]? = some (.slice (some ⟨sb, 0, none⟩) r.slots.length r.slots.length) ∧ cellAt C 1 (.int .i64 r.tail) ∧
  C[5]? = some (.int .i64 r.head) ∧ D.size = r.slots.length * 9 ∧ ∀ i s, r.slots[i]? = some s → slotAt D i s
theorem storeI_g (b o : Nat) (T : TypeId) (C : Array Value) (u : Value) (x : Int) (hc : C[o]? = some u) :
    DoesG Tryz.prog 145 #[.pointer (some ⟨b, o, none⟩), .int .i64 x] [[cl b T C]] fun e gs => e = .returned (.tuple #[]) ∧ gs = [[cl b T (C.setIfInBounds o (.int .i64 x))]] := by
  intro w hw
  have T0 := TG.refl hw
  have HT := Lib.hid T0
  clear hw T0
  have c0 := (HT.out.cell 0 0 rfl o).trans hc
  have f0 := HT.out.free 0 0 rfl o
  clear hc
  go_enter Tryz.func145, Tryz.ntmps145
  go_wp2
  refine bodyPost_end (results_none rfl _ _ _) rfl ⟨_, ⟨rfl, rfl⟩, HT.out.set 0 0 rfl o _⟩
def newRing (n : Nat) : RingS := ⟨(List.range n).map fun (i : Nat) => ⟨2 * (i : Int), TaskS.zero⟩, 0, 0⟩
def slotC : Array Value := #[.int .i64 0, .int .i64 0, .int .i64 0, .int .i64 0, .int .u64 0, .int .i64 0, .int .u64 0, .int .u64 0, .int .u64 0]
theorem slot_info : (Tryz.prog.info? 233).map (fun i => (i.zero, i.size, i.bytes)) = some (some (.agg slotC), 9, 72) := by kernel_rfl
def ringD (n k : Nat) (D : Array Value) : Prop := D.size = n * 9 ∧ ∀ i, i < n → slotAt D i ⟨if i < k then 2 * (i : Int) else 0, TaskS.zero⟩
theorem ringD_new (n : Nat) : ringD n 0 (madeCells slotC (n * 9)) := by
  refine ⟨size_madeCells _ _, fun i hi => ?_⟩
  rw [if_neg (Nat.not_lt_zero _)]
  have hz : slotC.size = 9 := rfl
  have g : ∀ j, j < 9 → (madeCells slotC (n * 9))[i * 9 + j]? = slotC[j]? := fun j hj => made_get _ n 9 i j hz hi hj
  exact ⟨⟨g 0 (by decide), 0, 0, 0, g 1 (by decide), g 2 (by decide), g 3 (by decide)⟩, g 4 (by decide), g 5 (by decide), g 6 (by decide), g 7 (by decide), g 8 (by decide)⟩
theorem slotAt_set {D : Array Value} {i j : Nat} {s : SlotS} (h : slotAt D i s) (x : Int) : slotAt (D.setIfInBounds (j * 9) (.int .i64 x)) i (if i = j then { s with seq := x } else s) := by
  obtain ⟨⟨a0, l, t, u, a1, a2, a3⟩, b0, b1, b2, b3, b4⟩ := h
  by_cases e : i = j
  · subst e
    rw [if_pos rfl]
    exact ⟨⟨get_set_eq a0, l, t, u, (get_set_ne (by omega)).trans a1, (get_set_ne (by omega)).trans a2, (get_set_ne (by omega)).trans a3⟩, (get_set_ne (by omega)).trans b0, (get_set_ne (by omega)).trans b1, (get_set_ne (by omega)).trans b2, (get_set_ne (by omega)).trans b3, (get_set_ne (by omega)).trans b4⟩
  · rw [if_neg e]
    exact ⟨⟨(get_set_ne (by omega)).trans a0, l, t, u, (get_set_ne (by omega)).trans a1, (get_set_ne (by omega)).trans a2, (get_set_ne (by omega)).trans a3⟩, (get_set_ne (by omega)).trans b0, (get_set_ne (by omega)).trans b1, (get_set_ne (by omega)).trans b2, (get_set_ne (by omega)).trans b3, (get_set_ne (by omega)).trans b4⟩
theorem ringD_next {n k : Nat} {D : Array Value} (h : ringD n k D) (hk : k < n) : ringD n (k + 1) (D.setIfInBounds (k * 9) (.int .i64 (2 * k))) := by
  refine ⟨by rw [Array.size_setIfInBounds]; exact h.1, fun i hi => ?_⟩
  have h2 := slotAt_set (j := k) (h.2 i hi) (2 * k)
  by_cases e : i = k
  · subst e
    rw [if_pos rfl] at h2
    rw [if_pos (by omega)]
    exact h2
  · rw [if_neg e] at h2
    have e2 : (if i < k + 1 then 2 * (i : Int) else 0) = if i < k then 2 * (i : Int) else 0 := by
      by_cases h3 : i < k
      · rw [if_pos h3, if_pos (by omega)]
      · rw [if_neg h3, if_neg (by omega)]
    rw [e2]; exact h2
set_option maxRecDepth 100000 in
set_option maxHeartbeats 4000000 in
theorem ringNew_g (n : Nat) (h1 : 1 ≤ n) (h2 : n ≤ 64) : DoesG Tryz.prog 129 #[.int .i64 n] [] fun e gs => ∃ b g, e = .returned (.tuple #[ptr' b, .int .i64 0]) ∧ isRing b (newRing n) g ∧ gs = [g] := by
  intro w hw
  have T0 := TG.refl hw
  have HT := Lib.hid T0
  clear hw T0
  have hmk : ∀ w, (Instr.makeSlice 229 (.int .i64 (n : Int)) (.int .i64 (n : Int))).run Tryz.prog w = .ok (.slice (some ⟨w.heap.size, 0, none⟩) n n) (w.alloc (.cells (madeCells slotC (n * 9)) 233)) := run_make_n _ _ (.agg slotC) 9 72 Tryz.underlying229 slot_info n (by omega) (by omega)
  have hd1 : decide ((n : Int) < 1) = false := by simp; omega
  have hd2 : decide (64 < (n : Int)) = false := by simp; omega
  go_enter Tryz.func129, Tryz.ntmps129
  go_wp2
  have T1 := (HT.out.alloc (k := w.heap.size) rfl 233 (madeCells slotC (n * 9))).alloc (k := w.heap.size + 1) (by simp) 231 #[.slice (some ⟨w.heap.size, 0, none⟩) n n, .int .i64 0, .int .i64 0, .int .i64 0, .int .i64 0, .int .i64 0]
  obtain ⟨sb, hsb⟩ : ∃ sb, sb = w.heap.size := ⟨_, rfl⟩
  rw [← hsb] at T1 ⊢
  obtain ⟨rb, hrb⟩ : ∃ rb, rb = sb + 1 := ⟨_, rfl⟩
  rw [← hrb] at T1 ⊢
  go_loopw [5, 21] (fun _ i wr => ∃ (k : Nat) (D : Array Value), k ≤ n ∧ i = .int .i64 k ∧ ringD n k D ∧ TG [] w [[cl sb 233 D], [cl rb 231 #[.slice (some ⟨sb, 0, none⟩) n n, .int .i64 0, .int .i64 0, .int .i64 0, .int .i64 0, .int .i64 0]]] wr) (fun _ i _ => n + 1 - (intOf i).toNat)
  case atStart => exact ⟨0, _, by omega, rfl, ringD_new n, T1⟩
  case round =>
    obtain ⟨k, D, hk, rfl, hD, T⟩ := hrel
    have HT := Lib.hid T
    have HD := Lib.hid hD
    have c1 := T.cell 1 0 rfl
    clear T T1 hD hsb hrb
    by_cases hlt : k < n
    · go_wp2_with fail
      refine (DoesG.use (storeI_g sb (k * 9) 233 D _ (2 * k) (HD.out.2 k hlt).1.1) (HT.out) [0] rfl rfl).mono ?_
      rintro e w1 ⟨gs, ⟨rfl, rfl⟩, Ta⟩
      simp only [PU] at Ta
      have HT := Lib.hid Ta
      clear Ta
      go_wp2
      first
      | (go_roundw
         case rel => exact ⟨k + 1, _, by omega, by go_num, ringD_next HD.out hlt, HT.out⟩
         case measure => simp [intOf]; omega)
      | exact ⟨⟨k + 1, _, by omega, by go_num, ringD_next HD.out hlt, HT.out⟩, by simp [intOf]; omega⟩
      | ((repeat apply Exists.intro); exact ⟨⟨⟨k + 1, _, by omega, by go_num, ringD_next HD.out hlt, HT.out⟩, rfl⟩, by simp [intOf]; omega⟩)
    · obtain rfl : k = n := by omega
      go_wp2
      go_ret2
      refine ⟨_, ⟨_, [cl rb 231 _, cl sb 233 D], rfl, ⟨sb, _, D, rfl, rfl, by simp [newRing], ⟨rfl, 0, 0, 0, rfl, rfl, rfl⟩, rfl, by simpa [newRing] using HD.out.1, fun i s hs => ?_⟩, rfl⟩, HT.out.re (List.Perm.swap _ _ _)⟩
      have hi : i < k := by have := (List.getElem?_eq_some_iff.1 hs).1; simpa [newRing] using this
      have h2 := HD.out.2 i hi
      rw [if_pos hi] at h2
      have e : s = ⟨2 * (i : Int), TaskS.zero⟩ := by simp [newRing, hi] at hs; exact hs.symm
      rw [e]; exact h2
end Go.Proofs.YtblhfbcodbjgcaaGreat
