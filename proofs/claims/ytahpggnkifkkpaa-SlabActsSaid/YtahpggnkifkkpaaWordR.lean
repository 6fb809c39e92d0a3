import Derived.Test.YtahpggnkifkkpaaWordA
import Derived.Test.YtahpggnkifkkpaaWordT
namespace Go.Proofs.Ytahpggnkifkkpaa
set_option linter.unusedVariables false
set_option linter.unusedSimpArgs false
open Go.RowKit

set_option maxHeartbeats 400000 in
theorem parts_calls (n : Int) (w : World) (h0 : 0 ≤ n) (h1 : n < 18446744073709551616) :
    Calls Try.prog 48 #[.int .u64 n] w fun e w' => e = .returned (.tuple #[.int .i64 (stW n), .int .u64 (genW n), .bool (lastW n), .bool (okW n)]) ∧ w = w' := by
  go_enter Try.func48, Try.ntmps48
  go_wp2
  all_goals refine bodyPost_ret (v := .tuple #[.int .i64 (stW n), .int .u64 (genW n), .bool (lastW n), .bool (okW n)]) ?_ rfl ⟨rfl, rfl⟩
  all_goals simp only [results, Try.results48]
  all_goals simp [go_sem]
  all_goals go_light
  · have h : okW n = false := by simp only [okW, Bool.and_eq_false_iff, decide_eq_false_iff_not]; omega
    simp [stW, genW, lastW, h]
  · have h : okW n = true := by simp only [okW, Bool.and_eq_true, decide_eq_true_eq]; omega
    simp only [stW, genW, lastW, h, if_true, Bool.true_and, true_and]
    exact ⟨by omega, by rw [Bool.eq_iff_iff]; simp⟩
  · have h : okW n = false := by simp only [okW, Bool.and_eq_false_iff, decide_eq_false_iff_not]; omega
    simp [stW, genW, lastW, h]
  · have h : okW n = false := by simp only [okW, Bool.and_eq_false_iff, decide_eq_false_iff_not]; omega
    simp [stW, genW, lastW, h]

set_option maxHeartbeats 400000 in
theorem word_calls (s g : Int) (l : Bool) (w : World) (h0 : 0 ≤ s) (h1 : s ≤ 6) (h2 : 0 ≤ g) (h3 : g ≤ 4294967295) :
    Calls Try.prog 50 #[.int .i64 s, .int .u64 g, .bool l] w fun e w' => e = .returned (.int .u64 (packW s g l)) ∧ w = w' := by
  go_enter Try.func50, Try.ntmps50
  go_wp2
  all_goals go_ret
  all_goals refine ⟨ret_int ?_, rfl⟩
  all_goals (go_light; simp_all [packW]; try omega)


set_option maxRecDepth 100000 in
set_option maxHeartbeats 1000000 in
theorem rows_calls (w : World) :
    Calls Try.prog 49 #[] w fun e w' => e = .returned (.slice (some ⟨w.heap.size, 0, none⟩) 18 18) ∧ w' = w.alloc (.cells tabC 112) := by
  go_enter Try.func49, Try.ntmps49
  go_wp2
  go_ret
  exact ⟨rfl, rfl⟩

/-- the post of the table's answer: behind a definition, so that the walk leaves it whole -/
def RefPost (B : Nat) (w : World) (r : Int × Int) (e : Ending) (w' : World) : Prop := e = .returned (.tuple #[.int .u64 r.1, .int .i64 r.2]) ∧ Below B w w'

theorem over_of {n s g e : Int} {l a p : Bool} {r : RowW} {t : List RowW} (HF : nextW n e p = refW n s g l e a) (hF : findRW s e a rowsL = findRW s e a (r :: t)) (hfit : fitsRW s e a r = true)
    (ho : 4294967295 < g + r.2.2.2.2.1) : Ending.returned (.tuple #[.int .u64 n, .int .i64 9]) = .returned (.tuple #[.int .u64 (nextW n e p).1, .int .i64 (nextW n e p).2]) := by
  rw [HF, refW_found hF hfit, if_pos ho]
theorem done_of {n s g e : Int} {l a p X : Bool} {r : RowW} {t : List RowW} (HF : nextW n e p = refW n s g l e a) (hF : findRW s e a rowsL = findRW s e a (r :: t)) (hfit : fitsRW s e a r = true)
    (ho : ¬ 4294967295 < g + r.2.2.2.2.1) (hX : X = (r.2.2.2.2.2 == 1 || r.2.2.2.2.2 == 0 && l)) :
    Ending.returned (.tuple #[.int .u64 (packW r.2.2.2.1 (g + r.2.2.2.2.1) X), .int .i64 0]) = .returned (.tuple #[.int .u64 (nextW n e p).1, .int .i64 (nextW n e p).2]) := by
  rw [HF, refW_found hF hfit, if_neg ho, hX]

set_option maxRecDepth 100000 in
set_option maxHeartbeats 4000000 in
theorem refNext_main (n e : Int) (p : Bool) (w : World) (h0 : 0 ≤ n) (h1 : n < 18446744073709551616) (hk : okW n = true) (e0 : 1 ≤ e) (e1 : e ≤ 10) :
    Calls Try.prog 37 #[.int .u64 n, .int .i64 e, .bool p] w (RefPost w.heap.size w (nextW n e p)) := by
  have hb := ok_bd n h0 hk
  have hfin := nextW_ref n e p h0 hk e0 e1
  generalize hg : genW n = g at *
  generalize hs : stW n = s at *
  generalize hl : lastW n = l at *
  generalize ha : (p && !l) = a at *
  have H := Lib.hid hk; clear hk
  have HF := Lib.hid hfin; clear hfin
  have HG := Lib.hid hg; clear hg
  have HS := Lib.hid hs; clear hs
  have HL := Lib.hid hl; clear hl
  have HA := Lib.hid ha; clear ha
  obtain ⟨b1, b2, b3, b4⟩ := hb
  have he1 : ¬ e < 1 := by omega
  have he2 : ¬ 10 < e := by omega
  cases p <;> cases l
  all_goals
    go_enter Try.func37, Try.ntmps37
    go_wp2_with (first
      | (go_at_call 48; refine (parts_calls _ _ h0 h1).mono ?_; rw [H.out, HS.out, HG.out, HL.out]; rintro e w' ⟨rfl, rfl⟩)
      | (go_at_call 49; refine (rows_calls _).mono ?_; rintro e w' ⟨rfl, rfl⟩))
    go_loopw [13] (fun i wr => ∃ k : Nat, k ≤ 18 ∧ i = .int .i64 k ∧ Hid (findRW s e a rowsL = findRW s e a (rowsL.drop k)) ∧ Below (w.heap.size + 1) (w.alloc (.cells tabC 112)) wr) (fun i _ => 18 - (intOf i).toNat)
    case atStart => exact ⟨0, by omega, rfl, rfl, Below.refl _ _⟩
    case round =>
      obtain ⟨k, hk, rfl, hF, hB⟩ := hrel
      have hsz := hB.size
      simp only [World.size_alloc] at hsz
      by_cases hlt : k < 18
      · have hcell : ∀ j v, tabC[j]? = some v → wr.cell? ⟨w.heap.size, j, none⟩ = some v := by
          intro j v hj
          rw [hB.cell (p := ⟨w.heap.size, j, none⟩) (by simp)]
          exact (World.cell?_alloc_new _ _ _ _).trans hj
        have ht := tab_at k hlt
        have hbd := tab_bd k hlt
        have c0 := hcell _ _ ht.1
        have c1 := hcell _ _ ht.2.1
        have c2 := hcell _ _ ht.2.2.1
        have c3 := hcell _ _ ht.2.2.2.1
        have c4 := hcell _ _ ht.2.2.2.2.1
        have c5 := hcell _ _ ht.2.2.2.2.2
        have hd := Lib.hid (drop_RW k hlt)
        clear hcell ht
        generalize hR : RW k = r at *
        obtain ⟨r1, r2, r3, r4, r5, r6⟩ := r
        obtain ⟨d1, d2, d3, d4⟩ := hbd
        clear hR
        simp only at c0 c1 c2 c3 c4 c5 d1 d2 d3 d4
        go_wp2_with (go_at_call 50; refine (word_calls _ _ _ _ (by omega) (by omega) (by omega) (by omega)).mono ?_; rintro e w' ⟨rfl, rfl⟩)
        all_goals first
          | (go_roundw
             case rel => exact ⟨k + 1, by omega, by go_num, hF.out.trans ((congrArg _ hd.out).trans (find_miss (miss_of (by first | exact Or.inl ‹_› | exact Or.inr (Or.inl ‹_›) | exact Or.inr (Or.inr ⟨‹_›, HA.out.symm⟩))))), hB.alloc (by omega) _⟩
             case measure => simp [intOf]; omega)
          | (go_ret2
             exact ⟨over_of HF.out (hF.out.trans (congrArg _ hd.out)) (hit_of ‹_› ‹_› (by first | exact Or.inl ‹_› | exact Or.inr HA.out.symm)) ‹_›, ((Below.refl _ w).alloc (Nat.le_refl _) _).trans ((hB.mono (by omega)).alloc (by omega) _)⟩)
          | (go_ret2
             refine ⟨done_of HF.out (hF.out.trans (congrArg _ hd.out)) (hit_of ‹_› ‹_› (by first | exact Or.inl ‹_› | exact Or.inr HA.out.symm)) (by simp only; omega) ?_, ((Below.refl _ w).alloc (Nat.le_refl _) _).trans ((hB.mono (by omega)).alloc (by omega) _)⟩
             clear HF hF hd HA H HG HS HL
             go_light
             simp_all)
      · go_wp2
        go_ret2
        have h18 : k = 18 := by omega
        subst h18
        exact ⟨by rw [HF.out, refW_none hF.out]; rfl, ((Below.refl _ w).alloc (Nat.le_refl _) _).trans (hB.mono (by omega))⟩

set_option maxHeartbeats 1000000 in
theorem refNext_any (n e : Int) (p : Bool) (w : World) (h0 : 0 ≤ n) (h1 : n < 18446744073709551616) :
    Calls Try.prog 37 #[.int .u64 n, .int .i64 e, .bool p] w (RefPost w.heap.size w (nextW n e p)) := by
  cases hk : okW n
  · have hs : stW n = 0 := by simp [stW, hk]
    have hg : genW n = 0 := by simp [genW, hk]
    have hl : lastW n = false := by simp [lastW, hk]
    have hfin : nextW n e p = (n, 5) := by simp [nextW, hk]
    have HF := Lib.hid hfin; clear hfin
    go_enter Try.func37, Try.ntmps37
    go_wp2_with (go_at_call 48; refine (parts_calls _ _ h0 h1).mono ?_; rintro e w' ⟨rfl, rfl⟩)
    go_ret2
    exact ⟨by rw [HF.out]; rfl, Below.refl _ _⟩
  · by_cases he : e < 1 ∨ 10 < e
    · have hfin : nextW n e p = (n, 1) := by simp [nextW, hk, he]
      have HF := Lib.hid hfin; clear hfin
      by_cases he1 : e < 1
      · clear he
        go_enter Try.func37, Try.ntmps37
        go_wp2_with (go_at_call 48; refine (parts_calls _ _ h0 h1).mono ?_; rintro e w' ⟨rfl, rfl⟩)
        go_ret2
        exact ⟨by rw [HF.out]; rfl, Below.refl _ _⟩
      · have he2 : 10 < e := by omega
        clear he
        go_enter Try.func37, Try.ntmps37
        go_wp2_with (go_at_call 48; refine (parts_calls _ _ h0 h1).mono ?_; rintro e w' ⟨rfl, rfl⟩)
        go_ret2
        exact ⟨by rw [HF.out]; rfl, Below.refl _ _⟩
    · exact refNext_main n e p w h0 h1 hk (by omega) (by omega)

end Go.Proofs.Ytahpggnkifkkpaa
