import Derived.Test.YthcdpkgfphgkoaaSlabM
import Derived.Test.YthcdpkgfphgkoaaArg
import Derived.Outline
namespace Go.Proofs.Ythcdpkgfphgkoaa
set_option linter.unusedVariables false
set_option linter.unusedSimpArgs false
open Go.RowKit

/-! ## A request alone -/
def aloneS (s : SlabS) (j : Nat) (r : Rec) : SlabS := { recs := s.recs.set j (takenR r 0), count := s.count + 1 }
/-- behind so many steps, where the first free record is j -/
def runS (s : SlabS) (j : Nat) (r : Rec) (m : Nat) : SlabS := if m ≤ 1 then s else if m ≤ j + 2 then { s with count := s.count + 1 } else aloneS s j r
def runQ (s : SlabS) (j : Nat) (r : Rec) (m : Nat) : Req :=
  if m = 1 then ⟨0, 1, s.count, 0, 0, 0⟩ else if m ≤ j + 2 then ⟨0, 2, s.count, ((m - 2 : Nat) : Int), 0, 0⟩ else ⟨0, 2, s.count, j, (r.g + 1) * 64 + j, 2⟩
theorem run_first {s : SlabS} (hc : s.count < s.recs.length) (j : Nat) (r : Rec) : stepR s (newReq 0) = (s, runQ s j r 1) := by
  unfold stepR
  rw [if_neg (by simp [newReq]), if_pos (show (newReq 0).next = 0 from rfl)]
  unfold lookR
  rw [if_neg (by omega)]
  rfl
theorem run_next {s : SlabS} {n : Nat} {t : Int} (h : Tame s n t 0) (ht : t < 4294967295) {j : Nat} {r : Rec} (hj : s.recs[j]? = some r) (hb : busyB r = false) (hlt : ∀ (i : Nat) (x : Rec), i < j → s.recs[i]? = some x → busyB x = true) {m : Nat} (h1 : 1 ≤ m) (h2 : m < j + 3) :
    stepR (runS s j r m) (runQ s j r m) = (runS s j r (m + 1), runQ s j r (m + 1)) := by
  have hjl := (List.getElem?_eq_some_iff.1 hj).1
  by_cases h3 : m = 1
  · subst h3
    have e1 : runS s j r 1 = s := if_pos (Nat.le_refl 1)
    have e2 : runS s j r 2 = { s with count := s.count + 1 } := by unfold runS; rw [if_neg (by omega), if_pos (by omega)]
    have e3 : runQ s j r 2 = ⟨0, 2, s.count, 0, 0, 0⟩ := by unfold runQ; rw [if_neg (by omega), if_pos (by omega)]; rfl
    rw [e1, e2, e3]
    unfold stepR
    rw [if_neg (by simp [runQ]), if_neg (by simp [runQ]), if_pos (show (runQ s j r 1).next = 1 from rfl)]
    unfold moreR
    exact if_pos rfl
  · obtain ⟨i, rfl⟩ : ∃ i, m = i + 2 := ⟨m - 2, by omega⟩
    have e1 : runS s j r (i + 2) = { s with count := s.count + 1 } := by unfold runS; rw [if_neg (by omega), if_pos (by omega)]
    have e2 : runQ s j r (i + 2) = ⟨0, 2, s.count, (i : Int), 0, 0⟩ := by unfold runQ; rw [if_neg (by omega), if_pos (by omega)]; rfl
    rw [e1, e2]
    by_cases h4 : i = j
    · subst h4
      obtain ⟨ho, _, hg⟩ := h.get hj
      have e3 : runS s i r (i + 2 + 1) = aloneS s i r := by unfold runS; rw [if_neg (by omega), if_neg (by omega)]
      have e4 : runQ s i r (i + 2 + 1) = ⟨0, 2, s.count, i, (r.g + 1) * 64 + i, 2⟩ := by unfold runQ; rw [if_neg (by omega), if_neg (by omega)]
      rw [e3, e4]
      exact seek_free (s := { s with count := s.count + 1 }) (q := ⟨0, 2, s.count, (i : Int), 0, 0⟩) (k := i) (r := r) rfl rfl rfl hj ho (of_free hb) (by omega)
    · have hil : i < s.recs.length := by omega
      have hx := List.getElem?_eq_getElem hil
      obtain ⟨ho, _, hg⟩ := h.get hx
      have e3 : runS s j r (i + 2 + 1) = { s with count := s.count + 1 } := by unfold runS; rw [if_neg (by omega), if_pos (by omega)]
      have e4 : runQ s j r (i + 2 + 1) = ⟨0, 2, s.count, ((i + 1 : Nat) : Int), 0, 0⟩ := by unfold runQ; rw [if_neg (by omega), if_pos (by omega)]; rfl
      rw [e3, e4]
      exact seek_busy (s := { s with count := s.count + 1 }) (q := ⟨0, 2, s.count, (i : Int), 0, 0⟩) (k := i) rfl rfl rfl hx ho (of_busy (hlt i _ (by omega) hx)) (by show i + 1 < s.recs.length; omega)
theorem run_ok {s : SlabS} {n : Nat} {t : Int} (h : Tame s n t 0) (ht : t < 4294967295) (hc : s.count < n) {j : Nat} {r : Rec} (hj : s.recs[j]? = some r) (hb : busyB r = false) (hlt : ∀ (i : Nat) (x : Rec), i < j → s.recs[i]? = some x → busyB x = true) {m : Nat} (h1 : 1 ≤ m) (h2 : m ≤ j + 3) :
    SlabOk (runS s j r m) ∧ ReqOk (runS s j r m).recs.length (runQ s j r m) := by
  induction m with
  | zero => omega
  | succ m ih =>
    by_cases h3 : m = 0
    · subst h3
      have h5 := stepR_ok h.ok (newReq_ok h.ok.n0 (Int.le_refl 0) (by decide))
      rw [run_first (by have := h.len; omega) j r] at h5
      exact ⟨h5.1, h5.2.1⟩
    · have h4 := ih (by omega) (by omega)
      have h5 := stepR_ok h4.1 h4.2
      rw [run_next h ht hj hb hlt (by omega) (by omega)] at h5
      exact ⟨h5.1, by rw [h5.2.2]; exact h5.2.1⟩
theorem run_full {s : SlabS} (hc : (s.recs.length : Int) ≤ s.count) : stepR s (newReq 0) = (s, ⟨0, 0, s.count, 0, 0, 1⟩) := by
  unfold stepR
  rw [if_neg (by simp [newReq]), if_pos (show (newReq 0).next = 0 from rfl)]
  unfold lookR
  rw [if_pos hc]
  rfl
theorem run_st {s : SlabS} {j : Nat} {r : Rec} {m : Nat} : (runQ s j r m).st = if m = 1 ∨ m ≤ j + 2 then 0 else 2 := by
  unfold runQ
  by_cases h1 : m = 1
  · simp [h1]
  · by_cases h2 : m ≤ j + 2
    · simp [h1, h2]
    · simp [h1, h2]

theorem alone_tame {s : SlabS} {n k : Nat} (h : Tame s n k 0) (hc : s.count < n) (hk : k ≤ 200) {j : Nat} {r : Rec} (hj : s.recs[j]? = some r) (hb : busyB r = false) : Tame (aloneS s j r) n ((k + 1 : Nat) : Int) 0 := by
  have h1 := tame_more h hc
  have h2 := tame_taken h1 (k := j) (r := r) hj (of_free hb) (p := 0) (by omega) (Int.le_refl 0) (by decide)
  exact h2
theorem run_last (s : SlabS) (j : Nat) (r : Rec) : runS s j r (j + 3) = aloneS s j r := by unfold runS; rw [if_neg (by omega), if_neg (by omega)]
def stOf (j m : Nat) : Int := if m ≤ j + 2 then 0 else 2
theorem run_stOf (s : SlabS) {j : Nat} (r : Rec) {m : Nat} (h : 1 ≤ m) : (runQ s j r m).st = stOf j m := by
  rw [run_st]; unfold stOf
  by_cases h2 : m ≤ j + 2
  · rw [if_pos (.inr h2), if_pos h2]
  · rw [if_neg (by omega), if_neg h2]
theorem run_step {sb qb : Nat} {s : SlabS} {j : Nat} {r : Rec} {m : Nat} {g : List Blk} (hN : stepR (runS s j r m) (runQ s j r m) = (runS s j r (m + 1), runQ s j r (m + 1))) (hg : isSlab sb (runS s j r m) g)
    (hO : SlabOk (runS s j r m) ∧ ReqOk (runS s j r m).recs.length (runQ s j r m)) :
    DoesG Try.prog 14 #[ptr qb] [reqG qb sb (runQ s j r m), g] fun e gs => e = .returned (.int .i64 (stOf j (m + 1))) ∧ ∃ g', isSlab sb (runS s j r (m + 1)) g' ∧ gs = [reqG qb sb (runQ s j r (m + 1)), g'] := by
  have := reqStep_c (qb := qb) _ hN hg hO.1 hO.2
  rwa [run_stOf s r (by omega)] at this

set_option maxRecDepth 100000 in
set_option maxHeartbeats 4000000 in
theorem lawAlone_walk (n : Int) (a : Option Addr) (cap : Nat) (zs : List Int) (w : World) (h0 : 0 ≤ n) (h1 : n ≤ 255) (ha : ArgU8 w a zs) :
    Calls Try.prog 3 #[.int .u8 n, .slice a zs.length cap] w fun e w' => e = .returned (.bool true) ∧ Below w.heap.size w w' := by
  have HT := Lib.hid (TG.ofW (w := w))
  by_cases hlen : 200 < zs.length
  · go_enter Try.func3, Try.ntmps3
    go_wp2_with fail
    refine (DoesG.use (alive_g) (HT.out) [] rfl rfl).mono ?_
    rintro e w1 ⟨gs, ⟨rfl, rfl⟩, Ta⟩
    simp only [putG, List.set_cons_zero, List.set_cons_succ, List.cons_append, List.nil_append, List.append_nil] at Ta
    have HT := Lib.hid Ta
    clear Ta
    go_wp2
    go_ret
    exact ⟨rfl, HT.out.bel⟩
  obtain ⟨room, hroom⟩ : ∃ room : Nat, (room : Int) = 1 + n % 16 := ⟨(1 + n % 16).toNat, by omega⟩
  have hr1 : 1 ≤ room := by omega
  have hr2 : room ≤ 16 := by omega
  have HR := Lib.hid hroom
  clear hroom
  go_enter Try.func3, Try.ntmps3
  go_wp2_with fail
  refine (DoesG.use (alive_g) (HT.out) [] rfl rfl).mono ?_
  rintro e w1 ⟨gs, ⟨rfl, rfl⟩, Ta⟩
  simp only [putG, List.set_cons_zero, List.set_cons_succ, List.cons_append, List.nil_append, List.append_nil] at Ta
  have HT := Lib.hid Ta
  clear Ta
  go_wp2_with fail
  rw [← HR.out]
  go_wp2_with fail
  refine (DoesG.use (slabNew_at room hr1 (by omega)) (HT.out) [] rfl rfl).mono ?_
  rintro e w1 ⟨gs, ⟨sb, g0, rfl, hg0, rfl⟩, Ta⟩
  simp only [putG, List.set_cons_zero, List.set_cons_succ, List.cons_append, List.nil_append, List.append_nil] at Ta
  have HT := Lib.hid Ta
  clear Ta
  go_wp2
  go_loopw [8] (fun i wr => ∃ (k : Nat) (s : SlabS) (g : List Blk), k ≤ zs.length ∧ i = .int .i64 k ∧ Tame s room k 0 ∧ isSlab sb s g ∧ TG [] w [g] wr) (fun i _ => zs.length + 1 - (intOf i).toNat)
  case atStart => exact ⟨0, newSlab room, g0, by omega, rfl, new_tame hr1 (by omega), hg0, HT.out⟩
  case round =>
    obtain ⟨k, s, g, hk, rfl, hs, hg, T⟩ := hrel
    have HT := Lib.hid T
    clear T
    by_cases hlt : k < zs.length
    · obtain ⟨b, off, x, rfl, hx, x0, x1, hc⟩ := ha.at hlt
      have c0 := hc HT.out
      have HS := Lib.hid hs
      by_cases h128 : 128 ≤ x
      · go_wp2_with fail
        refine (DoesG.use (free_g hg hs.ok (x % room)) (HT.out) [0] rfl rfl).mono ?_
        rintro e w1 ⟨gs, ⟨rfl, g1, hg1, rfl⟩, Ta⟩
        simp only [putG, List.set_cons_zero, List.set_cons_succ, List.cons_append, List.nil_append, List.append_nil] at Ta
        have HT := Lib.hid Ta
        clear Ta
        have HS1 := Lib.hid (tame_free hs (Int.le_refl 0) (x % room))
        obtain ⟨s1, hs1⟩ : ∃ s1, (freeS s (x % room)).1 = s1 := ⟨_, rfl⟩
        rw [hs1] at HS1 hg1
        clear hs hs1
        go_wp2_with fail
        refine (DoesG.use (slabCount_g hg1) (HT.out) [0] rfl rfl).mono ?_
        rintro e w1 ⟨gs, ⟨rfl, g2, hg2, rfl⟩, Ta⟩
        simp only [putG, List.set_cons_zero, List.set_cons_succ, List.cons_append, List.nil_append, List.append_nil] at Ta
        have HT := Lib.hid Ta
        clear Ta
        by_cases hfull : s1.count = room
        · have hfb : (s1.count == (room : Int)) = true := by simpa using hfull
          have HF := Lib.hid hfull
          clear hfull
          go_wp2_with fail
          refine (DoesG.use (slabBegin_g sb 0) (HT.out) [] rfl rfl).mono ?_
          rintro e w1 ⟨gs, ⟨qb, rfl, rfl⟩, Ta⟩
          simp only [putG, List.set_cons_zero, List.set_cons_succ, List.cons_append, List.nil_append, List.append_nil] at Ta
          have HT := Lib.hid Ta
          clear Ta
          go_wp2_with fail
          refine (DoesG.use (reqStep_c _ (run_full (s := s1) (by rw [HS1.out.len, HF.out]; omega)) hg2 HS1.out.ok (newReq_ok HS1.out.ok.n0 (Int.le_refl 0) (by decide))) (HT.out) [1, 0] rfl rfl).mono ?_
          rintro e w1 ⟨gs, ⟨rfl, g3, hg3, rfl⟩, Ta⟩
          simp only [putG, List.set_cons_zero, List.set_cons_succ, List.cons_append, List.nil_append, List.append_nil] at Ta
          have HT := Lib.hid Ta
          clear Ta
          go_wp2
          first
          | (go_roundw
             case rel => exact ⟨k + 1, s1, g3, by omega, by go_num, HS1.out.mono (by omega), hg3, HT.out.pick [0] rfl⟩
             case measure => simp [intOf]; omega)
          | exact ⟨⟨k + 1, s1, g3, by omega, by go_num, HS1.out.mono (by omega), hg3, HT.out.pick [0] rfl⟩, by simp [intOf]; omega⟩
          | ((repeat apply Exists.intro); exact ⟨⟨⟨k + 1, s1, g3, by omega, by go_num, HS1.out.mono (by omega), hg3, HT.out.pick [0] rfl⟩, rfl⟩, by simp [intOf]; omega⟩)
        · have hfb : (s1.count == (room : Int)) = false := by simpa using hfull
          have hlt1 : s1.count < room := by have h5 := HS1.out.ok.c1; have h6 := HS1.out.len; omega
          obtain ⟨j, r, hj, hb, hbl⟩ := first_free (l := s1.recs) (by have h5 := HS1.out.used; have h6 := HS1.out.len; omega)
          have hjr : j < room := by have h5 := (List.getElem?_eq_some_iff.1 hj).1; have h6 := HS1.out.len; omega
          have hk200 : (k : Int) < 4294967295 := by omega
          have HN := Lib.hid (fun (m : Nat) (h1 : 1 ≤ m) (h2 : m < j + 3) => run_next HS1.out hk200 hj hb hbl h1 h2)
          have HO := Lib.hid (fun (m : Nat) (h1 : 1 ≤ m) (h2 : m ≤ j + 3) => run_ok HS1.out hk200 hlt1 hj hb hbl h1 h2)
          have HJ := Lib.hid (And.intro hj hb)
          clear hfull hj hb hbl hk200
          go_wp2_with fail
          refine (DoesG.use (slabBegin_g sb 0) (HT.out) [] rfl rfl).mono ?_
          rintro e w1 ⟨gs, ⟨qb, rfl, rfl⟩, Ta⟩
          simp only [putG, List.set_cons_zero, List.set_cons_succ, List.cons_append, List.nil_append, List.append_nil] at Ta
          have HT := Lib.hid Ta
          clear Ta
          go_wp2_with fail
          refine (DoesG.use (reqStep_c _ (run_first (s := s1) (by have h6 := HS1.out.len; omega) j r) hg2 HS1.out.ok (newReq_ok HS1.out.ok.n0 (Int.le_refl 0) (by decide))) (HT.out) [1, 0] rfl rfl).mono ?_
          rintro e w1 ⟨gs, ⟨he, g3, hg3, rfl⟩, Ta⟩
          simp only [putG, List.set_cons_zero, List.set_cons_succ, List.cons_append, List.nil_append, List.append_nil] at Ta
          have HT := Lib.hid Ta
          clear Ta
          rw [run_st, if_pos (.inl rfl)] at he
          subst he
          go_wp2
          obtain ⟨wo, rfl⟩ : ∃ wo : World, wo = w1 := ⟨_, rfl⟩
          go_loopw [11, 12] (fun x c wr => ∃ (m : Nat) (g : List Blk), 1 ≤ m ∧ m ≤ j + 3 ∧ x = .int .i64 (stOf j m) ∧ c = .int .i64 m ∧ isSlab sb (runS s1 j r m) g ∧ TG [] w [g, reqG qb sb (runQ s1 j r m)] wr) (fun _ c _ => j + 4 - (intOf c).toNat)
          case atStart => exact ⟨1, g3, by omega, by omega, by simp [stOf], rfl, hg3, HT.out⟩
          case round =>
            obtain ⟨m, g, hm1, hm2, hx, rfl, hg, T⟩ := hrel
            have HT := Lib.hid T
            clear T
            by_cases hmj : m < j + 3
            · rw [show stOf j m = 0 from if_pos (by omega)] at hx
              subst hx
              go_wp2_with fail
              refine (DoesG.use (run_step (HN.out m hm1 hmj) hg (HO.out m hm1 hm2)) (HT.out) [1, 0] rfl rfl).mono ?_
              rintro e w1 ⟨gs, ⟨rfl, g4, hg4, rfl⟩, Ta⟩
              simp only [putG, List.set_cons_zero, List.set_cons_succ, List.cons_append, List.nil_append, List.append_nil] at Ta
              have HT := Lib.hid Ta
              clear Ta
              go_wp2
              first
              | (go_roundw
                 case rel => exact ⟨m + 1, g4, by omega, by omega, rfl, by go_num, hg4, HT.out⟩
                 case measure => simp [intOf]; omega)
              | exact ⟨⟨m + 1, g4, by omega, by omega, rfl, by go_num, hg4, HT.out⟩, by simp [intOf]; omega⟩
              | ((repeat apply Exists.intro); exact ⟨⟨⟨m + 1, g4, by omega, by omega, rfl, by go_num, hg4, HT.out⟩, rfl⟩, by simp [intOf]; omega⟩)
            · obtain rfl : m = j + 3 := by omega
              rw [show stOf j (j + 3) = 2 from if_neg (by omega)] at hx
              subst hx
              go_wp2
              first
              | (go_roundw
                 case rel => exact ⟨k + 1, aloneS s1 j r, g, by omega, by go_num, alone_tame HS1.out hlt1 (by omega) HJ.out.1 HJ.out.2, run_last s1 j r ▸ hg, HT.out.pick [0] rfl⟩
                 case measure => simp [intOf]; omega)
              | exact ⟨⟨k + 1, aloneS s1 j r, g, by omega, by go_num, alone_tame HS1.out hlt1 (by omega) HJ.out.1 HJ.out.2, run_last s1 j r ▸ hg, HT.out.pick [0] rfl⟩, by simp [intOf]; omega⟩
              | ((repeat apply Exists.intro); exact ⟨⟨⟨k + 1, aloneS s1 j r, g, by omega, by go_num, alone_tame HS1.out hlt1 (by omega) HJ.out.1 HJ.out.2, run_last s1 j r ▸ hg, HT.out.pick [0] rfl⟩, rfl⟩, by simp [intOf]; omega⟩)
      · have HS1 := Lib.hid hs
        obtain ⟨s1, rfl⟩ : ∃ s1, s1 = s := ⟨_, rfl⟩
        obtain ⟨g1, rfl⟩ : ∃ g1, g1 = g := ⟨_, rfl⟩
        have hg1 := hg
        clear hs hg
        go_wp2_with fail
        refine (DoesG.use (slabCount_g hg1) (HT.out) [0] rfl rfl).mono ?_
        rintro e w1 ⟨gs, ⟨rfl, g2, hg2, rfl⟩, Ta⟩
        simp only [putG, List.set_cons_zero, List.set_cons_succ, List.cons_append, List.nil_append, List.append_nil] at Ta
        have HT := Lib.hid Ta
        clear Ta
        by_cases hfull : s1.count = room
        · have hfb : (s1.count == (room : Int)) = true := by simpa using hfull
          have HF := Lib.hid hfull
          clear hfull
          go_wp2_with fail
          refine (DoesG.use (slabBegin_g sb 0) (HT.out) [] rfl rfl).mono ?_
          rintro e w1 ⟨gs, ⟨qb, rfl, rfl⟩, Ta⟩
          simp only [putG, List.set_cons_zero, List.set_cons_succ, List.cons_append, List.nil_append, List.append_nil] at Ta
          have HT := Lib.hid Ta
          clear Ta
          go_wp2_with fail
          refine (DoesG.use (reqStep_c _ (run_full (s := s1) (by rw [HS1.out.len, HF.out]; omega)) hg2 HS1.out.ok (newReq_ok HS1.out.ok.n0 (Int.le_refl 0) (by decide))) (HT.out) [1, 0] rfl rfl).mono ?_
          rintro e w1 ⟨gs, ⟨rfl, g3, hg3, rfl⟩, Ta⟩
          simp only [putG, List.set_cons_zero, List.set_cons_succ, List.cons_append, List.nil_append, List.append_nil] at Ta
          have HT := Lib.hid Ta
          clear Ta
          go_wp2
          first
          | (go_roundw
             case rel => exact ⟨k + 1, s1, g3, by omega, by go_num, HS1.out.mono (by omega), hg3, HT.out.pick [0] rfl⟩
             case measure => simp [intOf]; omega)
          | exact ⟨⟨k + 1, s1, g3, by omega, by go_num, HS1.out.mono (by omega), hg3, HT.out.pick [0] rfl⟩, by simp [intOf]; omega⟩
          | ((repeat apply Exists.intro); exact ⟨⟨⟨k + 1, s1, g3, by omega, by go_num, HS1.out.mono (by omega), hg3, HT.out.pick [0] rfl⟩, rfl⟩, by simp [intOf]; omega⟩)
        · have hfb : (s1.count == (room : Int)) = false := by simpa using hfull
          have hlt1 : s1.count < room := by have h5 := HS1.out.ok.c1; have h6 := HS1.out.len; omega
          obtain ⟨j, r, hj, hb, hbl⟩ := first_free (l := s1.recs) (by have h5 := HS1.out.used; have h6 := HS1.out.len; omega)
          have hjr : j < room := by have h5 := (List.getElem?_eq_some_iff.1 hj).1; have h6 := HS1.out.len; omega
          have hk200 : (k : Int) < 4294967295 := by omega
          have HN := Lib.hid (fun (m : Nat) (h1 : 1 ≤ m) (h2 : m < j + 3) => run_next HS1.out hk200 hj hb hbl h1 h2)
          have HO := Lib.hid (fun (m : Nat) (h1 : 1 ≤ m) (h2 : m ≤ j + 3) => run_ok HS1.out hk200 hlt1 hj hb hbl h1 h2)
          have HJ := Lib.hid (And.intro hj hb)
          clear hfull hj hb hbl hk200
          go_wp2_with fail
          refine (DoesG.use (slabBegin_g sb 0) (HT.out) [] rfl rfl).mono ?_
          rintro e w1 ⟨gs, ⟨qb, rfl, rfl⟩, Ta⟩
          simp only [putG, List.set_cons_zero, List.set_cons_succ, List.cons_append, List.nil_append, List.append_nil] at Ta
          have HT := Lib.hid Ta
          clear Ta
          go_wp2_with fail
          refine (DoesG.use (reqStep_c _ (run_first (s := s1) (by have h6 := HS1.out.len; omega) j r) hg2 HS1.out.ok (newReq_ok HS1.out.ok.n0 (Int.le_refl 0) (by decide))) (HT.out) [1, 0] rfl rfl).mono ?_
          rintro e w1 ⟨gs, ⟨he, g3, hg3, rfl⟩, Ta⟩
          simp only [putG, List.set_cons_zero, List.set_cons_succ, List.cons_append, List.nil_append, List.append_nil] at Ta
          have HT := Lib.hid Ta
          clear Ta
          rw [run_st, if_pos (.inl rfl)] at he
          subst he
          go_wp2
          obtain ⟨wo, rfl⟩ : ∃ wo : World, wo = w1 := ⟨_, rfl⟩
          go_loopw [11, 12] (fun x c wr => ∃ (m : Nat) (g : List Blk), 1 ≤ m ∧ m ≤ j + 3 ∧ x = .int .i64 (stOf j m) ∧ c = .int .i64 m ∧ isSlab sb (runS s1 j r m) g ∧ TG [] w [g, reqG qb sb (runQ s1 j r m)] wr) (fun _ c _ => j + 4 - (intOf c).toNat)
          case atStart => exact ⟨1, g3, by omega, by omega, by simp [stOf], rfl, hg3, HT.out⟩
          case round =>
            obtain ⟨m, g, hm1, hm2, hx, rfl, hg, T⟩ := hrel
            have HT := Lib.hid T
            clear T
            by_cases hmj : m < j + 3
            · rw [show stOf j m = 0 from if_pos (by omega)] at hx
              subst hx
              go_wp2_with fail
              refine (DoesG.use (run_step (HN.out m hm1 hmj) hg (HO.out m hm1 hm2)) (HT.out) [1, 0] rfl rfl).mono ?_
              rintro e w1 ⟨gs, ⟨rfl, g4, hg4, rfl⟩, Ta⟩
              simp only [putG, List.set_cons_zero, List.set_cons_succ, List.cons_append, List.nil_append, List.append_nil] at Ta
              have HT := Lib.hid Ta
              clear Ta
              go_wp2
              first
              | (go_roundw
                 case rel => exact ⟨m + 1, g4, by omega, by omega, rfl, by go_num, hg4, HT.out⟩
                 case measure => simp [intOf]; omega)
              | exact ⟨⟨m + 1, g4, by omega, by omega, rfl, by go_num, hg4, HT.out⟩, by simp [intOf]; omega⟩
              | ((repeat apply Exists.intro); exact ⟨⟨⟨m + 1, g4, by omega, by omega, rfl, by go_num, hg4, HT.out⟩, rfl⟩, by simp [intOf]; omega⟩)
            · obtain rfl : m = j + 3 := by omega
              rw [show stOf j (j + 3) = 2 from if_neg (by omega)] at hx
              subst hx
              go_wp2
              first
              | (go_roundw
                 case rel => exact ⟨k + 1, aloneS s1 j r, g, by omega, by go_num, alone_tame HS1.out hlt1 (by omega) HJ.out.1 HJ.out.2, run_last s1 j r ▸ hg, HT.out.pick [0] rfl⟩
                 case measure => simp [intOf]; omega)
              | exact ⟨⟨k + 1, aloneS s1 j r, g, by omega, by go_num, alone_tame HS1.out hlt1 (by omega) HJ.out.1 HJ.out.2, run_last s1 j r ▸ hg, HT.out.pick [0] rfl⟩, by simp [intOf]; omega⟩
              | ((repeat apply Exists.intro); exact ⟨⟨⟨k + 1, aloneS s1 j r, g, by omega, by go_num, alone_tame HS1.out hlt1 (by omega) HJ.out.1 HJ.out.2, run_last s1 j r ▸ hg, HT.out.pick [0] rfl⟩, rfl⟩, by simp [intOf]; omega⟩)
    · go_wp2
      go_ret
      exact ⟨rfl, HT.out.bel⟩
end Go.Proofs.Ythcdpkgfphgkoaa
