import Derived.Test.YthbjaoinklhikaaFloorV
import Derived.Test.YthbjaoinklhikaaFloorL
import Derived.Test.YthbjaoinklhikaaMap
import Derived.Test.YthbjaoinklhikaaArg
import Derived.Deep.CutBlock
import Derived.Deep.DeepCutAuto
import Derived.Outline
namespace Go.Proofs.Ythbjaoinklhikaa
set_option linter.unusedVariables false
set_option linter.unusedSimpArgs false
open Go.RowKit Go.Maps

theorem Try.zeroU64 (w : World) : (zeroValue 28).run Try.prog w = .ok (.int .u64 0) w := by kernel_rfl
theorem Try.keyI64 : Keyed Try.prog 3 := int_keyed Try.underlying3
theorem slot_key (n : Int) (h0 : 0 ≤ n) (h1 : n < 9223372036854775808) : keyOf Try.prog 3 (.int .i64 n) = some (.int .i64 n) := keyOf_int_mk Try.underlying3 (WalkArith.wf_i64 ⟨by omega, by omega⟩)
theorem try_word {s : SlabS} (hs : SlabOk s) (k old ev : Int) (h0 : 0 ≤ old) (h1 : old < 18446744073709551616) (hk : okW old = true) : 0 ≤ (s.try k old ev).2.1 ∧ (s.try k old ev).2.1 < 18446744073709551616 := by
  unfold SlabS.try
  have hr := hs.getD k.toNat
  split
  · simp only []
    split
    · exact ⟨hr.w0, hr.w1⟩
    · next h =>
      split
      · have := nextW_ok h0 h1 hk (Decidable.not_not.1 h); exact ⟨this.2.2.2.2.2.2.2.1, this.2.2.2.2.2.2.2.2.1⟩
      · exact ⟨hr.w0, hr.w1⟩
  · exact ⟨Int.le_refl _, by show (0 : Int) < _; decide⟩
theorem st_step (s : SlabS) (q : Req) (h : q.st = 0 ∨ q.st = 1 ∨ q.st = 2) : (stepR s q).2.st = 0 ∨ (stepR s q).2.st = 1 ∨ (stepR s q).2.st = 2 := by
  unfold stepR lookR moreR seekR
  split
  · exact h
  · simp only []
    repeat' split
    all_goals first | exact .inl (by simpa using ‹_›) | simp_all
/-- the map has of each slot the number that was given last -/
def LastOk (s : SlabS) (n : Nat) (m : Lit → Option Value) : Prop := ∀ j : Nat, j < n → m (.int .i64 j) = if gAt s j = 0 then none else some (.int .u64 (gAt s j * 64 + j))
theorem num_given {s s1 : SlabS} {q : Req} (h : GsAre s s1 q) (h2 : q.st = 2) : ∃ j : Nat, j < s.recs.length ∧ q.id = (gAt s j + 1) * 64 + j ∧ ∀ i, gAt s1 i = if i = j then gAt s j + 1 else gAt s i := by
  rcases h with h | h
  · exact absurd h2 h.1
  · exact h.2
theorem num_kept {s s1 : SlabS} {q : Req} (h : GsAre s s1 q) (h2 : q.st ≠ 2) (i : Nat) : gAt s1 i = gAt s i := by
  rcases h with h | h
  · exact h.2 i
  · exact absurd h.1 h2
theorem gAt_bd {s : SlabS} (hs : SlabOk s) (j : Nat) : 0 ≤ gAt s j ∧ gAt s j ≤ 4294967295 := by
  have h := hs.getD j
  have hb := ok_bd _ h.w0 h.ok
  unfold gAt
  have h1 := h.g1
  exact ⟨h.g0, by omega⟩
theorem last_put {s s1 : SlabS} {n j : Nat} {m : Lit → Option Value} {y : Int} (h : LastOk s n m) (hs : SlabOk s) (hy : y = (gAt s j + 1) * 64 + j) (hg : ∀ i, gAt s1 i = if i = j then gAt s j + 1 else gAt s i) : LastOk s1 n (setK m (.int .i64 j) (.int .u64 y)) := by
  intro i hi
  have h0 := (gAt_bd hs j).1
  rw [hg i]
  by_cases e : i = j
  · subst e
    rw [if_pos rfl, if_neg (by omega)]
    simp only [setK, if_true]
    rw [hy]
  · rw [if_neg e]
    have : (Lit.int .i64 (i : Int) : Lit) ≠ .int .i64 (j : Int) := by intro x; injection x with _ x; omega
    simp only [setK, if_neg this]
    exact h i hi
theorem numV_in {s : SlabS} {n : Nat} {m : Lit → Option Value} (hl : LastOk s n m) (hs : SlabOk s) (hn : s.recs.length = n) {j : Nat} (hj : j < n) :
    (m (.int .i64 j) = none ∧ numV s j = (0, 6)) ∨ (∃ y, y ≠ 0 ∧ m (.int .i64 j) = some (.int .u64 y) ∧ numV s j = (y, 0)) := by
  have hb := gAt_bd hs j
  have e : numV s j = if gAt s j < 1 then (0, 6) else (gAt s j * 64 + j, 0) := by
    unfold numV; rw [if_pos ⟨by omega, by omega⟩, Int.toNat_natCast]; rfl
  rw [e, hl j hj]
  by_cases h0 : gAt s j = 0
  · rw [if_pos h0, if_pos (by omega)]; exact .inl ⟨rfl, rfl⟩
  · rw [if_neg h0, if_neg (by omega)]; exact .inr ⟨_, by omega, rfl, rfl⟩
def nullF (n : Int) : FloorS := ⟨plainCfg 1 n, false, 0, 0, 0⟩
def NumSt (w : World) (fb : Nat) (p : FPtr) (gF : List Blk) (n mb k : Nat) (w' : World) : Prop :=
  ∃ (s : SlabS) (m : Lit → Option Value) (z : Nat) (gS gM : List Blk), SlabOk s ∧ s.recs.length = n ∧ LastOk s n m ∧ isSlab p.sb s gS ∧ mapG Try.prog 3 mb k m z gM ∧ TG [] w [gF, gS, gM] w'
set_option maxRecDepth 100000 in
set_option maxHeartbeats 8000000 in
theorem lawNumbers_walk (room : Int) (a : Option Addr) (cap : Nat) (zs : List Int) (slot : Int) (w : World) (h0 : 0 ≤ room) (h1 : room ≤ 255) (ha : ArgU8 w a zs) (h9 : zs.length ≤ 9223372036854775807) :
    Calls Try.prog 4 #[.int .u8 room, .slice a zs.length cap, .int .i64 slot] w fun e w' => e = .returned (.bool true) ∧ Below w.heap.size w w' := by
  have HT := Lib.hid (TG.ofW (w := w))
  have HA := Lib.hid ha
  clear ha
  by_cases hbig : 60 < zs.length
  · go_enter Try.func4, Try.ntmps4
    go_wp2_with fail
    refine (DoesG.use (alive_g) (HT.out) [] rfl rfl).mono ?_
    rintro e w1 ⟨gs, ⟨rfl, rfl⟩, Ta⟩
    simp only [putG, List.set_cons_zero, List.set_cons_succ, List.cons_append, List.nil_append, List.append_nil] at Ta
    have HT := Lib.hid Ta
    clear Ta
    go_wp2
    go_ret
    exact ⟨rfl, HT.out.bel⟩
  generalize hm : zs.length = m at *
  have HM := Lib.hid hm
  clear hm
  have hm60 : m ≤ 60 := by omega
  clear hbig
  obtain ⟨n, hn⟩ : ∃ n : Nat, 1 + room % 5 = n := Int.eq_ofNat_of_zero_le (by omega)
  have n1 : 1 ≤ n := by omega
  have n5 : n ≤ 5 := by omega
  have hmm := @run_makeMap Try.prog
  have HNR := Lib.hid hn
  clear hn
  go_enter Try.func4, Try.ntmps4
  go_wp2_with fail
  refine (DoesG.use (alive_g) (HT.out) [] rfl rfl).mono ?_
  rintro e w1 ⟨gs, ⟨rfl, rfl⟩, Ta⟩
  simp only [putG, List.set_cons_zero, List.set_cons_succ, List.cons_append, List.nil_append, List.append_nil] at Ta
  have HT := Lib.hid Ta
  clear Ta
  go_wp2_with fail
  rw [HNR.out]
  go_wp2_with fail
  refine (DoesG.use (plain_g 1 n) (HT.out) [] rfl rfl).mono ?_
  rintro e w1 ⟨gs, ⟨rfl, rfl⟩, Ta⟩
  simp only [putG, List.set_cons_zero, List.set_cons_succ, List.cons_append, List.nil_append, List.append_nil] at Ta
  have HT := Lib.hid Ta
  clear Ta
  go_wp2_with fail
  refine (DoesG.use (floorNew_g (plainCfg 1 n) (plain_ok (by decide) (by decide) (by omega) (by omega))) (HT.out) [] rfl rfl).mono ?_
  rintro e w1 ⟨gs, ⟨fb, p, shs, gF, g0, gR, gH, gP, gL, rfl, hall, hlen, hnew, rfl⟩, Ta⟩
  simp only [putG, List.set_cons_zero, List.set_cons_succ, List.cons_append, List.nil_append, List.append_nil] at Ta
  have HT := Lib.hid Ta
  clear Ta
  have hF := Lib.hid (show isFloor fb p (nullF n) (.slice none 0 0) gF from hall.floor)
  have hS0 : isSlab p.sb (newSlab n) g0 := hall.slab
  have HS0 := Lib.hid hS0
  clear hall hlen hnew hS0
  go_wp2
  have HT := Lib.hid ((HT.out.pick [0, 1] rfl).put rfl (.map #[] 0))
  generalize hmb : w1.heap.size = mb at *
  generalize hww : w1.alloc _ = w2 at *
  clear hmb hww
  have HR := Lib.hid (show NumSt w fb p gF n mb 0 w2 from ⟨newSlab n, noK, 0, g0, _, newSlab_ok n1 (by omega), by simp [newSlab], fun j hj => (if_pos (by unfold gAt newSlab; rw [List.getD_eq_getElem?_getD, List.getElem?_replicate]; split <;> rfl)).symm, HS0.out, mapG_new _ _ _, HT.out⟩)
  clear HT HS0
  go_loopw [11] (fun i wr => ∃ k : Nat, k ≤ m ∧ i = .int .i64 k ∧ NumSt w fb p gF n mb k wr) (fun i _ => m - (intOf i).toNat)
  case atStart => exact ⟨0, Nat.zero_le _, rfl, HR.out⟩
  case round =>
    obtain ⟨k, hk, rfl, s, mp, z, gS, gM, hs, hsn, hlo, hS, hM, T⟩ := hrel
    have HT := Lib.hid T
    have HS := Lib.hid hs
    have HSN := Lib.hid hsn
    have HLO := Lib.hid hlo
    have HSL := Lib.hid hS
    have HMP := Lib.hid hM
    clear T hs hsn hlo hS hM HR
    by_cases hlt : k < m
    · obtain ⟨b, off, x, rfl, hx, x0, x1, hc⟩ := HA.out.at (i := k) (by rw [HM.out]; exact hlt)
      clear hx
      go_wp2_with fail
      refine (DoesG.use (floorSlab_g hF.out) (HT.out) [0] rfl rfl).mono ?_
      rintro e w1 ⟨gs, ⟨rfl, rfl⟩, Ta⟩
      simp only [putG, List.set_cons_zero, List.set_cons_succ, List.cons_append, List.nil_append, List.append_nil] at Ta
      have HT := Lib.hid Ta
      clear Ta
      go_wp2_with fail
      refine (DoesG.use (slabBegin_g p.sb 0) (HT.out) [] rfl rfl).mono ?_
      rintro e w1 ⟨gs, ⟨qb, rfl, rfl⟩, Ta⟩
      simp only [putG, List.set_cons_zero, List.set_cons_succ, List.cons_append, List.nil_append, List.append_nil] at Ta
      have HT := Lib.hid Ta
      clear Ta
      have HT := Lib.hid (show TG [] w [gF, gS, gM, reqG qb p.sb (newReq 0)] w1 from HT.out)
      have HJ := Lib.hid (show ∃ (s1 : SlabS) (q1 : Req) (gS1 : List Blk), GsAre s s1 q1 ∧ SlabOk s1 ∧ s1.recs.length = n ∧ ReqOk n q1 ∧ (q1.st = 0 ∨ q1.st = 1 ∨ q1.st = 2) ∧ q1.st = 0 ∧ isSlab p.sb s1 gS1 ∧ TG [] w [gF, gS1, gM, reqG qb p.sb q1] w1 from
        ⟨s, newReq 0, gS, .inl ⟨by decide, fun _ => rfl⟩, HS.out, HSN.out, newReq_ok n1 (by decide) (by decide), .inl rfl, rfl, HSL.out, HT.out⟩)
      clear HT
      go_wp2
      obtain ⟨wo, rfl⟩ : ∃ wo : World, wo = w1 := ⟨_, rfl⟩
      go_loopw [13, 14] (fun st i wr => ∃ (k : Nat) (s1 : SlabS) (q1 : Req) (gS1 : List Blk), k ≤ n + 2 ∧ i = .int .i64 k ∧ st = .int .i64 q1.st ∧ GsAre s s1 q1 ∧ SlabOk s1 ∧ s1.recs.length = n ∧ ReqOk n q1 ∧ (q1.st = 0 ∨ q1.st = 1 ∨ q1.st = 2) ∧ isSlab p.sb s1 gS1 ∧ TG [] w [gF, gS1, gM, reqG qb p.sb q1] wr) (fun _ i _ => n + 3 - (intOf i).toNat)
      case atStart =>
        obtain ⟨s1, q1, gS1, h1, h2, h3, h4, h5, h6, h7, h8⟩ := HJ.out
        exact ⟨0, s1, q1, gS1, by omega, rfl, by rw [h6], h1, h2, h3, h4, h5, h7, h8⟩
      case round =>
        obtain ⟨i, s1, q1, gS1, hi, rfl, rfl, h1, h2, h3, h4, h5, h7, T⟩ := hrel
        have HT := Lib.hid T
        have HG1 := Lib.hid h1
        have HO1 := Lib.hid h2
        have HL1 := Lib.hid h3
        have HQ1 := Lib.hid h4
        have HX1 := Lib.hid h5
        have HS1 := Lib.hid h7
        clear T h1 h2 h3 h4 h5 h7 HJ
        by_cases hst : q1.st = 0
        · by_cases hi2 : i < n + 2
          · have z0 : (q1.st == 0) = true := by simp [hst]
            go_wp2_with fail
            refine (DoesG.use (reqStep_g qb q1 HS1.out HO1.out (by rw [HL1.out]; exact HQ1.out)) (HT.out) [3, 1] rfl rfl).mono ?_
            rintro e w1 ⟨gs, ⟨rfl, gS2, hS2, rfl⟩, Ta⟩
            simp only [putG, List.set_cons_zero, List.set_cons_succ, List.cons_append, List.nil_append, List.append_nil] at Ta
            have HT := Lib.hid Ta
            clear Ta
            obtain ⟨a1, a2, a3⟩ := stepR_ok HO1.out (show ReqOk s1.recs.length q1 from by rw [HL1.out]; exact HQ1.out)
            have g2 := gs_step HG1.out (HL1.out.trans HSN.out.symm) (show ReqOk s1.recs.length q1 from by rw [HL1.out]; exact HQ1.out) HX1.out
            have x2 := st_step s1 q1 HX1.out
            rw [HL1.out] at a2 a3
            generalize stepR s1 q1 = r at *
            obtain ⟨s2, q2⟩ := r
            have HH := Lib.hid (And.intro g2 (And.intro a1 (And.intro a3 (And.intro a2 (And.intro x2 hS2)))))
            clear g2 a1 a2 a3 x2 hS2
            go_wp2
            first
            | (go_roundw
               case rel => exact ⟨i + 1, s2, q2, gS2, by omega, by go_num, rfl, HH.out.1, HH.out.2.1, HH.out.2.2.1, HH.out.2.2.2.1, HH.out.2.2.2.2.1, HH.out.2.2.2.2.2, HT.out⟩
               case measure => simp [intOf]; omega)
            | exact ⟨⟨i + 1, s2, q2, gS2, by omega, by go_num, rfl, HH.out.1, HH.out.2.1, HH.out.2.2.1, HH.out.2.2.2.1, HH.out.2.2.2.2.1, HH.out.2.2.2.2.2, HT.out⟩, by simp [intOf]; omega⟩
            | ((repeat apply Exists.intro); exact ⟨⟨⟨i + 1, s2, q2, gS2, by omega, by go_num, rfl, HH.out.1, HH.out.2.1, HH.out.2.2.1, HH.out.2.2.2.1, HH.out.2.2.2.2.1, HH.out.2.2.2.2.2, HT.out⟩, rfl⟩, by simp [intOf]; omega⟩)
          · obtain rfl : i = n + 2 := by omega
            have h2s : q1.st ≠ 2 := by omega
            go_wp2_with fail
            refine (DoesG.use (reqId_not qb p.sb q1 h2s) (HT.out) [3] rfl rfl).mono ?_
            rintro e w1 ⟨gs, ⟨rfl, rfl⟩, Ta⟩
            simp only [putG, List.set_cons_zero, List.set_cons_succ, List.cons_append, List.nil_append, List.append_nil] at Ta
            have d0 := hc Ta
            have HT := Lib.hid Ta
            clear Ta
            have HLO1 := Lib.hid (show LastOk s1 n mp from fun j hj => by rw [num_kept HG1.out h2s]; exact HLO.out j hj)
            have HMP1 := Lib.hid (mapG_mono HMP.out (Nat.le_succ k))
            go_wp2_with fail
            go_wp2_with fail
            refine (DoesG.use (floorSlab_g hF.out) (HT.out) [0] rfl rfl).mono ?_
            rintro e w1 ⟨gs, ⟨rfl, rfl⟩, Ta⟩
            simp only [putG, List.set_cons_zero, List.set_cons_succ, List.cons_append, List.nil_append, List.append_nil] at Ta
            have d0 := hc Ta
            have HT := Lib.hid Ta
            clear Ta
            go_wp2_with fail
            refine (DoesG.use (slabWord_g HS1.out (by rw [HL1.out]; omega) (x % n)) (HT.out) [1] rfl rfl).mono ?_
            rintro e w1 ⟨gs, ⟨rfl, gS2, hS2, rfl⟩, Ta⟩
            simp only [putG, List.set_cons_zero, List.set_cons_succ, List.cons_append, List.nil_append, List.append_nil] at Ta
            have HT := Lib.hid Ta
            clear Ta
            go_wp2_with fail
            refine (DoesG.use (floorSlab_g hF.out) (HT.out) [0] rfl rfl).mono ?_
            rintro e w1 ⟨gs, ⟨rfl, rfl⟩, Ta⟩
            simp only [putG, List.set_cons_zero, List.set_cons_succ, List.cons_append, List.nil_append, List.append_nil] at Ta
            have HT := Lib.hid Ta
            clear Ta
            go_wp2_with fail
            refine (DoesG.use (slabTry_g hS2 (by rw [HL1.out]; omega) (x % n) (s1.word (x % n)) 9 (word_ok HO1.out _).1 (word_ok HO1.out _).2.1) (HT.out) [1] rfl rfl).mono ?_
            rintro e w1 ⟨gs, ⟨rfl, gS3, hS3, rfl⟩, Ta⟩
            simp only [putG, List.set_cons_zero, List.set_cons_succ, List.cons_append, List.nil_append, List.append_nil] at Ta
            have HT := Lib.hid Ta
            clear Ta
            obtain ⟨r, hr⟩ : ∃ r, s1.try (x % n) (s1.word (x % n)) 9 = r := ⟨_, rfl⟩
            have HR1 := Lib.hid (show SlabOk r.1 ∧ r.1.recs.length = n from by rw [← hr]; exact ⟨(try_ok HO1.out _ _ _).1, (try_ok HO1.out _ _ _).2.trans HL1.out⟩)
            have HR2 := Lib.hid (show ∀ i, gAt r.1 i = gAt s1 i from by rw [← hr]; exact try_gs s1 _ _ _)
            have HR3 := Lib.hid (show 0 ≤ r.2.1 ∧ r.2.1 < 18446744073709551616 from by rw [← hr]; exact try_word HO1.out _ _ _ (word_ok HO1.out _).1 (word_ok HO1.out _).2.1 (word_ok HO1.out _).2.2)
            rw [hr] at hS3 ⊢
            clear hr
            obtain ⟨s3, v3, x3⟩ := r
            simp only at HR1 HR2 HR3 hS3
            have HS3 := Lib.hid hS3
            clear hS3 hS2
            have HL3 := Lib.hid (show LastOk s3 n mp from fun j hj => by rw [HR2.out]; exact HLO1.out j hj)
            by_cases hx3 : x3 = 0
            · subst hx3
              by_cases hst3 : stW v3 = 0
              · go_wp2_with (go_at_call 21; refine (state_calls _ _ HR3.out.1 HR3.out.2).mono ?_; rw [hst3]; rintro e w' ⟨rfl, rfl⟩)
                refine (DoesG.use (floorSlab_g hF.out) HT.out [0] rfl rfl).mono ?_
                rintro e w1 ⟨gs, ⟨rfl, rfl⟩, Ta⟩
                simp only [putG, List.set_cons_zero, List.set_cons_succ, List.cons_append, List.nil_append, List.append_nil] at Ta
                have HT := Lib.hid Ta
                clear Ta
                go_wp2_with fail
                refine (DoesG.use (slabDrop_g HS3.out HR1.out.1.c0 (by have := HR1.out.1.c1; have := HR1.out.2; omega)) (HT.out) [1] rfl rfl).mono ?_
                rintro e w1 ⟨gs, ⟨rfl, gS4, hS4, rfl⟩, Ta⟩
                simp only [putG, List.set_cons_zero, List.set_cons_succ, List.cons_append, List.nil_append, List.append_nil] at Ta
                have HT := Lib.hid Ta
                clear Ta
                go_wp2
                first
                | (go_roundw
                   case rel => exact ⟨k + 1, by omega, by go_num, s3.drop.1, _, _, gS4, _, (drop_ok HR1.out.1).1, (drop_ok HR1.out.1).2.trans HR1.out.2, fun j hj => by (rw [drop_gs]; exact HL3.out j hj), hS4, HMP1.out, HT.out.pick [0, 1, 2] rfl⟩
                   case measure => simp [intOf]; omega)
                | exact ⟨⟨k + 1, by omega, by go_num, s3.drop.1, _, _, gS4, _, (drop_ok HR1.out.1).1, (drop_ok HR1.out.1).2.trans HR1.out.2, fun j hj => by (rw [drop_gs]; exact HL3.out j hj), hS4, HMP1.out, HT.out.pick [0, 1, 2] rfl⟩, by simp [intOf]; omega⟩
                | ((repeat apply Exists.intro); exact ⟨⟨⟨k + 1, by omega, by go_num, s3.drop.1, _, _, gS4, _, (drop_ok HR1.out.1).1, (drop_ok HR1.out.1).2.trans HR1.out.2, fun j hj => by (rw [drop_gs]; exact HL3.out j hj), hS4, HMP1.out, HT.out.pick [0, 1, 2] rfl⟩, rfl⟩, by simp [intOf]; omega⟩)
              · have z3 : (stW v3 == 0) = false := beq_eq_false_iff_ne.2 hst3
                go_wp2_with (go_at_call 21; refine (state_calls _ _ HR3.out.1 HR3.out.2).mono ?_; rintro e w' ⟨rfl, rfl⟩)
                first
                | (go_roundw
                   case rel => exact ⟨k + 1, by omega, by go_num, s3, _, _, gS3, _, HR1.out.1, HR1.out.2, HL3.out, HS3.out, HMP1.out, HT.out.pick [0, 1, 2] rfl⟩
                   case measure => simp [intOf]; omega)
                | exact ⟨⟨k + 1, by omega, by go_num, s3, _, _, gS3, _, HR1.out.1, HR1.out.2, HL3.out, HS3.out, HMP1.out, HT.out.pick [0, 1, 2] rfl⟩, by simp [intOf]; omega⟩
                | ((repeat apply Exists.intro); exact ⟨⟨⟨k + 1, by omega, by go_num, s3, _, _, gS3, _, HR1.out.1, HR1.out.2, HL3.out, HS3.out, HMP1.out, HT.out.pick [0, 1, 2] rfl⟩, rfl⟩, by simp [intOf]; omega⟩)
            · have z3 : (x3 == 0) = false := beq_eq_false_iff_ne.2 hx3
              go_wp2
              first
              | (go_roundw
                 case rel => exact ⟨k + 1, by omega, by go_num, s3, _, _, gS3, _, HR1.out.1, HR1.out.2, HL3.out, HS3.out, HMP1.out, HT.out.pick [0, 1, 2] rfl⟩
                 case measure => simp [intOf]; omega)
              | exact ⟨⟨k + 1, by omega, by go_num, s3, _, _, gS3, _, HR1.out.1, HR1.out.2, HL3.out, HS3.out, HMP1.out, HT.out.pick [0, 1, 2] rfl⟩, by simp [intOf]; omega⟩
              | ((repeat apply Exists.intro); exact ⟨⟨⟨k + 1, by omega, by go_num, s3, _, _, gS3, _, HR1.out.1, HR1.out.2, HL3.out, HS3.out, HMP1.out, HT.out.pick [0, 1, 2] rfl⟩, rfl⟩, by simp [intOf]; omega⟩)
        · have z0 : (q1.st == 0) = false := by simp [hst]
          by_cases hi2 : i < n + 2
          · by_cases h2s : q1.st = 2
            · obtain ⟨j, hjn, hid, hgj⟩ := num_given HG1.out h2s
              rw [HSN.out] at hjn
              obtain ⟨y, hy⟩ : ∃ y, q1.id = y := ⟨_, rfl⟩
              have hyv := hid
              rw [hy] at hyv
              have hb := gAt_bd HS.out j
              have HLO1 := Lib.hid (last_put HLO.out HS.out hyv hgj)
              have HY := Lib.hid hy
              have HM1 := Lib.hid (show y % 64 = j from by omega)
              have y0 : 0 ≤ y := by omega
              have y1 : y < 18446744073709551616 := by omega
              clear hid hgj hyv hb hy
              go_wp2_with fail
              refine (DoesG.use (reqId_c (v := y) qb p.sb q1 h2s HY.out) (HT.out) [3] rfl rfl).mono ?_
              rintro e w1 ⟨gs, ⟨rfl, rfl⟩, Ta⟩
              simp only [putG, List.set_cons_zero, List.set_cons_succ, List.cons_append, List.nil_append, List.append_nil] at Ta
              have HT := Lib.hid Ta
              clear Ta
              go_wp2_with (at_mapUpdate; rw [HM1.out]; (with_reducible refine wpList_update_G rfl (.tmp 74) (.tmp 77) _ rfl Try.keyI64 Try.underlying47 HT.out 2 rfl rfl HMP.out (by unfold maxLen; omega) rfl (.int .i64 j) (.int .u64 y) (.int .i64 j) rfl rfl (slot_key j (by omega) (by omega)) ?_); intro w2 gM1 RM1 T6; simp only [List.set_cons_zero, List.set_cons_succ] at T6; have d0 := hc T6; have HMP1 := Lib.hid RM1; have HT := Lib.hid T6; clear T6 RM1)
              go_wp2_with fail
              refine (DoesG.use (floorSlab_g hF.out) (HT.out) [0] rfl rfl).mono ?_
              rintro e w1 ⟨gs, ⟨rfl, rfl⟩, Ta⟩
              simp only [putG, List.set_cons_zero, List.set_cons_succ, List.cons_append, List.nil_append, List.append_nil] at Ta
              have d0 := hc Ta
              have HT := Lib.hid Ta
              clear Ta
              go_wp2_with fail
              refine (DoesG.use (slabWord_g HS1.out (by rw [HL1.out]; omega) (x % n)) (HT.out) [1] rfl rfl).mono ?_
              rintro e w1 ⟨gs, ⟨rfl, gS2, hS2, rfl⟩, Ta⟩
              simp only [putG, List.set_cons_zero, List.set_cons_succ, List.cons_append, List.nil_append, List.append_nil] at Ta
              have HT := Lib.hid Ta
              clear Ta
              go_wp2_with fail
              refine (DoesG.use (floorSlab_g hF.out) (HT.out) [0] rfl rfl).mono ?_
              rintro e w1 ⟨gs, ⟨rfl, rfl⟩, Ta⟩
              simp only [putG, List.set_cons_zero, List.set_cons_succ, List.cons_append, List.nil_append, List.append_nil] at Ta
              have HT := Lib.hid Ta
              clear Ta
              go_wp2_with fail
              refine (DoesG.use (slabTry_g hS2 (by rw [HL1.out]; omega) (x % n) (s1.word (x % n)) 9 (word_ok HO1.out _).1 (word_ok HO1.out _).2.1) (HT.out) [1] rfl rfl).mono ?_
              rintro e w1 ⟨gs, ⟨rfl, gS3, hS3, rfl⟩, Ta⟩
              simp only [putG, List.set_cons_zero, List.set_cons_succ, List.cons_append, List.nil_append, List.append_nil] at Ta
              have HT := Lib.hid Ta
              clear Ta
              obtain ⟨r, hr⟩ : ∃ r, s1.try (x % n) (s1.word (x % n)) 9 = r := ⟨_, rfl⟩
              have HR1 := Lib.hid (show SlabOk r.1 ∧ r.1.recs.length = n from by rw [← hr]; exact ⟨(try_ok HO1.out _ _ _).1, (try_ok HO1.out _ _ _).2.trans HL1.out⟩)
              have HR2 := Lib.hid (show ∀ i, gAt r.1 i = gAt s1 i from by rw [← hr]; exact try_gs s1 _ _ _)
              have HR3 := Lib.hid (show 0 ≤ r.2.1 ∧ r.2.1 < 18446744073709551616 from by rw [← hr]; exact try_word HO1.out _ _ _ (word_ok HO1.out _).1 (word_ok HO1.out _).2.1 (word_ok HO1.out _).2.2)
              rw [hr] at hS3 ⊢
              clear hr
              obtain ⟨s3, v3, x3⟩ := r
              simp only at HR1 HR2 HR3 hS3
              have HS3 := Lib.hid hS3
              clear hS3 hS2
              have HL3 := Lib.hid (show LastOk s3 n (setK mp (.int .i64 j) (.int .u64 y)) from fun j hj => by rw [HR2.out]; exact HLO1.out j hj)
              by_cases hx3 : x3 = 0
              · subst hx3
                by_cases hst3 : stW v3 = 0
                · go_wp2_with (go_at_call 21; refine (state_calls _ _ HR3.out.1 HR3.out.2).mono ?_; rw [hst3]; rintro e w' ⟨rfl, rfl⟩)
                  refine (DoesG.use (floorSlab_g hF.out) HT.out [0] rfl rfl).mono ?_
                  rintro e w1 ⟨gs, ⟨rfl, rfl⟩, Ta⟩
                  simp only [putG, List.set_cons_zero, List.set_cons_succ, List.cons_append, List.nil_append, List.append_nil] at Ta
                  have HT := Lib.hid Ta
                  clear Ta
                  go_wp2_with fail
                  refine (DoesG.use (slabDrop_g HS3.out HR1.out.1.c0 (by have := HR1.out.1.c1; have := HR1.out.2; omega)) (HT.out) [1] rfl rfl).mono ?_
                  rintro e w1 ⟨gs, ⟨rfl, gS4, hS4, rfl⟩, Ta⟩
                  simp only [putG, List.set_cons_zero, List.set_cons_succ, List.cons_append, List.nil_append, List.append_nil] at Ta
                  have HT := Lib.hid Ta
                  clear Ta
                  go_wp2
                  first
                  | (go_roundw
                     case rel => exact ⟨k + 1, by omega, by go_num, s3.drop.1, _, _, gS4, _, (drop_ok HR1.out.1).1, (drop_ok HR1.out.1).2.trans HR1.out.2, fun j hj => by (rw [drop_gs]; exact HL3.out j hj), hS4, HMP1.out, HT.out.pick [0, 1, 2] rfl⟩
                     case measure => simp [intOf]; omega)
                  | exact ⟨⟨k + 1, by omega, by go_num, s3.drop.1, _, _, gS4, _, (drop_ok HR1.out.1).1, (drop_ok HR1.out.1).2.trans HR1.out.2, fun j hj => by (rw [drop_gs]; exact HL3.out j hj), hS4, HMP1.out, HT.out.pick [0, 1, 2] rfl⟩, by simp [intOf]; omega⟩
                  | ((repeat apply Exists.intro); exact ⟨⟨⟨k + 1, by omega, by go_num, s3.drop.1, _, _, gS4, _, (drop_ok HR1.out.1).1, (drop_ok HR1.out.1).2.trans HR1.out.2, fun j hj => by (rw [drop_gs]; exact HL3.out j hj), hS4, HMP1.out, HT.out.pick [0, 1, 2] rfl⟩, rfl⟩, by simp [intOf]; omega⟩)
                · have z3 : (stW v3 == 0) = false := beq_eq_false_iff_ne.2 hst3
                  go_wp2_with (go_at_call 21; refine (state_calls _ _ HR3.out.1 HR3.out.2).mono ?_; rintro e w' ⟨rfl, rfl⟩)
                  first
                  | (go_roundw
                     case rel => exact ⟨k + 1, by omega, by go_num, s3, _, _, gS3, _, HR1.out.1, HR1.out.2, HL3.out, HS3.out, HMP1.out, HT.out.pick [0, 1, 2] rfl⟩
                     case measure => simp [intOf]; omega)
                  | exact ⟨⟨k + 1, by omega, by go_num, s3, _, _, gS3, _, HR1.out.1, HR1.out.2, HL3.out, HS3.out, HMP1.out, HT.out.pick [0, 1, 2] rfl⟩, by simp [intOf]; omega⟩
                  | ((repeat apply Exists.intro); exact ⟨⟨⟨k + 1, by omega, by go_num, s3, _, _, gS3, _, HR1.out.1, HR1.out.2, HL3.out, HS3.out, HMP1.out, HT.out.pick [0, 1, 2] rfl⟩, rfl⟩, by simp [intOf]; omega⟩)
              · have z3 : (x3 == 0) = false := beq_eq_false_iff_ne.2 hx3
                go_wp2
                first
                | (go_roundw
                   case rel => exact ⟨k + 1, by omega, by go_num, s3, _, _, gS3, _, HR1.out.1, HR1.out.2, HL3.out, HS3.out, HMP1.out, HT.out.pick [0, 1, 2] rfl⟩
                   case measure => simp [intOf]; omega)
                | exact ⟨⟨k + 1, by omega, by go_num, s3, _, _, gS3, _, HR1.out.1, HR1.out.2, HL3.out, HS3.out, HMP1.out, HT.out.pick [0, 1, 2] rfl⟩, by simp [intOf]; omega⟩
                | ((repeat apply Exists.intro); exact ⟨⟨⟨k + 1, by omega, by go_num, s3, _, _, gS3, _, HR1.out.1, HR1.out.2, HL3.out, HS3.out, HMP1.out, HT.out.pick [0, 1, 2] rfl⟩, rfl⟩, by simp [intOf]; omega⟩)
            · go_wp2_with fail
              refine (DoesG.use (reqId_not qb p.sb q1 h2s) (HT.out) [3] rfl rfl).mono ?_
              rintro e w1 ⟨gs, ⟨rfl, rfl⟩, Ta⟩
              simp only [putG, List.set_cons_zero, List.set_cons_succ, List.cons_append, List.nil_append, List.append_nil] at Ta
              have d0 := hc Ta
              have HT := Lib.hid Ta
              clear Ta
              have HLO1 := Lib.hid (show LastOk s1 n mp from fun j hj => by rw [num_kept HG1.out h2s]; exact HLO.out j hj)
              have HMP1 := Lib.hid (mapG_mono HMP.out (Nat.le_succ k))
              go_wp2_with fail
              go_wp2_with fail
              refine (DoesG.use (floorSlab_g hF.out) (HT.out) [0] rfl rfl).mono ?_
              rintro e w1 ⟨gs, ⟨rfl, rfl⟩, Ta⟩
              simp only [putG, List.set_cons_zero, List.set_cons_succ, List.cons_append, List.nil_append, List.append_nil] at Ta
              have d0 := hc Ta
              have HT := Lib.hid Ta
              clear Ta
              go_wp2_with fail
              refine (DoesG.use (slabWord_g HS1.out (by rw [HL1.out]; omega) (x % n)) (HT.out) [1] rfl rfl).mono ?_
              rintro e w1 ⟨gs, ⟨rfl, gS2, hS2, rfl⟩, Ta⟩
              simp only [putG, List.set_cons_zero, List.set_cons_succ, List.cons_append, List.nil_append, List.append_nil] at Ta
              have HT := Lib.hid Ta
              clear Ta
              go_wp2_with fail
              refine (DoesG.use (floorSlab_g hF.out) (HT.out) [0] rfl rfl).mono ?_
              rintro e w1 ⟨gs, ⟨rfl, rfl⟩, Ta⟩
              simp only [putG, List.set_cons_zero, List.set_cons_succ, List.cons_append, List.nil_append, List.append_nil] at Ta
              have HT := Lib.hid Ta
              clear Ta
              go_wp2_with fail
              refine (DoesG.use (slabTry_g hS2 (by rw [HL1.out]; omega) (x % n) (s1.word (x % n)) 9 (word_ok HO1.out _).1 (word_ok HO1.out _).2.1) (HT.out) [1] rfl rfl).mono ?_
              rintro e w1 ⟨gs, ⟨rfl, gS3, hS3, rfl⟩, Ta⟩
              simp only [putG, List.set_cons_zero, List.set_cons_succ, List.cons_append, List.nil_append, List.append_nil] at Ta
              have HT := Lib.hid Ta
              clear Ta
              obtain ⟨r, hr⟩ : ∃ r, s1.try (x % n) (s1.word (x % n)) 9 = r := ⟨_, rfl⟩
              have HR1 := Lib.hid (show SlabOk r.1 ∧ r.1.recs.length = n from by rw [← hr]; exact ⟨(try_ok HO1.out _ _ _).1, (try_ok HO1.out _ _ _).2.trans HL1.out⟩)
              have HR2 := Lib.hid (show ∀ i, gAt r.1 i = gAt s1 i from by rw [← hr]; exact try_gs s1 _ _ _)
              have HR3 := Lib.hid (show 0 ≤ r.2.1 ∧ r.2.1 < 18446744073709551616 from by rw [← hr]; exact try_word HO1.out _ _ _ (word_ok HO1.out _).1 (word_ok HO1.out _).2.1 (word_ok HO1.out _).2.2)
              rw [hr] at hS3 ⊢
              clear hr
              obtain ⟨s3, v3, x3⟩ := r
              simp only at HR1 HR2 HR3 hS3
              have HS3 := Lib.hid hS3
              clear hS3 hS2
              have HL3 := Lib.hid (show LastOk s3 n mp from fun j hj => by rw [HR2.out]; exact HLO1.out j hj)
              by_cases hx3 : x3 = 0
              · subst hx3
                by_cases hst3 : stW v3 = 0
                · go_wp2_with (go_at_call 21; refine (state_calls _ _ HR3.out.1 HR3.out.2).mono ?_; rw [hst3]; rintro e w' ⟨rfl, rfl⟩)
                  refine (DoesG.use (floorSlab_g hF.out) HT.out [0] rfl rfl).mono ?_
                  rintro e w1 ⟨gs, ⟨rfl, rfl⟩, Ta⟩
                  simp only [putG, List.set_cons_zero, List.set_cons_succ, List.cons_append, List.nil_append, List.append_nil] at Ta
                  have HT := Lib.hid Ta
                  clear Ta
                  go_wp2_with fail
                  refine (DoesG.use (slabDrop_g HS3.out HR1.out.1.c0 (by have := HR1.out.1.c1; have := HR1.out.2; omega)) (HT.out) [1] rfl rfl).mono ?_
                  rintro e w1 ⟨gs, ⟨rfl, gS4, hS4, rfl⟩, Ta⟩
                  simp only [putG, List.set_cons_zero, List.set_cons_succ, List.cons_append, List.nil_append, List.append_nil] at Ta
                  have HT := Lib.hid Ta
                  clear Ta
                  go_wp2
                  first
                  | (go_roundw
                     case rel => exact ⟨k + 1, by omega, by go_num, s3.drop.1, _, _, gS4, _, (drop_ok HR1.out.1).1, (drop_ok HR1.out.1).2.trans HR1.out.2, fun j hj => by (rw [drop_gs]; exact HL3.out j hj), hS4, HMP1.out, HT.out.pick [0, 1, 2] rfl⟩
                     case measure => simp [intOf]; omega)
                  | exact ⟨⟨k + 1, by omega, by go_num, s3.drop.1, _, _, gS4, _, (drop_ok HR1.out.1).1, (drop_ok HR1.out.1).2.trans HR1.out.2, fun j hj => by (rw [drop_gs]; exact HL3.out j hj), hS4, HMP1.out, HT.out.pick [0, 1, 2] rfl⟩, by simp [intOf]; omega⟩
                  | ((repeat apply Exists.intro); exact ⟨⟨⟨k + 1, by omega, by go_num, s3.drop.1, _, _, gS4, _, (drop_ok HR1.out.1).1, (drop_ok HR1.out.1).2.trans HR1.out.2, fun j hj => by (rw [drop_gs]; exact HL3.out j hj), hS4, HMP1.out, HT.out.pick [0, 1, 2] rfl⟩, rfl⟩, by simp [intOf]; omega⟩)
                · have z3 : (stW v3 == 0) = false := beq_eq_false_iff_ne.2 hst3
                  go_wp2_with (go_at_call 21; refine (state_calls _ _ HR3.out.1 HR3.out.2).mono ?_; rintro e w' ⟨rfl, rfl⟩)
                  first
                  | (go_roundw
                     case rel => exact ⟨k + 1, by omega, by go_num, s3, _, _, gS3, _, HR1.out.1, HR1.out.2, HL3.out, HS3.out, HMP1.out, HT.out.pick [0, 1, 2] rfl⟩
                     case measure => simp [intOf]; omega)
                  | exact ⟨⟨k + 1, by omega, by go_num, s3, _, _, gS3, _, HR1.out.1, HR1.out.2, HL3.out, HS3.out, HMP1.out, HT.out.pick [0, 1, 2] rfl⟩, by simp [intOf]; omega⟩
                  | ((repeat apply Exists.intro); exact ⟨⟨⟨k + 1, by omega, by go_num, s3, _, _, gS3, _, HR1.out.1, HR1.out.2, HL3.out, HS3.out, HMP1.out, HT.out.pick [0, 1, 2] rfl⟩, rfl⟩, by simp [intOf]; omega⟩)
              · have z3 : (x3 == 0) = false := beq_eq_false_iff_ne.2 hx3
                go_wp2
                first
                | (go_roundw
                   case rel => exact ⟨k + 1, by omega, by go_num, s3, _, _, gS3, _, HR1.out.1, HR1.out.2, HL3.out, HS3.out, HMP1.out, HT.out.pick [0, 1, 2] rfl⟩
                   case measure => simp [intOf]; omega)
                | exact ⟨⟨k + 1, by omega, by go_num, s3, _, _, gS3, _, HR1.out.1, HR1.out.2, HL3.out, HS3.out, HMP1.out, HT.out.pick [0, 1, 2] rfl⟩, by simp [intOf]; omega⟩
                | ((repeat apply Exists.intro); exact ⟨⟨⟨k + 1, by omega, by go_num, s3, _, _, gS3, _, HR1.out.1, HR1.out.2, HL3.out, HS3.out, HMP1.out, HT.out.pick [0, 1, 2] rfl⟩, rfl⟩, by simp [intOf]; omega⟩)
          · obtain rfl : i = n + 2 := by omega
            by_cases h2s : q1.st = 2
            · obtain ⟨j, hjn, hid, hgj⟩ := num_given HG1.out h2s
              rw [HSN.out] at hjn
              obtain ⟨y, hy⟩ : ∃ y, q1.id = y := ⟨_, rfl⟩
              have hyv := hid
              rw [hy] at hyv
              have hb := gAt_bd HS.out j
              have HLO1 := Lib.hid (last_put HLO.out HS.out hyv hgj)
              have HY := Lib.hid hy
              have HM1 := Lib.hid (show y % 64 = j from by omega)
              have y0 : 0 ≤ y := by omega
              have y1 : y < 18446744073709551616 := by omega
              clear hid hgj hyv hb hy
              go_wp2_with fail
              refine (DoesG.use (reqId_c (v := y) qb p.sb q1 h2s HY.out) (HT.out) [3] rfl rfl).mono ?_
              rintro e w1 ⟨gs, ⟨rfl, rfl⟩, Ta⟩
              simp only [putG, List.set_cons_zero, List.set_cons_succ, List.cons_append, List.nil_append, List.append_nil] at Ta
              have HT := Lib.hid Ta
              clear Ta
              go_wp2_with (at_mapUpdate; rw [HM1.out]; (with_reducible refine wpList_update_G rfl (.tmp 74) (.tmp 77) _ rfl Try.keyI64 Try.underlying47 HT.out 2 rfl rfl HMP.out (by unfold maxLen; omega) rfl (.int .i64 j) (.int .u64 y) (.int .i64 j) rfl rfl (slot_key j (by omega) (by omega)) ?_); intro w2 gM1 RM1 T6; simp only [List.set_cons_zero, List.set_cons_succ] at T6; have d0 := hc T6; have HMP1 := Lib.hid RM1; have HT := Lib.hid T6; clear T6 RM1)
              go_wp2_with fail
              refine (DoesG.use (floorSlab_g hF.out) (HT.out) [0] rfl rfl).mono ?_
              rintro e w1 ⟨gs, ⟨rfl, rfl⟩, Ta⟩
              simp only [putG, List.set_cons_zero, List.set_cons_succ, List.cons_append, List.nil_append, List.append_nil] at Ta
              have d0 := hc Ta
              have HT := Lib.hid Ta
              clear Ta
              go_wp2_with fail
              refine (DoesG.use (slabWord_g HS1.out (by rw [HL1.out]; omega) (x % n)) (HT.out) [1] rfl rfl).mono ?_
              rintro e w1 ⟨gs, ⟨rfl, gS2, hS2, rfl⟩, Ta⟩
              simp only [putG, List.set_cons_zero, List.set_cons_succ, List.cons_append, List.nil_append, List.append_nil] at Ta
              have HT := Lib.hid Ta
              clear Ta
              go_wp2_with fail
              refine (DoesG.use (floorSlab_g hF.out) (HT.out) [0] rfl rfl).mono ?_
              rintro e w1 ⟨gs, ⟨rfl, rfl⟩, Ta⟩
              simp only [putG, List.set_cons_zero, List.set_cons_succ, List.cons_append, List.nil_append, List.append_nil] at Ta
              have HT := Lib.hid Ta
              clear Ta
              go_wp2_with fail
              refine (DoesG.use (slabTry_g hS2 (by rw [HL1.out]; omega) (x % n) (s1.word (x % n)) 9 (word_ok HO1.out _).1 (word_ok HO1.out _).2.1) (HT.out) [1] rfl rfl).mono ?_
              rintro e w1 ⟨gs, ⟨rfl, gS3, hS3, rfl⟩, Ta⟩
              simp only [putG, List.set_cons_zero, List.set_cons_succ, List.cons_append, List.nil_append, List.append_nil] at Ta
              have HT := Lib.hid Ta
              clear Ta
              obtain ⟨r, hr⟩ : ∃ r, s1.try (x % n) (s1.word (x % n)) 9 = r := ⟨_, rfl⟩
              have HR1 := Lib.hid (show SlabOk r.1 ∧ r.1.recs.length = n from by rw [← hr]; exact ⟨(try_ok HO1.out _ _ _).1, (try_ok HO1.out _ _ _).2.trans HL1.out⟩)
              have HR2 := Lib.hid (show ∀ i, gAt r.1 i = gAt s1 i from by rw [← hr]; exact try_gs s1 _ _ _)
              have HR3 := Lib.hid (show 0 ≤ r.2.1 ∧ r.2.1 < 18446744073709551616 from by rw [← hr]; exact try_word HO1.out _ _ _ (word_ok HO1.out _).1 (word_ok HO1.out _).2.1 (word_ok HO1.out _).2.2)
              rw [hr] at hS3 ⊢
              clear hr
              obtain ⟨s3, v3, x3⟩ := r
              simp only at HR1 HR2 HR3 hS3
              have HS3 := Lib.hid hS3
              clear hS3 hS2
              have HL3 := Lib.hid (show LastOk s3 n (setK mp (.int .i64 j) (.int .u64 y)) from fun j hj => by rw [HR2.out]; exact HLO1.out j hj)
              by_cases hx3 : x3 = 0
              · subst hx3
                by_cases hst3 : stW v3 = 0
                · go_wp2_with (go_at_call 21; refine (state_calls _ _ HR3.out.1 HR3.out.2).mono ?_; rw [hst3]; rintro e w' ⟨rfl, rfl⟩)
                  refine (DoesG.use (floorSlab_g hF.out) HT.out [0] rfl rfl).mono ?_
                  rintro e w1 ⟨gs, ⟨rfl, rfl⟩, Ta⟩
                  simp only [putG, List.set_cons_zero, List.set_cons_succ, List.cons_append, List.nil_append, List.append_nil] at Ta
                  have HT := Lib.hid Ta
                  clear Ta
                  go_wp2_with fail
                  refine (DoesG.use (slabDrop_g HS3.out HR1.out.1.c0 (by have := HR1.out.1.c1; have := HR1.out.2; omega)) (HT.out) [1] rfl rfl).mono ?_
                  rintro e w1 ⟨gs, ⟨rfl, gS4, hS4, rfl⟩, Ta⟩
                  simp only [putG, List.set_cons_zero, List.set_cons_succ, List.cons_append, List.nil_append, List.append_nil] at Ta
                  have HT := Lib.hid Ta
                  clear Ta
                  go_wp2
                  first
                  | (go_roundw
                     case rel => exact ⟨k + 1, by omega, by go_num, s3.drop.1, _, _, gS4, _, (drop_ok HR1.out.1).1, (drop_ok HR1.out.1).2.trans HR1.out.2, fun j hj => by (rw [drop_gs]; exact HL3.out j hj), hS4, HMP1.out, HT.out.pick [0, 1, 2] rfl⟩
                     case measure => simp [intOf]; omega)
                  | exact ⟨⟨k + 1, by omega, by go_num, s3.drop.1, _, _, gS4, _, (drop_ok HR1.out.1).1, (drop_ok HR1.out.1).2.trans HR1.out.2, fun j hj => by (rw [drop_gs]; exact HL3.out j hj), hS4, HMP1.out, HT.out.pick [0, 1, 2] rfl⟩, by simp [intOf]; omega⟩
                  | ((repeat apply Exists.intro); exact ⟨⟨⟨k + 1, by omega, by go_num, s3.drop.1, _, _, gS4, _, (drop_ok HR1.out.1).1, (drop_ok HR1.out.1).2.trans HR1.out.2, fun j hj => by (rw [drop_gs]; exact HL3.out j hj), hS4, HMP1.out, HT.out.pick [0, 1, 2] rfl⟩, rfl⟩, by simp [intOf]; omega⟩)
                · have z3 : (stW v3 == 0) = false := beq_eq_false_iff_ne.2 hst3
                  go_wp2_with (go_at_call 21; refine (state_calls _ _ HR3.out.1 HR3.out.2).mono ?_; rintro e w' ⟨rfl, rfl⟩)
                  first
                  | (go_roundw
                     case rel => exact ⟨k + 1, by omega, by go_num, s3, _, _, gS3, _, HR1.out.1, HR1.out.2, HL3.out, HS3.out, HMP1.out, HT.out.pick [0, 1, 2] rfl⟩
                     case measure => simp [intOf]; omega)
                  | exact ⟨⟨k + 1, by omega, by go_num, s3, _, _, gS3, _, HR1.out.1, HR1.out.2, HL3.out, HS3.out, HMP1.out, HT.out.pick [0, 1, 2] rfl⟩, by simp [intOf]; omega⟩
                  | ((repeat apply Exists.intro); exact ⟨⟨⟨k + 1, by omega, by go_num, s3, _, _, gS3, _, HR1.out.1, HR1.out.2, HL3.out, HS3.out, HMP1.out, HT.out.pick [0, 1, 2] rfl⟩, rfl⟩, by simp [intOf]; omega⟩)
              · have z3 : (x3 == 0) = false := beq_eq_false_iff_ne.2 hx3
                go_wp2
                first
                | (go_roundw
                   case rel => exact ⟨k + 1, by omega, by go_num, s3, _, _, gS3, _, HR1.out.1, HR1.out.2, HL3.out, HS3.out, HMP1.out, HT.out.pick [0, 1, 2] rfl⟩
                   case measure => simp [intOf]; omega)
                | exact ⟨⟨k + 1, by omega, by go_num, s3, _, _, gS3, _, HR1.out.1, HR1.out.2, HL3.out, HS3.out, HMP1.out, HT.out.pick [0, 1, 2] rfl⟩, by simp [intOf]; omega⟩
                | ((repeat apply Exists.intro); exact ⟨⟨⟨k + 1, by omega, by go_num, s3, _, _, gS3, _, HR1.out.1, HR1.out.2, HL3.out, HS3.out, HMP1.out, HT.out.pick [0, 1, 2] rfl⟩, rfl⟩, by simp [intOf]; omega⟩)
            · go_wp2_with fail
              refine (DoesG.use (reqId_not qb p.sb q1 h2s) (HT.out) [3] rfl rfl).mono ?_
              rintro e w1 ⟨gs, ⟨rfl, rfl⟩, Ta⟩
              simp only [putG, List.set_cons_zero, List.set_cons_succ, List.cons_append, List.nil_append, List.append_nil] at Ta
              have d0 := hc Ta
              have HT := Lib.hid Ta
              clear Ta
              have HLO1 := Lib.hid (show LastOk s1 n mp from fun j hj => by rw [num_kept HG1.out h2s]; exact HLO.out j hj)
              have HMP1 := Lib.hid (mapG_mono HMP.out (Nat.le_succ k))
              go_wp2_with fail
              go_wp2_with fail
              refine (DoesG.use (floorSlab_g hF.out) (HT.out) [0] rfl rfl).mono ?_
              rintro e w1 ⟨gs, ⟨rfl, rfl⟩, Ta⟩
              simp only [putG, List.set_cons_zero, List.set_cons_succ, List.cons_append, List.nil_append, List.append_nil] at Ta
              have d0 := hc Ta
              have HT := Lib.hid Ta
              clear Ta
              go_wp2_with fail
              refine (DoesG.use (slabWord_g HS1.out (by rw [HL1.out]; omega) (x % n)) (HT.out) [1] rfl rfl).mono ?_
              rintro e w1 ⟨gs, ⟨rfl, gS2, hS2, rfl⟩, Ta⟩
              simp only [putG, List.set_cons_zero, List.set_cons_succ, List.cons_append, List.nil_append, List.append_nil] at Ta
              have HT := Lib.hid Ta
              clear Ta
              go_wp2_with fail
              refine (DoesG.use (floorSlab_g hF.out) (HT.out) [0] rfl rfl).mono ?_
              rintro e w1 ⟨gs, ⟨rfl, rfl⟩, Ta⟩
              simp only [putG, List.set_cons_zero, List.set_cons_succ, List.cons_append, List.nil_append, List.append_nil] at Ta
              have HT := Lib.hid Ta
              clear Ta
              go_wp2_with fail
              refine (DoesG.use (slabTry_g hS2 (by rw [HL1.out]; omega) (x % n) (s1.word (x % n)) 9 (word_ok HO1.out _).1 (word_ok HO1.out _).2.1) (HT.out) [1] rfl rfl).mono ?_
              rintro e w1 ⟨gs, ⟨rfl, gS3, hS3, rfl⟩, Ta⟩
              simp only [putG, List.set_cons_zero, List.set_cons_succ, List.cons_append, List.nil_append, List.append_nil] at Ta
              have HT := Lib.hid Ta
              clear Ta
              obtain ⟨r, hr⟩ : ∃ r, s1.try (x % n) (s1.word (x % n)) 9 = r := ⟨_, rfl⟩
              have HR1 := Lib.hid (show SlabOk r.1 ∧ r.1.recs.length = n from by rw [← hr]; exact ⟨(try_ok HO1.out _ _ _).1, (try_ok HO1.out _ _ _).2.trans HL1.out⟩)
              have HR2 := Lib.hid (show ∀ i, gAt r.1 i = gAt s1 i from by rw [← hr]; exact try_gs s1 _ _ _)
              have HR3 := Lib.hid (show 0 ≤ r.2.1 ∧ r.2.1 < 18446744073709551616 from by rw [← hr]; exact try_word HO1.out _ _ _ (word_ok HO1.out _).1 (word_ok HO1.out _).2.1 (word_ok HO1.out _).2.2)
              rw [hr] at hS3 ⊢
              clear hr
              obtain ⟨s3, v3, x3⟩ := r
              simp only at HR1 HR2 HR3 hS3
              have HS3 := Lib.hid hS3
              clear hS3 hS2
              have HL3 := Lib.hid (show LastOk s3 n mp from fun j hj => by rw [HR2.out]; exact HLO1.out j hj)
              by_cases hx3 : x3 = 0
              · subst hx3
                by_cases hst3 : stW v3 = 0
                · go_wp2_with (go_at_call 21; refine (state_calls _ _ HR3.out.1 HR3.out.2).mono ?_; rw [hst3]; rintro e w' ⟨rfl, rfl⟩)
                  refine (DoesG.use (floorSlab_g hF.out) HT.out [0] rfl rfl).mono ?_
                  rintro e w1 ⟨gs, ⟨rfl, rfl⟩, Ta⟩
                  simp only [putG, List.set_cons_zero, List.set_cons_succ, List.cons_append, List.nil_append, List.append_nil] at Ta
                  have HT := Lib.hid Ta
                  clear Ta
                  go_wp2_with fail
                  refine (DoesG.use (slabDrop_g HS3.out HR1.out.1.c0 (by have := HR1.out.1.c1; have := HR1.out.2; omega)) (HT.out) [1] rfl rfl).mono ?_
                  rintro e w1 ⟨gs, ⟨rfl, gS4, hS4, rfl⟩, Ta⟩
                  simp only [putG, List.set_cons_zero, List.set_cons_succ, List.cons_append, List.nil_append, List.append_nil] at Ta
                  have HT := Lib.hid Ta
                  clear Ta
                  go_wp2
                  first
                  | (go_roundw
                     case rel => exact ⟨k + 1, by omega, by go_num, s3.drop.1, _, _, gS4, _, (drop_ok HR1.out.1).1, (drop_ok HR1.out.1).2.trans HR1.out.2, fun j hj => by (rw [drop_gs]; exact HL3.out j hj), hS4, HMP1.out, HT.out.pick [0, 1, 2] rfl⟩
                     case measure => simp [intOf]; omega)
                  | exact ⟨⟨k + 1, by omega, by go_num, s3.drop.1, _, _, gS4, _, (drop_ok HR1.out.1).1, (drop_ok HR1.out.1).2.trans HR1.out.2, fun j hj => by (rw [drop_gs]; exact HL3.out j hj), hS4, HMP1.out, HT.out.pick [0, 1, 2] rfl⟩, by simp [intOf]; omega⟩
                  | ((repeat apply Exists.intro); exact ⟨⟨⟨k + 1, by omega, by go_num, s3.drop.1, _, _, gS4, _, (drop_ok HR1.out.1).1, (drop_ok HR1.out.1).2.trans HR1.out.2, fun j hj => by (rw [drop_gs]; exact HL3.out j hj), hS4, HMP1.out, HT.out.pick [0, 1, 2] rfl⟩, rfl⟩, by simp [intOf]; omega⟩)
                · have z3 : (stW v3 == 0) = false := beq_eq_false_iff_ne.2 hst3
                  go_wp2_with (go_at_call 21; refine (state_calls _ _ HR3.out.1 HR3.out.2).mono ?_; rintro e w' ⟨rfl, rfl⟩)
                  first
                  | (go_roundw
                     case rel => exact ⟨k + 1, by omega, by go_num, s3, _, _, gS3, _, HR1.out.1, HR1.out.2, HL3.out, HS3.out, HMP1.out, HT.out.pick [0, 1, 2] rfl⟩
                     case measure => simp [intOf]; omega)
                  | exact ⟨⟨k + 1, by omega, by go_num, s3, _, _, gS3, _, HR1.out.1, HR1.out.2, HL3.out, HS3.out, HMP1.out, HT.out.pick [0, 1, 2] rfl⟩, by simp [intOf]; omega⟩
                  | ((repeat apply Exists.intro); exact ⟨⟨⟨k + 1, by omega, by go_num, s3, _, _, gS3, _, HR1.out.1, HR1.out.2, HL3.out, HS3.out, HMP1.out, HT.out.pick [0, 1, 2] rfl⟩, rfl⟩, by simp [intOf]; omega⟩)
              · have z3 : (x3 == 0) = false := beq_eq_false_iff_ne.2 hx3
                go_wp2
                first
                | (go_roundw
                   case rel => exact ⟨k + 1, by omega, by go_num, s3, _, _, gS3, _, HR1.out.1, HR1.out.2, HL3.out, HS3.out, HMP1.out, HT.out.pick [0, 1, 2] rfl⟩
                   case measure => simp [intOf]; omega)
                | exact ⟨⟨k + 1, by omega, by go_num, s3, _, _, gS3, _, HR1.out.1, HR1.out.2, HL3.out, HS3.out, HMP1.out, HT.out.pick [0, 1, 2] rfl⟩, by simp [intOf]; omega⟩
                | ((repeat apply Exists.intro); exact ⟨⟨⟨k + 1, by omega, by go_num, s3, _, _, gS3, _, HR1.out.1, HR1.out.2, HL3.out, HS3.out, HMP1.out, HT.out.pick [0, 1, 2] rfl⟩, rfl⟩, by simp [intOf]; omega⟩)
    · obtain rfl : k = m := by omega
      have HG := Lib.hid (show ∀ r ∈ s.recs, 0 ≤ r.g ∧ r.g ≤ 4294967295 from fun r hr => by
        obtain ⟨i, hi, rfl⟩ := List.getElem_of_mem hr
        have := gAt_bd HS.out i
        unfold gAt at this
        rwa [List.getD_eq_getElem?_getD, List.getElem?_eq_getElem hi] at this)
      go_wp2_with fail
      refine (DoesG.use (floorNumber_g (p := p) hF.out HSL.out (show (nullF n).cfg.cap = _ from by rw [HSN.out]; rfl) (by rw [HSN.out]; omega) HG.out slot) (HT.out) [0, 1] rfl rfl).mono ?_
      rintro e w1 ⟨gs, ⟨rfl, gS2, hS2, rfl⟩, Ta⟩
      simp only [putG, List.set_cons_zero, List.set_cons_succ, List.cons_append, List.nil_append, List.append_nil] at Ta
      have HT := Lib.hid Ta
      clear Ta
      by_cases o0 : slot < 0
      · have HV := Lib.hid (show numV s slot = (0, 4) from if_neg (by omega))
        rw [HV.out]
        go_wp2
        go_ret
        exact ⟨rfl, HT.out.bel⟩
      by_cases o1 : (n : Int) ≤ slot
      · have HV := Lib.hid (show numV s slot = (0, 4) from if_neg (by rw [HSN.out]; omega))
        rw [HV.out]
        go_wp2
        go_ret
        exact ⟨rfl, HT.out.bel⟩
      obtain ⟨j, rfl⟩ := Int.eq_ofNat_of_zero_le (show 0 ≤ slot by omega)
      rcases numV_in HLO.out HS.out HSN.out (show j < n by omega) with ⟨hm0, hv⟩ | ⟨y, hy0, hm0, hv⟩
      · rw [hv]
        have HM0 := Lib.hid hm0
        clear hm0 hv
        go_wp2_with (at_lookup; (with_reducible refine wpList_lookup_G rfl _ _ rfl Try.keyI64 Try.underlying47 (.int .u64 0) Try.zeroU64 HT.out 2 rfl HMP.out rfl (.int .i64 j) (.int .i64 j) rfl (slot_key j (by omega) (by omega)) ?_); rw [HM0.out])
        go_ret
        exact ⟨rfl, HT.out.bel⟩
      · rw [hv]
        have HM0 := Lib.hid hm0
        have z0 : (y == 0) = false := by simp [hy0]
        clear hm0 hv
        go_wp2_with (at_lookup; (with_reducible refine wpList_lookup_G rfl _ _ rfl Try.keyI64 Try.underlying47 (.int .u64 0) Try.zeroU64 HT.out 2 rfl HMP.out rfl (.int .i64 j) (.int .i64 j) rfl (slot_key j (by omega) (by omega)) ?_); rw [HM0.out])
        go_ret
        exact ⟨rfl, HT.out.bel⟩
end Go.Proofs.Ythbjaoinklhikaa
