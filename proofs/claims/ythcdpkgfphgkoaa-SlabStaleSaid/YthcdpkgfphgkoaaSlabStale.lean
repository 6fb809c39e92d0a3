import Derived.Test.YthcdpkgfphgkoaaSlabM
import Derived.Outline
namespace Go.Proofs.Ythcdpkgfphgkoaa
set_option linter.unusedVariables false
set_option linter.unusedSimpArgs false
open Go.RowKit

/-- the slab behind so many rounds, and within one behind so many steps; its request -/
def staleS (i : Nat) : Nat → SlabS
  | 0 => ⟨[⟨i * 256, i, if i = 0 then 0 else 1⟩], 0⟩
  | 1 => ⟨[⟨i * 256, i, if i = 0 then 0 else 1⟩], 0⟩
  | 2 => ⟨[⟨i * 256, i, if i = 0 then 0 else 1⟩], 1⟩
  | _ => ⟨[⟨(i + 1) * 256 + 1, i + 1, 1⟩], 1⟩
def staleQ (i : Nat) : Nat → Req
  | 0 => newReq 1
  | 1 => ⟨1, 1, 0, 0, 0, 0⟩
  | 2 => ⟨1, 2, 0, 0, 0, 0⟩
  | _ => ⟨1, 2, 0, 0, (i + 1) * 64, 2⟩
theorem stale_step {i k : Nat} (hi : i ≤ 5) (hk : k < 3) : stepR (staleS i k) (staleQ i k) = (staleS i (k + 1), staleQ i (k + 1)) := by
  have h1 : i = 0 ∨ i = 1 ∨ i = 2 ∨ i = 3 ∨ i = 4 ∨ i = 5 := by omega
  have h2 : k = 0 ∨ k = 1 ∨ k = 2 := by omega
  rcases h1 with rfl | rfl | rfl | rfl | rfl | rfl <;> rcases h2 with rfl | rfl | rfl <;> rfl
theorem stale_ok {i k : Nat} (hi : i ≤ 5) (hk : k ≤ 3) : SlabOk (staleS i k) ∧ ReqOk (staleS i k).recs.length (staleQ i k) := by
  have h1 : i = 0 ∨ i = 1 ∨ i = 2 ∨ i = 3 ∨ i = 4 ∨ i = 5 := by omega
  have h2 : k = 0 ∨ k = 1 ∨ k = 2 ∨ k = 3 := by omega
  rcases h1 with rfl | rfl | rfl | rfl | rfl | rfl <;> rcases h2 with rfl | rfl | rfl | rfl <;> exact ⟨.of rfl, .of rfl⟩
theorem stale_free {i : Nat} (hi : i ≤ 5) : freeS (staleS i 3) 0 = (staleS (i + 1) 0, true) := by
  have h1 : i = 0 ∨ i = 1 ∨ i = 2 ∨ i = 3 ∨ i = 4 ∨ i = 5 := by omega
  rcases h1 with rfl | rfl | rfl | rfl | rfl | rfl <;> rfl
def idsL (k : Nat) : List Value := (List.range k).map fun (j : Nat) => Value.int .u64 (((j : Int) + 1) * 64)
def wordsL (k : Nat) : List Value := (List.range k).map fun (j : Nat) => Value.int .u64 (((j : Int) + 1) * 256 + 1)
def StaleI (w : World) (ids words i : Value) (wr : World) : Prop :=
  ∃ (k : Nat) (g gi gw : List Blk) (sb : Nat), k ≤ 6 ∧ i = .int .i64 k ∧ rowG 32 1 ids k (idsL k) gi ∧ rowG 41 1 words k (wordsL k) gw ∧ isSlab sb (staleS k 0) g ∧ TG [] w [g, gi, gw] wr

theorem stale_mine : ∀ k : Nat, k ≤ 5 → ∀ j : Nat, j < k → (staleS k 3).mine (((j : Int) + 1) * 64) = false := by decide
theorem stale_own : ∀ k : Nat, k ≤ 5 → (staleS k 3).mine (((k : Int) + 1) * 64) = true ∧ (staleS k 3).slot (((k : Int) + 1) * 64 + 64) = 0 ∧ (staleS k 3).serr (((k : Int) + 1) * 64 + 64) = 1 := by decide
theorem try_old {s : SlabS} {k old ev : Int} (h : s.has k) (hne : (s.recs.getD k.toNat Rec.zero).w ≠ old) : ∃ x, x ≠ 0 ∧ s.try k old ev = (s, (s.recs.getD k.toNat Rec.zero).w, x) := by
  unfold SlabS.try
  rw [if_pos h]
  simp only []
  split
  · next h1 => exact ⟨_, h1, rfl⟩
  · exact ⟨10, by decide, rfl⟩
theorem Try.infoU64 : (Try.prog.info? 32).map (fun i => (i.zero, i.size, i.bytes)) = some (some (.int .u64 0), 1, 8) := by kernel_rfl
theorem Try.infoWord : (Try.prog.info? 41).map (fun i => (i.zero, i.size, i.bytes)) = some (some (.int .u64 0), 1, 8) := by kernel_rfl
theorem idsL_at {j k : Nat} (h : j < k) : (idsL k)[j]? = some (.int .u64 (((j : Int) + 1) * 64)) := by simp [idsL, h]
theorem wordsL_at {j k : Nat} (h : j < k) : (wordsL k)[j]? = some (.int .u64 (((j : Int) + 1) * 256 + 1)) := by simp [wordsL, h]
theorem idsL_snoc (k : Nat) : idsL k ++ [.int .u64 (((k : Int) + 1) * 64)] = idsL (k + 1) := by simp [idsL, List.range_succ]
theorem wordsL_snoc (k : Nat) : wordsL k ++ [.int .u64 (((k : Int) + 1) * 256 + 1)] = wordsL (k + 1) := by simp [wordsL, List.range_succ]

set_option maxRecDepth 100000 in
set_option maxHeartbeats 4000000 in
theorem lawStale_g (tm ev : Int) (h0 : 0 ≤ tm) (h1 : tm ≤ 255) (h2 : 0 ≤ ev) (h3 : ev ≤ 255) : DoesG Try.prog 5 #[.int .u8 tm, .int .u8 ev] [] fun e gs => e = .returned (.bool true) ∧ gs = [] := by
  intro w hw
  have T0 := TG.refl hw
  have HT := Lib.hid T0
  clear hw T0
  go_enter Try.func5, Try.ntmps5
  go_wp2_with fail
  refine (DoesG.use (alive_g) (HT.out) [] rfl rfl).mono ?_
  rintro e w1 ⟨gs, ⟨rfl, rfl⟩, Ta⟩
  simp only [putG, List.set_cons_zero, List.set_cons_succ, List.cons_append, List.nil_append, List.append_nil] at Ta
  have HT := Lib.hid Ta
  clear Ta
  go_wp2_with fail
  refine (DoesG.use (slabNew_at 1 (by decide) (by decide)) (HT.out) [] rfl rfl).mono ?_
  rintro e w1 ⟨gs, ⟨sb, g0, rfl, hg0, rfl⟩, Ta⟩
  simp only [putG, List.set_cons_zero, List.set_cons_succ, List.cons_append, List.nil_append, List.append_nil] at Ta
  have HT := Lib.hid Ta
  clear Ta
  go_wp2
  go_loopw [7, 8, 9] (fun ids words i wr => ∃ (k : Nat) (g gi gw : List Blk), k ≤ tm % 6 + 1 ∧ i = .int .i64 k ∧ rowG 32 1 ids k (idsL k) gi ∧ rowG 41 1 words k (wordsL k) gw ∧ isSlab sb (staleS k 0) g ∧ TG [] w [g, gi, gw] wr) (fun _ _ i _ => 7 - (intOf i).toNat)
  case atStart => exact ⟨0, g0, [], [], by omega, rfl, rowG_nil _ _, rowG_nil _ _, hg0, HT.out.eq (by simp)⟩
  case round =>
    obtain ⟨k, g, gi, gw, hk, rfl, ri, rw', hg, T⟩ := hrel
    have HT := Lib.hid T
    have RI := Lib.hid ri
    have RW := Lib.hid rw'
    obtain ⟨ai, ci, rfl⟩ := ri.val
    obtain ⟨aw, cw, rfl⟩ := rw'.val
    clear T ri rw'
    by_cases hlt : (k : Int) ≤ tm % 6
    · have hk5 : k ≤ 5 := by omega
      go_wp2_with fail
      refine (DoesG.use (slabBegin_g sb 1) (HT.out) [] rfl rfl).mono ?_
      rintro e w1 ⟨gs, ⟨qb, rfl, rfl⟩, Ta⟩
      simp only [putG, List.set_cons_zero, List.set_cons_succ, List.cons_append, List.nil_append, List.append_nil] at Ta
      have HT := Lib.hid Ta
      clear Ta
      go_wp2
      obtain ⟨wo, rfl⟩ : ∃ wo : World, wo = w1 := ⟨_, rfl⟩
      go_loopw [11] (fun i wr => ∃ (j : Nat) (g : List Blk), j ≤ 3 ∧ i = .int .i64 j ∧ isSlab sb (staleS k j) g ∧ TG [] w [g, gi, gw, reqG qb sb (staleQ k j)] wr) (fun i _ => 4 - (intOf i).toNat)
      case atStart => exact ⟨0, g, by omega, rfl, hg, HT.out⟩
      case round =>
        obtain ⟨j, g, hj, rfl, hg, T⟩ := hrel
        have HT := Lib.hid T
        clear T
        by_cases hj3 : j < 3
        · go_wp2_with fail
          refine (DoesG.use (reqStep_c _ (stale_step hk5 hj3) hg (stale_ok hk5 hj).1 (stale_ok hk5 hj).2) (HT.out) [3, 0] rfl rfl).mono ?_
          rintro e w1 ⟨gs, ⟨rfl, g1, hg1, rfl⟩, Ta⟩
          simp only [putG, List.set_cons_zero, List.set_cons_succ, List.cons_append, List.nil_append, List.append_nil] at Ta
          have HT := Lib.hid Ta
          clear Ta
          go_wp2
          go_roundw
          case rel => exact ⟨j + 1, g1, by omega, by go_num, hg1, HT.out⟩
          case measure => simp [intOf]; omega
        · obtain rfl : j = 3 := by omega
          go_wp2_with fail
          refine (DoesG.use (reqId_c (v := ((k : Int) + 1) * 64) qb sb (staleQ k 3) rfl rfl) (HT.out) [3] rfl rfl).mono ?_
          rintro e w1 ⟨gs, ⟨rfl, rfl⟩, Ta⟩
          simp only [putG, List.set_cons_zero, List.set_cons_succ, List.cons_append, List.nil_append, List.append_nil] at Ta
          have HT := Lib.hid Ta
          clear Ta
          go_wp2_with fail
          refine (DoesG.use (slabWord_c (s := staleS k 3) (k := 0) (v := ((k : Int) + 1) * 256 + 1) (x := 0) rfl rfl hg (show (1 : Nat) ≤ 64 by decide)) (HT.out) [0] rfl rfl).mono ?_
          rintro e w1 ⟨gs, ⟨rfl, g1, hg1, rfl⟩, Ta⟩
          simp only [putG, List.set_cons_zero, List.set_cons_succ, List.cons_append, List.nil_append, List.append_nil] at Ta
          have HT := Lib.hid Ta
          clear Ta
          go_wp2
          obtain ⟨wi, rfl⟩ : ∃ wi : World, wi = w1 := ⟨_, rfl⟩
          go_loopw [16] (fun i wr => ∃ (j : Nat) (g : List Blk), j ≤ k ∧ i = .int .i64 j ∧ isSlab sb (staleS k 3) g ∧ TG [] w [g, gi, gw, reqG qb sb (staleQ k 3)] wr) (fun i _ => k + 1 - (intOf i).toNat)
          case atStart => exact ⟨0, g1, by omega, rfl, hg1, HT.out⟩
          case round =>
            obtain ⟨j, g, hj, rfl, hg, T⟩ := hrel
            by_cases hjk : j < k
            · obtain ⟨b1, cap1, cur1, hv1, rfl, hn1, -, -, hc1⟩ := RI.out.open (by omega)
              obtain ⟨b2, cap2, cur2, hv2, rfl, hn2, -, -, hc2⟩ := RW.out.open (by omega)
              cases hv1
              cases hv2
              have HC1 := Lib.hid ((hc1 j (by omega)).trans (idsL_at hjk))
              have HC2 := Lib.hid ((hc2 j (by omega)).trans (wordsL_at hjk))
              have c1 := (T.cell 1 0 rfl j).trans HC1.out
              have c2 := (T.cell 2 0 rfl j).trans HC2.out
              have HT := Lib.hid T
              clear T hc1 hc2
              obtain ⟨x, hx, E⟩ := try_old (s := staleS k 3) (k := 0) (old := ((j : Int) + 1) * 256 + 1) (ev := 1 + ev % 10) (show (0 : Int) ≤ 0 ∧ (0 : Int) < 1 by decide) (show ((k : Int) + 1) * 256 + 1 ≠ ((j : Int) + 1) * 256 + 1 by omega)
              have b7 : ((((j : Int) + 1) * 64) == (((k : Int) + 1) * 64)) = false := by simp; omega
              have b8 : ((((j : Int) + 1) * 256 + 1) == (((k : Int) + 1) * 256 + 1)) = false := by simp; omega
              have bx : (x == 0) = false := by simpa using hx
              have HE := Lib.hid (show (staleS k 3).try 0 (((j : Int) + 1) * 256 + 1) (1 + ev % 10) = (staleS k 3, ((k : Int) + 1) * 256 + 1, x) from E)
              clear E hx
              go_wp2_with fail
              refine (DoesG.use (slabMine_c (stale_mine k hk5 j hjk) hg (show (1 : Nat) ≤ 64 by decide) (by omega) (by omega)) (HT.out) [0] rfl rfl).mono ?_
              rintro e w1 ⟨gs, ⟨rfl, g1, hg1, rfl⟩, Ta⟩
              simp only [putG, List.set_cons_zero, List.set_cons_succ, List.cons_append, List.nil_append, List.append_nil] at Ta
              have d2 := (Ta.cell 2 0 rfl j).trans HC2.out
              have HT := Lib.hid Ta
              clear Ta
              go_wp2_with fail
              refine (DoesG.use (slabTry_c HE.out hg1 (show (1 : Nat) ≤ 64 by decide) (by omega) (by omega)) (HT.out) [0] rfl rfl).mono ?_
              rintro e w1 ⟨gs, ⟨rfl, g2, hg2, rfl⟩, Ta⟩
              simp only [putG, List.set_cons_zero, List.set_cons_succ, List.cons_append, List.nil_append, List.append_nil] at Ta
              have HT := Lib.hid Ta
              clear Ta
              go_wp2
              first
              | (go_roundw
                 case rel => exact ⟨j + 1, g2, by omega, by go_num, hg2, HT.out⟩
                 case measure => simp [intOf]; omega)
              | exact ⟨⟨j + 1, g2, by omega, by go_num, hg2, HT.out⟩, by simp [intOf]; omega⟩
              | ((repeat apply Exists.intro); exact ⟨⟨⟨j + 1, g2, by omega, by go_num, hg2, HT.out⟩, rfl⟩, by simp [intOf]; omega⟩)
            · obtain rfl : j = k := by omega
              have HT := Lib.hid T
              clear T
              go_wp2_with fail
              refine (DoesG.use (slabSlot_c (stale_own j hk5).2.1 (stale_own j hk5).2.2 hg (show (1 : Nat) ≤ 64 by decide) (by omega) (by omega)) (HT.out) [0] rfl rfl).mono ?_
              rintro e w1 ⟨gs, ⟨rfl, g1, hg1, rfl⟩, Ta⟩
              simp only [putG, List.set_cons_zero, List.set_cons_succ, List.cons_append, List.nil_append, List.append_nil] at Ta
              have HT := Lib.hid Ta
              clear Ta
              go_wp2_with fail
              refine (DoesG.use (slabMine_c (stale_own j hk5).1 hg1 (show (1 : Nat) ≤ 64 by decide) (by omega) (by omega)) (HT.out) [0] rfl rfl).mono ?_
              rintro e w1 ⟨gs, ⟨rfl, g2, hg2, rfl⟩, Ta⟩
              simp only [putG, List.set_cons_zero, List.set_cons_succ, List.cons_append, List.nil_append, List.append_nil] at Ta
              have HT := Lib.hid Ta
              clear Ta
              go_wp2_with (first
              | (at_builtin; (with_reducible refine wpList_append_G rfl (.tmp 127) (.tmp 129) 46 rfl 32 1 8 _ Try.underlying46 Try.infoU64 rfl (by decide) ((HT.out).alloc0 _) 1 rfl rfl (RI.out) rfl ⟨w1.heap.size, 0, none⟩ 1 1 [.int .u64 (((j : Int) + 1) * 64)] rfl rfl (news_alloc _ _ _) (by simp [Value.oneCell']) (by unfold maxLen; omega) (by omega) ?_); intro v1 w2 gi2 r1 T1; simp only [List.set_cons_zero, List.set_cons_succ] at T1; have T1 := Lib.hid T1; have r1 := Lib.hid r1)
              | (at_builtin; (with_reducible refine wpList_append_G rfl (.tmp 131) (.tmp 133) 47 rfl 41 1 8 _ Try.underlying47 Try.infoWord rfl (by decide) ((T1.out).alloc0 _) 2 rfl rfl (RW.out) rfl ⟨w2.heap.size, 0, none⟩ 1 1 [.int .u64 (((j : Int) + 1) * 256 + 1)] rfl rfl (news_alloc _ _ _) (by simp [Value.oneCell']) (by unfold maxLen; omega) (by omega) ?_); intro v2 w3 gw2 r2 T2; simp only [List.set_cons_zero, List.set_cons_succ] at T2; have T2 := Lib.hid T2; have r2 := Lib.hid r2)
                )
              go_wp2_with fail
              refine (DoesG.use (free_g hg2 (stale_ok hk5 (Nat.le_refl 3)).1 0) (T2.out) [0] rfl rfl).mono ?_
              rintro e w1 ⟨gs, ⟨he, g3, hg3, rfl⟩, Ta⟩
              simp only [putG, List.set_cons_zero, List.set_cons_succ, List.cons_append, List.nil_append, List.append_nil] at Ta
              have HT := Lib.hid Ta
              clear Ta
              rw [stale_free hk5] at he hg3
              subst he
              go_wp2
              first
              | (go_roundw
                 case rel => exact ⟨j + 1, g3, gi2, gw2, by omega, by go_num, by have := r1.out; rwa [idsL_snoc] at this, by have := r2.out; rwa [wordsL_snoc] at this, hg3, HT.out.pick [0, 1, 2] rfl⟩
                 case measure => simp [intOf]; omega)
              | exact ⟨⟨j + 1, g3, gi2, gw2, by omega, by go_num, by have := r1.out; rwa [idsL_snoc] at this, by have := r2.out; rwa [wordsL_snoc] at this, hg3, HT.out.pick [0, 1, 2] rfl⟩, by simp [intOf]; omega⟩
              | ((repeat apply Exists.intro); exact ⟨⟨⟨j + 1, g3, gi2, gw2, by omega, by go_num, by have := r1.out; rwa [idsL_snoc] at this, by have := r2.out; rwa [wordsL_snoc] at this, hg3, HT.out.pick [0, 1, 2] rfl⟩, rfl⟩, by simp [intOf]; omega⟩)
    · go_wp2
      go_ret
      exact ⟨_, ⟨rfl, rfl⟩, HT.out.pick [] rfl⟩
end Go.Proofs.Ythcdpkgfphgkoaa
