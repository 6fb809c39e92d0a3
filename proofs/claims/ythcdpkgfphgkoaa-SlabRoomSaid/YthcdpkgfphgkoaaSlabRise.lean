import Derived.Test.YthcdpkgfphgkoaaSlabAlone
namespace Go.Proofs.Ythcdpkgfphgkoaa
set_option linter.unusedVariables false
set_option linter.unusedSimpArgs false
open Go.RowKit

/-! ## So many steps -/
def itR (s : SlabS) (q : Req) : Nat → SlabS × Req
  | 0 => (s, q)
  | m + 1 => stepR (itR s q m).1 (itR s q m).2
theorem itR_ok {s : SlabS} {q : Req} (hs : SlabOk s) (hq : ReqOk s.recs.length q) (m : Nat) : SlabOk (itR s q m).1 ∧ ReqOk (itR s q m).1.recs.length (itR s q m).2 := by
  induction m with
  | zero => exact ⟨hs, hq⟩
  | succ m ih =>
    have h := stepR_ok ih.1 ih.2
    exact ⟨h.1, by show ReqOk (stepR (itR s q m).1 (itR s q m).2).1.recs.length _; rw [h.2.2]; exact h.2.1⟩
theorem stepR_done {s : SlabS} {q : Req} (h : q.st ≠ 0) : stepR s q = (s, q) := if_pos h
theorem itR_full {s : SlabS} (hc : (s.recs.length : Int) ≤ s.count) (m : Nat) : itR s (newReq 0) (m + 1) = (s, ⟨0, 0, s.count, 0, 0, 1⟩) := by
  induction m with
  | zero => exact run_full hc
  | succ m ih =>
    show stepR (itR s (newReq 0) (m + 1)).1 (itR s (newReq 0) (m + 1)).2 = _
    rw [ih]; exact stepR_done (by show (1 : Int) ≠ 0; decide)
theorem itR_run {s : SlabS} {n : Nat} {t : Int} (h : Tame s n t 0) (ht : t < 4294967295) (hc : s.count < n) {j : Nat} {r : Rec} (hj : s.recs[j]? = some r) (hb : busyB r = false) (hlt : ∀ (i : Nat) (x : Rec), i < j → s.recs[i]? = some x → busyB x = true) :
    ∀ m, itR s (newReq 0) (m + 1) = (runS s j r (min (m + 1) (j + 3)), runQ s j r (min (m + 1) (j + 3))) := by
  intro m
  induction m with
  | zero =>
    have e : min (0 + 1) (j + 3) = 1 := by omega
    rw [e]
    have hc' : s.count < s.recs.length := by have := h.len; omega
    exact run_first hc' j r
  | succ m ih =>
    show stepR (itR s (newReq 0) (m + 1)).1 (itR s (newReq 0) (m + 1)).2 = _
    rw [ih]
    by_cases h1 : m + 1 < j + 3
    · rw [show min (m + 1) (j + 3) = m + 1 by omega, show min (m + 1 + 1) (j + 3) = m + 1 + 1 by omega]
      exact run_next h ht hj hb hlt (by omega) h1
    · rw [show min (m + 1) (j + 3) = j + 3 by omega, show min (m + 1 + 1) (j + 3) = j + 3 by omega]
      exact stepR_done (by rw [run_stOf s r (by omega)]; unfold stOf; rw [if_neg (by omega)]; decide)
/-- the last number that was given of a slot, 0: none -/
def lastV (s : SlabS) (i : Nat) : Int := if (s.recs.getD i Rec.zero).g = 0 then 0 else (s.recs.getD i Rec.zero).g * 64 + i
def lastC (s : SlabS) : Array Value := ((List.range 8).map fun i => Value.int .u64 (lastV s i)).toArray
theorem lastC_at (s : SlabS) {i : Nat} (h : i < 8) : (lastC s)[i]? = some (.int .u64 (lastV s i)) := by simp [lastC, h]
theorem lastC_congr {s s' : SlabS} (h : ∀ i, (s'.recs.getD i Rec.zero).g = (s.recs.getD i Rec.zero).g) : lastC s' = lastC s := by
  unfold lastC lastV; simp only [h]
theorem getD_set {l : List Rec} {k i : Nat} {r x : Rec} (hk : l[k]? = some x) : (l.set k r).getD i Rec.zero = if i = k then r else l.getD i Rec.zero := by
  have hl := (List.getElem?_eq_some_iff.1 hk).1
  rw [List.getD_eq_getElem?_getD, List.getD_eq_getElem?_getD, List.getElem?_set]
  by_cases e : k = i
  · subst e; simp [hl]
  · rw [if_neg e, if_neg (fun x => e x.symm)]
theorem free_given {s : SlabS} {n : Nat} {t m : Int} (h : Tame s n t m) (k : Int) (i : Nat) : ((freeS s k).1.recs.getD i Rec.zero).g = (s.recs.getD i Rec.zero).g := by
  have ht : ∀ old ev, ((s.try k old ev).1.recs.getD i Rec.zero).g = (s.recs.getD i Rec.zero).g := by
    intro old ev
    unfold SlabS.try
    split
    · next hk =>
      obtain ⟨j, rfl⟩ := SlabS.has_nat hk
      obtain ⟨r, hr, hg⟩ := SlabS.has_at hk
      simp only [hg]
      split
      · rfl
      · split
        · simp only [Int.toNat_natCast]
          rw [getD_set hr]
          split
          · next e => subst e; rw [getD_of hr]
          · rfl
        · rfl
    · rfl
  unfold freeS
  split
  · rfl
  · split
    · unfold SlabS.drop
      split
      · exact ht _ _
      · exact ht _ _
    · exact ht _ _
theorem alone_last {s : SlabS} {j : Nat} {r : Rec} (hj : s.recs[j]? = some r) (ho : RecOk r) (hn : j < 8) : (lastC s).setIfInBounds j (.int .u64 ((r.g + 1) * 64 + j)) = lastC (aloneS s j r) := by
  apply Array.ext_getElem?
  intro i
  rw [set_get]
  have hs : (lastC s).size = 8 := by simp [lastC]
  by_cases e : j = i
  · subst e
    have h0 := ho.g0
    rw [if_pos rfl, hs, if_pos hn, lastC_at _ hn]
    unfold lastV aloneS
    simp only [getD_set hj, if_true, takenR]
    rw [if_neg (by omega)]
  · rw [if_neg e]
    by_cases hi : i < 8
    · rw [lastC_at _ hi, lastC_at _ hi]
      unfold lastV aloneS
      simp only [getD_set hj, if_neg (Ne.symm e)]
    · rw [Array.getElem?_eq_none (by rw [hs]; omega), Array.getElem?_eq_none (by simp [lastC]; omega)]
theorem runQ_last (s : SlabS) (j : Nat) (r : Rec) : runQ s j r (j + 3) = ⟨0, 2, s.count, j, (r.g + 1) * 64 + j, 2⟩ := by unfold runQ; rw [if_neg (by omega), if_neg (by omega)]
theorem lastC_new (n : Nat) : lastC (newSlab n) = #[.int .u64 0, .int .u64 0, .int .u64 0, .int .u64 0, .int .u64 0, .int .u64 0, .int .u64 0, .int .u64 0] := by
  have h : ∀ i, lastV (newSlab n) i = 0 := by
    intro i
    unfold lastV
    rw [if_pos]
    simp only [newSlab, List.getD_eq_getElem?_getD, List.getElem?_replicate]
    split <;> rfl
  unfold lastC
  simp only [h]
  rfl
theorem lastV_bd {s : SlabS} (hs : SlabOk s) {k : Nat} (hk : k < s.recs.length) : 0 ≤ lastV s k ∧ lastV s k ≤ 300000000000 ∧ (lastV s k = 0 ∨ 64 ≤ lastV s k) := by
  have hr := hs.getD k
  have h64 : k < 64 := by have := hs.n1; omega
  have hb := ok_bd _ hr.w0 hr.ok
  have h0 := hr.g0
  have h1 := hr.g1
  unfold lastV
  split
  · exact ⟨Int.le_refl _, by decide, .inl rfl⟩
  · omega
theorem mine_last {s : SlabS} (hs : SlabOk s) {k : Nat} (hk : k < s.recs.length) (h : lastV s k ≠ 0) : s.mine (lastV s k) = true ∧ (64 + (k : Int) < lastV s k → s.mine (lastV s k - 64) = false) := by
  have hr := hs.getD k
  have h64 : k < 64 := by have := hs.n1; omega
  unfold lastV at h ⊢
  obtain ⟨g, hg⟩ : ∃ g, (s.recs.getD k Rec.zero).g = g := ⟨_, rfl⟩
  rw [hg] at h ⊢
  have h0 := hr.g0
  rw [hg] at h0
  by_cases hz : g = 0
  · rw [if_pos hz] at h; exact absurd rfl h
  rw [if_neg hz]
  have e1 : (g * 64 + (k : Int)) % 64 = k := by omega
  have e2 : (g * 64 + (k : Int)) / 64 = g := by omega
  have e3 : (g * 64 + (k : Int) - 64) % 64 = k := by omega
  have e4 : (g * 64 + (k : Int) - 64) / 64 = g - 1 := by omega
  have hkt : ((k : Int)).toNat = k := Int.toNat_natCast k
  constructor
  · have hkn : s.known (g * 64 + k) := ⟨by rw [e1]; omega, by omega, by rw [e1, e2, hkt, hg]; exact Int.le_refl g⟩
    unfold SlabS.mine
    rw [decide_eq_true hkn, e1, e2, hkt, hg]
    simp
  · intro _
    unfold SlabS.mine
    rw [e3, e4, hkt, hg]
    have : ¬ g = g - 1 := by omega
    simp [this]

set_option maxRecDepth 100000 in
set_option maxHeartbeats 8000000 in
theorem lawRise_walk (n : Int) (a : Option Addr) (cap : Nat) (zs : List Int) (w : World) (h0 : 0 ≤ n) (h1 : n ≤ 255) (ha : ArgU8 w a zs) :
    Calls Try.prog 6 #[.int .u8 n, .slice a zs.length cap] w fun e w' => e = .returned (.bool true) ∧ Below w.heap.size w w' := by
  have HT := Lib.hid (TG.ofW (w := w))
  by_cases hlen : 100 < zs.length
  · go_enter Try.func6, Try.ntmps6
    go_wp2_with fail
    refine (DoesG.use (alive_g) (HT.out) [] rfl rfl).mono ?_
    rintro e w1 ⟨gs, ⟨rfl, rfl⟩, Ta⟩
    simp only [putG, List.set_cons_zero, List.set_cons_succ, List.cons_append, List.nil_append, List.append_nil] at Ta
    have HT := Lib.hid Ta
    clear Ta
    go_wp2
    go_ret
    exact ⟨rfl, HT.out.bel⟩
  obtain ⟨room, hroom⟩ : ∃ room : Nat, (room : Int) = 1 + n % 8 := ⟨(1 + n % 8).toNat, by omega⟩
  have hr1 : 1 ≤ room := by omega
  have hr2 : room ≤ 8 := by omega
  have HR := Lib.hid hroom
  clear hroom
  go_enter Try.func6, Try.ntmps6
  go_wp2_with fail
  refine (DoesG.use (alive_g) (HT.out) [] rfl rfl).mono ?_
  rintro e w1 ⟨gs, ⟨rfl, rfl⟩, Ta⟩
  simp only [putG, List.set_cons_zero, List.set_cons_succ, List.cons_append, List.nil_append, List.append_nil] at Ta
  have HT := Lib.hid Ta
  clear Ta
  go_wp2_with fail
  rw [← HR.out]
  go_wp2_with fail
  refine (DoesG.use (slabNew_at room hr1 (by omega)) (HT.out) [] rfl rfl).mono ?_
  rintro e w1 ⟨gs, ⟨sb, g0, rfl, hg0, rfl⟩, Ta⟩
  simp only [putG, List.set_cons_zero, List.set_cons_succ, List.cons_append, List.nil_append, List.append_nil] at Ta
  have HT := Lib.hid Ta
  clear Ta
  go_wp2
  go_loopw [9] (fun i wr => ∃ (k : Nat) (s : SlabS) (g : List Blk), k ≤ zs.length ∧ i = .int .i64 k ∧ Tame s room k 0 ∧ isSlab sb s g ∧ TG [] w [g, [cl w1.heap.size 52 (lastC s)]] wr) (fun i _ => zs.length + 1 - (intOf i).toNat)
  case atStart => exact ⟨0, newSlab room, g0, by omega, rfl, new_tame hr1 (by omega), hg0, by rw [lastC_new]; exact HT.out.alloc rfl _ _⟩
  case round =>
    obtain ⟨lb, hlb⟩ : ∃ lb, lb = w1.heap.size := ⟨_, rfl⟩
    rw [← hlb] at hrel ⊢
    obtain ⟨k, s, g, hk, rfl, hs, hg, T⟩ := hrel
    have HT := Lib.hid T
    clear T hlb
    by_cases hlt : k < zs.length
    · obtain ⟨b, off, x, rfl, hx, x0, x1, hc⟩ := ha.at hlt
      have HS := Lib.hid hs
      clear hs
      go_wp2_with fail
      refine (DoesG.use (slabBegin_g sb 0) (HT.out) [] rfl rfl).mono ?_
      rintro e w1 ⟨gs, ⟨qb, rfl, rfl⟩, Ta⟩
      simp only [putG, List.set_cons_zero, List.set_cons_succ, List.cons_append, List.nil_append, List.append_nil] at Ta
      have HT := Lib.hid Ta
      clear Ta
      go_wp2
      obtain ⟨wo, rfl⟩ : ∃ wo : World, wo = w1 := ⟨_, rfl⟩
      go_loopw [11] (fun i wr => ∃ (m : Nat) (g : List Blk), m ≤ room + 2 ∧ i = .int .i64 m ∧ isSlab sb (itR s (newReq 0) m).1 g ∧ TG [] w [g, [cl lb 52 (lastC s)], reqG qb sb (itR s (newReq 0) m).2] wr) (fun i _ => room + 3 - (intOf i).toNat)
      case atStart => exact ⟨0, g, by omega, rfl, hg, HT.out⟩
      case round =>
        obtain ⟨m, g, hm, rfl, hg, T⟩ := hrel
        have HT := Lib.hid T
        clear T
        have hOK := itR_ok HS.out.ok (newReq_ok HS.out.ok.n0 (Int.le_refl 0) (by decide)) m
        by_cases hm2 : m < room + 2
        · go_wp2_with fail
          refine (DoesG.use (reqStep_g qb _ hg hOK.1 hOK.2) (HT.out) [2, 0] rfl rfl).mono ?_
          rintro e w1 ⟨gs, ⟨rfl, g1, hg1, rfl⟩, Ta⟩
          simp only [putG, List.set_cons_zero, List.set_cons_succ, List.cons_append, List.nil_append, List.append_nil] at Ta
          have HT := Lib.hid Ta
          clear Ta
          go_wp2
          first
          | (go_roundw
             case rel => exact ⟨m + 1, g1, by omega, by go_num, hg1, HT.out⟩
             case measure => simp [intOf]; omega)
          | exact ⟨⟨m + 1, g1, by omega, by go_num, hg1, HT.out⟩, by simp [intOf]; omega⟩
          | ((repeat apply Exists.intro); exact ⟨⟨⟨m + 1, g1, by omega, by go_num, hg1, HT.out⟩, rfl⟩, by simp [intOf]; omega⟩)
        · obtain rfl : m = room + 1 + 1 := by omega
          clear hOK
          by_cases hfull : (room : Int) ≤ s.count
          · rw [itR_full (by rw [HS.out.len]; exact hfull)] at hg HT
            clear hfull
            go_wp2_with fail
            refine (DoesG.use (reqId_not qb sb _ (show (1 : Int) ≠ 2 by decide)) (HT.out) [2] rfl rfl).mono ?_
            rintro e w1 ⟨gs, ⟨rfl, rfl⟩, Ta⟩
            simp only [putG, List.set_cons_zero, List.set_cons_succ, List.cons_append, List.nil_append, List.append_nil] at Ta
            have HT := Lib.hid Ta
            clear Ta
            have HT1 := HT
            have HS1 := HS
            obtain ⟨s1, rfl⟩ : ∃ s1, s1 = s := ⟨_, rfl⟩
            have hg1 := hg
            have c0 := hc HT1.out
            go_wp2_with fail
            refine (DoesG.use (free_g hg1 HS1.out.ok (x % room)) (HT1.out) [0] rfl rfl).mono ?_
            rintro e w1 ⟨gs, ⟨rfl, g2, hg2, rfl⟩, Ta⟩
            simp only [putG, List.set_cons_zero, List.set_cons_succ, List.cons_append, List.nil_append, List.append_nil] at Ta
            have HT := Lib.hid Ta
            clear Ta
            have HL := Lib.hid (lastC_congr (free_given HS1.out (x % room)))
            have HS2 := Lib.hid (tame_free HS1.out (Int.le_refl 0) (x % room))
            obtain ⟨s2, hs2⟩ : ∃ s2, (freeS s1 (x % room)).1 = s2 := ⟨_, rfl⟩
            rw [hs2] at HS2 HL hg2
            rw [← HL.out] at HT
            clear c0 hs2
            go_wp2
            obtain ⟨wi, rfl⟩ : ∃ wi : World, wi = w1 := ⟨_, rfl⟩
            go_loopw [15] (fun i wr => ∃ (m : Nat) (g : List Blk), m ≤ room ∧ i = .int .i64 m ∧ isSlab sb s2 g ∧ TG [] w [g, [cl lb 52 (lastC s2)], reqG qb sb ⟨0,0,s1.count,0,0,1⟩] wr) (fun i _ => room + 1 - (intOf i).toNat)
            case atStart => exact ⟨0, g2, by omega, rfl, hg2, HT.out⟩
            case round =>
              obtain ⟨m, g, hm, rfl, hg, T⟩ := hrel
              have HT := Lib.hid T
              clear T
              by_cases hmr : m < room
              · have c2 := (HT.out.cell 1 0 rfl m).trans (lastC_at s2 (by omega))
                have hml : m < s2.recs.length := by have := HS2.out.len; omega
                obtain ⟨hb0, hb1, hb2⟩ := lastV_bd HS2.out.ok hml
                have HM := Lib.hid (mine_last HS2.out.ok hml)
                obtain ⟨L, hL⟩ : ∃ L, lastV s2 m = L := ⟨_, rfl⟩
                rw [hL] at c2 hb0 hb1 hb2 HM
                have HC := Lib.hid ((lastC_at s2 (i := m) (by omega)).trans (by rw [hL]))
                clear hL hml
                by_cases hL0 : L = 0
                · subst hL0
                  go_wp2
                  first
                  | (go_roundw
                     case rel => exact ⟨m + 1, g, by omega, by go_num, hg, HT.out⟩
                     case measure => simp [intOf]; omega)
                  | exact ⟨⟨m + 1, g, by omega, by go_num, hg, HT.out⟩, by simp [intOf]; omega⟩
                  | ((repeat apply Exists.intro); exact ⟨⟨⟨m + 1, g, by omega, by go_num, hg, HT.out⟩, rfl⟩, by simp [intOf]; omega⟩)
                · have hL64 : 64 ≤ L := by omega
                  have b1 : (L != 0) = true := by simpa using hL0
                  have b2 : (L == 0) = false := by simpa using hL0
                  clear hb2 hL0
                  by_cases hgt : 64 + (m : Int) < L
                  · go_wp2_with fail
                    refine (DoesG.use (slabMine_c (HM.out (by omega)).1 hg HS2.out.ok.n1 (by omega) (by omega)) (HT.out) [0] rfl rfl).mono ?_
                    rintro e w1 ⟨gs, ⟨rfl, g3, hg3, rfl⟩, Ta⟩
                    simp only [putG, List.set_cons_zero, List.set_cons_succ, List.cons_append, List.nil_append, List.append_nil] at Ta
                    have c3 := (Ta.cell 1 0 rfl m).trans HC.out
                    have HT := Lib.hid Ta
                    clear Ta
                    go_wp2_with fail
                    refine (DoesG.use (slabMine_c ((HM.out (by omega)).2 hgt) hg3 HS2.out.ok.n1 (by omega) (by omega)) (HT.out) [0] rfl rfl).mono ?_
                    rintro e w1 ⟨gs, ⟨rfl, g4, hg4, rfl⟩, Ta⟩
                    simp only [putG, List.set_cons_zero, List.set_cons_succ, List.cons_append, List.nil_append, List.append_nil] at Ta
                    have c4 := (Ta.cell 1 0 rfl m).trans HC.out
                    have HT := Lib.hid Ta
                    clear Ta
                    go_wp2
                    first
                    | (go_roundw
                       case rel => exact ⟨m + 1, g4, by omega, by go_num, hg4, HT.out⟩
                       case measure => simp [intOf]; omega)
                    | exact ⟨⟨m + 1, g4, by omega, by go_num, hg4, HT.out⟩, by simp [intOf]; omega⟩
                    | ((repeat apply Exists.intro); exact ⟨⟨⟨m + 1, g4, by omega, by go_num, hg4, HT.out⟩, rfl⟩, by simp [intOf]; omega⟩)
                  · go_wp2_with fail
                    refine (DoesG.use (slabMine_c (HM.out (by omega)).1 hg HS2.out.ok.n1 (by omega) (by omega)) (HT.out) [0] rfl rfl).mono ?_
                    rintro e w1 ⟨gs, ⟨rfl, g3, hg3, rfl⟩, Ta⟩
                    simp only [putG, List.set_cons_zero, List.set_cons_succ, List.cons_append, List.nil_append, List.append_nil] at Ta
                    have c3 := (Ta.cell 1 0 rfl m).trans HC.out
                    have HT := Lib.hid Ta
                    clear Ta
                    go_wp2
                    first
                    | (go_roundw
                       case rel => exact ⟨m + 1, g3, by omega, by go_num, hg3, HT.out⟩
                       case measure => simp [intOf]; omega)
                    | exact ⟨⟨m + 1, g3, by omega, by go_num, hg3, HT.out⟩, by simp [intOf]; omega⟩
                    | ((repeat apply Exists.intro); exact ⟨⟨⟨m + 1, g3, by omega, by go_num, hg3, HT.out⟩, rfl⟩, by simp [intOf]; omega⟩)
              · go_wp2
                first
                | (go_roundw
                   case rel => exact ⟨k + 1, s2, g, by omega, by go_num, HS2.out.mono (by omega), hg, HT.out.pick [0, 1] rfl⟩
                   case measure => simp [intOf]; omega)
                | exact ⟨⟨k + 1, s2, g, by omega, by go_num, HS2.out.mono (by omega), hg, HT.out.pick [0, 1] rfl⟩, by simp [intOf]; omega⟩
                | ((repeat apply Exists.intro); exact ⟨⟨⟨k + 1, s2, g, by omega, by go_num, HS2.out.mono (by omega), hg, HT.out.pick [0, 1] rfl⟩, rfl⟩, by simp [intOf]; omega⟩)
          · obtain ⟨j, r, hj, hb, hbl⟩ := first_free (l := s.recs) (by have h5 := HS.out.used; have h6 := HS.out.len; omega)
            have hjr : j < room := by have h5 := (List.getElem?_eq_some_iff.1 hj).1; have h6 := HS.out.len; omega
            have hrun := itR_run HS.out (by omega) (by omega) hj hb hbl (room + 1)
            rw [show min (room + 1 + 1) (j + 3) = j + 3 by omega, run_last] at hrun
            rw [hrun] at hg HT
            have HS1 := Lib.hid (alone_tame HS.out (by omega) (by omega) hj hb)
            obtain ⟨ho, _, _⟩ := HS.out.get hj
            have hbd := ok_bd r.w ho.w0 ho.ok
            have g0' := ho.g0
            have g1' := ho.g1
            obtain ⟨id, hid⟩ : ∃ id, (r.g + 1) * 64 + (j : Int) = id := ⟨_, rfl⟩
            have HA := Lib.hid (alone_last hj ho (by omega))
            rw [hid] at HA
            have i0 : 0 ≤ id := by omega
            have i1 : id ≤ 400000000000 := by omega
            have i2 : id % 64 = (j : Int) := by omega
            have c2 := (HT.out.cell 1 0 rfl j).trans (lastC_at s (by omega))
            have hv : lastV s j = if r.g = 0 then 0 else r.g * 64 + j := by unfold lastV; rw [getD_of hj]
            rw [runQ_last, hid] at HT
            obtain ⟨L, hL⟩ : ∃ L, lastV s j = L := ⟨_, rfl⟩
            rw [hL] at c2 hv
            have HC := Lib.hid ((lastC_at s (i := j) (by omega)).trans (by rw [hL]))
            obtain ⟨s1, hs1⟩ : ∃ s1, aloneS s j r = s1 := ⟨_, rfl⟩
            rw [hs1] at HS1 HA hg
            have hg1 := hg
            have HI := Lib.hid hid
            have hcase : (L = 0 ∧ id = 64 + j) ∨ (64 ≤ L ∧ id = L + 64) := by
              by_cases hz : r.g = 0
              · rw [if_pos hz] at hv; exact .inl ⟨hv, by rw [← hid, hz]; omega⟩
              · rw [if_neg hz] at hv; exact .inr ⟨by omega, by omega⟩
            clear hj hb hbl hrun ho hbd g0' g1' hid hs1 hL hv hfull
            rcases hcase with ⟨rfl, hid⟩ | ⟨hL64, hid⟩
            · have b1 : (id != 64 + (j : Int)) = false := by simpa using hid
              have b2 : (id == 64 + (j : Int)) = true := by simpa using hid
              clear hid
              go_wp2_with fail
              refine (DoesG.use (reqId_held qb sb ⟨0, 2, s.count, j, id, 2⟩ rfl) (HT.out) [2] rfl rfl).mono ?_
              rintro e w1 ⟨gs, ⟨rfl, rfl⟩, Ta⟩
              simp only [putG, List.set_cons_zero, List.set_cons_succ, List.cons_append, List.nil_append, List.append_nil] at Ta
              have c3 := (Ta.cell 1 0 rfl j).trans HC.out
              have f3 := Ta.free 1 0 rfl j
              have HT := Lib.hid Ta
              clear Ta
              have HT1 := Lib.hid (HT.out.set 1 0 rfl j (.int .u64 id))
              simp only [List.set_cons_zero, List.set_cons_succ, List.getD_cons_succ, List.getD_cons_zero, HA.out] at HT1
              have c0 := hc HT1.out
              go_wp2_with fail
              refine (DoesG.use (free_g hg1 HS1.out.ok (x % room)) (HT1.out) [0] rfl rfl).mono ?_
              rintro e w1 ⟨gs, ⟨rfl, g2, hg2, rfl⟩, Ta⟩
              simp only [putG, List.set_cons_zero, List.set_cons_succ, List.cons_append, List.nil_append, List.append_nil] at Ta
              have HT := Lib.hid Ta
              clear Ta
              have HL := Lib.hid (lastC_congr (free_given HS1.out (x % room)))
              have HS2 := Lib.hid (tame_free HS1.out (Int.le_refl 0) (x % room))
              obtain ⟨s2, hs2⟩ : ∃ s2, (freeS s1 (x % room)).1 = s2 := ⟨_, rfl⟩
              rw [hs2] at HS2 HL hg2
              rw [← HL.out] at HT
              clear c0 hs2
              go_wp2
              obtain ⟨wi, rfl⟩ : ∃ wi : World, wi = w1 := ⟨_, rfl⟩
              go_loopw [15] (fun i wr => ∃ (m : Nat) (g : List Blk), m ≤ room ∧ i = .int .i64 m ∧ isSlab sb s2 g ∧ TG [] w [g, [cl lb 52 (lastC s2)], reqG qb sb ⟨0,2,s.count,j,id,2⟩] wr) (fun i _ => room + 1 - (intOf i).toNat)
              case atStart => exact ⟨0, g2, by omega, rfl, hg2, HT.out⟩
              case round =>
                obtain ⟨m, g, hm, rfl, hg, T⟩ := hrel
                have HT := Lib.hid T
                clear T
                by_cases hmr : m < room
                · have c2 := (HT.out.cell 1 0 rfl m).trans (lastC_at s2 (by omega))
                  have hml : m < s2.recs.length := by have := HS2.out.len; omega
                  obtain ⟨hb0, hb1, hb2⟩ := lastV_bd HS2.out.ok hml
                  have HM := Lib.hid (mine_last HS2.out.ok hml)
                  obtain ⟨L, hL⟩ : ∃ L, lastV s2 m = L := ⟨_, rfl⟩
                  rw [hL] at c2 hb0 hb1 hb2 HM
                  have HC := Lib.hid ((lastC_at s2 (i := m) (by omega)).trans (by rw [hL]))
                  clear hL hml
                  by_cases hL0 : L = 0
                  · subst hL0
                    go_wp2
                    first
                    | (go_roundw
                       case rel => exact ⟨m + 1, g, by omega, by go_num, hg, HT.out⟩
                       case measure => simp [intOf]; omega)
                    | exact ⟨⟨m + 1, g, by omega, by go_num, hg, HT.out⟩, by simp [intOf]; omega⟩
                    | ((repeat apply Exists.intro); exact ⟨⟨⟨m + 1, g, by omega, by go_num, hg, HT.out⟩, rfl⟩, by simp [intOf]; omega⟩)
                  · have hL64 : 64 ≤ L := by omega
                    have b1 : (L != 0) = true := by simpa using hL0
                    have b2 : (L == 0) = false := by simpa using hL0
                    clear hb2 hL0
                    by_cases hgt : 64 + (m : Int) < L
                    · go_wp2_with fail
                      refine (DoesG.use (slabMine_c (HM.out (by omega)).1 hg HS2.out.ok.n1 (by omega) (by omega)) (HT.out) [0] rfl rfl).mono ?_
                      rintro e w1 ⟨gs, ⟨rfl, g3, hg3, rfl⟩, Ta⟩
                      simp only [putG, List.set_cons_zero, List.set_cons_succ, List.cons_append, List.nil_append, List.append_nil] at Ta
                      have c3 := (Ta.cell 1 0 rfl m).trans HC.out
                      have HT := Lib.hid Ta
                      clear Ta
                      go_wp2_with fail
                      refine (DoesG.use (slabMine_c ((HM.out (by omega)).2 hgt) hg3 HS2.out.ok.n1 (by omega) (by omega)) (HT.out) [0] rfl rfl).mono ?_
                      rintro e w1 ⟨gs, ⟨rfl, g4, hg4, rfl⟩, Ta⟩
                      simp only [putG, List.set_cons_zero, List.set_cons_succ, List.cons_append, List.nil_append, List.append_nil] at Ta
                      have c4 := (Ta.cell 1 0 rfl m).trans HC.out
                      have HT := Lib.hid Ta
                      clear Ta
                      go_wp2
                      first
                      | (go_roundw
                         case rel => exact ⟨m + 1, g4, by omega, by go_num, hg4, HT.out⟩
                         case measure => simp [intOf]; omega)
                      | exact ⟨⟨m + 1, g4, by omega, by go_num, hg4, HT.out⟩, by simp [intOf]; omega⟩
                      | ((repeat apply Exists.intro); exact ⟨⟨⟨m + 1, g4, by omega, by go_num, hg4, HT.out⟩, rfl⟩, by simp [intOf]; omega⟩)
                    · go_wp2_with fail
                      refine (DoesG.use (slabMine_c (HM.out (by omega)).1 hg HS2.out.ok.n1 (by omega) (by omega)) (HT.out) [0] rfl rfl).mono ?_
                      rintro e w1 ⟨gs, ⟨rfl, g3, hg3, rfl⟩, Ta⟩
                      simp only [putG, List.set_cons_zero, List.set_cons_succ, List.cons_append, List.nil_append, List.append_nil] at Ta
                      have c3 := (Ta.cell 1 0 rfl m).trans HC.out
                      have HT := Lib.hid Ta
                      clear Ta
                      go_wp2
                      first
                      | (go_roundw
                         case rel => exact ⟨m + 1, g3, by omega, by go_num, hg3, HT.out⟩
                         case measure => simp [intOf]; omega)
                      | exact ⟨⟨m + 1, g3, by omega, by go_num, hg3, HT.out⟩, by simp [intOf]; omega⟩
                      | ((repeat apply Exists.intro); exact ⟨⟨⟨m + 1, g3, by omega, by go_num, hg3, HT.out⟩, rfl⟩, by simp [intOf]; omega⟩)
                · go_wp2
                  first
                  | (go_roundw
                     case rel => exact ⟨k + 1, s2, g, by omega, by go_num, HS2.out.mono (by omega), hg, HT.out.pick [0, 1] rfl⟩
                     case measure => simp [intOf]; omega)
                  | exact ⟨⟨k + 1, s2, g, by omega, by go_num, HS2.out.mono (by omega), hg, HT.out.pick [0, 1] rfl⟩, by simp [intOf]; omega⟩
                  | ((repeat apply Exists.intro); exact ⟨⟨⟨k + 1, s2, g, by omega, by go_num, HS2.out.mono (by omega), hg, HT.out.pick [0, 1] rfl⟩, rfl⟩, by simp [intOf]; omega⟩)
            · have b1 : (id != L + 64) = false := by simpa using hid
              have b2 : (id == L + 64) = true := by simpa using hid
              have b3 : (L != 0) = true := by simp; omega
              have b4 : (L == 0) = false := by simp; omega
              have hL1 : L ≤ 400000000000 := by omega
              clear hid
              go_wp2_with fail
              refine (DoesG.use (reqId_held qb sb ⟨0, 2, s.count, j, id, 2⟩ rfl) (HT.out) [2] rfl rfl).mono ?_
              rintro e w1 ⟨gs, ⟨rfl, rfl⟩, Ta⟩
              simp only [putG, List.set_cons_zero, List.set_cons_succ, List.cons_append, List.nil_append, List.append_nil] at Ta
              have c3 := (Ta.cell 1 0 rfl j).trans HC.out
              have f3 := Ta.free 1 0 rfl j
              have HT := Lib.hid Ta
              clear Ta
              have HT1 := Lib.hid (HT.out.set 1 0 rfl j (.int .u64 id))
              simp only [List.set_cons_zero, List.set_cons_succ, List.getD_cons_succ, List.getD_cons_zero, HA.out] at HT1
              have c0 := hc HT1.out
              go_wp2_with fail
              refine (DoesG.use (free_g hg1 HS1.out.ok (x % room)) (HT1.out) [0] rfl rfl).mono ?_
              rintro e w1 ⟨gs, ⟨rfl, g2, hg2, rfl⟩, Ta⟩
              simp only [putG, List.set_cons_zero, List.set_cons_succ, List.cons_append, List.nil_append, List.append_nil] at Ta
              have HT := Lib.hid Ta
              clear Ta
              have HL := Lib.hid (lastC_congr (free_given HS1.out (x % room)))
              have HS2 := Lib.hid (tame_free HS1.out (Int.le_refl 0) (x % room))
              obtain ⟨s2, hs2⟩ : ∃ s2, (freeS s1 (x % room)).1 = s2 := ⟨_, rfl⟩
              rw [hs2] at HS2 HL hg2
              rw [← HL.out] at HT
              clear c0 hs2
              go_wp2
              obtain ⟨wi, rfl⟩ : ∃ wi : World, wi = w1 := ⟨_, rfl⟩
              go_loopw [15] (fun i wr => ∃ (m : Nat) (g : List Blk), m ≤ room ∧ i = .int .i64 m ∧ isSlab sb s2 g ∧ TG [] w [g, [cl lb 52 (lastC s2)], reqG qb sb ⟨0,2,s.count,j,id,2⟩] wr) (fun i _ => room + 1 - (intOf i).toNat)
              case atStart => exact ⟨0, g2, by omega, rfl, hg2, HT.out⟩
              case round =>
                obtain ⟨m, g, hm, rfl, hg, T⟩ := hrel
                have HT := Lib.hid T
                clear T
                by_cases hmr : m < room
                · have c2 := (HT.out.cell 1 0 rfl m).trans (lastC_at s2 (by omega))
                  have hml : m < s2.recs.length := by have := HS2.out.len; omega
                  obtain ⟨hb0, hb1, hb2⟩ := lastV_bd HS2.out.ok hml
                  have HM := Lib.hid (mine_last HS2.out.ok hml)
                  obtain ⟨L, hL⟩ : ∃ L, lastV s2 m = L := ⟨_, rfl⟩
                  rw [hL] at c2 hb0 hb1 hb2 HM
                  have HC := Lib.hid ((lastC_at s2 (i := m) (by omega)).trans (by rw [hL]))
                  clear hL hml
                  by_cases hL0 : L = 0
                  · subst hL0
                    go_wp2
                    first
                    | (go_roundw
                       case rel => exact ⟨m + 1, g, by omega, by go_num, hg, HT.out⟩
                       case measure => simp [intOf]; omega)
                    | exact ⟨⟨m + 1, g, by omega, by go_num, hg, HT.out⟩, by simp [intOf]; omega⟩
                    | ((repeat apply Exists.intro); exact ⟨⟨⟨m + 1, g, by omega, by go_num, hg, HT.out⟩, rfl⟩, by simp [intOf]; omega⟩)
                  · have hL64 : 64 ≤ L := by omega
                    have b1 : (L != 0) = true := by simpa using hL0
                    have b2 : (L == 0) = false := by simpa using hL0
                    clear hb2 hL0
                    by_cases hgt : 64 + (m : Int) < L
                    · go_wp2_with fail
                      refine (DoesG.use (slabMine_c (HM.out (by omega)).1 hg HS2.out.ok.n1 (by omega) (by omega)) (HT.out) [0] rfl rfl).mono ?_
                      rintro e w1 ⟨gs, ⟨rfl, g3, hg3, rfl⟩, Ta⟩
                      simp only [putG, List.set_cons_zero, List.set_cons_succ, List.cons_append, List.nil_append, List.append_nil] at Ta
                      have c3 := (Ta.cell 1 0 rfl m).trans HC.out
                      have HT := Lib.hid Ta
                      clear Ta
                      go_wp2_with fail
                      refine (DoesG.use (slabMine_c ((HM.out (by omega)).2 hgt) hg3 HS2.out.ok.n1 (by omega) (by omega)) (HT.out) [0] rfl rfl).mono ?_
                      rintro e w1 ⟨gs, ⟨rfl, g4, hg4, rfl⟩, Ta⟩
                      simp only [putG, List.set_cons_zero, List.set_cons_succ, List.cons_append, List.nil_append, List.append_nil] at Ta
                      have c4 := (Ta.cell 1 0 rfl m).trans HC.out
                      have HT := Lib.hid Ta
                      clear Ta
                      go_wp2
                      first
                      | (go_roundw
                         case rel => exact ⟨m + 1, g4, by omega, by go_num, hg4, HT.out⟩
                         case measure => simp [intOf]; omega)
                      | exact ⟨⟨m + 1, g4, by omega, by go_num, hg4, HT.out⟩, by simp [intOf]; omega⟩
                      | ((repeat apply Exists.intro); exact ⟨⟨⟨m + 1, g4, by omega, by go_num, hg4, HT.out⟩, rfl⟩, by simp [intOf]; omega⟩)
                    · go_wp2_with fail
                      refine (DoesG.use (slabMine_c (HM.out (by omega)).1 hg HS2.out.ok.n1 (by omega) (by omega)) (HT.out) [0] rfl rfl).mono ?_
                      rintro e w1 ⟨gs, ⟨rfl, g3, hg3, rfl⟩, Ta⟩
                      simp only [putG, List.set_cons_zero, List.set_cons_succ, List.cons_append, List.nil_append, List.append_nil] at Ta
                      have c3 := (Ta.cell 1 0 rfl m).trans HC.out
                      have HT := Lib.hid Ta
                      clear Ta
                      go_wp2
                      first
                      | (go_roundw
                         case rel => exact ⟨m + 1, g3, by omega, by go_num, hg3, HT.out⟩
                         case measure => simp [intOf]; omega)
                      | exact ⟨⟨m + 1, g3, by omega, by go_num, hg3, HT.out⟩, by simp [intOf]; omega⟩
                      | ((repeat apply Exists.intro); exact ⟨⟨⟨m + 1, g3, by omega, by go_num, hg3, HT.out⟩, rfl⟩, by simp [intOf]; omega⟩)
                · go_wp2
                  first
                  | (go_roundw
                     case rel => exact ⟨k + 1, s2, g, by omega, by go_num, HS2.out.mono (by omega), hg, HT.out.pick [0, 1] rfl⟩
                     case measure => simp [intOf]; omega)
                  | exact ⟨⟨k + 1, s2, g, by omega, by go_num, HS2.out.mono (by omega), hg, HT.out.pick [0, 1] rfl⟩, by simp [intOf]; omega⟩
                  | ((repeat apply Exists.intro); exact ⟨⟨⟨k + 1, s2, g, by omega, by go_num, HS2.out.mono (by omega), hg, HT.out.pick [0, 1] rfl⟩, rfl⟩, by simp [intOf]; omega⟩)
    · go_wp2
      go_ret
      exact ⟨rfl, HT.out.bel⟩
end Go.Proofs.Ythcdpkgfphgkoaa
