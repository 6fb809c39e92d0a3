import Derived.Test.YthcdpkgfphgkoaaSlabRise
import Derived.Test.YthcdpkgfphgkoaaSlabRoomP
import Derived.Test.YthcdpkgfphgkoaaFam
import Derived.Test.YthcdpkgfphgkoaaMap
namespace Go.Proofs.Ythcdpkgfphgkoaa
set_option linter.unusedVariables false
set_option linter.unusedSimpArgs false
open Go.RowKit Go.Maps

def reqF (sb : Nat) (p : Nat × Req) : List Blk := reqG p.1 sb p.2
def SeenOk (s : SlabS) (m : Lit → Option Value) : Prop := ∀ kl v, m kl = some v → ∃ (j : Nat) (g : Int), kl = .int .u64 (g * 64 + j) ∧ j < 64 ∧ 1 ≤ g ∧ g ≤ (s.recs.getD j Rec.zero).g
theorem SeenOk.mono {s s' : SlabS} {m : Lit → Option Value} (h : SeenOk s m) (hg : ∀ i, (s.recs.getD i Rec.zero).g ≤ (s'.recs.getD i Rec.zero).g) : SeenOk s' m := by
  intro kl v hv
  obtain ⟨j, g, a, b, c, d⟩ := h kl v hv
  exact ⟨j, g, a, b, c, Int.le_trans d (hg j)⟩
theorem SeenOk.none {s : SlabS} {m : Lit → Option Value} (h : SeenOk s m) {j : Nat} {r : Rec} (hr : s.recs[j]? = some r) (hj : j < 64) : m (.int .u64 ((r.g + 1) * 64 + j)) = none := by
  cases hm : m (.int .u64 ((r.g + 1) * 64 + j)) with
  | none => rfl
  | some v =>
    obtain ⟨j', g, a, b, c, d⟩ := h _ _ hm
    injection a with _ a
    have e : j' = j := by omega
    subst e
    rw [getD_of hr] at d
    omega
theorem SeenOk.put {s s' : SlabS} {m : Lit → Option Value} (h : SeenOk s m) (hg : ∀ i, (s.recs.getD i Rec.zero).g ≤ (s'.recs.getD i Rec.zero).g) {j : Nat} {g : Int} (hj : j < 64) (h1 : 1 ≤ g) (h2 : g ≤ (s'.recs.getD j Rec.zero).g) (v : Value) : SeenOk s' (setK m (.int .u64 (g * 64 + j)) v) := by
  intro kl u hu
  unfold setK at hu
  split at hu
  · next e => exact ⟨j, g, e, hj, h1, h2⟩
  · exact (h.mono hg) kl u hu
theorem used_take {l : List Rec} {m : Nat} {r : Rec} (h : l[m]? = some r) : usedS (l.take (m + 1)) = usedS (l.take m) + (if busyB r then 1 else 0) := by
  rw [List.take_add_one, h]
  simp [usedS, List.countP_append, List.countP_cons]
theorem mine_new {s : SlabS} (hs : SlabOk s) {j : Nat} {r : Rec} (hr : s.recs[j]? = some r) (h1 : 1 ≤ r.g) : s.mine (r.g * 64 + j) = true := by
  have hj := (List.getElem?_eq_some_iff.1 hr).1
  have h := (mine_last hs hj (by unfold lastV; rw [getD_of hr, if_neg (by omega)]; omega)).1
  unfold lastV at h
  rw [getD_of hr, if_neg (by omega)] at h
  exact h
theorem Try.infoReq : (Try.prog.info? 30).map (fun i => (i.zero, i.size, i.bytes)) = some (some (.pointer none), 1, 8) := by kernel_rfl
theorem Try.zeroBool (w : World) : (zeroValue 4).run Try.prog w = .ok (.bool false) w := by kernel_rfl
theorem Try.keyU64 : Keyed Try.prog 32 := int_keyed Try.underlying32
theorem seen_key (n : Int) (h0 : 0 ≤ n) (h1 : n < 18446744073709551616) : keyOf Try.prog 32 (.int .u64 n) = some (.int .u64 n) := keyOf_int_mk Try.underlying32 (WalkArith.wf_u64 ⟨h0, by omega⟩)

set_option maxRecDepth 100000 in
set_option maxHeartbeats 8000000 in
theorem lawRoom_walk (n : Int) (a : Option Addr) (cap : Nat) (zs : List Int) (w : World) (h0 : 0 ≤ n) (h1 : n ≤ 255) (ha : ArgU8 w a zs) :
    Calls Try.prog 4 #[.int .u8 n, .slice a zs.length cap] w fun e w' => e = .returned (.bool true) ∧ Below w.heap.size w w' := by
  have HT := Lib.hid (TG.ofW (w := w))
  by_cases hlen : 200 < zs.length
  · go_enter Try.func4, Try.ntmps4
    go_wp2_with fail
    refine (DoesG.use (alive_g) (HT.out) [] rfl rfl).mono ?_
    rintro e w1 ⟨gs, ⟨rfl, rfl⟩, Ta⟩
    simp only [putG, List.set_cons_zero, List.set_cons_succ, List.cons_append, List.nil_append, List.append_nil] at Ta
    have HT := Lib.hid Ta
    clear Ta
    go_wp2
    go_ret
    exact ⟨rfl, HT.out.bel⟩
  obtain ⟨room, hroom⟩ : ∃ room : Nat, (room : Int) = 1 + n % 8 := ⟨(1 + n % 8).toNat, by omega⟩
  have hr1 : 1 ≤ room := by omega
  have hr2 : room ≤ 8 := by omega
  have HR := Lib.hid hroom
  clear hroom
  have hmm := @run_makeMap Try.prog
  go_enter Try.func4, Try.ntmps4
  go_wp2_with fail
  refine (DoesG.use (alive_g) (HT.out) [] rfl rfl).mono ?_
  rintro e w1 ⟨gs, ⟨rfl, rfl⟩, Ta⟩
  simp only [putG, List.set_cons_zero, List.set_cons_succ, List.cons_append, List.nil_append, List.append_nil] at Ta
  have HT := Lib.hid Ta
  clear Ta
  go_wp2_with fail
  rw [← HR.out]
  go_wp2_with fail
  refine (DoesG.use (slabNew_at room hr1 (by omega)) (HT.out) [] rfl rfl).mono ?_
  rintro e w1 ⟨gs, ⟨sb, g0, rfl, hg0, rfl⟩, Ta⟩
  simp only [putG, List.set_cons_zero, List.set_cons_succ, List.cons_append, List.nil_append, List.append_nil] at Ta
  have HT := Lib.hid Ta
  clear Ta
  go_wp2
  go_loopw [8, 10] (fun l i wr => ∃ (k : Nat) (s : SlabS) (rs : List (Nat × Req)) (m : Lit → Option Value) (z : Nat) (g gr gm : List Blk), k ≤ zs.length ∧ i = .int .i64 k ∧ Tame s room k (seekers rs) ∧ (∀ p ∈ rs, ReqOk room p.2) ∧ SeenOk s m ∧ rs.length ≤ k ∧ isSlab sb s g ∧
      rowG 30 1 l rs.length (rs.map fun p => ptr p.1) gr ∧ mapG Try.prog 32 w1.heap.size k m z gm ∧ TG [] w [g, gr, gm, famB (reqF sb) rs] wr) (fun _ i _ => zs.length + 1 - (intOf i).toNat)
  case atStart => exact ⟨0, newSlab room, [], noK, 0, g0, [], [(w1.heap.size, .map #[] 0)], by omega, rfl, new_tame hr1 (by omega), fun p hp => by (cases hp), fun kl v hv => by (cases hv), Nat.le_refl _, hg0, rowG_nil _ _, mapG_new _ _ _, (HT.out.put rfl (.map #[] 0)).re (by simp [famB])⟩
  case round =>
    obtain ⟨mb, hmb⟩ : ∃ mb, mb = w1.heap.size := ⟨_, rfl⟩
    rw [← hmb] at hrel ⊢
    obtain ⟨k, s, rs, m, z, g, gr, gm, hk, rfl, hs, hq, hm, hl, hg, rr, rm, T⟩ := hrel
    have HT := Lib.hid T
    have HS := Lib.hid hs
    have HQ := Lib.hid hq
    have HM := Lib.hid hm
    have RR := Lib.hid rr
    have RM := Lib.hid rm
    obtain ⟨al, cl', rfl⟩ := rr.val
    clear T hmb hs hq hm rr rm
    by_cases hlt : k < zs.length
    · obtain ⟨b, off, x, rfl, hx, x0, x1, hc⟩ := ha.at hlt
      have c0 := hc HT.out
      have hlen' : zs.length ≤ 200 := by omega
      by_cases h50 : x < 50
      · have hx2 : 0 ≤ x % 2 := by omega
        have hx3 : x % 2 < 2 := by omega
        go_wp2_with fail
        refine (DoesG.use (slabBegin_g sb (x % 2)) (HT.out) [] rfl rfl).mono ?_
        rintro e w1 ⟨gs, ⟨qb, rfl, rfl⟩, Ta⟩
        simp only [putG, List.set_cons_zero, List.set_cons_succ, List.cons_append, List.nil_append, List.append_nil] at Ta
        have HT := Lib.hid Ta
        clear Ta
        go_wp2_with (at_builtin; (with_reducible refine wpList_append_G rfl (.tmp 55) (.tmp 61) 36 rfl 30 1 8 _ Try.underlying36 Try.infoReq rfl (by decide) ((HT.out).alloc0 _) 1 rfl rfl (RR.out) rfl ⟨w1.heap.size, 0, none⟩ 1 1 [ptr qb] rfl rfl (news_alloc _ _ _) (by simp [Value.oneCell']) (by unfold maxLen; omega) (by omega) ?_); intro v1 w2 gr1 r1 T1; simp only [List.set_cons_zero, List.set_cons_succ] at T1; have T1 := Lib.hid T1; have r1 := Lib.hid r1)
        have HT1 := Lib.hid (T1.out.join 3 4 (by decide) rfl rfl (f := reqF sb) (l := rs) (x := (qb, newReq (x % 2))) rfl rfl)
        simp only [List.set_cons_zero, List.set_cons_succ] at HT1
        have HT1 := Lib.hid (HT1.out.pick [0, 1, 2, 3] rfl)
        obtain ⟨rs1, hrs1⟩ : ∃ rs1, rs ++ [(qb, newReq (x % 2))] = rs1 := ⟨_, rfl⟩
        have RR1 := Lib.hid (show rowG 30 1 v1 rs1.length (rs1.map fun p => ptr p.1) gr1 from by rw [← hrs1]; simpa using r1.out)
        have HQ1 := Lib.hid (show ∀ p ∈ rs1, ReqOk room p.2 from by
          rw [← hrs1]
          intro p hp
          rcases List.mem_append.1 hp with h | h
          · exact HQ.out p h
          · rw [List.mem_singleton.1 h]; exact newReq_ok (by have := HS.out.ok.n0; have := HS.out.len; omega) hx2 (by omega))
        have HS1 := Lib.hid (show Tame s room ((k + 1 : Nat) : Int) (seekers rs1) from by rw [← hrs1, seekers_snoc]; exact HS.out.mono (by omega))
        have hl1 : rs1.length ≤ k + 1 := by rw [← hrs1]; simp; omega
        rw [hrs1] at HT1
        obtain ⟨s1, rfl⟩ : ∃ s1, s1 = s := ⟨_, rfl⟩
        obtain ⟨g1, rfl⟩ : ∃ g1, g1 = g := ⟨_, rfl⟩
        obtain ⟨gm1, rfl⟩ : ∃ g1, g1 = gm := ⟨_, rfl⟩
        obtain ⟨m1, rfl⟩ : ∃ g1, g1 = m := ⟨_, rfl⟩
        obtain ⟨z1, rfl⟩ : ∃ g1, g1 = z := ⟨_, rfl⟩
        have HM1 := HM
        have RM1 := Lib.hid (show mapG Try.prog 32 mb (k + 1) m1 z1 gm1 from mapG_mono RM.out (by omega))
        have hg1 := hg
        clear hrs1 HT T1
        go_wp2
        obtain ⟨wo, rfl⟩ : ∃ wo : World, wo = w2 := ⟨_, rfl⟩
        go_loopw [16, 17] (fun u i wr => ∃ (m : Nat) (g : List Blk), m ≤ room ∧ i = .int .i64 m ∧ u = .int .i64 (usedS (s1.recs.take m)) ∧ isSlab sb s1 g ∧ TG [] w [g, gr1, gm1, famB (reqF sb) rs1] wr) (fun _ i _ => room + 1 - (intOf i).toNat)
        case atStart => exact ⟨0, g1, by omega, rfl, rfl, hg1, HT1.out⟩
        case round =>
          obtain ⟨m, g, hm, rfl, rfl, hg, T⟩ := hrel
          have HT := Lib.hid T
          clear T
          by_cases hmr : m < room
          · have hml : m < s1.recs.length := by have := HS1.out.len; omega
            have hr := List.getElem?_eq_getElem hml
            obtain ⟨r, hr'⟩ : ∃ r, s1.recs[m] = r := ⟨_, rfl⟩
            rw [hr'] at hr
            have ho := (HS1.out.get hr).1
            have hu := used_take hr
            have hu2 := used_le (s1.recs.take m)
            rw [List.length_take] at hu2
            obtain ⟨u, hu'⟩ : ∃ u, usedS (s1.recs.take m) = u := ⟨_, rfl⟩
            rw [hu'] at hu hu2 ⊢
            have hum : u ≤ 8 := by omega
            have HU := Lib.hid hu
            have hkw : s1.word (m : Int) = r.w ∧ s1.werr (m : Int) = 0 := by
              have hh : s1.has (m : Int) := ⟨by omega, by omega⟩
              refine ⟨?_, if_pos hh⟩
              unfold SlabS.word
              rw [if_pos hh, Int.toNat_natCast, getD_of hr]
            have HK := Lib.hid hkw
            have w0' := ho.w0
            have w1' := ho.w1
            have HB := Lib.hid (show busyB r = !decide (stW r.w = 0) from rfl)
            clear hml hr hr' ho hu hu' hkw hu2
            go_wp2_with fail
            refine (DoesG.use (slabWord_c HK.out.1 HK.out.2 hg HS1.out.ok.n1) (HT.out) [0] rfl rfl).mono ?_
            rintro e w1 ⟨gs, ⟨rfl, g2, hg2, rfl⟩, Ta⟩
            simp only [putG, List.set_cons_zero, List.set_cons_succ, List.cons_append, List.nil_append, List.append_nil] at Ta
            have HT := Lib.hid Ta
            clear Ta
            by_cases hst : stW r.w = 0
            · have HZ := Lib.hid (show usedS (s1.recs.take (m + 1)) = u from by rw [HU.out, HB.out]; simp [hst])
              go_wp2_with (go_at_call 18; refine (state_calls _ _ w0' w1').mono ?_; rw [hst]; rintro e w' ⟨rfl, rfl⟩)
              first
              | (go_roundw
                 case rel => exact ⟨m + 1, g2, by omega, by go_num, by rw [HZ.out], hg2, HT.out⟩
                 case measure => simp [intOf]; omega)
              | exact ⟨⟨m + 1, g2, by omega, by go_num, by rw [HZ.out], hg2, HT.out⟩, by simp [intOf]; omega⟩
              | ((repeat apply Exists.intro); exact ⟨⟨⟨m + 1, g2, by omega, by go_num, by rw [HZ.out], hg2, HT.out⟩, rfl⟩, by simp [intOf]; omega⟩)
            · have HZ := Lib.hid (show usedS (s1.recs.take (m + 1)) = u + 1 from by rw [HU.out, HB.out]; simp [hst])
              obtain ⟨st, hst'⟩ : ∃ st, stW r.w = st := ⟨_, rfl⟩
              rw [hst'] at hst
              have HS' := Lib.hid hst'
              clear hst' HB
              have b1 : (st != 0) = true := by simpa using hst
              go_wp2_with (go_at_call 18; refine (state_calls _ _ w0' w1').mono ?_; rw [HS'.out]; rintro e w' ⟨rfl, rfl⟩)
              first
              | (go_roundw
                 case rel => exact ⟨m + 1, g2, by omega, by go_num, by rw [HZ.out]; go_num, hg2, HT.out⟩
                 case measure => simp [intOf]; omega)
              | exact ⟨⟨m + 1, g2, by omega, by go_num, by rw [HZ.out]; go_num, hg2, HT.out⟩, by simp [intOf]; omega⟩
              | ((repeat apply Exists.intro); exact ⟨⟨⟨m + 1, g2, by omega, by go_num, by rw [HZ.out]; go_num, hg2, HT.out⟩, rfl⟩, by simp [intOf]; omega⟩)
          · obtain rfl : m = room := by omega
            have hu : usedS (s1.recs.take m) = usedS s1.recs := by rw [List.take_of_length_le (by rw [HS1.out.len]; exact Nat.le_refl _)]
            rw [hu]
            have hc1 := HS1.out.used
            have hc2 : s1.count ≤ (m : Int) := by have := HS1.out.ok.c1; have := HS1.out.len; omega
            have hc3 : (usedS s1.recs : Int) ≤ s1.count := by omega
            clear hu hc1
            go_wp2_with fail
            refine (DoesG.use (slabCount_g hg) (HT.out) [0] rfl rfl).mono ?_
            rintro e w1 ⟨gs, ⟨rfl, g2, hg2, rfl⟩, Ta⟩
            simp only [putG, List.set_cons_zero, List.set_cons_succ, List.cons_append, List.nil_append, List.append_nil] at Ta
            have HT := Lib.hid Ta
            clear Ta
            go_wp2_with fail
            refine (DoesG.use (slabCount_g hg2) (HT.out) [0] rfl rfl).mono ?_
            rintro e w1 ⟨gs, ⟨rfl, g3, hg3, rfl⟩, Ta⟩
            simp only [putG, List.set_cons_zero, List.set_cons_succ, List.cons_append, List.nil_append, List.append_nil] at Ta
            have HT := Lib.hid Ta
            clear Ta
            go_wp2
            first
            | (go_roundw
               case rel => exact ⟨k + 1, s1, rs1, m1, z1, g3, gr1, gm1, by omega, by go_num, HS1.out, HQ1.out, HM1.out, by omega, hg3, RR1.out, RM1.out, HT.out⟩
               case measure => simp [intOf]; omega)
            | exact ⟨⟨k + 1, s1, rs1, m1, z1, g3, gr1, gm1, by omega, by go_num, HS1.out, HQ1.out, HM1.out, by omega, hg3, RR1.out, RM1.out, HT.out⟩, by simp [intOf]; omega⟩
            | ((repeat apply Exists.intro); exact ⟨⟨⟨k + 1, s1, rs1, m1, z1, g3, gr1, gm1, by omega, by go_num, HS1.out, HQ1.out, HM1.out, by omega, hg3, RR1.out, RM1.out, HT.out⟩, rfl⟩, by simp [intOf]; omega⟩)
      · by_cases h80 : x < 80
        · go_wp2_with fail
          refine (DoesG.use (free_g hg HS.out.ok (x % room)) (HT.out) [0] rfl rfl).mono ?_
          rintro e w1 ⟨gs, ⟨rfl, g1, hg1, rfl⟩, Ta⟩
          simp only [putG, List.set_cons_zero, List.set_cons_succ, List.cons_append, List.nil_append, List.append_nil] at Ta
          have HT := Lib.hid Ta
          clear Ta
          have HM1 := Lib.hid (HM.out.mono (fun i => Int.le_of_eq (free_given HS.out (x % room) i).symm))
          have HS1 := Lib.hid ((tame_free HS.out (by omega) (x % room)).mono (show (k : Int) ≤ ((k + 1 : Nat) : Int) by omega))
          obtain ⟨s1, hs1⟩ : ∃ s1, (freeS s (x % room)).1 = s1 := ⟨_, rfl⟩
          rw [hs1] at HS1 HM1 hg1
          obtain ⟨rs1, rfl⟩ : ∃ s1, s1 = rs := ⟨_, rfl⟩
          obtain ⟨gm1, rfl⟩ : ∃ g1, g1 = gm := ⟨_, rfl⟩
          obtain ⟨gr1, rfl⟩ : ∃ g1, g1 = gr := ⟨_, rfl⟩
          obtain ⟨m1, rfl⟩ : ∃ g1, g1 = m := ⟨_, rfl⟩
          obtain ⟨z1, rfl⟩ : ∃ g1, g1 = z := ⟨_, rfl⟩
          have HQ1 := HQ
          have RR1 := RR
          have RM1 := Lib.hid (show mapG Try.prog 32 mb (k + 1) m1 z1 gm1 from mapG_mono RM.out (by omega))
          have HT1 := HT
          clear hs1
          go_wp2
          obtain ⟨wo, rfl⟩ : ∃ wo : World, wo = w1 := ⟨_, rfl⟩
          go_loopw [16, 17] (fun u i wr => ∃ (m : Nat) (g : List Blk), m ≤ room ∧ i = .int .i64 m ∧ u = .int .i64 (usedS (s1.recs.take m)) ∧ isSlab sb s1 g ∧ TG [] w [g, gr1, gm1, famB (reqF sb) rs1] wr) (fun _ i _ => room + 1 - (intOf i).toNat)
          case atStart => exact ⟨0, g1, by omega, rfl, rfl, hg1, HT1.out⟩
          case round =>
            obtain ⟨m, g, hm, rfl, rfl, hg, T⟩ := hrel
            have HT := Lib.hid T
            clear T
            by_cases hmr : m < room
            · have hml : m < s1.recs.length := by have := HS1.out.len; omega
              have hr := List.getElem?_eq_getElem hml
              obtain ⟨r, hr'⟩ : ∃ r, s1.recs[m] = r := ⟨_, rfl⟩
              rw [hr'] at hr
              have ho := (HS1.out.get hr).1
              have hu := used_take hr
              have hu2 := used_le (s1.recs.take m)
              rw [List.length_take] at hu2
              obtain ⟨u, hu'⟩ : ∃ u, usedS (s1.recs.take m) = u := ⟨_, rfl⟩
              rw [hu'] at hu hu2 ⊢
              have hum : u ≤ 8 := by omega
              have HU := Lib.hid hu
              have hkw : s1.word (m : Int) = r.w ∧ s1.werr (m : Int) = 0 := by
                have hh : s1.has (m : Int) := ⟨by omega, by omega⟩
                refine ⟨?_, if_pos hh⟩
                unfold SlabS.word
                rw [if_pos hh, Int.toNat_natCast, getD_of hr]
              have HK := Lib.hid hkw
              have w0' := ho.w0
              have w1' := ho.w1
              have HB := Lib.hid (show busyB r = !decide (stW r.w = 0) from rfl)
              clear hml hr hr' ho hu hu' hkw hu2
              go_wp2_with fail
              refine (DoesG.use (slabWord_c HK.out.1 HK.out.2 hg HS1.out.ok.n1) (HT.out) [0] rfl rfl).mono ?_
              rintro e w1 ⟨gs, ⟨rfl, g2, hg2, rfl⟩, Ta⟩
              simp only [putG, List.set_cons_zero, List.set_cons_succ, List.cons_append, List.nil_append, List.append_nil] at Ta
              have HT := Lib.hid Ta
              clear Ta
              by_cases hst : stW r.w = 0
              · have HZ := Lib.hid (show usedS (s1.recs.take (m + 1)) = u from by rw [HU.out, HB.out]; simp [hst])
                go_wp2_with (go_at_call 18; refine (state_calls _ _ w0' w1').mono ?_; rw [hst]; rintro e w' ⟨rfl, rfl⟩)
                first
                | (go_roundw
                   case rel => exact ⟨m + 1, g2, by omega, by go_num, by rw [HZ.out], hg2, HT.out⟩
                   case measure => simp [intOf]; omega)
                | exact ⟨⟨m + 1, g2, by omega, by go_num, by rw [HZ.out], hg2, HT.out⟩, by simp [intOf]; omega⟩
                | ((repeat apply Exists.intro); exact ⟨⟨⟨m + 1, g2, by omega, by go_num, by rw [HZ.out], hg2, HT.out⟩, rfl⟩, by simp [intOf]; omega⟩)
              · have HZ := Lib.hid (show usedS (s1.recs.take (m + 1)) = u + 1 from by rw [HU.out, HB.out]; simp [hst])
                obtain ⟨st, hst'⟩ : ∃ st, stW r.w = st := ⟨_, rfl⟩
                rw [hst'] at hst
                have HS' := Lib.hid hst'
                clear hst' HB
                have b1 : (st != 0) = true := by simpa using hst
                go_wp2_with (go_at_call 18; refine (state_calls _ _ w0' w1').mono ?_; rw [HS'.out]; rintro e w' ⟨rfl, rfl⟩)
                first
                | (go_roundw
                   case rel => exact ⟨m + 1, g2, by omega, by go_num, by rw [HZ.out]; go_num, hg2, HT.out⟩
                   case measure => simp [intOf]; omega)
                | exact ⟨⟨m + 1, g2, by omega, by go_num, by rw [HZ.out]; go_num, hg2, HT.out⟩, by simp [intOf]; omega⟩
                | ((repeat apply Exists.intro); exact ⟨⟨⟨m + 1, g2, by omega, by go_num, by rw [HZ.out]; go_num, hg2, HT.out⟩, rfl⟩, by simp [intOf]; omega⟩)
            · obtain rfl : m = room := by omega
              have hu : usedS (s1.recs.take m) = usedS s1.recs := by rw [List.take_of_length_le (by rw [HS1.out.len]; exact Nat.le_refl _)]
              rw [hu]
              have hc1 := HS1.out.used
              have hc2 : s1.count ≤ (m : Int) := by have := HS1.out.ok.c1; have := HS1.out.len; omega
              have hc3 : (usedS s1.recs : Int) ≤ s1.count := by omega
              clear hu hc1
              go_wp2_with fail
              refine (DoesG.use (slabCount_g hg) (HT.out) [0] rfl rfl).mono ?_
              rintro e w1 ⟨gs, ⟨rfl, g2, hg2, rfl⟩, Ta⟩
              simp only [putG, List.set_cons_zero, List.set_cons_succ, List.cons_append, List.nil_append, List.append_nil] at Ta
              have HT := Lib.hid Ta
              clear Ta
              go_wp2_with fail
              refine (DoesG.use (slabCount_g hg2) (HT.out) [0] rfl rfl).mono ?_
              rintro e w1 ⟨gs, ⟨rfl, g3, hg3, rfl⟩, Ta⟩
              simp only [putG, List.set_cons_zero, List.set_cons_succ, List.cons_append, List.nil_append, List.append_nil] at Ta
              have HT := Lib.hid Ta
              clear Ta
              go_wp2
              first
              | (go_roundw
                 case rel => exact ⟨k + 1, s1, rs1, m1, z1, g3, gr1, gm1, by omega, by go_num, HS1.out, HQ1.out, HM1.out, by omega, hg3, RR1.out, RM1.out, HT.out⟩
                 case measure => simp [intOf]; omega)
              | exact ⟨⟨k + 1, s1, rs1, m1, z1, g3, gr1, gm1, by omega, by go_num, HS1.out, HQ1.out, HM1.out, by omega, hg3, RR1.out, RM1.out, HT.out⟩, by simp [intOf]; omega⟩
              | ((repeat apply Exists.intro); exact ⟨⟨⟨k + 1, s1, rs1, m1, z1, g3, gr1, gm1, by omega, by go_num, HS1.out, HQ1.out, HM1.out, by omega, hg3, RR1.out, RM1.out, HT.out⟩, rfl⟩, by simp [intOf]; omega⟩)
        · by_cases hrs : rs.length = 0
          · have b1 : decide ((0 : Int) < (rs.length : Int)) = false := decide_eq_false (by omega)
            have b2 : decide (0 < rs.length) = false := decide_eq_false (by omega)
            clear hrs
            have HS1 := Lib.hid (HS.out.mono (show (k : Int) ≤ ((k + 1 : Nat) : Int) by omega))
            obtain ⟨s1, rfl⟩ : ∃ s1, s1 = s := ⟨_, rfl⟩
            obtain ⟨g1, rfl⟩ : ∃ g1, g1 = g := ⟨_, rfl⟩
            obtain ⟨gm1, rfl⟩ : ∃ g1, g1 = gm := ⟨_, rfl⟩
            obtain ⟨gr1, rfl⟩ : ∃ g1, g1 = gr := ⟨_, rfl⟩
            obtain ⟨m1, rfl⟩ : ∃ g1, g1 = m := ⟨_, rfl⟩
            obtain ⟨z1, rfl⟩ : ∃ g1, g1 = z := ⟨_, rfl⟩
            obtain ⟨rs1, rfl⟩ : ∃ rs1 : List (Nat × Req), rs1 = rs := ⟨_, rfl⟩
            have HM1 := HM
            have HQ1 := HQ
            have RR1 := RR
            have RM1 := Lib.hid (show mapG Try.prog 32 mb (k + 1) m1 z1 gm1 from mapG_mono RM.out (by omega))
            have HT1 := HT
            have hg1 := hg
            go_wp2
            obtain ⟨wo, rfl⟩ : ∃ wo : World, wo = wr := ⟨_, rfl⟩
            go_loopw [16, 17] (fun u i wr => ∃ (m : Nat) (g : List Blk), m ≤ room ∧ i = .int .i64 m ∧ u = .int .i64 (usedS (s1.recs.take m)) ∧ isSlab sb s1 g ∧ TG [] w [g, gr1, gm1, famB (reqF sb) rs1] wr) (fun _ i _ => room + 1 - (intOf i).toNat)
            case atStart => exact ⟨0, g1, by omega, rfl, rfl, hg1, HT1.out⟩
            case round =>
              obtain ⟨m, g, hm, rfl, rfl, hg, T⟩ := hrel
              have HT := Lib.hid T
              clear T
              by_cases hmr : m < room
              · have hml : m < s1.recs.length := by have := HS1.out.len; omega
                have hr := List.getElem?_eq_getElem hml
                obtain ⟨r, hr'⟩ : ∃ r, s1.recs[m] = r := ⟨_, rfl⟩
                rw [hr'] at hr
                have ho := (HS1.out.get hr).1
                have hu := used_take hr
                have hu2 := used_le (s1.recs.take m)
                rw [List.length_take] at hu2
                obtain ⟨u, hu'⟩ : ∃ u, usedS (s1.recs.take m) = u := ⟨_, rfl⟩
                rw [hu'] at hu hu2 ⊢
                have hum : u ≤ 8 := by omega
                have HU := Lib.hid hu
                have hkw : s1.word (m : Int) = r.w ∧ s1.werr (m : Int) = 0 := by
                  have hh : s1.has (m : Int) := ⟨by omega, by omega⟩
                  refine ⟨?_, if_pos hh⟩
                  unfold SlabS.word
                  rw [if_pos hh, Int.toNat_natCast, getD_of hr]
                have HK := Lib.hid hkw
                have w0' := ho.w0
                have w1' := ho.w1
                have HB := Lib.hid (show busyB r = !decide (stW r.w = 0) from rfl)
                clear hml hr hr' ho hu hu' hkw hu2
                go_wp2_with fail
                refine (DoesG.use (slabWord_c HK.out.1 HK.out.2 hg HS1.out.ok.n1) (HT.out) [0] rfl rfl).mono ?_
                rintro e w1 ⟨gs, ⟨rfl, g2, hg2, rfl⟩, Ta⟩
                simp only [putG, List.set_cons_zero, List.set_cons_succ, List.cons_append, List.nil_append, List.append_nil] at Ta
                have HT := Lib.hid Ta
                clear Ta
                by_cases hst : stW r.w = 0
                · have HZ := Lib.hid (show usedS (s1.recs.take (m + 1)) = u from by rw [HU.out, HB.out]; simp [hst])
                  go_wp2_with (go_at_call 18; refine (state_calls _ _ w0' w1').mono ?_; rw [hst]; rintro e w' ⟨rfl, rfl⟩)
                  first
                  | (go_roundw
                     case rel => exact ⟨m + 1, g2, by omega, by go_num, by rw [HZ.out], hg2, HT.out⟩
                     case measure => simp [intOf]; omega)
                  | exact ⟨⟨m + 1, g2, by omega, by go_num, by rw [HZ.out], hg2, HT.out⟩, by simp [intOf]; omega⟩
                  | ((repeat apply Exists.intro); exact ⟨⟨⟨m + 1, g2, by omega, by go_num, by rw [HZ.out], hg2, HT.out⟩, rfl⟩, by simp [intOf]; omega⟩)
                · have HZ := Lib.hid (show usedS (s1.recs.take (m + 1)) = u + 1 from by rw [HU.out, HB.out]; simp [hst])
                  obtain ⟨st, hst'⟩ : ∃ st, stW r.w = st := ⟨_, rfl⟩
                  rw [hst'] at hst
                  have HS' := Lib.hid hst'
                  clear hst' HB
                  have b1 : (st != 0) = true := by simpa using hst
                  go_wp2_with (go_at_call 18; refine (state_calls _ _ w0' w1').mono ?_; rw [HS'.out]; rintro e w' ⟨rfl, rfl⟩)
                  first
                  | (go_roundw
                     case rel => exact ⟨m + 1, g2, by omega, by go_num, by rw [HZ.out]; go_num, hg2, HT.out⟩
                     case measure => simp [intOf]; omega)
                  | exact ⟨⟨m + 1, g2, by omega, by go_num, by rw [HZ.out]; go_num, hg2, HT.out⟩, by simp [intOf]; omega⟩
                  | ((repeat apply Exists.intro); exact ⟨⟨⟨m + 1, g2, by omega, by go_num, by rw [HZ.out]; go_num, hg2, HT.out⟩, rfl⟩, by simp [intOf]; omega⟩)
              · obtain rfl : m = room := by omega
                have hu : usedS (s1.recs.take m) = usedS s1.recs := by rw [List.take_of_length_le (by rw [HS1.out.len]; exact Nat.le_refl _)]
                rw [hu]
                have hc1 := HS1.out.used
                have hc2 : s1.count ≤ (m : Int) := by have := HS1.out.ok.c1; have := HS1.out.len; omega
                have hc3 : (usedS s1.recs : Int) ≤ s1.count := by omega
                clear hu hc1
                go_wp2_with fail
                refine (DoesG.use (slabCount_g hg) (HT.out) [0] rfl rfl).mono ?_
                rintro e w1 ⟨gs, ⟨rfl, g2, hg2, rfl⟩, Ta⟩
                simp only [putG, List.set_cons_zero, List.set_cons_succ, List.cons_append, List.nil_append, List.append_nil] at Ta
                have HT := Lib.hid Ta
                clear Ta
                go_wp2_with fail
                refine (DoesG.use (slabCount_g hg2) (HT.out) [0] rfl rfl).mono ?_
                rintro e w1 ⟨gs, ⟨rfl, g3, hg3, rfl⟩, Ta⟩
                simp only [putG, List.set_cons_zero, List.set_cons_succ, List.cons_append, List.nil_append, List.append_nil] at Ta
                have HT := Lib.hid Ta
                clear Ta
                go_wp2
                first
                | (go_roundw
                   case rel => exact ⟨k + 1, s1, rs1, m1, z1, g3, gr1, gm1, by omega, by go_num, HS1.out, HQ1.out, HM1.out, by omega, hg3, RR1.out, RM1.out, HT.out⟩
                   case measure => simp [intOf]; omega)
                | exact ⟨⟨k + 1, s1, rs1, m1, z1, g3, gr1, gm1, by omega, by go_num, HS1.out, HQ1.out, HM1.out, by omega, hg3, RR1.out, RM1.out, HT.out⟩, by simp [intOf]; omega⟩
                | ((repeat apply Exists.intro); exact ⟨⟨⟨k + 1, s1, rs1, m1, z1, g3, gr1, gm1, by omega, by go_num, HS1.out, HQ1.out, HM1.out, by omega, hg3, RR1.out, RM1.out, HT.out⟩, rfl⟩, by simp [intOf]; omega⟩)
          · have hpos : 0 < rs.length := by omega
            have hi0 : 0 ≤ x % (rs.length : Int) := Int.emod_nonneg _ (by omega)
            have hi1 : x % (rs.length : Int) < rs.length := Int.emod_lt_of_pos _ (by omega)
            obtain ⟨i, hi⟩ := Int.eq_ofNat_of_zero_le hi0
            have hil : i < rs.length := by omega
            have hget := List.getElem?_eq_getElem hil
            obtain ⟨⟨bq, q⟩, hbq⟩ : ∃ p, rs[i] = p := ⟨_, rfl⟩
            rw [hbq] at hget
            have hqok : ReqOk room q := HQ.out (bq, q) (List.mem_of_getElem? hget)
            obtain ⟨b1, cap1, cur1, hv1, rfl, -, -, -, hc1⟩ := RR.out.open hpos
            cases hv1
            have HC := Lib.hid ((hc1 i (by omega)).trans (show (rs.map fun p => ptr p.1)[i]? = some (ptr bq) from by rw [List.getElem?_map, hget]; rfl))
            have T5 := HT.out.out 3 rfl rfl (f := reqF sb) hget
            simp only [List.set_cons_zero, List.set_cons_succ, List.cons_append, List.nil_append] at T5
            have T5 : TG [] w [g, [cl b1 30 cur1], gm, famB (reqF sb) (rs.eraseIdx i), reqG bq sb q] wr := T5
            have c1 := (T5.cell 1 0 rfl i).trans HC.out
            have HT := Lib.hid T5
            have HG := Lib.hid hget
            have hk200 : (k : Int) < 4294967295 := by omega
            have HST := Lib.hid (tame_step HS.out hk200 hqok)
            have hin : (i : Int) < rs.length := by omega
            clear T5 hget hbq hc1 hi0 hi1 hk200
            by_cases hst : q.st = 2
            · have E : stepR s q = (s, q) := if_pos (by omega)
              have HE := Lib.hid E
              clear E HST
              go_wp2_with fail
              refine (DoesG.use (reqId_held bq sb q hst) (HT.out) [4] rfl rfl).mono ?_
              rintro e w1 ⟨gs, ⟨rfl, rfl⟩, Ta⟩
              simp only [putG, List.set_cons_zero, List.set_cons_succ, List.cons_append, List.nil_append, List.append_nil] at Ta
              have c1 := (Ta.cell 1 0 rfl i).trans HC.out
              have HT := Lib.hid Ta
              clear Ta
              go_wp2_with fail
              refine (DoesG.use (reqStep_c q HE.out hg HS.out.ok (by rw [HS.out.len]; exact hqok)) (HT.out) [4, 0] rfl rfl).mono ?_
              rintro e w1 ⟨gs, ⟨rfl, g1, hg1, rfl⟩, Ta⟩
              simp only [putG, List.set_cons_zero, List.set_cons_succ, List.cons_append, List.nil_append, List.append_nil] at Ta
              have c1 := (Ta.cell 1 0 rfl i).trans HC.out
              have HT := Lib.hid Ta
              clear Ta
              go_wp2_with fail
              refine (DoesG.use (reqId_held bq sb q hst) (HT.out) [4] rfl rfl).mono ?_
              rintro e w1 ⟨gs, ⟨rfl, rfl⟩, Ta⟩
              simp only [putG, List.set_cons_zero, List.set_cons_succ, List.cons_append, List.nil_append, List.append_nil] at Ta
              have HT := Lib.hid Ta
              clear Ta
              have HT1 := Lib.hid (HT.out.back 3 4 (by decide) rfl rfl (f := reqF sb) (l := rs) (k := i) (a' := (bq, q)) rfl rfl hil)
              simp only [List.set_cons_zero, List.set_cons_succ] at HT1
              have HT1 := Lib.hid (HT1.out.pick [0, 1, 2, 3] rfl)
              have HQ1 := Lib.hid (show ∀ p ∈ rs.set i (bq, q), ReqOk room p.2 from fun p hp => by
                rcases List.mem_or_eq_of_mem_set hp with h | rfl
                · exact HQ.out p h
                · exact hqok)
              have hsk := seekers_set (rs := rs) (k := i) (b := bq) (q := q) q HG.out
              have RR1 := Lib.hid (show rowG 30 1 (.slice (some ⟨b1, 0, none⟩) rs.length cl') (rs.set i (bq, q)).length ((rs.set i (bq, q)).map fun p => ptr p.1) [cl b1 30 cur1] from by
                rw [List.length_set]
                have e : (rs.set i (bq, q)).map (fun p => ptr p.1) = rs.map (fun p => ptr p.1) := by
                  rw [List.map_set]
                  exact fam_set_same (by rw [List.getElem?_map, HG.out]; rfl)
                rw [e]; exact RR.out)
              have hl1 : (rs.set i (bq, q)).length ≤ k + 1 := by rw [List.length_set]; omega
              obtain ⟨gr1, hgr1⟩ : ∃ g1, g1 = [cl b1 30 cur1] := ⟨_, rfl⟩
              rw [← hgr1] at HT1 RR1
              have HS1 := Lib.hid (show Tame s room ((k + 1 : Nat) : Int) (seekers (rs.set i (bq, q))) from by
                rw [show seekers (rs.set i (bq, q)) = seekers rs by omega]; exact HS.out.mono (by omega))
              obtain ⟨rs1, hrs1⟩ : ∃ rs1, rs.set i (bq, q) = rs1 := ⟨_, rfl⟩
              rw [hrs1] at HS1 HQ1 RR1 HT1 hl1
              obtain ⟨s1, rfl⟩ : ∃ s1, s1 = s := ⟨_, rfl⟩
              obtain ⟨gm1, rfl⟩ : ∃ g1, g1 = gm := ⟨_, rfl⟩
              obtain ⟨m1, rfl⟩ : ∃ g1, g1 = m := ⟨_, rfl⟩
              obtain ⟨z1, rfl⟩ : ∃ g1, g1 = z := ⟨_, rfl⟩
              have HM1 := HM
              have RM1 := Lib.hid (show mapG Try.prog 32 mb (k + 1) m1 z1 gm1 from mapG_mono RM.out (by omega))
              clear hrs1 hsk hgr1
              go_wp2
              obtain ⟨wo, rfl⟩ : ∃ wo : World, wo = w1 := ⟨_, rfl⟩
              go_loopw [16, 17] (fun u i wr => ∃ (m : Nat) (g : List Blk), m ≤ room ∧ i = .int .i64 m ∧ u = .int .i64 (usedS (s1.recs.take m)) ∧ isSlab sb s1 g ∧ TG [] w [g, gr1, gm1, famB (reqF sb) rs1] wr) (fun _ i _ => room + 1 - (intOf i).toNat)
              case atStart => exact ⟨0, g1, by omega, rfl, rfl, hg1, HT1.out⟩
              case round =>
                obtain ⟨m, g, hm, rfl, rfl, hg, T⟩ := hrel
                have HT := Lib.hid T
                clear T
                by_cases hmr : m < room
                · have hml : m < s1.recs.length := by have := HS1.out.len; omega
                  have hr := List.getElem?_eq_getElem hml
                  obtain ⟨r, hr'⟩ : ∃ r, s1.recs[m] = r := ⟨_, rfl⟩
                  rw [hr'] at hr
                  have ho := (HS1.out.get hr).1
                  have hu := used_take hr
                  have hu2 := used_le (s1.recs.take m)
                  rw [List.length_take] at hu2
                  obtain ⟨u, hu'⟩ : ∃ u, usedS (s1.recs.take m) = u := ⟨_, rfl⟩
                  rw [hu'] at hu hu2 ⊢
                  have hum : u ≤ 8 := by omega
                  have HU := Lib.hid hu
                  have hkw : s1.word (m : Int) = r.w ∧ s1.werr (m : Int) = 0 := by
                    have hh : s1.has (m : Int) := ⟨by omega, by omega⟩
                    refine ⟨?_, if_pos hh⟩
                    unfold SlabS.word
                    rw [if_pos hh, Int.toNat_natCast, getD_of hr]
                  have HK := Lib.hid hkw
                  have w0' := ho.w0
                  have w1' := ho.w1
                  have HB := Lib.hid (show busyB r = !decide (stW r.w = 0) from rfl)
                  clear hml hr hr' ho hu hu' hkw hu2
                  go_wp2_with fail
                  refine (DoesG.use (slabWord_c HK.out.1 HK.out.2 hg HS1.out.ok.n1) (HT.out) [0] rfl rfl).mono ?_
                  rintro e w1 ⟨gs, ⟨rfl, g2, hg2, rfl⟩, Ta⟩
                  simp only [putG, List.set_cons_zero, List.set_cons_succ, List.cons_append, List.nil_append, List.append_nil] at Ta
                  have HT := Lib.hid Ta
                  clear Ta
                  by_cases hst : stW r.w = 0
                  · have HZ := Lib.hid (show usedS (s1.recs.take (m + 1)) = u from by rw [HU.out, HB.out]; simp [hst])
                    go_wp2_with (go_at_call 18; refine (state_calls _ _ w0' w1').mono ?_; rw [hst]; rintro e w' ⟨rfl, rfl⟩)
                    first
                    | (go_roundw
                       case rel => exact ⟨m + 1, g2, by omega, by go_num, by rw [HZ.out], hg2, HT.out⟩
                       case measure => simp [intOf]; omega)
                    | exact ⟨⟨m + 1, g2, by omega, by go_num, by rw [HZ.out], hg2, HT.out⟩, by simp [intOf]; omega⟩
                    | ((repeat apply Exists.intro); exact ⟨⟨⟨m + 1, g2, by omega, by go_num, by rw [HZ.out], hg2, HT.out⟩, rfl⟩, by simp [intOf]; omega⟩)
                  · have HZ := Lib.hid (show usedS (s1.recs.take (m + 1)) = u + 1 from by rw [HU.out, HB.out]; simp [hst])
                    obtain ⟨st, hst'⟩ : ∃ st, stW r.w = st := ⟨_, rfl⟩
                    rw [hst'] at hst
                    have HS' := Lib.hid hst'
                    clear hst' HB
                    have b1 : (st != 0) = true := by simpa using hst
                    go_wp2_with (go_at_call 18; refine (state_calls _ _ w0' w1').mono ?_; rw [HS'.out]; rintro e w' ⟨rfl, rfl⟩)
                    first
                    | (go_roundw
                       case rel => exact ⟨m + 1, g2, by omega, by go_num, by rw [HZ.out]; go_num, hg2, HT.out⟩
                       case measure => simp [intOf]; omega)
                    | exact ⟨⟨m + 1, g2, by omega, by go_num, by rw [HZ.out]; go_num, hg2, HT.out⟩, by simp [intOf]; omega⟩
                    | ((repeat apply Exists.intro); exact ⟨⟨⟨m + 1, g2, by omega, by go_num, by rw [HZ.out]; go_num, hg2, HT.out⟩, rfl⟩, by simp [intOf]; omega⟩)
                · obtain rfl : m = room := by omega
                  have hu : usedS (s1.recs.take m) = usedS s1.recs := by rw [List.take_of_length_le (by rw [HS1.out.len]; exact Nat.le_refl _)]
                  rw [hu]
                  have hc1 := HS1.out.used
                  have hc2 : s1.count ≤ (m : Int) := by have := HS1.out.ok.c1; have := HS1.out.len; omega
                  have hc3 : (usedS s1.recs : Int) ≤ s1.count := by omega
                  clear hu hc1
                  go_wp2_with fail
                  refine (DoesG.use (slabCount_g hg) (HT.out) [0] rfl rfl).mono ?_
                  rintro e w1 ⟨gs, ⟨rfl, g2, hg2, rfl⟩, Ta⟩
                  simp only [putG, List.set_cons_zero, List.set_cons_succ, List.cons_append, List.nil_append, List.append_nil] at Ta
                  have HT := Lib.hid Ta
                  clear Ta
                  go_wp2_with fail
                  refine (DoesG.use (slabCount_g hg2) (HT.out) [0] rfl rfl).mono ?_
                  rintro e w1 ⟨gs, ⟨rfl, g3, hg3, rfl⟩, Ta⟩
                  simp only [putG, List.set_cons_zero, List.set_cons_succ, List.cons_append, List.nil_append, List.append_nil] at Ta
                  have HT := Lib.hid Ta
                  clear Ta
                  go_wp2
                  first
                  | (go_roundw
                     case rel => exact ⟨k + 1, s1, rs1, m1, z1, g3, gr1, gm1, by omega, by go_num, HS1.out, HQ1.out, HM1.out, by omega, hg3, RR1.out, RM1.out, HT.out⟩
                     case measure => simp [intOf]; omega)
                  | exact ⟨⟨k + 1, s1, rs1, m1, z1, g3, gr1, gm1, by omega, by go_num, HS1.out, HQ1.out, HM1.out, by omega, hg3, RR1.out, RM1.out, HT.out⟩, by simp [intOf]; omega⟩
                  | ((repeat apply Exists.intro); exact ⟨⟨⟨k + 1, s1, rs1, m1, z1, g3, gr1, gm1, by omega, by go_num, HS1.out, HQ1.out, HM1.out, by omega, hg3, RR1.out, RM1.out, HT.out⟩, rfl⟩, by simp [intOf]; omega⟩)
            · obtain ⟨⟨s1, q1⟩, hsq⟩ : ∃ p, stepR s q = p := ⟨_, rfl⟩
              rw [hsq] at HST
              obtain ⟨ht1, hq1, -, ⟨-, hheld⟩, hmon⟩ := HST.out
              simp only [] at ht1 hq1 hheld hmon
              have hok := stepR_ok HS.out.ok (q := q) (by rw [HS.out.len]; exact hqok)
              have HE := Lib.hid hsq
              have HT2 := Lib.hid ht1
              have HMN := Lib.hid hmon
              have HHE := Lib.hid hheld
              clear HST hsq ht1 hheld hmon hok
              go_wp2_with fail
              refine (DoesG.use (reqId_not bq sb q hst) (HT.out) [4] rfl rfl).mono ?_
              rintro e w1 ⟨gs, ⟨rfl, rfl⟩, Ta⟩
              simp only [putG, List.set_cons_zero, List.set_cons_succ, List.cons_append, List.nil_append, List.append_nil] at Ta
              have c1 := (Ta.cell 1 0 rfl i).trans HC.out
              have HT := Lib.hid Ta
              clear Ta
              go_wp2_with fail
              refine (DoesG.use (reqStep_c q1 HE.out hg HS.out.ok (by rw [HS.out.len]; exact hqok)) (HT.out) [4, 0] rfl rfl).mono ?_
              rintro e w1 ⟨gs, ⟨rfl, g1, hg1, rfl⟩, Ta⟩
              simp only [putG, List.set_cons_zero, List.set_cons_succ, List.cons_append, List.nil_append, List.append_nil] at Ta
              have c1 := (Ta.cell 1 0 rfl i).trans HC.out
              have HT := Lib.hid Ta
              clear Ta
              by_cases hst1 : q1.st = 2
              · obtain ⟨j, r, hj, hs1, hid⟩ := HHE.out hst hst1
                have hjl : j < room := by have := (List.getElem?_eq_some_iff.1 hj).1; have := HS.out.len; omega
                have hro := (HS.out.get hj).1
                have hrg0 := hro.g0
                have hrb := ok_bd r.w hro.w0 hro.ok
                have hrg1 := hro.g1
                have hnone := HM.out.none hj (by omega)
                have hj1 : s1.recs[j]? = some (takenR r q.p) := by rw [hs1]; exact (List.getElem?_set_self (List.getElem?_eq_some_iff.1 hj).1)
                have hmine := mine_new HT2.out.ok hj1 (show 1 ≤ r.g + 1 by omega)
                have HMI := Lib.hid (show s1.mine ((r.g + 1) * 64 + j) = true from hmine)
                have HM1 := Lib.hid (HM.out.put HMN.out (show j < 64 by omega) (show 1 ≤ r.g + 1 by omega) (show r.g + 1 ≤ (s1.recs.getD j Rec.zero).g by rw [getD_of hj1]; exact Int.le_refl _) (.bool true))
                have hd0 : 0 ≤ (r.g + 1) * 64 + (j : Int) := by omega
                have hd1 : (r.g + 1) * 64 + (j : Int) ≤ 400000000000 := by omega
                obtain ⟨id, hid'⟩ : ∃ id, (r.g + 1) * 64 + (j : Int) = id := ⟨_, rfl⟩
                rw [hid'] at hnone HMI HM1 hd0 hd1 hid
                have HN := Lib.hid hnone
                clear hid' hj hs1 hro hrg0 hrb hrg1 hnone hj1 hmine hjl HHE
                go_wp2_with fail
                refine (DoesG.use (reqId_c (v := id) bq sb q1 hst1 hid) (HT.out) [4] rfl rfl).mono ?_
                rintro e w1 ⟨gs, ⟨rfl, rfl⟩, Ta⟩
                simp only [putG, List.set_cons_zero, List.set_cons_succ, List.cons_append, List.nil_append, List.append_nil] at Ta
                have HT := Lib.hid Ta
                clear Ta
                go_wp2_with (at_lookup; (with_reducible refine wpList_lookup_G rfl (.tmp 111) (.tmp 112) rfl Try.keyU64 Try.underlying37 (.bool false) Try.zeroBool HT.out 2 rfl RM.out rfl (.int .u64 id) (.int .u64 id) rfl (seen_key id hd0 (by omega)) ?_); rw [HN.out, Option.getD_none])
                go_wp2_with fail
                refine (DoesG.use (slabMine_c HMI.out hg1 HT2.out.ok.n1 hd0 (by omega)) (HT.out) [0] rfl rfl).mono ?_
                rintro e w1 ⟨gs, ⟨rfl, g2, hg2, rfl⟩, Ta⟩
                simp only [putG, List.set_cons_zero, List.set_cons_succ, List.cons_append, List.nil_append, List.append_nil] at Ta
                have HT := Lib.hid Ta
                clear Ta
                go_wp2_with (at_mapUpdate; (with_reducible refine wpList_update_G rfl (.tmp 120) (.tmp 121) _ rfl Try.keyU64 Try.underlying37 HT.out 2 rfl rfl RM.out (by unfold maxLen; omega) rfl (.int .u64 id) (.bool true) (.int .u64 id) rfl rfl (seen_key id hd0 (by omega)) ?_); intro w2 gm1 RM1 T6; simp only [List.set_cons_zero, List.set_cons_succ] at T6; have RM1 := Lib.hid RM1; have HT := Lib.hid T6; clear T6)
                have HT1 := Lib.hid (HT.out.back 3 4 (by decide) rfl rfl (f := reqF sb) (l := rs) (k := i) (a' := (bq, q1)) rfl rfl hil)
                simp only [List.set_cons_zero, List.set_cons_succ] at HT1
                have HT1 := Lib.hid (HT1.out.pick [0, 1, 2, 3] rfl)
                have HQ1 := Lib.hid (show ∀ p ∈ rs.set i (bq, q1), ReqOk room p.2 from fun p hp => by
                  rcases List.mem_or_eq_of_mem_set hp with h | rfl
                  · exact HQ.out p h
                  · exact hq1)
                have hsk := seekers_set (rs := rs) (k := i) (b := bq) (q := q) q1 HG.out
                have RR1 := Lib.hid (show rowG 30 1 (.slice (some ⟨b1, 0, none⟩) rs.length cl') (rs.set i (bq, q1)).length ((rs.set i (bq, q1)).map fun p => ptr p.1) [cl b1 30 cur1] from by
                  rw [List.length_set]
                  have e : (rs.set i (bq, q1)).map (fun p => ptr p.1) = rs.map (fun p => ptr p.1) := by
                    rw [List.map_set]
                    exact fam_set_same (by rw [List.getElem?_map, HG.out]; rfl)
                  rw [e]; exact RR.out)
                have hl1 : (rs.set i (bq, q1)).length ≤ k + 1 := by rw [List.length_set]; omega
                obtain ⟨gr1, hgr1⟩ : ∃ g1, g1 = [cl b1 30 cur1] := ⟨_, rfl⟩
                rw [← hgr1] at HT1 RR1
                have HS1 := Lib.hid (show Tame s1 room ((k + 1 : Nat) : Int) (seekers (rs.set i (bq, q1))) from by
                  have := HT2.out
                  have e : (seekers (rs.set i (bq, q1)) : Int) = (seekers rs : Int) + (if seekB q1 then 1 else 0) - (if seekB q then 1 else 0) := by
                    split at hsk <;> split at hsk <;> simp_all <;> omega
                  rw [e]; exact this)
                obtain ⟨rs1, hrs1⟩ : ∃ rs1, rs.set i (bq, q1) = rs1 := ⟨_, rfl⟩
                rw [hrs1] at HS1 HQ1 RR1 HT1 hl1
                obtain ⟨m1, hm1⟩ : ∃ m1, setK m (.int .u64 id) (.bool true) = m1 := ⟨_, rfl⟩
                obtain ⟨z1, hz1⟩ : ∃ z1, (if (m (.int .u64 id)).isSome then z else z + 1) = z1 := ⟨_, rfl⟩
                rw [hm1] at HM1 RM1
                rw [hz1] at RM1
                obtain ⟨g1, rfl⟩ : ∃ g1, g1 = g2 := ⟨_, rfl⟩
                have hg1 := hg2
                clear hrs1 hsk hgr1 hm1 hz1
                go_wp2
                obtain ⟨wo, rfl⟩ : ∃ wo : World, wo = w2 := ⟨_, rfl⟩
                go_loopw [16, 17] (fun u i wr => ∃ (m : Nat) (g : List Blk), m ≤ room ∧ i = .int .i64 m ∧ u = .int .i64 (usedS (s1.recs.take m)) ∧ isSlab sb s1 g ∧ TG [] w [g, gr1, gm1, famB (reqF sb) rs1] wr) (fun _ i _ => room + 1 - (intOf i).toNat)
                case atStart => exact ⟨0, g1, by omega, rfl, rfl, hg1, HT1.out⟩
                case round =>
                  obtain ⟨m, g, hm, rfl, rfl, hg, T⟩ := hrel
                  have HT := Lib.hid T
                  clear T
                  by_cases hmr : m < room
                  · have hml : m < s1.recs.length := by have := HS1.out.len; omega
                    have hr := List.getElem?_eq_getElem hml
                    obtain ⟨r, hr'⟩ : ∃ r, s1.recs[m] = r := ⟨_, rfl⟩
                    rw [hr'] at hr
                    have ho := (HS1.out.get hr).1
                    have hu := used_take hr
                    have hu2 := used_le (s1.recs.take m)
                    rw [List.length_take] at hu2
                    obtain ⟨u, hu'⟩ : ∃ u, usedS (s1.recs.take m) = u := ⟨_, rfl⟩
                    rw [hu'] at hu hu2 ⊢
                    have hum : u ≤ 8 := by omega
                    have HU := Lib.hid hu
                    have hkw : s1.word (m : Int) = r.w ∧ s1.werr (m : Int) = 0 := by
                      have hh : s1.has (m : Int) := ⟨by omega, by omega⟩
                      refine ⟨?_, if_pos hh⟩
                      unfold SlabS.word
                      rw [if_pos hh, Int.toNat_natCast, getD_of hr]
                    have HK := Lib.hid hkw
                    have w0' := ho.w0
                    have w1' := ho.w1
                    have HB := Lib.hid (show busyB r = !decide (stW r.w = 0) from rfl)
                    clear hml hr hr' ho hu hu' hkw hu2
                    go_wp2_with fail
                    refine (DoesG.use (slabWord_c HK.out.1 HK.out.2 hg HS1.out.ok.n1) (HT.out) [0] rfl rfl).mono ?_
                    rintro e w1 ⟨gs, ⟨rfl, g2, hg2, rfl⟩, Ta⟩
                    simp only [putG, List.set_cons_zero, List.set_cons_succ, List.cons_append, List.nil_append, List.append_nil] at Ta
                    have HT := Lib.hid Ta
                    clear Ta
                    by_cases hst : stW r.w = 0
                    · have HZ := Lib.hid (show usedS (s1.recs.take (m + 1)) = u from by rw [HU.out, HB.out]; simp [hst])
                      go_wp2_with (go_at_call 18; refine (state_calls _ _ w0' w1').mono ?_; rw [hst]; rintro e w' ⟨rfl, rfl⟩)
                      first
                      | (go_roundw
                         case rel => exact ⟨m + 1, g2, by omega, by go_num, by rw [HZ.out], hg2, HT.out⟩
                         case measure => simp [intOf]; omega)
                      | exact ⟨⟨m + 1, g2, by omega, by go_num, by rw [HZ.out], hg2, HT.out⟩, by simp [intOf]; omega⟩
                      | ((repeat apply Exists.intro); exact ⟨⟨⟨m + 1, g2, by omega, by go_num, by rw [HZ.out], hg2, HT.out⟩, rfl⟩, by simp [intOf]; omega⟩)
                    · have HZ := Lib.hid (show usedS (s1.recs.take (m + 1)) = u + 1 from by rw [HU.out, HB.out]; simp [hst])
                      obtain ⟨st, hst'⟩ : ∃ st, stW r.w = st := ⟨_, rfl⟩
                      rw [hst'] at hst
                      have HS' := Lib.hid hst'
                      clear hst' HB
                      have b1 : (st != 0) = true := by simpa using hst
                      go_wp2_with (go_at_call 18; refine (state_calls _ _ w0' w1').mono ?_; rw [HS'.out]; rintro e w' ⟨rfl, rfl⟩)
                      first
                      | (go_roundw
                         case rel => exact ⟨m + 1, g2, by omega, by go_num, by rw [HZ.out]; go_num, hg2, HT.out⟩
                         case measure => simp [intOf]; omega)
                      | exact ⟨⟨m + 1, g2, by omega, by go_num, by rw [HZ.out]; go_num, hg2, HT.out⟩, by simp [intOf]; omega⟩
                      | ((repeat apply Exists.intro); exact ⟨⟨⟨m + 1, g2, by omega, by go_num, by rw [HZ.out]; go_num, hg2, HT.out⟩, rfl⟩, by simp [intOf]; omega⟩)
                  · obtain rfl : m = room := by omega
                    have hu : usedS (s1.recs.take m) = usedS s1.recs := by rw [List.take_of_length_le (by rw [HS1.out.len]; exact Nat.le_refl _)]
                    rw [hu]
                    have hc1 := HS1.out.used
                    have hc2 : s1.count ≤ (m : Int) := by have := HS1.out.ok.c1; have := HS1.out.len; omega
                    have hc3 : (usedS s1.recs : Int) ≤ s1.count := by omega
                    clear hu hc1
                    go_wp2_with fail
                    refine (DoesG.use (slabCount_g hg) (HT.out) [0] rfl rfl).mono ?_
                    rintro e w1 ⟨gs, ⟨rfl, g2, hg2, rfl⟩, Ta⟩
                    simp only [putG, List.set_cons_zero, List.set_cons_succ, List.cons_append, List.nil_append, List.append_nil] at Ta
                    have HT := Lib.hid Ta
                    clear Ta
                    go_wp2_with fail
                    refine (DoesG.use (slabCount_g hg2) (HT.out) [0] rfl rfl).mono ?_
                    rintro e w1 ⟨gs, ⟨rfl, g3, hg3, rfl⟩, Ta⟩
                    simp only [putG, List.set_cons_zero, List.set_cons_succ, List.cons_append, List.nil_append, List.append_nil] at Ta
                    have HT := Lib.hid Ta
                    clear Ta
                    go_wp2
                    first
                    | (go_roundw
                       case rel => exact ⟨k + 1, s1, rs1, m1, z1, g3, gr1, gm1, by omega, by go_num, HS1.out, HQ1.out, HM1.out, by omega, hg3, RR1.out, RM1.out, HT.out⟩
                       case measure => simp [intOf]; omega)
                    | exact ⟨⟨k + 1, s1, rs1, m1, z1, g3, gr1, gm1, by omega, by go_num, HS1.out, HQ1.out, HM1.out, by omega, hg3, RR1.out, RM1.out, HT.out⟩, by simp [intOf]; omega⟩
                    | ((repeat apply Exists.intro); exact ⟨⟨⟨k + 1, s1, rs1, m1, z1, g3, gr1, gm1, by omega, by go_num, HS1.out, HQ1.out, HM1.out, by omega, hg3, RR1.out, RM1.out, HT.out⟩, rfl⟩, by simp [intOf]; omega⟩)
              · go_wp2_with fail
                refine (DoesG.use (reqId_not bq sb q1 hst1) (HT.out) [4] rfl rfl).mono ?_
                rintro e w1 ⟨gs, ⟨rfl, rfl⟩, Ta⟩
                simp only [putG, List.set_cons_zero, List.set_cons_succ, List.cons_append, List.nil_append, List.append_nil] at Ta
                have HT := Lib.hid Ta
                clear Ta
                have HT1 := Lib.hid (HT.out.back 3 4 (by decide) rfl rfl (f := reqF sb) (l := rs) (k := i) (a' := (bq, q1)) rfl rfl hil)
                simp only [List.set_cons_zero, List.set_cons_succ] at HT1
                have HT1 := Lib.hid (HT1.out.pick [0, 1, 2, 3] rfl)
                have HQ1 := Lib.hid (show ∀ p ∈ rs.set i (bq, q1), ReqOk room p.2 from fun p hp => by
                  rcases List.mem_or_eq_of_mem_set hp with h | rfl
                  · exact HQ.out p h
                  · exact hq1)
                have hsk := seekers_set (rs := rs) (k := i) (b := bq) (q := q) q1 HG.out
                have RR1 := Lib.hid (show rowG 30 1 (.slice (some ⟨b1, 0, none⟩) rs.length cl') (rs.set i (bq, q1)).length ((rs.set i (bq, q1)).map fun p => ptr p.1) [cl b1 30 cur1] from by
                  rw [List.length_set]
                  have e : (rs.set i (bq, q1)).map (fun p => ptr p.1) = rs.map (fun p => ptr p.1) := by
                    rw [List.map_set]
                    exact fam_set_same (by rw [List.getElem?_map, HG.out]; rfl)
                  rw [e]; exact RR.out)
                have hl1 : (rs.set i (bq, q1)).length ≤ k + 1 := by rw [List.length_set]; omega
                obtain ⟨gr1, hgr1⟩ : ∃ g1, g1 = [cl b1 30 cur1] := ⟨_, rfl⟩
                rw [← hgr1] at HT1 RR1
                have HS1 := Lib.hid (show Tame s1 room ((k + 1 : Nat) : Int) (seekers (rs.set i (bq, q1))) from by
                  have := HT2.out
                  have e : (seekers (rs.set i (bq, q1)) : Int) = (seekers rs : Int) + (if seekB q1 then 1 else 0) - (if seekB q then 1 else 0) := by
                    split at hsk <;> split at hsk <;> simp_all <;> omega
                  rw [e]; exact this)
                obtain ⟨rs1, hrs1⟩ : ∃ rs1, rs.set i (bq, q1) = rs1 := ⟨_, rfl⟩
                rw [hrs1] at HS1 HQ1 RR1 HT1 hl1
                obtain ⟨gm1, rfl⟩ : ∃ g1, g1 = gm := ⟨_, rfl⟩
                obtain ⟨m1, rfl⟩ : ∃ g1, g1 = m := ⟨_, rfl⟩
                obtain ⟨z1, rfl⟩ : ∃ g1, g1 = z := ⟨_, rfl⟩
                have HM1 := Lib.hid (HM.out.mono HMN.out)
                have RM1 := Lib.hid (show mapG Try.prog 32 mb (k + 1) m1 z1 gm1 from mapG_mono RM.out (by omega))
                clear hrs1 hsk hgr1
                go_wp2
                obtain ⟨wo, rfl⟩ : ∃ wo : World, wo = w1 := ⟨_, rfl⟩
                go_loopw [16, 17] (fun u i wr => ∃ (m : Nat) (g : List Blk), m ≤ room ∧ i = .int .i64 m ∧ u = .int .i64 (usedS (s1.recs.take m)) ∧ isSlab sb s1 g ∧ TG [] w [g, gr1, gm1, famB (reqF sb) rs1] wr) (fun _ i _ => room + 1 - (intOf i).toNat)
                case atStart => exact ⟨0, g1, by omega, rfl, rfl, hg1, HT1.out⟩
                case round =>
                  obtain ⟨m, g, hm, rfl, rfl, hg, T⟩ := hrel
                  have HT := Lib.hid T
                  clear T
                  by_cases hmr : m < room
                  · have hml : m < s1.recs.length := by have := HS1.out.len; omega
                    have hr := List.getElem?_eq_getElem hml
                    obtain ⟨r, hr'⟩ : ∃ r, s1.recs[m] = r := ⟨_, rfl⟩
                    rw [hr'] at hr
                    have ho := (HS1.out.get hr).1
                    have hu := used_take hr
                    have hu2 := used_le (s1.recs.take m)
                    rw [List.length_take] at hu2
                    obtain ⟨u, hu'⟩ : ∃ u, usedS (s1.recs.take m) = u := ⟨_, rfl⟩
                    rw [hu'] at hu hu2 ⊢
                    have hum : u ≤ 8 := by omega
                    have HU := Lib.hid hu
                    have hkw : s1.word (m : Int) = r.w ∧ s1.werr (m : Int) = 0 := by
                      have hh : s1.has (m : Int) := ⟨by omega, by omega⟩
                      refine ⟨?_, if_pos hh⟩
                      unfold SlabS.word
                      rw [if_pos hh, Int.toNat_natCast, getD_of hr]
                    have HK := Lib.hid hkw
                    have w0' := ho.w0
                    have w1' := ho.w1
                    have HB := Lib.hid (show busyB r = !decide (stW r.w = 0) from rfl)
                    clear hml hr hr' ho hu hu' hkw hu2
                    go_wp2_with fail
                    refine (DoesG.use (slabWord_c HK.out.1 HK.out.2 hg HS1.out.ok.n1) (HT.out) [0] rfl rfl).mono ?_
                    rintro e w1 ⟨gs, ⟨rfl, g2, hg2, rfl⟩, Ta⟩
                    simp only [putG, List.set_cons_zero, List.set_cons_succ, List.cons_append, List.nil_append, List.append_nil] at Ta
                    have HT := Lib.hid Ta
                    clear Ta
                    by_cases hst : stW r.w = 0
                    · have HZ := Lib.hid (show usedS (s1.recs.take (m + 1)) = u from by rw [HU.out, HB.out]; simp [hst])
                      go_wp2_with (go_at_call 18; refine (state_calls _ _ w0' w1').mono ?_; rw [hst]; rintro e w' ⟨rfl, rfl⟩)
                      first
                      | (go_roundw
                         case rel => exact ⟨m + 1, g2, by omega, by go_num, by rw [HZ.out], hg2, HT.out⟩
                         case measure => simp [intOf]; omega)
                      | exact ⟨⟨m + 1, g2, by omega, by go_num, by rw [HZ.out], hg2, HT.out⟩, by simp [intOf]; omega⟩
                      | ((repeat apply Exists.intro); exact ⟨⟨⟨m + 1, g2, by omega, by go_num, by rw [HZ.out], hg2, HT.out⟩, rfl⟩, by simp [intOf]; omega⟩)
                    · have HZ := Lib.hid (show usedS (s1.recs.take (m + 1)) = u + 1 from by rw [HU.out, HB.out]; simp [hst])
                      obtain ⟨st, hst'⟩ : ∃ st, stW r.w = st := ⟨_, rfl⟩
                      rw [hst'] at hst
                      have HS' := Lib.hid hst'
                      clear hst' HB
                      have b1 : (st != 0) = true := by simpa using hst
                      go_wp2_with (go_at_call 18; refine (state_calls _ _ w0' w1').mono ?_; rw [HS'.out]; rintro e w' ⟨rfl, rfl⟩)
                      first
                      | (go_roundw
                         case rel => exact ⟨m + 1, g2, by omega, by go_num, by rw [HZ.out]; go_num, hg2, HT.out⟩
                         case measure => simp [intOf]; omega)
                      | exact ⟨⟨m + 1, g2, by omega, by go_num, by rw [HZ.out]; go_num, hg2, HT.out⟩, by simp [intOf]; omega⟩
                      | ((repeat apply Exists.intro); exact ⟨⟨⟨m + 1, g2, by omega, by go_num, by rw [HZ.out]; go_num, hg2, HT.out⟩, rfl⟩, by simp [intOf]; omega⟩)
                  · obtain rfl : m = room := by omega
                    have hu : usedS (s1.recs.take m) = usedS s1.recs := by rw [List.take_of_length_le (by rw [HS1.out.len]; exact Nat.le_refl _)]
                    rw [hu]
                    have hc1 := HS1.out.used
                    have hc2 : s1.count ≤ (m : Int) := by have := HS1.out.ok.c1; have := HS1.out.len; omega
                    have hc3 : (usedS s1.recs : Int) ≤ s1.count := by omega
                    clear hu hc1
                    go_wp2_with fail
                    refine (DoesG.use (slabCount_g hg) (HT.out) [0] rfl rfl).mono ?_
                    rintro e w1 ⟨gs, ⟨rfl, g2, hg2, rfl⟩, Ta⟩
                    simp only [putG, List.set_cons_zero, List.set_cons_succ, List.cons_append, List.nil_append, List.append_nil] at Ta
                    have HT := Lib.hid Ta
                    clear Ta
                    go_wp2_with fail
                    refine (DoesG.use (slabCount_g hg2) (HT.out) [0] rfl rfl).mono ?_
                    rintro e w1 ⟨gs, ⟨rfl, g3, hg3, rfl⟩, Ta⟩
                    simp only [putG, List.set_cons_zero, List.set_cons_succ, List.cons_append, List.nil_append, List.append_nil] at Ta
                    have HT := Lib.hid Ta
                    clear Ta
                    go_wp2
                    first
                    | (go_roundw
                       case rel => exact ⟨k + 1, s1, rs1, m1, z1, g3, gr1, gm1, by omega, by go_num, HS1.out, HQ1.out, HM1.out, by omega, hg3, RR1.out, RM1.out, HT.out⟩
                       case measure => simp [intOf]; omega)
                    | exact ⟨⟨k + 1, s1, rs1, m1, z1, g3, gr1, gm1, by omega, by go_num, HS1.out, HQ1.out, HM1.out, by omega, hg3, RR1.out, RM1.out, HT.out⟩, by simp [intOf]; omega⟩
                    | ((repeat apply Exists.intro); exact ⟨⟨⟨k + 1, s1, rs1, m1, z1, g3, gr1, gm1, by omega, by go_num, HS1.out, HQ1.out, HM1.out, by omega, hg3, RR1.out, RM1.out, HT.out⟩, rfl⟩, by simp [intOf]; omega⟩)
    · go_wp2
      go_ret
      exact ⟨rfl, HT.out.bel⟩
end Go.Proofs.Ythcdpkgfphgkoaa
