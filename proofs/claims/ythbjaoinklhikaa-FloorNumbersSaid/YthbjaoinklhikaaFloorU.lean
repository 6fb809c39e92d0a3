import Derived.Test.YthbjaoinklhikaaFloorM
import Derived.Test.YthbjaoinklhikaaSlabL
namespace Go.Proofs.Ythbjaoinklhikaa
set_option linter.unusedVariables false
set_option linter.unusedSimpArgs false
open Go.RowKit Go.Shelf

/-! ## The greatest number that was given of a slot -/
theorem known_next {s : SlabS} {j k : Nat} {r : Rec} (hj : j < s.recs.length) (hn : s.recs.length ≤ 64) (hr : s.recs.getD j Rec.zero = r) : s.known ((k : Int) * 64 + j + 64) ↔ (k : Int) + 1 ≤ r.g := by
  have e1 : ((k : Int) * 64 + j + 64) % 64 = j := by omega
  have e2 : ((k : Int) * 64 + j + 64) / 64 = k + 1 := by omega
  unfold SlabS.known
  rw [e1, e2, Int.toNat_natCast, hr]
  constructor
  · exact fun h => h.2.2
  · exact fun h => ⟨by omega, by omega, h⟩
def numV (s : SlabS) (i : Int) : Int × Int :=
  if 0 ≤ i ∧ i < s.recs.length then let g := (s.recs.getD i.toNat Rec.zero).g; if g < 1 then (0, 6) else (g * 64 + i, 0) else (0, 4)
set_option maxRecDepth 100000 in
set_option maxHeartbeats 2000000 in
theorem floorNumber_g {fb : Nat} {p : FPtr} {f : FloorS} {tr : Value} {gF gS : List Blk} {s : SlabS} (hg : isFloor fb p f tr gF) (hS : isSlab p.sb s gS) (hc : f.cfg.cap = s.recs.length) (hn : s.recs.length ≤ 64) (hG : ∀ r ∈ s.recs, 0 ≤ r.g ∧ r.g ≤ 4294967295) (i : Int) :
    DoesG Try.prog 23 #[ptr' fb, .int .i64 i] [gF, gS] fun e gs => e = .returned (.tuple #[.int .u64 (numV s i).1, .int .i64 (numV s i).2]) ∧ ∃ gS', isSlab p.sb s gS' ∧ gs = [gF, gS'] := by
  obtain ⟨C, rfl, hC⟩ := hg
  intro w hw
  have T0 := TG.refl hw
  have HT := Lib.hid T0
  clear hw T0
  have c1 := (HT.out.cell 0 0 rfl 1).trans (hC.cfg 1 (by decide))
  have c6 := (HT.out.cell 0 0 rfl 6).trans hC.slab
  simp only [Cfg.cells, hc, List.getElem?_toArray, List.getElem?_cons_zero, List.getElem?_cons_succ] at c1
  have HS := Lib.hid hS
  have HN := Lib.hid hn
  have HC6 := Lib.hid hC.slab
  clear hS hC hc
  by_cases h0 : i < 0
  · have HV := Lib.hid (show numV s i = (0, 4) from if_neg (by omega))
    go_enter Try.func23, Try.ntmps23
    go_wp2
    go_ret2
    exact ⟨_, ⟨by rw [HV.out]; rfl, gS, HS.out, rfl⟩, HT.out⟩
  by_cases h1 : (s.recs.length : Int) ≤ i
  · have HV := Lib.hid (show numV s i = (0, 4) from if_neg (by omega))
    go_enter Try.func23, Try.ntmps23
    go_wp2
    go_ret2
    exact ⟨_, ⟨by rw [HV.out]; rfl, gS, HS.out, rfl⟩, HT.out⟩
  obtain ⟨j, rfl⟩ := Int.eq_ofNat_of_zero_le (show 0 ≤ i by omega)
  have hj : j < s.recs.length := by omega
  obtain ⟨r, hr⟩ : ∃ r, s.recs.getD j Rec.zero = r := ⟨_, rfl⟩
  have hmem : r ∈ s.recs := by rw [← hr, List.getD_eq_getElem?_getD, List.getElem?_eq_getElem hj]; exact List.getElem_mem hj
  obtain ⟨g0, g1⟩ := hG r hmem
  obtain ⟨gn, hgn⟩ := Int.eq_ofNat_of_zero_le g0
  have HV := Lib.hid (show numV s j = if r.g < 1 then (0, 6) else (r.g * 64 + j, 0) by unfold numV; rw [if_pos ⟨by omega, by omega⟩, Int.toNat_natCast, hr])
  have HK := Lib.hid (fun k : Nat => known_next (k := k) hj hn hr)
  rw [hgn] at HV HK
  have hgb : gn ≤ 4294967295 := by omega
  have hj64 : j < 64 := by omega
  clear hr hmem hgn hG h0 hn g0 g1
  go_enter Try.func23, Try.ntmps23
  go_wp2_with fail
  go_loopw [6] (fun v wr => ∃ k : Nat, k ≤ gn ∧ v = .int .u64 ((k : Int) * 64 + j) ∧ ∃ gS', isSlab p.sb s gS' ∧ TG [[cl fb 107 C], gS] w [[cl fb 107 C], gS'] wr) (fun v _ => gn * 64 + j - (intOf v).toNat)
  case atStart => exact ⟨0, Nat.zero_le _, by simp, gS, HS.out, HT.out⟩
  case round =>
    obtain ⟨k, hk, rfl, gS1, hS1, T⟩ := hrel
    have HT := Lib.hid T
    have c6 := (HT.out.cell 0 0 rfl 6).trans HC6.out
    clear T
    have b0 : (0 : Int) ≤ (k : Int) * 64 + j + 64 := by omega
    have b1 : (k : Int) * 64 + j + 64 < 18446744073709551616 := by omega
    by_cases hlt : k < gn
    · have HX := Lib.hid (show s.serr ((k : Int) * 64 + j + 64) = 0 from if_pos ((HK.out k).2 (by omega)))
      obtain ⟨y, hy⟩ : ∃ y, s.slot ((k : Int) * 64 + j + 64) = y := ⟨_, rfl⟩
      have HY := Lib.hid hy
      clear hy
      go_wp2_with fail
      refine (DoesG.use (slabSlot_c HY.out HX.out hS1 HN.out b0 b1) (HT.out) [1] rfl rfl).mono ?_
      rintro e w1 ⟨gs, ⟨rfl, gS2, hS2, rfl⟩, Ta⟩
      simp only [putG, List.set_cons_zero, List.set_cons_succ, List.cons_append, List.nil_append, List.append_nil] at Ta
      have HT := Lib.hid Ta
      clear Ta
      go_wp2
      go_roundw
      case rel => exact ⟨k + 1, by omega, congrArg (Value.int .u64) (by omega), gS2, hS2, HT.out⟩
      case measure => simp [intOf]; omega
    · obtain rfl : k = gn := by omega
      have HX := Lib.hid (show s.serr ((k : Int) * 64 + j + 64) = 1 from if_neg (fun h => by have := (HK.out k).1 h; omega))
      obtain ⟨y, hy⟩ : ∃ y, s.slot ((k : Int) * 64 + j + 64) = y := ⟨_, rfl⟩
      have HY := Lib.hid hy
      clear hy
      by_cases hz : k = 0
      · subst hz
        have e0 : (((0 : Nat) : Int) * 64 + j + 64) = (j : Int) + 64 := by omega
        rw [e0] at HX HY b0 b1
        clear e0
        go_wp2_with fail
        refine (DoesG.use (slabSlot_c HY.out HX.out hS1 HN.out b0 b1) (HT.out) [1] rfl rfl).mono ?_
        rintro e w1 ⟨gs, ⟨rfl, gS2, hS2, rfl⟩, Ta⟩
        simp only [putG, List.set_cons_zero, List.set_cons_succ, List.cons_append, List.nil_append, List.append_nil] at Ta
        have HT := Lib.hid Ta
        clear Ta
        have z : (j : Int) < 64 := by omega
        go_wp2
        go_ret2
        exact ⟨_, ⟨by rw [HV.out]; rfl, gS2, hS2, rfl⟩, HT.out⟩
      · go_wp2_with fail
        refine (DoesG.use (slabSlot_c HY.out HX.out hS1 HN.out b0 b1) (HT.out) [1] rfl rfl).mono ?_
        rintro e w1 ⟨gs, ⟨rfl, gS2, hS2, rfl⟩, Ta⟩
        simp only [putG, List.set_cons_zero, List.set_cons_succ, List.cons_append, List.nil_append, List.append_nil] at Ta
        have HT := Lib.hid Ta
        clear Ta
        have HV2 := Lib.hid (HV.out.trans (if_neg (by omega)))
        have z : ¬ ((k : Int) * 64 + j) < 64 := by omega
        clear b0 b1 hz hlt hk
        go_wp2
        go_ret2
        exact ⟨_, ⟨by rw [HV2.out]; rfl, gS2, hS2, rfl⟩, HT.out⟩
end Go.Proofs.Ythbjaoinklhikaa
