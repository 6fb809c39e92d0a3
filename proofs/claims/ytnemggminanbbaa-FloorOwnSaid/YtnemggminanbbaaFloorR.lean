import Derived.Test.YtnemggminanbbaaFloorL
import Derived.Test.YtnemggminanbbaaReads
namespace Go.Proofs.Ytnemggminanbbaa
set_option linter.unusedVariables false
set_option linter.unusedSimpArgs false
open Go.RowKit Go.Shelf

theorem floorShard_r {fb : Nat} {p : FPtr} {f : FloorS} {tr : Value} {g : List Blk} {shs : List Nat} {gR : List Blk} (hg : isFloor fb p f tr g) (hr : rowG 73 1 p.sh shs.length (shs.map fun x => ptr' x) gR) (i : Int) : ReadsG Try.prog 43 #[ptr' fb, .int .i64 i] [g, gR] (shardV shs i) := by
  obtain ⟨C, rfl, hc⟩ := hg
  by_cases h0 : 0 ≤ i
  · obtain ⟨k, rfl⟩ := Int.eq_ofNat_of_zero_le h0
    by_cases hk : k < shs.length
    · have hget := List.getElem?_eq_getElem hk
      obtain ⟨x, hx⟩ : ∃ x, shs[k] = x := ⟨_, rfl⟩
      rw [hx] at hget
      have hi : (shs.map fun x => ptr' x)[k]? = some (ptr' x) := by rw [List.getElem?_map, hget]; rfl
      obtain ⟨b, cap, cur, hv, rfl, hcu, _⟩ := row_at hr hi
      have HV := Lib.hid (show shardV shs k = ptr' x from by
        unfold shardV
        rw [if_pos ⟨h0, by omega⟩, Int.toNat_natCast, List.getD_eq_getElem?_getD, hget]; rfl)
      have hsh := hc.sh
      rw [hv] at hsh
      intro w hw
      have T0 := TG.refl hw
      have HT := Lib.hid T0
      clear hw T0
      have c0 := (HT.out.cell 0 0 rfl 7).trans hsh
      have c1 := (HT.out.cell 1 0 rfl k).trans hcu
      clear hc hr hget hi hv hsh hcu hx
      go_enter Try.func43, Try.ntmps43
      go_wp2
      go_ret
      first | exact ⟨by rw [HV.out]; rfl, 0, rfl⟩ | exact ⟨by rw [HV.out]; rfl, _, rfl⟩
    · have HV := Lib.hid (show shardV shs k = .pointer none from if_neg (by omega))
      obtain ⟨a, cap, hv⟩ := hr.val
      have hsh := hc.sh
      rw [hv] at hsh
      intro w hw
      have T0 := TG.refl hw
      have HT := Lib.hid T0
      clear hw T0
      have c0 := (HT.out.cell 0 0 rfl 7).trans hsh
      clear hc hr hv hsh
      go_enter Try.func43, Try.ntmps43
      go_wp2
      go_ret
      first | exact ⟨by rw [HV.out]; rfl, 0, rfl⟩ | exact ⟨by rw [HV.out]; rfl, _, rfl⟩
  · have HV := Lib.hid (show shardV shs i = .pointer none from if_neg (by omega))
    intro w hw
    have T0 := TG.refl hw
    have HT := Lib.hid T0
    clear hw T0
    clear hc hr
    go_enter Try.func43, Try.ntmps43
    go_wp2
    go_ret
    first | exact ⟨by rw [HV.out]; rfl, 0, rfl⟩ | exact ⟨by rw [HV.out]; rfl, _, rfl⟩
theorem floorHome_r {fb : Nat} {p : FPtr} {f : FloorS} {tr : Value} {g : List Blk} {shs : List Nat} {gR : List Blk} (hg : isFloor fb p f tr g) (hr : rowG 73 1 p.sh shs.length (shs.map fun x => ptr' x) gR) (hn : 1 ≤ shs.length) (i : Int) : ReadsG Try.prog 27 #[ptr' fb, .int .i64 i] [g, gR] (homeV shs i) := by
  by_cases h0 : 0 ≤ i
  · have hs := floorShard_r hg hr (i % shs.length)
    have hm0 : 0 ≤ i % (shs.length : Int) := Int.emod_nonneg _ (by omega)
    have hm1 : i % (shs.length : Int) < shs.length := Int.emod_lt_of_pos _ (by omega)
    obtain ⟨x, hx⟩ : ∃ x, ptr' (shs.getD (i % shs.length).toNat 0) = x := ⟨_, rfl⟩
    have HV := Lib.hid (show homeV shs i = x from (if_pos h0).trans hx)
    rw [show shardV shs (i % shs.length) = x from (if_pos ⟨hm0, hm1⟩).trans hx] at hs
    have HS := Lib.hid hs
    obtain ⟨C, rfl, hc⟩ := hg
    obtain ⟨a, cap, hv⟩ := hr.val
    have hsh := hc.sh
    rw [hv] at hsh
    intro w hw
    have T0 := TG.refl hw
    have HT := Lib.hid T0
    clear hw T0
    have c0 := (HT.out.cell 0 0 rfl 7).trans hsh
    clear hc hr hv hsh hs hm0 hm1 hx
    go_enter Try.func27, Try.ntmps27
    go_wp2_with fail
    refine (ReadsG.use (HS.out) (HT.out) [0, 1] rfl rfl).mono ?_
    rintro e w1 ⟨rfl, mq, rfl⟩
    go_wp2
    go_ret
    first | exact ⟨by rw [HV.out]; rfl, 0, rfl⟩ | exact ⟨by rw [HV.out]; rfl, _, rfl⟩
  · have HV := Lib.hid (show homeV shs i = .pointer none from if_neg h0)
    intro w hw
    have T0 := TG.refl hw
    have HT := Lib.hid T0
    clear hw T0
    clear hg hr
    go_enter Try.func27, Try.ntmps27
    go_wp2
    go_ret
    first | exact ⟨by rw [HV.out]; rfl, 0, rfl⟩ | exact ⟨by rw [HV.out]; rfl, _, rfl⟩
end Go.Proofs.Ytnemggminanbbaa
