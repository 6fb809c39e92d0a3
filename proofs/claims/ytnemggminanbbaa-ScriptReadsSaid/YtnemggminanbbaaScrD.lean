import Derived.Test.YtnemggminanbbaaScrC
namespace Go.Proofs.Ytnemggminanbbaa
set_option linter.unusedVariables false
set_option linter.unusedSimpArgs false
open Go.RowKit

set_option maxRecDepth 100000 in
set_option maxHeartbeats 2000000 in
theorem read_one (a : Option Addr) (cap : Nat) (zs : List Int) (w : World) (hl : ¬ zs.length < 6) (hu : zs.length ≤ 1000000) (hb : Bytes w a zs) (h1 : zs.getD 0 0 = 1) :
    Calls Try.prog 42 #[.slice a zs.length cap] w (RetEnt (readE zs) w) := by
  have hr : readE zs = if (tryE zs).ok = true ∧ (tryE zs).bytes = zs then tryE zs else Ent.zero := if_neg hl
  have ht : tryE zs = ⟨1, zs.getD 1 0, zs.getD 2 0, zs.getD 3 0, zs.getD 4 0, zs.getD 5 0⟩ := if_pos h1
  obtain ⟨b, off, rfl, hlt, hc⟩ := hb.cells' (i := 0) (by omega)
  have hlt1 : b < w.heap.size + 1 := by omega
  have hlt2 : b < w.heap.size + 2 := by omega
  have hlt3 : b < w.heap.size + 1 + 1 := by omega
  have c0 := hc 0 (by omega)
  have c1 := hc 1 (by omega)
  have c2 := hc 2 (by omega)
  have c3 := hc 3 (by omega)
  have c4 := hc 4 (by omega)
  have c5 := hc 5 (by omega)
  rw [h1] at c0
  have b1 := hb.byte 1
  have b2 := hb.byte 2
  have b3 := hb.byte 3
  have b4 := hb.byte 4
  have b5 := hb.byte 5
  have HB := Lib.hid hb; clear hb
  generalize zs.getD 1 0 = z1 at *
  generalize zs.getD 2 0 = z2 at *
  generalize zs.getD 3 0 = z3 at *
  generalize zs.getD 4 0 = z4 at *
  generalize zs.getD 5 0 = z5 at *
  have HR := Lib.hid hr; clear hr
  have HT := Lib.hid ht; clear ht
  clear hc h1
  have hl' : ¬ ((zs.length : Int) < 6) := by omega
  clear hl
  obtain ⟨p1, q1⟩ := b1
  obtain ⟨p2, q2⟩ := b2
  obtain ⟨p3, q3⟩ := b3
  obtain ⟨p4, q4⟩ := b4
  obtain ⟨p5, q5⟩ := b5
  simp only [Nat.add_zero] at c0
  cases hok : Ent.ok ⟨1, z1, z2, z3, z4, z5⟩
  · have hfin : readE zs = Ent.zero := by rw [HR.out, HT.out, hok]; simp
    have HF := Lib.hid hfin; clear hfin
    go_enter Try.func42, Try.ntmps42
    go_wp2
    go_region
    go_wp2
    go_region
    go_wp2_with fail
    refine (scrOk_calls _ _ _ _ _ _ _).mono ?_
    rw [hok]
    rintro e w1 ⟨rfl, hg⟩
    have hz := hg.size
    simp only [World.size_alloc, size_drew] at hz
    have hk := hg.blk (B := w.heap.size) (show _ = _ from alloc_old (alloc_new _ rfl) _) (fun x => x)
    have hkc := blk_cell hk
    have hkf := blk_free hk
    go_wp2
    refine bodyPost_ret (v := Ent.zero.val) (ret34 rfl rfl (put6_cells hkc _ _ _ _ _ _)) rfl ⟨by rw [HF.out], ?_⟩
    refine Only.of_new (b := w1) (put6_only _ _ _ _ _ _ _ _) ?_ (fun i h => by omega)
    exact Only.trans (((((Only.refl _ w).alloc _).alloc _).drew).drew) hg
  · by_cases hby : Ent.bytes ⟨1, z1, z2, z3, z4, z5⟩ = zs
    · have hfin : readE zs = ⟨1, z1, z2, z3, z4, z5⟩ := by rw [HR.out, HT.out]; exact if_pos ⟨hok, hby⟩
      have HF := Lib.hid hfin; clear hfin
      have hd : decide (Ent.bytes ⟨1, z1, z2, z3, z4, z5⟩ = zs) = true := by simpa using hby
      have HBY := Lib.hid hby; clear hby
      go_enter Try.func42, Try.ntmps42
      go_wp2
      go_region
      go_wp2
      go_region
      go_wp2_with fail
      refine (scrOk_calls _ _ _ _ _ _ _).mono ?_
      rw [hok]
      rintro e w1 ⟨rfl, hg⟩
      have hz := hg.size
      simp only [World.size_alloc, size_drew] at hz
      have hk := hg.blk (B := w.heap.size) (show _ = _ from alloc_old (alloc_new _ rfl) _) (fun x => x)
      have hk2 := hg.blk (B := w.heap.size + 1) (show _ = _ from alloc_new _ (by simp)) (fun x => x)
      have hkc := blk_cell hk2
      have hkf := blk_free hk2
      have hg0 := Only.trans (((((Only.refl _ w).alloc _).alloc _).drew).drew) hg
      clear hg
      have HB1 := Lib.hid (HB.out.grew hg0)
      go_wp2_with fail
      refine (scrWrite_calls _ _ _ _ _ _ _).mono ?_
      rintro e w2 ⟨rfl, hw2, hg2⟩
      have heq := fun c => equal_calls (some ⟨w1.heap.size + 1, 0, none⟩) (some ⟨b, off, none⟩) 6 c _ zs w2 (Bytes.new (Ent.bytes_range _) hw2) (HB1.out.grew hg2) (by rw [Ent.bytes_length]; omega) hu
      simp only [Ent.bytes_length, hd] at heq
      have hz2 := hg2.size
      have hm := hg2.blk hk (fun x => x)
      have hm2 := hg2.blk hk2 (fun x => x)
      have hg1 := Only.trans hg0 hg2
      clear hkc hkf hk hk2 hg2 hg0 hw2 HB1
      have HQ := Lib.hid heq; clear heq
      go_wp2_with fail
      refine (HQ.out _).mono ?_
      rintro e w3 ⟨rfl, hg3⟩
      have hz3 := hg3.size
      have hk := hg3.blk hm (fun x => x)
      have hk2 := hg3.blk hm2 (fun x => x)
      have hkc := blk_cell hk
      have hkf := blk_free hk
      have hkc2 := blk_cell hk2
      have hg4 := Only.trans hg1 hg3
      clear hg1 hg3 HQ hm hm2
      go_wp2
      refine bodyPost_ret (v := Ent.val ⟨1, z1, z2, z3, z4, z5⟩) (ret34 rfl rfl (put6_cells hkc _ _ _ _ _ _)) rfl ⟨by rw [HF.out], ?_⟩
      exact Only.of_new (b := w3) (put6_only _ _ _ _ _ _ _ _) hg4 (fun i h => by omega)
    · have hfin : readE zs = Ent.zero := by rw [HR.out, HT.out]; exact if_neg (fun h => hby h.2)
      have HF := Lib.hid hfin; clear hfin
      have hd : decide (Ent.bytes ⟨1, z1, z2, z3, z4, z5⟩ = zs) = false := by simpa using hby
      have HBY := Lib.hid hby; clear hby
      go_enter Try.func42, Try.ntmps42
      go_wp2
      go_region
      go_wp2
      go_region
      go_wp2_with fail
      refine (scrOk_calls _ _ _ _ _ _ _).mono ?_
      rw [hok]
      rintro e w1 ⟨rfl, hg⟩
      have hz := hg.size
      simp only [World.size_alloc, size_drew] at hz
      have hk := hg.blk (B := w.heap.size) (show _ = _ from alloc_old (alloc_new _ rfl) _) (fun x => x)
      have hk2 := hg.blk (B := w.heap.size + 1) (show _ = _ from alloc_new _ (by simp)) (fun x => x)
      have hkc := blk_cell hk2
      have hkf := blk_free hk2
      have hg0 := Only.trans (((((Only.refl _ w).alloc _).alloc _).drew).drew) hg
      clear hg
      have HB1 := Lib.hid (HB.out.grew hg0)
      go_wp2_with fail
      refine (scrWrite_calls _ _ _ _ _ _ _).mono ?_
      rintro e w2 ⟨rfl, hw2, hg2⟩
      have heq := fun c => equal_calls (some ⟨w1.heap.size + 1, 0, none⟩) (some ⟨b, off, none⟩) 6 c _ zs w2 (Bytes.new (Ent.bytes_range _) hw2) (HB1.out.grew hg2) (by rw [Ent.bytes_length]; omega) hu
      simp only [Ent.bytes_length, hd] at heq
      have hz2 := hg2.size
      have hm := hg2.blk hk (fun x => x)
      have hm2 := hg2.blk hk2 (fun x => x)
      have hg1 := Only.trans hg0 hg2
      clear hkc hkf hk hk2 hg2 hg0 hw2 HB1
      have HQ := Lib.hid heq; clear heq
      go_wp2_with fail
      refine (HQ.out _).mono ?_
      rintro e w3 ⟨rfl, hg3⟩
      have hz3 := hg3.size
      have hk := hg3.blk hm (fun x => x)
      have hk2 := hg3.blk hm2 (fun x => x)
      have hkc := blk_cell hk
      have hkf := blk_free hk
      have hkc2 := blk_cell hk2
      have hg4 := Only.trans hg1 hg3
      clear hg1 hg3 HQ hm hm2
      go_wp2
      refine bodyPost_ret (v := Ent.zero.val) (ret34 rfl rfl (put6_cells hkc _ _ _ _ _ _)) rfl ⟨by rw [HF.out], ?_⟩
      exact Only.of_new (b := w3) (put6_only _ _ _ _ _ _ _ _) hg4 (fun i h => by omega)

set_option maxRecDepth 100000 in
set_option maxHeartbeats 2000000 in
theorem read_other (a : Option Addr) (cap : Nat) (zs : List Int) (w : World) (hl : ¬ zs.length < 6) (hu : zs.length ≤ 1000000) (hb : Bytes w a zs) (h1 : ¬ zs.getD 0 0 = 1) :
    Calls Try.prog 42 #[.slice a zs.length cap] w (RetEnt (readE zs) w) := by
  have hr : readE zs = if (tryE zs).ok = true ∧ (tryE zs).bytes = zs then tryE zs else Ent.zero := if_neg hl
  have ht : tryE zs = ⟨zs.getD 0 0, zs.getD 1 0, 0, 0, 0, 0⟩ := if_neg h1
  obtain ⟨b, off, rfl, hlt, hc⟩ := hb.cells' (i := 0) (by omega)
  have hlt1 : b < w.heap.size + 1 := by omega
  have hlt2 : b < w.heap.size + 2 := by omega
  have hlt3 : b < w.heap.size + 1 + 1 := by omega
  have c0 := hc 0 (by omega)
  have c1 := hc 1 (by omega)
  have b0 := hb.byte 0
  have b1 := hb.byte 1
  have HB := Lib.hid hb; clear hb
  generalize zs.getD 0 0 = z0 at *
  generalize zs.getD 1 0 = z1 at *
  have HR := Lib.hid hr; clear hr
  have HT := Lib.hid ht; clear ht
  have h1' : (z0 == 1) = false := by simpa using h1
  clear hc h1
  have hl' : ¬ ((zs.length : Int) < 6) := by omega
  clear hl
  obtain ⟨p0, q0⟩ := b0
  obtain ⟨p1, q1⟩ := b1
  simp only [Nat.add_zero] at c0
  cases hok : Ent.ok ⟨z0, z1, 0, 0, 0, 0⟩
  · have hfin : readE zs = Ent.zero := by rw [HR.out, HT.out, hok]; simp
    have HF := Lib.hid hfin; clear hfin
    go_enter Try.func42, Try.ntmps42
    go_wp2
    go_region
    go_wp2_with fail
    refine (scrOk_calls _ _ _ _ _ _ _).mono ?_
    rw [hok]
    rintro e w1 ⟨rfl, hg⟩
    have hz := hg.size
    simp only [World.size_alloc, size_drew] at hz
    have hk := hg.blk (B := w.heap.size) (show _ = _ from alloc_old (alloc_new _ rfl) _) (fun x => x)
    have hkc := blk_cell hk
    have hkf := blk_free hk
    go_wp2
    refine bodyPost_ret (v := Ent.zero.val) (ret34 rfl rfl (put6_cells hkc _ _ _ _ _ _)) rfl ⟨by rw [HF.out], ?_⟩
    refine Only.of_new (b := w1) (put6_only _ _ _ _ _ _ _ _) ?_ (fun i h => by omega)
    exact Only.trans ((((Only.refl _ w).alloc _).alloc _).drew) hg
  · by_cases hby : Ent.bytes ⟨z0, z1, 0, 0, 0, 0⟩ = zs
    · have hfin : readE zs = ⟨z0, z1, 0, 0, 0, 0⟩ := by rw [HR.out, HT.out]; exact if_pos ⟨hok, hby⟩
      have HF := Lib.hid hfin; clear hfin
      have hd : decide (Ent.bytes ⟨z0, z1, 0, 0, 0, 0⟩ = zs) = true := by simpa using hby
      have HBY := Lib.hid hby; clear hby
      go_enter Try.func42, Try.ntmps42
      go_wp2
      go_region
      go_wp2_with fail
      refine (scrOk_calls _ _ _ _ _ _ _).mono ?_
      rw [hok]
      rintro e w1 ⟨rfl, hg⟩
      have hz := hg.size
      simp only [World.size_alloc, size_drew] at hz
      have hk := hg.blk (B := w.heap.size) (show _ = _ from alloc_old (alloc_new _ rfl) _) (fun x => x)
      have hk2 := hg.blk (B := w.heap.size + 1) (show _ = _ from alloc_new _ (by simp)) (fun x => x)
      have hkc := blk_cell hk2
      have hkf := blk_free hk2
      have hg0 := Only.trans ((((Only.refl _ w).alloc _).alloc _).drew) hg
      clear hg
      have HB1 := Lib.hid (HB.out.grew hg0)
      go_wp2_with fail
      refine (scrWrite_calls _ _ _ _ _ _ _).mono ?_
      rintro e w2 ⟨rfl, hw2, hg2⟩
      have heq := fun c => equal_calls (some ⟨w1.heap.size + 1, 0, none⟩) (some ⟨b, off, none⟩) 6 c _ zs w2 (Bytes.new (Ent.bytes_range _) hw2) (HB1.out.grew hg2) (by rw [Ent.bytes_length]; omega) hu
      simp only [Ent.bytes_length, hd] at heq
      have hz2 := hg2.size
      have hm := hg2.blk hk (fun x => x)
      have hm2 := hg2.blk hk2 (fun x => x)
      have hg1 := Only.trans hg0 hg2
      clear hkc hkf hk hk2 hg2 hg0 hw2 HB1
      have HQ := Lib.hid heq; clear heq
      go_wp2_with fail
      refine (HQ.out _).mono ?_
      rintro e w3 ⟨rfl, hg3⟩
      have hz3 := hg3.size
      have hk := hg3.blk hm (fun x => x)
      have hk2 := hg3.blk hm2 (fun x => x)
      have hkc := blk_cell hk
      have hkf := blk_free hk
      have hkc2 := blk_cell hk2
      have hg4 := Only.trans hg1 hg3
      clear hg1 hg3 HQ hm hm2
      go_wp2
      refine bodyPost_ret (v := Ent.val ⟨z0, z1, 0, 0, 0, 0⟩) (ret34 rfl rfl (put6_cells hkc _ _ _ _ _ _)) rfl ⟨by rw [HF.out], ?_⟩
      exact Only.of_new (b := w3) (put6_only _ _ _ _ _ _ _ _) hg4 (fun i h => by omega)
    · have hfin : readE zs = Ent.zero := by rw [HR.out, HT.out]; exact if_neg (fun h => hby h.2)
      have HF := Lib.hid hfin; clear hfin
      have hd : decide (Ent.bytes ⟨z0, z1, 0, 0, 0, 0⟩ = zs) = false := by simpa using hby
      have HBY := Lib.hid hby; clear hby
      go_enter Try.func42, Try.ntmps42
      go_wp2
      go_region
      go_wp2_with fail
      refine (scrOk_calls _ _ _ _ _ _ _).mono ?_
      rw [hok]
      rintro e w1 ⟨rfl, hg⟩
      have hz := hg.size
      simp only [World.size_alloc, size_drew] at hz
      have hk := hg.blk (B := w.heap.size) (show _ = _ from alloc_old (alloc_new _ rfl) _) (fun x => x)
      have hk2 := hg.blk (B := w.heap.size + 1) (show _ = _ from alloc_new _ (by simp)) (fun x => x)
      have hkc := blk_cell hk2
      have hkf := blk_free hk2
      have hg0 := Only.trans ((((Only.refl _ w).alloc _).alloc _).drew) hg
      clear hg
      have HB1 := Lib.hid (HB.out.grew hg0)
      go_wp2_with fail
      refine (scrWrite_calls _ _ _ _ _ _ _).mono ?_
      rintro e w2 ⟨rfl, hw2, hg2⟩
      have heq := fun c => equal_calls (some ⟨w1.heap.size + 1, 0, none⟩) (some ⟨b, off, none⟩) 6 c _ zs w2 (Bytes.new (Ent.bytes_range _) hw2) (HB1.out.grew hg2) (by rw [Ent.bytes_length]; omega) hu
      simp only [Ent.bytes_length, hd] at heq
      have hz2 := hg2.size
      have hm := hg2.blk hk (fun x => x)
      have hm2 := hg2.blk hk2 (fun x => x)
      have hg1 := Only.trans hg0 hg2
      clear hkc hkf hk hk2 hg2 hg0 hw2 HB1
      have HQ := Lib.hid heq; clear heq
      go_wp2_with fail
      refine (HQ.out _).mono ?_
      rintro e w3 ⟨rfl, hg3⟩
      have hz3 := hg3.size
      have hk := hg3.blk hm (fun x => x)
      have hk2 := hg3.blk hm2 (fun x => x)
      have hkc := blk_cell hk
      have hkf := blk_free hk
      have hkc2 := blk_cell hk2
      have hg4 := Only.trans hg1 hg3
      clear hg1 hg3 HQ hm hm2
      go_wp2
      refine bodyPost_ret (v := Ent.zero.val) (ret34 rfl rfl (put6_cells hkc _ _ _ _ _ _)) rfl ⟨by rw [HF.out], ?_⟩
      exact Only.of_new (b := w3) (put6_only _ _ _ _ _ _ _ _) hg4 (fun i h => by omega)

theorem read_calls (a : Option Addr) (cap : Nat) (zs : List Int) (w : World) (hu : zs.length ≤ 1000000) (hb : Bytes w a zs) :
    Calls Try.prog 42 #[.slice a zs.length cap] w (RetEnt (readE zs) w) := by
  by_cases hl : zs.length < 6
  · exact read_short a cap zs w hl
  · by_cases h1 : zs.getD 0 0 = 1
    · exact read_one a cap zs w hl hu hb h1
    · exact read_other a cap zs w hl hu hb h1
end Go.Proofs.Ytnemggminanbbaa
