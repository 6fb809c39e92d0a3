import Derived.Test.YtahpggnkifkkpaaSlabK0
import Derived.Test.YtahpggnkifkkpaaSlabK1
import Derived.Test.YtahpggnkifkkpaaSlabK2
import Derived.Test.YtahpggnkifkkpaaSlabK3
namespace Go.Proofs.Ytahpggnkifkkpaa
set_option linter.unusedVariables false
set_option linter.unusedSimpArgs false
open Go.RowKit Go.Shelf
set_option maxRecDepth 100000 in
set_option maxHeartbeats 8000000 in
theorem lawActs_big (n : Int) (a : Option Addr) (cap : Nat) (zs : List ActS) (id slot : Int) (w : World) (ha : SActsAt w a zs) (h9 : zs.length ≤ 9223372036854775807) (i0 : 0 ≤ id) (i1 : id < 18446744073709551616) (hbig : 200 < zs.length) :
    Calls Try.prog 7 #[.int .i64 n, .slice a zs.length cap, .int .u64 id, .int .i64 slot] w fun e w' => e = .returned (.bool true) ∧ Below w.heap.size w w' := by
  have HT := Lib.hid (TG.ofW (w := w))
  clear ha
  go_enter Try.func7, Try.ntmps7
  go_wp2_with fail
  refine (DoesG.use (alive_g) (HT.out) [] rfl rfl).mono ?_
  rintro e w1 ⟨gs, ⟨rfl, rfl⟩, Ta⟩
  simp only [putG, List.set_cons_zero, List.set_cons_succ, List.cons_append, List.nil_append, List.append_nil] at Ta
  have HT := Lib.hid Ta
  clear Ta
  go_wp2
  go_ret
  exact ⟨rfl, HT.out.bel⟩
set_option maxRecDepth 100000 in
set_option maxHeartbeats 8000000 in
theorem lawActs_no (n : Int) (a : Option Addr) (cap : Nat) (zs : List ActS) (id slot : Int) (w : World) (ha : SActsAt w a zs) (h9 : zs.length ≤ 9223372036854775807) (i0 : 0 ≤ id) (i1 : id < 18446744073709551616) (hbig : ¬ 200 < zs.length) (hn : ¬ (1 ≤ n ∧ n ≤ 64)) :
    Calls Try.prog 7 #[.int .i64 n, .slice a zs.length cap, .int .u64 id, .int .i64 slot] w fun e w' => e = .returned (.bool true) ∧ Below w.heap.size w w' := by
  have HT := Lib.hid (TG.ofW (w := w))
  clear ha
  go_enter Try.func7, Try.ntmps7
  go_wp2_with fail
  refine (DoesG.use (alive_g) (HT.out) [] rfl rfl).mono ?_
  rintro e w1 ⟨gs, ⟨rfl, rfl⟩, Ta⟩
  simp only [putG, List.set_cons_zero, List.set_cons_succ, List.cons_append, List.nil_append, List.append_nil] at Ta
  have HT := Lib.hid Ta
  clear Ta
  go_wp2_with fail
  refine (DoesG.use (slabNew_no n hn) (HT.out) [] rfl rfl).mono ?_
  rintro e w1 ⟨gs, ⟨rfl, rfl⟩, Ta⟩
  simp only [putG, List.set_cons_zero, List.set_cons_succ, List.cons_append, List.nil_append, List.append_nil] at Ta
  have HT := Lib.hid Ta
  clear Ta
  by_cases hn1 : n < 1
  · clear hn
    go_wp2
    go_ret
    exact ⟨rfl, HT.out.bel⟩
  · have hn2 : 64 < n := by omega
    clear hn
    go_wp2
    go_ret
    exact ⟨rfl, HT.out.bel⟩
set_option maxRecDepth 100000 in
set_option maxHeartbeats 8000000 in
theorem lawActs_main (n : Int) (a : Option Addr) (cap : Nat) (zs : List ActS) (id slot : Int) (w : World) (ha : SActsAt w a zs) (h9 : zs.length ≤ 9223372036854775807) (i0 : 0 ≤ id) (i1 : id < 18446744073709551616) (hbig : ¬ 200 < zs.length) (hn : 1 ≤ n ∧ n ≤ 64) :
    Calls Try.prog 7 #[.int .i64 n, .slice a zs.length cap, .int .u64 id, .int .i64 slot] w fun e w' => e = .returned (.bool true) ∧ Below w.heap.size w w' := by
  have HT := Lib.hid (TG.ofW (w := w))
  have HA := Lib.hid ha
  clear ha
  generalize hm : zs.length = m at *
  have HM := Lib.hid hm
  clear hm
  have hm200 : m ≤ 200 := by omega
  clear hbig
  obtain ⟨n, rfl⟩ := Int.eq_ofNat_of_zero_le (show 0 ≤ n by omega)
  obtain ⟨n1, n2⟩ := hn
  have n1' : 1 ≤ n := by omega
  have n2' : n ≤ 64 := by omega
  go_enter Try.func7, Try.ntmps7
  go_wp2_with fail
  refine (DoesG.use (alive_g) (HT.out) [] rfl rfl).mono ?_
  rintro e w1 ⟨gs, ⟨rfl, rfl⟩, Ta⟩
  simp only [putG, List.set_cons_zero, List.set_cons_succ, List.cons_append, List.nil_append, List.append_nil] at Ta
  have HT := Lib.hid Ta
  clear Ta
  go_wp2_with fail
  refine (DoesG.use (slabNew_at n n1' n2') (HT.out) [] rfl rfl).mono ?_
  rintro e w1 ⟨gs, ⟨sb, g0, rfl, hg0, rfl⟩, Ta⟩
  simp only [putG, List.set_cons_zero, List.set_cons_succ, List.cons_append, List.nil_append, List.append_nil] at Ta
  have HT := Lib.hid Ta
  clear Ta
  go_wp2_with fail
  refine (DoesG.use (refNew_g n n1' n2') (HT.out) [] rfl rfl).mono ?_
  rintro e w1 ⟨gs, ⟨vb, gV0, gL0, rfl, hV0, rfl⟩, Ta⟩
  simp only [putG, List.set_cons_zero, List.set_cons_succ, List.cons_append, List.nil_append, List.append_nil] at Ta
  have HT := Lib.hid Ta
  clear Ta
  have HR := Lib.hid (show SSt w sb vb n 0 (.slice none 0 0) w1 from ⟨newSlab n, [], g0, [], gV0, gL0, [], newSlab_ok n1' n2', by simp [newSlab], fun p hp => by (cases hp), Nat.le_refl _, hg0, hV0, rowG_nil _ _, HT.out.eq (by simp [famB])⟩)
  clear HT hg0 hV0
  go_wp2
  go_loopw [12, 13] (fun l i wr => ∃ k : Nat, k ≤ m ∧ i = .int .i64 k ∧ SSt w sb vb n k l wr) (fun _ i _ => m - (intOf i).toNat)
  case atStart => exact ⟨0, Nat.zero_le _, rfl, HR.out⟩
  case round =>
    obtain ⟨k, hk, rfl, s, rs, g, gr, gV, gL, gQ, hs, hsn, hq, hrl, hg, hV, rr, T⟩ := hrel
    obtain ⟨al, cl', rfl⟩ := rr.val
    have HS := Lib.hid hs
    have HSN := Lib.hid hsn
    have HQ := Lib.hid hq
    have HG := Lib.hid hg
    have HV := Lib.hid hV
    have RR := Lib.hid rr
    by_cases hlt : k < m
    · obtain ⟨b, off, ea, hb, ⟨kk, an, ev, old⟩, hz, hold, c0, c1, c2, c3⟩ := HA.out.cells (k := k) (by rw [HM.out]; exact hlt) T
      cases ea
      simp only at c0 c1 c2 c3 hold
      have HT := Lib.hid T
      have HO := Lib.hid hold
      clear T hs hsn hq hg hV rr hz HR hold
      go_upto_block 2 with fail
      have HT := Lib.hid (HT.out.alloc (k := wr.heap.size) rfl 57 (ActS.cells ⟨kk, an, ev, old⟩))
      simp only [ActS.cells, List.cons_append, List.nil_append] at HT
      generalize hbb : wr.heap.size = bb at *
      generalize hww : wr.alloc _ = w3 at *
      clear hbb hww c0 c1 c2 c3 hb
      have b0 := HT.out.cell 6 0 rfl
      go_cut [12] (fun l wx => SSt w sb vb n (k + 1) l wx)
      case first =>
        have hn64 : s.recs.length ≤ 64 := HS.out.n1
        by_cases k0 : kk = 0
        · subst k0
          refine acts_kind0 HS.out HSN.out HQ.out hrl (by omega) HG.out HV.out RR.out HO.out n1' n2' HT.out ?_
          intros
          go_wp2_with fail
          go_meet
          assumption
        by_cases k1 : kk = 1
        · subst k1
          refine acts_kind1 HS.out HSN.out HQ.out hrl (by omega) HG.out HV.out RR.out HO.out n1' n2' HT.out ?_
          intros
          go_wp2_with fail
          go_meet
          assumption
        by_cases k2 : kk = 2
        · subst k2
          refine acts_kind2 HS.out HSN.out HQ.out hrl (by omega) HG.out HV.out RR.out HO.out n1' n2' HT.out ?_
          intros
          go_wp2_with fail
          go_meet
          assumption
        by_cases k3 : kk = 3
        · subst k3
          refine acts_kind3 HS.out HSN.out HQ.out hrl (by omega) HG.out HV.out RR.out HO.out n1' n2' HT.out ?_
          intros
          go_wp2_with fail
          go_meet
          assumption
        · have z0 : (kk == 0) = false := beq_eq_false_iff_ne.2 k0
          have z1 : (kk == 1) = false := beq_eq_false_iff_ne.2 k1
          have z2 : (kk == 2) = false := beq_eq_false_iff_ne.2 k2
          have z3 : (kk == 3) = false := beq_eq_false_iff_ne.2 k3
          go_wp2_with fail
          go_meet
          exact ⟨s, rs, g, gr, gV, gL, gQ, HS.out, HSN.out, HQ.out, by omega, HG.out, HV.out, RR.out, HT.out.pick [0, 1, 2, 3, 4, 5] rfl⟩
      case rest =>
        obtain ⟨s, rs, g, gr, gV, gL, gQ, hs, hsn, hq, hrl, hg, hV, rr, T⟩ := hcut
        have HT := Lib.hid T
        have HR := Lib.hid rr
        have HQ := Lib.hid hq
        clear T b0 rr hq
        go_wp2_with fail
        refine (DoesG.use (same_g hg hV hs id i0 i1 slot) (HT.out) [0, 2, 3] rfl rfl).mono ?_
        rintro e w1 ⟨gs, ⟨rfl, g1, hg1, rfl⟩, Ta⟩
        simp only [putG, List.set_cons_zero, List.set_cons_succ, List.cons_append, List.nil_append, List.append_nil] at Ta
        have HT := Lib.hid Ta
        clear Ta
        go_wp2
        go_roundw
        case rel => exact ⟨k + 1, by omega, by go_num, s, rs, g1, gr, gV, gL, gQ, hs, hsn, HQ.out, hrl, hg1, hV, HR.out, HT.out⟩
        case measure => simp [intOf]; omega
    · have HT := Lib.hid T
      clear T hq
      go_wp2_with fail
      refine (DoesG.use (same_g hg hV hs id i0 i1 slot) (HT.out) [0, 2, 3] rfl rfl).mono ?_
      rintro e w1 ⟨gs, ⟨rfl, g1, hg1, rfl⟩, Ta⟩
      simp only [putG, List.set_cons_zero, List.set_cons_succ, List.cons_append, List.nil_append, List.append_nil] at Ta
      have HT := Lib.hid Ta
      clear Ta
      go_wp2
      go_ret
      exact ⟨rfl, HT.out.bel⟩
theorem lawActs_walk (n : Int) (a : Option Addr) (cap : Nat) (zs : List ActS) (id slot : Int) (w : World) (ha : SActsAt w a zs) (h9 : zs.length ≤ 9223372036854775807) (i0 : 0 ≤ id) (i1 : id < 18446744073709551616) :
    Calls Try.prog 7 #[.int .i64 n, .slice a zs.length cap, .int .u64 id, .int .i64 slot] w fun e w' => e = .returned (.bool true) ∧ Below w.heap.size w w' := by
  by_cases hbig : 200 < zs.length
  · exact lawActs_big n a cap zs id slot w ha h9 i0 i1 hbig
  by_cases hn : 1 ≤ n ∧ n ≤ 64
  · exact lawActs_main n a cap zs id slot w ha h9 i0 i1 hbig hn
  · exact lawActs_no n a cap zs id slot w ha h9 i0 i1 hbig hn
end Go.Proofs.Ytahpggnkifkkpaa
