import Derived.Test.YtmakficmfgkngaaFloorD
import Derived.Test.YtmakficmfgkngaaFloorL
import Derived.Deep.RegionHeld3
namespace Go.Proofs.Ytmakficmfgkngaa
set_option linter.unusedVariables false
set_option linter.unusedSimpArgs false
open Go.RowKit Go.Shelf

/-- acts that came in -/
def ActsAt (w : World) (a : Option Addr) (zs : List ActF) : Prop :=
  zs = [] ∨ ∃ b off, a = some ⟨b, off, none⟩ ∧ b < w.heap.size ∧ ∀ i j, i < zs.length → j < 12 → w.cell? ⟨b, off + (i * 12 + j), none⟩ = (zs.getD i ActF.zero).cells[j]?
theorem ActsAt.cells {w : World} {a : Option Addr} {zs : List ActF} (h : ActsAt w a zs) {k : Nat} (hk : k < zs.length) {H : GH} {w' : World} (T : TG [] w H w') :
    ∃ b off, a = some ⟨b, off, none⟩ ∧ b < w.heap.size ∧ ∃ z, zs.getD k ActF.zero = z ∧
    w'.cell? ⟨b, off + k * 12, none⟩ = some (.int .i64 z.kind) ∧ w'.cell? ⟨b, off + k * 12 + 1, none⟩ = some (.bool z.on) ∧
    w'.cell? ⟨b, off + k * 12 + 2, none⟩ = some (.int .i64 z.e.kind) ∧ w'.cell? ⟨b, off + k * 12 + 3, none⟩ = some (.int .i64 z.e.thread) ∧ w'.cell? ⟨b, off + k * 12 + 4, none⟩ = some (.int .i64 z.e.call) ∧ w'.cell? ⟨b, off + k * 12 + 5, none⟩ = some (.int .i64 z.e.what) ∧
    w'.cell? ⟨b, off + k * 12 + 6, none⟩ = some (.int .u64 z.e.id) ∧ w'.cell? ⟨b, off + k * 12 + 7, none⟩ = some (.int .u64 z.e.gen) ∧ w'.cell? ⟨b, off + k * 12 + 8, none⟩ = some (.int .u64 z.e.dl) ∧ w'.cell? ⟨b, off + k * 12 + 9, none⟩ = some (.int .u64 z.e.per) ∧ w'.cell? ⟨b, off + k * 12 + 10, none⟩ = some (.int .u64 z.e.tick) ∧ w'.cell? ⟨b, off + k * 12 + 11, none⟩ = some (.int .i64 z.e.err) := by
  rcases h with rfl | ⟨b, off, h1, h2, h3⟩
  · simp at hk
  · have hh := fun j (hj : j < 12) => (T.old (p := ⟨b, off + (k * 12 + j), none⟩) h2).trans (h3 k j hk hj)
    simp only [← Nat.add_assoc] at hh
    exact ⟨b, off, h1, h2, _, rfl, hh 0 (by omega), hh 1 (by omega), hh 2 (by omega), hh 3 (by omega), hh 4 (by omega), hh 5 (by omega), hh 6 (by omega), hh 7 (by omega), hh 8 (by omega), hh 9 (by omega), hh 10 (by omega), hh 11 (by omega)⟩
def flOf (c : Cfg) (s : CntS) : FloorS := ⟨c, s.closed, s.inside, s.busy, s.now⟩
def cnt0 : CntS := ⟨0, 0, false, 0, []⟩
theorem cnt0_ok : CntOk cnt0 0 := ⟨by decide, by decide, by decide, by decide, by decide, by decide, by decide⟩
/-- a floor and the document's stand alike -/
structure ActsRel (w : World) (fb : Nat) (p : FPtr) (c : Cfg) (vb : Nat) (s : CntS) (gF gT gV gT2 : List Blk) (rest : GH) (w' : World) : Prop where
  fl : ∃ tr, isFloor fb p (flOf c s) tr gF ∧ trG tr s.l gT
  ref : isRefF vb s gV gT2
  tg : TG [] w ([gF, gT, gV, gT2] ++ rest) w'
/-- behind the switch -/
def ActsCut (w : World) (fb : Nat) (p : FPtr) (c : Cfg) (vb bb : Nat) (s : CntS) (z : ActF) (gV gT2 : List Blk) (got is : Value) (w' : World) : Prop :=
  ∃ gF gT tr, got = .int .i64 (doF z s).2.1 ∧ is = .bool (doF z s).2.2 ∧ isFloor fb p (flOf c (doF z s).1) tr gF ∧ trG tr (doF z s).1.l gT ∧ TG [] w [gF, gT, gV, gT2, [cl bb 59 z.cells]] w'

theorem cntInside_c {fb : Nat} {p : FPtr} {c : Cfg} {s : CntS} {tr : Value} {g : List Blk} (hg : isFloor fb p (flOf c s) tr g) : DoesG Try.prog 31 #[ptr' fb] [g] fun e gs => e = .returned (.int .i64 s.inside) ∧ ∃ g', isFloor fb p (flOf c s) tr g' ∧ gs = [g'] := floorInside_g hg
theorem cntBusy_c {fb : Nat} {p : FPtr} {c : Cfg} {s : CntS} {tr : Value} {g : List Blk} (hg : isFloor fb p (flOf c s) tr g) : DoesG Try.prog 32 #[ptr' fb] [g] fun e gs => e = .returned (.int .i64 s.busy) ∧ ∃ g', isFloor fb p (flOf c s) tr g' ∧ gs = [g'] := floorBusy_g hg
theorem cntNow_c {fb : Nat} {p : FPtr} {c : Cfg} {s : CntS} {tr : Value} {g : List Blk} (hg : isFloor fb p (flOf c s) tr g) : DoesG Try.prog 34 #[ptr' fb] [g] fun e gs => e = .returned (.int .u64 s.now) ∧ ∃ g', isFloor fb p (flOf c s) tr g' ∧ gs = [g'] := floorNow_g hg
theorem cntClosed_c {fb : Nat} {p : FPtr} {c : Cfg} {s : CntS} {tr : Value} {g : List Blk} (hg : isFloor fb p (flOf c s) tr g) : DoesG Try.prog 33 #[ptr' fb] [g] fun e gs => e = .returned (.bool s.closed) ∧ ∃ g', isFloor fb p (flOf c s) tr g' ∧ gs = [g'] := floorClosed_g hg
set_option maxRecDepth 100000 in
set_option maxHeartbeats 8000000 in
theorem lawActs_walk (a : Option Addr) (cap : Nat) (zs : List ActF) (w : World) (ha : ActsAt w a zs) (h9 : zs.length ≤ 9223372036854775807) :
    Calls Try.prog 5 #[.slice a zs.length cap] w fun e w' => e = .returned (.bool true) ∧ Below w.heap.size w w' := by
  have HT := Lib.hid (TG.ofW (w := w))
  have HA := Lib.hid ha
  clear ha
  by_cases hbig : 200 < zs.length
  · go_enter Try.func5, Try.ntmps5
    go_wp2_with fail
    refine (DoesG.use (alive_g) (HT.out) [] rfl rfl).mono ?_
    rintro e w1 ⟨gs, ⟨rfl, rfl⟩, Ta⟩
    simp only [putG, List.set_cons_zero, List.set_cons_succ, List.cons_append, List.nil_append, List.append_nil] at Ta
    have HT := Lib.hid Ta
    clear Ta
    go_wp2
    go_ret
    exact ⟨rfl, HT.out.bel⟩
  generalize hn : zs.length = n at *
  have HN := Lib.hid hn
  clear hn
  go_enter Try.func5, Try.ntmps5
  go_wp2_with fail
  refine (DoesG.use (alive_g) (HT.out) [] rfl rfl).mono ?_
  rintro e w1 ⟨gs, ⟨rfl, rfl⟩, Ta⟩
  simp only [putG, List.set_cons_zero, List.set_cons_succ, List.cons_append, List.nil_append, List.append_nil] at Ta
  have HT := Lib.hid Ta
  clear Ta
  go_wp2_with fail
  refine (DoesG.use (plain_g 1 1) (HT.out) [] rfl rfl).mono ?_
  rintro e w1 ⟨gs, ⟨rfl, rfl⟩, Ta⟩
  simp only [putG, List.set_cons_zero, List.set_cons_succ, List.cons_append, List.nil_append, List.append_nil] at Ta
  have HT := Lib.hid Ta
  clear Ta
  go_wp2_with fail
  refine (DoesG.use (floorNew_g (plainCfg 1 1) (by decide)) (HT.out) [] rfl rfl).mono ?_
  rintro e w1 ⟨gs, ⟨fb, p, shs, gF, gS, gR, gH, gP, gL, rfl, hall, hlen, hnew, rfl⟩, Ta⟩
  simp only [putG, List.set_cons_zero, List.set_cons_succ, List.cons_append, List.nil_append, List.append_nil] at Ta
  have HT := Lib.hid Ta
  clear Ta
  have hF := Lib.hid hall.floor
  clear hall hlen hnew
  go_wp2
  have HT := Lib.hid ((HT.out.pick [0] rfl).alloc rfl 55 #[.int .i64 0, .int .i64 0, .bool false, .int .u64 0, .slice none 0 0])
  generalize hvb : w1.heap.size = vb at *
  generalize hww : w1.alloc _ = w2 at *
  clear hvb hww
  have HR := Lib.hid (show ∃ s gF gT gV gT2, CntOk s 0 ∧ ActsRel w fb p (plainCfg 1 1) vb s gF gT gV gT2 [] w2 from ⟨cnt0, gF, [], [refBlk vb cnt0 (.slice none 0 0)], [], cnt0_ok, ⟨_, hF.out, trG_nil⟩, ⟨_, rfl, trG_nil⟩, HT.out.eq (by simp [pickG, refBlk, cnt0])⟩)
  clear HT hF
  go_loopw [6] (fun i wr => ∃ k : Nat, k ≤ n ∧ i = .int .i64 k ∧ ∃ s gF gT gV gT2, CntOk s k ∧ ActsRel w fb p (plainCfg 1 1) vb s gF gT gV gT2 [] wr) (fun i _ => n - (intOf i).toNat)
  case atStart => exact ⟨0, Nat.zero_le _, rfl, HR.out⟩
  case round =>
    obtain ⟨k, hk, rfl, s, gF, gT, gV, gT2, hok, ⟨tr, hF, hT⟩, hV, T⟩ := hrel
    by_cases hlt : k < n
    · obtain ⟨b, off, ea, hb, ⟨kk, on, E⟩, hz, c0, c1, c2, c3, c4, c5, c6, c7, c8, c9, c10, c11⟩ := HA.out.cells (k := k) (by rw [HN.out]; exact hlt) T
      cases ea
      simp only at c0 c1 c2 c3 c4 c5 c6 c7 c8 c9 c10 c11
      have HT := Lib.hid T
      have hF := Lib.hid hF
      have hT := Lib.hid hT
      have hV := Lib.hid hV
      have HK := Lib.hid hok
      clear T hok hz HR
      go_upto_block 2 with fail
      have HT := Lib.hid (HT.out.alloc (k := wr.heap.size) rfl 59 (ActF.cells ⟨kk, on, E⟩))
      simp only [ActF.cells, List.cons_append, List.nil_append] at HT
      generalize hbb : wr.heap.size = bb at *
      generalize hww : wr.alloc _ = w3 at *
      clear hbb hww c0 c1 c2 c3 c4 c5 c6 c7 c8 c9 c10 c11 hb
      have b0 := HT.out.cell 4 0 rfl
      go_cut [8, 9] (fun got is wx => ActsCut w fb p (plainCfg 1 1) vb bb s ⟨kk, on, E⟩ gV gT2 got is wx)
      case first =>
        by_cases k0 : kk = 0
        · subst k0
          go_wp2_with fail
          refine (DoesG.use (floorEnter_g hF.out ⟨HK.out.i0, by have := HK.out.i1; show s.inside ≤ 1000000; omega⟩) (HT.out) [0] rfl rfl).mono ?_
          rintro e w1 ⟨gs, ⟨rfl, gF1, hF1, rfl⟩, Ta⟩
          simp only [putG, List.set_cons_zero, List.set_cons_succ, List.cons_append, List.nil_append, List.append_nil] at Ta
          have HT := Lib.hid Ta
          clear Ta
          go_wp2_with fail
          go_meet
          exact ⟨_, _, _, rfl, rfl, hF1, hT.out, HT.out⟩
        by_cases k1 : kk = 1
        · subst k1
          go_wp2_with fail
          refine (DoesG.use (floorLeave_g hF.out ⟨HK.out.i0, by have := HK.out.i1; show s.inside ≤ 1000000; omega⟩) (HT.out) [0] rfl rfl).mono ?_
          rintro e w1 ⟨gs, ⟨rfl, gF1, hF1, rfl⟩, Ta⟩
          simp only [putG, List.set_cons_zero, List.set_cons_succ, List.cons_append, List.nil_append, List.append_nil] at Ta
          have HT := Lib.hid Ta
          clear Ta
          go_wp2_with fail
          go_meet
          exact ⟨_, _, _, rfl, rfl, hF1, hT.out, HT.out⟩
        by_cases k2 : kk = 2
        · subst k2
          cases on
          · go_wp2_with fail
            refine (DoesG.use (floorRest_g hF.out ⟨HK.out.b0, by have := HK.out.b1; show s.busy ≤ 1000000; omega⟩) (HT.out) [0] rfl rfl).mono ?_
            rintro e w1 ⟨gs, ⟨rfl, gF1, hF1, rfl⟩, Ta⟩
            simp only [putG, List.set_cons_zero, List.set_cons_succ, List.cons_append, List.nil_append, List.append_nil] at Ta
            have HT := Lib.hid Ta
            clear Ta
            go_wp2_with fail
            go_meet
            exact ⟨_, _, _, rfl, rfl, hF1, hT.out, HT.out⟩
          · go_wp2_with fail
            refine (DoesG.use (floorWork_g hF.out ⟨HK.out.b0, by have := HK.out.b1; show s.busy ≤ 1000000; omega⟩) (HT.out) [0] rfl rfl).mono ?_
            rintro e w1 ⟨gs, ⟨rfl, gF1, hF1, rfl⟩, Ta⟩
            simp only [putG, List.set_cons_zero, List.set_cons_succ, List.cons_append, List.nil_append, List.append_nil] at Ta
            have HT := Lib.hid Ta
            clear Ta
            go_wp2_with fail
            go_meet
            exact ⟨_, _, _, rfl, rfl, hF1, hT.out, HT.out⟩
        by_cases k3 : kk = 3
        · subst k3
          go_wp2_with fail
          refine (DoesG.use (floorShut_g hF.out) (HT.out) [0] rfl rfl).mono ?_
          rintro e w1 ⟨gs, ⟨rfl, gF1, hF1, rfl⟩, Ta⟩
          simp only [putG, List.set_cons_zero, List.set_cons_succ, List.cons_append, List.nil_append, List.append_nil] at Ta
          have HT := Lib.hid Ta
          clear Ta
          go_wp2_with fail
          go_meet
          exact ⟨_, _, _, rfl, rfl, hF1, hT.out, HT.out⟩
        by_cases k4 : kk = 4
        · subst k4
          go_wp2_with fail
          refine (DoesG.use (floorTurn_g hF.out ⟨HK.out.n0, by have := HK.out.n1; show s.now < _; omega⟩) (HT.out) [0] rfl rfl).mono ?_
          rintro e w1 ⟨gs, ⟨rfl, gF1, hF1, rfl⟩, Ta⟩
          simp only [putG, List.set_cons_zero, List.set_cons_succ, List.cons_append, List.nil_append, List.append_nil] at Ta
          have HT := Lib.hid Ta
          clear Ta
          obtain ⟨tr2, hgv, hT2⟩ := hV.out
          have v3 := HT.out.cell 2 0 (by rw [hgv]; rfl) 3
          have hn0 := HK.out.n0
          have hn1 := HK.out.n1
          simp only [flOf]
          go_wp2_with fail
          go_meet
          exact ⟨_, _, _, rfl, rfl, hF1, hT.out, HT.out⟩
        by_cases k5 : kk = 5
        · subst k5
          go_wp2_with fail
          refine (DoesG.use (floorNote_g E hF.out hT.out (by have := HK.out.l1; omega)) (HT.out) [0, 1] rfl rfl).mono ?_
          rintro e w1 ⟨gs, ⟨rfl, tr1, gF1, gT1, hF1, hT1, rfl⟩, Ta⟩
          simp only [putG, List.set_cons_zero, List.set_cons_succ, List.cons_append, List.nil_append, List.append_nil] at Ta
          have HT := Lib.hid Ta
          clear Ta
          go_wp2_with fail
          go_meet
          exact ⟨_, _, _, rfl, rfl, hF1, (trG.put hT1), HT.out⟩
        · have z0 : (kk == 0) = false := beq_eq_false_iff_ne.2 k0
          have z1 : (kk == 1) = false := beq_eq_false_iff_ne.2 k1
          have z2 : (kk == 2) = false := beq_eq_false_iff_ne.2 k2
          have z3 : (kk == 3) = false := beq_eq_false_iff_ne.2 k3
          have z4 : (kk == 4) = false := beq_eq_false_iff_ne.2 k4
          have z5 : (kk == 5) = false := beq_eq_false_iff_ne.2 k5
          have hd : doF ⟨kk, on, E⟩ s = (s, 0, false) := by simp [doF, k0, k1, k2, k3, k4, k5]
          have HD := Lib.hid hd
          clear hd
          go_wp2_with fail
          go_meet
          unfold ActsCut
          rw [HD.out]
          exact ⟨_, _, _, rfl, rfl, hF.out, hT.out, HT.out⟩
      case rest =>
        obtain ⟨gF, gT, tr, rfl, rfl, hF, hT, T⟩ := hcut
        have hok' := doF_ok HK.out ⟨kk, on, E⟩
        obtain ⟨vtr, hgv, hT2⟩ := hV.out
        have HT := Lib.hid T
        have HD := Lib.hid (refDo_g (a := ⟨kk, on, E⟩) hV.out HK.out (by omega))
        generalize doF ⟨kk, on, E⟩ s = r at *
        obtain ⟨s', x, y⟩ := r
        simp only at hF hT hok'
        have hF := Lib.hid hF
        have hT := Lib.hid hT
        have HK' := Lib.hid hok'
        have b0 := HT.out.cell 4 0 rfl
        have v0 := HT.out.cell 2 0 (by rw [hgv]; rfl)
        clear T hok' hgv hT2
        go_wp2_with fail
        refine (DoesG.use (HD.out) (HT.out) [2, 3] rfl rfl).mono ?_
        rintro e w1 ⟨gs, ⟨rfl, gV1, gT21, ⟨vtr1, hgv1, hT21⟩, rfl⟩, Ta⟩
        simp only [putG, List.set_cons_zero, List.set_cons_succ, List.cons_append, List.nil_append, List.append_nil] at Ta
        have HT := Lib.hid Ta
        clear Ta
        subst hgv1
        have hT2 := Lib.hid hT21
        clear hT21
        have hL : s'.l.length ≤ 1000 := by have := HK'.out.l1; omega
        have HL := Lib.hid hL
        clear hL
        go_wp2_with fail
        have HT := Lib.hid HT.out.drew
        simp only [refBlk] at HT
        go_region_held3 (fun w' => w'.cell? ⟨vb, 0, none⟩ = some (.int .i64 s'.inside) ∧ w'.cell? ⟨vb, 1, none⟩ = some (.int .i64 s'.busy) ∧ w'.cell? ⟨vb, 2, none⟩ = some (.bool s'.closed) ∧ w'.cell? ⟨vb, 3, none⟩ = some (.int .u64 s'.now) ∧ w'.cell? ⟨vb, 4, none⟩ = some vtr1)
          (exact ⟨HT.out.cell 2 0 rfl 0, HT.out.cell 2 0 rfl 1, HT.out.cell 2 0 rfl 2, HT.out.cell 2 0 rfl 3, HT.out.cell 2 0 rfl 4⟩)
          (first
          | (go_at_call 31
             refine (DoesG.use (cntInside_c hF.out) HT.out [0] rfl rfl).mono ?_
             rintro e w1 ⟨gs, ⟨rfl, gF, hF1, rfl⟩, Ta⟩
             simp only [putG, List.set_cons_zero, List.set_cons_succ, List.cons_append, List.nil_append, List.append_nil] at Ta
             have HT := Lib.hid Ta
             have hF := Lib.hid hF1
             clear Ta hF1)
          | (go_at_call 32
             refine (DoesG.use (cntBusy_c hF.out) HT.out [0] rfl rfl).mono ?_
             rintro e w1 ⟨gs, ⟨rfl, gF, hF1, rfl⟩, Ta⟩
             simp only [putG, List.set_cons_zero, List.set_cons_succ, List.cons_append, List.nil_append, List.append_nil] at Ta
             have HT := Lib.hid Ta
             have hF := Lib.hid hF1
             clear Ta hF1)
          | (go_at_call 33
             refine (DoesG.use (cntClosed_c hF.out) HT.out [0] rfl rfl).mono ?_
             rintro e w1 ⟨gs, ⟨rfl, gF, hF1, rfl⟩, Ta⟩
             simp only [putG, List.set_cons_zero, List.set_cons_succ, List.cons_append, List.nil_append, List.append_nil] at Ta
             have HT := Lib.hid Ta
             have hF := Lib.hid hF1
             clear Ta hF1)
          | (go_at_call 34
             refine (DoesG.use (cntNow_c hF.out) HT.out [0] rfl rfl).mono ?_
             rintro e w1 ⟨gs, ⟨rfl, gF, hF1, rfl⟩, Ta⟩
             simp only [putG, List.set_cons_zero, List.set_cons_succ, List.cons_append, List.nil_append, List.append_nil] at Ta
             have HT := Lib.hid Ta
             have hF := Lib.hid hF1
             clear Ta hF1)
          | (go_at_call 36
             refine (DoesG.use (floorTrace_g hF.out hT.out HL.out) HT.out [0, 1] rfl rfl).mono ?_
             rintro e w1 ⟨gs, ⟨vc, gC, rfl, hC1, rfl⟩, Ta⟩
             simp only [putG, List.set_cons_zero, List.set_cons_succ, List.cons_append, List.nil_append, List.append_nil] at Ta
             have HT := Lib.hid Ta
             have hC := Lib.hid hC1
             clear Ta hC1)
          | (go_at_call 35
             refine (DoesG.use (events_r hC.out hT2.out HL.out).does HT.out [5, 3] rfl rfl).mono ?_
             rintro e w1 ⟨gs, ⟨rfl, rfl⟩, Ta⟩
             simp only [putG, List.set_cons_zero, List.set_cons_succ, List.cons_append, List.nil_append, List.append_nil] at Ta
             have HT := Lib.hid Ta
             clear Ta))
        all_goals go_wp2
        all_goals go_roundw
        case rel => exact ⟨k + 1, by omega, by go_num, s', _, _, _, _, HK'.out, ⟨_, hF.out, hT.out⟩, ⟨_, rfl, hT2.out⟩, HT.out.pick [0, 1, 2, 3] rfl⟩
        case measure => simp [intOf]; omega
    · go_wp2
      go_ret
      exact ⟨rfl, T.bel⟩
end Go.Proofs.Ytmakficmfgkngaa
