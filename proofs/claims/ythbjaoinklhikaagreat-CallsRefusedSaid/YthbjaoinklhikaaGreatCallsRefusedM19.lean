import Derived.Test.YthbjaoinklhikaaGreatCallsRefusedM17
import Derived.Test.YthbjaoinklhikaaGreatCallsRefusedM18
namespace Go.Proofs.YthbjaoinklhikaaGreat
set_option linter.unusedVariables false
set_option linter.unusedSimpArgs false
open Go.RowKit Go.Shelf

/-! ## A call alone, and what it leaves: the law -/
/-- a floor between calls -/
structure RefI (room ring : Int) (k : Nat) (cl : Bool) (x : CoreS) : Prop where
  n : CoreN (200 * (k + 1)) x
  r : Rest (1 + ring % 8).toNat k x
  len : x.slab.recs.length = (1 + room % 8).toNat
  sh : x.shs.length = 2
  cl : x.f.closed = cl
theorem refI0 {room ring : Int} : RefI room ring 0 false (core0 (plain16 (1 + room % 8) (1 + ring % 8))) := by
  refine ⟨(core0_n (plain16_fine (by omega) (by omega) (by omega) (by omega))).mono (by omega), rest0 (by omega) (by omega) (by omega) (by omega), ?_, ?_, rfl⟩
  · show (List.replicate (1 + room % 8).toNat Rec.zero).length = _
    rw [List.length_replicate]
  · show (List.replicate ((2 : Int).toNat) (newShard (1 + ring % 8).toNat)).length = _
    rw [List.length_replicate]; rfl
/-- a run of any call, of such a floor -/
theorem ref_run {L : Lay} {x : CoreS} {gF : List Blk} (hx : isCore L x gF) {room ring : Int} {k : Nat} {cl : Bool} (hI : RefI room ring k cl x) (hk : k ≤ 100) {c : CallC} (hw : c.wf) (h1 : 1 ≤ c.kind) (h5 : c.kind ≤ 5) :
    ∃ n S H err ok id gen, Res (1 + ring % 8).toNat k x c n S H err ok id gen ∧ DoesG Tryz.prog 24 #[ptr' L.fb, .agg c.cells] [gF] fun e gs =>
      e = .returned (.tuple #[.agg (ansC err ok id gen), .int .i64 n, .bool true]) ∧ ∃ x' gF', isCore L x' gF' ∧ RefI room ring (k + 1) cl x' ∧ x'.f = x.f ∧ x'.slab = S ∧ x'.shs = H ∧ gs = [gF'] := by
  obtain ⟨n, S, H, err, ok, id, gen, hR⟩ := alone hI.r hw (by omega) (by omega) h1 h5
  have hle := hR.le
  refine ⟨n, S, H, err, ok, id, gen, hR, (lawRunO hx hw h1 h5 hI.n (by omega) (by omega) hR.out).mono ?_⟩
  rintro e gs ⟨he, x', gF', hx', hn', hf', hs', hh', hg⟩
  refine ⟨he, x', gF', hx', ⟨hn'.mono (by omega), ?_, by rw [hs', hR.len, hI.len], by rw [hh', hR.hl, hI.sh], by rw [hf', hI.cl]⟩, hf', hs', hh', hg⟩
  have h := hR.rest
  have e1 : ((k : Int) + 1) = ((k + 1 : Nat) : Int) := by omega
  rw [e1] at h
  obtain ⟨f', s', t', h'⟩ := x'
  simp only at hf' hs' hh'
  subst hf' hs' hh'
  exact ⟨h.ok, h.recs, h.used, h.ins, h.sh, h.ring⟩
theorem RefI.next {room ring : Int} {k : Nat} {cl : Bool} {x : CoreS} (h : RefI room ring k cl x) : RefI room ring (k + 1) cl x :=
  ⟨h.n.mono (by omega), h.r.mono (by omega), h.len, h.sh, h.cl⟩
theorem RefI.shut {room ring : Int} {k : Nat} {cl : Bool} {x : CoreS} (h : RefI room ring k cl x) : RefI room ring k true { x with f := { x.f with closed := true } } :=
  ⟨⟨h.n.slab, h.n.i0, h.n.i1, h.n.tr, h.n.sh, h.n.ring⟩, ⟨h.r.ok, h.r.recs, h.r.used, h.r.ins, h.r.sh, h.r.ring⟩, h.len, h.sh, rfl⟩
theorem two_of {α : Type} {l : List α} (h : l.length = 2) : ∃ a b, l = [a, b] := by
  match l, h with
  | [a, b], _ => exact ⟨a, b, rfl⟩
theorem wordsAt_set {D : Array Value} {s : SlabS} {k : Nat} (hD : D.size = 8) (h : ∀ j, j < k → D[j]? = some (.int .u64 (s.word j))) (hk : k < 8) : ∀ j, j < k + 1 → (D.setIfInBounds k (.int .u64 (s.word k)))[j]? = some (.int .u64 (s.word j)) := by
  intro j hj
  by_cases e : j = k
  · subst e
    rw [Array.getElem?_setIfInBounds_self_of_lt (by omega)]
  · rw [Array.getElem?_setIfInBounds_ne (by omega)]
    exact h j (by omega)
/-- calls ahead of it -/
def RefRel (w : World) (L : Lay) (gP : List Blk) (cb : Nat) (c : CallC) (room ring : Int) (k : Nat) (wr : World) : Prop :=
  ∃ x g, isCore L x g ∧ RefI room ring k false x ∧ TG [] w [g, gP, [cl L.p.lb 174 #[.slice none 0 0]], [cl cb 24 c.cells]] wr
set_option maxRecDepth 100000 in
set_option maxHeartbeats 8000000 in
theorem lawRef_walk (room ring : Int) (hro : 0 ≤ room ∧ room < 256) (hri : 0 ≤ ring ∧ ring < 256) (a : Option Addr) (cap : Nat) (zs : List CallC) (c : CallC) (shut : Bool) (w : World) (ha : CallsAt w a zs) (h9 : zs.length ≤ 9223372036854775807) (hzw : ∀ z ∈ zs, z.wf) (hcw : c.wf) :
    Calls Tryz.prog 5 #[.int .u8 room, .int .u8 ring, .slice a zs.length cap, .agg c.cells, .bool shut] w fun e w' => e = .returned (.bool true) ∧ Below w.heap.size w w' := by
  have HT := Lib.hid (TG.ofW (w := w))
  have HA := Lib.hid ha
  have HW := Lib.hid hzw
  have HCW := Lib.hid hcw
  clear ha hzw hcw
  by_cases hbig : 20 < zs.length
  · have hb : decide (((zs.length : Nat) : Int) > 20) = true := decide_eq_true (by omega)
    simp only [CallC.cells]
    go_enter Tryz.func5, Tryz.ntmps5
    go_wp2_with fail
    have HT := Lib.hid (HT.out.alloc (k := w.heap.size) rfl 24 #[.int .i64 c.kind, .int .u64 c.id, .int .u64 c.dl, .int .u64 c.per])
    simp only [List.nil_append] at HT
    refine (DoesG.use alive16_g HT.out [] rfl rfl).mono ?_
    rintro e w1 ⟨gs, ⟨rfl, rfl⟩, Ta⟩
    simp only [putG, List.append_nil] at Ta
    have HT := Lib.hid Ta
    clear Ta
    go_wp2
    go_ret
    exact ⟨rfl, HT.out.bel⟩
  generalize hn : zs.length = n at *
  have HN := Lib.hid hn
  clear hn
  simp only [CallC.cells]
  go_enter Tryz.func5, Tryz.ntmps5
  go_wp2_with fail
  have HT := Lib.hid (HT.out.alloc (k := w.heap.size) rfl 24 #[.int .i64 c.kind, .int .u64 c.id, .int .u64 c.dl, .int .u64 c.per])
  simp only [List.nil_append] at HT
  refine (DoesG.use alive16_g HT.out [] rfl rfl).mono ?_
  rintro e w1 ⟨gs, ⟨rfl, rfl⟩, Ta⟩
  simp only [putG, List.append_nil] at Ta
  have HT := Lib.hid Ta
  clear Ta
  go_wp2_with fail
  refine (DoesG.use (plain16_g (1 + room % 8) (1 + ring % 8)) (HT.out) [] rfl rfl).mono ?_
  rintro e w1 ⟨gs, ⟨rfl, rfl⟩, Ta⟩
  simp only [putG, List.set_cons_zero, List.set_cons_succ, List.cons_append, List.nil_append, List.append_nil] at Ta
  have HT := Lib.hid Ta
  clear Ta
  go_wp2_with fail
  refine (DoesG.use (newCore (plain16 (1 + room % 8) (1 + ring % 8)) (plain16_fine (by omega) (by omega) (by omega) (by omega))) (HT.out) [] rfl rfl).mono ?_
  rintro e w1 ⟨gs, ⟨L, gF, gP, gL, rfl, hx, hp, rfl, rfl⟩, Ta⟩
  simp only [putG, List.set_cons_zero, List.set_cons_succ, List.cons_append, List.nil_append, List.append_nil] at Ta
  have HT := Lib.hid Ta
  clear Ta
  have HT := Lib.hid (HT.out.pick [1, 2, 3, 0] rfl)
  simp only [pickG, List.map_cons, List.map_nil, List.getD_cons_succ, List.getD_cons_zero] at HT
  go_wp2
  generalize hcb : w.heap.size = cb at *
  have HR := Lib.hid (show RefRel w L gP cb c room ring 0 w1 from ⟨_, gF, hx, refI0, HT.out⟩)
  clear HT hx hp hcb
  go_loopw [14] (fun i wr => ∃ k : Nat, k ≤ n ∧ i = .int .i64 k ∧ RefRel w L gP cb c room ring k wr) (fun i _ => n - (intOf i).toNat)
  case atStart => exact ⟨0, Nat.zero_le _, rfl, HR.out⟩
  case round =>
    obtain ⟨k, hk, rfl, x, g, hx, hI, T⟩ := hrel
    have HX := Lib.hid hx
    have HI := Lib.hid hI
    have HT := Lib.hid T
    clear hx hI HR
    by_cases hlt : k < n
    · obtain ⟨b, off, ea, hb, z, hze, hz, c0, c1, c2, c3⟩ := HA.out.cells (k := k) (by rw [HN.out]; exact hlt) T
      cases ea
      have hzw := HW.out z hz
      clear T hz
      by_cases hkd : 1 ≤ z.kind ∧ z.kind ≤ 5
      · obtain ⟨hk1, hk5⟩ := hkd
        obtain ⟨nn, S, H, err, ok, id, gen, hR, hrun⟩ := ref_run HX.out HI.out (by omega) hzw hk1 hk5
        have HRUN := Lib.hid hrun
        clear hrun hR
        simp only [CallC.cells] at HRUN
        go_wp2_with fail
        refine (DoesG.use HRUN.out HT.out [0] rfl rfl).mono ?_
        rintro e w4 ⟨gs, ⟨rfl, x4, gF4, hx4, hI4, _, _, _, rfl⟩, Ta⟩
        simp only [putG, List.set_cons_zero, List.set_cons_succ, List.cons_append, List.nil_append, List.append_nil] at Ta
        have HT := Lib.hid Ta
        have HX4 := Lib.hid hx4
        have HI4 := Lib.hid hI4
        clear Ta hx4 hI4 c0 c1 c2 c3
        simp only [ansC]
        go_wp2
        first
        | (go_roundw
           case rel => exact ⟨k + 1, by omega, by go_num, x4, gF4, HX4.out, HI4.out, HT.out.alloc0 _⟩
           case measure => simp [intOf]; omega)
        | exact ⟨⟨k + 1, by omega, by go_num, x4, gF4, HX4.out, HI4.out, HT.out.alloc0 _⟩, by simp [intOf]; omega⟩
        | ((repeat apply Exists.intro); exact ⟨⟨⟨k + 1, by omega, by go_num, x4, gF4, HX4.out, HI4.out, HT.out.alloc0 _⟩, rfl⟩, by simp [intOf]; omega⟩)
      · have hkd' : z.kind < 1 ∨ 5 < z.kind := by omega
        have HRUN := Lib.hid (lawRunBad HX.out z hkd')
        simp only [CallC.cells] at HRUN
        go_wp2_with fail
        refine (DoesG.use HRUN.out HT.out [0] rfl rfl).mono ?_
        rintro e w4 ⟨gs, ⟨rfl, rfl⟩, Ta⟩
        simp only [putG, List.set_cons_zero, List.set_cons_succ, List.cons_append, List.nil_append, List.append_nil] at Ta
        clear c0 c1 c2 c3 HT
        obtain ⟨b', off', ea, hb', z', hze', hz', c0, c1, c2, c3⟩ := HA.out.cells (k := k) (by rw [HN.out]; exact hlt) Ta
        cases ea
        have hzz : z' = z := hze'.symm.trans hze
        subst hzz
        have lb := Nat.lt_of_lt_of_le hb' (Turned.only Ta).size
        have HT := Lib.hid Ta
        clear Ta c1 c2 c3 hz' hze' hze
        simp only [ansC]
        rcases hkd' with h1 | h5
        · have d1 : decide (1 ≤ z'.kind) = false := decide_eq_false (by omega)
          have d1n : decide (z'.kind ≥ 1) = false := decide_eq_false (by omega)
          clear hkd h1
          go_wp2
          first
          | (go_roundw
             case rel => exact ⟨k + 1, by omega, by go_num, x, g, HX.out, HI.out.next, HT.out.alloc0 _⟩
             case measure => simp [intOf]; omega)
          | exact ⟨⟨k + 1, by omega, by go_num, x, g, HX.out, HI.out.next, HT.out.alloc0 _⟩, by simp [intOf]; omega⟩
          | ((repeat apply Exists.intro); exact ⟨⟨⟨k + 1, by omega, by go_num, x, g, HX.out, HI.out.next, HT.out.alloc0 _⟩, rfl⟩, by simp [intOf]; omega⟩)
        · have d1 : decide (1 ≤ z'.kind) = true := decide_eq_true (by omega)
          have d1n : decide (z'.kind ≥ 1) = true := decide_eq_true (by omega)
          have d5 : decide (z'.kind ≤ 5) = false := decide_eq_false (by omega)
          clear hkd h5
          go_wp2
          first
          | (go_roundw
             case rel => exact ⟨k + 1, by omega, by go_num, x, g, HX.out, HI.out.next, HT.out.alloc0 _⟩
             case measure => simp [intOf]; omega)
          | exact ⟨⟨k + 1, by omega, by go_num, x, g, HX.out, HI.out.next, HT.out.alloc0 _⟩, by simp [intOf]; omega⟩
          | ((repeat apply Exists.intro); exact ⟨⟨⟨k + 1, by omega, by go_num, x, g, HX.out, HI.out.next, HT.out.alloc0 _⟩, rfl⟩, by simp [intOf]; omega⟩)
    · have hkn : k = n := by omega
      subst hkn
      clear T
      cases shut
      · go_wp2
        obtain ⟨N, hN⟩ : ∃ N : Nat, (N : Int) = 1 + room % 8 := ⟨(1 + room % 8).toNat, by omega⟩
        have hN8 : N ≤ 8 := by omega
        have hxl : x.slab.recs.length = N := by rw [HI.out.len]; omega
        obtain ⟨xx, hxx⟩ : ∃ xx, x = xx := ⟨_, rfl⟩
        rw [hxx] at HX HI
        have hxl : xx.slab.recs.length = N := by rw [HI.out.len]; omega
        have HT := Lib.hid (HT.out.alloc (k := wr.heap.size) rfl 55 #[.int .u64 0, .int .u64 0, .int .u64 0, .int .u64 0, .int .u64 0, .int .u64 0, .int .u64 0, .int .u64 0])
        simp only [List.cons_append, List.nil_append] at HT
        have HWD := Lib.hid (fun (g : List Blk) (hx : isCore L xx g) (i : Int) => coreWord (x := xx) hx HI.out.n.slab.n1 i)
        generalize wr.heap.size = wb at *
        clear hxx
        go_loopw [19] (fun i wr => ∃ (k : Nat) (D : Array Value) (g : List Blk), k ≤ N ∧ i = .int .i64 k ∧ D.size = 8 ∧ (∀ j, j < k → D[j]? = some (.int .u64 (xx.slab.word j))) ∧ isCore L xx g ∧ TG [] w [g, gP, [cl L.p.lb 174 #[.slice none 0 0]], [cl cb 24 c.cells], [cl wb 55 D]] wr) (fun i _ => N - (intOf i).toNat)
        case atStart => exact ⟨0, _, _, Nat.zero_le _, rfl, rfl, fun j hj => absurd hj (Nat.not_lt_zero _), HX.out, HT.out⟩
        case round =>
          obtain ⟨i, D, g5, hi, rfl, hD, hW, hx, T⟩ := hrel
          have HX5 := Lib.hid hx
          have HT := Lib.hid T
          have HWW := Lib.hid hW
          have HDD := Lib.hid hD
          clear hx T hW hD HX
          by_cases hlt : i < N
          · go_wp2_with fail
            refine (ReadsG.use (coreSlab_r HX5.out) (HT.out) [0] rfl rfl).mono ?_
            rintro e w1 ⟨rfl, mq, rfl⟩
            have HT := Lib.hid (HT.out.drewN mq)
            generalize World.drewN _ _ = wq at HT ⊢
            go_wp2_with fail
            refine (DoesG.use (HWD.out _ HX5.out _) (HT.out) [0] rfl rfl).mono ?_
            rintro e w1 ⟨gs, ⟨rfl, g6, hx6, rfl⟩, Ta⟩
            simp only [putG, List.set_cons_zero, List.set_cons_succ, List.cons_append, List.nil_append, List.append_nil] at Ta
            have HX6 := Lib.hid hx6
            clear hx6
            have HT := Lib.hid Ta
            clear Ta
            have d0 := (HT.out.cell 4 0 rfl i).trans (Array.getElem?_eq_getElem (by rw [HDD.out]; omega))
            have fd0 := HT.out.free 4 0 rfl i
            go_wp2
            first
            | (go_roundw
               case rel => exact ⟨i + 1, _, g6, by omega, by go_num, by rw [Array.size_setIfInBounds]; exact HDD.out, wordsAt_set HDD.out HWW.out (by omega), HX6.out, HT.out.set 4 0 rfl i _⟩
               case measure => simp [intOf]; omega)
            | exact ⟨⟨i + 1, _, g6, by omega, by go_num, by rw [Array.size_setIfInBounds]; exact HDD.out, wordsAt_set HDD.out HWW.out (by omega), HX6.out, HT.out.set 4 0 rfl i _⟩, by simp [intOf]; omega⟩
            | ((repeat apply Exists.intro); exact ⟨⟨⟨i + 1, _, g6, by omega, by go_num, by rw [Array.size_setIfInBounds]; exact HDD.out, wordsAt_set HDD.out HWW.out (by omega), HX6.out, HT.out.set 4 0 rfl i _⟩, rfl⟩, by simp [intOf]; omega⟩)
          · have hiN : i = N := by omega
            have HWN := Lib.hid (show ∀ j, j < N → D[j]? = some (.int .u64 (xx.slab.word j)) from by rw [← hiN]; exact HWW.out)
            obtain ⟨s0, s1, hss⟩ := two_of HI.out.sh
            obtain ⟨q0, hq0, hqv0⟩ := core_q HX5.out (i := 0) (by rw [HI.out.sh]; decide)
            obtain ⟨q1, hq1, hqv1⟩ := core_q HX5.out (i := 1) (by rw [HI.out.sh]; decide)
            have hs0 : xx.shs[0]? = some s0 := by rw [hss]; rfl
            have hs1 : xx.shs[1]? = some s1 := by rw [hss]; rfl
            have rb0 := (HI.out.n.ring s0 (List.mem_of_getElem? hs0)).b (by omega)
            have rb1 := (HI.out.n.ring s1 (List.mem_of_getElem? hs1)).b (by omega)
            have HS0 := Lib.hid (show ∀ (y : CoreS) g, isCore L y g → ReadsG Tryz.prog 29 #[ptr' L.fb, .int .i64 0] [g] (ptr' q0.b) from fun y g hx => by have h := coreShardAt_r hx ((0 : Nat) : Int); rw [hqv0] at h; exact h)
            have HS1 := Lib.hid (show ∀ (y : CoreS) g, isCore L y g → ReadsG Tryz.prog 29 #[ptr' L.fb, .int .i64 1] [g] (ptr' q1.b) from fun y g hx => by have h := coreShardAt_r hx ((1 : Nat) : Int); rw [hqv1] at h; exact h)
            have HQ := Lib.hid (And.intro hq0 hq1)
            have HW0 := Lib.hid (fun (g : List Blk) (hx : isCore L xx g) => coreWaiting hx hq0 hs0 rb0)
            have HW1 := Lib.hid (fun (g : List Blk) (hx : isCore L xx g) => coreWaiting hx hq1 hs1 rb1)
            have t0b := rb0.t0
            have t1b := rb0.t1
            have h0b := rb0.h0
            have h1b := rb0.h1
            have t2b := rb1.t0
            have t3b := rb1.t1
            have h2b := rb1.h0
            have h3b := rb1.h1
            have HSS := Lib.hid hss
            clear hq0 hqv0 hq1 hqv1 hs0 hs1 rb0 rb1 hss hlt hi
            go_wp2_with fail
            refine (ReadsG.use (coreSlab_r HX5.out) (HT.out) [0] rfl rfl).mono ?_
            rintro e w1 ⟨rfl, mq, rfl⟩
            have HT := Lib.hid (HT.out.drewN mq)
            generalize World.drewN _ _ = wq at HT ⊢
            go_wp2_with fail
            refine (DoesG.use (coreCount HX5.out) (HT.out) [0] rfl rfl).mono ?_
            rintro e w1 ⟨gs, ⟨rfl, g6, hx6, rfl⟩, Ta⟩
            simp only [putG, List.set_cons_zero, List.set_cons_succ, List.cons_append, List.nil_append, List.append_nil] at Ta
            have HX6 := Lib.hid hx6
            clear hx6
            have HT := Lib.hid Ta
            clear Ta
            go_wp2_with fail
            refine (ReadsG.use (HS0.out _ _ HX6.out) (HT.out) [0] rfl rfl).mono ?_
            rintro e w1 ⟨rfl, mq, rfl⟩
            have HT := Lib.hid (HT.out.drewN mq)
            generalize World.drewN _ _ = wq at HT ⊢
            go_wp2_with fail
            refine (DoesG.use (HW0.out _ HX6.out) (HT.out) [0] rfl rfl).mono ?_
            rintro e w1 ⟨gs, ⟨rfl, g7, hx7, rfl⟩, Ta⟩
            simp only [putG, List.set_cons_zero, List.set_cons_succ, List.cons_append, List.nil_append, List.append_nil] at Ta
            have HX7 := Lib.hid hx7
            clear hx7
            have HT := Lib.hid Ta
            clear Ta
            go_wp2_with fail
            refine (ReadsG.use (HS1.out _ _ HX7.out) (HT.out) [0] rfl rfl).mono ?_
            rintro e w1 ⟨rfl, mq, rfl⟩
            have HT := Lib.hid (HT.out.drewN mq)
            generalize World.drewN _ _ = wq at HT ⊢
            go_wp2_with fail
            refine (DoesG.use (HW1.out _ HX7.out) (HT.out) [0] rfl rfl).mono ?_
            rintro e w1 ⟨gs, ⟨rfl, g8, hx8, rfl⟩, Ta⟩
            simp only [putG, List.set_cons_zero, List.set_cons_succ, List.cons_append, List.nil_append, List.append_nil] at Ta
            have HX8 := Lib.hid hx8
            clear hx8
            have HT := Lib.hid Ta
            clear Ta
            have c0 := HT.out.cell 3 0 rfl 0
            have c1 := HT.out.cell 3 0 rfl 1
            have c2 := HT.out.cell 3 0 rfl 2
            have c3 := HT.out.cell 3 0 rfl 3
            simp only [CallC.cells, List.getElem?_toArray, List.getElem?_cons_zero, List.getElem?_cons_succ] at c0 c1 c2 c3
            by_cases hkd : 1 ≤ c.kind ∧ c.kind ≤ 5
            · obtain ⟨hk1, hk5⟩ := hkd
              obtain ⟨nn, S, H, err, ok, id, gen, hR, hrun⟩ := ref_run HX8.out HI.out (by omega) HCW.out hk1 hk5
              have HRUN := Lib.hid hrun
              clear hrun
              simp only [CallC.cells] at HRUN
              go_wp2_with fail
              refine (DoesG.use HRUN.out HT.out [0] rfl rfl).mono ?_
              rintro e w4 ⟨gs, ⟨rfl, y, gy, hy, hIy, hfy, rfl, rfl, rfl⟩, Ta⟩
              simp only [putG, List.set_cons_zero, List.set_cons_succ, List.cons_append, List.nil_append, List.append_nil] at Ta
              have HT := Lib.hid Ta
              have HY := Lib.hid hy
              have HIY := Lib.hid hIy
              clear Ta hy hIy HRUN c0 c1 c2 c3 HX8
              have c0 := HT.out.cell 3 0 rfl 0
              simp only [CallC.cells, List.getElem?_toArray, List.getElem?_cons_zero, List.getElem?_cons_succ] at c0
              have ltc := HT.out.lt 3 0 rfl
              simp only [] at ltc
              have d1 : decide (c.kind < 1) = false := decide_eq_false (by omega)
              have d5 : decide (c.kind > 5) = false := decide_eq_false (by omega)
              have HRES := Lib.hid hR
              clear hR
              simp only [ansC]
              cases ok
              · go_wp2_with fail
                have HT := Lib.hid (HT.out.alloc (k := w4.heap.size) rfl 30 (ansC err false id gen))
                simp only [List.cons_append, List.nil_append, ansC] at HT
                have hin := coreInside HY.out
                rw [HIY.out.r.ins] at hin
                refine (DoesG.use hin HT.out [0] rfl rfl).mono ?_
                clear hin
                rintro e w5 ⟨gs, ⟨rfl, gy1, hy1, rfl⟩, Ta⟩
                simp only [putG, List.set_cons_zero, List.set_cons_succ, List.cons_append, List.nil_append, List.append_nil] at Ta
                have HT := Lib.hid Ta
                have HY1 := Lib.hid hy1
                clear Ta hy1 ltc c0 HY
                have a0 := HT.out.cell 5 0 rfl 0
                have a1 := HT.out.cell 5 0 rfl 1
                have a2 := HT.out.cell 5 0 rfl 2
                simp only [ansC, List.getElem?_toArray, List.getElem?_cons_zero, List.getElem?_cons_succ] at a0 a1 a2
                obtain ⟨r0, r1, hrr⟩ := two_of HIY.out.sh
                obtain ⟨p0, hp0, hpv0⟩ := core_q HY1.out (i := 0) (by rw [HIY.out.sh]; decide)
                obtain ⟨p1, hp1, hpv1⟩ := core_q HY1.out (i := 1) (by rw [HIY.out.sh]; decide)
                have hr0 : y.shs[0]? = some r0 := by rw [hrr]; rfl
                have hr1 : y.shs[1]? = some r1 := by rw [hrr]; rfl
                have cb0 := (HIY.out.n.ring r0 (List.mem_of_getElem? hr0)).b (by omega)
                have cb1 := (HIY.out.n.ring r1 (List.mem_of_getElem? hr1)).b (by omega)
                have HP0 := Lib.hid (show ∀ (y : CoreS) g, isCore L y g → ReadsG Tryz.prog 29 #[ptr' L.fb, .int .i64 0] [g] (ptr' p0.b) from fun y g hx => by have h := coreShardAt_r hx ((0 : Nat) : Int); rw [hpv0] at h; exact h)
                have HP1 := Lib.hid (show ∀ (y : CoreS) g, isCore L y g → ReadsG Tryz.prog 29 #[ptr' L.fb, .int .i64 1] [g] (ptr' p1.b) from fun y g hx => by have h := coreShardAt_r hx ((1 : Nat) : Int); rw [hpv1] at h; exact h)
                have HV0 := Lib.hid (fun (g : List Blk) (hx : isCore L y g) => coreWaiting hx hp0 hr0 cb0)
                have HV1 := Lib.hid (fun (g : List Blk) (hx : isCore L y g) => coreWaiting hx hp1 hr1 cb1)
                have HYW := Lib.hid (fun (g : List Blk) (hx : isCore L y g) (i : Int) => coreWord (x := y) hx HIY.out.n.slab.n1 i)
                have HWB := Lib.hid (And.intro (word_bd HIY.out.n.slab) (word_bd HI.out.n.slab))
                have HMORE := Lib.hid (show waitsH y.shs = r0.ring.tail - r0.ring.head + (r1.ring.tail - r1.ring.head) ∧ waitsH xx.shs = s0.ring.tail - s0.ring.head + (s1.ring.tail - s1.ring.head) from ⟨by rw [hrr]; simp [waitsH], by rw [HSS.out]; simp [waitsH]⟩)
                have e0 := cb0.t0
                have e1 := cb0.t1
                have e2 := cb0.h0
                have e3 := cb0.h1
                have e4 := cb1.t0
                have e5 := cb1.t1
                have e6 := cb1.h0
                have e7 := cb1.h1
                clear hp0 hpv0 hp1 hpv1 hr0 hr1 cb0 cb1 hrr
                go_wp2_with fail
                refine (ReadsG.use (HP0.out _ _ HY1.out) (HT.out) [0] rfl rfl).mono ?_
                rintro e w1 ⟨rfl, mq, rfl⟩
                have HT := Lib.hid (HT.out.drewN mq)
                generalize World.drewN _ _ = wq at HT ⊢
                clear a0 a1 a2
                go_wp2_with fail
                refine (DoesG.use (HV0.out _ HY1.out) (HT.out) [0] rfl rfl).mono ?_
                rintro e w1 ⟨gs, ⟨rfl, g11, hx11, rfl⟩, Ta⟩
                simp only [putG, List.set_cons_zero, List.set_cons_succ, List.cons_append, List.nil_append, List.append_nil] at Ta
                have HX11 := Lib.hid hx11
                clear hx11
                have HT := Lib.hid Ta
                clear Ta
                go_wp2_with fail
                refine (ReadsG.use (HP1.out _ _ HX11.out) (HT.out) [0] rfl rfl).mono ?_
                rintro e w1 ⟨rfl, mq, rfl⟩
                have HT := Lib.hid (HT.out.drewN mq)
                generalize World.drewN _ _ = wq at HT ⊢
                go_wp2_with fail
                refine (DoesG.use (HV1.out _ HX11.out) (HT.out) [0] rfl rfl).mono ?_
                rintro e w1 ⟨gs, ⟨rfl, g12, hx12, rfl⟩, Ta⟩
                simp only [putG, List.set_cons_zero, List.set_cons_succ, List.cons_append, List.nil_append, List.append_nil] at Ta
                have HX12 := Lib.hid hx12
                clear hx12
                have HT := Lib.hid Ta
                clear Ta
                go_wp2
                clear e0 e1 e2 e3 e4 e5 e6 e7 t0b t1b t2b t3b h0b h1b h2b h3b
                go_loopw [26] (fun iv wr => ∃ (j : Nat) (g : List Blk), j ≤ N ∧ iv = .int .i64 j ∧ isCore L y g ∧ TG [] w [g, gP, [cl L.p.lb 174 #[.slice none 0 0]], [cl cb 24 #[.int .i64 c.kind, .int .u64 c.id, .int .u64 c.dl, .int .u64 c.per]], [cl wb 55 D], [cl w4.heap.size 30 #[.int .i64 err, .bool false, .int .u64 id, .int .u64 gen, .slice none 0 0]]] wr) (fun i _ => N - (intOf i).toNat)
                case atStart => exact ⟨0, g12, Nat.zero_le _, rfl, HX12.out, HT.out⟩
                case round =>
                  obtain ⟨j, g13, hj, rfl, hx13, T⟩ := hrel
                  have HX13 := Lib.hid hx13
                  have HT := Lib.hid T
                  clear hx13 T HX12 HY1
                  by_cases hlt3 : j < N
                  · go_wp2_with fail
                    refine (ReadsG.use (coreSlab_r HX13.out) (HT.out) [0] rfl rfl).mono ?_
                    rintro e w1 ⟨rfl, mq, rfl⟩
                    have HT := Lib.hid (HT.out.drewN mq)
                    generalize World.drewN _ _ = wq at HT ⊢
                    go_wp2_with fail
                    refine (DoesG.use (HYW.out _ HX13.out _) (HT.out) [0] rfl rfl).mono ?_
                    rintro e w1 ⟨gs, ⟨rfl, g14, hx14, rfl⟩, Ta⟩
                    simp only [putG, List.set_cons_zero, List.set_cons_succ, List.cons_append, List.nil_append, List.append_nil] at Ta
                    have HX14 := Lib.hid hx14
                    clear hx14
                    have HT := Lib.hid Ta
                    clear Ta
                    have d0 := (HT.out.cell 4 0 rfl j).trans (HWN.out j hlt3)
                    have a0 := HT.out.cell 5 0 rfl 0
                    have a1 := HT.out.cell 5 0 rfl 1
                    have a2 := HT.out.cell 5 0 rfl 2
                    simp only [ansC, List.getElem?_toArray, List.getElem?_cons_zero, List.getElem?_cons_succ] at a0 a1 a2
                    have hwy := HWB.out.1 (j : Int)
                    have hwx := HWB.out.2 (j : Int)
                    have HWY := Lib.hid hwy
                    have HWX := Lib.hid hwx
                    obtain ⟨hwy0, hwy1, _⟩ := hwy
                    obtain ⟨hwx0, hwx1, _⟩ := hwx
                    obtain ⟨_, _, hwd⟩ := HRES.out.no rfl
                    have hwj := hwd j
                    by_cases he2 : (err : Int) = 2
                    · have be : ((err : Int) == 2) = true := by simp [he2]
                      by_cases hs : y.slab.word j = xx.slab.word j
                      · have bs : (y.slab.word j == xx.slab.word j) = true := by simp [hs]
                        by_cases hz : stW (xx.slab.word j) = 0
                        · have b1 : (stW (y.slab.word j) == 0) = true := by rw [hs]; simp [hz]
                          have b2 : (stW (xx.slab.word j) == 0) = true := by simp [hz]
                          clear hs hwd he2 hwj hz
                          go_wp2_with (go_at_call 32; first | ((with_reducible refine (state_calls (y.slab.word j) _ HWY.out.1 HWY.out.2.1).mono ?_); rintro e w' ⟨rfl, rfl⟩) | ((with_reducible refine (state_calls (xx.slab.word j) _ HWX.out.1 HWX.out.2.1).mono ?_); rintro e w' ⟨rfl, rfl⟩))
                          first
                          | (go_roundw
                             case rel => exact ⟨j + 1, g14, by omega, by go_num, HX14.out, HT.out⟩
                             case measure => simp [intOf]; omega)
                          | (refine ⟨?_, by simp [intOf]; omega⟩
                             repeat apply Exists.intro
                             exact ⟨⟨j + 1, g14, by omega, by go_num, HX14.out, HT.out⟩, rfl⟩)
                        · have b1 : (stW (y.slab.word j) == 0) = false := by rw [hs]; exact beq_eq_false_iff_ne.2 hz
                          clear hs hwd he2 hwj hz
                          go_wp2_with (go_at_call 32; first | ((with_reducible refine (state_calls (y.slab.word j) _ HWY.out.1 HWY.out.2.1).mono ?_); rintro e w' ⟨rfl, rfl⟩) | ((with_reducible refine (state_calls (xx.slab.word j) _ HWX.out.1 HWX.out.2.1).mono ?_); rintro e w' ⟨rfl, rfl⟩))
                          first
                          | (go_roundw
                             case rel => exact ⟨j + 1, g14, by omega, by go_num, HX14.out, HT.out⟩
                             case measure => simp [intOf]; omega)
                          | (refine ⟨?_, by simp [intOf]; omega⟩
                             repeat apply Exists.intro
                             exact ⟨⟨j + 1, g14, by omega, by go_num, HX14.out, HT.out⟩, rfl⟩)
                      · have bs : (y.slab.word j == xx.slab.word j) = false := beq_eq_false_iff_ne.2 hs
                        obtain ⟨hx2, z1, z2⟩ := hwj.resolve_left hs
                        clear hx2
                        have b1 : (stW (y.slab.word j) == 0) = true := by simp [z1]
                        have b2 : (stW (xx.slab.word j) == 0) = true := by simp [z2]
                        clear hs hwd he2 hwj z1 z2
                        go_wp2_with (go_at_call 32; first | ((with_reducible refine (state_calls (y.slab.word j) _ HWY.out.1 HWY.out.2.1).mono ?_); rintro e w' ⟨rfl, rfl⟩) | ((with_reducible refine (state_calls (xx.slab.word j) _ HWX.out.1 HWX.out.2.1).mono ?_); rintro e w' ⟨rfl, rfl⟩))
                        first
                        | (go_roundw
                           case rel => exact ⟨j + 1, g14, by omega, by go_num, HX14.out, HT.out⟩
                           case measure => simp [intOf]; omega)
                        | (refine ⟨?_, by simp [intOf]; omega⟩
                           repeat apply Exists.intro
                           exact ⟨⟨j + 1, g14, by omega, by go_num, HX14.out, HT.out⟩, rfl⟩)
                    · have be : ((err : Int) == 2) = false := beq_eq_false_iff_ne.2 he2
                      have hs : y.slab.word j = xx.slab.word j := hwj.resolve_right (fun h => he2 h.1)
                      have bs : (y.slab.word j == xx.slab.word j) = true := by simp [hs]
                      clear hs hwd he2 hwj
                      go_wp2
                      first
                      | (go_roundw
                         case rel => exact ⟨j + 1, g14, by omega, by go_num, HX14.out, HT.out⟩
                         case measure => simp [intOf]; omega)
                      | (refine ⟨?_, by simp [intOf]; omega⟩
                         repeat apply Exists.intro
                         exact ⟨⟨j + 1, g14, by omega, by go_num, HX14.out, HT.out⟩, rfl⟩)
                  · have hjN : j = N := by omega
                    obtain ⟨hcn, hwt, _⟩ := HRES.out.no rfl
                    obtain ⟨hm1, hm2⟩ := HMORE.out
                    have bc : (y.slab.count == xx.slab.count) = true := by simp [hcn]
                    have bm : (r0.ring.tail - r0.ring.head + (r1.ring.tail - r1.ring.head) - (s0.ring.tail - s0.ring.head + (s1.ring.tail - s1.ring.head)) == 0) = true := by
                      rw [← hm1, ← hm2, hwt]; simp
                    clear hcn hwt hm1 hm2
                    have a1 := HT.out.cell 5 0 rfl 1
                    simp only [ansC, List.getElem?_toArray, List.getElem?_cons_zero, List.getElem?_cons_succ] at a1
                    have c0 := HT.out.cell 3 0 rfl 0
                    simp only [ansC, List.getElem?_toArray, List.getElem?_cons_zero, List.getElem?_cons_succ] at c0
                    go_wp2_with fail
                    refine (ReadsG.use (coreSlab_r HX13.out) (HT.out) [0] rfl rfl).mono ?_
                    rintro e w1 ⟨rfl, mq, rfl⟩
                    have HT := Lib.hid (HT.out.drewN mq)
                    generalize World.drewN _ _ = wq at HT ⊢
                    go_wp2_with fail
                    refine (DoesG.use (coreCount HX13.out) (HT.out) [0] rfl rfl).mono ?_
                    rintro e w1 ⟨gs, ⟨rfl, g15, hx15, rfl⟩, Ta⟩
                    simp only [putG, List.set_cons_zero, List.set_cons_succ, List.cons_append, List.nil_append, List.append_nil] at Ta
                    clear hx15 a1 c0
                    have HT := Lib.hid Ta
                    clear Ta
                    go_wp2
                    go_ret
                    exact ⟨rfl, HT.out.bel⟩
              · have he := (HRES.out.yes rfl).2.1
                subst he
                go_wp2_with fail
                have HT := Lib.hid (HT.out.alloc (k := w4.heap.size) rfl 30 (ansC 0 true id gen))
                simp only [List.cons_append, List.nil_append, ansC] at HT
                have hin := coreInside HY.out
                rw [HIY.out.r.ins] at hin
                refine (DoesG.use hin HT.out [0] rfl rfl).mono ?_
                clear hin
                rintro e w5 ⟨gs, ⟨rfl, gy1, hy1, rfl⟩, Ta⟩
                simp only [putG, List.set_cons_zero, List.set_cons_succ, List.cons_append, List.nil_append, List.append_nil] at Ta
                have HT := Lib.hid Ta
                have HY1 := Lib.hid hy1
                clear Ta hy1 ltc c0 HY
                have a0 := HT.out.cell 5 0 rfl 0
                have a1 := HT.out.cell 5 0 rfl 1
                have a2 := HT.out.cell 5 0 rfl 2
                simp only [ansC, List.getElem?_toArray, List.getElem?_cons_zero, List.getElem?_cons_succ] at a0 a1 a2
                obtain ⟨r0, r1, hrr⟩ := two_of HIY.out.sh
                obtain ⟨p0, hp0, hpv0⟩ := core_q HY1.out (i := 0) (by rw [HIY.out.sh]; decide)
                obtain ⟨p1, hp1, hpv1⟩ := core_q HY1.out (i := 1) (by rw [HIY.out.sh]; decide)
                have hr0 : y.shs[0]? = some r0 := by rw [hrr]; rfl
                have hr1 : y.shs[1]? = some r1 := by rw [hrr]; rfl
                have cb0 := (HIY.out.n.ring r0 (List.mem_of_getElem? hr0)).b (by omega)
                have cb1 := (HIY.out.n.ring r1 (List.mem_of_getElem? hr1)).b (by omega)
                have HP0 := Lib.hid (show ∀ (y : CoreS) g, isCore L y g → ReadsG Tryz.prog 29 #[ptr' L.fb, .int .i64 0] [g] (ptr' p0.b) from fun y g hx => by have h := coreShardAt_r hx ((0 : Nat) : Int); rw [hpv0] at h; exact h)
                have HP1 := Lib.hid (show ∀ (y : CoreS) g, isCore L y g → ReadsG Tryz.prog 29 #[ptr' L.fb, .int .i64 1] [g] (ptr' p1.b) from fun y g hx => by have h := coreShardAt_r hx ((1 : Nat) : Int); rw [hpv1] at h; exact h)
                have HV0 := Lib.hid (fun (g : List Blk) (hx : isCore L y g) => coreWaiting hx hp0 hr0 cb0)
                have HV1 := Lib.hid (fun (g : List Blk) (hx : isCore L y g) => coreWaiting hx hp1 hr1 cb1)
                have HYW := Lib.hid (fun (g : List Blk) (hx : isCore L y g) (i : Int) => coreWord (x := y) hx HIY.out.n.slab.n1 i)
                have HWB := Lib.hid (And.intro (word_bd HIY.out.n.slab) (word_bd HI.out.n.slab))
                have HMORE := Lib.hid (show waitsH y.shs = r0.ring.tail - r0.ring.head + (r1.ring.tail - r1.ring.head) ∧ waitsH xx.shs = s0.ring.tail - s0.ring.head + (s1.ring.tail - s1.ring.head) from ⟨by rw [hrr]; simp [waitsH], by rw [HSS.out]; simp [waitsH]⟩)
                have e0 := cb0.t0
                have e1 := cb0.t1
                have e2 := cb0.h0
                have e3 := cb0.h1
                have e4 := cb1.t0
                have e5 := cb1.t1
                have e6 := cb1.h0
                have e7 := cb1.h1
                clear hp0 hpv0 hp1 hpv1 hr0 hr1 cb0 cb1 hrr
                go_wp2_with fail
                refine (ReadsG.use (HP0.out _ _ HY1.out) (HT.out) [0] rfl rfl).mono ?_
                rintro e w1 ⟨rfl, mq, rfl⟩
                have HT := Lib.hid (HT.out.drewN mq)
                generalize World.drewN _ _ = wq at HT ⊢
                clear a0 a1 a2
                go_wp2_with fail
                refine (DoesG.use (HV0.out _ HY1.out) (HT.out) [0] rfl rfl).mono ?_
                rintro e w1 ⟨gs, ⟨rfl, g11, hx11, rfl⟩, Ta⟩
                simp only [putG, List.set_cons_zero, List.set_cons_succ, List.cons_append, List.nil_append, List.append_nil] at Ta
                have HX11 := Lib.hid hx11
                clear hx11
                have HT := Lib.hid Ta
                clear Ta
                go_wp2_with fail
                refine (ReadsG.use (HP1.out _ _ HX11.out) (HT.out) [0] rfl rfl).mono ?_
                rintro e w1 ⟨rfl, mq, rfl⟩
                have HT := Lib.hid (HT.out.drewN mq)
                generalize World.drewN _ _ = wq at HT ⊢
                go_wp2_with fail
                refine (DoesG.use (HV1.out _ HX11.out) (HT.out) [0] rfl rfl).mono ?_
                rintro e w1 ⟨gs, ⟨rfl, g12, hx12, rfl⟩, Ta⟩
                simp only [putG, List.set_cons_zero, List.set_cons_succ, List.cons_append, List.nil_append, List.append_nil] at Ta
                have HX12 := Lib.hid hx12
                clear hx12
                have HT := Lib.hid Ta
                clear Ta
                go_wp2
                clear e0 e1 e2 e3 e4 e5 e6 e7 t0b t1b t2b t3b h0b h1b h2b h3b
                go_loopw [26] (fun iv wr => ∃ (j : Nat) (g : List Blk), j ≤ N ∧ iv = .int .i64 j ∧ isCore L y g ∧ TG [] w [g, gP, [cl L.p.lb 174 #[.slice none 0 0]], [cl cb 24 #[.int .i64 c.kind, .int .u64 c.id, .int .u64 c.dl, .int .u64 c.per]], [cl wb 55 D], [cl w4.heap.size 30 #[.int .i64 0, .bool true, .int .u64 id, .int .u64 gen, .slice none 0 0]]] wr) (fun i _ => N - (intOf i).toNat)
                case atStart => exact ⟨0, g12, Nat.zero_le _, rfl, HX12.out, HT.out⟩
                case round =>
                  obtain ⟨j, g13, hj, rfl, hx13, T⟩ := hrel
                  have HX13 := Lib.hid hx13
                  have HT := Lib.hid T
                  clear hx13 T HX12 HY1
                  by_cases hlt3 : j < N
                  · go_wp2_with fail
                    refine (ReadsG.use (coreSlab_r HX13.out) (HT.out) [0] rfl rfl).mono ?_
                    rintro e w1 ⟨rfl, mq, rfl⟩
                    have HT := Lib.hid (HT.out.drewN mq)
                    generalize World.drewN _ _ = wq at HT ⊢
                    go_wp2_with fail
                    refine (DoesG.use (HYW.out _ HX13.out _) (HT.out) [0] rfl rfl).mono ?_
                    rintro e w1 ⟨gs, ⟨rfl, g14, hx14, rfl⟩, Ta⟩
                    simp only [putG, List.set_cons_zero, List.set_cons_succ, List.cons_append, List.nil_append, List.append_nil] at Ta
                    have HX14 := Lib.hid hx14
                    clear hx14
                    have HT := Lib.hid Ta
                    clear Ta
                    have d0 := (HT.out.cell 4 0 rfl j).trans (HWN.out j hlt3)
                    have a0 := HT.out.cell 5 0 rfl 0
                    have a1 := HT.out.cell 5 0 rfl 1
                    have a2 := HT.out.cell 5 0 rfl 2
                    simp only [ansC, List.getElem?_toArray, List.getElem?_cons_zero, List.getElem?_cons_succ] at a0 a1 a2
                    have hwy := HWB.out.1 (j : Int)
                    have hwx := HWB.out.2 (j : Int)
                    have HWY := Lib.hid hwy
                    have HWX := Lib.hid hwx
                    obtain ⟨hwy0, hwy1, _⟩ := hwy
                    obtain ⟨hwx0, hwx1, _⟩ := hwx
                    obtain ⟨_, _, id0, id1, hwd, _, _⟩ := HRES.out.yes rfl
                    have m0 : 0 ≤ id % 64 := by omega
                    have m1 : id % 64 < 64 := by omega
                    by_cases hjo : (j : Int) = id % 64
                    · have bo : (id % 64 == (j : Int)) = true := by simp [hjo]
                      clear hwd hjo
                      by_cases hs : y.slab.word j = xx.slab.word j
                      · have bs : (y.slab.word j == xx.slab.word j) = true := by simp [hs]
                        clear hs
                        go_wp2
                        first
                        | (go_roundw
                           case rel => exact ⟨j + 1, g14, by omega, by go_num, HX14.out, HT.out⟩
                           case measure => simp [intOf]; omega)
                        | (refine ⟨?_, by simp [intOf]; omega⟩
                           repeat apply Exists.intro
                           exact ⟨⟨j + 1, g14, by omega, by go_num, HX14.out, HT.out⟩, rfl⟩)
                      · have bs : (y.slab.word j == xx.slab.word j) = false := beq_eq_false_iff_ne.2 hs
                        clear hs
                        go_wp2
                        first
                        | (go_roundw
                           case rel => exact ⟨j + 1, g14, by omega, by go_num, HX14.out, HT.out⟩
                           case measure => simp [intOf]; omega)
                        | (refine ⟨?_, by simp [intOf]; omega⟩
                           repeat apply Exists.intro
                           exact ⟨⟨j + 1, g14, by omega, by go_num, HX14.out, HT.out⟩, rfl⟩)
                    · have bo : (id % 64 == (j : Int)) = false := beq_eq_false_iff_ne.2 (fun h => hjo h.symm)
                      have bs : (y.slab.word j == xx.slab.word j) = true := by simp [hwd j hjo]
                      clear hwd hjo
                      go_wp2
                      first
                      | (go_roundw
                         case rel => exact ⟨j + 1, g14, by omega, by go_num, HX14.out, HT.out⟩
                         case measure => simp [intOf]; omega)
                      | (refine ⟨?_, by simp [intOf]; omega⟩
                         repeat apply Exists.intro
                         exact ⟨⟨j + 1, g14, by omega, by go_num, HX14.out, HT.out⟩, rfl⟩)
                  · have hjN : j = N := by omega
                    obtain ⟨_, _, _, _, _, hwt, hcn⟩ := HRES.out.yes rfl
                    obtain ⟨hm1, hm2⟩ := HMORE.out
                    have cn0 := HI.out.n.slab.c0
                    have cn1 := HI.out.n.slab.c1
                    rw [hxl] at cn1
                    rw [hm1, hm2] at hwt
                    by_cases k4 : c.kind = 4
                    · have b4 : (c.kind == 4) = true := by simp [k4]
                      rw [if_pos k4] at hcn
                      rw [if_pos (.inl k4)] at hwt
                      have bc : (y.slab.count == xx.slab.count - 1) = true := by simp [hcn]; omega
                      have bm : (r0.ring.tail - r0.ring.head + (r1.ring.tail - r1.ring.head) - (s0.ring.tail - s0.ring.head + (s1.ring.tail - s1.ring.head)) == 0) = true := by rw [hwt]; simp
                      clear hcn hwt hm1 hm2 k4
                      have a1 := HT.out.cell 5 0 rfl 1
                      simp only [ansC, List.getElem?_toArray, List.getElem?_cons_zero, List.getElem?_cons_succ] at a1
                      have c0 := HT.out.cell 3 0 rfl 0
                      simp only [ansC, List.getElem?_toArray, List.getElem?_cons_zero, List.getElem?_cons_succ] at c0
                      go_wp2_with fail
                      refine (ReadsG.use (coreSlab_r HX13.out) (HT.out) [0] rfl rfl).mono ?_
                      rintro e w1 ⟨rfl, mq, rfl⟩
                      have HT := Lib.hid (HT.out.drewN mq)
                      generalize World.drewN _ _ = wq at HT ⊢
                      go_wp2_with fail
                      refine (DoesG.use (coreCount HX13.out) (HT.out) [0] rfl rfl).mono ?_
                      rintro e w1 ⟨gs, ⟨rfl, g15, hx15, rfl⟩, Ta⟩
                      simp only [putG, List.set_cons_zero, List.set_cons_succ, List.cons_append, List.nil_append, List.append_nil] at Ta
                      clear hx15 a1 c0
                      have HT := Lib.hid Ta
                      clear Ta
                      go_wp2
                      go_ret
                      exact ⟨rfl, HT.out.bel⟩
                    · have b4 : (c.kind == 4) = false := beq_eq_false_iff_ne.2 k4
                      rw [if_neg k4] at hcn
                      by_cases k5 : c.kind = 5
                      · have b5 : (c.kind == 5) = true := by simp [k5]
                        rw [if_pos (.inr k5)] at hcn
                        rw [if_pos (.inr k5)] at hwt
                        have bc : (y.slab.count == xx.slab.count) = true := by simp [hcn]
                        have bm : (r0.ring.tail - r0.ring.head + (r1.ring.tail - r1.ring.head) - (s0.ring.tail - s0.ring.head + (s1.ring.tail - s1.ring.head)) == 0) = true := by rw [hwt]; simp
                        clear hcn hwt hm1 hm2 k4 k5
                        have a1 := HT.out.cell 5 0 rfl 1
                        simp only [ansC, List.getElem?_toArray, List.getElem?_cons_zero, List.getElem?_cons_succ] at a1
                        have c0 := HT.out.cell 3 0 rfl 0
                        simp only [ansC, List.getElem?_toArray, List.getElem?_cons_zero, List.getElem?_cons_succ] at c0
                        go_wp2_with fail
                        refine (ReadsG.use (coreSlab_r HX13.out) (HT.out) [0] rfl rfl).mono ?_
                        rintro e w1 ⟨rfl, mq, rfl⟩
                        have HT := Lib.hid (HT.out.drewN mq)
                        generalize World.drewN _ _ = wq at HT ⊢
                        go_wp2_with fail
                        refine (DoesG.use (coreCount HX13.out) (HT.out) [0] rfl rfl).mono ?_
                        rintro e w1 ⟨gs, ⟨rfl, g15, hx15, rfl⟩, Ta⟩
                        simp only [putG, List.set_cons_zero, List.set_cons_succ, List.cons_append, List.nil_append, List.append_nil] at Ta
                        clear hx15 a1 c0
                        have HT := Lib.hid Ta
                        clear Ta
                        go_wp2
                        go_ret
                        exact ⟨rfl, HT.out.bel⟩
                      · have b5 : (c.kind == 5) = false := beq_eq_false_iff_ne.2 k5
                        rw [if_neg (by omega)] at hwt
                        have bm : (r0.ring.tail - r0.ring.head + (r1.ring.tail - r1.ring.head) - (s0.ring.tail - s0.ring.head + (s1.ring.tail - s1.ring.head)) == 1) = true := by rw [hwt]; simp; omega
                        by_cases k3 : c.kind = 3
                        · have b3 : (c.kind == 3) = true := by simp [k3]
                          rw [if_pos (.inl k3)] at hcn
                          have bc : (y.slab.count == xx.slab.count) = true := by simp [hcn]
                          clear hcn hwt hm1 hm2 k4 k5 k3
                          have a1 := HT.out.cell 5 0 rfl 1
                          simp only [ansC, List.getElem?_toArray, List.getElem?_cons_zero, List.getElem?_cons_succ] at a1
                          have c0 := HT.out.cell 3 0 rfl 0
                          simp only [ansC, List.getElem?_toArray, List.getElem?_cons_zero, List.getElem?_cons_succ] at c0
                          go_wp2_with fail
                          refine (ReadsG.use (coreSlab_r HX13.out) (HT.out) [0] rfl rfl).mono ?_
                          rintro e w1 ⟨rfl, mq, rfl⟩
                          have HT := Lib.hid (HT.out.drewN mq)
                          generalize World.drewN _ _ = wq at HT ⊢
                          go_wp2_with fail
                          refine (DoesG.use (coreCount HX13.out) (HT.out) [0] rfl rfl).mono ?_
                          rintro e w1 ⟨gs, ⟨rfl, g15, hx15, rfl⟩, Ta⟩
                          simp only [putG, List.set_cons_zero, List.set_cons_succ, List.cons_append, List.nil_append, List.append_nil] at Ta
                          clear hx15 a1 c0
                          have HT := Lib.hid Ta
                          clear Ta
                          go_wp2
                          go_ret
                          exact ⟨rfl, HT.out.bel⟩
                        · have b3 : (c.kind == 3) = false := beq_eq_false_iff_ne.2 k3
                          rw [if_neg (by omega)] at hcn
                          have bc : (y.slab.count == xx.slab.count + 1) = true := by simp [hcn]
                          clear hcn hwt hm1 hm2 k4 k5 k3
                          have a1 := HT.out.cell 5 0 rfl 1
                          simp only [ansC, List.getElem?_toArray, List.getElem?_cons_zero, List.getElem?_cons_succ] at a1
                          have c0 := HT.out.cell 3 0 rfl 0
                          simp only [ansC, List.getElem?_toArray, List.getElem?_cons_zero, List.getElem?_cons_succ] at c0
                          go_wp2_with fail
                          refine (ReadsG.use (coreSlab_r HX13.out) (HT.out) [0] rfl rfl).mono ?_
                          rintro e w1 ⟨rfl, mq, rfl⟩
                          have HT := Lib.hid (HT.out.drewN mq)
                          generalize World.drewN _ _ = wq at HT ⊢
                          go_wp2_with fail
                          refine (DoesG.use (coreCount HX13.out) (HT.out) [0] rfl rfl).mono ?_
                          rintro e w1 ⟨gs, ⟨rfl, g15, hx15, rfl⟩, Ta⟩
                          simp only [putG, List.set_cons_zero, List.set_cons_succ, List.cons_append, List.nil_append, List.append_nil] at Ta
                          clear hx15 a1 c0
                          have HT := Lib.hid Ta
                          clear Ta
                          go_wp2
                          go_ret
                          exact ⟨rfl, HT.out.bel⟩
            · have HRUN := Lib.hid (lawRunBad HX8.out c (by omega))
              simp only [CallC.cells] at HRUN
              go_wp2_with fail
              refine (DoesG.use HRUN.out HT.out [0] rfl rfl).mono ?_
              rintro e w4 ⟨gs, ⟨rfl, rfl⟩, Ta⟩
              simp only [putG, List.set_cons_zero, List.set_cons_succ, List.cons_append, List.nil_append, List.append_nil] at Ta
              have HT := Lib.hid Ta
              clear Ta c0 c1 c2 c3
              have c0 := HT.out.cell 3 0 rfl 0
              simp only [CallC.cells, List.getElem?_toArray, List.getElem?_cons_zero, List.getElem?_cons_succ] at c0
              have ltc := HT.out.lt 3 0 rfl
              simp only [] at ltc
              simp only [ansC]
              by_cases h1 : c.kind < 1
              · have d1 : decide (c.kind < 1) = true := decide_eq_true h1
                clear hkd h1
                go_wp2
                go_ret
                exact ⟨rfl, (HT.out.alloc0 _).bel⟩
              · have d1 : decide (c.kind < 1) = false := decide_eq_false h1
                have d5 : decide (c.kind > 5) = true := decide_eq_true (by omega)
                clear hkd h1
                go_wp2
                go_ret
                exact ⟨rfl, (HT.out.alloc0 _).bel⟩
      · go_wp2_with fail
        refine (DoesG.use (coreShut HX.out) (HT.out) [0] rfl rfl).mono ?_
        rintro e w1 ⟨gs, ⟨rfl, g2, hx2, rfl⟩, Ta⟩
        simp only [putG, List.set_cons_zero, List.set_cons_succ, List.cons_append, List.nil_append, List.append_nil] at Ta
        have HX := Lib.hid hx2
        clear hx2
        have HT := Lib.hid Ta
        clear Ta
        have HI := Lib.hid HI.out.shut
        go_wp2
        obtain ⟨N, hN⟩ : ∃ N : Nat, (N : Int) = 1 + room % 8 := ⟨(1 + room % 8).toNat, by omega⟩
        have hN8 : N ≤ 8 := by omega
        have hxl : x.slab.recs.length = N := by rw [HI.out.len]; omega
        obtain ⟨xx, hxx⟩ : ∃ xx, { x with f := { x.f with closed := true } } = xx := ⟨_, rfl⟩
        rw [hxx] at HX HI
        have hxl : xx.slab.recs.length = N := by rw [HI.out.len]; omega
        have HT := Lib.hid (HT.out.alloc (k := w1.heap.size) rfl 55 #[.int .u64 0, .int .u64 0, .int .u64 0, .int .u64 0, .int .u64 0, .int .u64 0, .int .u64 0, .int .u64 0])
        simp only [List.cons_append, List.nil_append] at HT
        have HWD := Lib.hid (fun (g : List Blk) (hx : isCore L xx g) (i : Int) => coreWord (x := xx) hx HI.out.n.slab.n1 i)
        generalize w1.heap.size = wb at *
        clear hxx
        go_loopw [19] (fun i wr => ∃ (k : Nat) (D : Array Value) (g : List Blk), k ≤ N ∧ i = .int .i64 k ∧ D.size = 8 ∧ (∀ j, j < k → D[j]? = some (.int .u64 (xx.slab.word j))) ∧ isCore L xx g ∧ TG [] w [g, gP, [cl L.p.lb 174 #[.slice none 0 0]], [cl cb 24 c.cells], [cl wb 55 D]] wr) (fun i _ => N - (intOf i).toNat)
        case atStart => exact ⟨0, _, _, Nat.zero_le _, rfl, rfl, fun j hj => absurd hj (Nat.not_lt_zero _), HX.out, HT.out⟩
        case round =>
          obtain ⟨i, D, g5, hi, rfl, hD, hW, hx, T⟩ := hrel
          have HX5 := Lib.hid hx
          have HT := Lib.hid T
          have HWW := Lib.hid hW
          have HDD := Lib.hid hD
          clear hx T hW hD HX
          by_cases hlt : i < N
          · go_wp2_with fail
            refine (ReadsG.use (coreSlab_r HX5.out) (HT.out) [0] rfl rfl).mono ?_
            rintro e w1 ⟨rfl, mq, rfl⟩
            have HT := Lib.hid (HT.out.drewN mq)
            generalize World.drewN _ _ = wq at HT ⊢
            go_wp2_with fail
            refine (DoesG.use (HWD.out _ HX5.out _) (HT.out) [0] rfl rfl).mono ?_
            rintro e w1 ⟨gs, ⟨rfl, g6, hx6, rfl⟩, Ta⟩
            simp only [putG, List.set_cons_zero, List.set_cons_succ, List.cons_append, List.nil_append, List.append_nil] at Ta
            have HX6 := Lib.hid hx6
            clear hx6
            have HT := Lib.hid Ta
            clear Ta
            have d0 := (HT.out.cell 4 0 rfl i).trans (Array.getElem?_eq_getElem (by rw [HDD.out]; omega))
            have fd0 := HT.out.free 4 0 rfl i
            go_wp2
            first
            | (go_roundw
               case rel => exact ⟨i + 1, _, g6, by omega, by go_num, by rw [Array.size_setIfInBounds]; exact HDD.out, wordsAt_set HDD.out HWW.out (by omega), HX6.out, HT.out.set 4 0 rfl i _⟩
               case measure => simp [intOf]; omega)
            | exact ⟨⟨i + 1, _, g6, by omega, by go_num, by rw [Array.size_setIfInBounds]; exact HDD.out, wordsAt_set HDD.out HWW.out (by omega), HX6.out, HT.out.set 4 0 rfl i _⟩, by simp [intOf]; omega⟩
            | ((repeat apply Exists.intro); exact ⟨⟨⟨i + 1, _, g6, by omega, by go_num, by rw [Array.size_setIfInBounds]; exact HDD.out, wordsAt_set HDD.out HWW.out (by omega), HX6.out, HT.out.set 4 0 rfl i _⟩, rfl⟩, by simp [intOf]; omega⟩)
          · have hiN : i = N := by omega
            have HWN := Lib.hid (show ∀ j, j < N → D[j]? = some (.int .u64 (xx.slab.word j)) from by rw [← hiN]; exact HWW.out)
            obtain ⟨s0, s1, hss⟩ := two_of HI.out.sh
            obtain ⟨q0, hq0, hqv0⟩ := core_q HX5.out (i := 0) (by rw [HI.out.sh]; decide)
            obtain ⟨q1, hq1, hqv1⟩ := core_q HX5.out (i := 1) (by rw [HI.out.sh]; decide)
            have hs0 : xx.shs[0]? = some s0 := by rw [hss]; rfl
            have hs1 : xx.shs[1]? = some s1 := by rw [hss]; rfl
            have rb0 := (HI.out.n.ring s0 (List.mem_of_getElem? hs0)).b (by omega)
            have rb1 := (HI.out.n.ring s1 (List.mem_of_getElem? hs1)).b (by omega)
            have HS0 := Lib.hid (show ∀ (y : CoreS) g, isCore L y g → ReadsG Tryz.prog 29 #[ptr' L.fb, .int .i64 0] [g] (ptr' q0.b) from fun y g hx => by have h := coreShardAt_r hx ((0 : Nat) : Int); rw [hqv0] at h; exact h)
            have HS1 := Lib.hid (show ∀ (y : CoreS) g, isCore L y g → ReadsG Tryz.prog 29 #[ptr' L.fb, .int .i64 1] [g] (ptr' q1.b) from fun y g hx => by have h := coreShardAt_r hx ((1 : Nat) : Int); rw [hqv1] at h; exact h)
            have HQ := Lib.hid (And.intro hq0 hq1)
            have HW0 := Lib.hid (fun (g : List Blk) (hx : isCore L xx g) => coreWaiting hx hq0 hs0 rb0)
            have HW1 := Lib.hid (fun (g : List Blk) (hx : isCore L xx g) => coreWaiting hx hq1 hs1 rb1)
            have t0b := rb0.t0
            have t1b := rb0.t1
            have h0b := rb0.h0
            have h1b := rb0.h1
            have t2b := rb1.t0
            have t3b := rb1.t1
            have h2b := rb1.h0
            have h3b := rb1.h1
            have HSS := Lib.hid hss
            clear hq0 hqv0 hq1 hqv1 hs0 hs1 rb0 rb1 hss hlt hi
            go_wp2_with fail
            refine (ReadsG.use (coreSlab_r HX5.out) (HT.out) [0] rfl rfl).mono ?_
            rintro e w1 ⟨rfl, mq, rfl⟩
            have HT := Lib.hid (HT.out.drewN mq)
            generalize World.drewN _ _ = wq at HT ⊢
            go_wp2_with fail
            refine (DoesG.use (coreCount HX5.out) (HT.out) [0] rfl rfl).mono ?_
            rintro e w1 ⟨gs, ⟨rfl, g6, hx6, rfl⟩, Ta⟩
            simp only [putG, List.set_cons_zero, List.set_cons_succ, List.cons_append, List.nil_append, List.append_nil] at Ta
            have HX6 := Lib.hid hx6
            clear hx6
            have HT := Lib.hid Ta
            clear Ta
            go_wp2_with fail
            refine (ReadsG.use (HS0.out _ _ HX6.out) (HT.out) [0] rfl rfl).mono ?_
            rintro e w1 ⟨rfl, mq, rfl⟩
            have HT := Lib.hid (HT.out.drewN mq)
            generalize World.drewN _ _ = wq at HT ⊢
            go_wp2_with fail
            refine (DoesG.use (HW0.out _ HX6.out) (HT.out) [0] rfl rfl).mono ?_
            rintro e w1 ⟨gs, ⟨rfl, g7, hx7, rfl⟩, Ta⟩
            simp only [putG, List.set_cons_zero, List.set_cons_succ, List.cons_append, List.nil_append, List.append_nil] at Ta
            have HX7 := Lib.hid hx7
            clear hx7
            have HT := Lib.hid Ta
            clear Ta
            go_wp2_with fail
            refine (ReadsG.use (HS1.out _ _ HX7.out) (HT.out) [0] rfl rfl).mono ?_
            rintro e w1 ⟨rfl, mq, rfl⟩
            have HT := Lib.hid (HT.out.drewN mq)
            generalize World.drewN _ _ = wq at HT ⊢
            go_wp2_with fail
            refine (DoesG.use (HW1.out _ HX7.out) (HT.out) [0] rfl rfl).mono ?_
            rintro e w1 ⟨gs, ⟨rfl, g8, hx8, rfl⟩, Ta⟩
            simp only [putG, List.set_cons_zero, List.set_cons_succ, List.cons_append, List.nil_append, List.append_nil] at Ta
            have HX8 := Lib.hid hx8
            clear hx8
            have HT := Lib.hid Ta
            clear Ta
            have c0 := HT.out.cell 3 0 rfl 0
            have c1 := HT.out.cell 3 0 rfl 1
            have c2 := HT.out.cell 3 0 rfl 2
            have c3 := HT.out.cell 3 0 rfl 3
            simp only [CallC.cells, List.getElem?_toArray, List.getElem?_cons_zero, List.getElem?_cons_succ] at c0 c1 c2 c3
            by_cases hkd : 1 ≤ c.kind ∧ c.kind ≤ 5
            · obtain ⟨hk1, hk5⟩ := hkd
              obtain ⟨nn, S, H, err, ok, id, gen, hR, hrun⟩ := ref_run HX8.out HI.out (by omega) HCW.out hk1 hk5
              have HRUN := Lib.hid hrun
              clear hrun
              simp only [CallC.cells] at HRUN
              go_wp2_with fail
              refine (DoesG.use HRUN.out HT.out [0] rfl rfl).mono ?_
              rintro e w4 ⟨gs, ⟨rfl, y, gy, hy, hIy, hfy, rfl, rfl, rfl⟩, Ta⟩
              simp only [putG, List.set_cons_zero, List.set_cons_succ, List.cons_append, List.nil_append, List.append_nil] at Ta
              have HT := Lib.hid Ta
              have HY := Lib.hid hy
              have HIY := Lib.hid hIy
              clear Ta hy hIy HRUN c0 c1 c2 c3 HX8
              have c0 := HT.out.cell 3 0 rfl 0
              simp only [CallC.cells, List.getElem?_toArray, List.getElem?_cons_zero, List.getElem?_cons_succ] at c0
              have ltc := HT.out.lt 3 0 rfl
              simp only [] at ltc
              have d1 : decide (c.kind < 1) = false := decide_eq_false (by omega)
              have d5 : decide (c.kind > 5) = false := decide_eq_false (by omega)
              have HRES := Lib.hid hR
              clear hR
              simp only [ansC]
              cases ok
              · rcases (HRES.out.shut HI.out.cl).2 with he | he
                · subst he
                  go_wp2_with fail
                  have HT := Lib.hid (HT.out.alloc (k := w4.heap.size) rfl 30 (ansC 3 false id gen))
                  simp only [List.cons_append, List.nil_append, ansC] at HT
                  have hin := coreInside HY.out
                  rw [HIY.out.r.ins] at hin
                  refine (DoesG.use hin HT.out [0] rfl rfl).mono ?_
                  clear hin
                  rintro e w5 ⟨gs, ⟨rfl, gy1, hy1, rfl⟩, Ta⟩
                  simp only [putG, List.set_cons_zero, List.set_cons_succ, List.cons_append, List.nil_append, List.append_nil] at Ta
                  have HT := Lib.hid Ta
                  have HY1 := Lib.hid hy1
                  clear Ta hy1 ltc c0 HY
                  have a0 := HT.out.cell 5 0 rfl 0
                  have a1 := HT.out.cell 5 0 rfl 1
                  have a2 := HT.out.cell 5 0 rfl 2
                  simp only [ansC, List.getElem?_toArray, List.getElem?_cons_zero, List.getElem?_cons_succ] at a0 a1 a2
                  obtain ⟨r0, r1, hrr⟩ := two_of HIY.out.sh
                  obtain ⟨p0, hp0, hpv0⟩ := core_q HY1.out (i := 0) (by rw [HIY.out.sh]; decide)
                  obtain ⟨p1, hp1, hpv1⟩ := core_q HY1.out (i := 1) (by rw [HIY.out.sh]; decide)
                  have hr0 : y.shs[0]? = some r0 := by rw [hrr]; rfl
                  have hr1 : y.shs[1]? = some r1 := by rw [hrr]; rfl
                  have cb0 := (HIY.out.n.ring r0 (List.mem_of_getElem? hr0)).b (by omega)
                  have cb1 := (HIY.out.n.ring r1 (List.mem_of_getElem? hr1)).b (by omega)
                  have HP0 := Lib.hid (show ∀ (y : CoreS) g, isCore L y g → ReadsG Tryz.prog 29 #[ptr' L.fb, .int .i64 0] [g] (ptr' p0.b) from fun y g hx => by have h := coreShardAt_r hx ((0 : Nat) : Int); rw [hpv0] at h; exact h)
                  have HP1 := Lib.hid (show ∀ (y : CoreS) g, isCore L y g → ReadsG Tryz.prog 29 #[ptr' L.fb, .int .i64 1] [g] (ptr' p1.b) from fun y g hx => by have h := coreShardAt_r hx ((1 : Nat) : Int); rw [hpv1] at h; exact h)
                  have HV0 := Lib.hid (fun (g : List Blk) (hx : isCore L y g) => coreWaiting hx hp0 hr0 cb0)
                  have HV1 := Lib.hid (fun (g : List Blk) (hx : isCore L y g) => coreWaiting hx hp1 hr1 cb1)
                  have HYW := Lib.hid (fun (g : List Blk) (hx : isCore L y g) (i : Int) => coreWord (x := y) hx HIY.out.n.slab.n1 i)
                  have HWB := Lib.hid (And.intro (word_bd HIY.out.n.slab) (word_bd HI.out.n.slab))
                  have HMORE := Lib.hid (show waitsH y.shs = r0.ring.tail - r0.ring.head + (r1.ring.tail - r1.ring.head) ∧ waitsH xx.shs = s0.ring.tail - s0.ring.head + (s1.ring.tail - s1.ring.head) from ⟨by rw [hrr]; simp [waitsH], by rw [HSS.out]; simp [waitsH]⟩)
                  have e0 := cb0.t0
                  have e1 := cb0.t1
                  have e2 := cb0.h0
                  have e3 := cb0.h1
                  have e4 := cb1.t0
                  have e5 := cb1.t1
                  have e6 := cb1.h0
                  have e7 := cb1.h1
                  clear hp0 hpv0 hp1 hpv1 hr0 hr1 cb0 cb1 hrr
                  go_wp2_with fail
                  refine (ReadsG.use (HP0.out _ _ HY1.out) (HT.out) [0] rfl rfl).mono ?_
                  rintro e w1 ⟨rfl, mq, rfl⟩
                  have HT := Lib.hid (HT.out.drewN mq)
                  generalize World.drewN _ _ = wq at HT ⊢
                  clear a0 a1 a2
                  go_wp2_with fail
                  refine (DoesG.use (HV0.out _ HY1.out) (HT.out) [0] rfl rfl).mono ?_
                  rintro e w1 ⟨gs, ⟨rfl, g11, hx11, rfl⟩, Ta⟩
                  simp only [putG, List.set_cons_zero, List.set_cons_succ, List.cons_append, List.nil_append, List.append_nil] at Ta
                  have HX11 := Lib.hid hx11
                  clear hx11
                  have HT := Lib.hid Ta
                  clear Ta
                  go_wp2_with fail
                  refine (ReadsG.use (HP1.out _ _ HX11.out) (HT.out) [0] rfl rfl).mono ?_
                  rintro e w1 ⟨rfl, mq, rfl⟩
                  have HT := Lib.hid (HT.out.drewN mq)
                  generalize World.drewN _ _ = wq at HT ⊢
                  go_wp2_with fail
                  refine (DoesG.use (HV1.out _ HX11.out) (HT.out) [0] rfl rfl).mono ?_
                  rintro e w1 ⟨gs, ⟨rfl, g12, hx12, rfl⟩, Ta⟩
                  simp only [putG, List.set_cons_zero, List.set_cons_succ, List.cons_append, List.nil_append, List.append_nil] at Ta
                  have HX12 := Lib.hid hx12
                  clear hx12
                  have HT := Lib.hid Ta
                  clear Ta
                  go_wp2
                  clear e0 e1 e2 e3 e4 e5 e6 e7 t0b t1b t2b t3b h0b h1b h2b h3b
                  go_loopw [26] (fun iv wr => ∃ (j : Nat) (g : List Blk), j ≤ N ∧ iv = .int .i64 j ∧ isCore L y g ∧ TG [] w [g, gP, [cl L.p.lb 174 #[.slice none 0 0]], [cl cb 24 #[.int .i64 c.kind, .int .u64 c.id, .int .u64 c.dl, .int .u64 c.per]], [cl wb 55 D], [cl w4.heap.size 30 #[.int .i64 3, .bool false, .int .u64 id, .int .u64 gen, .slice none 0 0]]] wr) (fun i _ => N - (intOf i).toNat)
                  case atStart => exact ⟨0, g12, Nat.zero_le _, rfl, HX12.out, HT.out⟩
                  case round =>
                    obtain ⟨j, g13, hj, rfl, hx13, T⟩ := hrel
                    have HX13 := Lib.hid hx13
                    have HT := Lib.hid T
                    clear hx13 T HX12 HY1
                    by_cases hlt3 : j < N
                    · go_wp2_with fail
                      refine (ReadsG.use (coreSlab_r HX13.out) (HT.out) [0] rfl rfl).mono ?_
                      rintro e w1 ⟨rfl, mq, rfl⟩
                      have HT := Lib.hid (HT.out.drewN mq)
                      generalize World.drewN _ _ = wq at HT ⊢
                      go_wp2_with fail
                      refine (DoesG.use (HYW.out _ HX13.out _) (HT.out) [0] rfl rfl).mono ?_
                      rintro e w1 ⟨gs, ⟨rfl, g14, hx14, rfl⟩, Ta⟩
                      simp only [putG, List.set_cons_zero, List.set_cons_succ, List.cons_append, List.nil_append, List.append_nil] at Ta
                      have HX14 := Lib.hid hx14
                      clear hx14
                      have HT := Lib.hid Ta
                      clear Ta
                      have d0 := (HT.out.cell 4 0 rfl j).trans (HWN.out j hlt3)
                      have a0 := HT.out.cell 5 0 rfl 0
                      have a1 := HT.out.cell 5 0 rfl 1
                      have a2 := HT.out.cell 5 0 rfl 2
                      simp only [ansC, List.getElem?_toArray, List.getElem?_cons_zero, List.getElem?_cons_succ] at a0 a1 a2
                      have hwy := HWB.out.1 (j : Int)
                      have hwx := HWB.out.2 (j : Int)
                      have HWY := Lib.hid hwy
                      have HWX := Lib.hid hwx
                      obtain ⟨hwy0, hwy1, _⟩ := hwy
                      obtain ⟨hwx0, hwx1, _⟩ := hwx
                      obtain ⟨_, _, hwd⟩ := HRES.out.no rfl
                      have bs : (y.slab.word j == xx.slab.word j) = true := by simp [(hwd j).resolve_right (fun h => absurd h.1 (by decide))]
                      clear hwd
                      go_wp2
                      first
                      | (go_roundw
                         case rel => exact ⟨j + 1, g14, by omega, by go_num, HX14.out, HT.out⟩
                         case measure => simp [intOf]; omega)
                      | (refine ⟨?_, by simp [intOf]; omega⟩
                         repeat apply Exists.intro
                         exact ⟨⟨j + 1, g14, by omega, by go_num, HX14.out, HT.out⟩, rfl⟩)
                    · have hjN : j = N := by omega
                      obtain ⟨hcn, hwt, _⟩ := HRES.out.no rfl
                      obtain ⟨hm1, hm2⟩ := HMORE.out
                      have bc : (y.slab.count == xx.slab.count) = true := by simp [hcn]
                      have bm : (r0.ring.tail - r0.ring.head + (r1.ring.tail - r1.ring.head) - (s0.ring.tail - s0.ring.head + (s1.ring.tail - s1.ring.head)) == 0) = true := by
                        rw [← hm1, ← hm2, hwt]; simp
                      clear hcn hwt hm1 hm2
                      have a1 := HT.out.cell 5 0 rfl 1
                      simp only [ansC, List.getElem?_toArray, List.getElem?_cons_zero, List.getElem?_cons_succ] at a1
                      have c0 := HT.out.cell 3 0 rfl 0
                      simp only [ansC, List.getElem?_toArray, List.getElem?_cons_zero, List.getElem?_cons_succ] at c0
                      go_wp2_with fail
                      refine (ReadsG.use (coreSlab_r HX13.out) (HT.out) [0] rfl rfl).mono ?_
                      rintro e w1 ⟨rfl, mq, rfl⟩
                      have HT := Lib.hid (HT.out.drewN mq)
                      generalize World.drewN _ _ = wq at HT ⊢
                      go_wp2_with fail
                      refine (DoesG.use (coreCount HX13.out) (HT.out) [0] rfl rfl).mono ?_
                      rintro e w1 ⟨gs, ⟨rfl, g15, hx15, rfl⟩, Ta⟩
                      simp only [putG, List.set_cons_zero, List.set_cons_succ, List.cons_append, List.nil_append, List.append_nil] at Ta
                      clear hx15 a1 c0
                      have HT := Lib.hid Ta
                      clear Ta
                      go_wp2
                      go_ret
                      exact ⟨rfl, HT.out.bel⟩
                · subst he
                  go_wp2_with fail
                  have HT := Lib.hid (HT.out.alloc (k := w4.heap.size) rfl 30 (ansC 1 false id gen))
                  simp only [List.cons_append, List.nil_append, ansC] at HT
                  have hin := coreInside HY.out
                  rw [HIY.out.r.ins] at hin
                  refine (DoesG.use hin HT.out [0] rfl rfl).mono ?_
                  clear hin
                  rintro e w5 ⟨gs, ⟨rfl, gy1, hy1, rfl⟩, Ta⟩
                  simp only [putG, List.set_cons_zero, List.set_cons_succ, List.cons_append, List.nil_append, List.append_nil] at Ta
                  have HT := Lib.hid Ta
                  have HY1 := Lib.hid hy1
                  clear Ta hy1 ltc c0 HY
                  have a0 := HT.out.cell 5 0 rfl 0
                  have a1 := HT.out.cell 5 0 rfl 1
                  have a2 := HT.out.cell 5 0 rfl 2
                  simp only [ansC, List.getElem?_toArray, List.getElem?_cons_zero, List.getElem?_cons_succ] at a0 a1 a2
                  obtain ⟨r0, r1, hrr⟩ := two_of HIY.out.sh
                  obtain ⟨p0, hp0, hpv0⟩ := core_q HY1.out (i := 0) (by rw [HIY.out.sh]; decide)
                  obtain ⟨p1, hp1, hpv1⟩ := core_q HY1.out (i := 1) (by rw [HIY.out.sh]; decide)
                  have hr0 : y.shs[0]? = some r0 := by rw [hrr]; rfl
                  have hr1 : y.shs[1]? = some r1 := by rw [hrr]; rfl
                  have cb0 := (HIY.out.n.ring r0 (List.mem_of_getElem? hr0)).b (by omega)
                  have cb1 := (HIY.out.n.ring r1 (List.mem_of_getElem? hr1)).b (by omega)
                  have HP0 := Lib.hid (show ∀ (y : CoreS) g, isCore L y g → ReadsG Tryz.prog 29 #[ptr' L.fb, .int .i64 0] [g] (ptr' p0.b) from fun y g hx => by have h := coreShardAt_r hx ((0 : Nat) : Int); rw [hpv0] at h; exact h)
                  have HP1 := Lib.hid (show ∀ (y : CoreS) g, isCore L y g → ReadsG Tryz.prog 29 #[ptr' L.fb, .int .i64 1] [g] (ptr' p1.b) from fun y g hx => by have h := coreShardAt_r hx ((1 : Nat) : Int); rw [hpv1] at h; exact h)
                  have HV0 := Lib.hid (fun (g : List Blk) (hx : isCore L y g) => coreWaiting hx hp0 hr0 cb0)
                  have HV1 := Lib.hid (fun (g : List Blk) (hx : isCore L y g) => coreWaiting hx hp1 hr1 cb1)
                  have HYW := Lib.hid (fun (g : List Blk) (hx : isCore L y g) (i : Int) => coreWord (x := y) hx HIY.out.n.slab.n1 i)
                  have HWB := Lib.hid (And.intro (word_bd HIY.out.n.slab) (word_bd HI.out.n.slab))
                  have HMORE := Lib.hid (show waitsH y.shs = r0.ring.tail - r0.ring.head + (r1.ring.tail - r1.ring.head) ∧ waitsH xx.shs = s0.ring.tail - s0.ring.head + (s1.ring.tail - s1.ring.head) from ⟨by rw [hrr]; simp [waitsH], by rw [HSS.out]; simp [waitsH]⟩)
                  have e0 := cb0.t0
                  have e1 := cb0.t1
                  have e2 := cb0.h0
                  have e3 := cb0.h1
                  have e4 := cb1.t0
                  have e5 := cb1.t1
                  have e6 := cb1.h0
                  have e7 := cb1.h1
                  clear hp0 hpv0 hp1 hpv1 hr0 hr1 cb0 cb1 hrr
                  go_wp2_with fail
                  refine (ReadsG.use (HP0.out _ _ HY1.out) (HT.out) [0] rfl rfl).mono ?_
                  rintro e w1 ⟨rfl, mq, rfl⟩
                  have HT := Lib.hid (HT.out.drewN mq)
                  generalize World.drewN _ _ = wq at HT ⊢
                  clear a0 a1 a2
                  go_wp2_with fail
                  refine (DoesG.use (HV0.out _ HY1.out) (HT.out) [0] rfl rfl).mono ?_
                  rintro e w1 ⟨gs, ⟨rfl, g11, hx11, rfl⟩, Ta⟩
                  simp only [putG, List.set_cons_zero, List.set_cons_succ, List.cons_append, List.nil_append, List.append_nil] at Ta
                  have HX11 := Lib.hid hx11
                  clear hx11
                  have HT := Lib.hid Ta
                  clear Ta
                  go_wp2_with fail
                  refine (ReadsG.use (HP1.out _ _ HX11.out) (HT.out) [0] rfl rfl).mono ?_
                  rintro e w1 ⟨rfl, mq, rfl⟩
                  have HT := Lib.hid (HT.out.drewN mq)
                  generalize World.drewN _ _ = wq at HT ⊢
                  go_wp2_with fail
                  refine (DoesG.use (HV1.out _ HX11.out) (HT.out) [0] rfl rfl).mono ?_
                  rintro e w1 ⟨gs, ⟨rfl, g12, hx12, rfl⟩, Ta⟩
                  simp only [putG, List.set_cons_zero, List.set_cons_succ, List.cons_append, List.nil_append, List.append_nil] at Ta
                  have HX12 := Lib.hid hx12
                  clear hx12
                  have HT := Lib.hid Ta
                  clear Ta
                  go_wp2
                  clear e0 e1 e2 e3 e4 e5 e6 e7 t0b t1b t2b t3b h0b h1b h2b h3b
                  go_loopw [26] (fun iv wr => ∃ (j : Nat) (g : List Blk), j ≤ N ∧ iv = .int .i64 j ∧ isCore L y g ∧ TG [] w [g, gP, [cl L.p.lb 174 #[.slice none 0 0]], [cl cb 24 #[.int .i64 c.kind, .int .u64 c.id, .int .u64 c.dl, .int .u64 c.per]], [cl wb 55 D], [cl w4.heap.size 30 #[.int .i64 1, .bool false, .int .u64 id, .int .u64 gen, .slice none 0 0]]] wr) (fun i _ => N - (intOf i).toNat)
                  case atStart => exact ⟨0, g12, Nat.zero_le _, rfl, HX12.out, HT.out⟩
                  case round =>
                    obtain ⟨j, g13, hj, rfl, hx13, T⟩ := hrel
                    have HX13 := Lib.hid hx13
                    have HT := Lib.hid T
                    clear hx13 T HX12 HY1
                    by_cases hlt3 : j < N
                    · go_wp2_with fail
                      refine (ReadsG.use (coreSlab_r HX13.out) (HT.out) [0] rfl rfl).mono ?_
                      rintro e w1 ⟨rfl, mq, rfl⟩
                      have HT := Lib.hid (HT.out.drewN mq)
                      generalize World.drewN _ _ = wq at HT ⊢
                      go_wp2_with fail
                      refine (DoesG.use (HYW.out _ HX13.out _) (HT.out) [0] rfl rfl).mono ?_
                      rintro e w1 ⟨gs, ⟨rfl, g14, hx14, rfl⟩, Ta⟩
                      simp only [putG, List.set_cons_zero, List.set_cons_succ, List.cons_append, List.nil_append, List.append_nil] at Ta
                      have HX14 := Lib.hid hx14
                      clear hx14
                      have HT := Lib.hid Ta
                      clear Ta
                      have d0 := (HT.out.cell 4 0 rfl j).trans (HWN.out j hlt3)
                      have a0 := HT.out.cell 5 0 rfl 0
                      have a1 := HT.out.cell 5 0 rfl 1
                      have a2 := HT.out.cell 5 0 rfl 2
                      simp only [ansC, List.getElem?_toArray, List.getElem?_cons_zero, List.getElem?_cons_succ] at a0 a1 a2
                      have hwy := HWB.out.1 (j : Int)
                      have hwx := HWB.out.2 (j : Int)
                      have HWY := Lib.hid hwy
                      have HWX := Lib.hid hwx
                      obtain ⟨hwy0, hwy1, _⟩ := hwy
                      obtain ⟨hwx0, hwx1, _⟩ := hwx
                      obtain ⟨_, _, hwd⟩ := HRES.out.no rfl
                      have bs : (y.slab.word j == xx.slab.word j) = true := by simp [(hwd j).resolve_right (fun h => absurd h.1 (by decide))]
                      clear hwd
                      go_wp2
                      first
                      | (go_roundw
                         case rel => exact ⟨j + 1, g14, by omega, by go_num, HX14.out, HT.out⟩
                         case measure => simp [intOf]; omega)
                      | (refine ⟨?_, by simp [intOf]; omega⟩
                         repeat apply Exists.intro
                         exact ⟨⟨j + 1, g14, by omega, by go_num, HX14.out, HT.out⟩, rfl⟩)
                    · have hjN : j = N := by omega
                      obtain ⟨hcn, hwt, _⟩ := HRES.out.no rfl
                      obtain ⟨hm1, hm2⟩ := HMORE.out
                      have bc : (y.slab.count == xx.slab.count) = true := by simp [hcn]
                      have bm : (r0.ring.tail - r0.ring.head + (r1.ring.tail - r1.ring.head) - (s0.ring.tail - s0.ring.head + (s1.ring.tail - s1.ring.head)) == 0) = true := by
                        rw [← hm1, ← hm2, hwt]; simp
                      clear hcn hwt hm1 hm2
                      have a1 := HT.out.cell 5 0 rfl 1
                      simp only [ansC, List.getElem?_toArray, List.getElem?_cons_zero, List.getElem?_cons_succ] at a1
                      have c0 := HT.out.cell 3 0 rfl 0
                      simp only [ansC, List.getElem?_toArray, List.getElem?_cons_zero, List.getElem?_cons_succ] at c0
                      go_wp2_with fail
                      refine (ReadsG.use (coreSlab_r HX13.out) (HT.out) [0] rfl rfl).mono ?_
                      rintro e w1 ⟨rfl, mq, rfl⟩
                      have HT := Lib.hid (HT.out.drewN mq)
                      generalize World.drewN _ _ = wq at HT ⊢
                      go_wp2_with fail
                      refine (DoesG.use (coreCount HX13.out) (HT.out) [0] rfl rfl).mono ?_
                      rintro e w1 ⟨gs, ⟨rfl, g15, hx15, rfl⟩, Ta⟩
                      simp only [putG, List.set_cons_zero, List.set_cons_succ, List.cons_append, List.nil_append, List.append_nil] at Ta
                      clear hx15 a1 c0
                      have HT := Lib.hid Ta
                      clear Ta
                      go_wp2
                      go_ret
                      exact ⟨rfl, HT.out.bel⟩
              · exact absurd (HRES.out.shut HI.out.cl).1 (by decide)
            · have HRUN := Lib.hid (lawRunBad HX8.out c (by omega))
              simp only [CallC.cells] at HRUN
              go_wp2_with fail
              refine (DoesG.use HRUN.out HT.out [0] rfl rfl).mono ?_
              rintro e w4 ⟨gs, ⟨rfl, rfl⟩, Ta⟩
              simp only [putG, List.set_cons_zero, List.set_cons_succ, List.cons_append, List.nil_append, List.append_nil] at Ta
              have HT := Lib.hid Ta
              clear Ta c0 c1 c2 c3
              have c0 := HT.out.cell 3 0 rfl 0
              simp only [CallC.cells, List.getElem?_toArray, List.getElem?_cons_zero, List.getElem?_cons_succ] at c0
              have ltc := HT.out.lt 3 0 rfl
              simp only [] at ltc
              simp only [ansC]
              by_cases h1 : c.kind < 1
              · have d1 : decide (c.kind < 1) = true := decide_eq_true h1
                clear hkd h1
                go_wp2
                go_ret
                exact ⟨rfl, (HT.out.alloc0 _).bel⟩
              · have d1 : decide (c.kind < 1) = false := decide_eq_false h1
                have d5 : decide (c.kind > 5) = true := decide_eq_true (by omega)
                clear hkd h1
                go_wp2
                go_ret
                exact ⟨rfl, (HT.out.alloc0 _).bel⟩
end Go.Proofs.YthbjaoinklhikaaGreat
