import Derived.Test.YtmakficmfgkngaaFloorN
import Derived.Test.YtmakficmfgkngaaFloorS
import Derived.Test.YtmakficmfgkngaaSlabL
import Derived.LaidEqlPtr
namespace Go.Proofs.Ytmakficmfgkngaa
set_option linter.unusedVariables false
set_option linter.unusedSimpArgs false
open Go.RowKit Go.Shelf

theorem check_c {c : Cfg} {x : Int} (E : (if c.ok then (0 : Int) else 8) = x) : DoesG Try.prog 14 #[.agg #[.int .i64 c.sh, .int .i64 c.cap, .int .i64 c.ring, .int .i64 c.room, .int .i64 c.wk, .int .i64 c.cli]] [] fun e gs => e = .returned (.int .i64 x) ∧ gs = [] := by
  have := check_g c; rw [E] at this; exact this
theorem refCheck_c {c : Cfg} {b : Bool} (E : c.ok = b) : DoesG Try.prog 13 #[.agg #[.int .i64 c.sh, .int .i64 c.cap, .int .i64 c.ring, .int .i64 c.room, .int .i64 c.wk, .int .i64 c.cli]] [] fun e gs => e = .returned (.bool b) ∧ gs = [] := by
  have := refCheck_g c; rw [E] at this; exact this
theorem floorNew_noc {c : Cfg} (hk : c.ok = false) : DoesG Try.prog 10 #[.agg #[.int .i64 c.sh, .int .i64 c.cap, .int .i64 c.ring, .int .i64 c.room, .int .i64 c.wk, .int .i64 c.cli]] [] fun e gs => e = .returned (.tuple #[.pointer none, .int .i64 8]) ∧ gs = [] := floorNew_no c hk
theorem floorNew_c {c : Cfg} (hk : c.ok = true) : DoesG Try.prog 10 #[.agg #[.int .i64 c.sh, .int .i64 c.cap, .int .i64 c.ring, .int .i64 c.room, .int .i64 c.wk, .int .i64 c.cli]] [] fun e gs =>
    ∃ fb p shs gF gS gR gH gP gL, e = .returned (.tuple #[ptr' fb, .int .i64 0]) ∧ FloorAll fb p ⟨c, false, 0, 0, 0⟩ (.slice none 0 0) (newSlab c.cap.toNat) shs gF gS gR gH gP gL ∧ (shs.length : Int) = c.sh ∧ (∀ x ∈ shs, x.2 = newShard c.ring.toNat) ∧ gs = [gF, gS, gR, gH, gP, gL] := floorNew_g c hk
theorem floorConfig_c {fb : Nat} {p : FPtr} {c : Cfg} {k : Bool} {x y z : Int} {tr : Value} {g : List Blk} (hg : isFloor fb p ⟨c, k, x, y, z⟩ tr g) : DoesG Try.prog 15 #[ptr' fb] [g] fun e gs => e = .returned (.agg #[.int .i64 c.sh, .int .i64 c.cap, .int .i64 c.ring, .int .i64 c.room, .int .i64 c.wk, .int .i64 c.cli]) ∧ gs = [g] := floorConfig_g hg
set_option maxRecDepth 100000 in
set_option maxHeartbeats 4000000 in
theorem lawMade_no (c : Cfg) (i : Int) (hk : c.ok = false) :
    DoesG Try.prog 4 #[.agg c.cells, .int .i64 i] [] fun e gs => e = .returned (.bool true) ∧ gs = [] := by
  intro w hw
  have T0 := TG.refl hw
  have HT := Lib.hid T0
  clear hw T0
  simp only [Cfg.cells]
  go_enter Try.func4, Try.ntmps4
  go_wp2_with fail
  refine (DoesG.use (alive_g) ((HT.out.alloc rfl _ _)) [] rfl rfl).mono ?_
  rintro e w1 ⟨gs, ⟨rfl, rfl⟩, Ta⟩
  simp only [putG, List.set_cons_zero, List.set_cons_succ, List.cons_append, List.nil_append, List.append_nil] at Ta
  have q := Ta.cell 0 0 rfl
  have HT := Lib.hid Ta
  clear Ta
  go_wp2_with fail
  refine (DoesG.use (floorNew_noc hk) (HT.out) [] rfl rfl).mono ?_
  rintro e w1 ⟨gs, ⟨rfl, rfl⟩, Ta⟩
  simp only [putG, List.set_cons_zero, List.set_cons_succ, List.cons_append, List.nil_append, List.append_nil] at Ta
  have q := Ta.cell 0 0 rfl
  have HT := Lib.hid Ta
  clear Ta
  go_wp2_with fail
  refine (DoesG.use (refCheck_c hk) (HT.out) [] rfl rfl).mono ?_
  rintro e w1 ⟨gs, ⟨rfl, rfl⟩, Ta⟩
  simp only [putG, List.set_cons_zero, List.set_cons_succ, List.cons_append, List.nil_append, List.append_nil] at Ta
  have q := Ta.cell 0 0 rfl
  have HT := Lib.hid Ta
  clear Ta
  go_wp2_with fail
  refine (DoesG.use (check_c (x := 8) (if_neg (by rw [hk]; decide))) (HT.out) [] rfl rfl).mono ?_
  rintro e w1 ⟨gs, ⟨rfl, rfl⟩, Ta⟩
  simp only [putG, List.set_cons_zero, List.set_cons_succ, List.cons_append, List.nil_append, List.append_nil] at Ta
  have q := Ta.cell 0 0 rfl
  have HT := Lib.hid Ta
  clear Ta
  go_wp2
  go_ret
  exact ⟨[], ⟨rfl, rfl⟩, HT.out.pick [] rfl⟩
theorem run_neq_ptr_same {P : Program} (w : World) {tp te : TypeId} {j : TypeInfo} (a : Addr) (hp : P.underlying tp = some (.pointer te)) (hte : P.info? te = some j) :
    (binOp .neq tp (.pointer (some a)) (.pointer (some a))).run P w = .ok (.bool false) w := by
  have h : ∀ d : Nat, (Op.equalIn (d + 1) tp (.pointer (some a)) (.pointer (some a))).run P w = .ok true w := fun d => by
    simp [Op.equalIn, run_underlying hp, sizeOf, typeInfo, hte, run_sameAddr_same]
  simp only [binOp]
  simp [Op.equal, Op.maxDepth, h 9999]
theorem shard_nsame (b : Nat) (w : World) : (binOp .neq 31 (ptr' b) (ptr' b)).run Try.prog w = .ok (.bool false) w := by
  obtain ⟨i, hi, _, _, _⟩ := info_parts Try.infoShardT
  exact run_neq_ptr_same w ⟨b, 0, none⟩ Try.underlying31 hi
theorem homeR {fb : Nat} {p : FPtr} {f : FloorS} {tr : Value} {g : List Blk} {shs : List Nat} {gR : List Blk} {i : Int} {v : Value} (E : homeV shs i = v) (hg : isFloor fb p f tr g) (hr : rowG 31 1 p.sh shs.length (shs.map fun x => ptr' x) gR) (hn : 1 ≤ shs.length) :
    ReadsG Try.prog 12 #[ptr' fb, .int .i64 i] [g, gR] v := by
  have := floorHome_r hg hr hn i; rwa [E] at this
theorem shardR {fb : Nat} {p : FPtr} {f : FloorS} {tr : Value} {g : List Blk} {shs : List Nat} {gR : List Blk} {i : Int} {v : Value} (E : shardV shs i = v) (hg : isFloor fb p f tr g) (hr : rowG 31 1 p.sh shs.length (shs.map fun x => ptr' x) gR) :
    ReadsG Try.prog 22 #[ptr' fb, .int .i64 i] [g, gR] v := by
  have := floorShard_r hg hr i; rwa [E] at this
theorem use_key {G : Prop} {P A : World → Prop} (main : (∀ w2, A w2 → P w2) → G) (key : ∀ w2, A w2 → P w2) : G := main key
theorem newSlab_word (n : Nat) (k : Int) : (newSlab n).word k = 0 := by
  unfold SlabS.word newSlab
  split
  · rw [List.getD_eq_getElem?_getD, List.getElem?_replicate]; split <;> rfl
  · rfl
theorem made_idx {l : List Nat} {i n : Int} {u : Nat} (hu : l.getD (i % (l.length : Int)).toNat 0 = u) (hl : (l.length : Int) = n) (h1 : 1 ≤ l.length) (h0 : 0 ≤ i) :
    homeV l i = ptr' u ∧ shardV l (i % n) = ptr' u ∧ (i < n → shardV l i = ptr' u) ∧ (n ≤ i → shardV l i = .pointer none) := by
  have x0 : 0 ≤ i % (l.length : Int) := Int.emod_nonneg _ (by omega)
  have x1 : i % (l.length : Int) < l.length := Int.emod_lt_of_pos _ (by omega)
  refine ⟨?_, ?_, fun h => ?_, fun h => ?_⟩
  · unfold homeV; rw [if_pos h0, hu]
  · unfold shardV; rw [← hl, if_pos ⟨x0, x1⟩, hu]
  · have : i % (l.length : Int) = i := Int.emod_eq_of_lt h0 (by omega)
    rw [this] at hu
    unfold shardV; rw [if_pos ⟨h0, by omega⟩, hu]
  · exact if_neg (by omega)
set_option maxRecDepth 100000 in
set_option maxHeartbeats 8000000 in
theorem lawMade_yes (c : Cfg) (i : Int) (hk : c.ok = true) :
    DoesG Try.prog 4 #[.agg c.cells, .int .i64 i] [] fun e gs => e = .returned (.bool true) ∧ gs = [] := by
  intro w hw
  have T0 := TG.refl hw
  have HT := Lib.hid T0
  clear hw T0
  simp only [Cfg.cells]
  go_enter Try.func4, Try.ntmps4
  go_wp2_with fail
  refine (DoesG.use (alive_g) ((HT.out.alloc rfl _ _)) [] rfl rfl).mono ?_
  rintro e w1 ⟨gs, ⟨rfl, rfl⟩, Ta⟩
  simp only [putG, List.set_cons_zero, List.set_cons_succ, List.cons_append, List.nil_append, List.append_nil] at Ta
  have q := Ta.cell 0 0 rfl
  have HT := Lib.hid Ta
  clear Ta
  go_wp2_with fail
  refine (DoesG.use (floorNew_c hk) (HT.out) [] rfl rfl).mono ?_
  rintro e w1 ⟨gs, ⟨fb, p, shs, gF, gS, gR, gH, gP, gL, rfl, hall, hlen, hnew, rfl⟩, Ta⟩
  simp only [putG, List.set_cons_zero, List.set_cons_succ, List.cons_append, List.nil_append, List.append_nil] at Ta
  have q := Ta.cell 0 0 rfl
  have HT := Lib.hid Ta
  clear Ta
  go_wp2_with fail
  refine (DoesG.use (refCheck_c hk) (HT.out) [] rfl rfl).mono ?_
  rintro e w1 ⟨gs, ⟨rfl, rfl⟩, Ta⟩
  simp only [putG, List.set_cons_zero, List.set_cons_succ, List.cons_append, List.nil_append, List.append_nil] at Ta
  have q := Ta.cell 0 0 rfl
  have HT := Lib.hid Ta
  clear Ta
  have hF := hall.floor
  have hR := hall.row'
  have hP := hall.pipe
  have hS := hall.slab
  obtain rfl := hall.log
  have hl : ((shs.map Prod.fst).length : Int) = c.sh := by rw [List.length_map]; exact hlen
  obtain ⟨l, hl'⟩ : ∃ l, shs.map Prod.fst = l := ⟨_, rfl⟩
  rw [hl'] at hR hl
  have hbd := Cfg.bd hk
  have HBD := Lib.hid hbd
  clear hall hlen hnew hl' hbd
  have HLL := Lib.hid hl
  clear hl
  have hln : 1 ≤ l.length := by have := HBD.out.1; have := HLL.out; omega
  have hsh1 : 1 ≤ c.sh := HBD.out.1.1
  have hsh2 : c.sh ≤ 4 := HBD.out.1.2
  have hc1 : 1 ≤ c.cap := HBD.out.2.1.1
  have hc2 : c.cap ≤ 64 := HBD.out.2.1.2
  have hwr : IntKind.i64.wrap (c.cap - 1) = c.cap - 1 := by rw [IntKind.wrap_i64]; omega
  have HWR := Lib.hid hwr
  have HW0 := Lib.hid (newSlab_word c.cap.toNat (c.cap - 1))
  have HV0 := Lib.hid (newSlab_word c.cap.toNat c.cap)
  have HW1 := Lib.hid (show (newSlab c.cap.toNat).werr (c.cap - 1) = 0 from if_pos (by simp [SlabS.has, newSlab]; omega))
  have HW2 := Lib.hid (show (newSlab c.cap.toNat).werr c.cap = 4 from if_neg (by simp [SlabS.has, newSlab]; omega))
  have HW3 := Lib.hid (show (newSlab c.cap.toNat).recs.length ≤ 64 by simp [newSlab]; omega)
  obtain ⟨u, hu⟩ : ∃ u, l.getD (i % (l.length : Int)).toNat 0 = u := ⟨_, rfl⟩
  have HALL := Lib.hid (made_idx hu HLL.out hln)
  have hns := shard_nsame u
  clear hu
  go_wp2_with fail
  have HT := Lib.hid HT.out.drew
  apply use_key (A := fun w2 => ∃ g, isSlab p.sb (newSlab c.cap.toNat) g ∧ TG [] w [[cl w.heap.size 29 #[.int .i64 c.sh, .int .i64 c.cap, .int .i64 c.ring, .int .i64 c.room, .int .i64 c.wk, .int .i64 c.cli]], gF, g, gR, gH, gP, [cl p.lb 150 #[.slice none 0 0]]] w2)
  case main =>
    intro key
    go_region_with (
      first
      | (go_at_call 14
         refine (DoesG.use (check_c (x := 0) (if_pos hk)) HT.out [] rfl rfl).mono ?_
         rintro e w1 ⟨gs, ⟨rfl, rfl⟩, Ta⟩
         simp only [putG, List.set_cons_zero, List.set_cons_succ, List.cons_append, List.nil_append, List.append_nil] at Ta
         have q := Ta.cell 0 0 rfl
         have HT := Lib.hid Ta
         clear Ta)
      | (go_at_call 15
         refine (DoesG.use (floorConfig_c hF) HT.out [1] rfl rfl).mono ?_
         rintro e w1 ⟨gs, ⟨rfl, rfl⟩, Ta⟩
         simp only [putG, List.set_cons_zero, List.set_cons_succ, List.cons_append, List.nil_append, List.append_nil] at Ta
         have q := Ta.cell 0 0 rfl
         have HT := Lib.hid Ta
         clear Ta)
      | (go_at_call 16
         refine (DoesG.use (floorSlab_g hF) HT.out [1] rfl rfl).mono ?_
         rintro e w1 ⟨gs, ⟨rfl, rfl⟩, Ta⟩
         simp only [putG, List.set_cons_zero, List.set_cons_succ, List.cons_append, List.nil_append, List.append_nil] at Ta
         have q := Ta.cell 0 0 rfl
         have HT := Lib.hid Ta
         clear Ta)
      | (go_at_call 17
         refine (DoesG.use (floorPipe_g hF) HT.out [1] rfl rfl).mono ?_
         rintro e w1 ⟨gs, ⟨rfl, rfl⟩, Ta⟩
         simp only [putG, List.set_cons_zero, List.set_cons_succ, List.cons_append, List.nil_append, List.append_nil] at Ta
         have q := Ta.cell 0 0 rfl
         have HT := Lib.hid Ta
         clear Ta)
      | (go_at_call 18
         refine (DoesG.use (floorLog_g hF) HT.out [1] rfl rfl).mono ?_
         rintro e w1 ⟨gs, ⟨rfl, rfl⟩, Ta⟩
         simp only [putG, List.set_cons_zero, List.set_cons_succ, List.cons_append, List.nil_append, List.append_nil] at Ta
         have q := Ta.cell 0 0 rfl
         have HT := Lib.hid Ta
         clear Ta)
      | (go_at_call 19
         refine (DoesG.use ((pipeLen_r hP).does) HT.out [5] rfl rfl).mono ?_
         rintro e w1 ⟨gs, ⟨rfl, rfl⟩, Ta⟩
         simp only [putG, List.set_cons_zero, List.set_cons_succ, List.cons_append, List.nil_append, List.append_nil] at Ta
         have q := Ta.cell 0 0 rfl
         have HT := Lib.hid Ta
         clear Ta)
      | (go_at_call 20
         refine (DoesG.use (logLen0_g p.lb) HT.out [6] rfl rfl).mono ?_
         rintro e w1 ⟨gs, ⟨rfl, rfl⟩, Ta⟩
         simp only [putG, List.set_cons_zero, List.set_cons_succ, List.cons_append, List.nil_append, List.append_nil] at Ta
         have q := Ta.cell 0 0 rfl
         have HT := Lib.hid Ta
         clear Ta)
      | (go_at_call 21
         refine (DoesG.use (slabCount_g hS) HT.out [2] rfl rfl).mono ?_
         rintro e w1 ⟨gs, ⟨rfl, gS1, hS1, rfl⟩, Ta⟩
         simp only [putG, List.set_cons_zero, List.set_cons_succ, List.cons_append, List.nil_append, List.append_nil] at Ta
         have q := Ta.cell 0 0 rfl
         have HT := Lib.hid Ta
         clear Ta))
    all_goals exact key _ ⟨_, hS1, HT.out⟩
  case key =>
    rintro w1 ⟨gS1, hS1, T⟩
    have q := T.cell 0 0 rfl
    have HT := Lib.hid T
    clear T
    by_cases h0 : i < 0
    · have HS := Lib.hid (show shardV l i = .pointer none from if_neg (by omega))
      have HH := Lib.hid (show homeV l i = .pointer none from if_neg (by omega))
      have hd0 : decide (0 ≤ i) = false := decide_eq_false (by omega)
      have hd1 : ¬ 0 ≤ i := by omega
      obtain ⟨sv, hsv⟩ : ∃ sv, shardV l (i % c.sh) = sv := ⟨_, rfl⟩
      have HM := Lib.hid hsv
      clear hsv
      go_wp2_with fail
      refine (DoesG.use (floorShard_c HS.out hF hR) (HT.out) [1, 3] rfl rfl).mono ?_
      rintro e w1 ⟨gs, ⟨rfl, rfl⟩, Ta⟩
      simp only [putG, List.set_cons_zero, List.set_cons_succ, List.cons_append, List.nil_append, List.append_nil] at Ta
      have q := Ta.cell 0 0 rfl
      have HT := Lib.hid Ta
      clear Ta
      go_wp2_with fail
      refine (DoesG.use (floorHome_c HH.out hF hR hln) (HT.out) [1, 3] rfl rfl).mono ?_
      rintro e w1 ⟨gs, ⟨rfl, rfl⟩, Ta⟩
      simp only [putG, List.set_cons_zero, List.set_cons_succ, List.cons_append, List.nil_append, List.append_nil] at Ta
      have q := Ta.cell 0 0 rfl
      have HT := Lib.hid Ta
      clear Ta
      go_wp2_with fail
      have qa := fun n => ReadsG.quiet (homeR HH.out hF hR hln) HT.out n [1, 3] rfl rfl
      have qb := fun n => ReadsG.quiet (shardR HM.out hF hR) HT.out n [1, 3] rfl rfl
      go_quiet (first
        | (go_at_call 12; with_reducible exact qa _)
        | (go_at_call 22; with_reducible exact qb _))
      have HT := Lib.hid (HT.out.drewN nq)
      go_wp2_with fail
      have HT := Lib.hid HT.out.drew
      apply use_key (A := fun w2 => ∃ g, isSlab p.sb (newSlab c.cap.toNat) g ∧ TG [] w [[cl w.heap.size 29 #[.int .i64 c.sh, .int .i64 c.cap, .int .i64 c.ring, .int .i64 c.room, .int .i64 c.wk, .int .i64 c.cli]], gF, g, gR, gH, gP, [cl p.lb 150 #[.slice none 0 0]]] w2)
      case main =>
        intro key
        go_region_with (
          first
          | (go_at_call 16
             refine (DoesG.use (floorSlab_g hF) HT.out [1] rfl rfl).mono ?_
             rintro e w1 ⟨gs, ⟨rfl, rfl⟩, Ta⟩
             simp only [putG, List.set_cons_zero, List.set_cons_succ, List.cons_append, List.nil_append, List.append_nil] at Ta
             have q := Ta.cell 0 0 rfl
             have HT := Lib.hid Ta
             clear Ta)
          | (go_at_call 23
             try rw [HWR.out]
             refine (DoesG.use (slabWord_c HW0.out HW1.out hS1 HW3.out) HT.out [2] rfl rfl).mono ?_
             rintro e w1 ⟨gs, ⟨rfl, gS2, hS2, rfl⟩, Ta⟩
             simp only [putG, List.set_cons_zero, List.set_cons_succ, List.cons_append, List.nil_append, List.append_nil] at Ta
             have q := Ta.cell 0 0 rfl
             have HT := Lib.hid Ta
             clear Ta))
        all_goals exact key _ ⟨_, hS2, HT.out⟩
      case key =>
        rintro w1 ⟨gS1, hS1, T⟩
        have q := T.cell 0 0 rfl
        have HT := Lib.hid T
        clear T
        go_wp2_with fail
        have HT := Lib.hid HT.out.drew
        apply use_key (A := fun w2 => ∃ g, isSlab p.sb (newSlab c.cap.toNat) g ∧ TG [] w [[cl w.heap.size 29 #[.int .i64 c.sh, .int .i64 c.cap, .int .i64 c.ring, .int .i64 c.room, .int .i64 c.wk, .int .i64 c.cli]], gF, g, gR, gH, gP, [cl p.lb 150 #[.slice none 0 0]]] w2)
        case main =>
          intro key
          go_region_with (
            first
            | (go_at_call 16
               refine (DoesG.use (floorSlab_g hF) HT.out [1] rfl rfl).mono ?_
               rintro e w1 ⟨gs, ⟨rfl, rfl⟩, Ta⟩
               simp only [putG, List.set_cons_zero, List.set_cons_succ, List.cons_append, List.nil_append, List.append_nil] at Ta
               have q := Ta.cell 0 0 rfl
               have HT := Lib.hid Ta
               clear Ta)
            | (go_at_call 23
               refine (DoesG.use (slabWord_c HV0.out HW2.out hS1 HW3.out) HT.out [2] rfl rfl).mono ?_
               rintro e w1 ⟨gs, ⟨rfl, gS2, hS2, rfl⟩, Ta⟩
               simp only [putG, List.set_cons_zero, List.set_cons_succ, List.cons_append, List.nil_append, List.append_nil] at Ta
               have q := Ta.cell 0 0 rfl
               have HT := Lib.hid Ta
               clear Ta))
          all_goals exact key _ ⟨_, hS2, HT.out⟩
        case key =>
          rintro w1 ⟨gS1, hS1, T⟩
          have q := T.cell 0 0 rfl
          have HT := Lib.hid T
          clear T
          go_wp2
          go_ret
          exact ⟨[], ⟨rfl, rfl⟩, HT.out.pick [] rfl⟩
    · have h0' : 0 ≤ i := by omega
      have HH := Lib.hid (HALL.out h0').1
      have HM := Lib.hid (HALL.out h0').2.1
      have HS1 := Lib.hid (HALL.out h0').2.2.1
      have HS2 := Lib.hid (HALL.out h0').2.2.2
      clear h0
      by_cases h1 : i < c.sh
      · have HS := Lib.hid (HS1.out h1)
        go_wp2_with fail
        refine (DoesG.use (floorShard_c HS.out hF hR) (HT.out) [1, 3] rfl rfl).mono ?_
        rintro e w1 ⟨gs, ⟨rfl, rfl⟩, Ta⟩
        simp only [putG, List.set_cons_zero, List.set_cons_succ, List.cons_append, List.nil_append, List.append_nil] at Ta
        have q := Ta.cell 0 0 rfl
        have HT := Lib.hid Ta
        clear Ta
        go_wp2_with fail
        refine (DoesG.use (floorHome_c HH.out hF hR hln) (HT.out) [1, 3] rfl rfl).mono ?_
        rintro e w1 ⟨gs, ⟨rfl, rfl⟩, Ta⟩
        simp only [putG, List.set_cons_zero, List.set_cons_succ, List.cons_append, List.nil_append, List.append_nil] at Ta
        have q := Ta.cell 0 0 rfl
        have HT := Lib.hid Ta
        clear Ta
        go_wp2_with fail
        have qa := fun n => ReadsG.quiet (homeR HH.out hF hR hln) HT.out n [1, 3] rfl rfl
        have qb := fun n => ReadsG.quiet (shardR HM.out hF hR) HT.out n [1, 3] rfl rfl
        go_quiet (first
          | (go_at_call 12; with_reducible exact qa _)
          | (go_at_call 22; with_reducible exact qb _))
        have HT := Lib.hid (HT.out.drewN nq)
        go_wp2_with fail
        have HT := Lib.hid HT.out.drew
        apply use_key (A := fun w2 => ∃ g, isSlab p.sb (newSlab c.cap.toNat) g ∧ TG [] w [[cl w.heap.size 29 #[.int .i64 c.sh, .int .i64 c.cap, .int .i64 c.ring, .int .i64 c.room, .int .i64 c.wk, .int .i64 c.cli]], gF, g, gR, gH, gP, [cl p.lb 150 #[.slice none 0 0]]] w2)
        case main =>
          intro key
          go_region_with (
            first
            | (go_at_call 16
               refine (DoesG.use (floorSlab_g hF) HT.out [1] rfl rfl).mono ?_
               rintro e w1 ⟨gs, ⟨rfl, rfl⟩, Ta⟩
               simp only [putG, List.set_cons_zero, List.set_cons_succ, List.cons_append, List.nil_append, List.append_nil] at Ta
               have q := Ta.cell 0 0 rfl
               have HT := Lib.hid Ta
               clear Ta)
            | (go_at_call 23
               try rw [HWR.out]
               refine (DoesG.use (slabWord_c HW0.out HW1.out hS1 HW3.out) HT.out [2] rfl rfl).mono ?_
               rintro e w1 ⟨gs, ⟨rfl, gS2, hS2, rfl⟩, Ta⟩
               simp only [putG, List.set_cons_zero, List.set_cons_succ, List.cons_append, List.nil_append, List.append_nil] at Ta
               have q := Ta.cell 0 0 rfl
               have HT := Lib.hid Ta
               clear Ta))
          all_goals exact key _ ⟨_, hS2, HT.out⟩
        case key =>
          rintro w1 ⟨gS1, hS1, T⟩
          have q := T.cell 0 0 rfl
          have HT := Lib.hid T
          clear T
          go_wp2_with fail
          have HT := Lib.hid HT.out.drew
          apply use_key (A := fun w2 => ∃ g, isSlab p.sb (newSlab c.cap.toNat) g ∧ TG [] w [[cl w.heap.size 29 #[.int .i64 c.sh, .int .i64 c.cap, .int .i64 c.ring, .int .i64 c.room, .int .i64 c.wk, .int .i64 c.cli]], gF, g, gR, gH, gP, [cl p.lb 150 #[.slice none 0 0]]] w2)
          case main =>
            intro key
            go_region_with (
              first
              | (go_at_call 16
                 refine (DoesG.use (floorSlab_g hF) HT.out [1] rfl rfl).mono ?_
                 rintro e w1 ⟨gs, ⟨rfl, rfl⟩, Ta⟩
                 simp only [putG, List.set_cons_zero, List.set_cons_succ, List.cons_append, List.nil_append, List.append_nil] at Ta
                 have q := Ta.cell 0 0 rfl
                 have HT := Lib.hid Ta
                 clear Ta)
              | (go_at_call 23
                 refine (DoesG.use (slabWord_c HV0.out HW2.out hS1 HW3.out) HT.out [2] rfl rfl).mono ?_
                 rintro e w1 ⟨gs, ⟨rfl, gS2, hS2, rfl⟩, Ta⟩
                 simp only [putG, List.set_cons_zero, List.set_cons_succ, List.cons_append, List.nil_append, List.append_nil] at Ta
                 have q := Ta.cell 0 0 rfl
                 have HT := Lib.hid Ta
                 clear Ta))
            all_goals exact key _ ⟨_, hS2, HT.out⟩
          case key =>
            rintro w1 ⟨gS1, hS1, T⟩
            have q := T.cell 0 0 rfl
            have HT := Lib.hid T
            clear T
            go_wp2
            go_ret
            exact ⟨[], ⟨rfl, rfl⟩, HT.out.pick [] rfl⟩
      · have HS := Lib.hid (HS2.out (by omega))
        go_wp2_with fail
        refine (DoesG.use (floorShard_c HS.out hF hR) (HT.out) [1, 3] rfl rfl).mono ?_
        rintro e w1 ⟨gs, ⟨rfl, rfl⟩, Ta⟩
        simp only [putG, List.set_cons_zero, List.set_cons_succ, List.cons_append, List.nil_append, List.append_nil] at Ta
        have q := Ta.cell 0 0 rfl
        have HT := Lib.hid Ta
        clear Ta
        go_wp2_with fail
        refine (DoesG.use (floorHome_c HH.out hF hR hln) (HT.out) [1, 3] rfl rfl).mono ?_
        rintro e w1 ⟨gs, ⟨rfl, rfl⟩, Ta⟩
        simp only [putG, List.set_cons_zero, List.set_cons_succ, List.cons_append, List.nil_append, List.append_nil] at Ta
        have q := Ta.cell 0 0 rfl
        have HT := Lib.hid Ta
        clear Ta
        go_wp2_with fail
        have qa := fun n => ReadsG.quiet (homeR HH.out hF hR hln) HT.out n [1, 3] rfl rfl
        have qb := fun n => ReadsG.quiet (shardR HM.out hF hR) HT.out n [1, 3] rfl rfl
        go_quiet (first
          | (go_at_call 12; with_reducible exact qa _)
          | (go_at_call 22; with_reducible exact qb _))
        have HT := Lib.hid (HT.out.drewN nq)
        go_wp2_with fail
        have HT := Lib.hid HT.out.drew
        apply use_key (A := fun w2 => ∃ g, isSlab p.sb (newSlab c.cap.toNat) g ∧ TG [] w [[cl w.heap.size 29 #[.int .i64 c.sh, .int .i64 c.cap, .int .i64 c.ring, .int .i64 c.room, .int .i64 c.wk, .int .i64 c.cli]], gF, g, gR, gH, gP, [cl p.lb 150 #[.slice none 0 0]]] w2)
        case main =>
          intro key
          go_region_with (
            first
            | (go_at_call 16
               refine (DoesG.use (floorSlab_g hF) HT.out [1] rfl rfl).mono ?_
               rintro e w1 ⟨gs, ⟨rfl, rfl⟩, Ta⟩
               simp only [putG, List.set_cons_zero, List.set_cons_succ, List.cons_append, List.nil_append, List.append_nil] at Ta
               have q := Ta.cell 0 0 rfl
               have HT := Lib.hid Ta
               clear Ta)
            | (go_at_call 23
               try rw [HWR.out]
               refine (DoesG.use (slabWord_c HW0.out HW1.out hS1 HW3.out) HT.out [2] rfl rfl).mono ?_
               rintro e w1 ⟨gs, ⟨rfl, gS2, hS2, rfl⟩, Ta⟩
               simp only [putG, List.set_cons_zero, List.set_cons_succ, List.cons_append, List.nil_append, List.append_nil] at Ta
               have q := Ta.cell 0 0 rfl
               have HT := Lib.hid Ta
               clear Ta))
          all_goals exact key _ ⟨_, hS2, HT.out⟩
        case key =>
          rintro w1 ⟨gS1, hS1, T⟩
          have q := T.cell 0 0 rfl
          have HT := Lib.hid T
          clear T
          go_wp2_with fail
          have HT := Lib.hid HT.out.drew
          apply use_key (A := fun w2 => ∃ g, isSlab p.sb (newSlab c.cap.toNat) g ∧ TG [] w [[cl w.heap.size 29 #[.int .i64 c.sh, .int .i64 c.cap, .int .i64 c.ring, .int .i64 c.room, .int .i64 c.wk, .int .i64 c.cli]], gF, g, gR, gH, gP, [cl p.lb 150 #[.slice none 0 0]]] w2)
          case main =>
            intro key
            go_region_with (
              first
              | (go_at_call 16
                 refine (DoesG.use (floorSlab_g hF) HT.out [1] rfl rfl).mono ?_
                 rintro e w1 ⟨gs, ⟨rfl, rfl⟩, Ta⟩
                 simp only [putG, List.set_cons_zero, List.set_cons_succ, List.cons_append, List.nil_append, List.append_nil] at Ta
                 have q := Ta.cell 0 0 rfl
                 have HT := Lib.hid Ta
                 clear Ta)
              | (go_at_call 23
                 refine (DoesG.use (slabWord_c HV0.out HW2.out hS1 HW3.out) HT.out [2] rfl rfl).mono ?_
                 rintro e w1 ⟨gs, ⟨rfl, gS2, hS2, rfl⟩, Ta⟩
                 simp only [putG, List.set_cons_zero, List.set_cons_succ, List.cons_append, List.nil_append, List.append_nil] at Ta
                 have q := Ta.cell 0 0 rfl
                 have HT := Lib.hid Ta
                 clear Ta))
            all_goals exact key _ ⟨_, hS2, HT.out⟩
          case key =>
            rintro w1 ⟨gS1, hS1, T⟩
            have q := T.cell 0 0 rfl
            have HT := Lib.hid T
            clear T
            go_wp2
            go_ret
            exact ⟨[], ⟨rfl, rfl⟩, HT.out.pick [] rfl⟩
theorem lawMade_g (c : Cfg) (i : Int) :
    DoesG Try.prog 4 #[.agg c.cells, .int .i64 i] [] fun e gs => e = .returned (.bool true) ∧ gs = [] := by
  cases hk : c.ok
  · exact lawMade_no c i hk
  · exact lawMade_yes c i hk
end Go.Proofs.Ytmakficmfgkngaa
