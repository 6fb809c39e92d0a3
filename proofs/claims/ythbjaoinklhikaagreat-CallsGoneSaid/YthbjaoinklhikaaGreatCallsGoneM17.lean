import Derived.Test.YthbjaoinklhikaaGreatCallsGoneM16
import Derived.Test.YthbjaoinklhikaaGreatCallsGoneM8
import Derived.Test.YthbjaoinklhikaaGreatCallsGoneM2
import Derived.Test.YthbjaoinklhikaaGreatCallsGoneM5
namespace Go.Proofs.YthbjaoinklhikaaGreat
set_option linter.unusedVariables false
set_option linter.unusedSimpArgs false
open Go.RowKit Go.Shelf

theorem call5_wf : call5.wf := ⟨⟨by decide, by decide⟩, ⟨by decide, by decide⟩, ⟨by decide, by decide⟩⟩
theorem cfg1_ok : cfg1.ok = true := by decide
set_option maxRecDepth 100000 in
theorem alive16_g : DoesG Tryz.prog 12 #[] [] fun e gs => e = .returned (.bool true) ∧ gs = [] := by
  have hrun : ∀ (L : Lay) (gF : List Blk), isCore L (core0 cfg1) gF → DoesG Tryz.prog 24 #[ptr' L.fb, .agg #[.int .i64 1, .int .u64 0, .int .u64 5, .int .u64 0]] [gF] fun e gs =>
      e = .returned (.tuple #[.agg #[.int .i64 0, .bool true, .int .u64 64, .int .u64 1, .slice none 0 0], .int .i64 13, .bool true]) ∧ ∃ gF', isCore L (itC 13 (firstC 1) z5).2.2 gF' ∧ gs = [gF'] := by
    intro L gF hx
    have h := lawRun hx call5 (by decide) (by decide) 13 1 (firstC 1) z5 rfl rfl (JC.first (core0_n cfg1_ok) call5_wf 0 1) (by decide) (by decide) runs5
    rw [end5.1, end5.2.1, end5.2.2.1, end5.2.2.2] at h
    exact h
  have HR := Lib.hid hrun
  have HN := Lib.hid (newCore cfg1 cfg1_ok)
  clear hrun
  intro w hw
  have T0 := TG.refl hw
  have HT := Lib.hid T0
  clear hw T0
  go_enter Tryz.func12, Tryz.ntmps12
  go_wp2_with fail
  refine (DoesG.use (HN.out) (HT.out) [] rfl rfl).mono ?_
  rintro e w1 ⟨gs, ⟨L, gF, gP, gL, rfl, hx, hp, rfl, rfl⟩, Ta⟩
  simp only [putG, List.set_cons_zero, List.set_cons_succ, List.cons_append, List.nil_append, List.append_nil] at Ta
  have HX := Lib.hid hx
  clear hx hp
  have HT := Lib.hid Ta
  clear Ta
  go_wp2_with fail
  refine (DoesG.use (HR.out _ _ HX.out) (HT.out) [0] rfl rfl).mono ?_
  rintro e w1 ⟨gs, ⟨rfl, gF', hx', rfl⟩, Ta⟩
  simp only [putG, List.set_cons_zero, List.set_cons_succ, List.cons_append, List.nil_append, List.append_nil] at Ta
  clear hx'
  have HT := Lib.hid Ta
  clear Ta
  go_wp2
  go_ret
  exact ⟨[], ⟨rfl, rfl⟩, (HT.out.alloc0 _).pick [] rfl⟩
end Go.Proofs.YthbjaoinklhikaaGreat

namespace Go.Proofs.YthbjaoinklhikaaGreat
set_option linter.unusedVariables false
set_option linter.unusedSimpArgs false
open Go.RowKit Go.Shelf

/-! ## A law's run, by what is known of a call alone -/
theorem lawRunO {L : Lay} {x : CoreS} {gF : List Blk} (hx : isCore L x gF) {c : CallC} (hw : c.wf) (h1 : 1 ≤ c.kind) (h5 : c.kind ≤ 5) {n N : Nat} (hc : CoreN N x) (hN : N + 1 + n < 1000000) (hn : n ≤ 499)
    {f : FloorS} {S : SlabS} {H : List ShardS} {err : Int} {ok : Bool} {id gen : Int} (ho : Out (firstC c.kind) (begZ c x) n f S H err ok id gen) :
    DoesG Tryz.prog 24 #[ptr' L.fb, .agg c.cells] [gF] fun e gs =>
      e = .returned (.tuple #[.agg (ansC err ok id gen), .int .i64 n, .bool true]) ∧ ∃ x' gF', isCore L x' gF' ∧ CoreN (N + 1 + n) x' ∧ x'.f = f ∧ x'.slab = S ∧ x'.shs = H ∧ gs = [gF'] := by
  have hj : JC (N + 1) (firstC c.kind) (begZ c x) := JC.first hc hw 0 1
  obtain ⟨hr, hf, hS, hH, he, hk, hi, hg⟩ := ho
  refine (lawRun hx c h1 h5 n (N + 1) (firstC c.kind) (begZ c x) rfl rfl hj hN hn hr).mono ?_
  rintro e gs ⟨h2, gF', hx', h3⟩
  rw [he, hk, hi, hg] at h2
  exact ⟨h2, _, gF', hx', (hj.it (N := N + 1) n).core, hf, hS, hH, h3⟩
theorem plain16_fine {room ring : Int} (h1 : 1 ≤ room) (h2 : room ≤ 64) (h3 : 1 ≤ ring) (h4 : ring ≤ 64) : (plain16 room ring).ok = true := by
  simp [plain16, Cfg.ok, Cfg.fine, Cfg.pair]; omega
theorem ends_ne {kd : Int} : (firstC kd).isNil = false := by
  unfold firstC
  split
  · rfl
  · split <;> rfl
set_option maxRecDepth 100000 in
/-- of another kind none begins -/
theorem lawRunBad {L : Lay} {x : CoreS} {gF : List Blk} (hx : isCore L x gF) (c : CallC) (hk : c.kind < 1 ∨ 5 < c.kind) :
    DoesG Tryz.prog 24 #[ptr' L.fb, .agg c.cells] [gF] fun e gs => e = .returned (.tuple #[.agg (ansC 0 false 0 0), .int .i64 0, .bool false]) ∧ gs = [gF] := by
  have HB := Lib.hid (callBegin_bad hx 0 1 c hk)
  have HA := Lib.hid callAnswer_nil
  intro w hw
  have T0 := TG.refl hw
  have HT := Lib.hid T0
  clear hw T0
  clear hx hk
  simp only [CallC.cells] at HB ⊢
  go_enter Tryz.func24, Tryz.ntmps24
  go_wp2_with fail
  have HT := Lib.hid ((HT.out.alloc (k := w.heap.size) rfl 24 #[.int .i64 c.kind, .int .u64 c.id, .int .u64 c.dl, .int .u64 c.per]).alloc (k := w.heap.size + 1) (by simp) 30 #[.int .i64 0, .bool false, .int .u64 0, .int .u64 0, .slice none 0 0])
  go_wp2_with fail
  refine (DoesG.use (HB.out) (HT.out) [0] rfl rfl).mono ?_
  rintro e w1 ⟨gs, ⟨rfl, rfl⟩, Ta⟩
  simp only [putG, List.set_cons_zero, List.set_cons_succ, List.cons_append, List.nil_append, List.append_nil] at Ta
  have HT := Lib.hid Ta
  clear Ta
  go_wp2
  have T1 := HT.out
  go_loopw [9] (fun i wr => i = .int .i64 0 ∧ wr = w1) (fun i _ => 0)
  case atStart => exact ⟨rfl, rfl⟩
  case round =>
    obtain ⟨rfl, rfl⟩ := hrel
    have HT := Lib.hid T1
    clear T1
    go_wp2_with fail
    go_wp2_with fail
    refine (DoesG.use (HA.out) (HT.out) [] rfl rfl).mono ?_
    rintro e w1 ⟨gs, ⟨rfl, rfl⟩, Ta⟩
    simp only [putG, List.set_cons_zero, List.set_cons_succ, List.cons_append, List.nil_append, List.append_nil] at Ta
    have HT := Lib.hid Ta
    clear Ta
    have e0 := HT.out.cell 2 0 rfl 0
    have fe0 := HT.out.free 2 0 rfl 0
    have e1 := HT.out.cell 2 0 rfl 1
    have fe1 := HT.out.free 2 0 rfl 1
    have e2 := HT.out.cell 2 0 rfl 2
    have fe2 := HT.out.free 2 0 rfl 2
    have e3 := HT.out.cell 2 0 rfl 3
    have fe3 := HT.out.free 2 0 rfl 3
    have e4 := HT.out.cell 2 0 rfl 4
    have fe4 := HT.out.free 2 0 rfl 4
    simp only [List.getElem?_nil, List.getElem?_toArray, List.getElem?_cons_zero, List.getElem?_cons_succ] at e0 e1 e2 e3 e4
    have lte := HT.out.lt 2 0 rfl
    simp only [] at lte
    simp only [ansC]
    go_wp2_with fail
    have HT := Lib.hid (HT.out.alloc (k := w1.heap.size) rfl 30 (ansC 0 false 0 0))
    simp only [List.cons_append, List.nil_append, ansC] at HT
    generalize World.alloc _ _ = w5 at HT ⊢
    clear e0 e1 e2 e3 e4 fe0 fe1 fe2 fe3 fe4
    have e0 := HT.out.cell 2 0 rfl 0
    have fe0 := HT.out.free 2 0 rfl 0
    have e1 := HT.out.cell 2 0 rfl 1
    have fe1 := HT.out.free 2 0 rfl 1
    have e2 := HT.out.cell 2 0 rfl 2
    have fe2 := HT.out.free 2 0 rfl 2
    have e3 := HT.out.cell 2 0 rfl 3
    have fe3 := HT.out.free 2 0 rfl 3
    have e4 := HT.out.cell 2 0 rfl 4
    have fe4 := HT.out.free 2 0 rfl 4
    simp only [List.getElem?_nil, List.getElem?_toArray, List.getElem?_cons_zero, List.getElem?_cons_succ] at e0 e1 e2 e3 e4
    have a0 := HT.out.cell 3 0 rfl 0
    have a1 := HT.out.cell 3 0 rfl 1
    have a2 := HT.out.cell 3 0 rfl 2
    have a3 := HT.out.cell 3 0 rfl 3
    have a4 := HT.out.cell 3 0 rfl 4
    simp only [List.getElem?_nil, List.getElem?_toArray, List.getElem?_cons_zero, List.getElem?_cons_succ] at a0 a1 a2 a3 a4
    refine wp_region_mix1 12 (by kernel_rfl) (by kernel_rfl) ?_
    simp only [List.take_succ_cons, List.take_zero, List.drop_succ_cons, List.drop_zero]
    repeat (go_big_quiet_step ((fail)))
    refine wpQuiet_nil ?_
    intro _ hw'
    obtain ⟨nq, hw''⟩ := hw'
    subst hw''
    have HT := Lib.hid (HT.out.drewN nq)
    go_wp2_with fail
    refine ⟨rfl, ?_⟩
    go_wp2
    exact bodyPost_ret (v := .tuple #[.agg (ansC 0 false 0 0), .int .i64 0, .bool false]) (by simp [results, Tryz.results24, go_sem, e0, e1, e2, e3, e4, ansC]) rfl ⟨_, ⟨rfl, rfl⟩, ((((((HT.out.set 2 0 rfl 0 _).set 2 0 rfl 1 _).set 2 0 rfl 2 _).set 2 0 rfl 3 _).set 2 0 rfl 4 _).pick [0] rfl)⟩
end Go.Proofs.YthbjaoinklhikaaGreat

namespace Go.Proofs.YthbjaoinklhikaaGreat
set_option linter.unusedVariables false
set_option linter.unusedSimpArgs false
open Go.RowKit Go.Shelf

/-! ## What is asked of numbers that aren't known (plain) -/
theorem rest0 {room ring : Int} (h1 : 1 ≤ room) (h2 : room ≤ 64) (h3 : 1 ≤ ring) (h4 : ring ≤ 64) : Rest ring.toNat 0 (core0 (plain16 room ring)) := by
  have hn : (newSlab room.toNat).recs = List.replicate room.toNat Rec.zero := rfl
  refine ⟨show SlabOk (newSlab room.toNat) from newSlab_ok (by omega) (by omega), fun r hr => ?_, ?_, rfl, by show 1 ≤ (List.replicate ((2 : Int).toNat) (newShard ring.toNat)).length; rw [List.length_replicate]; decide, fun s hs => ?_⟩
  · have hr' : r ∈ List.replicate room.toNat Rec.zero := hr
    obtain ⟨_, rfl⟩ := List.mem_replicate.1 hr'
    exact ⟨.inl (by decide), by decide⟩
  · have : usedS (newSlab room.toNat).recs = 0 := by simp [usedS, newSlab, List.countP_replicate, show busyB Rec.zero = false from by decide]
    show ((usedS (newSlab room.toNat).recs : Nat) : Int) = 0
    rw [this]; rfl
  · have hs' : s ∈ List.replicate ((2 : Int).toNat) (newShard ring.toNat) := hs
    obtain ⟨_, rfl⟩ := List.mem_replicate.1 hs'
    refine ⟨by simp [newShard, newRing], by omega, rfl, Int.le_refl _, by show (0 : Int) ≤ _; omega, fun i s hs => ?_⟩
    have hs' : ((List.range ring.toNat).map fun (i : Nat) => (⟨2 * (i : Int), TaskS.zero⟩ : SlotS))[i]? = some s := hs
    rw [List.getElem?_map] at hs'
    cases h : (List.range ring.toNat)[i]? with
    | none => rw [h] at hs'; cases hs'
    | some v =>
      rw [h] at hs'
      cases hs'
      have := List.getElem?_eq_some_iff.1 h
      obtain ⟨a, b⟩ := this
      rw [List.getElem_range] at b
      subst b
      show 2 * (i : Int) = if (i : Int) < 0 then _ else _
      rw [if_neg (by omega)]
/-- the first record of a new floor -/
theorem new_first {room ring : Int} (h1 : 1 ≤ room) : (core0 (plain16 room ring)).slab.recs[0]? = some Rec.zero := by
  show (List.replicate room.toNat Rec.zero)[0]? = _
  rw [List.getElem?_replicate, if_pos (by omega)]
theorem new_home {room ring : Int} : (core0 (plain16 room ring)).shs[homeC ((0 : Nat) : Int) (core0 (plain16 room ring))]? = some (newShard ring.toNat) := by
  have e : homeC ((0 : Nat) : Int) (core0 (plain16 room ring)) = 0 := by
    unfold homeC
    simp
  rw [e]
  show (List.replicate ((2 : Int).toNat) (newShard ring.toNat))[0]? = _
  rw [List.getElem?_replicate, if_pos (by decide)]
/-- what a first Schedule, or Periodic, of a new floor leaves -/
def slab1 (room : Int) (per : Int) : SlabS := ⟨(List.replicate room.toNat Rec.zero).set 0 (subR Rec.zero per), 1⟩
def shs1 (ring : Int) (dl per : Int) : List ShardS := (List.replicate ((2 : Int).toNat) (newShard ring.toNat)).set 0 { newShard ring.toNat with ring := filledR (newRing ring.toNat) ⟨64, 0, 1, dl, per⟩ }
theorem first_good {room ring : Int} (h1 : 1 ≤ room) (h2 : room ≤ 64) (h3 : 1 ≤ ring) (h4 : ring ≤ 64) {c : CallC} (hw : c.wf) (h : fitC c) :
    Out (firstC c.kind) (begZ c (core0 (plain16 room ring))) 13 (core0 (plain16 room ring)).f (slab1 room (perC c)) (shs1 ring c.dl (perC c)) 0 true 64 1 := by
  have e : homeC ((0 : Nat) : Int) (core0 (plain16 room ring)) = 0 := by unfold homeC; simp
  have hl : (core0 (plain16 room ring)).slab.recs.length = room.toNat := by show (List.replicate room.toNat Rec.zero).length = _; rw [List.length_replicate]
  have p := out_sched (rest0 h1 h2 h3 h4) hw h rfl (new_first (ring := ring) h1) (by decide) (fun i x' hi _ => absurd hi (Nat.not_lt_zero _)) (by decide) (by rw [hl]; show (0 : Int) < _; omega) (new_home (room := room) (ring := ring)) (by show (0 : Int) < _; omega)
  rw [e] at p
  exact p
structure Next1 (room ring : Int) (dl per : Int) (x : CoreS) : Prop where
  f : x.f = (core0 (plain16 room ring)).f
  slab : x.slab = slab1 room per
  shs : x.shs = shs1 ring dl per
theorem sub_parts (per : Int) : okW (subR Rec.zero per).w = true ∧ stW (subR Rec.zero per).w = 2 ∧ genW (subR Rec.zero per).w = 1 ∧ lastW (subR Rec.zero per).w = false ∧ 0 ≤ (subR Rec.zero per).w ∧ (subR Rec.zero per).w < 18446744073709551616 :=
  packW_parts 2 1 false (by decide) (by decide) (by decide) (by decide)
theorem live1 {room ring dl per : Int} {x : CoreS} (h1 : 1 ≤ room) (hx : Next1 room ring dl per x) (hp0 : 0 ≤ per) (hp1 : per < 18446744073709551616) {c : CallC} (hid : c.id = 64) : Live x c 0 (subR Rec.zero per) := by
  obtain ⟨a, b, d, e, f, g⟩ := sub_parts per
  refine ⟨?_, by rw [hid]; rfl, by rw [hid]; rfl, by show (1 : Int) ≤ 0 + 1; omega, b, ⟨f, g, a, by show (0 : Int) ≤ 0 + 1; omega, by rw [d]; show (0 : Int) + 1 ≤ 1; omega, hp0, hp1⟩⟩
  rw [hx.slab]
  show ((List.replicate room.toNat Rec.zero).set 0 _)[0]? = _
  rw [List.getElem?_set_self (by rw [List.length_replicate]; omega)]
theorem known1 {room per id : Int} (h1 : 1 ≤ room) (h0 : 0 ≤ id) : (slab1 room per).known id ↔ id = 64 := by
  unfold SlabS.known
  have e : ∀ k : Nat, ((slab1 room per).recs.getD k Rec.zero).g = if k = 0 then 1 else 0 := by
    intro k
    show (((List.replicate room.toNat Rec.zero).set 0 (subR Rec.zero per)).getD k Rec.zero).g = _
    rw [List.getD_eq_getElem?_getD, List.getElem?_set]
    by_cases hk : k = 0
    · subst hk
      rw [if_pos rfl, if_pos (by rw [List.length_replicate]; omega), if_pos rfl]; rfl
    · rw [if_neg (fun e => hk e.symm), if_neg hk, List.getElem?_replicate]
      split <;> rfl
  rw [e]
  constructor
  · rintro ⟨a, b, d⟩
    split at d
    · omega
    · omega
  · rintro rfl
    refine ⟨?_, by decide, by decide⟩
    show (64 : Int) % 64 < (((List.replicate room.toNat Rec.zero).set 0 _).length : Int)
    rw [List.length_set, List.length_replicate]; omega
theorem known0 {room id : Int} : ¬ (newSlab room.toNat).known id := by
  unfold SlabS.known
  rintro ⟨a, b, d⟩
  have e : ∀ k : Nat, ((newSlab room.toNat).recs.getD k Rec.zero).g = 0 := by
    intro k
    show ((List.replicate room.toNat Rec.zero).getD k Rec.zero).g = 0
    rw [List.getD_eq_getElem?_getD, List.getElem?_replicate]
    split <;> rfl
  rw [e] at d
  omega
theorem home1 {room ring dl per : Int} {x : CoreS} (hx : Next1 room ring dl per x) : x.shs[homeC ((0 : Nat) : Int) x]? = some { newShard ring.toNat with ring := filledR (newRing ring.toNat) ⟨64, 0, 1, dl, per⟩ } := by
  have e : homeC ((0 : Nat) : Int) x = 0 := by unfold homeC; simp
  rw [e, hx.shs]
  show ((List.replicate ((2 : Int).toNat) _).set 0 _)[0]? = _
  rw [List.getElem?_set_self (by rw [List.length_replicate]; decide)]
theorem ring1 {ring : Int} (h3 : 1 ≤ ring) (h4 : ring ≤ 64) (v : TaskS) : RingR ring.toNat (filledR (newRing ring.toNat) v) :=
  RingR.fill ((rest0 (room := 1) (ring := ring) (by decide) (by decide) h3 h4).ring (newShard ring.toNat) (show newShard ring.toNat ∈ List.replicate ((2 : Int).toNat) (newShard ring.toNat) from List.mem_replicate.2 ⟨by decide, rfl⟩)) (by show (0 : Int) < _; omega) v
/-- what is asked of that number, where it is live -/
theorem second_live {room ring dl per : Int} {x : CoreS} (h1 : 1 ≤ room) (h3 : 2 ≤ ring) (h4 : ring ≤ 64) (hx : Next1 room ring dl per x) (hp0 : 0 < per) (hp1 : per < 18446744073709551616) {c : CallC} (hid : c.id = 64) (hk : 3 ≤ c.kind) (hk5 : c.kind ≤ 5) :
    ∃ n f S H gen, n ≤ 499 ∧ Out (firstC c.kind) (begZ c x) n f S H 0 true 64 gen := by
  have hL := live1 h1 hx (by omega) hp1 hid
  obtain ⟨a, b, d, e, f, g⟩ := sub_parts per
  have hc : x.f.closed = false := by rw [hx.f]; rfl
  have hi : 0 ≤ x.f.inside := by rw [hx.f]; show (0 : Int) ≤ 0; omega
  have hcnt : 1 ≤ x.slab.count := by rw [hx.slab]; show (1 : Int) ≤ 1; omega
  have hh : c.kind = 3 ∨ c.kind = 4 ∨ c.kind = 5 := by omega
  rcases hh with h | h | h
  · have p := out_reset h hc hi hL (by rw [d]; decide) (home1 hx) (ring1 (by omega) h4 _) (by show (0 : Int) + 1 < _; omega)
    rw [hid] at p
    exact ⟨_, _, _, _, _, by decide, p⟩
  · have p := out_cancelled h hc hL hcnt
    rw [hid] at p
    exact ⟨_, _, _, _, _, by decide, p⟩
  · have p := out_stopped h hc hL (by rw [e]; simp [subR, hp0])
    rw [hid] at p
    exact ⟨_, _, _, _, _, by decide, p⟩
theorem overgate_le (k : Int) : overN k + 1 + gateN k ≤ 499 := by
  unfold overN gateN
  split <;> split <;> omega

/-- what is asked of any number -/
theorem second_run {L : Lay} {x : CoreS} {gF : List Blk} (hx : isCore L x gF) {room ring dl per : Int} (h1 : 1 ≤ room) (h3 : 2 ≤ ring) (h4 : ring ≤ 64) (hn : CoreN 16 x) {c : CallC} (hw : c.wf) (hk : 3 ≤ c.kind) (hk5 : c.kind ≤ 5)
    {known : Bool} (hs : (known = true ∧ Next1 room ring dl per x ∧ 0 < per ∧ per < 18446744073709551616 ∧ c.id = 64) ∨ (known = false ∧ x.f = (core0 (plain16 room ring)).f ∧ ¬ x.slab.known c.id)) :
    ∃ (n : Nat) (id gen : Int), DoesG Tryz.prog 24 #[ptr' L.fb, .agg c.cells] [gF] fun e gs =>
      e = .returned (.tuple #[.agg (ansC (if known = true then 0 else 1) known id gen), .int .i64 n, .bool true]) ∧ ∃ gF', gs = [gF'] := by
  rcases hs with ⟨rfl, hN, hp0, hp1, hid⟩ | ⟨rfl, hf, hu⟩
  · obtain ⟨n, f, S, H, gen, hle, p⟩ := second_live h1 h3 h4 hN hp0 hp1 hid hk hk5
    refine ⟨n, 64, gen, (lawRunO hx hw (by omega) hk5 (N := 16) hn (by omega) hle p).mono ?_⟩
    rintro e gs ⟨he, x', gF', _, _, _, _, _, hg⟩
    exact ⟨he, gF', hg⟩
  · have p := out_unknown (c := c) (x := x) hk hk5 (by rw [hf]; rfl) (by rw [hf]; show (0 : Int) ≤ 0; omega) hu
    have := overgate_le c.kind
    refine ⟨overN c.kind + 1 + gateN c.kind, 0, 0, (lawRunO hx hw (by omega) hk5 (N := 16) hn (by omega) this p).mono ?_⟩
    rintro e gs ⟨he, x', gF', _, _, _, _, _, hg⟩
    exact ⟨he, gF', hg⟩

/-! ## The law -/
set_option maxHeartbeats 4000000 in
set_option maxRecDepth 100000 in
theorem lawCallsErrors (dl per id kind : Int) (hd : 0 ≤ dl ∧ dl < 18446744073709551616) (hpb : 0 ≤ per ∧ per < 18446744073709551616) (hi : 0 ≤ id ∧ id < 18446744073709551616) (hk : 0 ≤ kind ∧ kind < 256) :
    DoesG Tryz.prog 4 #[.int .u64 dl, .int .u64 per, .int .u64 id, .int .u8 kind] [] fun e gs => e = .returned (.bool true) := by
  have hk2 : 0 ≤ kind % 3 ∧ kind % 3 < 3 := by omega
  by_cases hb0 : per = 0
  · subst hb0
    have b1 : ((0 : Int) == 0) = true := rfl
    have b2 := b1
    have hkn := b1
    intro w hw
    have T0 := TG.refl hw
    have HT := Lib.hid T0
    clear hw T0
    have HB1 := Lib.hid b1
    have HB2 := Lib.hid b2
    have HK2 := Lib.hid hk2
    have HKN := Lib.hid hkn
    clear b1 b2 hk2 hkn
    go_enter Tryz.func4, Tryz.ntmps4
    go_wp2_with fail
    refine (DoesG.use (alive16_g) (HT.out) [] rfl rfl).mono ?_
    rintro e w1 ⟨gs, ⟨rfl, rfl⟩, Ta⟩
    simp only [putG, List.set_cons_zero, List.set_cons_succ, List.cons_append, List.nil_append, List.append_nil] at Ta
    have HT := Lib.hid Ta
    clear Ta
    go_wp2_with fail
    refine (DoesG.use (plain16_g 4 4) (HT.out) [] rfl rfl).mono ?_
    rintro e w1 ⟨gs, ⟨rfl, rfl⟩, Ta⟩
    simp only [putG, List.set_cons_zero, List.set_cons_succ, List.cons_append, List.nil_append, List.append_nil] at Ta
    have HT := Lib.hid Ta
    clear Ta
    go_wp2_with fail
    refine (DoesG.use (newCore (plain16 4 4) (plain16_fine (by decide) (by decide) (by decide) (by decide))) (HT.out) [] rfl rfl).mono ?_
    rintro e w1 ⟨gs, ⟨L, gF, gP, gL, rfl, hx, hp, rfl, rfl⟩, Ta⟩
    simp only [putG, List.set_cons_zero, List.set_cons_succ, List.cons_append, List.nil_append, List.append_nil] at Ta
    have HX := Lib.hid hx
    clear hx hp
    have HT := Lib.hid Ta
    clear Ta
    have hr1 := lawRunO HX.out (c := ⟨2, 0, dl, 0⟩) ⟨⟨Int.le_refl 0, by show (0 : Int) < _; omega⟩, hd, hpb⟩ (show (1 : Int) ≤ 2 by omega) (show (2 : Int) ≤ 5 by omega) (core0_n (plain16_fine (by decide) (by decide) (by decide) (by decide))) (by decide) (by decide) (out_bad rfl (.inl rfl))
    have HR1 := Lib.hid hr1
    clear hr1
    simp only [CallC.cells] at HR1
    go_wp2_with fail
    refine (DoesG.use (HR1.out) (HT.out) [0] rfl rfl).mono ?_
    rintro e w1 ⟨gs, ⟨rfl, x1, gF1, hx1, hn1, hf1, hs1, hh1, rfl⟩, Ta⟩
    simp only [putG, List.set_cons_zero, List.set_cons_succ, List.cons_append, List.nil_append, List.append_nil] at Ta
    have HX1 := Lib.hid hx1
    have HN1 := Lib.hid hn1
    have HE1 := Lib.hid (And.intro hf1 (And.intro hs1 hh1))
    clear hx1 hn1 hf1 hs1 hh1
    have HT := Lib.hid Ta
    clear Ta
    simp only [ansC]
    have hb1 := HB1.out
    have hb2 := HB2.out
    go_wp2_with fail
    have HT := Lib.hid (HT.out.alloc (k := w1.heap.size) rfl 30 (ansC 1 false 0 0))
    simp only [List.cons_append, List.nil_append, ansC] at HT
    obtain ⟨n2, id2, gen2, hr2⟩ := second_run (known := false) HX1.out (room := 4) (ring := 4) (dl := dl) (per := 0) (by decide) (by decide) (by decide) (HN1.out.mono (by decide)) (c := ⟨3 + kind % 3, id, dl, 0⟩) ⟨hi, hd, by show (0 : Int) ≤ 0 ∧ (0 : Int) < _; omega⟩ (show (3 : Int) ≤ 3 + kind % 3 by omega) (show 3 + kind % 3 ≤ 5 by omega) (.inr ⟨rfl, HE1.out.1, by rw [HE1.out.2.1]; exact known0⟩)
    simp only [ite_true, Bool.false_eq_true, ite_false, CallC.cells] at hr2
    have HR2 := Lib.hid hr2
    clear hr2
    refine (DoesG.use HR2.out HT.out [0] rfl rfl).mono ?_
    rintro e w2 ⟨gs, ⟨rfl, gF2, rfl⟩, Ta⟩
    simp only [putG, List.set_cons_zero, List.set_cons_succ, List.cons_append, List.nil_append, List.append_nil] at Ta
    have HT := Lib.hid Ta
    clear Ta
    simp only [ansC]
    have hkn := HKN.out
    go_wp2_with fail
    go_ret
    exact ⟨_, rfl, HT.out.alloc0 _⟩
  · have b1 : (per == 0) = false := beq_eq_false_iff_ne.2 hb0
    by_cases hb : 18446744073709551616 ≤ dl + per
    · have b2 : decide (dl > 18446744073709551615 - per) = true := decide_eq_true (by omega)
      have hkn := b1
      intro w hw
      have T0 := TG.refl hw
      have HT := Lib.hid T0
      clear hw T0
      have HB1 := Lib.hid b1
      have HB2 := Lib.hid b2
      have HK2 := Lib.hid hk2
      have HKN := Lib.hid hkn
      clear b1 b2 hk2 hkn
      go_enter Tryz.func4, Tryz.ntmps4
      go_wp2_with fail
      refine (DoesG.use (alive16_g) (HT.out) [] rfl rfl).mono ?_
      rintro e w1 ⟨gs, ⟨rfl, rfl⟩, Ta⟩
      simp only [putG, List.set_cons_zero, List.set_cons_succ, List.cons_append, List.nil_append, List.append_nil] at Ta
      have HT := Lib.hid Ta
      clear Ta
      go_wp2_with fail
      refine (DoesG.use (plain16_g 4 4) (HT.out) [] rfl rfl).mono ?_
      rintro e w1 ⟨gs, ⟨rfl, rfl⟩, Ta⟩
      simp only [putG, List.set_cons_zero, List.set_cons_succ, List.cons_append, List.nil_append, List.append_nil] at Ta
      have HT := Lib.hid Ta
      clear Ta
      go_wp2_with fail
      refine (DoesG.use (newCore (plain16 4 4) (plain16_fine (by decide) (by decide) (by decide) (by decide))) (HT.out) [] rfl rfl).mono ?_
      rintro e w1 ⟨gs, ⟨L, gF, gP, gL, rfl, hx, hp, rfl, rfl⟩, Ta⟩
      simp only [putG, List.set_cons_zero, List.set_cons_succ, List.cons_append, List.nil_append, List.append_nil] at Ta
      have HX := Lib.hid hx
      clear hx hp
      have HT := Lib.hid Ta
      clear Ta
      have hr1 := lawRunO HX.out (c := ⟨2, 0, dl, per⟩) ⟨⟨Int.le_refl 0, by show (0 : Int) < _; omega⟩, hd, hpb⟩ (show (1 : Int) ≤ 2 by omega) (show (2 : Int) ≤ 5 by omega) (core0_n (plain16_fine (by decide) (by decide) (by decide) (by decide))) (by decide) (by decide) (out_bad rfl (.inr hb))
      have HR1 := Lib.hid hr1
      clear hr1
      simp only [CallC.cells] at HR1
      go_wp2_with fail
      refine (DoesG.use (HR1.out) (HT.out) [0] rfl rfl).mono ?_
      rintro e w1 ⟨gs, ⟨rfl, x1, gF1, hx1, hn1, hf1, hs1, hh1, rfl⟩, Ta⟩
      simp only [putG, List.set_cons_zero, List.set_cons_succ, List.cons_append, List.nil_append, List.append_nil] at Ta
      have HX1 := Lib.hid hx1
      have HN1 := Lib.hid hn1
      have HE1 := Lib.hid (And.intro hf1 (And.intro hs1 hh1))
      clear hx1 hn1 hf1 hs1 hh1
      have HT := Lib.hid Ta
      clear Ta
      simp only [ansC]
      have hb1 := HB1.out
      have hb2 := HB2.out
      go_wp2_with fail
      have HT := Lib.hid (HT.out.alloc (k := w1.heap.size) rfl 30 (ansC 1 false 0 0))
      simp only [List.cons_append, List.nil_append, ansC] at HT
      obtain ⟨n2, id2, gen2, hr2⟩ := second_run (known := false) HX1.out (room := 4) (ring := 4) (dl := dl) (per := per) (by decide) (by decide) (by decide) (HN1.out.mono (by decide)) (c := ⟨3 + kind % 3, id, dl, 0⟩) ⟨hi, hd, by show (0 : Int) ≤ 0 ∧ (0 : Int) < _; omega⟩ (show (3 : Int) ≤ 3 + kind % 3 by omega) (show 3 + kind % 3 ≤ 5 by omega) (.inr ⟨rfl, HE1.out.1, by rw [HE1.out.2.1]; exact known0⟩)
      simp only [ite_true, Bool.false_eq_true, ite_false, CallC.cells] at hr2
      have HR2 := Lib.hid hr2
      clear hr2
      refine (DoesG.use HR2.out HT.out [0] rfl rfl).mono ?_
      rintro e w2 ⟨gs, ⟨rfl, gF2, rfl⟩, Ta⟩
      simp only [putG, List.set_cons_zero, List.set_cons_succ, List.cons_append, List.nil_append, List.append_nil] at Ta
      have HT := Lib.hid Ta
      clear Ta
      simp only [ansC]
      have hkn := HKN.out
      go_wp2_with fail
      go_ret
      exact ⟨_, rfl, HT.out.alloc0 _⟩
    · have b2 : decide (dl > 18446744073709551615 - per) = false := decide_eq_false (by omega)
      have hpp : 0 < per := by omega
      by_cases h64 : id = 64
      · subst h64
        have hkn : ((64 : Int) == 64) = true := rfl
        intro w hw
        have T0 := TG.refl hw
        have HT := Lib.hid T0
        clear hw T0
        have HB1 := Lib.hid b1
        have HB2 := Lib.hid b2
        have HK2 := Lib.hid hk2
        have HKN := Lib.hid hkn
        clear b1 b2 hk2 hkn
        go_enter Tryz.func4, Tryz.ntmps4
        go_wp2_with fail
        refine (DoesG.use (alive16_g) (HT.out) [] rfl rfl).mono ?_
        rintro e w1 ⟨gs, ⟨rfl, rfl⟩, Ta⟩
        simp only [putG, List.set_cons_zero, List.set_cons_succ, List.cons_append, List.nil_append, List.append_nil] at Ta
        have HT := Lib.hid Ta
        clear Ta
        go_wp2_with fail
        refine (DoesG.use (plain16_g 4 4) (HT.out) [] rfl rfl).mono ?_
        rintro e w1 ⟨gs, ⟨rfl, rfl⟩, Ta⟩
        simp only [putG, List.set_cons_zero, List.set_cons_succ, List.cons_append, List.nil_append, List.append_nil] at Ta
        have HT := Lib.hid Ta
        clear Ta
        go_wp2_with fail
        refine (DoesG.use (newCore (plain16 4 4) (plain16_fine (by decide) (by decide) (by decide) (by decide))) (HT.out) [] rfl rfl).mono ?_
        rintro e w1 ⟨gs, ⟨L, gF, gP, gL, rfl, hx, hp, rfl, rfl⟩, Ta⟩
        simp only [putG, List.set_cons_zero, List.set_cons_succ, List.cons_append, List.nil_append, List.append_nil] at Ta
        have HX := Lib.hid hx
        clear hx hp
        have HT := Lib.hid Ta
        clear Ta
        have hr1 := lawRunO HX.out (c := ⟨2, 0, dl, per⟩) ⟨⟨Int.le_refl 0, by show (0 : Int) < _; omega⟩, hd, hpb⟩ (show (1 : Int) ≤ 2 by omega) (show (2 : Int) ≤ 5 by omega) (core0_n (plain16_fine (by decide) (by decide) (by decide) (by decide))) (by decide) (by decide) (first_good (by decide) (by decide) (by decide) (by decide) ⟨⟨Int.le_refl 0, by show (0 : Int) < _; omega⟩, hd, hpb⟩ (.inr ⟨rfl, hb0, by show dl + per < _; omega⟩))
        have HR1 := Lib.hid hr1
        clear hr1
        simp only [CallC.cells] at HR1
        go_wp2_with fail
        refine (DoesG.use (HR1.out) (HT.out) [0] rfl rfl).mono ?_
        rintro e w1 ⟨gs, ⟨rfl, x1, gF1, hx1, hn1, hf1, hs1, hh1, rfl⟩, Ta⟩
        simp only [putG, List.set_cons_zero, List.set_cons_succ, List.cons_append, List.nil_append, List.append_nil] at Ta
        have HX1 := Lib.hid hx1
        have HN1 := Lib.hid hn1
        have HE1 := Lib.hid (And.intro hf1 (And.intro hs1 hh1))
        clear hx1 hn1 hf1 hs1 hh1
        have HT := Lib.hid Ta
        clear Ta
        simp only [ansC]
        have hb1 := HB1.out
        have hb2 := HB2.out
        go_wp2_with fail
        have HT := Lib.hid (HT.out.alloc (k := w1.heap.size) rfl 30 (ansC 0 true 64 1))
        simp only [List.cons_append, List.nil_append, ansC] at HT
        obtain ⟨n2, id2, gen2, hr2⟩ := second_run (known := true) HX1.out (room := 4) (ring := 4) (dl := dl) (per := per) (by decide) (by decide) (by decide) (HN1.out.mono (by decide)) (c := ⟨3 + kind % 3, 64, dl, 0⟩) ⟨hi, hd, by show (0 : Int) ≤ 0 ∧ (0 : Int) < _; omega⟩ (show (3 : Int) ≤ 3 + kind % 3 by omega) (show 3 + kind % 3 ≤ 5 by omega) (.inl ⟨rfl, ⟨HE1.out.1, HE1.out.2.1, HE1.out.2.2⟩, hpp, hpb.2, rfl⟩)
        simp only [ite_true, Bool.false_eq_true, ite_false, CallC.cells] at hr2
        have HR2 := Lib.hid hr2
        clear hr2
        refine (DoesG.use HR2.out HT.out [0] rfl rfl).mono ?_
        rintro e w2 ⟨gs, ⟨rfl, gF2, rfl⟩, Ta⟩
        simp only [putG, List.set_cons_zero, List.set_cons_succ, List.cons_append, List.nil_append, List.append_nil] at Ta
        have HT := Lib.hid Ta
        clear Ta
        simp only [ansC]
        have hkn := HKN.out
        go_wp2_with fail
        go_ret
        exact ⟨_, rfl, HT.out.alloc0 _⟩
      · have hkn : (id == 64) = false := beq_eq_false_iff_ne.2 h64
        intro w hw
        have T0 := TG.refl hw
        have HT := Lib.hid T0
        clear hw T0
        have HB1 := Lib.hid b1
        have HB2 := Lib.hid b2
        have HK2 := Lib.hid hk2
        have HKN := Lib.hid hkn
        clear b1 b2 hk2 hkn
        go_enter Tryz.func4, Tryz.ntmps4
        go_wp2_with fail
        refine (DoesG.use (alive16_g) (HT.out) [] rfl rfl).mono ?_
        rintro e w1 ⟨gs, ⟨rfl, rfl⟩, Ta⟩
        simp only [putG, List.set_cons_zero, List.set_cons_succ, List.cons_append, List.nil_append, List.append_nil] at Ta
        have HT := Lib.hid Ta
        clear Ta
        go_wp2_with fail
        refine (DoesG.use (plain16_g 4 4) (HT.out) [] rfl rfl).mono ?_
        rintro e w1 ⟨gs, ⟨rfl, rfl⟩, Ta⟩
        simp only [putG, List.set_cons_zero, List.set_cons_succ, List.cons_append, List.nil_append, List.append_nil] at Ta
        have HT := Lib.hid Ta
        clear Ta
        go_wp2_with fail
        refine (DoesG.use (newCore (plain16 4 4) (plain16_fine (by decide) (by decide) (by decide) (by decide))) (HT.out) [] rfl rfl).mono ?_
        rintro e w1 ⟨gs, ⟨L, gF, gP, gL, rfl, hx, hp, rfl, rfl⟩, Ta⟩
        simp only [putG, List.set_cons_zero, List.set_cons_succ, List.cons_append, List.nil_append, List.append_nil] at Ta
        have HX := Lib.hid hx
        clear hx hp
        have HT := Lib.hid Ta
        clear Ta
        have hr1 := lawRunO HX.out (c := ⟨2, 0, dl, per⟩) ⟨⟨Int.le_refl 0, by show (0 : Int) < _; omega⟩, hd, hpb⟩ (show (1 : Int) ≤ 2 by omega) (show (2 : Int) ≤ 5 by omega) (core0_n (plain16_fine (by decide) (by decide) (by decide) (by decide))) (by decide) (by decide) (first_good (by decide) (by decide) (by decide) (by decide) ⟨⟨Int.le_refl 0, by show (0 : Int) < _; omega⟩, hd, hpb⟩ (.inr ⟨rfl, hb0, by show dl + per < _; omega⟩))
        have HR1 := Lib.hid hr1
        clear hr1
        simp only [CallC.cells] at HR1
        go_wp2_with fail
        refine (DoesG.use (HR1.out) (HT.out) [0] rfl rfl).mono ?_
        rintro e w1 ⟨gs, ⟨rfl, x1, gF1, hx1, hn1, hf1, hs1, hh1, rfl⟩, Ta⟩
        simp only [putG, List.set_cons_zero, List.set_cons_succ, List.cons_append, List.nil_append, List.append_nil] at Ta
        have HX1 := Lib.hid hx1
        have HN1 := Lib.hid hn1
        have HE1 := Lib.hid (And.intro hf1 (And.intro hs1 hh1))
        clear hx1 hn1 hf1 hs1 hh1
        have HT := Lib.hid Ta
        clear Ta
        simp only [ansC]
        have hb1 := HB1.out
        have hb2 := HB2.out
        go_wp2_with fail
        have HT := Lib.hid (HT.out.alloc (k := w1.heap.size) rfl 30 (ansC 0 true 64 1))
        simp only [List.cons_append, List.nil_append, ansC] at HT
        obtain ⟨n2, id2, gen2, hr2⟩ := second_run (known := false) HX1.out (room := 4) (ring := 4) (dl := dl) (per := per) (by decide) (by decide) (by decide) (HN1.out.mono (by decide)) (c := ⟨3 + kind % 3, id, dl, 0⟩) ⟨hi, hd, by show (0 : Int) ≤ 0 ∧ (0 : Int) < _; omega⟩ (show (3 : Int) ≤ 3 + kind % 3 by omega) (show 3 + kind % 3 ≤ 5 by omega) (.inr ⟨rfl, HE1.out.1, by rw [HE1.out.2.1]; intro h; exact h64 ((known1 (by decide) hi.1).1 h)⟩)
        simp only [ite_true, Bool.false_eq_true, ite_false, CallC.cells] at hr2
        have HR2 := Lib.hid hr2
        clear hr2
        refine (DoesG.use HR2.out HT.out [0] rfl rfl).mono ?_
        rintro e w2 ⟨gs, ⟨rfl, gF2, rfl⟩, Ta⟩
        simp only [putG, List.set_cons_zero, List.set_cons_succ, List.cons_append, List.nil_append, List.append_nil] at Ta
        have HT := Lib.hid Ta
        clear Ta
        simp only [ansC]
        have hkn := HKN.out
        go_wp2_with fail
        go_ret
        exact ⟨_, rfl, HT.out.alloc0 _⟩
end Go.Proofs.YthbjaoinklhikaaGreat

namespace Go.Proofs.YthbjaoinklhikaaGreat
set_option linter.unusedVariables false
set_option linter.unusedSimpArgs false
open Go.RowKit Go.Shelf

/-! ## A ring's other end: Ready, Pop, Len -/
section
variable {rb sb : Nat} {r : RingS} {C D : Array Value} {g : List Blk}
set_option maxRecDepth 100000 in
theorem ringReady_g (hg : isRing rb r g) (hr : RingB r) : DoesG Tryz.prog 114 #[ptr' rb] [g] fun e gs => e = .returned (.bool r.ready) ∧ ∃ g', isRing rb r g' ∧ gs = [g'] := by
  obtain ⟨sb, C, D, rfl, hC, hD⟩ := hg.open
  obtain ⟨ha, hal, hav⟩ := ring_at hr.n0 r.head
  intro w hw
  have T0 := TG.refl hw
  have HT := Lib.hid T0
  clear hw T0
  have HT := Lib.hid (HT.out.eq (H' := [[cl rb 185 C], [cl sb 189 D]]) rfl)
  have HA := Lib.hid (show ∀ C', ringC sb r C' → _ from fun C' hC' => (ringAt_r (rb := rb) hC' hr r.head hr.h0 hr.h1).does)
  have HS := Lib.hid (show ∀ D', slotsD r.slots D' → cellAt D' (r.at r.head * 9) (.int .i64 (r.slot r.head).seq) from fun D' h => (h.at_ _ _ ha).1)
  have HK := Lib.hid ha
  have h0 := hr.h0
  have h1 := hr.h1
  have HR := Lib.hid (show r.ready = ((r.slot r.head).seq == 2 * r.head + 1) from rfl)
  have HC := Lib.hid hC
  have HD := Lib.hid hD
  clear hg hr hC hD ha hal hav
  go_enter Tryz.func114, Tryz.ntmps114
  go_wp2_with fail
  obtain ⟨ι, W, hW0, hend, hin⟩ : ∃ (ι : Type) (W : ι → World), (∃ i, World.drew _ = W i) ∧ (∀ i, ∃ Cx Dx, (ringC sb r Cx ∧ slotsD r.slots Dx) ∧ TG [[cl rb 185 C, cl sb 189 D]] w [[cl rb 185 Cx], [cl sb 189 Dx]] (W i)) ∧ (∀ w', (∃ Cx Dx, (ringC sb r Cx ∧ slotsD r.slots Dx) ∧ TG [[cl rb 185 C, cl sb 189 D]] w [[cl rb 185 Cx], [cl sb 189 Dx]] w') → ∃ i, w' = W i) := ⟨{w' // ∃ Cx Dx, (ringC sb r Cx ∧ slotsD r.slots Dx) ∧ TG [[cl rb 185 C, cl sb 189 D]] w [[cl rb 185 Cx], [cl sb 189 Dx]] w'}, Subtype.val, ⟨⟨_, C, D, ⟨HC.out, HD.out⟩, HT.out.drew⟩, rfl⟩, fun i => i.2, fun w' h => ⟨⟨w', h⟩, rfl⟩⟩
  have hne : Nonempty ι := hW0.elim fun i _ => ⟨i⟩
  have q5 : ∀ i, (W i).cell? ⟨rb, 5, none⟩ = some (.int .i64 r.head) := fun i => by obtain ⟨_, _, h, T⟩ := hend i; exact (T.cell 0 0 rfl 5).trans h.1.head
  have m1 : ∀ i, Calls Tryz.prog 115 #[ptr' rb, .int .i64 r.head] (W i) fun e w2 => e = .returned (.pointer (some ⟨sb, r.at r.head * 9, none⟩)) ∧ ∃ j, w2 = W j := fun i => by
    obtain ⟨Cx, Dx, h, T⟩ := hend i
    refine (DoesG.use (HA.out _ h.1) T [0] rfl rfl).mono ?_
    rintro e w2 ⟨gs, ⟨rfl, rfl⟩, T2⟩
    exact ⟨rfl, hin _ ⟨Cx, Dx, h, T2⟩⟩
  have m2 : ∀ i, Calls Tryz.prog 78 #[.pointer (some ⟨sb, r.at r.head * 9, none⟩)] (W i) fun e w2 => e = .returned (.int .i64 (r.slot r.head).seq) ∧ ∃ j, w2 = W j := fun i => by
    obtain ⟨Cx, Dx, h, T⟩ := hend i
    refine (DoesG.use (cellG (loadI_does sb (r.at r.head * 9) _ Dx _ (HS.out _ h.2))) T [1] rfl rfl).mono ?_
    rintro e w2 ⟨gs, ⟨rfl, D1, hr1, rfl⟩, T2⟩
    exact ⟨rfl, hin _ ⟨Cx, D1, ⟨h.1, h.2.same HK.out hr1⟩, T2⟩⟩
  refine wp_region_cls W (by kernel_rfl) (by kernel_rfl) hW0 ?_
  repeat (go_big_quiet_step ((first | (go_at_call 115; with_reducible exact m1 _) | (go_at_call 78; with_reducible exact m2 _))))
  refine wpQuiet_nil ?_
  intro _ hw
  obtain ⟨iq, hw2⟩ := hw
  subst hw2
  obtain ⟨Cx, Dx, h, T⟩ := hend iq
  have HT := Lib.hid T
  generalize W iq = w1 at HT ⊢
  clear T hend hin hW0 hne
  have HH := Lib.hid h
  clear h
  go_wp2
  go_ret
  exact ⟨_, ⟨by rw [HR.out]; rfl, _, isRing.mk' HH.out.1 HH.out.2, rfl⟩, HT.out.eq rfl⟩
set_option maxRecDepth 100000 in
theorem ringLen_g (hg : isRing rb r g) (hr : RingB r) : DoesG Tryz.prog 80 #[ptr' rb] [g] fun e gs => e = .returned (.int .i64 (r.tail - r.head)) ∧ ∃ g', isRing rb r g' ∧ gs = [g'] := by
  obtain ⟨sb, C, D, rfl, hC, hD⟩ := hg.open
  intro w hw
  have T0 := TG.refl hw
  have HT := Lib.hid T0
  clear hw T0
  have HT := Lib.hid (HT.out.eq (H' := [[cl rb 185 C], [cl sb 189 D]]) rfl)
  have h0 := hr.h0
  have h1 := hr.h1
  have h2 := hr.t0
  have h3 := hr.t1
  have HC := Lib.hid hC
  have HD := Lib.hid hD
  clear hg hr hC hD
  go_enter Tryz.func80, Tryz.ntmps80
  go_wp2_with fail
  obtain ⟨ι, W, hW0, hend, hin⟩ : ∃ (ι : Type) (W : ι → World), (∃ i, World.drew _ = W i) ∧ (∀ i, ∃ Cx, (ringC sb r Cx) ∧ TG [[cl rb 185 C, cl sb 189 D]] w [[cl rb 185 Cx], [cl sb 189 D]] (W i)) ∧ (∀ w', (∃ Cx, (ringC sb r Cx) ∧ TG [[cl rb 185 C, cl sb 189 D]] w [[cl rb 185 Cx], [cl sb 189 D]] w') → ∃ i, w' = W i) := ⟨{w' // ∃ Cx, (ringC sb r Cx) ∧ TG [[cl rb 185 C, cl sb 189 D]] w [[cl rb 185 Cx], [cl sb 189 D]] w'}, Subtype.val, ⟨⟨_, C, HC.out, HT.out.drew⟩, rfl⟩, fun i => i.2, fun w' h => ⟨⟨w', h⟩, rfl⟩⟩
  have hne : Nonempty ι := hW0.elim fun i _ => ⟨i⟩
  have q5 : ∀ i, (W i).cell? ⟨rb, 5, none⟩ = some (.int .i64 r.head) := fun i => by obtain ⟨_, h, T⟩ := hend i; exact (T.cell 0 0 rfl 5).trans h.head
  have m2 : ∀ i, Calls Tryz.prog 78 #[.pointer (some ⟨rb, 1, none⟩)] (W i) fun e w2 => e = .returned (.int .i64 r.tail) ∧ ∃ j, w2 = W j := fun i => by
    obtain ⟨Cx, h, T⟩ := hend i
    refine (DoesG.use (cellG (loadI_does rb 1 _ Cx _ h.tail)) T [0] rfl rfl).mono ?_
    rintro e w2 ⟨gs, ⟨rfl, C1, hr1, rfl⟩, T2⟩
    exact ⟨rfl, hin _ ⟨C1, h.tailR hr1, T2⟩⟩
  refine wp_region_cls W (by kernel_rfl) (by kernel_rfl) hW0 ?_
  repeat (go_big_quiet_step ((first | (go_at_call 78; with_reducible exact m2 _))))
  refine wpQuiet_nil ?_
  intro _ hw
  obtain ⟨iq, hw2⟩ := hw
  subst hw2
  obtain ⟨Cx, h, T⟩ := hend iq
  have HT := Lib.hid T
  generalize W iq = w1 at HT ⊢
  clear T hend hin hW0 hne
  have HH := Lib.hid h
  clear h
  go_wp2
  go_ret
  exact ⟨_, ⟨by rfl, _, isRing.mk' HH.out HD.out, rfl⟩, HT.out.eq rfl⟩
set_option maxRecDepth 100000 in
theorem ringPop_g (hg : isRing rb r g) (hr : RingB r) : DoesG Tryz.prog 82 #[ptr' rb] [g] fun e gs => e = .returned (.tuple #[.agg (popR r).2.1.cells, .int .i64 (popR r).2.2]) ∧ ∃ g', isRing rb (popR r).1 g' ∧ gs = [g'] := by
  have hrd := ringReady_g hg hr
  cases hb : r.ready with
  | false =>
    have HE := Lib.hid (show popR r = (r, TaskS.zero, 6) from if_neg (by rw [hb]; decide))
    rw [hb] at hrd
    intro w hw
    have T0 := TG.refl hw
    have HT := Lib.hid T0
    clear hw T0
    have HR := Lib.hid hrd
    clear hg hr hrd hb
    go_enter Tryz.func82, Tryz.ntmps82
    go_wp2_with fail
    have HT := Lib.hid ((HT.out.alloc (k := w.heap.size) rfl 67 TaskS.zero.cells).alloc (k := w.heap.size + 1) (by simp) 67 TaskS.zero.cells)
    go_wp2_with fail
    refine (DoesG.use (HR.out) (HT.out) [0] rfl rfl).mono ?_
    rintro e w1 ⟨gs, ⟨rfl, g1, hg1, rfl⟩, Ta⟩
    simp only [putG, List.set_cons_zero, List.set_cons_succ, List.cons_append, List.nil_append, List.append_nil] at Ta
    have HG := Lib.hid hg1
    clear hg1
    have HT := Lib.hid Ta
    clear Ta
    have a0 := HT.out.cell 1 0 rfl 0
    have fa0 := HT.out.free 1 0 rfl 0
    have a1 := HT.out.cell 1 0 rfl 1
    have fa1 := HT.out.free 1 0 rfl 1
    have a2 := HT.out.cell 1 0 rfl 2
    have fa2 := HT.out.free 1 0 rfl 2
    have a3 := HT.out.cell 1 0 rfl 3
    have fa3 := HT.out.free 1 0 rfl 3
    have a4 := HT.out.cell 1 0 rfl 4
    have fa4 := HT.out.free 1 0 rfl 4
    simp only [TaskS.cells, TaskS.zero, List.getElem?_toArray, List.getElem?_cons_zero, List.getElem?_cons_succ] at a0 a1 a2 a3 a4
    have b0 := HT.out.cell 2 0 rfl 0
    have fb0 := HT.out.free 2 0 rfl 0
    have b1 := HT.out.cell 2 0 rfl 1
    have fb1 := HT.out.free 2 0 rfl 1
    have b2 := HT.out.cell 2 0 rfl 2
    have fb2 := HT.out.free 2 0 rfl 2
    have b3 := HT.out.cell 2 0 rfl 3
    have fb3 := HT.out.free 2 0 rfl 3
    have b4 := HT.out.cell 2 0 rfl 4
    have fb4 := HT.out.free 2 0 rfl 4
    simp only [TaskS.cells, TaskS.zero, List.getElem?_toArray, List.getElem?_cons_zero, List.getElem?_cons_succ] at b0 b1 b2 b3 b4
    go_wp2
    exact bodyPost_ret (v := .tuple #[.agg TaskS.zero.cells, .int .i64 6]) (by simp [results, Tryz.results82, go_sem, a0, a1, a2, a3, a4, TaskS.cells, TaskS.zero]) rfl ⟨_, ⟨by rw [HE.out], g1, by rw [HE.out]; exact HG.out, rfl⟩, ((((((HT.out.set 1 0 rfl 0 _).set 1 0 rfl 1 _).set 1 0 rfl 2 _).set 1 0 rfl 3 _).set 1 0 rfl 4 _).pick [0] rfl)⟩
  | true =>
    have HE := Lib.hid (show popR r = ({ r with slots := r.slots.set (r.at r.head) ⟨2 * (r.head + r.slots.length), TaskS.zero⟩, head := r.head + 1 }, (r.slot r.head).v, 0) from if_pos hb)
    rw [hb] at hrd
    intro w hw
    have T0 := TG.refl hw
    have HT := Lib.hid T0
    clear hw T0
    have HR := Lib.hid hrd
    have HRB := Lib.hid hr
    clear hg hr hrd hb
    go_enter Tryz.func82, Tryz.ntmps82
    go_wp2_with fail
    have HT := Lib.hid ((HT.out.alloc (k := w.heap.size) rfl 67 TaskS.zero.cells).alloc (k := w.heap.size + 1) (by simp) 67 TaskS.zero.cells)
    go_wp2_with fail
    refine (DoesG.use (HR.out) (HT.out) [0] rfl rfl).mono ?_
    rintro e w1 ⟨gs, ⟨rfl, g1, hg1, rfl⟩, Ta⟩
    simp only [putG, List.set_cons_zero, List.set_cons_succ, List.cons_append, List.nil_append, List.append_nil] at Ta
    have HT := Lib.hid Ta
    clear Ta
    obtain ⟨sb, C, D, rfl, hC, hD⟩ := hg1.open
    have HT := Lib.hid (HT.out.sum (H' := [[cl rb 185 C], [cl sb 189 D], [cl w.heap.size 67 TaskS.zero.cells], [cl (w.heap.size + 1) 67 TaskS.zero.cells]]) (fun n ha h0 h1 h2 => by simp only [pickG, List.map_cons, List.map_nil, List.getD_cons_succ, List.getD_cons_zero, List.set_cons_succ, List.set_cons_zero, List.cons_append, List.flatten_append, List.flatten_cons, List.flatten_nil, List.append_nil, List.nil_append, ha, h0, h1, h2] <;> omega))
    obtain ⟨ha, hal, hav⟩ := ring_at HRB.out.n0 r.head
    have h0 := HRB.out.h0
    have h1 := HRB.out.h1
    have hn0 := HRB.out.n0
    have hn1 := HRB.out.n1
    have HC := Lib.hid hC
    have HD := Lib.hid hD
    have HA := Lib.hid (ringAt_r (rb := rb) hC HRB.out r.head h0 h1)
    have HV := Lib.hid (hD.fill ha TaskS.zero (2 * (r.head + r.slots.length)))
    have HCS := Lib.hid ((hC.withSlots (l := r.slots.set (r.at r.head) ⟨2 * (r.head + r.slots.length), TaskS.zero⟩) (List.length_set ..)).headR (r.head + 1))
    have hcell := (hD.at_ _ _ ha).1
    obtain ⟨e0, e1, e2, e3, e4⟩ := (hD.at_ _ _ ha).2
    generalize r.slot r.head = s at *
    generalize r.at r.head = k at *
    have HP := Lib.hid (show cellAt (putTask D (k * 9 + 4) TaskS.zero) (k * 9) (.int .i64 s.seq) from by
      obtain ⟨a0, l0, t0, u0, a1, a2, a3⟩ := hcell
      exact ⟨(putTask_ne (by omega)).trans a0, l0, t0, u0, (putTask_ne (by omega)).trans a1, (putTask_ne (by omega)).trans a2, (putTask_ne (by omega)).trans a3⟩)
    have HEE := Lib.hid (And.intro e0 (And.intro e1 (And.intro e2 (And.intro e3 e4))))
    have c5 := (HT.out.cell 0 0 rfl 5).trans hC.head
    clear hg1 hC hD ha hal hav e0 e1 e2 e3 e4 hcell
    go_wp2_with fail
    refine (ReadsG.use (HA.out) (HT.out) [0] rfl rfl).mono ?_
    rintro e w1 ⟨rfl, mq, rfl⟩
    have HT := Lib.hid (HT.out.drewN mq)
    generalize World.drewN _ _ = wq at HT ⊢
    clear c5
    have z0 := HT.out.cell 3 0 rfl 0
    have z1 := HT.out.cell 3 0 rfl 1
    have z2 := HT.out.cell 3 0 rfl 2
    have z3 := HT.out.cell 3 0 rfl 3
    have z4 := HT.out.cell 3 0 rfl 4
    simp only [TaskS.cells, TaskS.zero, List.getElem?_toArray, List.getElem?_cons_zero, List.getElem?_cons_succ] at z0 z1 z2 z3 z4
    have d0 := (HT.out.cell 1 0 rfl (k * 9 + 4)).trans HEE.out.1
    have d1 := (HT.out.cell 1 0 rfl (k * 9 + 4 + 1)).trans HEE.out.2.1
    have d2 := (HT.out.cell 1 0 rfl (k * 9 + 4 + 2)).trans HEE.out.2.2.1
    have d3 := (HT.out.cell 1 0 rfl (k * 9 + 4 + 3)).trans HEE.out.2.2.2.1
    have d4 := (HT.out.cell 1 0 rfl (k * 9 + 4 + 4)).trans HEE.out.2.2.2.2
    have g0 := HT.out.free 1 0 rfl (k * 9 + 4)
    have g1 := HT.out.free 1 0 rfl (k * 9 + 4 + 1)
    have g2 := HT.out.free 1 0 rfl (k * 9 + 4 + 2)
    have g3 := HT.out.free 1 0 rfl (k * 9 + 4 + 3)
    have g4 := HT.out.free 1 0 rfl (k * 9 + 4 + 4)
    have lt1 := HT.out.lt 1 0 rfl
    have lt3 := HT.out.lt 3 0 rfl
    simp only [] at lt1 lt3
    go_wp2
    have HT := Lib.hid (((((((HT.out.set 1 0 rfl (k * 9 + 4) (.int .u64 0)).set 1 0 rfl (k * 9 + 4 + 1) (.int .i64 0)).set 1 0 rfl (k * 9 + 4 + 2) (.int .u64 0)).set 1 0 rfl (k * 9 + 4 + 3) (.int .u64 0)).set 1 0 rfl (k * 9 + 4 + 4) (.int .u64 0)).alloc (k := wq.heap.size) (by simp) 67 s.v.cells).eq (H' := [[cl rb 185 C], [cl sb 189 (putTask D (k * 9 + 4) TaskS.zero)], [cl w.heap.size 67 TaskS.zero.cells], [cl (w.heap.size + 1) 67 TaskS.zero.cells], [cl wq.heap.size 67 s.v.cells]]) rfl)
    simp only [TaskS.cells] at HT
    clear z0 z1 z2 z3 z4 d0 d1 d2 d3 d4 g0 g1 g2 g3 g4 lt1 lt3
    generalize World.alloc _ _ = w2 at HT ⊢
    have c5 := (HT.out.cell 0 0 rfl 5).trans HC.out.head
    have c0 := (HT.out.cell 0 0 rfl 0).trans HC.out.sl
    refine wp_region_mix1 14 (by kernel_rfl) (by kernel_rfl) ?_
    simp only [List.take_succ_cons, List.take_zero, List.drop_succ_cons, List.drop_zero]
    repeat (go_big_quiet_step ((fail)))
    refine wpQuiet_nil ?_
    intro _ hw'
    obtain ⟨nq, hw''⟩ := hw'
    subst hw''
    have HT := Lib.hid (HT.out.drewN nq)
    go_wp2_with fail
    refine (DoesG.use (storeC_g _ _ _ _ _ _ HP.out) (HT.out) [1] rfl rfl).mono ?_
    rintro e w1 ⟨gs, ⟨rfl, rfl⟩, Ta⟩
    simp only [putG, List.set_cons_zero, List.set_cons_succ, List.cons_append, List.nil_append, List.append_nil] at Ta
    have HT := Lib.hid Ta
    clear Ta
    go_wp2_with fail
    refine ⟨rfl, ?_⟩
    have HT := Lib.hid (HT.out.eq (H' := [[cl rb 185 C], [cl sb 189 ((putTask D (k * 9 + 4) TaskS.zero).setIfInBounds (k * 9) (.int .i64 (2 * (r.head + r.slots.length))))], [cl w.heap.size 67 TaskS.zero.cells], [cl (w.heap.size + 1) 67 TaskS.zero.cells], [cl wq.heap.size 67 s.v.cells]]) rfl)
    clear c5 c0
    have c5 := (HT.out.cell 0 0 rfl 5).trans HC.out.head
    have f5 := HT.out.free 0 0 rfl 5
    have a0 := HT.out.cell 2 0 rfl 0
    have fa0 := HT.out.free 2 0 rfl 0
    have a1 := HT.out.cell 2 0 rfl 1
    have fa1 := HT.out.free 2 0 rfl 1
    have a2 := HT.out.cell 2 0 rfl 2
    have fa2 := HT.out.free 2 0 rfl 2
    have a3 := HT.out.cell 2 0 rfl 3
    have fa3 := HT.out.free 2 0 rfl 3
    have a4 := HT.out.cell 2 0 rfl 4
    have fa4 := HT.out.free 2 0 rfl 4
    simp only [TaskS.cells, TaskS.zero, List.getElem?_toArray, List.getElem?_cons_zero, List.getElem?_cons_succ] at a0 a1 a2 a3 a4
    have b0 := HT.out.cell 4 0 rfl 0
    have b1 := HT.out.cell 4 0 rfl 1
    have b2 := HT.out.cell 4 0 rfl 2
    have b3 := HT.out.cell 4 0 rfl 3
    have b4 := HT.out.cell 4 0 rfl 4
    simp only [TaskS.cells, List.getElem?_toArray, List.getElem?_cons_zero, List.getElem?_cons_succ] at b0 b1 b2 b3 b4
    have n1 := HT.out.ne 0 0 2 0 (by decide) rfl rfl
    have n2 := HT.out.ne 0 0 4 0 (by decide) rfl rfl
    have n3 := HT.out.ne 2 0 4 0 (by decide) rfl rfl
    simp only [] at n1 n2 n3
    go_wp2
    exact bodyPost_ret (v := .tuple #[.agg s.v.cells, .int .i64 0]) (by simp [results, Tryz.results82, go_sem, a0, a1, a2, a3, a4, TaskS.cells, n1]) rfl ⟨_, ⟨by rw [HE.out], _, by rw [HE.out]; exact isRing.mk' HCS.out HV.out, rfl⟩, (((((((HT.out.set 0 0 rfl 5 _).set 2 0 rfl 0 _).set 2 0 rfl 1 _).set 2 0 rfl 2 _).set 2 0 rfl 3 _).set 2 0 rfl 4 _).pick [0, 1] rfl).eq rfl⟩
end
end Go.Proofs.YthbjaoinklhikaaGreat
