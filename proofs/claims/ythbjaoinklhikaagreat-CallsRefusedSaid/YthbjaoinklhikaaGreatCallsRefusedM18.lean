import Derived.Test.YthbjaoinklhikaaGreatCallsRefusedM17
namespace Go.Proofs.YthbjaoinklhikaaGreat
set_option linter.unusedVariables false
set_option linter.unusedSimpArgs false
open Go.RowKit Go.Shelf

/-! ## What is asked of numbers that aren't known (plain) -/
theorem rest0 {room ring : Int} (h1 : 1 ≤ room) (h2 : room ≤ 64) (h3 : 1 ≤ ring) (h4 : ring ≤ 64) : Rest ring.toNat 0 (core0 (plain16 room ring)) := by
  have hn : (newSlab room.toNat).recs = List.replicate room.toNat Rec.zero := rfl
  refine ⟨show SlabOk (newSlab room.toNat) from newSlab_ok (by omega) (by omega), fun r hr => ?_, ?_, rfl, by show 1 ≤ (List.replicate ((2 : Int).toNat) (newShard ring.toNat)).length; rw [List.length_replicate]; decide, fun s hs => ?_⟩
  · have hr' : r ∈ List.replicate room.toNat Rec.zero := hr
    obtain ⟨_, rfl⟩ := List.mem_replicate.1 hr'
    exact ⟨.inl (by decide), by decide⟩
  · have : usedS (newSlab room.toNat).recs = 0 := by simp [usedS, newSlab, List.countP_replicate, show busyB Rec.zero = false from by decide]
    show ((usedS (newSlab room.toNat).recs : Nat) : Int) = 0
    rw [this]; rfl
  · have hs' : s ∈ List.replicate ((2 : Int).toNat) (newShard ring.toNat) := hs
    obtain ⟨_, rfl⟩ := List.mem_replicate.1 hs'
    refine ⟨by simp [newShard, newRing], by omega, rfl, Int.le_refl _, by show (0 : Int) ≤ _; omega, fun i s hs => ?_⟩
    have hs' : ((List.range ring.toNat).map fun (i : Nat) => (⟨2 * (i : Int), TaskS.zero⟩ : SlotS))[i]? = some s := hs
    rw [List.getElem?_map] at hs'
    cases h : (List.range ring.toNat)[i]? with
    | none => rw [h] at hs'; cases hs'
    | some v =>
      rw [h] at hs'
      cases hs'
      have := List.getElem?_eq_some_iff.1 h
      obtain ⟨a, b⟩ := this
      rw [List.getElem_range] at b
      subst b
      show 2 * (i : Int) = if (i : Int) < 0 then _ else _
      rw [if_neg (by omega)]
/-- the first record of a new floor -/
theorem new_first {room ring : Int} (h1 : 1 ≤ room) : (core0 (plain16 room ring)).slab.recs[0]? = some Rec.zero := by
  show (List.replicate room.toNat Rec.zero)[0]? = _
  rw [List.getElem?_replicate, if_pos (by omega)]
theorem new_home {room ring : Int} : (core0 (plain16 room ring)).shs[homeC ((0 : Nat) : Int) (core0 (plain16 room ring))]? = some (newShard ring.toNat) := by
  have e : homeC ((0 : Nat) : Int) (core0 (plain16 room ring)) = 0 := by
    unfold homeC
    simp
  rw [e]
  show (List.replicate ((2 : Int).toNat) (newShard ring.toNat))[0]? = _
  rw [List.getElem?_replicate, if_pos (by decide)]
/-- what a first Schedule, or Periodic, of a new floor leaves -/
def slab1 (room : Int) (per : Int) : SlabS := ⟨(List.replicate room.toNat Rec.zero).set 0 (subR Rec.zero per), 1⟩
def shs1 (ring : Int) (dl per : Int) : List ShardS := (List.replicate ((2 : Int).toNat) (newShard ring.toNat)).set 0 { newShard ring.toNat with ring := filledR (newRing ring.toNat) ⟨64, 0, 1, dl, per⟩ }
theorem first_good {room ring : Int} (h1 : 1 ≤ room) (h2 : room ≤ 64) (h3 : 1 ≤ ring) (h4 : ring ≤ 64) {c : CallC} (hw : c.wf) (h : fitC c) :
    Out (firstC c.kind) (begZ c (core0 (plain16 room ring))) 13 (core0 (plain16 room ring)).f (slab1 room (perC c)) (shs1 ring c.dl (perC c)) 0 true 64 1 := by
  have e : homeC ((0 : Nat) : Int) (core0 (plain16 room ring)) = 0 := by unfold homeC; simp
  have hl : (core0 (plain16 room ring)).slab.recs.length = room.toNat := by show (List.replicate room.toNat Rec.zero).length = _; rw [List.length_replicate]
  have p := out_sched (rest0 h1 h2 h3 h4) hw h rfl (new_first (ring := ring) h1) (by decide) (fun i x' hi _ => absurd hi (Nat.not_lt_zero _)) (by decide) (by rw [hl]; show (0 : Int) < _; omega) (new_home (room := room) (ring := ring)) (by show (0 : Int) < _; omega)
  rw [e] at p
  exact p
structure Next1 (room ring : Int) (dl per : Int) (x : CoreS) : Prop where
  f : x.f = (core0 (plain16 room ring)).f
  slab : x.slab = slab1 room per
  shs : x.shs = shs1 ring dl per
theorem sub_parts (per : Int) : okW (subR Rec.zero per).w = true ∧ stW (subR Rec.zero per).w = 2 ∧ genW (subR Rec.zero per).w = 1 ∧ lastW (subR Rec.zero per).w = false ∧ 0 ≤ (subR Rec.zero per).w ∧ (subR Rec.zero per).w < 18446744073709551616 :=
  packW_parts 2 1 false (by decide) (by decide) (by decide) (by decide)
theorem live1 {room ring dl per : Int} {x : CoreS} (h1 : 1 ≤ room) (hx : Next1 room ring dl per x) (hp0 : 0 ≤ per) (hp1 : per < 18446744073709551616) {c : CallC} (hid : c.id = 64) : Live x c 0 (subR Rec.zero per) := by
  obtain ⟨a, b, d, e, f, g⟩ := sub_parts per
  refine ⟨?_, by rw [hid]; rfl, by rw [hid]; rfl, by show (1 : Int) ≤ 0 + 1; omega, b, ⟨f, g, a, by show (0 : Int) ≤ 0 + 1; omega, by rw [d]; show (0 : Int) + 1 ≤ 1; omega, hp0, hp1⟩⟩
  rw [hx.slab]
  show ((List.replicate room.toNat Rec.zero).set 0 _)[0]? = _
  rw [List.getElem?_set_self (by rw [List.length_replicate]; omega)]
theorem known1 {room per id : Int} (h1 : 1 ≤ room) (h0 : 0 ≤ id) : (slab1 room per).known id ↔ id = 64 := by
  unfold SlabS.known
  have e : ∀ k : Nat, ((slab1 room per).recs.getD k Rec.zero).g = if k = 0 then 1 else 0 := by
    intro k
    show (((List.replicate room.toNat Rec.zero).set 0 (subR Rec.zero per)).getD k Rec.zero).g = _
    rw [List.getD_eq_getElem?_getD, List.getElem?_set]
    by_cases hk : k = 0
    · subst hk
      rw [if_pos rfl, if_pos (by rw [List.length_replicate]; omega), if_pos rfl]; rfl
    · rw [if_neg (fun e => hk e.symm), if_neg hk, List.getElem?_replicate]
      split <;> rfl
  rw [e]
  constructor
  · rintro ⟨a, b, d⟩
    split at d
    · omega
    · omega
  · rintro rfl
    refine ⟨?_, by decide, by decide⟩
    show (64 : Int) % 64 < (((List.replicate room.toNat Rec.zero).set 0 _).length : Int)
    rw [List.length_set, List.length_replicate]; omega
theorem known0 {room id : Int} : ¬ (newSlab room.toNat).known id := by
  unfold SlabS.known
  rintro ⟨a, b, d⟩
  have e : ∀ k : Nat, ((newSlab room.toNat).recs.getD k Rec.zero).g = 0 := by
    intro k
    show ((List.replicate room.toNat Rec.zero).getD k Rec.zero).g = 0
    rw [List.getD_eq_getElem?_getD, List.getElem?_replicate]
    split <;> rfl
  rw [e] at d
  omega
theorem home1 {room ring dl per : Int} {x : CoreS} (hx : Next1 room ring dl per x) : x.shs[homeC ((0 : Nat) : Int) x]? = some { newShard ring.toNat with ring := filledR (newRing ring.toNat) ⟨64, 0, 1, dl, per⟩ } := by
  have e : homeC ((0 : Nat) : Int) x = 0 := by unfold homeC; simp
  rw [e, hx.shs]
  show ((List.replicate ((2 : Int).toNat) _).set 0 _)[0]? = _
  rw [List.getElem?_set_self (by rw [List.length_replicate]; decide)]
theorem ring1 {ring : Int} (h3 : 1 ≤ ring) (h4 : ring ≤ 64) (v : TaskS) : RingR ring.toNat (filledR (newRing ring.toNat) v) :=
  RingR.fill ((rest0 (room := 1) (ring := ring) (by decide) (by decide) h3 h4).ring (newShard ring.toNat) (show newShard ring.toNat ∈ List.replicate ((2 : Int).toNat) (newShard ring.toNat) from List.mem_replicate.2 ⟨by decide, rfl⟩)) (by show (0 : Int) < _; omega) v
/-- what is asked of that number, where it is live -/
theorem second_live {room ring dl per : Int} {x : CoreS} (h1 : 1 ≤ room) (h3 : 2 ≤ ring) (h4 : ring ≤ 64) (hx : Next1 room ring dl per x) (hp0 : 0 < per) (hp1 : per < 18446744073709551616) {c : CallC} (hid : c.id = 64) (hk : 3 ≤ c.kind) (hk5 : c.kind ≤ 5) :
    ∃ n f S H gen, n ≤ 499 ∧ Out (firstC c.kind) (begZ c x) n f S H 0 true 64 gen := by
  have hL := live1 h1 hx (by omega) hp1 hid
  obtain ⟨a, b, d, e, f, g⟩ := sub_parts per
  have hc : x.f.closed = false := by rw [hx.f]; rfl
  have hi : 0 ≤ x.f.inside := by rw [hx.f]; show (0 : Int) ≤ 0; omega
  have hcnt : 1 ≤ x.slab.count := by rw [hx.slab]; show (1 : Int) ≤ 1; omega
  have hh : c.kind = 3 ∨ c.kind = 4 ∨ c.kind = 5 := by omega
  rcases hh with h | h | h
  · have p := out_reset h hc hi hL (by rw [d]; decide) (home1 hx) (ring1 (by omega) h4 _) (by show (0 : Int) + 1 < _; omega)
    rw [hid] at p
    exact ⟨_, _, _, _, _, by decide, p⟩
  · have p := out_cancelled h hc hL hcnt
    rw [hid] at p
    exact ⟨_, _, _, _, _, by decide, p⟩
  · have p := out_stopped h hc hL (by rw [e]; simp [subR, hp0])
    rw [hid] at p
    exact ⟨_, _, _, _, _, by decide, p⟩
theorem overgate_le (k : Int) : overN k + 1 + gateN k ≤ 499 := by
  unfold overN gateN
  split <;> split <;> omega

/-- what is asked of any number -/
theorem second_run {L : Lay} {x : CoreS} {gF : List Blk} (hx : isCore L x gF) {room ring dl per : Int} (h1 : 1 ≤ room) (h3 : 2 ≤ ring) (h4 : ring ≤ 64) (hn : CoreN 16 x) {c : CallC} (hw : c.wf) (hk : 3 ≤ c.kind) (hk5 : c.kind ≤ 5)
    {known : Bool} (hs : (known = true ∧ Next1 room ring dl per x ∧ 0 < per ∧ per < 18446744073709551616 ∧ c.id = 64) ∨ (known = false ∧ x.f = (core0 (plain16 room ring)).f ∧ ¬ x.slab.known c.id)) :
    ∃ (n : Nat) (id gen : Int), DoesG Tryz.prog 24 #[ptr' L.fb, .agg c.cells] [gF] fun e gs =>
      e = .returned (.tuple #[.agg (ansC (if known = true then 0 else 1) known id gen), .int .i64 n, .bool true]) ∧ ∃ gF', gs = [gF'] := by
  rcases hs with ⟨rfl, hN, hp0, hp1, hid⟩ | ⟨rfl, hf, hu⟩
  · obtain ⟨n, f, S, H, gen, hle, p⟩ := second_live h1 h3 h4 hN hp0 hp1 hid hk hk5
    refine ⟨n, 64, gen, (lawRunO hx hw (by omega) hk5 (N := 16) hn (by omega) hle p).mono ?_⟩
    rintro e gs ⟨he, x', gF', _, _, _, _, _, hg⟩
    exact ⟨he, gF', hg⟩
  · have p := out_unknown (c := c) (x := x) hk hk5 (by rw [hf]; rfl) (by rw [hf]; show (0 : Int) ≤ 0; omega) hu
    have := overgate_le c.kind
    refine ⟨overN c.kind + 1 + gateN c.kind, 0, 0, (lawRunO hx hw (by omega) hk5 (N := 16) hn (by omega) this p).mono ?_⟩
    rintro e gs ⟨he, x', gF', _, _, _, _, _, hg⟩
    exact ⟨he, gF', hg⟩

/-! ## The law -/
set_option maxHeartbeats 4000000 in
set_option maxRecDepth 100000 in
theorem lawCallsErrors (dl per id kind : Int) (hd : 0 ≤ dl ∧ dl < 18446744073709551616) (hpb : 0 ≤ per ∧ per < 18446744073709551616) (hi : 0 ≤ id ∧ id < 18446744073709551616) (hk : 0 ≤ kind ∧ kind < 256) :
    DoesG Tryz.prog 4 #[.int .u64 dl, .int .u64 per, .int .u64 id, .int .u8 kind] [] fun e gs => e = .returned (.bool true) := by
  have hk2 : 0 ≤ kind % 3 ∧ kind % 3 < 3 := by omega
  by_cases hb0 : per = 0
  · subst hb0
    have b1 : ((0 : Int) == 0) = true := rfl
    have b2 := b1
    have hkn := b1
    intro w hw
    have T0 := TG.refl hw
    have HT := Lib.hid T0
    clear hw T0
    have HB1 := Lib.hid b1
    have HB2 := Lib.hid b2
    have HK2 := Lib.hid hk2
    have HKN := Lib.hid hkn
    clear b1 b2 hk2 hkn
    go_enter Tryz.func4, Tryz.ntmps4
    go_wp2_with fail
    refine (DoesG.use (alive16_g) (HT.out) [] rfl rfl).mono ?_
    rintro e w1 ⟨gs, ⟨rfl, rfl⟩, Ta⟩
    simp only [putG, List.set_cons_zero, List.set_cons_succ, List.cons_append, List.nil_append, List.append_nil] at Ta
    have HT := Lib.hid Ta
    clear Ta
    go_wp2_with fail
    refine (DoesG.use (plain16_g 4 4) (HT.out) [] rfl rfl).mono ?_
    rintro e w1 ⟨gs, ⟨rfl, rfl⟩, Ta⟩
    simp only [putG, List.set_cons_zero, List.set_cons_succ, List.cons_append, List.nil_append, List.append_nil] at Ta
    have HT := Lib.hid Ta
    clear Ta
    go_wp2_with fail
    refine (DoesG.use (newCore (plain16 4 4) (plain16_fine (by decide) (by decide) (by decide) (by decide))) (HT.out) [] rfl rfl).mono ?_
    rintro e w1 ⟨gs, ⟨L, gF, gP, gL, rfl, hx, hp, rfl, rfl⟩, Ta⟩
    simp only [putG, List.set_cons_zero, List.set_cons_succ, List.cons_append, List.nil_append, List.append_nil] at Ta
    have HX := Lib.hid hx
    clear hx hp
    have HT := Lib.hid Ta
    clear Ta
    have hr1 := lawRunO HX.out (c := ⟨2, 0, dl, 0⟩) ⟨⟨Int.le_refl 0, by show (0 : Int) < _; omega⟩, hd, hpb⟩ (show (1 : Int) ≤ 2 by omega) (show (2 : Int) ≤ 5 by omega) (core0_n (plain16_fine (by decide) (by decide) (by decide) (by decide))) (by decide) (by decide) (out_bad rfl (.inl rfl))
    have HR1 := Lib.hid hr1
    clear hr1
    simp only [CallC.cells] at HR1
    go_wp2_with fail
    refine (DoesG.use (HR1.out) (HT.out) [0] rfl rfl).mono ?_
    rintro e w1 ⟨gs, ⟨rfl, x1, gF1, hx1, hn1, hf1, hs1, hh1, rfl⟩, Ta⟩
    simp only [putG, List.set_cons_zero, List.set_cons_succ, List.cons_append, List.nil_append, List.append_nil] at Ta
    have HX1 := Lib.hid hx1
    have HN1 := Lib.hid hn1
    have HE1 := Lib.hid (And.intro hf1 (And.intro hs1 hh1))
    clear hx1 hn1 hf1 hs1 hh1
    have HT := Lib.hid Ta
    clear Ta
    simp only [ansC]
    have hb1 := HB1.out
    have hb2 := HB2.out
    go_wp2_with fail
    have HT := Lib.hid (HT.out.alloc (k := w1.heap.size) rfl 30 (ansC 1 false 0 0))
    simp only [List.cons_append, List.nil_append, ansC] at HT
    obtain ⟨n2, id2, gen2, hr2⟩ := second_run (known := false) HX1.out (room := 4) (ring := 4) (dl := dl) (per := 0) (by decide) (by decide) (by decide) (HN1.out.mono (by decide)) (c := ⟨3 + kind % 3, id, dl, 0⟩) ⟨hi, hd, by show (0 : Int) ≤ 0 ∧ (0 : Int) < _; omega⟩ (show (3 : Int) ≤ 3 + kind % 3 by omega) (show 3 + kind % 3 ≤ 5 by omega) (.inr ⟨rfl, HE1.out.1, by rw [HE1.out.2.1]; exact known0⟩)
    simp only [ite_true, Bool.false_eq_true, ite_false, CallC.cells] at hr2
    have HR2 := Lib.hid hr2
    clear hr2
    refine (DoesG.use HR2.out HT.out [0] rfl rfl).mono ?_
    rintro e w2 ⟨gs, ⟨rfl, gF2, rfl⟩, Ta⟩
    simp only [putG, List.set_cons_zero, List.set_cons_succ, List.cons_append, List.nil_append, List.append_nil] at Ta
    have HT := Lib.hid Ta
    clear Ta
    simp only [ansC]
    have hkn := HKN.out
    go_wp2_with fail
    go_ret
    exact ⟨_, rfl, HT.out.alloc0 _⟩
  · have b1 : (per == 0) = false := beq_eq_false_iff_ne.2 hb0
    by_cases hb : 18446744073709551616 ≤ dl + per
    · have b2 : decide (dl > 18446744073709551615 - per) = true := decide_eq_true (by omega)
      have hkn := b1
      intro w hw
      have T0 := TG.refl hw
      have HT := Lib.hid T0
      clear hw T0
      have HB1 := Lib.hid b1
      have HB2 := Lib.hid b2
      have HK2 := Lib.hid hk2
      have HKN := Lib.hid hkn
      clear b1 b2 hk2 hkn
      go_enter Tryz.func4, Tryz.ntmps4
      go_wp2_with fail
      refine (DoesG.use (alive16_g) (HT.out) [] rfl rfl).mono ?_
      rintro e w1 ⟨gs, ⟨rfl, rfl⟩, Ta⟩
      simp only [putG, List.set_cons_zero, List.set_cons_succ, List.cons_append, List.nil_append, List.append_nil] at Ta
      have HT := Lib.hid Ta
      clear Ta
      go_wp2_with fail
      refine (DoesG.use (plain16_g 4 4) (HT.out) [] rfl rfl).mono ?_
      rintro e w1 ⟨gs, ⟨rfl, rfl⟩, Ta⟩
      simp only [putG, List.set_cons_zero, List.set_cons_succ, List.cons_append, List.nil_append, List.append_nil] at Ta
      have HT := Lib.hid Ta
      clear Ta
      go_wp2_with fail
      refine (DoesG.use (newCore (plain16 4 4) (plain16_fine (by decide) (by decide) (by decide) (by decide))) (HT.out) [] rfl rfl).mono ?_
      rintro e w1 ⟨gs, ⟨L, gF, gP, gL, rfl, hx, hp, rfl, rfl⟩, Ta⟩
      simp only [putG, List.set_cons_zero, List.set_cons_succ, List.cons_append, List.nil_append, List.append_nil] at Ta
      have HX := Lib.hid hx
      clear hx hp
      have HT := Lib.hid Ta
      clear Ta
      have hr1 := lawRunO HX.out (c := ⟨2, 0, dl, per⟩) ⟨⟨Int.le_refl 0, by show (0 : Int) < _; omega⟩, hd, hpb⟩ (show (1 : Int) ≤ 2 by omega) (show (2 : Int) ≤ 5 by omega) (core0_n (plain16_fine (by decide) (by decide) (by decide) (by decide))) (by decide) (by decide) (out_bad rfl (.inr hb))
      have HR1 := Lib.hid hr1
      clear hr1
      simp only [CallC.cells] at HR1
      go_wp2_with fail
      refine (DoesG.use (HR1.out) (HT.out) [0] rfl rfl).mono ?_
      rintro e w1 ⟨gs, ⟨rfl, x1, gF1, hx1, hn1, hf1, hs1, hh1, rfl⟩, Ta⟩
      simp only [putG, List.set_cons_zero, List.set_cons_succ, List.cons_append, List.nil_append, List.append_nil] at Ta
      have HX1 := Lib.hid hx1
      have HN1 := Lib.hid hn1
      have HE1 := Lib.hid (And.intro hf1 (And.intro hs1 hh1))
      clear hx1 hn1 hf1 hs1 hh1
      have HT := Lib.hid Ta
      clear Ta
      simp only [ansC]
      have hb1 := HB1.out
      have hb2 := HB2.out
      go_wp2_with fail
      have HT := Lib.hid (HT.out.alloc (k := w1.heap.size) rfl 30 (ansC 1 false 0 0))
      simp only [List.cons_append, List.nil_append, ansC] at HT
      obtain ⟨n2, id2, gen2, hr2⟩ := second_run (known := false) HX1.out (room := 4) (ring := 4) (dl := dl) (per := per) (by decide) (by decide) (by decide) (HN1.out.mono (by decide)) (c := ⟨3 + kind % 3, id, dl, 0⟩) ⟨hi, hd, by show (0 : Int) ≤ 0 ∧ (0 : Int) < _; omega⟩ (show (3 : Int) ≤ 3 + kind % 3 by omega) (show 3 + kind % 3 ≤ 5 by omega) (.inr ⟨rfl, HE1.out.1, by rw [HE1.out.2.1]; exact known0⟩)
      simp only [ite_true, Bool.false_eq_true, ite_false, CallC.cells] at hr2
      have HR2 := Lib.hid hr2
      clear hr2
      refine (DoesG.use HR2.out HT.out [0] rfl rfl).mono ?_
      rintro e w2 ⟨gs, ⟨rfl, gF2, rfl⟩, Ta⟩
      simp only [putG, List.set_cons_zero, List.set_cons_succ, List.cons_append, List.nil_append, List.append_nil] at Ta
      have HT := Lib.hid Ta
      clear Ta
      simp only [ansC]
      have hkn := HKN.out
      go_wp2_with fail
      go_ret
      exact ⟨_, rfl, HT.out.alloc0 _⟩
    · have b2 : decide (dl > 18446744073709551615 - per) = false := decide_eq_false (by omega)
      have hpp : 0 < per := by omega
      by_cases h64 : id = 64
      · subst h64
        have hkn : ((64 : Int) == 64) = true := rfl
        intro w hw
        have T0 := TG.refl hw
        have HT := Lib.hid T0
        clear hw T0
        have HB1 := Lib.hid b1
        have HB2 := Lib.hid b2
        have HK2 := Lib.hid hk2
        have HKN := Lib.hid hkn
        clear b1 b2 hk2 hkn
        go_enter Tryz.func4, Tryz.ntmps4
        go_wp2_with fail
        refine (DoesG.use (alive16_g) (HT.out) [] rfl rfl).mono ?_
        rintro e w1 ⟨gs, ⟨rfl, rfl⟩, Ta⟩
        simp only [putG, List.set_cons_zero, List.set_cons_succ, List.cons_append, List.nil_append, List.append_nil] at Ta
        have HT := Lib.hid Ta
        clear Ta
        go_wp2_with fail
        refine (DoesG.use (plain16_g 4 4) (HT.out) [] rfl rfl).mono ?_
        rintro e w1 ⟨gs, ⟨rfl, rfl⟩, Ta⟩
        simp only [putG, List.set_cons_zero, List.set_cons_succ, List.cons_append, List.nil_append, List.append_nil] at Ta
        have HT := Lib.hid Ta
        clear Ta
        go_wp2_with fail
        refine (DoesG.use (newCore (plain16 4 4) (plain16_fine (by decide) (by decide) (by decide) (by decide))) (HT.out) [] rfl rfl).mono ?_
        rintro e w1 ⟨gs, ⟨L, gF, gP, gL, rfl, hx, hp, rfl, rfl⟩, Ta⟩
        simp only [putG, List.set_cons_zero, List.set_cons_succ, List.cons_append, List.nil_append, List.append_nil] at Ta
        have HX := Lib.hid hx
        clear hx hp
        have HT := Lib.hid Ta
        clear Ta
        have hr1 := lawRunO HX.out (c := ⟨2, 0, dl, per⟩) ⟨⟨Int.le_refl 0, by show (0 : Int) < _; omega⟩, hd, hpb⟩ (show (1 : Int) ≤ 2 by omega) (show (2 : Int) ≤ 5 by omega) (core0_n (plain16_fine (by decide) (by decide) (by decide) (by decide))) (by decide) (by decide) (first_good (by decide) (by decide) (by decide) (by decide) ⟨⟨Int.le_refl 0, by show (0 : Int) < _; omega⟩, hd, hpb⟩ (.inr ⟨rfl, hb0, by show dl + per < _; omega⟩))
        have HR1 := Lib.hid hr1
        clear hr1
        simp only [CallC.cells] at HR1
        go_wp2_with fail
        refine (DoesG.use (HR1.out) (HT.out) [0] rfl rfl).mono ?_
        rintro e w1 ⟨gs, ⟨rfl, x1, gF1, hx1, hn1, hf1, hs1, hh1, rfl⟩, Ta⟩
        simp only [putG, List.set_cons_zero, List.set_cons_succ, List.cons_append, List.nil_append, List.append_nil] at Ta
        have HX1 := Lib.hid hx1
        have HN1 := Lib.hid hn1
        have HE1 := Lib.hid (And.intro hf1 (And.intro hs1 hh1))
        clear hx1 hn1 hf1 hs1 hh1
        have HT := Lib.hid Ta
        clear Ta
        simp only [ansC]
        have hb1 := HB1.out
        have hb2 := HB2.out
        go_wp2_with fail
        have HT := Lib.hid (HT.out.alloc (k := w1.heap.size) rfl 30 (ansC 0 true 64 1))
        simp only [List.cons_append, List.nil_append, ansC] at HT
        obtain ⟨n2, id2, gen2, hr2⟩ := second_run (known := true) HX1.out (room := 4) (ring := 4) (dl := dl) (per := per) (by decide) (by decide) (by decide) (HN1.out.mono (by decide)) (c := ⟨3 + kind % 3, 64, dl, 0⟩) ⟨hi, hd, by show (0 : Int) ≤ 0 ∧ (0 : Int) < _; omega⟩ (show (3 : Int) ≤ 3 + kind % 3 by omega) (show 3 + kind % 3 ≤ 5 by omega) (.inl ⟨rfl, ⟨HE1.out.1, HE1.out.2.1, HE1.out.2.2⟩, hpp, hpb.2, rfl⟩)
        simp only [ite_true, Bool.false_eq_true, ite_false, CallC.cells] at hr2
        have HR2 := Lib.hid hr2
        clear hr2
        refine (DoesG.use HR2.out HT.out [0] rfl rfl).mono ?_
        rintro e w2 ⟨gs, ⟨rfl, gF2, rfl⟩, Ta⟩
        simp only [putG, List.set_cons_zero, List.set_cons_succ, List.cons_append, List.nil_append, List.append_nil] at Ta
        have HT := Lib.hid Ta
        clear Ta
        simp only [ansC]
        have hkn := HKN.out
        go_wp2_with fail
        go_ret
        exact ⟨_, rfl, HT.out.alloc0 _⟩
      · have hkn : (id == 64) = false := beq_eq_false_iff_ne.2 h64
        intro w hw
        have T0 := TG.refl hw
        have HT := Lib.hid T0
        clear hw T0
        have HB1 := Lib.hid b1
        have HB2 := Lib.hid b2
        have HK2 := Lib.hid hk2
        have HKN := Lib.hid hkn
        clear b1 b2 hk2 hkn
        go_enter Tryz.func4, Tryz.ntmps4
        go_wp2_with fail
        refine (DoesG.use (alive16_g) (HT.out) [] rfl rfl).mono ?_
        rintro e w1 ⟨gs, ⟨rfl, rfl⟩, Ta⟩
        simp only [putG, List.set_cons_zero, List.set_cons_succ, List.cons_append, List.nil_append, List.append_nil] at Ta
        have HT := Lib.hid Ta
        clear Ta
        go_wp2_with fail
        refine (DoesG.use (plain16_g 4 4) (HT.out) [] rfl rfl).mono ?_
        rintro e w1 ⟨gs, ⟨rfl, rfl⟩, Ta⟩
        simp only [putG, List.set_cons_zero, List.set_cons_succ, List.cons_append, List.nil_append, List.append_nil] at Ta
        have HT := Lib.hid Ta
        clear Ta
        go_wp2_with fail
        refine (DoesG.use (newCore (plain16 4 4) (plain16_fine (by decide) (by decide) (by decide) (by decide))) (HT.out) [] rfl rfl).mono ?_
        rintro e w1 ⟨gs, ⟨L, gF, gP, gL, rfl, hx, hp, rfl, rfl⟩, Ta⟩
        simp only [putG, List.set_cons_zero, List.set_cons_succ, List.cons_append, List.nil_append, List.append_nil] at Ta
        have HX := Lib.hid hx
        clear hx hp
        have HT := Lib.hid Ta
        clear Ta
        have hr1 := lawRunO HX.out (c := ⟨2, 0, dl, per⟩) ⟨⟨Int.le_refl 0, by show (0 : Int) < _; omega⟩, hd, hpb⟩ (show (1 : Int) ≤ 2 by omega) (show (2 : Int) ≤ 5 by omega) (core0_n (plain16_fine (by decide) (by decide) (by decide) (by decide))) (by decide) (by decide) (first_good (by decide) (by decide) (by decide) (by decide) ⟨⟨Int.le_refl 0, by show (0 : Int) < _; omega⟩, hd, hpb⟩ (.inr ⟨rfl, hb0, by show dl + per < _; omega⟩))
        have HR1 := Lib.hid hr1
        clear hr1
        simp only [CallC.cells] at HR1
        go_wp2_with fail
        refine (DoesG.use (HR1.out) (HT.out) [0] rfl rfl).mono ?_
        rintro e w1 ⟨gs, ⟨rfl, x1, gF1, hx1, hn1, hf1, hs1, hh1, rfl⟩, Ta⟩
        simp only [putG, List.set_cons_zero, List.set_cons_succ, List.cons_append, List.nil_append, List.append_nil] at Ta
        have HX1 := Lib.hid hx1
        have HN1 := Lib.hid hn1
        have HE1 := Lib.hid (And.intro hf1 (And.intro hs1 hh1))
        clear hx1 hn1 hf1 hs1 hh1
        have HT := Lib.hid Ta
        clear Ta
        simp only [ansC]
        have hb1 := HB1.out
        have hb2 := HB2.out
        go_wp2_with fail
        have HT := Lib.hid (HT.out.alloc (k := w1.heap.size) rfl 30 (ansC 0 true 64 1))
        simp only [List.cons_append, List.nil_append, ansC] at HT
        obtain ⟨n2, id2, gen2, hr2⟩ := second_run (known := false) HX1.out (room := 4) (ring := 4) (dl := dl) (per := per) (by decide) (by decide) (by decide) (HN1.out.mono (by decide)) (c := ⟨3 + kind % 3, id, dl, 0⟩) ⟨hi, hd, by show (0 : Int) ≤ 0 ∧ (0 : Int) < _; omega⟩ (show (3 : Int) ≤ 3 + kind % 3 by omega) (show 3 + kind % 3 ≤ 5 by omega) (.inr ⟨rfl, HE1.out.1, by rw [HE1.out.2.1]; intro h; exact h64 ((known1 (by decide) hi.1).1 h)⟩)
        simp only [ite_true, Bool.false_eq_true, ite_false, CallC.cells] at hr2
        have HR2 := Lib.hid hr2
        clear hr2
        refine (DoesG.use HR2.out HT.out [0] rfl rfl).mono ?_
        rintro e w2 ⟨gs, ⟨rfl, gF2, rfl⟩, Ta⟩
        simp only [putG, List.set_cons_zero, List.set_cons_succ, List.cons_append, List.nil_append, List.append_nil] at Ta
        have HT := Lib.hid Ta
        clear Ta
        simp only [ansC]
        have hkn := HKN.out
        go_wp2_with fail
        go_ret
        exact ⟨_, rfl, HT.out.alloc0 _⟩
end Go.Proofs.YthbjaoinklhikaaGreat
