import Derived.Test.YthbjaoinklhikaaGreatCallsGoneM9
import Derived.Test.YthbjaoinklhikaaGreatCallsGoneM17
namespace Go.Proofs.YthbjaoinklhikaaGreat
set_option linter.unusedVariables false
set_option linter.unusedSimpArgs false
open Go.RowKit Go.Shelf

/-! ## What waits in a shard -/
section
variable {q : ShP} {s : ShardS} {g : List Blk}
set_option maxRecDepth 100000 in
theorem shardPop_g (hg : isSh q s g) (hr : RingB s.ring) : DoesG Tryz.prog 33 #[ptr' q.b] [g] fun e gs =>
    e = .returned (.tuple #[.agg (popR s.ring).2.1.cells, .int .i64 (popR s.ring).2.2]) ∧ ∃ g', isSh q { s with ring := (popR s.ring).1 } g' ∧ gs = [g'] := by
  obtain ⟨gr, gl, h1, h2, rfl⟩ := hg
  have hp := ringPop_g h1 hr
  generalize popR s.ring = p at *
  intro w hw
  have T0 := TG.refl hw
  have HT := Lib.hid T0
  clear hw T0
  have HT := Lib.hid (HT.out.sum (H' := [shardB q.b q.rb q.lb q.wb, gr, gl]) (fun n ha h0 h1 h2 => by simp only [pickG, List.map_cons, List.map_nil, List.getD_cons_succ, List.getD_cons_zero, List.set_cons_succ, List.set_cons_zero, List.cons_append, List.flatten_append, List.flatten_cons, List.flatten_nil, List.append_nil, List.nil_append, ha, h0, h1, h2] <;> omega))
  have HP := Lib.hid hp
  have HL := Lib.hid h2
  clear h1 h2 hp hr
  go_enter Tryz.func33, Tryz.ntmps33
  go_wp2_with fail
  refine (DoesG.use (shardParts_g q.b q.rb q.lb q.wb) (HT.out.alloc (k := w.heap.size) rfl 67 TaskS.zero.cells) [0] rfl rfl).mono ?_
  rintro e w1 ⟨gs, ⟨rfl, rfl⟩, Ta⟩
  simp only [putG, List.set_cons_zero, List.set_cons_succ, List.cons_append, List.nil_append, List.append_nil] at Ta
  have HT := Lib.hid Ta
  clear Ta
  have hf := fun w => (inner_field (ptr' q.rb) (ptr' q.lb) (ptr' q.wb) w).1
  go_wp2_with fail
  refine (DoesG.use (HP.out) (HT.out) [1] rfl rfl).mono ?_
  rintro e w1 ⟨gs, ⟨rfl, g1, hg1, rfl⟩, Ta⟩
  simp only [putG, List.set_cons_zero, List.set_cons_succ, List.cons_append, List.nil_append, List.append_nil] at Ta
  have HG := Lib.hid hg1
  clear hg1
  have HT := Lib.hid Ta
  clear Ta
  have a0 := HT.out.cell 3 0 rfl 0
  have fa0 := HT.out.free 3 0 rfl 0
  have a1 := HT.out.cell 3 0 rfl 1
  have fa1 := HT.out.free 3 0 rfl 1
  have a2 := HT.out.cell 3 0 rfl 2
  have fa2 := HT.out.free 3 0 rfl 2
  have a3 := HT.out.cell 3 0 rfl 3
  have fa3 := HT.out.free 3 0 rfl 3
  have a4 := HT.out.cell 3 0 rfl 4
  have fa4 := HT.out.free 3 0 rfl 4
  simp only [TaskS.cells, TaskS.zero, List.getElem?_toArray, List.getElem?_cons_zero, List.getElem?_cons_succ] at a0 a1 a2 a3 a4
  simp only [TaskS.cells]
  go_wp2
  exact bodyPost_ret (v := .tuple #[.agg p.2.1.cells, .int .i64 p.2.2]) (by simp [results, Tryz.results33, go_sem, a0, a1, a2, a3, a4, TaskS.cells]) rfl ⟨_, ⟨rfl, _, ⟨g1, gl, HG.out, HL.out, rfl⟩, rfl⟩, ((((((HT.out.set 3 0 rfl 0 _).set 3 0 rfl 1 _).set 3 0 rfl 2 _).set 3 0 rfl 3 _).set 3 0 rfl 4 _).pick [0, 1, 2] rfl).sum (fun n ha h0 h1 h2 => by simp only [pickG, List.map_cons, List.map_nil, List.getD_cons_succ, List.getD_cons_zero, List.set_cons_succ, List.set_cons_zero, List.cons_append, List.flatten_append, List.flatten_cons, List.flatten_nil, List.append_nil, List.nil_append, ha, h0, h1, h2] <;> omega)⟩
set_option maxRecDepth 100000 in
theorem shardWaiting_g (hg : isSh q s g) (hr : RingB s.ring) : DoesG Tryz.prog 30 #[ptr' q.b] [g] fun e gs => e = .returned (.int .i64 (s.ring.tail - s.ring.head)) ∧ ∃ g', isSh q s g' ∧ gs = [g'] := by
  obtain ⟨gr, gl, h1, h2, rfl⟩ := hg
  have hp := ringLen_g h1 hr
  intro w hw
  have T0 := TG.refl hw
  have HT := Lib.hid T0
  clear hw T0
  have HT := Lib.hid (HT.out.sum (H' := [shardB q.b q.rb q.lb q.wb, gr, gl]) (fun n ha h0 h1 h2 => by simp only [pickG, List.map_cons, List.map_nil, List.getD_cons_succ, List.getD_cons_zero, List.set_cons_succ, List.set_cons_zero, List.cons_append, List.flatten_append, List.flatten_cons, List.flatten_nil, List.append_nil, List.nil_append, ha, h0, h1, h2] <;> omega))
  have HP := Lib.hid hp
  have HL := Lib.hid h2
  clear h1 h2 hp hr
  go_enter Tryz.func30, Tryz.ntmps30
  go_wp2_with fail
  refine (DoesG.use (shardParts_g q.b q.rb q.lb q.wb) (HT.out) [0] rfl rfl).mono ?_
  rintro e w1 ⟨gs, ⟨rfl, rfl⟩, Ta⟩
  simp only [putG, List.set_cons_zero, List.set_cons_succ, List.cons_append, List.nil_append, List.append_nil] at Ta
  have HT := Lib.hid Ta
  clear Ta
  have hf := fun w => (inner_field (ptr' q.rb) (ptr' q.lb) (ptr' q.wb) w).1
  go_wp2_with fail
  refine (DoesG.use (HP.out) (HT.out) [1] rfl rfl).mono ?_
  rintro e w1 ⟨gs, ⟨rfl, g1, hg1, rfl⟩, Ta⟩
  simp only [putG, List.set_cons_zero, List.set_cons_succ, List.cons_append, List.nil_append, List.append_nil] at Ta
  have HG := Lib.hid hg1
  clear hg1
  have HT := Lib.hid Ta
  clear Ta
  go_wp2
  go_ret
  exact ⟨_, ⟨rfl, _, ⟨g1, gl, HG.out, HL.out, rfl⟩, rfl⟩, HT.out.sum (fun n ha h0 h1 h2 => by simp only [pickG, List.map_cons, List.map_nil, List.getD_cons_succ, List.getD_cons_zero, List.set_cons_succ, List.set_cons_zero, List.cons_append, List.flatten_append, List.flatten_cons, List.flatten_nil, List.append_nil, List.nil_append, ha, h0, h1, h2] <;> omega)⟩
set_option maxRecDepth 100000 in
theorem shardReady_g (hg : isSh q s g) (hr : RingB s.ring) : DoesG Tryz.prog 225 #[ptr' q.b] [g] fun e gs => e = .returned (.bool s.ring.ready) ∧ ∃ g', isSh q s g' ∧ gs = [g'] := by
  obtain ⟨gr, gl, h1, h2, rfl⟩ := hg
  have hp := ringReady_g h1 hr
  intro w hw
  have T0 := TG.refl hw
  have HT := Lib.hid T0
  clear hw T0
  have HT := Lib.hid (HT.out.sum (H' := [shardB q.b q.rb q.lb q.wb, gr, gl]) (fun n ha h0 h1 h2 => by simp only [pickG, List.map_cons, List.map_nil, List.getD_cons_succ, List.getD_cons_zero, List.set_cons_succ, List.set_cons_zero, List.cons_append, List.flatten_append, List.flatten_cons, List.flatten_nil, List.append_nil, List.nil_append, ha, h0, h1, h2] <;> omega))
  have HP := Lib.hid hp
  have HL := Lib.hid h2
  clear h1 h2 hp hr
  go_enter Tryz.func225, Tryz.ntmps225
  go_wp2_with fail
  refine (DoesG.use (shardParts_g q.b q.rb q.lb q.wb) (HT.out) [0] rfl rfl).mono ?_
  rintro e w1 ⟨gs, ⟨rfl, rfl⟩, Ta⟩
  simp only [putG, List.set_cons_zero, List.set_cons_succ, List.cons_append, List.nil_append, List.append_nil] at Ta
  have HT := Lib.hid Ta
  clear Ta
  have hf := fun w => (inner_field (ptr' q.rb) (ptr' q.lb) (ptr' q.wb) w).1
  go_wp2_with fail
  refine (DoesG.use (HP.out) (HT.out) [1] rfl rfl).mono ?_
  rintro e w1 ⟨gs, ⟨rfl, g1, hg1, rfl⟩, Ta⟩
  simp only [putG, List.set_cons_zero, List.set_cons_succ, List.cons_append, List.nil_append, List.append_nil] at Ta
  have HG := Lib.hid hg1
  clear hg1
  have HT := Lib.hid Ta
  clear Ta
  go_wp2
  go_ret
  exact ⟨_, ⟨rfl, _, ⟨g1, gl, HG.out, HL.out, rfl⟩, rfl⟩, HT.out.sum (fun n ha h0 h1 h2 => by simp only [pickG, List.map_cons, List.map_nil, List.getD_cons_succ, List.getD_cons_zero, List.set_cons_succ, List.set_cons_zero, List.cons_append, List.flatten_append, List.flatten_cons, List.flatten_nil, List.append_nil, List.nil_append, ha, h0, h1, h2] <;> omega)⟩
end
section
variable {L : Lay} {x : CoreS} {g : List Blk}
/-- of one shard of a core -/
theorem coreShard {F : Nat} {args : Array Value} {i : Nat} {q : ShP} {s s' : ShardS} {v : Value} (hx : isCore L x g) (hq : L.qs[i]? = some q) (hs : x.shs[i]? = some s)
    (hd : ∀ g, isSh q s g → DoesG Tryz.prog F args [g] fun e gs => e = .returned v ∧ ∃ g', isSh q s' g' ∧ gs = [g']) :
    DoesG Tryz.prog F args [g] fun e gs => e = .returned v ∧ ∃ g', isCore L { x with shs := x.shs.set i s' } g' ∧ gs = [g'] := by
  obtain ⟨tr, gF, gS, gR, gH, gT, h1, h2, h3, h4, h5, h6, rfl⟩ := hx
  have hz : (L.qs.zip x.shs)[i]? = some (q, s) := zip_at hq hs
  obtain ⟨u, y, hu, hp, hback⟩ := h5.out hz
  intro w hw
  have T := (((TG.refl hw).sum (H' := [gF ++ (gS ++ (gR ++ gT)), gH]) (fun n ha h0 h1 h2 => by simp only [pickG, List.map_cons, List.map_nil, List.getD_cons_succ, List.getD_cons_zero, List.set_cons_succ, List.set_cons_zero, List.cons_append, List.flatten_append, List.flatten_cons, List.flatten_nil, List.append_nil, List.nil_append, ha, h0, h1, h2] <;> omega)).permAt 1 rfl hp).sum (H' := [gF ++ (gS ++ (gR ++ gT)), u, y]) (fun n ha h0 h1 h2 => by simp only [pickG, List.map_cons, List.map_nil, List.getD_cons_succ, List.getD_cons_zero, List.set_cons_succ, List.set_cons_zero, List.cons_append, List.flatten_append, List.flatten_cons, List.flatten_nil, List.append_nil, List.nil_append, ha, h0, h1, h2] <;> omega)
  refine (DoesG.use (hd u hu) T [1] rfl rfl).mono ?_
  rintro e w' ⟨gs, ⟨he, g1, hn1, rfl⟩, T'⟩
  obtain ⟨gH', hf, hp'⟩ := hback (q, s') g1 hn1
  rw [zip_set i hq] at hf
  refine ⟨_, ⟨he, _, ⟨tr, gF, gS, gR, gH', gT, h1, h2, h3, by simpa using h4, hf, h6, rfl⟩, rfl⟩, ?_⟩
  exact ((TG.sum (H := [gF ++ (gS ++ (gR ++ gT)), g1, y]) (H' := [gF ++ (gS ++ (gR ++ gT)), g1 ++ y]) T' (fun n ha h0 h1 h2 => by simp only [pickG, List.map_cons, List.map_nil, List.getD_cons_succ, List.getD_cons_zero, List.set_cons_succ, List.set_cons_zero, List.cons_append, List.flatten_append, List.flatten_cons, List.flatten_nil, List.append_nil, List.nil_append, ha, h0, h1, h2] <;> omega)).permAt 1 rfl hp').sum (fun n ha h0 h1 h2 => by simp only [pickG, List.map_cons, List.map_nil, List.getD_cons_succ, List.getD_cons_zero, List.set_cons_succ, List.set_cons_zero, List.cons_append, List.flatten_append, List.flatten_cons, List.flatten_nil, List.append_nil, List.nil_append, ha, h0, h1, h2] <;> omega)
theorem core_shs_same {x : CoreS} {i : Nat} {s : ShardS} (hs : x.shs[i]? = some s) : ({ x with shs := x.shs.set i s } : CoreS) = x := by
  have : x.shs.set i s = x.shs := fam_set_same hs
  rw [this]
theorem corePop (hx : isCore L x g) {i : Nat} {q : ShP} {s : ShardS} (hq : L.qs[i]? = some q) (hs : x.shs[i]? = some s) (hr : RingB s.ring) : DoesG Tryz.prog 33 #[ptr' q.b] [g] fun e gs =>
    e = .returned (.tuple #[.agg (popR s.ring).2.1.cells, .int .i64 (popR s.ring).2.2]) ∧ ∃ g', isCore L { x with shs := x.shs.set i { s with ring := (popR s.ring).1 } } g' ∧ gs = [g'] :=
  coreShard hx hq hs fun g hg => shardPop_g hg hr
theorem coreWaiting (hx : isCore L x g) {i : Nat} {q : ShP} {s : ShardS} (hq : L.qs[i]? = some q) (hs : x.shs[i]? = some s) (hr : RingB s.ring) : DoesG Tryz.prog 30 #[ptr' q.b] [g] fun e gs =>
    e = .returned (.int .i64 (s.ring.tail - s.ring.head)) ∧ ∃ g', isCore L x g' ∧ gs = [g'] := by
  have := coreShard hx hq hs fun g hg => shardWaiting_g hg hr
  rwa [core_shs_same hs] at this
theorem coreReady (hx : isCore L x g) {i : Nat} {q : ShP} {s : ShardS} (hq : L.qs[i]? = some q) (hs : x.shs[i]? = some s) (hr : RingB s.ring) : DoesG Tryz.prog 225 #[ptr' q.b] [g] fun e gs =>
    e = .returned (.bool s.ring.ready) ∧ ∃ g', isCore L x g' ∧ gs = [g'] := by
  have := coreShard hx hq hs fun g hg => shardReady_g hg hr
  rwa [core_shs_same hs] at this
theorem coreShardAt_r (hx : isCore L x g) (i : Int) : ReadsG Tryz.prog 29 #[ptr' L.fb, .int .i64 i] [g] (shardV (L.qs.map ShP.b) i) := by
  obtain ⟨tr, gF, gS, gR, gH, gT, h1, h2, h3, h4, h5, h6, rfl⟩ := hx
  intro w hw
  have T := (TG.refl hw).sum (H' := [gF, gS, gR, gH, gT]) (fun n ha h0 h1 h2 => by simp only [pickG, List.map_cons, List.map_nil, List.getD_cons_succ, List.getD_cons_zero, List.set_cons_succ, List.set_cons_zero, List.cons_append, List.flatten_append, List.flatten_cons, List.flatten_nil, List.append_nil, List.nil_append, ha, h0, h1, h2] <;> omega)
  exact (floorShard_r h1 h3 i).use T [0, 2] rfl rfl
end
theorem core_q {L : Lay} {x : CoreS} {g : List Blk} (hx : isCore L x g) {i : Nat} (hi : i < x.shs.length) : ∃ q, L.qs[i]? = some q ∧ shardV (L.qs.map ShP.b) i = ptr' q.b := by
  obtain ⟨tr, gF, gS, gR, gH, gT, h1, h2, h3, h4, h5, h6, rfl⟩ := hx
  have hl : i < L.qs.length := by omega
  refine ⟨L.qs[i], List.getElem?_eq_getElem hl, ?_⟩
  unfold shardV
  rw [if_pos (by simp; omega)]
  simp [hl]
end Go.Proofs.YthbjaoinklhikaaGreat

namespace Go.Proofs.YthbjaoinklhikaaGreat
set_option linter.unusedVariables false
set_option linter.unusedSimpArgs false
open Go.RowKit Go.Shelf

/-! ## A timer that is scheduled, cancelled, and asked for (plain) -/
def goneR (per : Int) : Rec := { subR Rec.zero per with w := packW 0 1 false }
def slab2 (room per : Int) : SlabS := ⟨(List.replicate room.toNat Rec.zero).set 0 (goneR per), 0⟩
structure Next2 (room ring : Int) (dl per : Int) (x : CoreS) : Prop where
  f : x.f = (core0 (plain16 room ring)).f
  slab : x.slab = slab2 room per
  shs : x.shs = shs1 ring dl per
theorem cancel_out {room ring dl per : Int} {x : CoreS} (h1 : 1 ≤ room) (hx : Next1 room ring dl per x) (hp0 : 0 ≤ per) (hp1 : per < 18446744073709551616) :
    Out (firstC 4) (begZ ⟨4, 64, 0, 0⟩ x) 6 (core0 (plain16 room ring)).f (slab2 room per) (shs1 ring dl per) 0 true 64 1 := by
  have hL := live1 (c := ⟨4, 64, 0, 0⟩) h1 hx hp0 hp1 rfl
  have p := out_cancelled (c := ⟨4, 64, 0, 0⟩) rfl (by rw [hx.f]; rfl) hL (by rw [hx.slab]; show (1 : Int) ≤ 1; omega)
  have hg : genW (subR Rec.zero per).w = 1 := (sub_parts per).2.2.1
  refine Out.eq p hx.f ?_ hx.shs hg
  rw [hx.slab, hg]
  show ({ recs := ((List.replicate room.toNat Rec.zero).set 0 _).set 0 _, count := (1 : Int) - 1 } : SlabS) = _
  rw [List.set_set]
  rfl
theorem gone_out {room ring dl per : Int} {x : CoreS} (h1 : 1 ≤ room) (hx : Next2 room ring dl per x) {c : CallC} (hid : c.id = 64) (hk : 3 ≤ c.kind) (hk5 : c.kind ≤ 5) :
    Out (firstC c.kind) (begZ c x) (overN c.kind + 1 + gateN c.kind) x.f x.slab x.shs 0 false 0 0 := by
  have hat : x.slab.recs[0]? = some (goneR per) := by
    rw [hx.slab]
    show ((List.replicate room.toNat Rec.zero).set 0 _)[0]? = _
    rw [List.getElem?_set_self (by rw [List.length_replicate]; omega)]
  have hl := look_live (k := newW 0 1 c) (s := x.slab) hat (by show c.id % 64 = _; rw [hid]; rfl) (by show (1 : Int) ≤ 0 + 1; omega) (by show c.id / 64 = _; rw [hid]; rfl)
  have hev : (newW 0 1 c).event = 6 ∨ (newW 0 1 c).event = 7 ∨ (newW 0 1 c).event = 8 := by
    unfold WorkS.event
    split
    · exact .inl rfl
    · split
      · exact .inr (.inl rfl)
      · exact .inr (.inr rfl)
  have h7 : (lookW (newW 0 1 c) x.slab).2 = 7 := by
    rw [hl]
    have : ∀ (p : Bool) (e : Int), (e = 6 ∨ e = 7 ∨ e = 8) → (nextW (packW 0 1 false) e p).2 = 7 := by
      rintro p e (rfl | rfl | rfl) <;> cases p <;> rfl
    exact this _ _ hev
  exact out_gone hk hk5 (by rw [hx.f]; rfl) (by rw [hx.f]; show (0 : Int) ≤ 0; omega) (by omega) (by omega)
theorem overgate_lt (k : Int) : overN k + 1 + gateN k ≤ 5 := by
  unfold overN gateN
  split <;> split <;> omega
theorem pop_first {ring : Int} (h3 : 1 ≤ ring) (v : TaskS) : popR (filledR (newRing ring.toNat) v) = ({ filledR (newRing ring.toNat) v with slots := (filledR (newRing ring.toNat) v).slots.set 0 ⟨2 * ((ring.toNat : Nat) : Int), TaskS.zero⟩, head := 1 }, v, 0) := by
  have hlen : (newRing ring.toNat).slots.length = ring.toNat := by simp [newRing]
  have hat : (newRing ring.toNat).at 0 = 0 := by unfold RingS.at; simp
  have hsl : (filledR (newRing ring.toNat) v).slots[0]? = some ⟨1, v⟩ := by
    show ((newRing ring.toNat).slots.set ((newRing ring.toNat).at 0) _)[0]? = _
    rw [hat, List.getElem?_set_self (by rw [hlen]; omega)]
    rfl
  have hl2 : (filledR (newRing ring.toNat) v).slots.length = ring.toNat := by
    show ((newRing ring.toNat).slots.set _ _).length = _
    rw [List.length_set, hlen]
  have hat2 : (filledR (newRing ring.toNat) v).at 0 = 0 := by unfold RingS.at; simp
  have hslot : (filledR (newRing ring.toNat) v).slot 0 = ⟨1, v⟩ := by
    unfold RingS.slot
    rw [hat2, List.getD_eq_getElem?_getD, hsl]; rfl
  have hh : (filledR (newRing ring.toNat) v).head = 0 := rfl
  unfold popR RingS.ready
  rw [hh, hslot, if_pos (by rfl), hat2, hl2]
  simp

/-! ## The law -/
set_option maxHeartbeats 4000000 in
set_option maxRecDepth 100000 in
theorem gone_a (room ring dl per : Int) (hro : 0 ≤ room ∧ room < 256) (hri : 0 ≤ ring ∧ ring < 256) (hd : 0 ≤ dl ∧ dl < 18446744073709551616) (hpb : 0 ≤ per ∧ per < 18446744073709551616) (h0 : 0 < per) (h9 : dl ≤ 18446744073709551615 - per) :
    DoesG Tryz.prog 6 #[.int .u8 room, .int .u8 ring, .int .u64 dl, .int .u64 per] [] fun e gs => e = .returned (.bool true) := by
  have b1 : decide (per > 0) = true := decide_eq_true h0
  have b2 : decide (dl ≤ 18446744073709551615 - per) = true := decide_eq_true h9
  have hcw : (⟨2, 0, dl, per⟩ : CallC).wf := ⟨⟨Int.le_refl 0, by show (0 : Int) < _; omega⟩, hd, hpb⟩
  have hfit : fitC ⟨2, 0, dl, per⟩ := .inr ⟨rfl, by show per ≠ 0; omega, by show dl + per < _; omega⟩
  have hp0 := hpb.1
  have hp1 := hpb.2
  intro w hw
  have T0 := TG.refl hw
  have HT := Lib.hid T0
  clear hw T0
  have HB1 := Lib.hid b1
  have HB2 := Lib.hid b2
  clear b1 b2
  go_enter Tryz.func6, Tryz.ntmps6
  go_wp2_with fail
  refine (DoesG.use (alive16_g) (HT.out) [] rfl rfl).mono ?_
  rintro e w1 ⟨gs, ⟨rfl, rfl⟩, Ta⟩
  simp only [putG, List.set_cons_zero, List.set_cons_succ, List.cons_append, List.nil_append, List.append_nil] at Ta
  have HT := Lib.hid Ta
  clear Ta
  go_wp2_with fail
  refine (DoesG.use (plain16_g (1 + room % 8) (2 + ring % 8)) (HT.out) [] rfl rfl).mono ?_
  rintro e w1 ⟨gs, ⟨rfl, rfl⟩, Ta⟩
  simp only [putG, List.set_cons_zero, List.set_cons_succ, List.cons_append, List.nil_append, List.append_nil] at Ta
  have HT := Lib.hid Ta
  clear Ta
  go_wp2_with fail
  refine (DoesG.use (newCore (plain16 (1 + room % 8) (2 + ring % 8)) (plain16_fine (by omega) (by omega) (by omega) (by omega))) (HT.out) [] rfl rfl).mono ?_
  rintro e w1 ⟨gs, ⟨L, gF, gP, gL, rfl, hx, hp, rfl, rfl⟩, Ta⟩
  simp only [putG, List.set_cons_zero, List.set_cons_succ, List.cons_append, List.nil_append, List.append_nil] at Ta
  have HX := Lib.hid hx
  clear hx hp
  have HT := Lib.hid Ta
  clear Ta
  have hr1 := lawRunO HX.out (c := ⟨2, 0, dl, per⟩) hcw (show (1 : Int) ≤ 2 by omega) (show (2 : Int) ≤ 5 by omega) (core0_n (plain16_fine (by omega) (by omega) (by omega) (by omega))) (by decide) (by decide) (first_good (by omega) (by omega) (by omega) (by omega) hcw hfit)
  have HR1 := Lib.hid hr1
  clear hr1
  simp only [CallC.cells] at HR1
  have hb1 := HB1.out
  have hb2 := HB2.out
  go_wp2_with fail
  have HT := Lib.hid (HT.out.alloc (k := w1.heap.size) rfl 24 #[.int .i64 2, .int .u64 0, .int .u64 dl, .int .u64 per])
  simp only [List.cons_append, List.nil_append] at HT
  refine (DoesG.use HR1.out HT.out [0] rfl rfl).mono ?_
  rintro e w2 ⟨gs, ⟨rfl, x1, gF1, hx1, hn1, hf1, hs1, hh1, rfl⟩, Ta⟩
  simp only [putG, List.set_cons_zero, List.set_cons_succ, List.cons_append, List.nil_append, List.append_nil] at Ta
  have HT := Lib.hid Ta
  have HX1 := Lib.hid hx1
  have HE1 := Lib.hid (show Next1 (1 + room % 8) (2 + ring % 8) dl per x1 from ⟨hf1, hs1, hh1⟩)
  have hr2 := lawRunO hx1 (c := ⟨4, 64, 0, 0⟩) ⟨⟨by show (0 : Int) ≤ 64; omega, by show (64 : Int) < _; omega⟩, ⟨Int.le_refl 0, by show (0 : Int) < _; omega⟩, ⟨Int.le_refl 0, by show (0 : Int) < _; omega⟩⟩ (show (1 : Int) ≤ 4 by omega) (show (4 : Int) ≤ 5 by omega) hn1 (by decide) (by decide) (cancel_out (by omega) HE1.out hp0 hp1)
  have HR2 := Lib.hid hr2
  clear Ta hx1 hn1 hf1 hs1 hh1 hr2 HR1 HX
  simp only [CallC.cells] at HR2
  simp only [ansC]
  go_wp2_with fail
  have HT := Lib.hid (HT.out.alloc (k := w2.heap.size) rfl 30 (ansC 0 true 64 1))
  simp only [List.cons_append, List.nil_append, ansC] at HT
  refine (DoesG.use HR2.out HT.out [0] rfl rfl).mono ?_
  rintro e w3 ⟨gs, ⟨rfl, x2, gF2, hx2, hn2, hf2, hs2, hh2, rfl⟩, Ta⟩
  simp only [putG, List.set_cons_zero, List.set_cons_succ, List.cons_append, List.nil_append, List.append_nil] at Ta
  have HT := Lib.hid Ta
  have HE2 := Lib.hid (show Next2 (1 + room % 8) (2 + ring % 8) dl per x2 from ⟨hf2, hs2, hh2⟩)
  have HX2 := Lib.hid hx2
  have HN2 := Lib.hid hn2
  clear Ta hx2 hn2 hf2 hs2 hh2 HR2 HX1 HE1
  have a1 := HT.out.cell 4 0 rfl 1
  have a2 := HT.out.cell 4 0 rfl 2
  have a3 := HT.out.cell 4 0 rfl 3
  simp only [ansC, List.getElem?_toArray, List.getElem?_cons_zero, List.getElem?_cons_succ] at a1 a2 a3
  have lta := HT.out.lt 4 0 rfl
  simp only [] at lta
  simp only [ansC]
  go_wp2
  have HT := Lib.hid (HT.out.alloc (k := w3.heap.size) rfl 30 (ansC 0 true 64 1))
  simp only [List.cons_append, List.nil_append, ansC] at HT
  clear a1 a2 a3 lta
  go_loopw [18] (fun i wr => ∃ j : Nat, 3 ≤ j ∧ j ≤ 6 ∧ i = .int .i64 j ∧ ∃ x g, isCore L x g ∧ CoreN (100 * j) x ∧ Next2 (1 + room % 8) (2 + ring % 8) dl per x ∧ TG [] w [g, gP, [cl L.p.lb 174 #[.slice none 0 0]], [cl w1.heap.size 24 #[.int .i64 2, .int .u64 0, .int .u64 dl, .int .u64 per]], [cl w2.heap.size 30 #[.int .i64 0, .bool true, .int .u64 64, .int .u64 1, .slice none 0 0]]] wr) (fun i _ => 6 - (intOf i).toNat)
  case atStart => exact ⟨3, by decide, by decide, rfl, x2, gF2, HX2.out, HN2.out.mono (by decide), HE2.out, HT.out.pick [0, 1, 2, 3, 4] rfl⟩
  case round =>
    obtain ⟨j, h3, h6, rfl, x3, gF3, hx3, hn3, he3, T3⟩ := hrel
    have HX3 := Lib.hid hx3
    have HN3 := Lib.hid hn3
    have HE3 := Lib.hid he3
    have HT := Lib.hid T3
    clear hx3 hn3 he3 T3 HX2 HN2 HE2
    have a2 := HT.out.cell 4 0 rfl 2
    have a3 := HT.out.cell 4 0 rfl 3
    simp only [ansC, List.getElem?_toArray, List.getElem?_cons_zero, List.getElem?_cons_succ] at a2 a3
    have lta := HT.out.lt 4 0 rfl
    simp only [] at lta
    by_cases hj : j < 6
    · have hrj := lawRunO HX3.out (c := ⟨j, 64, dl, 0⟩) ⟨⟨by show (0 : Int) ≤ 64; omega, by show (64 : Int) < _; omega⟩, hd, ⟨Int.le_refl 0, by show (0 : Int) < _; omega⟩⟩ (show (1 : Int) ≤ j by omega) (show (j : Int) ≤ 5 by omega) HN3.out (by have := overgate_le j; omega) (overgate_le j) (gone_out (c := ⟨j, 64, dl, 0⟩) (by omega) HE3.out rfl (show (3 : Int) ≤ j by omega) (show (j : Int) ≤ 5 by omega))
      have HRJ := Lib.hid hrj
      clear hrj
      simp only [CallC.cells] at HRJ
      go_wp2_with fail
      refine (DoesG.use HRJ.out HT.out [0] rfl rfl).mono ?_
      rintro e w4 ⟨gs, ⟨rfl, x4, gF4, hx4, hn4, hf4, hs4, hh4, rfl⟩, Ta⟩
      simp only [putG, List.set_cons_zero, List.set_cons_succ, List.cons_append, List.nil_append, List.append_nil] at Ta
      have HT := Lib.hid Ta
      have HX4 := Lib.hid hx4
      have HN4 := Lib.hid (show CoreN (100 * (j + 1)) x4 from hn4.mono (by have := overgate_lt j; omega))
      have HE4 := Lib.hid (show Next2 (1 + room % 8) (2 + ring % 8) dl per x4 from ⟨hf4.trans HE3.out.f, hs4.trans HE3.out.slab, hh4.trans HE3.out.shs⟩)
      clear Ta hx4 hn4 hf4 hs4 hh4
      simp only [ansC]
      go_wp2
      first
      | (go_roundw
         case rel => exact ⟨j + 1, by omega, by omega, by go_num, x4, gF4, HX4.out, HN4.out, HE4.out, HT.out.alloc0 _⟩
         case measure => simp [intOf]; omega)
      | exact ⟨⟨j + 1, by omega, by omega, by go_num, x4, gF4, HX4.out, HN4.out, HE4.out, HT.out.alloc0 _⟩, by simp [intOf]; omega⟩
      | ((repeat apply Exists.intro); exact ⟨⟨⟨j + 1, by omega, by omega, by go_num, x4, gF4, HX4.out, HN4.out, HE4.out, HT.out.alloc0 _⟩, rfl⟩, by simp [intOf]; omega⟩)
    · have : j = 6 := by omega
      subst this
      obtain ⟨q, hq, hqv⟩ := core_q HX3.out (i := 0) (by rw [HE3.out.shs]; show 0 < ((List.replicate ((2 : Int).toNat) _).set 0 _).length; rw [List.length_set, List.length_replicate]; decide)
      have hsh : x3.shs[0]? = some { newShard (2 + ring % 8).toNat with ring := filledR (newRing (2 + ring % 8).toNat) ⟨64, 0, 1, dl, per⟩ } := by
        rw [HE3.out.shs]
        show ((List.replicate ((2 : Int).toNat) _).set 0 _)[0]? = _
        rw [List.getElem?_set_self (by rw [List.length_replicate]; decide)]
      have hrb := (HN3.out.ring _ (List.mem_of_getElem? hsh)).b (by decide)
      have hw0 : x3.slab.word 0 = 256 := by
        rw [HE3.out.slab]
        exact word_of (s := slab2 (1 + room % 8) per) (j := 0) (r := goneR per) (by show ((List.replicate (1 + room % 8).toNat Rec.zero).set 0 _)[0]? = _; rw [List.getElem?_set_self (by rw [List.length_replicate]; omega)])
      have hwe : x3.slab.werr 0 = 0 := by
        have : x3.slab.has 0 := by
          rw [HE3.out.slab]
          exact has_of (s := slab2 (1 + room % 8) per) (j := 0) (r := goneR per) (by show ((List.replicate (1 + room % 8).toNat Rec.zero).set 0 _)[0]? = _; rw [List.getElem?_set_self (by rw [List.length_replicate]; omega)])
        exact if_pos this
      have hcn : x3.slab.count = 0 := by rw [HE3.out.slab]; rfl
      have hWD := fun g hx => coreWord (L := L) (x := x3) (g := g) hx HN3.out.slab.n1 0
      have hPO : ∀ g, isCore L x3 g → DoesG Tryz.prog 33 #[ptr' q.b] [g] fun e gs => e = .returned (.tuple #[.agg #[.int .u64 64, .int .i64 0, .int .u64 1, .int .u64 dl, .int .u64 per], .int .i64 0]) ∧ ∃ g' x', isCore L x' g' ∧ x'.slab.count = 0 ∧ gs = [g'] := fun g hx => (corePop (L := L) (x := x3) (g := g) hx hq hsh hrb).mono (by
        rintro e gs ⟨he, g', hg', rfl⟩
        have h := pop_first (ring := 2 + ring % 8) (by omega) ⟨64, 0, 1, dl, per⟩
        rw [show ({ newShard (2 + ring % 8).toNat with ring := filledR (newRing (2 + ring % 8).toNat) ⟨64, 0, 1, dl, per⟩ } : ShardS).ring = filledR (newRing (2 + ring % 8).toNat) ⟨64, 0, 1, dl, per⟩ from rfl, h] at he
        exact ⟨he, g', _, hg', hcn, rfl⟩)
      rw [hw0, hwe] at hWD
      have HWD := Lib.hid hWD
      have HPO := Lib.hid hPO
      have HSA := Lib.hid (show ∀ g, isCore L x3 g → ReadsG Tryz.prog 29 #[ptr' L.fb, .int .i64 0] [g] (ptr' q.b) from fun g hx => by have h := coreShardAt_r hx ((0 : Nat) : Int); rw [hqv] at h; exact h)
      clear hq hqv hsh hrb hw0 hwe hcn hWD hPO a2 a3 lta
      go_wp2_with fail
      refine (ReadsG.use (coreSlab_r HX3.out) (HT.out) [0] rfl rfl).mono ?_
      rintro e w1 ⟨rfl, mq, rfl⟩
      have HT := Lib.hid (HT.out.drewN mq)
      generalize World.drewN _ _ = wq at HT ⊢
      go_wp2_with fail
      refine (DoesG.use (HWD.out _ HX3.out) (HT.out) [0] rfl rfl).mono ?_
      rintro e w1 ⟨gs, ⟨rfl, g5, hx5, rfl⟩, Ta⟩
      simp only [putG, List.set_cons_zero, List.set_cons_succ, List.cons_append, List.nil_append, List.append_nil] at Ta
      have HX5 := Lib.hid hx5
      clear hx5
      have HT := Lib.hid Ta
      clear Ta
      go_wp2_with fail
      refine (ReadsG.use (HSA.out _ HX5.out) (HT.out) [0] rfl rfl).mono ?_
      rintro e w1 ⟨rfl, mq, rfl⟩
      have HT := Lib.hid (HT.out.drewN mq)
      generalize World.drewN _ _ = wq at HT ⊢
      go_wp2_with fail
      refine (DoesG.use (HPO.out _ HX5.out) (HT.out) [0] rfl rfl).mono ?_
      rintro e w1 ⟨gs, ⟨rfl, g6, x6, hx6, hc6, rfl⟩, Ta⟩
      simp only [putG, List.set_cons_zero, List.set_cons_succ, List.cons_append, List.nil_append, List.append_nil] at Ta
      have HX6 := Lib.hid hx6
      have HCN := Lib.hid hc6
      clear hx6 hc6
      have HT := Lib.hid Ta
      clear Ta
      have a2 := HT.out.cell 4 0 rfl 2
      have a3 := HT.out.cell 4 0 rfl 3
      simp only [ansC, List.getElem?_toArray, List.getElem?_cons_zero, List.getElem?_cons_succ] at a2 a3
      have c3 := HT.out.cell 3 0 rfl 3
      simp only [ansC, List.getElem?_toArray, List.getElem?_cons_zero, List.getElem?_cons_succ] at c3
      have lta := HT.out.lt 4 0 rfl
      have ltc := HT.out.lt 3 0 rfl
      simp only [] at lta ltc
      go_wp2_with (go_at_call 32; refine (state_calls 256 _ (by decide) (by decide)).mono ?_; rintro e w' ⟨rfl, rfl⟩)
      have HT := Lib.hid (HT.out.alloc (k := w1.heap.size) rfl 67 #[.int .u64 64, .int .i64 0, .int .u64 1, .int .u64 dl, .int .u64 per])
      simp only [List.cons_append, List.nil_append] at HT
      have ltt := HT.out.lt 5 0 rfl
      simp only [] at ltt
      have t0 := HT.out.cell 5 0 rfl 0
      have t1 := HT.out.cell 5 0 rfl 1
      have t2 := HT.out.cell 5 0 rfl 2
      have t3 := HT.out.cell 5 0 rfl 3
      have t4 := HT.out.cell 5 0 rfl 4
      simp only [ansC, List.getElem?_toArray, List.getElem?_cons_zero, List.getElem?_cons_succ] at t0 t1 t2 t3 t4
      clear a2 a3 c3 lta ltc
      generalize World.alloc _ _ = w7 at HT t0 t1 t2 t3 t4 ltt ⊢
      go_wp2_with fail
      refine (ReadsG.use (coreSlab_r HX6.out) (HT.out) [0] rfl rfl).mono ?_
      rintro e w1 ⟨rfl, mq, rfl⟩
      have HT := Lib.hid (HT.out.drewN mq)
      generalize World.drewN _ _ = wq at HT ⊢
      clear t0 t1 t2 t3 t4 ltt
      have hCO := coreCount HX6.out
      rw [HCN.out] at hCO
      go_wp2_with fail
      refine (DoesG.use (hCO) (HT.out) [0] rfl rfl).mono ?_
      rintro e w1 ⟨gs, ⟨rfl, g8, hx8, rfl⟩, Ta⟩
      simp only [putG, List.set_cons_zero, List.set_cons_succ, List.cons_append, List.nil_append, List.append_nil] at Ta
      clear hx8
      have HT := Lib.hid Ta
      clear Ta
      clear hCO
      have a2 := HT.out.cell 4 0 rfl 2
      have a3 := HT.out.cell 4 0 rfl 3
      simp only [ansC, List.getElem?_toArray, List.getElem?_cons_zero, List.getElem?_cons_succ] at a2 a3
      have c3 := HT.out.cell 3 0 rfl 3
      simp only [ansC, List.getElem?_toArray, List.getElem?_cons_zero, List.getElem?_cons_succ] at c3
      have t0 := HT.out.cell 5 0 rfl 0
      have t1 := HT.out.cell 5 0 rfl 1
      have t2 := HT.out.cell 5 0 rfl 2
      have t3 := HT.out.cell 5 0 rfl 3
      have t4 := HT.out.cell 5 0 rfl 4
      simp only [ansC, List.getElem?_toArray, List.getElem?_cons_zero, List.getElem?_cons_succ] at t0 t1 t2 t3 t4
      go_wp2
      go_ret
      exact ⟨_, rfl, HT.out⟩
set_option maxHeartbeats 4000000 in
set_option maxRecDepth 100000 in
theorem gone_b (room ring dl per : Int) (hro : 0 ≤ room ∧ room < 256) (hri : 0 ≤ ring ∧ ring < 256) (hd : 0 ≤ dl ∧ dl < 18446744073709551616) (hpb : 0 ≤ per ∧ per < 18446744073709551616) (h0 : 0 < per) (h9 : ¬ dl ≤ 18446744073709551615 - per) :
    DoesG Tryz.prog 6 #[.int .u8 room, .int .u8 ring, .int .u64 dl, .int .u64 per] [] fun e gs => e = .returned (.bool true) := by
  have b1 : decide (per > 0) = true := decide_eq_true h0
  have b2 : decide (dl ≤ 18446744073709551615 - per) = false := decide_eq_false h9
  have hcw : (⟨1, 0, dl, 0⟩ : CallC).wf := ⟨⟨Int.le_refl 0, by show (0 : Int) < _; omega⟩, hd, ⟨Int.le_refl 0, by show (0 : Int) < _; omega⟩⟩
  have hfit : fitC ⟨1, 0, dl, 0⟩ := .inl rfl
  have hp0 : (0 : Int) ≤ 0 := by decide
  have hp1 : (0 : Int) < 18446744073709551616 := by decide
  intro w hw
  have T0 := TG.refl hw
  have HT := Lib.hid T0
  clear hw T0
  have HB1 := Lib.hid b1
  have HB2 := Lib.hid b2
  clear b1 b2
  go_enter Tryz.func6, Tryz.ntmps6
  go_wp2_with fail
  refine (DoesG.use (alive16_g) (HT.out) [] rfl rfl).mono ?_
  rintro e w1 ⟨gs, ⟨rfl, rfl⟩, Ta⟩
  simp only [putG, List.set_cons_zero, List.set_cons_succ, List.cons_append, List.nil_append, List.append_nil] at Ta
  have HT := Lib.hid Ta
  clear Ta
  go_wp2_with fail
  refine (DoesG.use (plain16_g (1 + room % 8) (2 + ring % 8)) (HT.out) [] rfl rfl).mono ?_
  rintro e w1 ⟨gs, ⟨rfl, rfl⟩, Ta⟩
  simp only [putG, List.set_cons_zero, List.set_cons_succ, List.cons_append, List.nil_append, List.append_nil] at Ta
  have HT := Lib.hid Ta
  clear Ta
  go_wp2_with fail
  refine (DoesG.use (newCore (plain16 (1 + room % 8) (2 + ring % 8)) (plain16_fine (by omega) (by omega) (by omega) (by omega))) (HT.out) [] rfl rfl).mono ?_
  rintro e w1 ⟨gs, ⟨L, gF, gP, gL, rfl, hx, hp, rfl, rfl⟩, Ta⟩
  simp only [putG, List.set_cons_zero, List.set_cons_succ, List.cons_append, List.nil_append, List.append_nil] at Ta
  have HX := Lib.hid hx
  clear hx hp
  have HT := Lib.hid Ta
  clear Ta
  have hr1 := lawRunO HX.out (c := ⟨1, 0, dl, 0⟩) hcw (show (1 : Int) ≤ 1 by omega) (show (1 : Int) ≤ 5 by omega) (core0_n (plain16_fine (by omega) (by omega) (by omega) (by omega))) (by decide) (by decide) (first_good (by omega) (by omega) (by omega) (by omega) hcw hfit)
  have HR1 := Lib.hid hr1
  clear hr1
  simp only [CallC.cells] at HR1
  have hb1 := HB1.out
  have hb2 := HB2.out
  go_wp2_with fail
  have HT := Lib.hid (HT.out.alloc (k := w1.heap.size) rfl 24 #[.int .i64 1, .int .u64 0, .int .u64 dl, .int .u64 0])
  simp only [List.cons_append, List.nil_append] at HT
  refine (DoesG.use HR1.out HT.out [0] rfl rfl).mono ?_
  rintro e w2 ⟨gs, ⟨rfl, x1, gF1, hx1, hn1, hf1, hs1, hh1, rfl⟩, Ta⟩
  simp only [putG, List.set_cons_zero, List.set_cons_succ, List.cons_append, List.nil_append, List.append_nil] at Ta
  have HT := Lib.hid Ta
  have HX1 := Lib.hid hx1
  have HE1 := Lib.hid (show Next1 (1 + room % 8) (2 + ring % 8) dl 0 x1 from ⟨hf1, hs1, hh1⟩)
  have hr2 := lawRunO hx1 (c := ⟨4, 64, 0, 0⟩) ⟨⟨by show (0 : Int) ≤ 64; omega, by show (64 : Int) < _; omega⟩, ⟨Int.le_refl 0, by show (0 : Int) < _; omega⟩, ⟨Int.le_refl 0, by show (0 : Int) < _; omega⟩⟩ (show (1 : Int) ≤ 4 by omega) (show (4 : Int) ≤ 5 by omega) hn1 (by decide) (by decide) (cancel_out (by omega) HE1.out hp0 hp1)
  have HR2 := Lib.hid hr2
  clear Ta hx1 hn1 hf1 hs1 hh1 hr2 HR1 HX
  simp only [CallC.cells] at HR2
  simp only [ansC]
  go_wp2_with fail
  have HT := Lib.hid (HT.out.alloc (k := w2.heap.size) rfl 30 (ansC 0 true 64 1))
  simp only [List.cons_append, List.nil_append, ansC] at HT
  refine (DoesG.use HR2.out HT.out [0] rfl rfl).mono ?_
  rintro e w3 ⟨gs, ⟨rfl, x2, gF2, hx2, hn2, hf2, hs2, hh2, rfl⟩, Ta⟩
  simp only [putG, List.set_cons_zero, List.set_cons_succ, List.cons_append, List.nil_append, List.append_nil] at Ta
  have HT := Lib.hid Ta
  have HE2 := Lib.hid (show Next2 (1 + room % 8) (2 + ring % 8) dl 0 x2 from ⟨hf2, hs2, hh2⟩)
  have HX2 := Lib.hid hx2
  have HN2 := Lib.hid hn2
  clear Ta hx2 hn2 hf2 hs2 hh2 HR2 HX1 HE1
  have a1 := HT.out.cell 4 0 rfl 1
  have a2 := HT.out.cell 4 0 rfl 2
  have a3 := HT.out.cell 4 0 rfl 3
  simp only [ansC, List.getElem?_toArray, List.getElem?_cons_zero, List.getElem?_cons_succ] at a1 a2 a3
  have lta := HT.out.lt 4 0 rfl
  simp only [] at lta
  simp only [ansC]
  go_wp2
  have HT := Lib.hid (HT.out.alloc (k := w3.heap.size) rfl 30 (ansC 0 true 64 1))
  simp only [List.cons_append, List.nil_append, ansC] at HT
  clear a1 a2 a3 lta
  go_loopw [18] (fun i wr => ∃ j : Nat, 3 ≤ j ∧ j ≤ 6 ∧ i = .int .i64 j ∧ ∃ x g, isCore L x g ∧ CoreN (100 * j) x ∧ Next2 (1 + room % 8) (2 + ring % 8) dl 0 x ∧ TG [] w [g, gP, [cl L.p.lb 174 #[.slice none 0 0]], [cl w1.heap.size 24 #[.int .i64 1, .int .u64 0, .int .u64 dl, .int .u64 0]], [cl w2.heap.size 30 #[.int .i64 0, .bool true, .int .u64 64, .int .u64 1, .slice none 0 0]]] wr) (fun i _ => 6 - (intOf i).toNat)
  case atStart => exact ⟨3, by decide, by decide, rfl, x2, gF2, HX2.out, HN2.out.mono (by decide), HE2.out, HT.out.pick [0, 1, 2, 3, 4] rfl⟩
  case round =>
    obtain ⟨j, h3, h6, rfl, x3, gF3, hx3, hn3, he3, T3⟩ := hrel
    have HX3 := Lib.hid hx3
    have HN3 := Lib.hid hn3
    have HE3 := Lib.hid he3
    have HT := Lib.hid T3
    clear hx3 hn3 he3 T3 HX2 HN2 HE2
    have a2 := HT.out.cell 4 0 rfl 2
    have a3 := HT.out.cell 4 0 rfl 3
    simp only [ansC, List.getElem?_toArray, List.getElem?_cons_zero, List.getElem?_cons_succ] at a2 a3
    have lta := HT.out.lt 4 0 rfl
    simp only [] at lta
    by_cases hj : j < 6
    · have hrj := lawRunO HX3.out (c := ⟨j, 64, dl, 0⟩) ⟨⟨by show (0 : Int) ≤ 64; omega, by show (64 : Int) < _; omega⟩, hd, ⟨Int.le_refl 0, by show (0 : Int) < _; omega⟩⟩ (show (1 : Int) ≤ j by omega) (show (j : Int) ≤ 5 by omega) HN3.out (by have := overgate_le j; omega) (overgate_le j) (gone_out (c := ⟨j, 64, dl, 0⟩) (by omega) HE3.out rfl (show (3 : Int) ≤ j by omega) (show (j : Int) ≤ 5 by omega))
      have HRJ := Lib.hid hrj
      clear hrj
      simp only [CallC.cells] at HRJ
      go_wp2_with fail
      refine (DoesG.use HRJ.out HT.out [0] rfl rfl).mono ?_
      rintro e w4 ⟨gs, ⟨rfl, x4, gF4, hx4, hn4, hf4, hs4, hh4, rfl⟩, Ta⟩
      simp only [putG, List.set_cons_zero, List.set_cons_succ, List.cons_append, List.nil_append, List.append_nil] at Ta
      have HT := Lib.hid Ta
      have HX4 := Lib.hid hx4
      have HN4 := Lib.hid (show CoreN (100 * (j + 1)) x4 from hn4.mono (by have := overgate_lt j; omega))
      have HE4 := Lib.hid (show Next2 (1 + room % 8) (2 + ring % 8) dl 0 x4 from ⟨hf4.trans HE3.out.f, hs4.trans HE3.out.slab, hh4.trans HE3.out.shs⟩)
      clear Ta hx4 hn4 hf4 hs4 hh4
      simp only [ansC]
      go_wp2
      first
      | (go_roundw
         case rel => exact ⟨j + 1, by omega, by omega, by go_num, x4, gF4, HX4.out, HN4.out, HE4.out, HT.out.alloc0 _⟩
         case measure => simp [intOf]; omega)
      | exact ⟨⟨j + 1, by omega, by omega, by go_num, x4, gF4, HX4.out, HN4.out, HE4.out, HT.out.alloc0 _⟩, by simp [intOf]; omega⟩
      | ((repeat apply Exists.intro); exact ⟨⟨⟨j + 1, by omega, by omega, by go_num, x4, gF4, HX4.out, HN4.out, HE4.out, HT.out.alloc0 _⟩, rfl⟩, by simp [intOf]; omega⟩)
    · have : j = 6 := by omega
      subst this
      obtain ⟨q, hq, hqv⟩ := core_q HX3.out (i := 0) (by rw [HE3.out.shs]; show 0 < ((List.replicate ((2 : Int).toNat) _).set 0 _).length; rw [List.length_set, List.length_replicate]; decide)
      have hsh : x3.shs[0]? = some { newShard (2 + ring % 8).toNat with ring := filledR (newRing (2 + ring % 8).toNat) ⟨64, 0, 1, dl, 0⟩ } := by
        rw [HE3.out.shs]
        show ((List.replicate ((2 : Int).toNat) _).set 0 _)[0]? = _
        rw [List.getElem?_set_self (by rw [List.length_replicate]; decide)]
      have hrb := (HN3.out.ring _ (List.mem_of_getElem? hsh)).b (by decide)
      have hw0 : x3.slab.word 0 = 256 := by
        rw [HE3.out.slab]
        exact word_of (s := slab2 (1 + room % 8) 0) (j := 0) (r := goneR 0) (by show ((List.replicate (1 + room % 8).toNat Rec.zero).set 0 _)[0]? = _; rw [List.getElem?_set_self (by rw [List.length_replicate]; omega)])
      have hwe : x3.slab.werr 0 = 0 := by
        have : x3.slab.has 0 := by
          rw [HE3.out.slab]
          exact has_of (s := slab2 (1 + room % 8) 0) (j := 0) (r := goneR 0) (by show ((List.replicate (1 + room % 8).toNat Rec.zero).set 0 _)[0]? = _; rw [List.getElem?_set_self (by rw [List.length_replicate]; omega)])
        exact if_pos this
      have hcn : x3.slab.count = 0 := by rw [HE3.out.slab]; rfl
      have hWD := fun g hx => coreWord (L := L) (x := x3) (g := g) hx HN3.out.slab.n1 0
      have hPO : ∀ g, isCore L x3 g → DoesG Tryz.prog 33 #[ptr' q.b] [g] fun e gs => e = .returned (.tuple #[.agg #[.int .u64 64, .int .i64 0, .int .u64 1, .int .u64 dl, .int .u64 0], .int .i64 0]) ∧ ∃ g' x', isCore L x' g' ∧ x'.slab.count = 0 ∧ gs = [g'] := fun g hx => (corePop (L := L) (x := x3) (g := g) hx hq hsh hrb).mono (by
        rintro e gs ⟨he, g', hg', rfl⟩
        have h := pop_first (ring := 2 + ring % 8) (by omega) ⟨64, 0, 1, dl, 0⟩
        rw [show ({ newShard (2 + ring % 8).toNat with ring := filledR (newRing (2 + ring % 8).toNat) ⟨64, 0, 1, dl, 0⟩ } : ShardS).ring = filledR (newRing (2 + ring % 8).toNat) ⟨64, 0, 1, dl, 0⟩ from rfl, h] at he
        exact ⟨he, g', _, hg', hcn, rfl⟩)
      rw [hw0, hwe] at hWD
      have HWD := Lib.hid hWD
      have HPO := Lib.hid hPO
      have HSA := Lib.hid (show ∀ g, isCore L x3 g → ReadsG Tryz.prog 29 #[ptr' L.fb, .int .i64 0] [g] (ptr' q.b) from fun g hx => by have h := coreShardAt_r hx ((0 : Nat) : Int); rw [hqv] at h; exact h)
      clear hq hqv hsh hrb hw0 hwe hcn hWD hPO a2 a3 lta
      go_wp2_with fail
      refine (ReadsG.use (coreSlab_r HX3.out) (HT.out) [0] rfl rfl).mono ?_
      rintro e w1 ⟨rfl, mq, rfl⟩
      have HT := Lib.hid (HT.out.drewN mq)
      generalize World.drewN _ _ = wq at HT ⊢
      go_wp2_with fail
      refine (DoesG.use (HWD.out _ HX3.out) (HT.out) [0] rfl rfl).mono ?_
      rintro e w1 ⟨gs, ⟨rfl, g5, hx5, rfl⟩, Ta⟩
      simp only [putG, List.set_cons_zero, List.set_cons_succ, List.cons_append, List.nil_append, List.append_nil] at Ta
      have HX5 := Lib.hid hx5
      clear hx5
      have HT := Lib.hid Ta
      clear Ta
      go_wp2_with fail
      refine (ReadsG.use (HSA.out _ HX5.out) (HT.out) [0] rfl rfl).mono ?_
      rintro e w1 ⟨rfl, mq, rfl⟩
      have HT := Lib.hid (HT.out.drewN mq)
      generalize World.drewN _ _ = wq at HT ⊢
      go_wp2_with fail
      refine (DoesG.use (HPO.out _ HX5.out) (HT.out) [0] rfl rfl).mono ?_
      rintro e w1 ⟨gs, ⟨rfl, g6, x6, hx6, hc6, rfl⟩, Ta⟩
      simp only [putG, List.set_cons_zero, List.set_cons_succ, List.cons_append, List.nil_append, List.append_nil] at Ta
      have HX6 := Lib.hid hx6
      have HCN := Lib.hid hc6
      clear hx6 hc6
      have HT := Lib.hid Ta
      clear Ta
      have a2 := HT.out.cell 4 0 rfl 2
      have a3 := HT.out.cell 4 0 rfl 3
      simp only [ansC, List.getElem?_toArray, List.getElem?_cons_zero, List.getElem?_cons_succ] at a2 a3
      have c3 := HT.out.cell 3 0 rfl 3
      simp only [ansC, List.getElem?_toArray, List.getElem?_cons_zero, List.getElem?_cons_succ] at c3
      have lta := HT.out.lt 4 0 rfl
      have ltc := HT.out.lt 3 0 rfl
      simp only [] at lta ltc
      go_wp2_with (go_at_call 32; refine (state_calls 256 _ (by decide) (by decide)).mono ?_; rintro e w' ⟨rfl, rfl⟩)
      have HT := Lib.hid (HT.out.alloc (k := w1.heap.size) rfl 67 #[.int .u64 64, .int .i64 0, .int .u64 1, .int .u64 dl, .int .u64 0])
      simp only [List.cons_append, List.nil_append] at HT
      have ltt := HT.out.lt 5 0 rfl
      simp only [] at ltt
      have t0 := HT.out.cell 5 0 rfl 0
      have t1 := HT.out.cell 5 0 rfl 1
      have t2 := HT.out.cell 5 0 rfl 2
      have t3 := HT.out.cell 5 0 rfl 3
      have t4 := HT.out.cell 5 0 rfl 4
      simp only [ansC, List.getElem?_toArray, List.getElem?_cons_zero, List.getElem?_cons_succ] at t0 t1 t2 t3 t4
      clear a2 a3 c3 lta ltc
      generalize World.alloc _ _ = w7 at HT t0 t1 t2 t3 t4 ltt ⊢
      go_wp2_with fail
      refine (ReadsG.use (coreSlab_r HX6.out) (HT.out) [0] rfl rfl).mono ?_
      rintro e w1 ⟨rfl, mq, rfl⟩
      have HT := Lib.hid (HT.out.drewN mq)
      generalize World.drewN _ _ = wq at HT ⊢
      clear t0 t1 t2 t3 t4 ltt
      have hCO := coreCount HX6.out
      rw [HCN.out] at hCO
      go_wp2_with fail
      refine (DoesG.use (hCO) (HT.out) [0] rfl rfl).mono ?_
      rintro e w1 ⟨gs, ⟨rfl, g8, hx8, rfl⟩, Ta⟩
      simp only [putG, List.set_cons_zero, List.set_cons_succ, List.cons_append, List.nil_append, List.append_nil] at Ta
      clear hx8
      have HT := Lib.hid Ta
      clear Ta
      clear hCO
      have a2 := HT.out.cell 4 0 rfl 2
      have a3 := HT.out.cell 4 0 rfl 3
      simp only [ansC, List.getElem?_toArray, List.getElem?_cons_zero, List.getElem?_cons_succ] at a2 a3
      have c3 := HT.out.cell 3 0 rfl 3
      simp only [ansC, List.getElem?_toArray, List.getElem?_cons_zero, List.getElem?_cons_succ] at c3
      have t0 := HT.out.cell 5 0 rfl 0
      have t1 := HT.out.cell 5 0 rfl 1
      have t2 := HT.out.cell 5 0 rfl 2
      have t3 := HT.out.cell 5 0 rfl 3
      have t4 := HT.out.cell 5 0 rfl 4
      simp only [ansC, List.getElem?_toArray, List.getElem?_cons_zero, List.getElem?_cons_succ] at t0 t1 t2 t3 t4
      go_wp2
      go_ret
      exact ⟨_, rfl, HT.out⟩
set_option maxHeartbeats 4000000 in
set_option maxRecDepth 100000 in
theorem gone_c (room ring dl per : Int) (hro : 0 ≤ room ∧ room < 256) (hri : 0 ≤ ring ∧ ring < 256) (hd : 0 ≤ dl ∧ dl < 18446744073709551616) (hpb : 0 ≤ per ∧ per < 18446744073709551616) (h0 : ¬ 0 < per) :
    DoesG Tryz.prog 6 #[.int .u8 room, .int .u8 ring, .int .u64 dl, .int .u64 per] [] fun e gs => e = .returned (.bool true) := by
  have b1 : decide (per > 0) = false := decide_eq_false h0
  have b2 := b1
  have hcw : (⟨1, 0, dl, 0⟩ : CallC).wf := ⟨⟨Int.le_refl 0, by show (0 : Int) < _; omega⟩, hd, ⟨Int.le_refl 0, by show (0 : Int) < _; omega⟩⟩
  have hfit : fitC ⟨1, 0, dl, 0⟩ := .inl rfl
  have hp0 : (0 : Int) ≤ 0 := by decide
  have hp1 : (0 : Int) < 18446744073709551616 := by decide
  intro w hw
  have T0 := TG.refl hw
  have HT := Lib.hid T0
  clear hw T0
  have HB1 := Lib.hid b1
  have HB2 := Lib.hid b2
  clear b1 b2
  go_enter Tryz.func6, Tryz.ntmps6
  go_wp2_with fail
  refine (DoesG.use (alive16_g) (HT.out) [] rfl rfl).mono ?_
  rintro e w1 ⟨gs, ⟨rfl, rfl⟩, Ta⟩
  simp only [putG, List.set_cons_zero, List.set_cons_succ, List.cons_append, List.nil_append, List.append_nil] at Ta
  have HT := Lib.hid Ta
  clear Ta
  go_wp2_with fail
  refine (DoesG.use (plain16_g (1 + room % 8) (2 + ring % 8)) (HT.out) [] rfl rfl).mono ?_
  rintro e w1 ⟨gs, ⟨rfl, rfl⟩, Ta⟩
  simp only [putG, List.set_cons_zero, List.set_cons_succ, List.cons_append, List.nil_append, List.append_nil] at Ta
  have HT := Lib.hid Ta
  clear Ta
  go_wp2_with fail
  refine (DoesG.use (newCore (plain16 (1 + room % 8) (2 + ring % 8)) (plain16_fine (by omega) (by omega) (by omega) (by omega))) (HT.out) [] rfl rfl).mono ?_
  rintro e w1 ⟨gs, ⟨L, gF, gP, gL, rfl, hx, hp, rfl, rfl⟩, Ta⟩
  simp only [putG, List.set_cons_zero, List.set_cons_succ, List.cons_append, List.nil_append, List.append_nil] at Ta
  have HX := Lib.hid hx
  clear hx hp
  have HT := Lib.hid Ta
  clear Ta
  have hr1 := lawRunO HX.out (c := ⟨1, 0, dl, 0⟩) hcw (show (1 : Int) ≤ 1 by omega) (show (1 : Int) ≤ 5 by omega) (core0_n (plain16_fine (by omega) (by omega) (by omega) (by omega))) (by decide) (by decide) (first_good (by omega) (by omega) (by omega) (by omega) hcw hfit)
  have HR1 := Lib.hid hr1
  clear hr1
  simp only [CallC.cells] at HR1
  have hb1 := HB1.out
  have hb2 := HB2.out
  go_wp2_with fail
  have HT := Lib.hid (HT.out.alloc (k := w1.heap.size) rfl 24 #[.int .i64 1, .int .u64 0, .int .u64 dl, .int .u64 0])
  simp only [List.cons_append, List.nil_append] at HT
  refine (DoesG.use HR1.out HT.out [0] rfl rfl).mono ?_
  rintro e w2 ⟨gs, ⟨rfl, x1, gF1, hx1, hn1, hf1, hs1, hh1, rfl⟩, Ta⟩
  simp only [putG, List.set_cons_zero, List.set_cons_succ, List.cons_append, List.nil_append, List.append_nil] at Ta
  have HT := Lib.hid Ta
  have HX1 := Lib.hid hx1
  have HE1 := Lib.hid (show Next1 (1 + room % 8) (2 + ring % 8) dl 0 x1 from ⟨hf1, hs1, hh1⟩)
  have hr2 := lawRunO hx1 (c := ⟨4, 64, 0, 0⟩) ⟨⟨by show (0 : Int) ≤ 64; omega, by show (64 : Int) < _; omega⟩, ⟨Int.le_refl 0, by show (0 : Int) < _; omega⟩, ⟨Int.le_refl 0, by show (0 : Int) < _; omega⟩⟩ (show (1 : Int) ≤ 4 by omega) (show (4 : Int) ≤ 5 by omega) hn1 (by decide) (by decide) (cancel_out (by omega) HE1.out hp0 hp1)
  have HR2 := Lib.hid hr2
  clear Ta hx1 hn1 hf1 hs1 hh1 hr2 HR1 HX
  simp only [CallC.cells] at HR2
  simp only [ansC]
  go_wp2_with fail
  have HT := Lib.hid (HT.out.alloc (k := w2.heap.size) rfl 30 (ansC 0 true 64 1))
  simp only [List.cons_append, List.nil_append, ansC] at HT
  refine (DoesG.use HR2.out HT.out [0] rfl rfl).mono ?_
  rintro e w3 ⟨gs, ⟨rfl, x2, gF2, hx2, hn2, hf2, hs2, hh2, rfl⟩, Ta⟩
  simp only [putG, List.set_cons_zero, List.set_cons_succ, List.cons_append, List.nil_append, List.append_nil] at Ta
  have HT := Lib.hid Ta
  have HE2 := Lib.hid (show Next2 (1 + room % 8) (2 + ring % 8) dl 0 x2 from ⟨hf2, hs2, hh2⟩)
  have HX2 := Lib.hid hx2
  have HN2 := Lib.hid hn2
  clear Ta hx2 hn2 hf2 hs2 hh2 HR2 HX1 HE1
  have a1 := HT.out.cell 4 0 rfl 1
  have a2 := HT.out.cell 4 0 rfl 2
  have a3 := HT.out.cell 4 0 rfl 3
  simp only [ansC, List.getElem?_toArray, List.getElem?_cons_zero, List.getElem?_cons_succ] at a1 a2 a3
  have lta := HT.out.lt 4 0 rfl
  simp only [] at lta
  simp only [ansC]
  go_wp2
  have HT := Lib.hid (HT.out.alloc (k := w3.heap.size) rfl 30 (ansC 0 true 64 1))
  simp only [List.cons_append, List.nil_append, ansC] at HT
  clear a1 a2 a3 lta
  go_loopw [18] (fun i wr => ∃ j : Nat, 3 ≤ j ∧ j ≤ 6 ∧ i = .int .i64 j ∧ ∃ x g, isCore L x g ∧ CoreN (100 * j) x ∧ Next2 (1 + room % 8) (2 + ring % 8) dl 0 x ∧ TG [] w [g, gP, [cl L.p.lb 174 #[.slice none 0 0]], [cl w1.heap.size 24 #[.int .i64 1, .int .u64 0, .int .u64 dl, .int .u64 0]], [cl w2.heap.size 30 #[.int .i64 0, .bool true, .int .u64 64, .int .u64 1, .slice none 0 0]]] wr) (fun i _ => 6 - (intOf i).toNat)
  case atStart => exact ⟨3, by decide, by decide, rfl, x2, gF2, HX2.out, HN2.out.mono (by decide), HE2.out, HT.out.pick [0, 1, 2, 3, 4] rfl⟩
  case round =>
    obtain ⟨j, h3, h6, rfl, x3, gF3, hx3, hn3, he3, T3⟩ := hrel
    have HX3 := Lib.hid hx3
    have HN3 := Lib.hid hn3
    have HE3 := Lib.hid he3
    have HT := Lib.hid T3
    clear hx3 hn3 he3 T3 HX2 HN2 HE2
    have a2 := HT.out.cell 4 0 rfl 2
    have a3 := HT.out.cell 4 0 rfl 3
    simp only [ansC, List.getElem?_toArray, List.getElem?_cons_zero, List.getElem?_cons_succ] at a2 a3
    have lta := HT.out.lt 4 0 rfl
    simp only [] at lta
    by_cases hj : j < 6
    · have hrj := lawRunO HX3.out (c := ⟨j, 64, dl, 0⟩) ⟨⟨by show (0 : Int) ≤ 64; omega, by show (64 : Int) < _; omega⟩, hd, ⟨Int.le_refl 0, by show (0 : Int) < _; omega⟩⟩ (show (1 : Int) ≤ j by omega) (show (j : Int) ≤ 5 by omega) HN3.out (by have := overgate_le j; omega) (overgate_le j) (gone_out (c := ⟨j, 64, dl, 0⟩) (by omega) HE3.out rfl (show (3 : Int) ≤ j by omega) (show (j : Int) ≤ 5 by omega))
      have HRJ := Lib.hid hrj
      clear hrj
      simp only [CallC.cells] at HRJ
      go_wp2_with fail
      refine (DoesG.use HRJ.out HT.out [0] rfl rfl).mono ?_
      rintro e w4 ⟨gs, ⟨rfl, x4, gF4, hx4, hn4, hf4, hs4, hh4, rfl⟩, Ta⟩
      simp only [putG, List.set_cons_zero, List.set_cons_succ, List.cons_append, List.nil_append, List.append_nil] at Ta
      have HT := Lib.hid Ta
      have HX4 := Lib.hid hx4
      have HN4 := Lib.hid (show CoreN (100 * (j + 1)) x4 from hn4.mono (by have := overgate_lt j; omega))
      have HE4 := Lib.hid (show Next2 (1 + room % 8) (2 + ring % 8) dl 0 x4 from ⟨hf4.trans HE3.out.f, hs4.trans HE3.out.slab, hh4.trans HE3.out.shs⟩)
      clear Ta hx4 hn4 hf4 hs4 hh4
      simp only [ansC]
      go_wp2
      first
      | (go_roundw
         case rel => exact ⟨j + 1, by omega, by omega, by go_num, x4, gF4, HX4.out, HN4.out, HE4.out, HT.out.alloc0 _⟩
         case measure => simp [intOf]; omega)
      | exact ⟨⟨j + 1, by omega, by omega, by go_num, x4, gF4, HX4.out, HN4.out, HE4.out, HT.out.alloc0 _⟩, by simp [intOf]; omega⟩
      | ((repeat apply Exists.intro); exact ⟨⟨⟨j + 1, by omega, by omega, by go_num, x4, gF4, HX4.out, HN4.out, HE4.out, HT.out.alloc0 _⟩, rfl⟩, by simp [intOf]; omega⟩)
    · have : j = 6 := by omega
      subst this
      obtain ⟨q, hq, hqv⟩ := core_q HX3.out (i := 0) (by rw [HE3.out.shs]; show 0 < ((List.replicate ((2 : Int).toNat) _).set 0 _).length; rw [List.length_set, List.length_replicate]; decide)
      have hsh : x3.shs[0]? = some { newShard (2 + ring % 8).toNat with ring := filledR (newRing (2 + ring % 8).toNat) ⟨64, 0, 1, dl, 0⟩ } := by
        rw [HE3.out.shs]
        show ((List.replicate ((2 : Int).toNat) _).set 0 _)[0]? = _
        rw [List.getElem?_set_self (by rw [List.length_replicate]; decide)]
      have hrb := (HN3.out.ring _ (List.mem_of_getElem? hsh)).b (by decide)
      have hw0 : x3.slab.word 0 = 256 := by
        rw [HE3.out.slab]
        exact word_of (s := slab2 (1 + room % 8) 0) (j := 0) (r := goneR 0) (by show ((List.replicate (1 + room % 8).toNat Rec.zero).set 0 _)[0]? = _; rw [List.getElem?_set_self (by rw [List.length_replicate]; omega)])
      have hwe : x3.slab.werr 0 = 0 := by
        have : x3.slab.has 0 := by
          rw [HE3.out.slab]
          exact has_of (s := slab2 (1 + room % 8) 0) (j := 0) (r := goneR 0) (by show ((List.replicate (1 + room % 8).toNat Rec.zero).set 0 _)[0]? = _; rw [List.getElem?_set_self (by rw [List.length_replicate]; omega)])
        exact if_pos this
      have hcn : x3.slab.count = 0 := by rw [HE3.out.slab]; rfl
      have hWD := fun g hx => coreWord (L := L) (x := x3) (g := g) hx HN3.out.slab.n1 0
      have hPO : ∀ g, isCore L x3 g → DoesG Tryz.prog 33 #[ptr' q.b] [g] fun e gs => e = .returned (.tuple #[.agg #[.int .u64 64, .int .i64 0, .int .u64 1, .int .u64 dl, .int .u64 0], .int .i64 0]) ∧ ∃ g' x', isCore L x' g' ∧ x'.slab.count = 0 ∧ gs = [g'] := fun g hx => (corePop (L := L) (x := x3) (g := g) hx hq hsh hrb).mono (by
        rintro e gs ⟨he, g', hg', rfl⟩
        have h := pop_first (ring := 2 + ring % 8) (by omega) ⟨64, 0, 1, dl, 0⟩
        rw [show ({ newShard (2 + ring % 8).toNat with ring := filledR (newRing (2 + ring % 8).toNat) ⟨64, 0, 1, dl, 0⟩ } : ShardS).ring = filledR (newRing (2 + ring % 8).toNat) ⟨64, 0, 1, dl, 0⟩ from rfl, h] at he
        exact ⟨he, g', _, hg', hcn, rfl⟩)
      rw [hw0, hwe] at hWD
      have HWD := Lib.hid hWD
      have HPO := Lib.hid hPO
      have HSA := Lib.hid (show ∀ g, isCore L x3 g → ReadsG Tryz.prog 29 #[ptr' L.fb, .int .i64 0] [g] (ptr' q.b) from fun g hx => by have h := coreShardAt_r hx ((0 : Nat) : Int); rw [hqv] at h; exact h)
      clear hq hqv hsh hrb hw0 hwe hcn hWD hPO a2 a3 lta
      go_wp2_with fail
      refine (ReadsG.use (coreSlab_r HX3.out) (HT.out) [0] rfl rfl).mono ?_
      rintro e w1 ⟨rfl, mq, rfl⟩
      have HT := Lib.hid (HT.out.drewN mq)
      generalize World.drewN _ _ = wq at HT ⊢
      go_wp2_with fail
      refine (DoesG.use (HWD.out _ HX3.out) (HT.out) [0] rfl rfl).mono ?_
      rintro e w1 ⟨gs, ⟨rfl, g5, hx5, rfl⟩, Ta⟩
      simp only [putG, List.set_cons_zero, List.set_cons_succ, List.cons_append, List.nil_append, List.append_nil] at Ta
      have HX5 := Lib.hid hx5
      clear hx5
      have HT := Lib.hid Ta
      clear Ta
      go_wp2_with fail
      refine (ReadsG.use (HSA.out _ HX5.out) (HT.out) [0] rfl rfl).mono ?_
      rintro e w1 ⟨rfl, mq, rfl⟩
      have HT := Lib.hid (HT.out.drewN mq)
      generalize World.drewN _ _ = wq at HT ⊢
      go_wp2_with fail
      refine (DoesG.use (HPO.out _ HX5.out) (HT.out) [0] rfl rfl).mono ?_
      rintro e w1 ⟨gs, ⟨rfl, g6, x6, hx6, hc6, rfl⟩, Ta⟩
      simp only [putG, List.set_cons_zero, List.set_cons_succ, List.cons_append, List.nil_append, List.append_nil] at Ta
      have HX6 := Lib.hid hx6
      have HCN := Lib.hid hc6
      clear hx6 hc6
      have HT := Lib.hid Ta
      clear Ta
      have a2 := HT.out.cell 4 0 rfl 2
      have a3 := HT.out.cell 4 0 rfl 3
      simp only [ansC, List.getElem?_toArray, List.getElem?_cons_zero, List.getElem?_cons_succ] at a2 a3
      have c3 := HT.out.cell 3 0 rfl 3
      simp only [ansC, List.getElem?_toArray, List.getElem?_cons_zero, List.getElem?_cons_succ] at c3
      have lta := HT.out.lt 4 0 rfl
      have ltc := HT.out.lt 3 0 rfl
      simp only [] at lta ltc
      go_wp2_with (go_at_call 32; refine (state_calls 256 _ (by decide) (by decide)).mono ?_; rintro e w' ⟨rfl, rfl⟩)
      have HT := Lib.hid (HT.out.alloc (k := w1.heap.size) rfl 67 #[.int .u64 64, .int .i64 0, .int .u64 1, .int .u64 dl, .int .u64 0])
      simp only [List.cons_append, List.nil_append] at HT
      have ltt := HT.out.lt 5 0 rfl
      simp only [] at ltt
      have t0 := HT.out.cell 5 0 rfl 0
      have t1 := HT.out.cell 5 0 rfl 1
      have t2 := HT.out.cell 5 0 rfl 2
      have t3 := HT.out.cell 5 0 rfl 3
      have t4 := HT.out.cell 5 0 rfl 4
      simp only [ansC, List.getElem?_toArray, List.getElem?_cons_zero, List.getElem?_cons_succ] at t0 t1 t2 t3 t4
      clear a2 a3 c3 lta ltc
      generalize World.alloc _ _ = w7 at HT t0 t1 t2 t3 t4 ltt ⊢
      go_wp2_with fail
      refine (ReadsG.use (coreSlab_r HX6.out) (HT.out) [0] rfl rfl).mono ?_
      rintro e w1 ⟨rfl, mq, rfl⟩
      have HT := Lib.hid (HT.out.drewN mq)
      generalize World.drewN _ _ = wq at HT ⊢
      clear t0 t1 t2 t3 t4 ltt
      have hCO := coreCount HX6.out
      rw [HCN.out] at hCO
      go_wp2_with fail
      refine (DoesG.use (hCO) (HT.out) [0] rfl rfl).mono ?_
      rintro e w1 ⟨gs, ⟨rfl, g8, hx8, rfl⟩, Ta⟩
      simp only [putG, List.set_cons_zero, List.set_cons_succ, List.cons_append, List.nil_append, List.append_nil] at Ta
      clear hx8
      have HT := Lib.hid Ta
      clear Ta
      clear hCO
      have a2 := HT.out.cell 4 0 rfl 2
      have a3 := HT.out.cell 4 0 rfl 3
      simp only [ansC, List.getElem?_toArray, List.getElem?_cons_zero, List.getElem?_cons_succ] at a2 a3
      have c3 := HT.out.cell 3 0 rfl 3
      simp only [ansC, List.getElem?_toArray, List.getElem?_cons_zero, List.getElem?_cons_succ] at c3
      have t0 := HT.out.cell 5 0 rfl 0
      have t1 := HT.out.cell 5 0 rfl 1
      have t2 := HT.out.cell 5 0 rfl 2
      have t3 := HT.out.cell 5 0 rfl 3
      have t4 := HT.out.cell 5 0 rfl 4
      simp only [ansC, List.getElem?_toArray, List.getElem?_cons_zero, List.getElem?_cons_succ] at t0 t1 t2 t3 t4
      go_wp2
      go_ret
      exact ⟨_, rfl, HT.out⟩
theorem lawCallsGone (room ring dl per : Int) (hro : 0 ≤ room ∧ room < 256) (hri : 0 ≤ ring ∧ ring < 256) (hd : 0 ≤ dl ∧ dl < 18446744073709551616) (hpb : 0 ≤ per ∧ per < 18446744073709551616) :
    DoesG Tryz.prog 6 #[.int .u8 room, .int .u8 ring, .int .u64 dl, .int .u64 per] [] fun e gs => e = .returned (.bool true) := by
  by_cases h0 : 0 < per
  · by_cases h9 : dl ≤ 18446744073709551615 - per
    · exact gone_a room ring dl per hro hri hd hpb h0 h9
    · exact gone_b room ring dl per hro hri hd hpb h0 h9
  · exact gone_c room ring dl per hro hri hd hpb h0
end Go.Proofs.YthbjaoinklhikaaGreat
