import Derived.Test.YthbjaoinklhikaaGreatCallsRefusedM15
import Derived.Test.YthbjaoinklhikaaGreatCallsRefusedM10
namespace Go.Proofs.YthbjaoinklhikaaGreat
set_option linter.unusedVariables false
set_option linter.unusedSimpArgs false
open Go.RowKit Go.Shelf

/-! ## Of no work; the law's helpers -/
set_option maxRecDepth 100000 in
theorem callAnswer_nil : DoesG Tryz.prog 13 #[.pointer none] [] fun e gs => e = .returned (.tuple #[.agg (ansC 0 false 0 0), .int .i64 6]) ∧ gs = [] := by
  intro w hw
  have T0 := TG.refl hw
  have HT := Lib.hid T0
  clear hw T0
  go_enter Tryz.func13, Tryz.ntmps13
  go_wp2
  exact bodyPost_ret (v := .tuple #[.agg (ansC 0 false 0 0), .int .i64 6]) (by simp [results, Tryz.results13, go_sem, ansC]) rfl ⟨_, ⟨rfl, rfl⟩, HT.out.alloc0 _⟩
theorem callMay_nil : DoesG Tryz.prog 15 #[.pointer none] [] fun e gs => e = .returned (.bool false) ∧ gs = [] := by
  intro w hw
  have HT := Lib.hid (TG.refl hw)
  clear hw
  go_enter Tryz.func15, Tryz.ntmps15
  go_wp2
  go_ret
  exact ⟨_, ⟨rfl, rfl⟩, HT.out⟩
theorem callStepNone : DoesG Tryz.prog 16 #[.pointer none] [] fun e gs => e = .returned (.bool false) ∧ gs = [] := by
  intro w hw
  have HT := Lib.hid (TG.refl hw)
  clear hw
  go_enter Tryz.func16, Tryz.ntmps16
  go_wp2
  go_ret
  exact ⟨_, ⟨rfl, rfl⟩, HT.out⟩
theorem callDone_nil : DoesG Tryz.prog 17 #[.pointer none] [] fun e gs => e = .returned (.bool true) ∧ gs = [] := by
  intro w hw
  have HT := Lib.hid (TG.refl hw)
  clear hw
  go_enter Tryz.func17, Tryz.ntmps17
  go_wp2
  go_ret
  exact ⟨_, ⟨rfl, rfl⟩, HT.out⟩
set_option maxRecDepth 100000 in
theorem callCall_nil : DoesG Tryz.prog 19 #[.pointer none] [] fun e gs => e = .returned (.agg #[.int .i64 0, .int .u64 0, .int .u64 0, .int .u64 0]) ∧ gs = [] := by
  intro w hw
  have T0 := TG.refl hw
  have HT := Lib.hid T0
  clear hw T0
  go_enter Tryz.func19, Tryz.ntmps19
  go_wp2
  exact bodyPost_ret (v := .agg #[.int .i64 0, .int .u64 0, .int .u64 0, .int .u64 0]) (by simp [results, Tryz.results19, go_sem]) rfl ⟨_, ⟨rfl, rfl⟩, HT.out.alloc0 _⟩
def plain16 (room ring : Int) : Cfg := ⟨2, room, ring, 4, 1, 8⟩
set_option maxRecDepth 100000 in
theorem plain16_g (room ring : Int) : DoesG Tryz.prog 21 #[.int .i64 room, .int .i64 ring] [] fun e gs => e = .returned (.agg (plain16 room ring).cells) ∧ gs = [] := by
  intro w hw
  have T0 := TG.refl hw
  have HT := Lib.hid T0
  clear hw T0
  go_enter Tryz.func21, Tryz.ntmps21
  go_wp2
  exact bodyPost_ret (v := .agg (plain16 room ring).cells) (by simp [results, Tryz.results21, go_sem, plain16, Cfg.cells]) rfl ⟨_, ⟨rfl, rfl⟩, HT.out.alloc0 _⟩
set_option maxRecDepth 100000 in
theorem answers_zero : DoesG Tryz.prog 18 #[.agg (ansC 0 false 0 0), .agg (ansC 0 false 0 0)] [] fun e gs => e = .returned (.bool true) ∧ gs = [] := by
  intro w hw
  have T0 := TG.refl hw
  have HT := Lib.hid T0
  clear hw T0
  simp only [ansC]
  go_enter Tryz.func18, Tryz.ntmps18
  go_wp2
  go_ret
  exact ⟨_, ⟨rfl, rfl⟩, (HT.out.alloc0 _).alloc0 _⟩

/-! ### Where a run begins -/
theorem newRing_n {n : Nat} (h1 : 1 ≤ n) (h2 : n ≤ 64) : RingN 0 (newRing n) := by
  refine ⟨?_, ?_, Int.le_refl 0, Int.le_refl 0, Int.le_refl 0, Int.le_refl 0⟩ <;> simp [newRing] <;> omega
theorem core0_n {c : Cfg} (h : c.ok = true) : CoreN 0 (core0 c) := by
  obtain ⟨h1, h2, h3, _⟩ := Cfg.bd h
  refine ⟨newSlab_ok (by omega) (by omega), by show (0 : Int) ≤ 0; omega, by show (0 : Int) ≤ 0; omega, by show ([] : List EvS).length ≤ 0; simp, ?_, ?_⟩
  · show 1 ≤ (List.replicate _ _).length
    rw [List.length_replicate]; omega
  · intro s hs
    obtain ⟨_, rfl⟩ := List.mem_replicate.1 hs
    exact newRing_n (by omega) (by omega)
structure CallC.wf (c : CallC) : Prop where
  id : 0 ≤ c.id ∧ c.id < 18446744073709551616
  dl : 0 ≤ c.dl ∧ c.dl < 18446744073709551616
  per : 0 ≤ c.per ∧ c.per < 18446744073709551616
theorem newW_n {N : Nat} {c : CallC} (h : c.wf) (th no : Int) (x : CoreS) : WorkN N (newW th no c) x :=
  ⟨h.dl, h.per, h.id, by show (0 : Int) ≤ 0; omega, ⟨by show (0 : Int) ≤ 0; omega, by show (0 : Int) < _; omega, by show okW 0 = true; decide⟩, fun q hq => (by cases hq), fun i t ht => (by cases ht)⟩
theorem first_fit (kd : Int) (k : WorkS) : FitC (firstC kd) k := by
  unfold firstC
  split
  · trivial
  · split <;> trivial
theorem JC.first {N : Nat} {x : CoreS} (hc : CoreN N x) {c : CallC} (h : c.wf) (th no : Int) :
    JC (N + 1) (firstC c.kind) (newW th no c, noteC (newW th no c) { ev0 with kind := 1, id := c.id, dl := c.dl, per := c.per } x) :=
  ⟨core_note hc _, newW_n h th no _, first_fit _ _⟩
def cfg1 : Cfg := ⟨1, 1, 1, 1, 1, 1⟩
def call5 : CallC := ⟨1, 0, 5, 0⟩
def z5 : ZC := (newW 0 1 call5, noteC (newW 0 1 call5) { ev0 with kind := 1, id := call5.id, dl := call5.dl, per := call5.per } (core0 cfg1))
theorem runs5 : Runs 13 (firstC 1) z5 := by
  refine ⟨fun j hj => ?_, by decide⟩
  have : j = 0 ∨ j = 1 ∨ j = 2 ∨ j = 3 ∨ j = 4 ∨ j = 5 ∨ j = 6 ∨ j = 7 ∨ j = 8 ∨ j = 9 ∨ j = 10 ∨ j = 11 ∨ j = 12 := by omega
  rcases this with rfl | rfl | rfl | rfl | rfl | rfl | rfl | rfl | rfl | rfl | rfl | rfl | rfl <;> decide
theorem end5 : (itC 13 (firstC 1) z5).2.1.ok = true ∧ (itC 13 (firstC 1) z5).2.1.aid = 64 ∧ (itC 13 (firstC 1) z5).2.1.agen = 1 ∧ (itC 13 (firstC 1) z5).2.1.err = 0 := by decide
end Go.Proofs.YthbjaoinklhikaaGreat

namespace Go.Proofs.YthbjaoinklhikaaGreat
set_option linter.unusedVariables false
set_option linter.unusedSimpArgs false

/-! ## A call alone, to its end (plain) -/
/-- so many steps lead to the end, with this floor, slab, shards, answer -/
def Out (s : SC) (z : ZC) (n : Nat) (f : FloorS) (S : SlabS) (H : List ShardS) (err : Int) (ok : Bool) (id gen : Int) : Prop :=
  Runs n s z ∧ (itC n s z).2.2.f = f ∧ (itC n s z).2.2.slab = S ∧ (itC n s z).2.2.shs = H ∧ (itC n s z).2.1.err = err ∧ (itC n s z).2.1.ok = ok ∧ (itC n s z).2.1.aid = id ∧ (itC n s z).2.1.agen = gen
section
variable {s s1 : SC} {z z1 : ZC} {n : Nat} {f : FloorS} {S : SlabS} {H : List ShardS} {err : Int} {ok : Bool} {id gen : Int}
theorem Out.step (h : s.isNil = false) (hs : stepC s z = (s1, z1)) (p : Out s1 z1 n f S H err ok id gen) : Out s z (n + 1) f S H err ok id gen := by
  have e : ∀ j, itC (j + 1) s z = itC j s1 z1 := fun j => by show itC j (stepC s z).1 (stepC s z).2 = _; rw [hs]
  unfold Out at *
  rw [e]
  refine ⟨⟨fun j hj => ?_, ?_⟩, p.2⟩
  · cases j with
    | zero => exact h
    | succ j => rw [e]; exact p.1.1 j (by omega)
  · rw [e]; exact p.1.2
theorem Out.at {m : MC} (hs : runC m z = (s1, z1)) (p : Out s1 z1 n f S H err ok id gen) : Out (.at none m) z (n + 1) f S H err ok id gen := Out.step rfl hs p
theorem Out.eq (p : Out s z n f S H err ok id gen) {f' : FloorS} {S' : SlabS} {H' : List ShardS} {gen' : Int} (h1 : f = f') (h2 : S = S') (h3 : H = H') (h4 : gen = gen') : Out s z n f' S' H' err ok id gen' := by
  subst h1 h2 h3 h4; exact p
end
theorem out_nil (z : ZC) : Out .nil z 0 z.2.f z.2.slab z.2.shs z.1.err z.1.ok z.1.aid z.1.agen := ⟨⟨fun j h => absurd h (Nat.not_lt_zero _), rfl⟩, rfl, rfl, rfl, rfl, rfl, rfl, rfl⟩
def fL (f : FloorS) : FloorS := { f with inside := lessN f.inside }
theorem fL_enter {f : FloorS} (h : 0 ≤ f.inside) : fL { f with inside := f.inside + 1 } = f := by
  unfold fL lessN
  rw [if_neg (by show ¬ (f.inside + 1 = 0); omega)]
  show ({ f with inside := f.inside + 1 - 1 } : FloorS) = f
  rw [show f.inside + 1 - 1 = f.inside by omega]
theorem out_ends (z : ZC) : Out (.row1 .ends1) z 1 z.2.f z.2.slab z.2.shs z.1.err z.1.ok z.1.aid z.1.agen := Out.step rfl rfl (out_nil (runA .ends1 z))
theorem out_leaves (z : ZC) : Out leavesC z 2 (fL z.2.f) z.2.slab z.2.shs z.1.err z.1.ok z.1.aid z.1.agen := Out.step rfl rfl (out_ends (runA .leaves1 z))
theorem out_undo (z : ZC) : Out (.thn (.row2 .undo .drop) .leaves) z 4 (fL z.2.f) (eventS z.1.slot 9 z.2.slab).1.drop.1 z.2.shs 2 false 0 0 := Out.step rfl rfl (Out.step rfl rfl (out_leaves (runA .drop (runA .undo z))))
theorem out_cancel (z : ZC) : Out (.thn (.row2 .tries1 .drop) .ends) z 3 z.2.f (eventS z.1.slot 10 z.2.slab).1.drop.1 z.2.shs z.1.err z.1.ok z.1.aid z.1.agen := Out.step rfl rfl (Out.step rfl rfl (out_ends (runA .drop (runA .tries1 z))))
def overN (k : Int) : Nat := if k = 4 ∨ k = 5 then 1 else 2
def overF (k : Int) (f : FloorS) : FloorS := if k = 4 ∨ k = 5 then f else fL f
theorem out_over (z : ZC) (k0 : WorkS) (h0 : k0.kind = z.1.kind) : Out (overC k0) z (overN z.1.kind) (overF z.1.kind z.2.f) z.2.slab z.2.shs z.1.err z.1.ok z.1.aid z.1.agen := by
  unfold overC overN overF
  rw [h0]
  by_cases h : z.1.kind = 4 ∨ z.1.kind = 5
  · rw [if_pos h, if_pos h, if_pos h]; exact out_ends z
  · rw [if_neg h, if_neg h, if_neg h]; exact out_leaves z
/-- a refusal, and what comes behind -/
theorem out_refuse (z : ZC) (e : Int) : Out (overC z.1) (refuseC e z) (overN z.1.kind) (overF z.1.kind z.2.f) z.2.slab z.2.shs e false 0 0 := out_over (refuseC e z) z.1 rfl

/-! ### The request -/
theorem asks_eq {k : WorkS} {x : CoreS} {q : Req} (h : k.rq = some q) : runC .asks (k, x) = asksC (k, x) q := by
  show (match k.rq with | none => _ | some q => _) = _
  rw [h]
theorem out_full {k : WorkS} {x : CoreS} {p : Int} (h : k.rq = some (newReq p)) (hc : (x.slab.recs.length : Int) ≤ x.slab.count) :
    Out (.at none .asks) (k, x) 3 (fL x.f) x.slab x.shs 2 false 0 0 := by
  have e : stepR x.slab (newReq p) = (x.slab, ⟨p, 0, x.slab.count, 0, 0, 1⟩) := by
    unfold stepR lookR
    rw [if_neg (by show ¬ ((0 : Int) ≠ 0); omega), if_pos (show (newReq p).next = 0 from rfl), if_pos hc]
    rfl
  refine Out.at (s1 := leavesC) (z1 := refuseC 2 ({ k with rq := some ⟨p, 0, x.slab.count, 0, 0, 1⟩ }, { x with slab := x.slab })) ?_ (out_leaves _)
  rw [asks_eq h]
  unfold asksC
  simp only [e]
  rfl
section
variable {n : Nat} {f : FloorS} {S : SlabS} {H : List ShardS} {err : Int} {ok : Bool} {id gen : Int}
/-- the seek, from a slot on -/
theorem out_seek {x : CoreS} {p saw : Int} {j : Nat} {r : Rec} (hj : x.slab.recs[j]? = some r) (hb : busyB r = false) (ho : ∀ (i : Nat) (x' : Rec), x.slab.recs[i]? = some x' → RecOk x') (hg : genW r.w < 4294967295)
    (hlt : ∀ (i : Nat) (x' : Rec), i < j → x.slab.recs[i]? = some x' → busyB x' = true) (k : WorkS)
    (hn : Out (.at none .queues) ({ k with rq := some ⟨p, 2, saw, j, (r.g + 1) * 64 + j, 2⟩, id := (r.g + 1) * 64 + j, slot := ((r.g + 1) * 64 + j) % 64, tk := some (homeC (((r.g + 1) * 64 + j) % 64) x, newTick) }, { x with slab := { x.slab with recs := x.slab.recs.set j (takenR r p) } }) n f S H err ok id gen) :
    ∀ (d i : Nat) (k0 : WorkS), i + d = j → { k0 with rq := none } = { k with rq := none } → k0.rq = some ⟨p, 2, saw, i, 0, 0⟩ → Out (.at none .asks) (k0, x) (d + 1 + n) f S H err ok id gen := by
  intro d
  induction d with
  | zero =>
    intro i k0 hi hk hq
    have : i = j := by omega
    subst this
    have e := seek_free (s := x.slab) (q := ⟨p, 2, saw, i, 0, 0⟩) rfl rfl rfl hj (ho _ _ hj) (of_free hb) hg
    rw [show 0 + 1 + n = n + 1 by omega]
    refine Out.at (s1 := .at none .queues) ?_ hn
    rw [asks_eq hq]
    unfold asksC
    simp only [e]
    have hk' : ∀ (q : Option Req) (i sl : Int) (t : Option (Nat × TickS)), ({ k0 with rq := q, id := i, slot := sl, tk := t } : WorkS) = { k with rq := q, id := i, slot := sl, tk := t } := by
      intro q i sl t
      have := congrArg (fun (w : WorkS) => { w with rq := q, id := i, slot := sl, tk := t }) hk
      exact this
    rw [if_neg (by show ¬ ((2 : Int) = 1); omega), if_pos trivial]
    exact congrArg (fun w => ((St.at none MC.queues : SC), ((w, _) : ZC))) (hk' _ _ _ _)
  | succ d ih =>
    intro i k0 hi hk hq
    have hil : i < x.slab.recs.length := by
      have := (List.getElem?_eq_some_iff.1 hj).1; omega
    have hjl := (List.getElem?_eq_some_iff.1 hj).1
    obtain ⟨ri, hri⟩ : ∃ ri, x.slab.recs[i]? = some ri := ⟨_, List.getElem?_eq_getElem hil⟩
    have e := seek_busy (s := x.slab) (q := ⟨p, 2, saw, i, 0, 0⟩) rfl rfl rfl hri (ho _ _ hri) (of_busy (hlt i ri (by omega) hri)) (by omega)
    rw [show d + 1 + 1 + n = (d + 1 + n) + 1 by omega]
    refine Out.at (s1 := .at none .asks) (z1 := ({ k0 with rq := some ⟨p, 2, saw, ((i + 1 : Nat) : Int), 0, 0⟩ }, x)) ?_ (ih (i + 1) _ (by omega) (Eq.trans (by rfl) hk) rfl)
    rw [asks_eq hq]
    unfold asksC
    simp only [e]
    rfl
/-- the whole request: a record is found -/
theorem out_asks {x : CoreS} {p : Int} {j : Nat} {r : Rec} (hj : x.slab.recs[j]? = some r) (hb : busyB r = false) (ho : ∀ (i : Nat) (x' : Rec), x.slab.recs[i]? = some x' → RecOk x') (hg : genW r.w < 4294967295)
    (hlt : ∀ (i : Nat) (x' : Rec), i < j → x.slab.recs[i]? = some x' → busyB x' = true) (hc : x.slab.count < x.slab.recs.length) (k : WorkS) (hk : k.rq = some (newReq p))
    (hn : Out (.at none .queues) ({ k with rq := some ⟨p, 2, x.slab.count, j, (r.g + 1) * 64 + j, 2⟩, id := (r.g + 1) * 64 + j, slot := ((r.g + 1) * 64 + j) % 64, tk := some (homeC (((r.g + 1) * 64 + j) % 64) x, newTick) }, { x with slab := { recs := x.slab.recs.set j (takenR r p), count := x.slab.count + 1 } }) n f S H err ok id gen) :
    Out (.at none .asks) (k, x) (j + 3 + n) f S H err ok id gen := by
  have e1 : stepR x.slab (newReq p) = (x.slab, ⟨p, 1, x.slab.count, 0, 0, 0⟩) := by
    unfold stepR lookR
    rw [if_neg (by show ¬ ((0 : Int) ≠ 0); omega), if_pos (by rfl), if_neg (by omega)]
    rfl
  have e2 : stepR x.slab ⟨p, 1, x.slab.count, 0, 0, 0⟩ = ({ x.slab with count := x.slab.count + 1 }, ⟨p, 2, x.slab.count, 0, 0, 0⟩) := by
    unfold stepR moreR
    rw [if_neg (by show ¬ ((0 : Int) ≠ 0); omega), if_neg (by show ¬ ((1 : Int) = 0); omega), if_pos rfl, if_pos rfl]
  rw [show j + 3 + n = (j + 1 + n) + 1 + 1 by omega]
  refine Out.at (s1 := .at none .asks) (z1 := ({ k with rq := some ⟨p, 1, x.slab.count, 0, 0, 0⟩ }, x)) ?_ (Out.at (s1 := .at none .asks) (z1 := ({ k with rq := some ⟨p, 2, x.slab.count, 0, 0, 0⟩ }, { x with slab := { x.slab with count := x.slab.count + 1 } })) ?_ ?_)
  · rw [asks_eq hk]; unfold asksC; simp only [e1]; rfl
  · rw [asks_eq rfl]; unfold asksC; simp only [e2]; rfl
  · exact out_seek (x := { x with slab := { x.slab with count := x.slab.count + 1 } }) hj hb ho hg hlt k hn j 0 _ (by omega) rfl rfl

/-! ### The ring -/
/-- a ring of which nothing was popped, and in which all that is taken is published -/
structure RingR (m : Nat) (r : RingS) : Prop where
  len : r.slots.length = m
  m1 : 1 ≤ m
  hd : r.head = 0
  t0 : 0 ≤ r.tail
  t1 : r.tail ≤ m
  pub : ∀ (i : Nat) (s : SlotS), r.slots[i]? = some s → s.seq = if (i : Int) < r.tail then 2 * (i : Int) + 1 else 2 * (i : Int)
theorem RingR.slot {m : Nat} {r : RingS} (h : RingR m r) {i : Nat} (hi : i < m) {pos : Int} (hp : pos % (m : Int) = i) : (r.slot pos).seq = if (i : Int) < r.tail then 2 * (i : Int) + 1 else 2 * (i : Int) := by
  have hl : i < r.slots.length := by rw [h.len]; exact hi
  have e : r.slot pos = r.slots[i] := by
    unfold RingS.slot RingS.at
    rw [h.len, hp, List.getD_eq_getElem?_getD]
    simp [hl]
  rw [e]
  exact h.pub i _ (List.getElem?_eq_getElem hl)
theorem queues_eq {k : WorkS} {x : CoreS} {i : Nat} {t : TickS} {s : ShardS} (hk : k.tk = some (i, t)) (hs : x.shs[i]? = some s) : runC .queues (k, x) = queuesC (k, x) i t s := by
  show (match k.tk with | none => _ | some (i, t) => _) = _
  rw [hk]
  show (match x.shs[i]? with | none => _ | some s => _) = _
  rw [hs]
theorem core_same {x : CoreS} {i : Nat} {s : ShardS} (hs : x.shs[i]? = some s) : ({ x with shs := x.shs.set i s } : CoreS) = x := by
  have : x.shs.set i s = x.shs := by
    apply List.ext_getElem?
    intro k
    rw [List.getElem?_set]
    split
    · next e =>
      subst e
      rw [hs]
      simp [(List.getElem?_eq_some_iff.1 hs).1]
    · rfl
  rw [this]
theorem out_queue_look {k : WorkS} {x : CoreS} {i : Nat} {s : ShardS} (hk : k.tk = some (i, newTick)) (hs : x.shs[i]? = some s)
    (p : Out (.at none .queues) ({ k with tk := some (i, ⟨s.ring.tail, 1, 0, false⟩) }, x) n f S H err ok id gen) : Out (.at none .queues) (k, x) (n + 1) f S H err ok id gen := by
  refine Out.at (s1 := .at none .queues) ?_ p
  rw [queues_eq hk hs]
  have e : stepT s.ring newTick = (s.ring, ⟨s.ring.tail, 1, 0, false⟩) := rfl
  unfold queuesC
  simp only [e]
  rw [if_pos trivial]
  exact congrArg (fun y => ((St.at none MC.queues : SC), ((_, y) : ZC))) (core_same hs)
theorem out_held {k : WorkS} {x : CoreS} {i m : Nat} {s : ShardS} (hk : k.tk = some (i, newTick)) (hs : x.shs[i]? = some s) (hr : RingR m s.ring) (ht : s.ring.tail < m)
    (p : Out (if k.kind = 3 then .at none .again else .at none .submits) ({ k with tk := some (i, ⟨s.ring.tail, 0, 2, false⟩) }, { x with shs := x.shs.set i { s with ring := { s.ring with tail := s.ring.tail + 1 } } }) n f S H err ok id gen) :
    Out (.at none .queues) (k, x) (n + 3) f S H err ok id gen := by
  have h0 := hr.t0
  obtain ⟨t, htt⟩ := Int.eq_ofNat_of_zero_le h0
  have hsl := hr.slot (i := t) (pos := s.ring.tail) (by omega) (by rw [htt]; exact Int.emod_eq_of_lt (by omega) (by omega))
  rw [if_neg (by omega)] at hsl
  refine out_queue_look hk hs (Out.at (s1 := .at none .queues) (z1 := ({ k with tk := some (i, ⟨s.ring.tail, 2, 0, false⟩) }, x)) ?_ (Out.at (s1 := if k.kind = 3 then .at none .again else .at none .submits) ?_ p))
  · rw [queues_eq (k := { k with tk := some (i, ⟨s.ring.tail, 1, 0, false⟩) }) rfl hs]
    have e : stepT s.ring ⟨s.ring.tail, 1, 0, false⟩ = (s.ring, ⟨s.ring.tail, 2, 0, false⟩) := by
      unfold stepT weighT
      rw [if_neg (by simp), if_neg (by simp), if_pos rfl, if_neg (by show ¬ (2 * s.ring.tail < (s.ring.slot s.ring.tail).seq); omega), if_neg (by show ¬ ((s.ring.slot s.ring.tail).seq < 2 * s.ring.tail); omega)]
    unfold queuesC
    simp only [e]
    rw [if_pos trivial]
    exact congrArg (fun y => ((St.at none MC.queues : SC), ((_, y) : ZC))) (core_same hs)
  · rw [queues_eq (k := { k with tk := some (i, ⟨s.ring.tail, 2, 0, false⟩) }) rfl hs]
    have e : stepT s.ring ⟨s.ring.tail, 2, 0, false⟩ = ({ s.ring with tail := s.ring.tail + 1 }, ⟨s.ring.tail, 0, 2, false⟩) := by
      unfold stepT takeT
      rw [if_neg (by simp), if_neg (by simp), if_neg (by simp), if_pos rfl]
    unfold queuesC
    simp only [e]
    rw [if_neg (by decide), if_neg (by intro h; exact absurd h.1 (by decide)), if_neg (by decide)]
    by_cases h3 : k.kind = 3
    · rw [if_pos h3, if_pos h3]
    · rw [if_neg h3, if_neg h3]
theorem out_ringfull {k : WorkS} {x : CoreS} {i m : Nat} {s : ShardS} (hk : k.tk = some (i, newTick)) (hs : x.shs[i]? = some s) (hr : RingR m s.ring) (ht : s.ring.tail = m) :
    Out (.at none .queues) (k, x) (if k.kind = 3 then 4 else 6) (fL x.f) (if k.kind = 3 then x.slab else (eventS k.slot 9 x.slab).1.drop.1) x.shs 2 false 0 0 := by
  have hm := hr.m1
  have hsl := hr.slot (i := 0) (pos := s.ring.tail) (by omega) (by rw [ht]; exact Int.emod_self)
  rw [if_pos (by rw [ht]; omega)] at hsl
  have e : stepT s.ring ⟨s.ring.tail, 1, 0, false⟩ = (s.ring, ⟨s.ring.tail, 1, 1, false⟩) := by
    unfold stepT weighT
    rw [if_neg (by simp), if_neg (by simp), if_pos rfl, if_neg (by show ¬ (2 * s.ring.tail < (s.ring.slot s.ring.tail).seq); omega), if_pos (by show (s.ring.slot s.ring.tail).seq < 2 * s.ring.tail; omega)]
  have hq := queues_eq (k := { k with tk := some (i, ⟨s.ring.tail, 1, 0, false⟩) }) rfl hs
  unfold queuesC at hq
  simp only [e] at hq
  rw [if_neg (by decide), core_same hs] at hq
  by_cases h3 : k.kind = 3
  · rw [if_pos h3, if_pos h3]
    rw [if_pos ⟨by decide, h3⟩] at hq
    exact out_queue_look (n := 3) hk hs (Out.at hq (out_leaves _))
  · rw [if_neg h3, if_neg h3]
    rw [if_neg (fun h => h3 h.2), if_pos (by decide)] at hq
    exact out_queue_look (n := 5) hk hs (Out.at hq (out_undo _))
theorem out_fills {k : WorkS} {x : CoreS} {i : Nat} {s : ShardS} {pos nx : Int} (hk : k.tk = some (i, ⟨pos, nx, 2, false⟩)) (hs : x.shs[i]? = some s) :
    Out (.at none .fills) (k, x) 3 (fL x.f) x.slab (x.shs.set i { s with ring := { s.ring with slots := s.ring.slots.set (s.ring.at pos) ⟨2 * pos + 1, taskC (k, x)⟩ } }) 0 true k.id k.gen := by
  have e : fillC (taskC (k, x)) (k, x) = ({ k with tk := some (i, ⟨pos, nx, 2, true⟩) }, { x with shs := x.shs.set i { s with ring := { s.ring with slots := s.ring.slots.set (s.ring.at pos) ⟨2 * pos + 1, taskC (k, x)⟩ } } }) := by
    unfold fillC
    simp only [hk, hs]
    have e1 : fillT s.ring ⟨pos, nx, 2, false⟩ (taskC (k, x)) = ({ s.ring with slots := s.ring.slots.set (s.ring.at pos) ⟨2 * pos + 1, taskC (k, x)⟩ }, ⟨pos, nx, 2, true⟩, 0) := by
      unfold fillT
      rw [if_pos ⟨rfl, rfl⟩]
    rw [e1]
  refine Out.at (s1 := leavesC) (z1 := (okC (fillC (taskC (k, x)) (k, x)).1, (fillC (taskC (k, x)) (k, x)).2)) rfl ?_
  rw [e]
  exact out_leaves _
theorem out_submits {k : WorkS} {x : CoreS} {i : Nat} {s : ShardS} {pos nx : Int} (hk : k.tk = some (i, ⟨pos, nx, 2, false⟩)) (hs : x.shs[i]? = some s) :
    Out (.at none .submits) (k, x) 4 (fL x.f) (eventS k.slot 2 x.slab).1 (x.shs.set i { s with ring := { s.ring with slots := s.ring.slots.set (s.ring.at pos) ⟨2 * pos + 1, taskC (eventC 2 (k, x))⟩ } }) 0 true k.id (genW (eventS k.slot 2 x.slab).2) := by
  refine Out.at (s1 := .at none .fills) rfl ?_
  exact out_fills (k := eventW 2 k x.slab) (x := (noteZ _ (eventC 2 (k, x))).2) hk hs
end
end Go.Proofs.YthbjaoinklhikaaGreat

namespace Go.Proofs.YthbjaoinklhikaaGreat
set_option linter.unusedVariables false
set_option linter.unusedSimpArgs false

/-! ## A call alone: what it makes of words (plain) -/
theorem next_of {n e : Int} {p : Bool} {a g : Int} (hk : okW n = true) (h1 : 1 ≤ e) (h2 : e ≤ 10) (ht : toW (stW n) e (p && !lastW n) = (a, g, true)) (hg : genW n + g ≤ 4294967295) :
    nextW n e p = (packW a (genW n + g) (if e = 7 then true else if e = 1 ∨ e = 10 then false else lastW n), 0) := by
  unfold nextW
  rw [if_neg (by simp [hk]), if_neg (by omega)]
  simp only [ht]
  rw [if_neg (by simp), if_neg (by omega)]
theorem next_no {n e : Int} {p : Bool} (hk : okW n = true) (h1 : 1 ≤ e) (h2 : e ≤ 10) (ht : (toW (stW n) e (p && !lastW n)).2.2 = false) : nextW n e p = (n, 7) := by
  unfold nextW
  rw [if_neg (by simp [hk]), if_neg (by omega)]
  simp only [ht]
  rw [if_pos trivial]
section
variable {s : SlabS} {j : Nat} {r : Rec}
theorem has_of (hj : s.recs[j]? = some r) : s.has (j : Int) := by
  have := (List.getElem?_eq_some_iff.1 hj).1
  unfold SlabS.has; omega
theorem word_of (hj : s.recs[j]? = some r) : s.word (j : Int) = r.w := by
  unfold SlabS.word
  rw [if_pos (has_of hj), Int.toNat_natCast, getD_of hj]
theorem period_of (hj : s.recs[j]? = some r) : s.period (j : Int) = r.p := by
  unfold SlabS.period
  rw [if_pos (has_of hj), Int.toNat_natCast, getD_of hj]
theorem try_of (hj : s.recs[j]? = some r) {ev w' : Int} (hn : nextW r.w ev (decide (0 < r.p)) = (w', 0)) : s.try (j : Int) r.w ev = ({ s with recs := s.recs.set j { r with w := w' } }, w', 0) := by
  unfold SlabS.try
  rw [if_pos (has_of hj)]
  simp only [Int.toNat_natCast, getD_of hj, hn]
  rw [if_neg (by simp), if_pos trivial]
theorem event_of (hj : s.recs[j]? = some r) {ev w' : Int} (hn : nextW r.w ev (decide (0 < r.p)) = (w', 0)) : eventS (j : Int) ev s = ({ s with recs := s.recs.set j { r with w := w' } }, w') := by
  unfold eventS
  rw [word_of hj, try_of hj hn]
theorem set_at {l : List Rec} {j : Nat} {r r' : Rec} (hj : l[j]? = some r) : (l.set j r')[j]? = some r' := by
  rw [List.getElem?_set_self (List.getElem?_eq_some_iff.1 hj).1]
theorem set_set {l : List Rec} {j : Nat} {a b : Rec} : (l.set j a).set j b = l.set j b := List.set_set _
end
/-- what rests between calls: records are free, or queued, and as many are used as are counted; all that is taken of rings is published -/
structure Rest (m : Nat) (T : Int) (x : CoreS) : Prop where
  ok : SlabOk x.slab
  recs : ∀ r ∈ x.slab.recs, (stW r.w = 0 ∨ stW r.w = 2) ∧ genW r.w ≤ T
  used : (usedS x.slab.recs : Int) = x.slab.count
  ins : x.f.inside = 0
  sh : 1 ≤ x.shs.length
  ring : ∀ s ∈ x.shs, RingR m s.ring
section
variable {m : Nat} {T : Int} {x : CoreS}
theorem Rest.get (h : Rest m T x) {j : Nat} {r : Rec} (hj : x.slab.recs[j]? = some r) : RecOk r ∧ (stW r.w = 0 ∨ stW r.w = 2) ∧ genW r.w ≤ T :=
  ⟨h.ok.recs _ (List.mem_of_getElem? hj), h.recs _ (List.mem_of_getElem? hj)⟩
theorem Rest.free (h : Rest m T x) (hc : x.slab.count < x.slab.recs.length) : ∃ (j : Nat) (r : Rec), x.slab.recs[j]? = some r ∧ busyB r = false ∧ ∀ (i : Nat) (x' : Rec), i < j → x.slab.recs[i]? = some x' → busyB x' = true :=
  first_free (by have := h.used; omega)
theorem Rest.home (h : Rest m T x) (slot : Int) : ∃ s, x.shs[homeC slot x]? = some s ∧ RingR m s.ring := by
  have hn := h.sh
  have a : 0 ≤ slot % (x.shs.length : Int) := Int.emod_nonneg _ (by omega)
  have b : slot % (x.shs.length : Int) < x.shs.length := Int.emod_lt_of_pos _ (by omega)
  have hl : homeC slot x < x.shs.length := by unfold homeC; omega
  exact ⟨_, List.getElem?_eq_getElem hl, h.ring _ (List.getElem_mem hl)⟩
/-- a ring in which one more is taken, and published -/
def filledR (r : RingS) (v : TaskS) : RingS := { r with tail := r.tail + 1, slots := r.slots.set (r.at r.tail) ⟨2 * r.tail + 1, v⟩ }
theorem RingR.fill {r : RingS} (h : RingR m r) (ht : r.tail < m) (v : TaskS) : RingR m (filledR r v) := by
  have h0 := h.t0
  obtain ⟨t, htt⟩ := Int.eq_ofNat_of_zero_le h0
  have hat : r.at r.tail = t := by
    unfold RingS.at
    rw [h.len, Int.emod_eq_of_lt h0 ht, htt]; rfl
  refine ⟨by simp [filledR, h.len], h.m1, h.hd, by show 0 ≤ r.tail + 1; omega, by show r.tail + 1 ≤ _; omega, fun i s hs => ?_⟩
  have hs' : (r.slots.set t ⟨2 * r.tail + 1, v⟩)[i]? = some s := by rw [← hat]; exact hs
  show s.seq = if (i : Int) < r.tail + 1 then _ else _
  rw [List.getElem?_set] at hs'
  split at hs'
  · next e =>
    subst e
    split at hs'
    · cases hs'
      rw [if_pos (by omega), htt]
    · cases hs'
  · next e =>
    rw [h.pub i s hs']
    by_cases h1 : (i : Int) < r.tail
    · rw [if_pos h1, if_pos (by omega)]
    · rw [if_neg h1, if_neg (by omega)]
end
/-- a call that begins -/
def begZ (c : CallC) (x : CoreS) : ZC := (newW 0 1 c, noteC (newW 0 1 c) { ev0 with kind := 1, id := c.id, dl := c.dl, per := c.per } x)

/-! ### Schedule, and Periodic -/
section
variable {m : Nat} {T : Int} {x : CoreS} {c : CallC}
theorem first12 (h : c.kind = 1 ∨ c.kind = 2) : firstC c.kind = .at none .right := if_pos h
theorem out_bad (hk : c.kind = 2) (hb : c.per = 0 ∨ 18446744073709551616 ≤ c.dl + c.per) : Out (firstC c.kind) (begZ c x) 2 x.f x.slab x.shs 1 false 0 0 := by
  rw [first12 (.inr hk)]
  refine Out.at (s1 := .row1 .ends1) (z1 := refuseC 1 (begZ c x)) ?_ (out_ends _)
  show (if badC (newW 0 1 c) then _ else _) = _
  rw [if_pos ⟨hk, hb⟩]
def fitC (c : CallC) : Prop := c.kind = 1 ∨ (c.kind = 2 ∧ c.per ≠ 0 ∧ c.dl + c.per < 18446744073709551616)
theorem fitC.k (h : fitC c) : c.kind = 1 ∨ c.kind = 2 := h.imp id And.left
theorem fitC.good (h : fitC c) : ¬ badC (newW 0 1 c) := by
  rintro ⟨h1, h2⟩
  have h1' : c.kind = 2 := h1
  have h2' : c.per = 0 ∨ 18446744073709551616 ≤ c.dl + c.per := h2
  rcases h with h | ⟨_, a, b⟩ <;> omega
def perC (c : CallC) : Int := if c.kind = 2 then c.per else 0
variable {n : Nat} {f : FloorS} {S : SlabS} {H : List ShardS} {err : Int} {ok : Bool} {id gen : Int}
def enterX (x : CoreS) : CoreS := { x with f := { x.f with inside := x.f.inside + 1 } }
theorem out_right (h : fitC c) (hc : x.f.closed = false) (p : Out (.at none .asks) ({ newW 0 1 c with rq := some (newReq (perC c)) }, enterX (begZ c x).2) n f S H err ok id gen) :
    Out (firstC c.kind) (begZ c x) (n + 3) f S H err ok id gen := by
  rw [first12 h.k]
  refine Out.at (s1 := .at none .enter) (z1 := begZ c x) ?_ (Out.at (s1 := .at none .gate) (z1 := (newW 0 1 c, enterX (begZ c x).2)) rfl (Out.at (s1 := .at none .asks) ?_ p))
  · show (if badC (newW 0 1 c) then _ else _) = _
    rw [if_neg h.good]
  · show (if x.f.closed = true then _ else _) = _
    rw [if_neg (by simp [hc])]
    show (if c.kind = 1 ∨ c.kind = 2 then _ else _) = _
    rw [if_pos h.k]
    rfl
theorem out_shut12 (h : fitC c) (hc : x.f.closed = true) (hi : 0 ≤ x.f.inside) : Out (firstC c.kind) (begZ c x) 5 x.f x.slab x.shs 3 false 0 0 := by
  rw [first12 h.k]
  have hn : ¬ (c.kind = 4 ∨ c.kind = 5) := by have := h.k; omega
  have p := out_refuse (newW 0 1 c, enterX (begZ c x).2) 3
  have e1 : overN (newW 0 1 c).kind = 2 := if_neg hn
  have e2 : overF (newW 0 1 c).kind (enterX (begZ c x).2).f = x.f := (if_neg hn).trans (fL_enter hi)
  rw [e1, e2] at p
  refine Out.at (s1 := .at none .enter) (z1 := begZ c x) ?_ (Out.at (s1 := .at none .gate) (z1 := (newW 0 1 c, enterX (begZ c x).2)) rfl (Out.at ?_ p))
  · show (if badC (newW 0 1 c) then _ else _) = _
    rw [if_neg h.good]
  · show (if x.f.closed = true then _ else _) = _
    rw [if_pos hc]
theorem out_none12 (h : fitC c) (hc : x.f.closed = false) (hi : 0 ≤ x.f.inside) (hn : (x.slab.recs.length : Int) ≤ x.slab.count) : Out (firstC c.kind) (begZ c x) 6 x.f x.slab x.shs 2 false 0 0 := by
  have p := out_full (k := { newW 0 1 c with rq := some (newReq (perC c)) }) (x := enterX (begZ c x).2) rfl hn
  rw [show fL (enterX (begZ c x).2).f = x.f from fL_enter hi] at p
  exact out_right h hc p
/-- a record that is submitted; one that is given back -/
def subR (r : Rec) (p : Int) : Rec := ⟨packW 2 (genW r.w + 1) false, r.g + 1, p⟩
def backR (r : Rec) (p : Int) : Rec := ⟨packW 0 (genW r.w + 1) false, r.g + 1, p⟩
theorem taken_next {r : Rec} (ho : RecOk r) {p : Int} (hg : genW r.w < 4294967295) (p0 : 0 ≤ p) (p1 : p < 18446744073709551616) :
    nextW (takenR r p).w 2 (decide (0 < (takenR r p).p)) = (packW 2 (genW r.w + 1) false, 0) ∧ nextW (takenR r p).w 9 (decide (0 < (takenR r p).p)) = (packW 0 (genW r.w + 1) false, 0) := by
  obtain ⟨a, b, d⟩ := taken_ok ho hg p0 p1
  have hb := ok_bd r.w ho.w0 ho.ok
  have hl : lastW (takenR r p).w = false := (packW_parts 1 (genW r.w + 1) false (by decide) (by decide) (by omega) (by omega)).2.2.2.1
  constructor
  · have := next_of (p := decide (0 < (takenR r p).p)) (a := 2) (g := 0) a.ok (e := 2) (by decide) (by decide) (by rw [b]; rfl) (by rw [d]; omega)
    rw [this, d, hl]; simp
  · have := next_of (p := decide (0 < (takenR r p).p)) (a := 0) (g := 0) a.ok (e := 9) (by decide) (by decide) (by rw [b]; rfl) (by rw [d]; omega)
    rw [this, d, hl]; simp
theorem per_bd (hw : c.wf) : 0 ≤ perC c ∧ perC c < 18446744073709551616 := by
  have := hw.per
  unfold perC
  split <;> omega
/-- the number that is given -/
def idR (r : Rec) (j : Nat) : Int := (r.g + 1) * 64 + j
theorem idR_slot {r : Rec} {j : Nat} (hj : j < 64) : idR r j % 64 = j := by
  have h : ∀ q : Int, (q * 64 + (j : Int)) % 64 = j := fun q => by omega
  exact h _
theorem idR_num {r : Rec} {j : Nat} (hj : j < 64) : idR r j / 64 = r.g + 1 := by
  have h : ∀ q : Int, (q * 64 + (j : Int)) / 64 = q := fun q => by omega
  exact h _
theorem out_sched (R : Rest m T x) (hw : c.wf) (h : fitC c) (hc : x.f.closed = false) {j : Nat} {r : Rec} (hj : x.slab.recs[j]? = some r) (hb : busyB r = false)
    (hlt : ∀ (i : Nat) (x' : Rec), i < j → x.slab.recs[i]? = some x' → busyB x' = true) (hT : T < 4294967295) (hcnt : x.slab.count < x.slab.recs.length)
    {s : ShardS} (hs : x.shs[homeC j x]? = some s) (ht : s.ring.tail < m) :
    Out (firstC c.kind) (begZ c x) (j + 13) x.f { recs := x.slab.recs.set j (subR r (perC c)), count := x.slab.count + 1 } (x.shs.set (homeC j x) { s with ring := filledR s.ring ⟨idR r j, j, genW r.w + 1, c.dl, perC c⟩ }) 0 true (idR r j) (genW r.w + 1) := by
  obtain ⟨ho, _, hgT⟩ := R.get hj
  have hg : genW r.w < 4294967295 := by omega
  have hi := R.ins
  have hl := (List.getElem?_eq_some_iff.1 hj).1
  have hn1 := R.ok.n1
  obtain ⟨p0, p1⟩ := per_bd hw
  have hsl : ((r.g + 1) * 64 + j) % 64 = (j : Int) := idR_slot (r := r) (by omega)
  have hrr := R.ring s (List.mem_of_getElem? hs)
  have hk3 : ¬ ((newW 0 1 c).kind = 3) := by have := h.k; show ¬ c.kind = 3; omega
  have hj2 : (x.slab.recs.set j (takenR r (perC c)))[j]? = some (takenR r (perC c)) := set_at hj
  rw [show j + 13 = (j + 3 + 7) + 3 by omega]
  refine out_right h hc (out_asks (x := enterX (begZ c x).2) (n := 7) hj hb (fun i x' hx' => (R.get hx').1) hg hlt hcnt _ rfl ?_)
  rw [hsl]
  refine out_held (n := 4) (m := m) (s := s) (i := homeC j x) (k := _) rfl hs hrr ht ?_
  rw [if_neg hk3]
  have hs2 : (x.shs.set (homeC j x) { s with ring := { s.ring with tail := s.ring.tail + 1 } })[homeC j x]? = some { s with ring := { s.ring with tail := s.ring.tail + 1 } } := List.getElem?_set_self (List.getElem?_eq_some_iff.1 hs).1
  have p := out_submits (k := { newW 0 1 c with rq := some ⟨perC c, 2, x.slab.count, j, (r.g + 1) * 64 + j, 2⟩, id := (r.g + 1) * 64 + j, slot := (j : Int), tk := some (homeC j x, ⟨s.ring.tail, 0, 2, false⟩) })
    (x := { enterX (begZ c x).2 with slab := { recs := x.slab.recs.set j (takenR r (perC c)), count := x.slab.count + 1 }, shs := x.shs.set (homeC j x) { s with ring := { s.ring with tail := s.ring.tail + 1 } } }) (i := homeC j x) (pos := s.ring.tail) (nx := 0) rfl hs2
  have hev := event_of (s := { recs := x.slab.recs.set j (takenR r (perC c)), count := x.slab.count + 1 }) (ev := 2) hj2 (taken_next ho hg p0 p1).1
  have hwp := packW_parts 2 (genW r.w + 1) false (by decide) (by decide) (by have := (ok_bd r.w ho.w0 ho.ok).2.2.1; omega) (by omega)
  have hE : eventS (j : Int) 2 { recs := x.slab.recs.set j (takenR r (perC c)), count := x.slab.count + 1 } = ({ recs := x.slab.recs.set j (subR r (perC c)), count := x.slab.count + 1 }, packW 2 (genW r.w + 1) false) := by
    rw [hev]; simp only [set_set]; rfl
  have hper : ({ recs := x.slab.recs.set j (subR r (perC c)), count := x.slab.count + 1 } : SlabS).period (j : Int) = perC c := period_of (s := { recs := x.slab.recs.set j (subR r (perC c)), count := x.slab.count + 1 }) (set_at hj)
  simp only [taskC, eventC, eventW] at p
  rw [hE] at p
  simp only [hwp.2.2.1, hper] at p
  rw [show fL (enterX (begZ c x).2).f = x.f from fL_enter (show 0 ≤ x.f.inside by omega)] at p
  simp only [List.set_set] at p
  exact p
theorem out_noring (R : Rest m T x) (hw : c.wf) (h : fitC c) (hc : x.f.closed = false) {j : Nat} {r : Rec} (hj : x.slab.recs[j]? = some r) (hb : busyB r = false)
    (hlt : ∀ (i : Nat) (x' : Rec), i < j → x.slab.recs[i]? = some x' → busyB x' = true) (hT : T < 4294967295) (hcnt : x.slab.count < x.slab.recs.length)
    {s : ShardS} (hs : x.shs[homeC j x]? = some s) (ht : s.ring.tail = m) :
    Out (firstC c.kind) (begZ c x) (j + 12) x.f { recs := x.slab.recs.set j (backR r (perC c)), count := x.slab.count } x.shs 2 false 0 0 := by
  obtain ⟨ho, _, hgT⟩ := R.get hj
  have hg : genW r.w < 4294967295 := by omega
  have hi := R.ins
  have hc0 := R.ok.c0
  have hl := (List.getElem?_eq_some_iff.1 hj).1
  have hn1 := R.ok.n1
  obtain ⟨p0, p1⟩ := per_bd hw
  have hsl : ((r.g + 1) * 64 + j) % 64 = (j : Int) := idR_slot (r := r) (by omega)
  have hrr := R.ring s (List.mem_of_getElem? hs)
  have hk3 : ¬ ((newW 0 1 c).kind = 3) := by have := h.k; show ¬ c.kind = 3; omega
  have hj2 : (x.slab.recs.set j (takenR r (perC c)))[j]? = some (takenR r (perC c)) := set_at hj
  rw [show j + 12 = (j + 3 + 6) + 3 by omega]
  refine out_right h hc (out_asks (x := enterX (begZ c x).2) (n := 6) hj hb (fun i x' hx' => (R.get hx').1) hg hlt hcnt _ rfl ?_)
  rw [hsl]
  have p := out_ringfull (k := { newW 0 1 c with rq := some ⟨perC c, 2, x.slab.count, j, (r.g + 1) * 64 + j, 2⟩, id := (r.g + 1) * 64 + j, slot := (j : Int), tk := some (homeC j x, newTick) })
    (x := { enterX (begZ c x).2 with slab := { recs := x.slab.recs.set j (takenR r (perC c)), count := x.slab.count + 1 } }) (i := homeC j x) rfl hs hrr ht
  rw [if_neg hk3, if_neg hk3] at p
  have hev := event_of (s := { recs := x.slab.recs.set j (takenR r (perC c)), count := x.slab.count + 1 }) (ev := 9) hj2 (taken_next ho hg p0 p1).2
  have hE : eventS (j : Int) 9 { recs := x.slab.recs.set j (takenR r (perC c)), count := x.slab.count + 1 } = ({ recs := x.slab.recs.set j (backR r (perC c)), count := x.slab.count + 1 }, packW 0 (genW r.w + 1) false) := by
    rw [hev]; simp only [set_set]; rfl
  rw [hE] at p
  have hd : ({ recs := x.slab.recs.set j (backR r (perC c)), count := x.slab.count + 1 } : SlabS).drop.1 = { recs := x.slab.recs.set j (backR r (perC c)), count := x.slab.count } := by
    unfold SlabS.drop
    rw [if_pos (by show 0 < x.slab.count + 1; omega)]
    show ({ recs := _, count := x.slab.count + 1 - 1 } : SlabS) = _
    rw [show x.slab.count + 1 - 1 = x.slab.count by omega]
  simp only [hd] at p
  rw [show fL (enterX (begZ c x).2).f = x.f from fL_enter (show 0 ≤ x.f.inside by omega)] at p
  exact p
end
end Go.Proofs.YthbjaoinklhikaaGreat

namespace Go.Proofs.YthbjaoinklhikaaGreat
set_option linter.unusedVariables false
set_option linter.unusedSimpArgs false

/-! ## Reset, Cancel, Stop, alone (plain) -/
theorem known_of {s : SlabS} {j : Nat} {r : Rec} {id : Int} (hj : s.recs[j]? = some r) (hid : id % 64 = j) (hg : 1 ≤ id / 64) (hg2 : id / 64 ≤ r.g) : s.known id := by
  have := (List.getElem?_eq_some_iff.1 hj).1
  unfold SlabS.known
  rw [hid, Int.toNat_natCast, getD_of hj]
  exact ⟨by omega, hg, hg2⟩
theorem look_live {k : WorkS} {s : SlabS} {j : Nat} {r : Rec} (hj : s.recs[j]? = some r) (hid : k.id % 64 = j) (h1 : 1 ≤ r.g) (hg : k.id / 64 = r.g) :
    lookW k s = ({ k with slot := (j : Int), saw := r.w }, (nextW r.w k.event (decide (0 < r.p))).2) := by
  have hk := known_of hj hid (by omega) (by omega)
  have e1 : s.serr k.id = 0 := if_pos hk
  have e2 : s.slot k.id = (j : Int) := (if_pos hk).trans hid
  have e3 : s.mine k.id = true := by
    unfold SlabS.mine
    rw [hid, Int.toNat_natCast, getD_of hj]
    simp [hk, hg]
  unfold lookW
  rw [if_neg (by omega), if_neg (by simp [e3]), e2, word_of hj, period_of hj]
theorem look_stale {k : WorkS} {s : SlabS} (hk : s.known k.id) (hm : s.mine k.id = false) : (lookW k s).2 = 7 := by
  have e1 : s.serr k.id = 0 := if_pos hk
  unfold lookW
  rw [if_neg (by omega), if_pos hm]
theorem look_unknown {k : WorkS} {s : SlabS} (hk : ¬ s.known k.id) : lookW k s = (k, 1) := by
  have e1 : s.serr k.id = 1 := if_neg hk
  unfold lookW
  rw [if_pos (by omega), e1]
section
variable {m : Nat} {T : Int} {x : CoreS} {c : CallC} {n : Nat} {f : FloorS} {S : SlabS} {H : List ShardS} {err : Int} {ok : Bool} {id gen : Int}
def gateX (c : CallC) (x : CoreS) : CoreS := if c.kind = 3 then enterX (begZ c x).2 else (begZ c x).2
theorem gate_slab : (gateX c x).slab = x.slab := by unfold gateX; split <;> rfl
theorem gate_shs : (gateX c x).shs = x.shs := by unfold gateX; split <;> rfl
theorem gate_closed : (gateX c x).f.closed = x.f.closed := by unfold gateX; split <;> rfl
theorem gate_over (hk : 3 ≤ c.kind) (hk5 : c.kind ≤ 5) (hi : 0 ≤ x.f.inside) : overF c.kind (gateX c x).f = x.f := by
  unfold overF gateX
  by_cases h : c.kind = 3
  · rw [if_neg (by omega), if_pos h]; exact fL_enter hi
  · rw [if_pos (by omega), if_neg h]; rfl
def gateN (k : Int) : Nat := if k = 3 then 2 else 1
theorem first345 (hk : 3 ≤ c.kind) : firstC c.kind = if c.kind = 3 then .at none .enter else .at none .gate := by
  unfold firstC
  rw [if_neg (by omega)]
theorem out_gated (hk : 3 ≤ c.kind) {s1 : SC} {z1 : ZC} (h : runC .gate (newW 0 1 c, gateX c x) = (s1, z1)) (p : Out s1 z1 n f S H err ok id gen) : Out (firstC c.kind) (begZ c x) (n + gateN c.kind) f S H err ok id gen := by
  rw [first345 hk]
  unfold gateN
  unfold gateX at h
  by_cases h3 : c.kind = 3
  · rw [if_pos h3, if_pos h3]
    rw [if_pos h3] at h
    exact Out.at (s1 := .at none .gate) (z1 := (newW 0 1 c, enterX (begZ c x).2)) rfl (Out.at h p)
  · rw [if_neg h3, if_neg h3]
    rw [if_neg h3] at h
    exact Out.at h p
theorem out_shut345 (hk : 3 ≤ c.kind) (hk5 : c.kind ≤ 5) (hc : x.f.closed = true) (hi : 0 ≤ x.f.inside) : Out (firstC c.kind) (begZ c x) (overN c.kind + gateN c.kind) x.f x.slab x.shs 3 false 0 0 := by
  have p := out_refuse (newW 0 1 c, gateX c x) 3
  have e2 : overF (newW 0 1 c).kind (gateX c x).f = x.f := gate_over hk hk5 hi
  rw [e2] at p
  simp only [gate_slab, gate_shs] at p
  refine out_gated hk ?_ p
  show (if (gateX c x).f.closed = true then _ else _) = _
  rw [if_pos (by rw [gate_closed]; exact hc)]
theorem out_looks (hk : 3 ≤ c.kind) (hc : x.f.closed = false) (p : Out (.at none .looks) (newW 0 1 c, gateX c x) n f S H err ok id gen) : Out (firstC c.kind) (begZ c x) (n + gateN c.kind) f S H err ok id gen := by
  refine out_gated hk ?_ p
  show (if (gateX c x).f.closed = true then _ else _) = _
  rw [if_neg (by rw [gate_closed, hc]; decide)]
  show (if c.kind = 1 ∨ c.kind = 2 then _ else _) = _
  rw [if_neg (by omega)]
/-- a number that isn't known -/
theorem out_unknown (hk : 3 ≤ c.kind) (hk5 : c.kind ≤ 5) (hc : x.f.closed = false) (hi : 0 ≤ x.f.inside) (hu : ¬ x.slab.known c.id) :
    Out (firstC c.kind) (begZ c x) (overN c.kind + 1 + gateN c.kind) x.f x.slab x.shs 1 false 0 0 := by
  have p := out_refuse (newW 0 1 c, gateX c x) 1
  have e2 : overF (newW 0 1 c).kind (gateX c x).f = x.f := gate_over hk hk5 hi
  rw [e2] at p
  simp only [gate_slab, gate_shs] at p
  refine out_looks hk hc (Out.at ?_ p)
  have hl := look_unknown (k := newW 0 1 c) (s := (gateX c x).slab) (by rw [gate_slab]; exact hu)
  show (if (lookW (newW 0 1 c) (gateX c x).slab).2 = 0 then _ else if (lookW (newW 0 1 c) (gateX c x).slab).2 = 1 then _ else _ : SC × ZC) = _
  rw [hl, if_neg (show ¬ ((1 : Int) = 0) by decide), if_pos (show (1 : Int) = 1 from rfl)]
  show (overC (newW 0 1 c), refuseC 1 ((lookW (newW 0 1 c) (gateX c x).slab).1, gateX c x)) = _
  rw [hl]
/-- one for which the event may not happen any more -/
theorem out_gone (hk : 3 ≤ c.kind) (hk5 : c.kind ≤ 5) (hc : x.f.closed = false) (hi : 0 ≤ x.f.inside) (h0 : (lookW (newW 0 1 c) x.slab).2 ≠ 0) (h1 : (lookW (newW 0 1 c) x.slab).2 ≠ 1) :
    Out (firstC c.kind) (begZ c x) (overN c.kind + 1 + gateN c.kind) x.f x.slab x.shs 0 false 0 0 := by
  have hkk : (lookW (newW 0 1 c) x.slab).1.kind = c.kind := by
    unfold lookW
    split
    · rfl
    · split <;> rfl
  have p := out_over (refuseC 0 ((lookW (newW 0 1 c) x.slab).1, gateX c x)) (newW 0 1 c) hkk.symm
  have e0 : (refuseC 0 ((lookW (newW 0 1 c) x.slab).1, gateX c x)).1.kind = c.kind := hkk
  have e2 : overF c.kind (gateX c x).f = x.f := gate_over hk hk5 hi
  rw [e0] at p
  have e3 : overF c.kind (refuseC 0 ((lookW (newW 0 1 c) x.slab).1, gateX c x)).2.f = x.f := e2
  have e4 : (refuseC 0 ((lookW (newW 0 1 c) x.slab).1, gateX c x)).2.slab = x.slab := gate_slab
  have e5 : (refuseC 0 ((lookW (newW 0 1 c) x.slab).1, gateX c x)).2.shs = x.shs := gate_shs
  rw [e3, e4, e5] at p
  refine out_looks hk hc (Out.at ?_ p)
  show (if (lookW (newW 0 1 c) (gateX c x).slab).2 = 0 then _ else if (lookW (newW 0 1 c) (gateX c x).slab).2 = 1 then _ else _ : SC × ZC) = _
  rw [gate_slab, if_neg h0, if_neg h1]
  show (overC (newW 0 1 c), refuseC 0 ((lookW (newW 0 1 c) (gateX c x).slab).1, gateX c x)) = _
  rw [gate_slab]
/-- what a try of a live word does -/
theorem tryC_of {k : WorkS} {y : CoreS} {j : Nat} {r : Rec} {w' : Int} (hj : y.slab.recs[j]? = some r) (hs : k.slot = j) (hw : k.saw = r.w) (hn : nextW r.w k.event (decide (0 < r.p)) = (w', 0)) :
    tryC (k, y) = (({ k with gen := genW w' }, { y with slab := { y.slab with recs := y.slab.recs.set j { r with w := w' } } }), 0) := by
  unfold tryC
  simp only [hs, hw, try_of hj hn]
theorem runC_tries {k : WorkS} {y : CoreS} {z : ZC} (h : tryC (k, y) = (z, 0)) : runC .tries (k, y) =
    if k.kind = 3 then (.at none .fills, noteZ { ev0 with kind := 6, id := k.id, gen := z.1.gen, dl := k.cdl } (okC z.1, z.2))
    else if k.kind = 5 then (.row1 .ends1, noteZ { ev0 with kind := 8, id := k.id, gen := z.1.gen } (okC z.1, z.2))
    else (.thn (.row2 .tries1 .drop) .ends, noteZ { ev0 with kind := 7, id := k.id, gen := z.1.gen } (okC z.1, z.2)) := by
  show (if (tryC (k, y)).2 ≠ 0 then _ else if k.kind = 3 then (.at none .fills, noteZ { ev0 with kind := 6, id := k.id, gen := (tryC (k, y)).1.1.gen, dl := k.cdl } (okC (tryC (k, y)).1.1, (tryC (k, y)).1.2))
    else if k.kind = 5 then (.row1 .ends1, noteZ { ev0 with kind := 8, id := k.id, gen := (tryC (k, y)).1.1.gen } (okC (tryC (k, y)).1.1, (tryC (k, y)).1.2))
    else (.thn (.row2 .tries1 .drop) .ends, noteZ { ev0 with kind := 7, id := k.id, gen := (tryC (k, y)).1.1.gen } (okC (tryC (k, y)).1.1, (tryC (k, y)).1.2)) : SC × ZC) = _
  rw [h, if_neg (by simp)]
/-- a look that finds it -/
theorem runC_looks {k : WorkS} {y : CoreS} {k' : WorkS} (h : lookW k y.slab = (k', 0)) : runC .looks (k, y) = if k.kind = 3 then (.at none .queues, ({ k' with tk := some (homeC k'.slot y, newTick) }, y)) else (.at none .tries, (k', y)) := by
  show (if (lookW k y.slab).2 = 0 then (if k.kind = 3 then (.at none .queues, ({ (lookW k y.slab).1 with tk := some (homeC (lookW k y.slab).1.slot y, newTick) }, y)) else (.at none .tries, ((lookW k y.slab).1, y)))
    else if (lookW k y.slab).2 = 1 then (overC k, refuseC 1 ((lookW k y.slab).1, y)) else (overC k, refuseC 0 ((lookW k y.slab).1, y)) : SC × ZC) = _
  rw [h, if_pos rfl]
theorem runC_again {k : WorkS} {y : CoreS} {k' : WorkS} (h : lookW k y.slab = (k', 0)) : runC .again (k, y) = (.at none .tries, (k', y)) := by
  show (if (lookW k y.slab).2 = 0 then (.at none .tries, ((lookW k y.slab).1, y)) else _ : SC × ZC) = _
  rw [h, if_pos rfl]
/-- a record that is live: queued, and its number's own -/
structure Live (x : CoreS) (c : CallC) (j : Nat) (r : Rec) : Prop where
  at_ : x.slab.recs[j]? = some r
  id : c.id % 64 = j
  num : c.id / 64 = r.g
  g1 : 1 ≤ r.g
  st : stW r.w = 2
  ok : RecOk r
theorem next_cancel {w : Int} {p : Bool} (hk : okW w = true) (h0 : 0 ≤ w) (hs : stW w = 2) : nextW w 6 p = (packW 5 (genW w) (lastW w), 0) := by
  have hb := ok_bd w h0 hk
  have := next_of (p := p) (a := 5) (g := 0) hk (e := 6) (by decide) (by decide) (by rw [hs]; cases p && !lastW w <;> rfl) (by omega)
  rw [this]; simp
theorem next_stop {w : Int} {p : Bool} (hk : okW w = true) (h0 : 0 ≤ w) (hs : stW w = 2) : nextW w 7 p = if (p && !lastW w) = true then (packW 2 (genW w) true, 0) else (w, 7) := by
  have hb := ok_bd w h0 hk
  cases hp : (p && !lastW w)
  · exact next_no hk (by decide) (by decide) (by rw [hs, hp]; rfl)
  · have := next_of (p := p) (a := 2) (g := 0) hk (e := 7) (by decide) (by decide) (by rw [hs, hp]; rfl) (by omega)
    rw [this]; simp
theorem next_reset {w : Int} {p : Bool} (hk : okW w = true) (h0 : 0 ≤ w) (hs : stW w = 2) (hg : genW w < 4294967295) : nextW w 8 p = (packW 2 (genW w + 1) (lastW w), 0) := by
  have := next_of (p := p) (a := 2) (g := 1) hk (e := 8) (by decide) (by decide) (by rw [hs]; cases p && !lastW w <;> rfl) (by omega)
  rw [this]; simp
theorem next_release {g : Int} {l p : Bool} (h0 : 0 ≤ g) (h1 : g ≤ 4294967295) : nextW (packW 5 g l) 10 p = (packW 0 g false, 0) := by
  have hp := packW_parts 5 g l (by decide) (by decide) h0 h1
  have := next_of (p := p) (a := 0) (g := 0) hp.1 (e := 10) (by decide) (by decide) (by rw [hp.2.1]; rfl) (by rw [hp.2.2.1]; omega)
  rw [this, hp.2.2.1]; simp
theorem out_cancelled (hk : c.kind = 4) (hc : x.f.closed = false) {j : Nat} {r : Rec} (h : Live x c j r) (hcnt : 1 ≤ x.slab.count) :
    Out (firstC c.kind) (begZ c x) 6 x.f { recs := x.slab.recs.set j { r with w := packW 0 (genW r.w) false }, count := x.slab.count - 1 } x.shs 0 true c.id (genW r.w) := by
  have hb := ok_bd r.w h.ok.w0 h.ok.ok
  have hg4 : gateN c.kind = 1 := if_neg (by omega)
  have hgx : gateX c x = (begZ c x).2 := if_neg (by omega)
  have hkk : (newW 0 1 c).kind = 4 := hk
  have hev : (newW 0 1 c).event = 6 := by unfold WorkS.event; rw [if_pos hkk]
  have hl := look_live (k := newW 0 1 c) (s := (begZ c x).2.slab) h.at_ h.id h.g1 h.num
  rw [hev, next_cancel h.ok.ok h.ok.w0 h.st] at hl
  have ht := tryC_of (k := { newW 0 1 c with slot := (j : Int), saw := r.w }) (y := (begZ c x).2) h.at_ rfl rfl (by
    show nextW r.w (newW 0 1 c).event _ = _
    rw [hev]; exact next_cancel h.ok.ok h.ok.w0 h.st)
  have hp5 := packW_parts 5 (genW r.w) (lastW r.w) (by decide) (by decide) hb.2.2.1 hb.2.2.2
  have hr2 := runC_tries ht
  rw [if_neg (by show ¬ c.kind = 3; omega), if_neg (by show ¬ c.kind = 5; omega)] at hr2
  have hr1 := runC_looks hl
  rw [if_neg (by show ¬ c.kind = 3; omega)] at hr1
  rw [show 6 = 5 + gateN c.kind by rw [hg4]]
  refine out_looks (by omega) hc ?_
  rw [hgx]
  refine Out.at hr1 (Out.at hr2 ?_)
  have p := out_cancel (noteZ { ev0 with kind := 7, id := c.id, gen := genW (packW 5 (genW r.w) (lastW r.w)) } (okC { newW 0 1 c with slot := (j : Int), saw := r.w, gen := genW (packW 5 (genW r.w) (lastW r.w)) }, { (begZ c x).2 with slab := { x.slab with recs := x.slab.recs.set j { r with w := packW 5 (genW r.w) (lastW r.w) } } }))
  have hE : eventS (j : Int) 10 { x.slab with recs := x.slab.recs.set j { r with w := packW 5 (genW r.w) (lastW r.w) } } = ({ x.slab with recs := x.slab.recs.set j { r with w := packW 0 (genW r.w) false } }, packW 0 (genW r.w) false) := by
    have := event_of (s := { x.slab with recs := x.slab.recs.set j { r with w := packW 5 (genW r.w) (lastW r.w) } }) (j := j) (r := { r with w := packW 5 (genW r.w) (lastW r.w) }) (ev := 10) (set_at h.at_) (next_release hb.2.2.1 hb.2.2.2)
    rw [this]; simp only [set_set]
  have hd : ({ x.slab with recs := x.slab.recs.set j { r with w := packW 0 (genW r.w) false } } : SlabS).drop.1 = { recs := x.slab.recs.set j { r with w := packW 0 (genW r.w) false }, count := x.slab.count - 1 } := by
    unfold SlabS.drop
    rw [if_pos (by show 0 < x.slab.count; omega)]
  have e1 : (noteZ { ev0 with kind := 7, id := c.id, gen := genW (packW 5 (genW r.w) (lastW r.w)) } (okC { newW 0 1 c with slot := (j : Int), saw := r.w, gen := genW (packW 5 (genW r.w) (lastW r.w)) }, { (begZ c x).2 with slab := { x.slab with recs := x.slab.recs.set j { r with w := packW 5 (genW r.w) (lastW r.w) } } })).2.slab = { x.slab with recs := x.slab.recs.set j { r with w := packW 5 (genW r.w) (lastW r.w) } } := rfl
  have e2 : (noteZ { ev0 with kind := 7, id := c.id, gen := genW (packW 5 (genW r.w) (lastW r.w)) } (okC { newW 0 1 c with slot := (j : Int), saw := r.w, gen := genW (packW 5 (genW r.w) (lastW r.w)) }, { (begZ c x).2 with slab := { x.slab with recs := x.slab.recs.set j { r with w := packW 5 (genW r.w) (lastW r.w) } } })).1.slot = (j : Int) := rfl
  rw [e1, e2] at p
  have e3 : genW (packW 5 (genW r.w) (lastW r.w)) = genW r.w := hp5.2.2.1
  exact Out.eq p rfl (by rw [hE, hd]) rfl e3
theorem out_stopped (hk : c.kind = 5) (hc : x.f.closed = false) {j : Nat} {r : Rec} (h : Live x c j r) (hp : (decide (0 < r.p) && !lastW r.w) = true) :
    Out (firstC c.kind) (begZ c x) 4 x.f { recs := x.slab.recs.set j { r with w := packW 2 (genW r.w) true }, count := x.slab.count } x.shs 0 true c.id (genW r.w) := by
  have hb := ok_bd r.w h.ok.w0 h.ok.ok
  have hg4 : gateN c.kind = 1 := if_neg (by omega)
  have hgx : gateX c x = (begZ c x).2 := if_neg (by omega)
  have hkk : (newW 0 1 c).kind = 5 := hk
  have hev : (newW 0 1 c).event = 7 := by unfold WorkS.event; rw [if_neg (by rw [hkk]; decide), if_pos hkk]
  have hnx : nextW r.w 7 (decide (0 < r.p)) = (packW 2 (genW r.w) true, 0) := by rw [next_stop h.ok.ok h.ok.w0 h.st, if_pos hp]
  have hl := look_live (k := newW 0 1 c) (s := (begZ c x).2.slab) h.at_ h.id h.g1 h.num
  rw [hev, hnx] at hl
  have ht := tryC_of (k := { newW 0 1 c with slot := (j : Int), saw := r.w }) (y := (begZ c x).2) h.at_ rfl rfl (by
    show nextW r.w (newW 0 1 c).event _ = _
    rw [hev]; exact hnx)
  have hp2 := packW_parts 2 (genW r.w) true (by decide) (by decide) hb.2.2.1 hb.2.2.2
  have hr2 := runC_tries ht
  rw [if_neg (by show ¬ c.kind = 3; omega), if_pos (by show c.kind = 5; omega)] at hr2
  have hr1 := runC_looks hl
  rw [if_neg (by show ¬ c.kind = 3; omega)] at hr1
  rw [show 4 = 3 + gateN c.kind by rw [hg4]]
  refine out_looks (by omega) hc ?_
  rw [hgx]
  refine Out.at hr1 (Out.at hr2 ?_)
  have p' : Out (.row1 .ends1) _ 1 x.f { recs := x.slab.recs.set j { r with w := packW 2 (genW r.w) true }, count := x.slab.count } x.shs 0 true c.id (genW (packW 2 (genW r.w) true)) := out_ends (noteZ { ev0 with kind := 8, id := c.id, gen := genW (packW 2 (genW r.w) true) } (okC { newW 0 1 c with slot := (j : Int), saw := r.w, gen := genW (packW 2 (genW r.w) true) }, { (begZ c x).2 with slab := { x.slab with recs := x.slab.recs.set j { r with w := packW 2 (genW r.w) true } } }))
  exact Out.eq p' rfl rfl rfl hp2.2.2.1
theorem out_reset (hk : c.kind = 3) (hc : x.f.closed = false) (hi : 0 ≤ x.f.inside) {j : Nat} {r : Rec} (h : Live x c j r) (hg : genW r.w < 4294967295) {s : ShardS} (hs : x.shs[homeC j x]? = some s) (hrr : RingR m s.ring) (ht : s.ring.tail < m) :
    Out (firstC c.kind) (begZ c x) 11 x.f { recs := x.slab.recs.set j { r with w := packW 2 (genW r.w + 1) (lastW r.w) }, count := x.slab.count } (x.shs.set (homeC j x) { s with ring := filledR s.ring ⟨c.id, j, genW r.w + 1, c.dl, r.p⟩ }) 0 true c.id (genW r.w + 1) := by
  have hb := ok_bd r.w h.ok.w0 h.ok.ok
  have hg3 : gateN c.kind = 2 := if_pos hk
  have hgx : gateX c x = enterX (begZ c x).2 := if_pos hk
  have hkk : (newW 0 1 c).kind = 3 := hk
  have hev : (newW 0 1 c).event = 8 := by unfold WorkS.event; rw [if_neg (by rw [hkk]; decide), if_neg (by rw [hkk]; decide)]
  have hnx : nextW r.w 8 (decide (0 < r.p)) = (packW 2 (genW r.w + 1) (lastW r.w), 0) := next_reset h.ok.ok h.ok.w0 h.st hg
  have hp2 := packW_parts 2 (genW r.w + 1) (lastW r.w) (by decide) (by decide) (by omega) (by omega)
  have hl := look_live (k := newW 0 1 c) (s := (enterX (begZ c x).2).slab) h.at_ h.id h.g1 h.num
  rw [hev, hnx] at hl
  have hr1 := runC_looks (y := enterX (begZ c x).2) hl
  rw [if_pos hkk] at hr1
  rw [show 11 = (5 + 3 + 1) + gateN c.kind by rw [hg3]]
  refine out_looks (by omega) hc ?_
  rw [hgx]
  refine Out.at hr1 (out_held (n := 5) (m := m) (s := s) (i := homeC j x) rfl hs hrr ht ?_)
  rw [if_pos hkk]
  have hl2 := look_live (k := { newW 0 1 c with slot := (j : Int), saw := r.w, tk := some (homeC j x, ⟨s.ring.tail, 0, 2, false⟩) }) (s := x.slab) h.at_ h.id h.g1 h.num
  have hev2 : ({ newW 0 1 c with slot := (j : Int), saw := r.w, tk := some (homeC j x, ⟨s.ring.tail, 0, 2, false⟩) } : WorkS).event = 8 := hev
  rw [hev2, hnx] at hl2
  refine Out.at (runC_again (y := { enterX (begZ c x).2 with shs := x.shs.set (homeC j x) { s with ring := { s.ring with tail := s.ring.tail + 1 } } }) hl2) ?_
  have ht2 := tryC_of (k := { newW 0 1 c with slot := (j : Int), saw := r.w, tk := some (homeC j x, ⟨s.ring.tail, 0, 2, false⟩) }) (y := { enterX (begZ c x).2 with shs := x.shs.set (homeC j x) { s with ring := { s.ring with tail := s.ring.tail + 1 } } }) h.at_ rfl rfl (by rw [hev2]; exact hnx)
  have hr2 := runC_tries ht2
  rw [if_pos hkk] at hr2
  refine Out.at hr2 ?_
  have hs2 : (x.shs.set (homeC j x) { s with ring := { s.ring with tail := s.ring.tail + 1 } })[homeC j x]? = some { s with ring := { s.ring with tail := s.ring.tail + 1 } } := List.getElem?_set_self (List.getElem?_eq_some_iff.1 hs).1
  have p := out_fills (k := okC { newW 0 1 c with slot := (j : Int), saw := r.w, tk := some (homeC j x, ⟨s.ring.tail, 0, 2, false⟩), gen := genW (packW 2 (genW r.w + 1) (lastW r.w)) })
    (x := noteC (okC { newW 0 1 c with slot := (j : Int), saw := r.w, tk := some (homeC j x, ⟨s.ring.tail, 0, 2, false⟩), gen := genW (packW 2 (genW r.w + 1) (lastW r.w)) }) { ev0 with kind := 6, id := c.id, gen := genW (packW 2 (genW r.w + 1) (lastW r.w)), dl := c.dl } { enterX (begZ c x).2 with slab := { x.slab with recs := x.slab.recs.set j { r with w := packW 2 (genW r.w + 1) (lastW r.w) } }, shs := x.shs.set (homeC j x) { s with ring := { s.ring with tail := s.ring.tail + 1 } } }) (i := homeC j x) (pos := s.ring.tail) (nx := 0) rfl hs2
  have hper : ({ x.slab with recs := x.slab.recs.set j { r with w := packW 2 (genW r.w + 1) (lastW r.w) } } : SlabS).period (j : Int) = r.p := period_of (s := { x.slab with recs := x.slab.recs.set j { r with w := packW 2 (genW r.w + 1) (lastW r.w) } }) (r := { r with w := packW 2 (genW r.w + 1) (lastW r.w) }) (set_at h.at_)
  have hv : ({ (⟨c.id, j, genW (packW 2 (genW r.w + 1) (lastW r.w)), c.dl, ({ x.slab with recs := x.slab.recs.set j { r with w := packW 2 (genW r.w + 1) (lastW r.w) } } : SlabS).period (j : Int)⟩ : TaskS) with id := c.id } : TaskS) = ⟨c.id, j, genW r.w + 1, c.dl, r.p⟩ := by rw [hper, hp2.2.2.1]
  refine Out.eq p (fL_enter hi) rfl ?_ hp2.2.2.1
  exact (List.set_set _).trans (congrArg (fun v => x.shs.set (homeC j x) { s with ring := { s.ring with tail := s.ring.tail + 1, slots := s.ring.slots.set (s.ring.at s.ring.tail) ⟨2 * s.ring.tail + 1, v⟩ } }) hv)
theorem out_resetfull (hk : c.kind = 3) (hc : x.f.closed = false) (hi : 0 ≤ x.f.inside) {j : Nat} {r : Rec} (h : Live x c j r) (hg : genW r.w < 4294967295) {s : ShardS} (hs : x.shs[homeC j x]? = some s) (hrr : RingR m s.ring) (ht : s.ring.tail = m) :
    Out (firstC c.kind) (begZ c x) 7 x.f x.slab x.shs 2 false 0 0 := by
  have hg3 : gateN c.kind = 2 := if_pos hk
  have hgx : gateX c x = enterX (begZ c x).2 := if_pos hk
  have hkk : (newW 0 1 c).kind = 3 := hk
  have hev : (newW 0 1 c).event = 8 := by unfold WorkS.event; rw [if_neg (by rw [hkk]; decide), if_neg (by rw [hkk]; decide)]
  have hnx : nextW r.w 8 (decide (0 < r.p)) = (packW 2 (genW r.w + 1) (lastW r.w), 0) := next_reset h.ok.ok h.ok.w0 h.st hg
  have hl := look_live (k := newW 0 1 c) (s := (enterX (begZ c x).2).slab) h.at_ h.id h.g1 h.num
  rw [hev, hnx] at hl
  have hr1 := runC_looks (y := enterX (begZ c x).2) hl
  rw [if_pos hkk] at hr1
  rw [show 7 = (4 + 1) + gateN c.kind by rw [hg3]]
  refine out_looks (by omega) hc ?_
  rw [hgx]
  refine Out.at hr1 ?_
  have p := out_ringfull (k := { newW 0 1 c with slot := (j : Int), saw := r.w, tk := some (homeC j x, newTick) }) (x := enterX (begZ c x).2) (i := homeC j x) rfl hs hrr ht
  rw [if_pos hkk, if_pos hkk, show fL (enterX (begZ c x).2).f = x.f from fL_enter hi] at p
  exact p
end
end Go.Proofs.YthbjaoinklhikaaGreat
