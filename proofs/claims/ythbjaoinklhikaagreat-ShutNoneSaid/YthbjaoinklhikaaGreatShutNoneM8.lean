import Derived.Test.YthbjaoinklhikaaGreatShutNoneM7
import Derived.Test.YthbjaoinklhikaaGreatShutNoneM2
import Derived.Test.YthbjaoinklhikaaGreatShutNoneM3
import Derived.Test.YthbjaoinklhikaaGreatShutNoneM6
import Derived.Laws.Externs
import Derived.Deep.RegionLaw
namespace Go.Proofs.YthbjaoinklhikaaGreat
set_option linter.unusedVariables false
set_option linter.unusedSimpArgs false
open Go.RowKit Go.Shelf

/-! ## A ring, and a ticket: what they do -/
structure TickS where
  pos : Int
  next : Int
  status : Int
  filled : Bool
def newTick : TickS := ⟨0, 0, 0, false⟩
def SlotS.zero : SlotS := ⟨0, TaskS.zero⟩
def RingS.at (r : RingS) (pos : Int) : Nat := (pos % (r.slots.length : Int)).toNat
def RingS.slot (r : RingS) (pos : Int) : SlotS := r.slots.getD (r.at pos) SlotS.zero
def lookT (r : RingS) (t : TickS) : TickS := { t with pos := r.tail, next := 1 }
def weighT (r : RingS) (t : TickS) : TickS :=
  if 2 * t.pos < (r.slot t.pos).seq then { t with next := 0 } else if (r.slot t.pos).seq < 2 * t.pos then { t with status := 1 } else { t with next := 2 }
def takeT (r : RingS) (t : TickS) : RingS × TickS :=
  if r.tail = t.pos then ({ r with tail := t.pos + 1 }, { t with next := 0, status := 2 }) else (r, { t with next := 0 })
def stepT (r : RingS) (t : TickS) : RingS × TickS :=
  if t.status ≠ 0 then (r, t) else if t.next = 0 then (r, lookT r t) else if t.next = 1 then (r, weighT r t) else takeT r t
def fillT (r : RingS) (t : TickS) (v : TaskS) : RingS × TickS × Int :=
  if t.status = 2 ∧ t.filled = false then ({ r with slots := r.slots.set (r.at t.pos) ⟨2 * t.pos + 1, v⟩ }, { t with filled := true }, 0) else (r, t, 7)
def RingS.ready (r : RingS) : Bool := (r.slot r.head).seq == 2 * r.head + 1
def popR (r : RingS) : RingS × TaskS × Int :=
  if r.ready = true then ({ r with slots := r.slots.set (r.at r.head) ⟨2 * (r.head + r.slots.length), TaskS.zero⟩, head := r.head + 1 }, (r.slot r.head).v, 0) else (r, TaskS.zero, 6)
structure RingB (r : RingS) : Prop where
  n0 : 1 ≤ r.slots.length
  n1 : r.slots.length ≤ 64
  t0 : 0 ≤ r.tail
  t1 : r.tail ≤ 1099511627776
  h0 : 0 ≤ r.head
  h1 : r.head ≤ 1099511627776
structure TickB (t : TickS) : Prop where
  p0 : 0 ≤ t.pos
  p1 : t.pos ≤ 1099511627776
  nx : t.next = 0 ∨ t.next = 1 ∨ t.next = 2
  st : t.status = 0 ∨ t.status = 1 ∨ t.status = 2
theorem newTick_b : TickB newTick := ⟨by decide, by decide, .inl rfl, .inl rfl⟩
theorem stepT_b {r : RingS} {t : TickS} (hr : RingB r) (ht : TickB t) : TickB (stepT r t).2 := by
  unfold stepT lookT weighT takeT
  have h1 := hr.t0; have h2 := hr.t1
  split
  · exact ht
  · split
    · exact ⟨h1, h2, .inr (.inl rfl), ht.st⟩
    · split
      · split
        · exact ⟨ht.p0, ht.p1, .inl rfl, ht.st⟩
        · split
          · exact ⟨ht.p0, ht.p1, ht.nx, .inr (.inl rfl)⟩
          · exact ⟨ht.p0, ht.p1, .inr (.inr rfl), ht.st⟩
      · split
        · exact ⟨ht.p0, ht.p1, .inl rfl, .inr (.inr rfl)⟩
        · exact ⟨ht.p0, ht.p1, .inl rfl, ht.st⟩

def TaskS.cells (t : TaskS) : Array Value := #[.int .u64 t.id, .int .i64 t.slot, .int .u64 t.gen, .int .u64 t.dl, .int .u64 t.per]
def tickC (rb : Nat) (t : TickS) : Array Value := #[ptr' rb, .int .i64 t.pos, .int .i64 t.next, .int .i64 t.status, .bool t.filled]
def tickG (tb rb : Nat) (t : TickS) : List Blk := [cl tb 253 (tickC rb t)]
structure ringC (sb : Nat) (r : RingS) (C : Array Value) : Prop where
  size : C.size = 6
  sl : C[0]? = some (.slice (some ⟨sb, 0, none⟩) r.slots.length r.slots.length)
  tail : cellAt C 1 (.int .i64 r.tail)
  head : C[5]? = some (.int .i64 r.head)
structure slotsD (l : List SlotS) (D : Array Value) : Prop where
  size : D.size = l.length * 9
  at_ : ∀ i s, l[i]? = some s → slotAt D i s
theorem isRing.open {rb : Nat} {r : RingS} {g : List Blk} (h : isRing rb r g) : ∃ sb C D, g = [cl rb 185 C, cl sb 189 D] ∧ ringC sb r C ∧ slotsD r.slots D := by
  obtain ⟨sb, C, D, rfl, h0, h1, h2, h3, h4, h5⟩ := h
  exact ⟨sb, C, D, rfl, ⟨h0, h1, h2, h3⟩, ⟨h4, h5⟩⟩
theorem isRing.mk' {rb sb : Nat} {r : RingS} {C D : Array Value} (h : ringC sb r C) (hd : slotsD r.slots D) : isRing rb r [cl rb 185 C, cl sb 189 D] :=
  ⟨sb, C, D, rfl, h.size, h.sl, h.tail, h.head, hd.size, hd.at_⟩
theorem ringC.tailR {sb : Nat} {r : RingS} {C C' : Array Value} (h : ringC sb r C) {x : Int} (rc : Recell C 1 (.int .i64 x) C') : ringC sb { r with tail := x } C' :=
  ⟨rc.size.trans h.size, (rc.other 0 (by omega)).trans h.sl, rc.cell, (rc.other 5 (by omega)).trans h.head⟩
theorem ringC.headR {sb : Nat} {r : RingS} {C : Array Value} (h : ringC sb r C) (x : Int) : ringC sb { r with head := x } (C.setIfInBounds 5 (.int .i64 x)) := by
  obtain ⟨hs, hsl, ⟨h0, l, t, u, h1, h2, h3⟩, hh⟩ := h
  exact ⟨by simpa using hs, (get_set_ne (by omega)).trans hsl, ⟨(get_set_ne (by omega)).trans h0, l, t, u, (get_set_ne (by omega)).trans h1, (get_set_ne (by omega)).trans h2, (get_set_ne (by omega)).trans h3⟩, get_set_eq hh⟩
theorem ringC.withSlots {sb : Nat} {r : RingS} {C : Array Value} (h : ringC sb r C) {l : List SlotS} (hl : l.length = r.slots.length) : ringC sb { r with slots := l } C :=
  ⟨h.size, by have := h.sl; simpa [hl] using this, h.tail, h.head⟩
theorem slotsD.re {l : List SlotS} {D D' : Array Value} {k : Nat} {x : Int} {s : SlotS} (h : slotsD l D) (hk : l[k]? = some s) (rc : Recell D (k * 9) (.int .i64 x) D') : slotsD (l.set k { s with seq := x }) D' := by
  refine ⟨by rw [List.length_set]; exact rc.size.trans h.size, fun i s' hs => ?_⟩
  rw [List.getElem?_set] at hs
  by_cases e : k = i
  · subst e
    rw [if_pos rfl, if_pos (List.getElem?_eq_some_iff.1 hk).1] at hs
    cases hs
    obtain ⟨_, b0, b1, b2, b3, b4⟩ := h.at_ k s hk
    exact ⟨rc.cell, (rc.other _ (by omega)).trans b0, (rc.other _ (by omega)).trans b1, (rc.other _ (by omega)).trans b2, (rc.other _ (by omega)).trans b3, (rc.other _ (by omega)).trans b4⟩
  · rw [if_neg e] at hs
    obtain ⟨a, b0, b1, b2, b3, b4⟩ := h.at_ i s' hs
    exact ⟨rc.cellOther a (by omega), (rc.other _ (by omega)).trans b0, (rc.other _ (by omega)).trans b1, (rc.other _ (by omega)).trans b2, (rc.other _ (by omega)).trans b3, (rc.other _ (by omega)).trans b4⟩
theorem slotsD.same {l : List SlotS} {D D' : Array Value} {k : Nat} {s : SlotS} (h : slotsD l D) (hk : l[k]? = some s) (rc : Recell D (k * 9) (.int .i64 s.seq) D') : slotsD l D' := by
  have := h.re hk rc
  have e : l.set k { s with seq := s.seq } = l := fam_set_same hk
  exact e ▸ this
/-- a slot's thing is stored -/
def putTask (D : Array Value) (o : Nat) (v : TaskS) : Array Value := ((((D.setIfInBounds o (.int .u64 v.id)).setIfInBounds (o + 1) (.int .i64 v.slot)).setIfInBounds (o + 2) (.int .u64 v.gen)).setIfInBounds (o + 3) (.int .u64 v.dl)).setIfInBounds (o + 4) (.int .u64 v.per)
theorem putTask_ne {D : Array Value} {o j : Nat} {v : TaskS} (h : j < o ∨ o + 5 ≤ j) : (putTask D o v)[j]? = D[j]? := by
  unfold putTask
  rw [get_set_ne (by omega), get_set_ne (by omega), get_set_ne (by omega), get_set_ne (by omega), get_set_ne (by omega)]
theorem putTask_at {D : Array Value} {o : Nat} {u v : TaskS} (h : taskAt D o u) : taskAt (putTask D o v) o v := by
  obtain ⟨b0, b1, b2, b3, b4⟩ := h
  unfold putTask
  refine ⟨?_, ?_, ?_, ?_, ?_⟩
  · rw [get_set_ne (by omega), get_set_ne (by omega), get_set_ne (by omega), get_set_ne (by omega)]; exact get_set_eq b0
  · rw [get_set_ne (by omega), get_set_ne (by omega), get_set_ne (by omega)]; exact get_set_eq (by rw [get_set_ne (by omega)]; exact b1)
  · rw [get_set_ne (by omega), get_set_ne (by omega)]; exact get_set_eq (by rw [get_set_ne (by omega), get_set_ne (by omega)]; exact b2)
  · rw [get_set_ne (by omega)]; exact get_set_eq (by rw [get_set_ne (by omega), get_set_ne (by omega), get_set_ne (by omega)]; exact b3)
  · exact get_set_eq (by rw [get_set_ne (by omega), get_set_ne (by omega), get_set_ne (by omega), get_set_ne (by omega)]; exact b4)
theorem slotsD.putV {l : List SlotS} {D : Array Value} {k : Nat} {s : SlotS} (h : slotsD l D) (hk : l[k]? = some s) (v : TaskS) : slotsD (l.set k { s with v := v }) (putTask D (k * 9 + 4) v) := by
  refine ⟨by rw [List.length_set]; unfold putTask; simpa using h.size, fun i s' hs => ?_⟩
  rw [List.getElem?_set] at hs
  by_cases e : k = i
  · subst e
    rw [if_pos rfl, if_pos (List.getElem?_eq_some_iff.1 hk).1] at hs
    cases hs
    obtain ⟨⟨a0, l, t, u, a1, a2, a3⟩, b⟩ := h.at_ k s hk
    exact ⟨⟨(putTask_ne (by omega)).trans a0, l, t, u, (putTask_ne (by omega)).trans a1, (putTask_ne (by omega)).trans a2, (putTask_ne (by omega)).trans a3⟩, putTask_at b⟩
  · rw [if_neg e] at hs
    obtain ⟨⟨a0, l, t, u, a1, a2, a3⟩, b0, b1, b2, b3, b4⟩ := h.at_ i s' hs
    exact ⟨⟨(putTask_ne (by omega)).trans a0, l, t, u, (putTask_ne (by omega)).trans a1, (putTask_ne (by omega)).trans a2, (putTask_ne (by omega)).trans a3⟩, (putTask_ne (by omega)).trans b0, (putTask_ne (by omega)).trans b1, (putTask_ne (by omega)).trans b2, (putTask_ne (by omega)).trans b3, (putTask_ne (by omega)).trans b4⟩
theorem ring_at {r : RingS} (h : 1 ≤ r.slots.length) (pos : Int) : r.slots[r.at pos]? = some (r.slot pos) ∧ r.at pos < r.slots.length ∧ ((r.at pos : Nat) : Int) = pos % (r.slots.length : Int) := by
  have x0 : 0 ≤ pos % (r.slots.length : Int) := Int.emod_nonneg _ (by omega)
  have x1 : pos % (r.slots.length : Int) < r.slots.length := Int.emod_lt_of_pos _ (by omega)
  have hl : r.at pos < r.slots.length := by unfold RingS.at; omega
  refine ⟨?_, hl, by unfold RingS.at; omega⟩
  unfold RingS.slot
  rw [List.getD_eq_getElem?_getD, List.getElem?_eq_getElem hl]; rfl

section
variable {rb sb tb : Nat} {r : RingS} {t : TickS} {C D : Array Value} {g : List Blk}
theorem ringAt_r (hc : ringC sb r C) (hr : RingB r) (pos : Int) (h0 : 0 ≤ pos) (h1 : pos ≤ 1099511627776) : ReadsG Tryz.prog 115 #[ptr' rb, .int .i64 pos] [[cl rb 185 C]] (.pointer (some ⟨sb, r.at pos * 9, none⟩)) := by
  obtain ⟨ha, hal, hav⟩ := ring_at hr.n0 pos
  obtain ⟨k, hk⟩ : ∃ k, r.at pos = k := ⟨_, rfl⟩
  have HK := Lib.hid hk
  rw [hk] at hav hal
  intro w hw
  have T0 := TG.refl hw
  have HT := Lib.hid T0
  clear hw T0
  have c0 := (HT.out.cell 0 0 rfl 0).trans hc.sl
  have hn0 := hr.n0
  generalize r.slots.length = n at *
  have hz : ((n : Int) == 0) = false := beq_eq_false_iff_ne.2 (by omega)
  have hm0 : 0 ≤ pos % (n : Int) := by omega
  have hm1 : pos % (n : Int) < n := by omega
  have hm2 : (pos % (n : Int)).toNat = k := by omega
  clear hc hr hk ha
  go_enter Tryz.func115, Tryz.ntmps115
  go_wp2
  go_quiet ((fail))
  have HT := Lib.hid (HT.out.drewN nq)
  go_wp2
  go_ret
  exact ⟨by rw [HK.out]; rfl, _, rfl⟩
theorem tickLook_g (hg : isRing rb r g) : DoesG Tryz.prog 189 #[ptr' tb] [tickG tb rb t, g] fun e gs => e = .returned (.tuple #[]) ∧ ∃ g', isRing rb r g' ∧ gs = [tickG tb rb (lookT r t), g'] := by
  obtain ⟨sb, C, D, rfl, hC, hD⟩ := hg.open
  intro w hw
  have T0 := TG.refl hw
  have HT := Lib.hid T0
  clear hw T0
  have HC := Lib.hid hC
  have HD := Lib.hid hD
  clear hC hD hg
  simp only [tickG] at HT ⊢
  have HT := Lib.hid (HT.out.eq (H' := [[cl tb 253 (tickC rb t)], [cl rb 185 C], [cl sb 189 D]]) rfl)
  have t0 := HT.out.cell 0 0 rfl 0
  simp only [tickC, List.getElem?_toArray, List.getElem?_cons_zero] at t0
  go_enter Tryz.func189, Tryz.ntmps189
  go_wp2_with fail
  refine (DoesG.use (cellG (loadI_does rb 1 _ C r.tail HC.out.tail)) (HT.out) [1] rfl rfl).mono ?_
  rintro e w1 ⟨gs, ⟨rfl, C1, hr, rfl⟩, Ta⟩
  simp only [putG, List.set_cons_zero, List.set_cons_succ, List.cons_append, List.nil_append, List.append_nil] at Ta
  have t1 := Ta.cell 0 0 rfl 1
  have t2 := Ta.cell 0 0 rfl 2
  have f1 := Ta.free 0 0 rfl 1
  have f2 := Ta.free 0 0 rfl 2
  have HC1 := Lib.hid (HC.out.tailR hr)
  clear hr
  simp only [tickC, List.getElem?_toArray, List.getElem?_cons_zero, List.getElem?_cons_succ] at t1 t2
  have HT := Lib.hid Ta
  clear Ta
  go_wp2
  refine bodyPost_end (results_none rfl _ _ _) rfl ⟨_, ⟨rfl, _, isRing.mk' HC1.out HD.out, rfl⟩, (((HT.out.set 0 0 rfl 1 _).set 0 0 rfl 2 _).eq rfl)⟩
theorem tickWeigh_g (hg : isRing rb r g) (hr : RingB r) (ht : TickB t) : DoesG Tryz.prog 190 #[ptr' tb] [tickG tb rb t, g] fun e gs => e = .returned (.tuple #[]) ∧ ∃ g', isRing rb r g' ∧ gs = [tickG tb rb (weighT r t), g'] := by
  obtain ⟨sb, C, D, rfl, hC, hD⟩ := hg.open
  obtain ⟨ha, hal, hav⟩ := ring_at hr.n0 t.pos
  intro w hw
  have T0 := TG.refl hw
  have HT := Lib.hid T0
  clear hw T0
  have HC := Lib.hid hC
  have HD := Lib.hid hD
  have HA := Lib.hid (ringAt_r (rb := rb) hC hr t.pos ht.p0 ht.p1)
  simp only [tickG] at HT ⊢
  have HT := Lib.hid (HT.out.eq (H' := [[cl tb 253 (tickC rb t)], [cl rb 185 C], [cl sb 189 D]]) rfl)
  have HS := Lib.hid (hD.at_ _ _ ha).1
  have HW := Lib.hid (show weighT r t = if 2 * t.pos < (r.slot t.pos).seq then { t with next := 0 } else if (r.slot t.pos).seq < 2 * t.pos then { t with status := 1 } else { t with next := 2 } from rfl)
  have HK := Lib.hid ha
  generalize r.slot t.pos = s at *
  generalize r.at t.pos = k at *
  have p0 := ht.p0
  have p1 := ht.p1
  obtain ⟨pos, nx, st, fi⟩ := t
  simp only at HA HW p0 p1
  have t0 := HT.out.cell 0 0 rfl 0
  have t1 := HT.out.cell 0 0 rfl 1
  simp only [tickC, List.getElem?_toArray, List.getElem?_cons_zero, List.getElem?_cons_succ] at t0 t1
  clear hC hD hg ha hav ht hr
  by_cases h1 : 2 * pos < s.seq
  · have HW2 := Lib.hid (HW.out.trans (if_pos h1))
    go_enter Tryz.func190, Tryz.ntmps190
    go_upto_region 0 with fail
    refine wp_region_mix1 11 (by kernel_rfl) (by kernel_rfl) ?_
    simp only [List.take_succ_cons, List.take_zero, List.drop_succ_cons, List.drop_zero]
    repeat (go_big_quiet_step ((first | (go_at_call 115; with_reducible exact ReadsG.quiet (HA.out) HT.out _ [1] rfl rfl))))
    refine wpQuiet_nil ?_
    intro _ hw'
    obtain ⟨nq, hw''⟩ := hw'
    subst hw''
    have HT := Lib.hid (HT.out.drewN nq)
    go_wp2_with fail
    refine (DoesG.use (cellG (loadI_does sb (k * 9) _ D s.seq HS.out)) (HT.out) [2] rfl rfl).mono ?_
    rintro e w1 ⟨gs, ⟨rfl, D1, hr, rfl⟩, Ta⟩
    simp only [putG, List.set_cons_zero, List.set_cons_succ, List.cons_append, List.nil_append, List.append_nil] at Ta
    have t1 := Ta.cell 0 0 rfl 1
    have t2 := Ta.cell 0 0 rfl 2
    have f2 := Ta.free 0 0 rfl 2
    have HD1 := Lib.hid (HD.out.same HK.out hr)
    simp only [tickC, List.getElem?_toArray, List.getElem?_cons_zero, List.getElem?_cons_succ] at t1 t2
    have HT := Lib.hid Ta
    clear Ta hr
    go_wp2_with fail
    refine ⟨rfl, ?_⟩
    go_wp2
    refine bodyPost_end (results_none rfl _ _ _) rfl ⟨_, ⟨rfl, _, isRing.mk' HC.out HD1.out, rfl⟩, ((HT.out.set 0 0 rfl 2 _).eq (by rw [HW2.out]; rfl))⟩
  · by_cases h2 : s.seq < 2 * pos
    · have HW2 := Lib.hid ((HW.out.trans (if_neg h1)).trans (if_pos h2))
      go_enter Tryz.func190, Tryz.ntmps190
      go_upto_region 0 with fail
      refine wp_region_mix1 11 (by kernel_rfl) (by kernel_rfl) ?_
      simp only [List.take_succ_cons, List.take_zero, List.drop_succ_cons, List.drop_zero]
      repeat (go_big_quiet_step ((first | (go_at_call 115; with_reducible exact ReadsG.quiet (HA.out) HT.out _ [1] rfl rfl))))
      refine wpQuiet_nil ?_
      intro _ hw'
      obtain ⟨nq, hw''⟩ := hw'
      subst hw''
      have HT := Lib.hid (HT.out.drewN nq)
      go_wp2_with fail
      refine (DoesG.use (cellG (loadI_does sb (k * 9) _ D s.seq HS.out)) (HT.out) [2] rfl rfl).mono ?_
      rintro e w1 ⟨gs, ⟨rfl, D1, hr, rfl⟩, Ta⟩
      simp only [putG, List.set_cons_zero, List.set_cons_succ, List.cons_append, List.nil_append, List.append_nil] at Ta
      have t1 := Ta.cell 0 0 rfl 1
      have t2 := Ta.cell 0 0 rfl 3
      have f2 := Ta.free 0 0 rfl 3
      have HD1 := Lib.hid (HD.out.same HK.out hr)
      simp only [tickC, List.getElem?_toArray, List.getElem?_cons_zero, List.getElem?_cons_succ] at t1 t2
      have HT := Lib.hid Ta
      clear Ta hr
      go_wp2_with fail
      refine ⟨rfl, ?_⟩
      go_wp2
      refine bodyPost_end (results_none rfl _ _ _) rfl ⟨_, ⟨rfl, _, isRing.mk' HC.out HD1.out, rfl⟩, ((HT.out.set 0 0 rfl 3 _).eq (by rw [HW2.out]; rfl))⟩
    · have HW2 := Lib.hid ((HW.out.trans (if_neg h1)).trans (if_neg h2))
      go_enter Tryz.func190, Tryz.ntmps190
      go_upto_region 0 with fail
      refine wp_region_mix1 11 (by kernel_rfl) (by kernel_rfl) ?_
      simp only [List.take_succ_cons, List.take_zero, List.drop_succ_cons, List.drop_zero]
      repeat (go_big_quiet_step ((first | (go_at_call 115; with_reducible exact ReadsG.quiet (HA.out) HT.out _ [1] rfl rfl))))
      refine wpQuiet_nil ?_
      intro _ hw'
      obtain ⟨nq, hw''⟩ := hw'
      subst hw''
      have HT := Lib.hid (HT.out.drewN nq)
      go_wp2_with fail
      refine (DoesG.use (cellG (loadI_does sb (k * 9) _ D s.seq HS.out)) (HT.out) [2] rfl rfl).mono ?_
      rintro e w1 ⟨gs, ⟨rfl, D1, hr, rfl⟩, Ta⟩
      simp only [putG, List.set_cons_zero, List.set_cons_succ, List.cons_append, List.nil_append, List.append_nil] at Ta
      have t1 := Ta.cell 0 0 rfl 1
      have t2 := Ta.cell 0 0 rfl 2
      have f2 := Ta.free 0 0 rfl 2
      have HD1 := Lib.hid (HD.out.same HK.out hr)
      simp only [tickC, List.getElem?_toArray, List.getElem?_cons_zero, List.getElem?_cons_succ] at t1 t2
      have HT := Lib.hid Ta
      clear Ta hr
      go_wp2_with fail
      refine ⟨rfl, ?_⟩
      go_wp2
      refine bodyPost_end (results_none rfl _ _ _) rfl ⟨_, ⟨rfl, _, isRing.mk' HC.out HD1.out, rfl⟩, ((HT.out.set 0 0 rfl 2 _).eq (by rw [HW2.out]; rfl))⟩
theorem tickTake_g (hg : isRing rb r g) (ht : TickB t) : DoesG Tryz.prog 191 #[ptr' tb] [tickG tb rb t, g] fun e gs => e = .returned (.tuple #[]) ∧ ∃ g', isRing rb (takeT r t).1 g' ∧ gs = [tickG tb rb (takeT r t).2, g'] := by
  obtain ⟨sb, C, D, rfl, hC, hD⟩ := hg.open
  intro w hw
  have T0 := TG.refl hw
  have HT := Lib.hid T0
  clear hw T0
  have HC := Lib.hid hC
  have HD := Lib.hid hD
  simp only [tickG] at HT ⊢
  have HT := Lib.hid (HT.out.eq (H' := [[cl tb 253 (tickC rb t)], [cl rb 185 C], [cl sb 189 D]]) rfl)
  have p0 := ht.p0
  have p1 := ht.p1
  obtain ⟨pos, nx, st, fi⟩ := t
  simp only at p0 p1
  have t0 := HT.out.cell 0 0 rfl 0
  have t1 := HT.out.cell 0 0 rfl 1
  have t2 := HT.out.cell 0 0 rfl 2
  have f2 := HT.out.free 0 0 rfl 2
  simp only [tickC, List.getElem?_toArray, List.getElem?_cons_zero, List.getElem?_cons_succ] at t0 t1 t2
  clear hC hD hg ht
  by_cases h1 : r.tail = pos
  · have HW := Lib.hid (show takeT r ⟨pos, nx, st, fi⟩ = ({ r with tail := pos + 1 }, ⟨pos, 0, 2, fi⟩) from if_pos h1)
    have HSW := Lib.hid (swapI_does rb 1 185 C r.tail pos (pos + 1) HC.out.tail)
    have HB := Lib.hid (show (Value.bool (decide (r.tail = pos))) = .bool true ∧ (if r.tail = pos then pos + 1 else r.tail) = pos + 1 from ⟨by rw [decide_eq_true h1], if_pos h1⟩)
    rw [HB.out.1, HB.out.2] at HSW
    clear h1
    go_enter Tryz.func191, Tryz.ntmps191
    go_wp2_with fail
    have HT := Lib.hid (HT.out.set 0 0 rfl 2 (.int .i64 0))
    refine wp_region_mix1 15 (by kernel_rfl) (by kernel_rfl) ?_
    simp only [List.take_succ_cons, List.take_zero, List.drop_succ_cons, List.drop_zero]
    repeat (go_big_quiet_step ((fail)))
    refine wpQuiet_nil ?_
    intro _ hw'
    obtain ⟨nq, hw''⟩ := hw'
    subst hw''
    have HT := Lib.hid (HT.out.drewN nq)
    go_wp2_with fail
    refine (DoesG.use (cellG HSW.out) (HT.out) [1] rfl rfl).mono ?_
    rintro e w1 ⟨gs, ⟨rfl, C1, hr, rfl⟩, Ta⟩
    simp only [putG, List.set_cons_zero, List.set_cons_succ, List.cons_append, List.nil_append, List.append_nil] at Ta
    have HC1 := Lib.hid (HC.out.tailR hr)
    have t3 := Ta.cell 0 0 rfl 3
    have f3 := Ta.free 0 0 rfl 3
    have HT := Lib.hid Ta
    clear Ta hr
    go_wp2_with fail
    refine ⟨rfl, ?_⟩
    go_wp2
    refine bodyPost_end (results_none rfl _ _ _) rfl ⟨_, ⟨rfl, _, by rw [HW.out]; exact isRing.mk' HC1.out HD.out, rfl⟩, ((HT.out.set 0 0 rfl 3 _).eq (by rw [HW.out]; rfl))⟩
  · have HW := Lib.hid (show takeT r ⟨pos, nx, st, fi⟩ = (r, ⟨pos, 0, st, fi⟩) from if_neg h1)
    have HSW := Lib.hid (swapI_does rb 1 185 C r.tail pos (pos + 1) HC.out.tail)
    have HB := Lib.hid (show (Value.bool (decide (r.tail = pos))) = .bool false ∧ (if r.tail = pos then pos + 1 else r.tail) = r.tail from ⟨by rw [decide_eq_false h1], if_neg h1⟩)
    rw [HB.out.1, HB.out.2] at HSW
    clear h1
    go_enter Tryz.func191, Tryz.ntmps191
    go_wp2_with fail
    have HT := Lib.hid (HT.out.set 0 0 rfl 2 (.int .i64 0))
    refine wp_region_mix1 15 (by kernel_rfl) (by kernel_rfl) ?_
    simp only [List.take_succ_cons, List.take_zero, List.drop_succ_cons, List.drop_zero]
    repeat (go_big_quiet_step ((fail)))
    refine wpQuiet_nil ?_
    intro _ hw'
    obtain ⟨nq, hw''⟩ := hw'
    subst hw''
    have HT := Lib.hid (HT.out.drewN nq)
    go_wp2_with fail
    refine (DoesG.use (cellG HSW.out) (HT.out) [1] rfl rfl).mono ?_
    rintro e w1 ⟨gs, ⟨rfl, C1, hr, rfl⟩, Ta⟩
    simp only [putG, List.set_cons_zero, List.set_cons_succ, List.cons_append, List.nil_append, List.append_nil] at Ta
    have HC1 := Lib.hid (HC.out.tailR hr)
    have HT := Lib.hid Ta
    clear Ta hr
    go_wp2_with fail
    refine ⟨rfl, ?_⟩
    go_wp2
    refine bodyPost_end (results_none rfl _ _ _) rfl ⟨_, ⟨rfl, _, by rw [HW.out]; exact isRing.mk' HC1.out HD.out, rfl⟩, (HT.out.eq (by rw [HW.out]; rfl))⟩
end
end Go.Proofs.YthbjaoinklhikaaGreat

namespace Go.Proofs.YthbjaoinklhikaaGreat
set_option linter.unusedVariables false
set_option linter.unusedSimpArgs false
open Go.RowKit Go.Shelf

/-! ## A lock's methods -/
theorem lockTry1_g (bb : Nat) (now who : Int) (ok : Bool) (hk : (now == 0) = ok) (h : 0 ≤ who ∧ who ≤ 1000000000) :
    DoesG Tryz.prog 224 #[.int .i64 now, ptr' bb] [[cl bb 3 #[.int .i64 who]]] fun e gs => e = .returned (.tuple #[.int .i64 (who + 1), .bool ok]) ∧ gs = [[cl bb 3 #[.int .i64 who]]] := by
  subst hk
  intro w hw
  have T0 := TG.refl hw
  have HT := Lib.hid T0
  clear hw T0
  have c0 := HT.out.cell 0 0 rfl 0
  simp only [List.getElem?_toArray, List.getElem?_cons_zero] at c0
  obtain ⟨h1, h2⟩ := h
  go_enter Tryz.func224, Tryz.ntmps224
  go_wp2
  go_ret2
  exact ⟨_, ⟨by simp, rfl⟩, HT.out⟩
theorem isLock.re {who n y : Int} {C C' : Array Value} (h : C.size = 5 ∧ cellAt C 0 (.int .i64 who) ∧ C[4]? = some (.int .i64 n)) (r : Recell C 0 (.int .i64 y) C') : C'.size = 5 ∧ cellAt C' 0 (.int .i64 y) ∧ C'[4]? = some (.int .i64 n) :=
  ⟨r.size.trans h.1, r.cell, (r.other 4 (by omega)).trans h.2.2⟩
theorem lock_turns {who n m : Int} {C : Array Value} (h : C.size = 5 ∧ cellAt C 0 (.int .i64 who) ∧ C[4]? = some (.int .i64 n)) : (C.setIfInBounds 4 (.int .i64 m)).size = 5 ∧ cellAt (C.setIfInBounds 4 (.int .i64 m)) 0 (.int .i64 who) ∧ (C.setIfInBounds 4 (.int .i64 m))[4]? = some (.int .i64 m) := by
  obtain ⟨hs, ⟨h0, l, t, u, h1, h2, h3⟩, h4⟩ := h
  exact ⟨by simpa using hs, ⟨(get_set_ne (by omega)).trans h0, l, t, u, (get_set_ne (by omega)).trans h1, (get_set_ne (by omega)).trans h2, (get_set_ne (by omega)).trans h3⟩, get_set_eq h4⟩
def tryW (x who : Int) : Int := if x = 0 then who + 1 else x
def tryN (x n : Int) : Int := if x = 0 then n + 1 else n
set_option maxRecDepth 100000 in
theorem lockTry_g {lb : Nat} {x n : Int} {g : List Blk} (who : Int) (hg : isLock lb x n g) (h : 0 ≤ who ∧ who ≤ 1000000000) (hn : 0 ≤ n ∧ n ≤ 1000000000) :
    DoesG Tryz.prog 213 #[ptr' lb, .int .i64 who] [g] fun e gs => e = .returned (.bool (x == 0)) ∧ ∃ g', isLock lb (tryW x who) (tryN x n) g' ∧ gs = [g'] := by
  obtain ⟨C, rfl, hC⟩ := hg
  intro w hw
  have T0 := TG.refl hw
  have HT := Lib.hid T0
  clear hw T0
  have HC := Lib.hid hC
  have hw0 := h.1
  by_cases hx : x = 0
  · subst hx
    have HB := Lib.hid (lockTry1_g w.heap.size 0 who true rfl h)
    obtain ⟨hn0, hn1⟩ := hn
    clear hC h
    go_enter Tryz.func213, Tryz.ntmps213
    go_wp2_with fail
    refine (DoesG.use (turnI_g (caps := #[ptr' w.heap.size]) (g := 224) (bb := w.heap.size) (D := #[.int .i64 who]) HC.out.2.1 (enters_of Tryz.func224 (by kernel_rfl) rfl) HB.out) ((HT.out.alloc rfl _ _)) [0, 1] rfl rfl).mono ?_
    rintro e w1 ⟨gs, ⟨rfl, C1, hr, rfl⟩, Ta⟩
    simp only [putG, List.set_cons_zero, List.set_cons_succ, List.cons_append, List.nil_append, List.append_nil] at Ta
    have HC1 := Lib.hid (isLock.re HC.out hr)
    have c4 := (Ta.cell 0 0 rfl 4).trans HC1.out.2.2
    have fc4 := Ta.free 0 0 rfl 4
    clear hr
    have HT := Lib.hid Ta
    clear Ta
    go_wp2
    go_ret
    exact ⟨_, ⟨rfl, _, ⟨_, rfl, lock_turns HC1.out⟩, rfl⟩, (HT.out.set 0 0 rfl 4 _).pick [0] rfl⟩
  · have hb : (x == 0) = false := beq_eq_false_iff_ne.2 hx
    have HB := Lib.hid (lockTry1_g w.heap.size x who false hb h)
    have HX := Lib.hid (show tryW x who = x ∧ tryN x n = n from ⟨if_neg hx, if_neg hx⟩)
    have HBB := Lib.hid hb
    clear hC hx hb h hn
    go_enter Tryz.func213, Tryz.ntmps213
    go_wp2_with fail
    refine (DoesG.use (turnI_g (caps := #[ptr' w.heap.size]) (g := 224) (bb := w.heap.size) (D := #[.int .i64 who]) HC.out.2.1 (enters_of Tryz.func224 (by kernel_rfl) rfl) HB.out) ((HT.out.alloc rfl _ _)) [0, 1] rfl rfl).mono ?_
    rintro e w1 ⟨gs, ⟨rfl, C1, hr, rfl⟩, Ta⟩
    simp only [putG, List.set_cons_zero, List.set_cons_succ, List.cons_append, List.nil_append, List.append_nil] at Ta
    have HC1 := Lib.hid (isLock.re HC.out hr)
    clear hr
    have HT := Lib.hid Ta
    clear Ta
    go_wp2
    go_ret
    exact ⟨_, ⟨by rw [HBB.out]; rfl, _, ⟨_, rfl, by rw [HX.out.1, HX.out.2]; exact HC1.out⟩, rfl⟩, HT.out.pick [0] rfl⟩
theorem lockTry_neg {lb : Nat} {x n : Int} {g : List Blk} (who : Int) (hg : isLock lb x n g) (h : who < 0) :
    DoesG Tryz.prog 213 #[ptr' lb, .int .i64 who] [g] fun e gs => e = .returned (.bool false) ∧ gs = [g] := by
  obtain ⟨C, rfl, hC⟩ := hg
  intro w hw
  have T0 := TG.refl hw
  have HT := Lib.hid T0
  clear hw T0
  clear hC
  go_enter Tryz.func213, Tryz.ntmps213
  go_wp2
  go_ret
  exact ⟨_, ⟨rfl, rfl⟩, (HT.out.alloc rfl _ _).pick [0] rfl⟩
theorem lockOwner_no {lb : Nat} {n : Int} {g : List Blk} (hg : isLock lb 0 n g) :
    DoesG Tryz.prog 59 #[ptr' lb] [g] fun e gs => e = .returned (.tuple #[.int .i64 0, .bool false]) ∧ ∃ g', isLock lb 0 n g' ∧ gs = [g'] := by
  obtain ⟨C, rfl, hC⟩ := hg
  intro w hw
  have T0 := TG.refl hw
  have HT := Lib.hid T0
  clear hw T0
  have HC := Lib.hid hC
  clear hC
  go_enter Tryz.func59, Tryz.ntmps59
  go_wp2_with fail
  refine (DoesG.use (cellG (loadI_does lb 0 _ C 0 HC.out.2.1)) (HT.out) [0] rfl rfl).mono ?_
  rintro e w1 ⟨gs, ⟨rfl, C1, hr, rfl⟩, Ta⟩
  simp only [putG, List.set_cons_zero, List.set_cons_succ, List.cons_append, List.nil_append, List.append_nil] at Ta
  have HC1 := Lib.hid (isLock.re HC.out hr)
  clear hr
  have HT := Lib.hid Ta
  clear Ta
  go_wp2
  go_ret2
  exact ⟨_, ⟨rfl, _, ⟨_, rfl, HC1.out⟩, rfl⟩, HT.out⟩
theorem lockOwner_yes {lb : Nat} {who n : Int} {g : List Blk} (hg : isLock lb (who + 1) n g) (h : 0 ≤ who ∧ who ≤ 1000000000) :
    DoesG Tryz.prog 59 #[ptr' lb] [g] fun e gs => e = .returned (.tuple #[.int .i64 who, .bool true]) ∧ ∃ g', isLock lb (who + 1) n g' ∧ gs = [g'] := by
  obtain ⟨C, rfl, hC⟩ := hg
  intro w hw
  have T0 := TG.refl hw
  have HT := Lib.hid T0
  clear hw T0
  have HC := Lib.hid hC
  obtain ⟨h0, h1⟩ := h
  have hb : ((who + 1 : Int) == 0) = false := beq_eq_false_iff_ne.2 (by omega)
  clear hC
  go_enter Tryz.func59, Tryz.ntmps59
  go_wp2_with fail
  refine (DoesG.use (cellG (loadI_does lb 0 _ C (who + 1) HC.out.2.1)) (HT.out) [0] rfl rfl).mono ?_
  rintro e w1 ⟨gs, ⟨rfl, C1, hr, rfl⟩, Ta⟩
  simp only [putG, List.set_cons_zero, List.set_cons_succ, List.cons_append, List.nil_append, List.append_nil] at Ta
  have HC1 := Lib.hid (isLock.re HC.out hr)
  clear hr
  have HT := Lib.hid Ta
  clear Ta
  go_wp2_with fail
  refine (DoesG.use (cellG (loadI_does lb 0 _ C1 (who + 1) HC1.out.2.1)) (HT.out) [0] rfl rfl).mono ?_
  rintro e w1 ⟨gs, ⟨rfl, C2, hr, rfl⟩, Ta⟩
  simp only [putG, List.set_cons_zero, List.set_cons_succ, List.cons_append, List.nil_append, List.append_nil] at Ta
  have HC2 := Lib.hid (isLock.re HC1.out hr)
  clear hr
  have HT := Lib.hid Ta
  clear Ta
  go_wp2
  go_ret2
  exact ⟨_, ⟨by simp, _, ⟨_, rfl, HC2.out⟩, rfl⟩, HT.out⟩
theorem lockMay_g {lb : Nat} {x n : Int} {g : List Blk} (who : Int) (hg : isLock lb x n g) :
    DoesG Tryz.prog 211 #[ptr' lb, .int .i64 who] [g] fun e gs => e = .returned (.bool (decide (0 ≤ who) && x == 0)) ∧ ∃ g', isLock lb x n g' ∧ gs = [g'] := by
  obtain ⟨C, rfl, hC⟩ := hg
  intro w hw
  have T0 := TG.refl hw
  have HT := Lib.hid T0
  clear hw T0
  have HC := Lib.hid hC
  clear hC
  by_cases hw : 0 ≤ who
  · have HW := Lib.hid (show decide (0 ≤ who) = true from by simpa using hw)
    go_enter Tryz.func211, Tryz.ntmps211
    go_wp2_with fail
    refine (DoesG.use (cellG (loadI_does lb 0 _ C x HC.out.2.1)) (HT.out) [0] rfl rfl).mono ?_
    rintro e w1 ⟨gs, ⟨rfl, C1, hr, rfl⟩, Ta⟩
    simp only [putG, List.set_cons_zero, List.set_cons_succ, List.cons_append, List.nil_append, List.append_nil] at Ta
    have HC1 := Lib.hid (isLock.re HC.out hr)
    clear hr
    have HT := Lib.hid Ta
    clear Ta
    go_wp2
    go_ret
    exact ⟨_, ⟨by rw [HW.out, Bool.true_and]; rfl, _, ⟨_, rfl, HC1.out⟩, rfl⟩, HT.out⟩
  · have HW := Lib.hid (show decide (0 ≤ who) = false from by simpa using hw)
    go_enter Tryz.func211, Tryz.ntmps211
    go_wp2
    go_ret
    exact ⟨_, ⟨by rw [HW.out, Bool.false_and]; rfl, _, ⟨_, rfl, HC.out⟩, rfl⟩, HT.out⟩
theorem lockTurns_g {lb : Nat} {x n : Int} {g : List Blk} (hg : isLock lb x n g) : DoesG Tryz.prog 54 #[ptr' lb] [g] fun e gs => e = .returned (.int .i64 n) ∧ gs = [g] := by
  obtain ⟨C, rfl, hC⟩ := hg
  intro w hw
  have T0 := TG.refl hw
  have HT := Lib.hid T0
  clear hw T0
  have c4 := (HT.out.cell 0 0 rfl 4).trans hC.2.2
  clear hC
  go_enter Tryz.func54, Tryz.ntmps54
  go_wp2
  go_ret
  exact ⟨_, ⟨rfl, rfl⟩, HT.out⟩
theorem lockLeave1_g (bb : Nat) (now who : Int) (ok : Bool) (hk : (now == who + 1) = ok) (h : 0 ≤ who ∧ who ≤ 1000000000) :
    DoesG Tryz.prog 234 #[.int .i64 now, ptr' bb] [[cl bb 3 #[.int .i64 who]]] fun e gs => e = .returned (.tuple #[.int .i64 0, .bool ok]) ∧ gs = [[cl bb 3 #[.int .i64 who]]] := by
  subst hk
  intro w hw
  have T0 := TG.refl hw
  have HT := Lib.hid T0
  clear hw T0
  have c0 := HT.out.cell 0 0 rfl 0
  simp only [List.getElem?_toArray, List.getElem?_cons_zero] at c0
  obtain ⟨h1, h2⟩ := h
  go_enter Tryz.func234, Tryz.ntmps234
  go_wp2
  try go_quiet (fail)
  try go_wp2
  go_ret2
  first | exact ⟨_, ⟨by simp, rfl⟩, HT.out.drewN _⟩ | exact ⟨_, ⟨by simp, rfl⟩, HT.out⟩
/-- its owner leaves it -/
theorem lockLeave_g {lb : Nat} {n : Int} {g : List Blk} (who : Int) (hg : isLock lb (who + 1) n g) (h : 0 ≤ who ∧ who ≤ 1000000000) :
    DoesG Tryz.prog 223 #[ptr' lb, .int .i64 who] [g] fun e gs => e = .returned (.int .i64 0) ∧ ∃ g', isLock lb 0 n g' ∧ gs = [g'] := by
  obtain ⟨C, rfl, hC⟩ := hg
  intro w hw
  have T0 := TG.refl hw
  have HT := Lib.hid T0
  clear hw T0
  have HC := Lib.hid hC
  have hw0 := h.1
  have HB := Lib.hid (lockLeave1_g w.heap.size (who + 1) who true (by simp) h)
  clear hC h
  go_enter Tryz.func223, Tryz.ntmps223
  go_wp2_with fail
  refine (DoesG.use (turnI_g (caps := #[ptr' w.heap.size]) (g := 234) (bb := w.heap.size) (D := #[.int .i64 who]) HC.out.2.1 (enters_of Tryz.func234 (by kernel_rfl) rfl) HB.out) ((HT.out.alloc rfl _ _)) [0, 1] rfl rfl).mono ?_
  rintro e w1 ⟨gs, ⟨rfl, C1, hr, rfl⟩, Ta⟩
  simp only [putG, List.set_cons_zero, List.set_cons_succ, List.cons_append, List.nil_append, List.append_nil] at Ta
  have HC1 := Lib.hid (isLock.re HC.out hr)
  clear hr
  have HT := Lib.hid Ta
  clear Ta
  go_wp2
  go_ret
  exact ⟨_, ⟨rfl, _, ⟨_, rfl, HC1.out⟩, rfl⟩, HT.out.pick [0] rfl⟩

/-! ## What a shard has -/
def shardB (b rb lb wb : Nat) : List Blk := [cl b 180 #[ptr' rb, ptr' lb, ptr' wb]]
set_option maxRecDepth 100000 in
theorem shardParts_g (b rb lb wb : Nat) : DoesG Tryz.prog 79 #[ptr' b] [shardB b rb lb wb] fun e gs => e = .returned (.agg #[ptr' rb, ptr' lb, ptr' wb]) ∧ gs = [shardB b rb lb wb] := by
  intro w hw
  have T0 := TG.refl hw
  have HT := Lib.hid T0
  clear hw T0
  simp only [shardB] at HT ⊢
  have c0 := HT.out.cell 0 0 rfl 0
  have c1 := HT.out.cell 0 0 rfl 1
  have c2 := HT.out.cell 0 0 rfl 2
  have hlt := HT.out.lt 0 0 rfl
  simp only [List.getElem?_toArray, List.getElem?_cons_zero, List.getElem?_cons_succ] at c0 c1 c2 hlt
  go_enter Tryz.func79, Tryz.ntmps79
  go_wp2
  exact bodyPost_ret (v := .agg #[ptr' rb, ptr' lb, ptr' wb]) (by simp [results, Tryz.results79, go_sem]) rfl ⟨_, ⟨rfl, rfl⟩, HT.out.alloc0 _⟩
theorem inner_field (a b c : Value) (w : World) : (Instr.field 142 (.agg #[a, b, c]) 0).run Tryz.prog w = .ok a w ∧ (Instr.field 142 (.agg #[a, b, c]) 1).run Tryz.prog w = .ok b w ∧ (Instr.field 142 (.agg #[a, b, c]) 2).run Tryz.prog w = .ok c w := ⟨by kernel_rfl, by kernel_rfl, by kernel_rfl⟩
set_option maxRecDepth 100000 in
theorem shardLock_g (b rb lb wb : Nat) : DoesG Tryz.prog 53 #[ptr' b] [shardB b rb lb wb] fun e gs => e = .returned (ptr' lb) ∧ gs = [shardB b rb lb wb] := by
  intro w hw
  have T0 := TG.refl hw
  have HT := Lib.hid T0
  clear hw T0
  go_enter Tryz.func53, Tryz.ntmps53
  go_wp2_with fail
  refine (DoesG.use (shardParts_g b rb lb wb) (HT.out) [0] rfl rfl).mono ?_
  rintro e w1 ⟨gs, ⟨rfl, rfl⟩, Ta⟩
  simp only [putG, List.set_cons_zero, List.set_cons_succ, List.cons_append, List.nil_append, List.append_nil] at Ta
  have HT := Lib.hid Ta
  clear Ta
  have hf := fun w => (inner_field (ptr' rb) (ptr' lb) (ptr' wb) w).2.1
  go_wp2
  go_ret
  exact ⟨_, ⟨rfl, rfl⟩, HT.out⟩
end Go.Proofs.YthbjaoinklhikaaGreat

namespace Go.Proofs.YthbjaoinklhikaaGreat
set_option linter.unusedVariables false
set_option linter.unusedSimpArgs false
open Go.RowKit Go.Shelf

section
variable {rb sb tb : Nat} {r : RingS} {t : TickS} {C D : Array Value} {g : List Blk}
theorem ringBegin_g (rb : Nat) : DoesG Tryz.prog 159 #[ptr' rb] [] fun e gs => ∃ tb, e = .returned (ptr' tb) ∧ gs = [tickG tb rb newTick] := by
  intro w hw
  have T0 := TG.refl hw
  have HT := Lib.hid T0
  clear hw T0
  go_enter Tryz.func159, Tryz.ntmps159
  go_wp2
  go_ret
  exact ⟨_, ⟨_, rfl, rfl⟩, HT.out.alloc rfl _ _⟩
set_option maxRecDepth 100000 in
theorem tickStep_g (hg : isRing rb r g) (hr : RingB r) (ht : TickB t) : DoesG Tryz.prog 160 #[ptr' tb] [tickG tb rb t, g] fun e gs =>
    e = .returned (.int .i64 (stepT r t).2.status) ∧ ∃ g', isRing rb (stepT r t).1 g' ∧ gs = [tickG tb rb (stepT r t).2, g'] := by
  intro w hw
  have T0 := TG.refl hw
  have HT := Lib.hid T0
  clear hw T0
  have HL := Lib.hid (tickLook_g (tb := tb) (t := t) hg)
  have HWE := Lib.hid (tickWeigh_g (tb := tb) (t := t) hg hr ht)
  have HTK := Lib.hid (tickTake_g (tb := tb) (t := t) hg ht)
  have HG := Lib.hid hg
  have hst : t.status = 0 ∨ t.status ≠ 0 := by omega
  have hnx := ht.nx
  have HW0 := Lib.hid (show t.status ≠ 0 → stepT r t = (r, t) from fun h => if_pos h)
  have HW1 := Lib.hid (show t.status = 0 → t.next = 0 → stepT r t = (r, lookT r t) from fun h h1 => (if_neg (by omega)).trans (if_pos h1))
  have HW2 := Lib.hid (show t.status = 0 → t.next = 1 → stepT r t = (r, weighT r t) from fun h h1 => (if_neg (by omega)).trans ((if_neg (by omega)).trans (if_pos h1)))
  have HW3 := Lib.hid (show t.status = 0 → t.next = 2 → stepT r t = takeT r t from fun h h1 => (if_neg (by omega)).trans ((if_neg (by omega)).trans (if_neg (by omega))))
  have t2 := HT.out.cell 0 0 rfl 2
  have t3 := HT.out.cell 0 0 rfl 3
  simp only [tickC, List.getElem?_toArray, List.getElem?_cons_zero, List.getElem?_cons_succ] at t2 t3
  have lt := HT.out.lt 0 0 rfl
  simp only [] at lt
  clear hg hr ht
  rcases hst with hst | hst
  · rcases hnx with hnx | hnx | hnx
    · have HS := Lib.hid (HW1.out hst hnx)
      rw [hst] at t3
      rw [hnx] at t2
      clear hst hnx
      go_enter Tryz.func160, Tryz.ntmps160
      go_wp2_with fail
      refine (DoesG.use (HL.out) (HT.out.put rfl _) [0, 1] rfl rfl).mono ?_
      rintro e w1 ⟨gs, ⟨rfl, g', hg', rfl⟩, Ta⟩
      simp only [putG, List.set_cons_zero, List.set_cons_succ, List.cons_append, List.nil_append, List.append_nil] at Ta
      have t3 := Ta.cell 0 0 rfl 3
      simp only [tickC, List.getElem?_toArray, List.getElem?_cons_zero, List.getElem?_cons_succ] at t3
      have HT := Lib.hid Ta
      clear Ta
      go_wp2
      go_ret
      exact ⟨_, ⟨by rw [HS.out]; rfl, g', by rw [HS.out]; exact hg', rfl⟩, (HT.out.pick [0, 1] rfl).eq (by rw [HS.out]; rfl)⟩
    · have HS := Lib.hid (HW2.out hst hnx)
      rw [hst] at t3
      rw [hnx] at t2
      clear hst hnx
      go_enter Tryz.func160, Tryz.ntmps160
      go_wp2_with fail
      refine (DoesG.use (HWE.out) (HT.out.put rfl _) [0, 1] rfl rfl).mono ?_
      rintro e w1 ⟨gs, ⟨rfl, g', hg', rfl⟩, Ta⟩
      simp only [putG, List.set_cons_zero, List.set_cons_succ, List.cons_append, List.nil_append, List.append_nil] at Ta
      have t3 := Ta.cell 0 0 rfl 3
      simp only [tickC, List.getElem?_toArray, List.getElem?_cons_zero, List.getElem?_cons_succ] at t3
      have HT := Lib.hid Ta
      clear Ta
      go_wp2
      go_ret
      exact ⟨_, ⟨by rw [HS.out]; rfl, g', by rw [HS.out]; exact hg', rfl⟩, (HT.out.pick [0, 1] rfl).eq (by rw [HS.out]; rfl)⟩
    · have HS := Lib.hid (HW3.out hst hnx)
      rw [hst] at t3
      rw [hnx] at t2
      clear hst hnx
      go_enter Tryz.func160, Tryz.ntmps160
      go_wp2_with fail
      refine (DoesG.use (HTK.out) (HT.out.put rfl _) [0, 1] rfl rfl).mono ?_
      rintro e w1 ⟨gs, ⟨rfl, g', hg', rfl⟩, Ta⟩
      simp only [putG, List.set_cons_zero, List.set_cons_succ, List.cons_append, List.nil_append, List.append_nil] at Ta
      have t3 := Ta.cell 0 0 rfl 3
      simp only [tickC, List.getElem?_toArray, List.getElem?_cons_zero, List.getElem?_cons_succ] at t3
      have HT := Lib.hid Ta
      clear Ta
      go_wp2
      go_ret
      exact ⟨_, ⟨by rw [HS.out]; rfl, g', by rw [HS.out]; exact hg', rfl⟩, (HT.out.pick [0, 1] rfl).eq (by rw [HS.out]; rfl)⟩
  · have HS := Lib.hid (HW0.out hst)
    have hb : (t.status == 0) = false := beq_eq_false_iff_ne.2 hst
    clear hst hnx
    go_enter Tryz.func160, Tryz.ntmps160
    go_wp2
    go_ret
    exact ⟨_, ⟨by rw [HS.out]; rfl, g, by rw [HS.out]; exact HG.out, rfl⟩, ((HT.out.put rfl _).pick [0, 1] rfl).eq (by rw [HS.out]; rfl)⟩

theorem storeC_g (b o : Nat) (T : TypeId) (C : Array Value) (y x : Int) (hc : cellAt C o (.int .i64 y)) :
    DoesG Tryz.prog 116 #[.pointer (some ⟨b, o, none⟩), .int .i64 x] [[cl b T C]] fun e gs => e = .returned (.tuple #[]) ∧ gs = [[cl b T (C.setIfInBounds o (.int .i64 x))]] := storeI_g b o T C _ x hc.1
/-- a slot that is filled: its task, and its number -/
theorem slotsD.fill {l : List SlotS} {D : Array Value} {k : Nat} {s : SlotS} (h : slotsD l D) (hk : l[k]? = some s) (v : TaskS) (n : Int) : slotsD (l.set k ⟨n, v⟩) ((putTask D (k * 9 + 4) v).setIfInBounds (k * 9) (.int .i64 n)) := by
  have h1 := h.putV hk v
  have hk1 : (l.set k { s with v := v })[k]? = some { s with v := v } := by rw [List.getElem?_set, if_pos rfl, if_pos (List.getElem?_eq_some_iff.1 hk).1]
  obtain ⟨⟨a0, l0, t0, u0, a1, a2, a3⟩, b⟩ := h1.at_ k _ hk1
  refine ⟨?_, fun i s' hs => ?_⟩
  · rw [Array.size_setIfInBounds, h1.size]; simp
  · rw [List.getElem?_set] at hs
    by_cases e : k = i
    · subst e
      rw [if_pos rfl, if_pos (List.getElem?_eq_some_iff.1 hk).1] at hs
      cases hs
      obtain ⟨b0, b1, b2, b3, b4⟩ := b
      exact ⟨⟨get_set_eq a0, l0, t0, u0, (get_set_ne (by omega)).trans a1, (get_set_ne (by omega)).trans a2, (get_set_ne (by omega)).trans a3⟩, (get_set_ne (by omega)).trans b0, (get_set_ne (by omega)).trans b1, (get_set_ne (by omega)).trans b2, (get_set_ne (by omega)).trans b3, (get_set_ne (by omega)).trans b4⟩
    · rw [if_neg e] at hs
      have hs1 : (l.set k { s with v := v })[i]? = some s' := by rw [List.getElem?_set, if_neg e]; exact hs
      obtain ⟨⟨a0, l0, t0, u0, a1, a2, a3⟩, b0, b1, b2, b3, b4⟩ := h1.at_ i s' hs1
      exact ⟨⟨(get_set_ne (by omega)).trans a0, l0, t0, u0, (get_set_ne (by omega)).trans a1, (get_set_ne (by omega)).trans a2, (get_set_ne (by omega)).trans a3⟩, (get_set_ne (by omega)).trans b0, (get_set_ne (by omega)).trans b1, (get_set_ne (by omega)).trans b2, (get_set_ne (by omega)).trans b3, (get_set_ne (by omega)).trans b4⟩
set_option maxRecDepth 100000 in
theorem tickFill_yes (v : TaskS) (hg : isRing rb r g) (hr : RingB r) (ht : TickB t) (hh : t.status = 2 ∧ t.filled = false) : DoesG Tryz.prog 194 #[ptr' tb, .agg v.cells] [tickG tb rb t, g] fun e gs =>
    e = .returned (.int .i64 0) ∧ ∃ g', isRing rb { r with slots := r.slots.set (r.at t.pos) ⟨2 * t.pos + 1, v⟩ } g' ∧ gs = [tickG tb rb { t with filled := true }, g'] := by
  obtain ⟨sb, C, D, rfl, hC, hD⟩ := hg.open
  obtain ⟨ha, hal, hav⟩ := ring_at hr.n0 t.pos
  intro w hw
  have T0 := TG.refl hw
  have HT := Lib.hid T0
  clear hw T0
  have HC := Lib.hid hC
  have HD := Lib.hid hD
  have HA := Lib.hid (ringAt_r (rb := rb) hC hr t.pos ht.p0 ht.p1)
  simp only [tickG] at HT ⊢
  have HT := Lib.hid (HT.out.eq (H' := [[cl tb 253 (tickC rb t)], [cl rb 185 C], [cl sb 189 D]]) rfl)
  have HV := Lib.hid (hD.fill ha v (2 * t.pos + 1))
  have HCS := Lib.hid (hC.withSlots (l := r.slots.set (r.at t.pos) ⟨2 * t.pos + 1, v⟩) (List.length_set ..))
  have hcell := (hD.at_ _ _ ha).1
  generalize r.slot t.pos = s at *
  generalize r.at t.pos = k at *
  have p0 := ht.p0
  have p1 := ht.p1
  obtain ⟨e0, e1, e2, e3, e4⟩ := (hD.at_ _ _ ha).2
  obtain ⟨pos, nx, st, fi⟩ := t
  simp only at HA HV HCS p0 p1 hh
  obtain ⟨rfl, rfl⟩ := hh
  have HP := Lib.hid (show cellAt (putTask D (k * 9 + 4) v) (k * 9) (.int .i64 s.seq) from by
    obtain ⟨a0, l0, t0, u0, a1, a2, a3⟩ := hcell
    exact ⟨(putTask_ne (by omega)).trans a0, l0, t0, u0, (putTask_ne (by omega)).trans a1, (putTask_ne (by omega)).trans a2, (putTask_ne (by omega)).trans a3⟩)
  have HE := Lib.hid (And.intro e0 (And.intro e1 (And.intro e2 (And.intro e3 e4))))
  have lt := HT.out.lt 0 0 rfl
  simp only [] at lt
  have t0 := HT.out.cell 0 0 rfl 0
  have t1 := HT.out.cell 0 0 rfl 1
  have t3 := HT.out.cell 0 0 rfl 3
  have t4 := HT.out.cell 0 0 rfl 4
  have f4 := HT.out.free 0 0 rfl 4
  simp only [tickC, List.getElem?_toArray, List.getElem?_cons_zero, List.getElem?_cons_succ] at t0 t1 t3 t4
  clear hC hD hg ha hav ht hr hal e0 e1 e2 e3 e4 hcell
  simp only [TaskS.cells]
  go_enter Tryz.func194, Tryz.ntmps194
  go_wp2
  have HT := Lib.hid ((HT.out.set 0 0 rfl 4 (.bool true)).alloc (k := w.heap.size) (by simp) 67 #[.int .u64 v.id, .int .i64 v.slot, .int .u64 v.gen, .int .u64 v.dl, .int .u64 v.per])
  clear t0 t1 t3 t4 f4 lt
  generalize World.alloc _ _ = w1 at HT ⊢
  simp only [List.set_cons_zero, List.cons_append, List.nil_append] at HT
  have t0 := HT.out.cell 0 0 rfl 0
  have t1 := HT.out.cell 0 0 rfl 1
  have b0 := HT.out.cell 3 0 rfl 0
  have b1 := HT.out.cell 3 0 rfl 1
  have b2 := HT.out.cell 3 0 rfl 2
  have b3 := HT.out.cell 3 0 rfl 3
  have b4 := HT.out.cell 3 0 rfl 4
  simp only [tickC, List.getElem?_toArray, List.getElem?_cons_zero, List.getElem?_cons_succ] at t0 t1 b0 b1 b2 b3 b4
  have d0 := (HT.out.cell 2 0 rfl (k * 9 + 4)).trans HE.out.1
  have d1 := (HT.out.cell 2 0 rfl (k * 9 + 4 + 1)).trans HE.out.2.1
  have d2 := (HT.out.cell 2 0 rfl (k * 9 + 4 + 2)).trans HE.out.2.2.1
  have d3 := (HT.out.cell 2 0 rfl (k * 9 + 4 + 3)).trans HE.out.2.2.2.1
  have d4 := (HT.out.cell 2 0 rfl (k * 9 + 4 + 4)).trans HE.out.2.2.2.2
  have g0 := HT.out.free 2 0 rfl (k * 9 + 4)
  have g1 := HT.out.free 2 0 rfl (k * 9 + 4 + 1)
  have g2 := HT.out.free 2 0 rfl (k * 9 + 4 + 2)
  have g3 := HT.out.free 2 0 rfl (k * 9 + 4 + 3)
  have g4 := HT.out.free 2 0 rfl (k * 9 + 4 + 4)
  have n1 := HT.out.ne 0 0 2 0 (by decide) rfl rfl
  simp only [] at n1
  go_quiet ((first | (go_at_call 115; with_reducible exact ReadsG.quiet (HA.out) HT.out _ [1] rfl rfl)))
  have HT := Lib.hid (HT.out.drewN nq)
  go_wp2
  have HT := Lib.hid ((((((HT.out.set 2 0 rfl (k * 9 + 4) (.int .u64 v.id)).set 2 0 rfl (k * 9 + 4 + 1) (.int .i64 v.slot)).set 2 0 rfl (k * 9 + 4 + 2) (.int .u64 v.gen)).set 2 0 rfl (k * 9 + 4 + 3) (.int .u64 v.dl)).set 2 0 rfl (k * 9 + 4 + 4) (.int .u64 v.per)).eq (H' := [[cl tb 253 (tickC rb ⟨pos, nx, 2, true⟩)], [cl rb 185 C], [cl sb 189 (putTask D (k * 9 + 4) v)], [cl w.heap.size 67 #[.int .u64 v.id, .int .i64 v.slot, .int .u64 v.gen, .int .u64 v.dl, .int .u64 v.per]]]) rfl)
  clear t0 t1 b0 b1 b2 b3 b4 d0 d1 d2 d3 d4 g0 g1 g2 g3 g4 n1
  generalize World.setCell _ _ _ = w2 at HT ⊢
  have t1 := HT.out.cell 0 0 rfl 1
  simp only [tickC, List.getElem?_toArray, List.getElem?_cons_zero, List.getElem?_cons_succ] at t1
  refine wp_region_mix1 9 (by kernel_rfl) (by kernel_rfl) ?_
  simp only [List.take_succ_cons, List.take_zero, List.drop_succ_cons, List.drop_zero]
  repeat (go_big_quiet_step ((fail)))
  refine wpQuiet_nil ?_
  intro _ hw'
  obtain ⟨nq, hw''⟩ := hw'
  subst hw''
  have HT := Lib.hid (HT.out.drewN nq)
  go_wp2_with fail
  refine (DoesG.use (storeC_g _ _ _ _ _ _ HP.out) (HT.out) [2] rfl rfl).mono ?_
  rintro e w1 ⟨gs, ⟨rfl, rfl⟩, Ta⟩
  simp only [putG, List.set_cons_zero, List.set_cons_succ, List.cons_append, List.nil_append, List.append_nil] at Ta
  have HT := Lib.hid Ta
  clear Ta
  go_wp2_with fail
  refine ⟨rfl, ?_⟩
  go_wp2
  go_ret
  exact ⟨_, ⟨rfl, _, isRing.mk' HCS.out HV.out, rfl⟩, (HT.out.pick [0, 1, 2] rfl).eq rfl⟩
set_option maxRecDepth 100000 in
theorem tickFill_no (v : TaskS) (hh : ¬ (t.status = 2 ∧ t.filled = false)) : DoesG Tryz.prog 194 #[ptr' tb, .agg v.cells] [tickG tb rb t] fun e gs => e = .returned (.int .i64 7) ∧ gs = [tickG tb rb t] := by
  intro w hw
  have T0 := TG.refl hw
  have HT := Lib.hid T0
  clear hw T0
  have lt := HT.out.lt 0 0 rfl
  simp only [] at lt
  have t3 := HT.out.cell 0 0 rfl 3
  have t4 := HT.out.cell 0 0 rfl 4
  simp only [tickC, List.getElem?_toArray, List.getElem?_cons_zero, List.getElem?_cons_succ] at t3 t4
  simp only [TaskS.cells]
  by_cases h : t.status = 2
  · have hf : t.filled = true := by
      cases hf : t.filled
      · exact absurd ⟨h, hf⟩ hh
      · rfl
    rw [h] at t3
    rw [hf] at t4
    clear h hf hh
    go_enter Tryz.func194, Tryz.ntmps194
    go_wp2
    go_ret
    exact ⟨_, ⟨rfl, rfl⟩, HT.out.alloc0 _⟩
  · have hb : (t.status != 2) = true := bne_iff_ne.2 h
    have hb' : (t.status == 2) = false := beq_eq_false_iff_ne.2 h
    clear h hh
    go_enter Tryz.func194, Tryz.ntmps194
    go_wp2
    go_ret
    exact ⟨_, ⟨rfl, rfl⟩, HT.out.alloc0 _⟩
theorem tickFill_g (v : TaskS) (hg : isRing rb r g) (hr : RingB r) (ht : TickB t) : DoesG Tryz.prog 194 #[ptr' tb, .agg v.cells] [tickG tb rb t, g] fun e gs =>
    e = .returned (.int .i64 (fillT r t v).2.2) ∧ ∃ g', isRing rb (fillT r t v).1 g' ∧ gs = [tickG tb rb (fillT r t v).2.1, g'] := by
  by_cases hh : t.status = 2 ∧ t.filled = false
  · have e : fillT r t v = ({ r with slots := r.slots.set (r.at t.pos) ⟨2 * t.pos + 1, v⟩ }, { t with filled := true }, 0) := if_pos hh
    rw [e]
    exact tickFill_yes v hg hr ht hh
  · have e : fillT r t v = (r, t, 7) := if_neg hh
    rw [e]
    intro w hw
    refine (DoesG.use (tickFill_no v hh) (TG.refl hw) [0] rfl rfl).mono ?_
    rintro e w' ⟨gs, ⟨he, rfl⟩, T⟩
    exact ⟨_, ⟨he, g, hg, rfl⟩, T⟩
end
end Go.Proofs.YthbjaoinklhikaaGreat

namespace Go.Proofs.YthbjaoinklhikaaGreat
set_option linter.unusedVariables false
set_option linter.unusedSimpArgs false
open Go.RowKit Go.Shelf

/-! ## times.Add, Turn -/
theorem add64_run (x y : Int) (hx : 0 ≤ x) (hy : 0 ≤ y) (w : World) : (callFunc 126 #[.int .u64 x, .int .u64 y, .int .u64 0]).run Tryz.prog w =
    .ok (.value (.tuple #[.int .u64 ((x + y + 0) % 18446744073709551616), .int .u64 ((x + y + 0) / 18446744073709551616)])) w := by
  rw [run_callFunc_extern Tryz.func126 (by kernel_rfl) (by kernel_rfl) (by kernel_rfl) (e := add64Entry) (by kernel_rfl), run_add64 x y 0 hx hy (by omega) (by omega)]
  rfl
theorem timesAdd_g (x y : Int) (hx : 0 ≤ x) (hy : 0 ≤ y) (h : x + y < 18446744073709551616) : DoesG Tryz.prog 99 #[.int .u64 x, .int .u64 y] [] fun e gs => e = .returned (.tuple #[.int .u64 (x + y), .int .i64 0]) ∧ gs = [] := by
  intro w hw
  have T0 := TG.refl hw
  have HT := Lib.hid T0
  clear hw T0
  have ha : ∀ w, (callFunc 126 #[.int .u64 x, .int .u64 y, .int .u64 0]).run Tryz.prog w = .ok (.value (.tuple #[.int .u64 (x + y), .int .u64 0])) w := fun w => by
    rw [add64_run x y hx hy w, show (x + y + 0) % 18446744073709551616 = x + y by omega, show (x + y + 0) / 18446744073709551616 = 0 by omega]
  clear h hx hy
  go_enter Tryz.func99, Tryz.ntmps99
  go_wp2_with (simp only [ha])
  go_ret2
  exact ⟨_, ⟨rfl, rfl⟩, HT.out⟩
theorem storeU_g {b o : Nat} {T : TypeId} {C : Array Value} {n : Int} (x : Int) (hc : cellAt C o (.int .u64 n)) :
    DoesG Tryz.prog 205 #[.pointer (some ⟨b, o, none⟩), .int .u64 x] [[cl b T C]] fun e gs => e = .returned (.tuple #[]) ∧ ∃ C', Recell C o (.int .u64 x) C' ∧ gs = [[cl b T C']] := by
  intro w hw
  have T0 := TG.refl hw
  have HT := Lib.hid T0
  clear hw T0
  have c0 := (HT.out.cell 0 0 rfl o).trans hc.1
  have f0 := HT.out.free 0 0 rfl o
  have HC := Lib.hid hc
  clear hc
  go_enter Tryz.func205, Tryz.ntmps205
  go_wp2
  exact bodyPost_end (results_none rfl _ _ _) rfl ⟨_, ⟨rfl, _, recell_value HC.out, rfl⟩, HT.out.set 0 0 rfl o _⟩
theorem floorTurn_g {fb : Nat} {p : FPtr} {f : FloorS} {tr : Value} {g : List Blk} (hg : isFloor fb p f tr g) (h : 0 ≤ f.now ∧ f.now < 9223372036854775807) : DoesG Tryz.prog 185 #[ptr' fb] [g] fun e gs =>
    e = .returned (.tuple #[.int .u64 (f.now + 1), .int .i64 0]) ∧ ∃ g', isFloor fb p { f with now := f.now + 1 } tr g' ∧ gs = [g'] := by
  obtain ⟨C, rfl, hc⟩ := hg
  intro w hw
  have T0 := TG.refl hw
  have HT := Lib.hid T0
  clear hw T0
  have HC := Lib.hid hc
  have HA := Lib.hid (timesAdd_g f.now 1 h.1 (by omega) (by omega))
  clear hc h
  go_enter Tryz.func185, Tryz.ntmps185
  go_wp2_with fail
  refine (DoesG.use (cellG (loadU_does fb 22 _ C f.now HC.out.now)) (HT.out) [0] rfl rfl).mono ?_
  rintro e w1 ⟨gs, ⟨rfl, C1, hr, rfl⟩, Ta⟩
  simp only [putG, List.set_cons_zero, List.set_cons_succ, List.cons_append, List.nil_append, List.append_nil] at Ta
  have HT := Lib.hid Ta
  clear Ta
  have HC1 := Lib.hid (HC.out.nowS hr)
  clear hr
  go_wp2_with fail
  refine (DoesG.use (HA.out) (HT.out) [] rfl rfl).mono ?_
  rintro e w1 ⟨gs, ⟨rfl, rfl⟩, Ta⟩
  simp only [putG, List.set_cons_zero, List.set_cons_succ, List.cons_append, List.nil_append, List.append_nil] at Ta
  have HT := Lib.hid Ta
  clear Ta
  go_wp2_with fail
  refine (DoesG.use (storeU_g (f.now + 1) HC1.out.now) (HT.out) [0] rfl rfl).mono ?_
  rintro e w1 ⟨gs, ⟨rfl, C2, hr, rfl⟩, Ta⟩
  simp only [putG, List.set_cons_zero, List.set_cons_succ, List.cons_append, List.nil_append, List.append_nil] at Ta
  have HT := Lib.hid Ta
  clear Ta
  have HC2 := Lib.hid (HC1.out.nowR hr)
  clear hr
  go_wp2
  go_ret2
  exact ⟨_, ⟨rfl, _, ⟨C2, rfl, HC2.out⟩, rfl⟩, HT.out⟩
end Go.Proofs.YthbjaoinklhikaaGreat

namespace Go.Proofs.YthbjaoinklhikaaGreat
set_option linter.unusedVariables false
set_option linter.unusedSimpArgs false
open Go.RowKit Go.Shelf

/-! ## Note -/
theorem Tryz.infoEvent : (Tryz.prog.info? 46).map (fun i => (i.zero, i.size, i.bytes)) = some (some (.agg #[.int .i64 0, .int .i64 0, .int .i64 0, .int .i64 0, .int .u64 0, .int .u64 0, .int .u64 0, .int .u64 0, .int .u64 0, .int .i64 0]), 10, 80) := by kernel_rfl
theorem floorC.setTr {p : FPtr} {f : FloorS} {tr : Value} {C : Array Value} (h : floorC p f tr C) (v : Value) : floorC p f v (C.setIfInBounds 26 v) := by
  have hs := h.size
  have ne : ∀ i, i < 26 → (C.setIfInBounds 26 v)[i]? = C[i]? := fun i hi => get_set_ne (by omega)
  have ce : ∀ {o : Nat} {x : Value}, o + 4 ≤ 26 → cellAt C o x → cellAt (C.setIfInBounds 26 v) o x := by
    rintro o x ho ⟨h0, l, t, u, h1, h2, h3⟩
    exact ⟨(ne _ (by omega)).trans h0, l, t, u, (ne _ (by omega)).trans h1, (ne _ (by omega)).trans h2, (ne _ (by omega)).trans h3⟩
  exact ⟨by simpa using hs, fun i hi => (ne i (by omega)).trans (h.cfg i hi), (ne _ (by omega)).trans h.slab, (ne _ (by omega)).trans h.sh, (ne _ (by omega)).trans h.pipe, (ne _ (by omega)).trans h.log,
    ce (by omega) h.closed, ce (by omega) h.inside, ce (by omega) h.busy, ce (by omega) h.now, get_set_eq h.tr⟩
theorem step_append_G {P : Program} {ops : Array Oper} {o : Oper} {a : Act} {w' : World} {K : Act → World → Prop} {Q : Exit → Act → World → Prop} {Eg : Prop} {e : TypeId} {v : Value} {n : Nat} {xs : List Value} {g : List Blk} {h H : GH} {w : World}
    (hgd : o.guard = none) (s x : Operand) (t : TypeId) (ho : o.op = .call { callee := .builtin .append, args := #[s, x], argTypes := #[t, t] })
    (size bytes : Nat) (z : Value) (ht : P.underlying t = some (.slice e)) (hinfo : (P.info? e).map (fun i => (i.zero, i.size, i.bytes)) = some (some z, size, bytes)) (hzs : z.cells.size = size) (hsz : 0 < size)
    (T : TG h w H w') (k : Nat) (hk : decide (k < H.length) = true) (hg : H.getD k [] = g) (r : rowG e size v n xs g) (hs : a.eval s = v)
    (ad : Addr) (m c : Nat) (news : List Value) (hx : a.eval x = .slice (some ad) m c) (hl : news.length = m * size) (hnews : ∀ j u, news[j]? = some u → w'.cell? (ad.add j) = some u) (h1 : ∀ u ∈ news, u.oneCell' = true)
    (h63 : n + m ≤ maxLen) (hbytes : (n + m) * bytes ≤ 140737488355328)
    (hK : ∀ v' w'' g', rowG e size v' (n + m) (xs ++ news) g' → TG h w (H.set k g') w'' → K (a.put o.dst v') w'') :
    if Region.wanted o (yielded ops a.tmps) = true then Oper.wp P o a w' K Q else Eg := by
  have hw : Region.wanted o (yielded ops a.tmps) = true := by simp [Region.wanted, hgd]
  rw [if_pos hw]
  obtain ⟨i, hi, hz, hsize, hby⟩ := info_parts hinfo
  obtain ⟨v', w'', g', hr, h2, h3⟩ := run_append_row (P := P) t o.type e i z size bytes ht hi hz hsize hby hzs hsz T k (of_decide_eq_true hk) hg r ad m c news hl hnews h1 h63 hbytes
  unfold Oper.wp
  simp [execOp, ho, resolve, invoke, builtin, hs, hx, hr, Result.andThen]
  exact hK v' w'' g' h2 h3
set_option maxRecDepth 100000 in
theorem floorNote_big {fb : Nat} {p : FPtr} {f : FloorS} {tr : Value} {g gT : List Blk} {n : Nat} {xs : List Value} (E : EvS) (hg : isFloor fb p f tr g) (hr : rowG 46 10 tr n xs gT) (hn : n ≤ 1000000000) :
    DoesG Tryz.prog 108 #[ptr' fb, .agg E.cells] [g, gT] fun e gs =>
      e = .returned (.tuple #[]) ∧ ∃ tr' g' gT', isFloor fb p f tr' g' ∧ rowG 46 10 tr' (n + 1) (xs ++ E.cells.toList) gT' ∧ gs = [g', gT'] := by
  obtain ⟨C, rfl, hc⟩ := hg
  obtain ⟨a, cap, rfl⟩ := hr.val
  intro w hw
  have T0 := TG.refl hw
  have HT := Lib.hid T0
  clear hw T0
  simp only [EvS.cells]
  have HC := Lib.hid hc
  have HR := Lib.hid hr
  have htr := hc.tr
  clear hc hr
  go_enter Tryz.func108, Tryz.ntmps108
  go_wp2
  have HT := Lib.hid (HT.out.alloc (k := w.heap.size) rfl 46 #[.int .i64 E.kind, .int .i64 E.thread, .int .i64 E.call, .int .i64 E.what, .int .u64 E.id, .int .u64 E.gen, .int .u64 E.dl, .int .u64 E.per, .int .u64 E.tick, .int .i64 E.err])
  have c0 := (HT.out.cell 0 0 rfl 26).trans htr
  have q := HT.out.cell 2 0 rfl
  clear q c0
  generalize w.alloc _ = w1 at HT ⊢
  simp only [List.cons_append, List.nil_append] at HT
  have c0 := (HT.out.cell 0 0 rfl 26).trans htr
  have q := HT.out.cell 2 0 rfl
  have HT := Lib.hid HT.out.drew
  have f0 := HT.out.free 0 0 rfl
  have hl0 := HT.out.lt 0 0 rfl
  have hl1 := HT.out.lt 2 0 rfl
  simp only [World.drew] at hl0 hl1
  go_region_law (
    refine step_append_G rfl (.tmp 10) (.tmp 12) 43 rfl 10 80 _ Tryz.underlying43 Tryz.infoEvent rfl (by decide) (HT.out.alloc0 _) 1 rfl rfl HR.out rfl ⟨w1.heap.size, 0, none⟩ 1 1 [.int .i64 E.kind, .int .i64 E.thread, .int .i64 E.call, .int .i64 E.what, .int .u64 E.id, .int .u64 E.gen, .int .u64 E.dl, .int .u64 E.per, .int .u64 E.tick, .int .i64 E.err] rfl rfl (news_alloc _ _ _) (by simp [Value.oneCell']) (by unfold maxLen; omega) (by omega) ?_
    intro v w3 gT1 r T
    simp only [List.set_cons_zero, List.set_cons_succ] at T
    obtain ⟨a1, cap1, rfl⟩ := r.val
    have f1 := T.free 0 0 rfl 26
    have c1 := (T.cell 0 0 rfl 26).trans htr
    have T := Lib.hid T
    have r := Lib.hid r)
  all_goals go_wp2
  all_goals exact bodyPost_end (results_none rfl _ _ _) rfl ⟨_, ⟨rfl, _, _, _, ⟨_, rfl, HC.out.setTr _⟩, r.out, rfl⟩, (T.out.set 0 0 rfl 26 _).pick [0, 1] rfl⟩
theorem floorNote_g {fb : Nat} {p : FPtr} {f : FloorS} {tr : Value} {g gT : List Blk} {n : Nat} {xs : List Value} (E : EvS) (hg : isFloor fb p f tr g) (hr : rowG 46 10 tr n xs gT) (hn : n ≤ 1000) :
    DoesG Tryz.prog 108 #[ptr' fb, .agg E.cells] [g, gT] fun e gs =>
      e = .returned (.tuple #[]) ∧ ∃ tr' g' gT', isFloor fb p f tr' g' ∧ rowG 46 10 tr' (n + 1) (xs ++ E.cells.toList) gT' ∧ gs = [g', gT'] :=
  floorNote_big E hg hr (by omega)
end Go.Proofs.YthbjaoinklhikaaGreat
