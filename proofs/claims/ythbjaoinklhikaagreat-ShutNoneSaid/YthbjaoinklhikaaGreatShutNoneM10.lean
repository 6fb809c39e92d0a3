import Derived.Test.YthbjaoinklhikaaGreatShutNoneM9
import Derived.Test.YthbjaoinklhikaaGreatShutNoneM2
namespace Go.Proofs.YthbjaoinklhikaaGreat
set_option linter.unusedVariables false
set_option linter.unusedSimpArgs false

/-! ## A record is made free, as the laws do it -/
def freeS (s : SlabS) (k : Int) : SlabS × Bool :=
  if s.werr k ≠ 0 ∨ stW (s.word k) = 0 then (s, false)
  else if (s.try k (s.word k) 9).2.2 = 0 ∧ stW (s.try k (s.word k) 9).2.1 = 0 then ((s.try k (s.word k) 9).1.drop.1, decide ((s.try k (s.word k) 9).1.drop.2 = 0))
  else ((s.try k (s.word k) 9).1, false)

/-! ## How many records are used (plain) -/
def busyB (r : Rec) : Bool := !decide (stW r.w = 0)
def usedS (l : List Rec) : Nat := l.countP busyB
theorem used_set {l : List Rec} {k : Nat} {x : Rec} (r : Rec) (h : l[k]? = some x) : usedS (l.set k r) + (if busyB x then 1 else 0) = usedS l + (if busyB r then 1 else 0) := by
  unfold usedS
  induction l generalizing k with
  | nil => simp at h
  | cons a l ih =>
    cases k with
    | zero =>
      simp only [List.getElem?_cons_zero, Option.some.injEq] at h
      subst h
      simp only [List.set_cons_zero, List.countP_cons]
      omega
    | succ k =>
      simp only [List.getElem?_cons_succ] at h
      simp only [List.set_cons_succ, List.countP_cons]
      have := ih h
      omega
theorem used_le (l : List Rec) : usedS l ≤ l.length := List.countP_le_length
theorem used_all {l : List Rec} (h : ∀ r ∈ l, busyB r = true) : usedS l = l.length := List.countP_eq_length.2 h
/-- where not all are used, there is a first one that is free -/
theorem first_free {l : List Rec} (h : usedS l < l.length) : ∃ (j : Nat) (r : Rec), l[j]? = some r ∧ busyB r = false ∧ ∀ (i : Nat) (x : Rec), i < j → l[i]? = some x → busyB x = true := by
  induction l with
  | nil => simp at h
  | cons a l ih =>
    cases hb : busyB a
    · exact ⟨0, a, rfl, hb, fun i x hi => absurd hi (Nat.not_lt_zero _)⟩
    · have h' : usedS l < l.length := by simp only [usedS, List.countP_cons, hb, if_true, List.length_cons] at h ⊢; omega
      obtain ⟨j, r, h1, h2, h3⟩ := ih h'
      refine ⟨j + 1, r, by simpa using h1, h2, fun i x hi hx => ?_⟩
      cases i with
      | zero => simp at hx; subst hx; exact hb
      | succ i => exact h3 i x (by omega) (by simpa using hx)
theorem busy_true {r : Rec} (h : stW r.w ≠ 0) : busyB r = true := by simp [busyB, h]
theorem busy_false {r : Rec} (h : stW r.w = 0) : busyB r = false := by simp [busyB, h]
theorem of_busy {r : Rec} (h : busyB r = true) : stW r.w ≠ 0 := by simpa [busyB] using h
theorem of_free {r : Rec} (h : busyB r = false) : stW r.w = 0 := by simpa [busyB] using h

/-- of laws in which records are only taken and freed: each is free, or pending; generations are small -/
structure Tame (s : SlabS) (n : Nat) (t : Int) (more : Int) : Prop where
  ok : SlabOk s
  len : s.recs.length = n
  recs : ∀ r ∈ s.recs, (stW r.w = 0 ∨ stW r.w = 1) ∧ genW r.w ≤ t
  used : (usedS s.recs : Int) + more = s.count
theorem Tame.get {s : SlabS} {n : Nat} {t m : Int} (h : Tame s n t m) {k : Nat} {r : Rec} (hr : s.recs[k]? = some r) : RecOk r ∧ (stW r.w = 0 ∨ stW r.w = 1) ∧ genW r.w ≤ t :=
  ⟨h.ok.recs _ (List.mem_of_getElem? hr), h.recs _ (List.mem_of_getElem? hr)⟩
theorem new_tame {n : Nat} (h1 : 1 ≤ n) (h2 : n ≤ 64) : Tame (newSlab n) n 0 0 := by
  refine ⟨newSlab_ok h1 h2, by simp [newSlab], fun r hr => ?_, ?_⟩
  · simp only [newSlab, List.mem_replicate] at hr
    obtain ⟨_, rfl⟩ := hr
    exact ⟨.inl (by decide), by decide⟩
  · have : usedS (newSlab n).recs = 0 := by simp [usedS, newSlab, List.countP_replicate, show busyB Rec.zero = false from by decide]
    rw [this]; rfl
theorem Tame.mono {s : SlabS} {n : Nat} {t t' m : Int} (h : Tame s n t m) (ht : t ≤ t') : Tame s n t' m := ⟨h.ok, h.len, fun r hr => ⟨(h.recs r hr).1, Int.le_trans (h.recs r hr).2 ht⟩, h.used⟩
theorem getD_of {l : List Rec} {k : Nat} {r : Rec} (h : l[k]? = some r) : l.getD k Rec.zero = r := by rw [List.getD_eq_getElem?_getD, h]; rfl
theorem slab_eta (s : SlabS) (c : Int) (h : c = s.count) : ({ s with count := c } : SlabS) = s := by subst h; rfl

/-- a record that is taken -/
def takenR (r : Rec) (p : Int) : Rec := ⟨packW 1 (genW r.w + 1) false, r.g + 1, p⟩
theorem taken_ok {r : Rec} (h : RecOk r) {p : Int} (hg : genW r.w < 4294967295) (p0 : 0 ≤ p) (p1 : p < 18446744073709551616) : RecOk (takenR r p) ∧ stW (takenR r p).w = 1 ∧ genW (takenR r p).w = genW r.w + 1 := by
  have hb := ok_bd r.w h.w0 h.ok
  have hp := packW_parts 1 (genW r.w + 1) false (by decide) (by decide) (by omega) (by omega)
  refine ⟨⟨hp.2.2.2.2.1, hp.2.2.2.2.2, hp.1, by have := h.g0; show 0 ≤ r.g + 1; omega, ?_, p0, p1⟩, hp.2.1, hp.2.2.1⟩
  show r.g + 1 ≤ genW (packW 1 (genW r.w + 1) false)
  rw [hp.2.2.1]; have := h.g1; omega
/-- a seek of a record that is used, or free -/
theorem seek_busy {s : SlabS} {q : Req} {k : Nat} {r : Rec} (hst : q.st = 0) (hnx : q.next = 2) (hk : q.slot = k) (hr : s.recs[k]? = some r) (ho : RecOk r) (hb : stW r.w ≠ 0) (hl : k + 1 < s.recs.length) :
    stepR s q = (s, { q with slot := ((k + 1 : Nat) : Int) }) := by
  unfold stepR seekR
  rw [if_neg (by omega), if_neg (by omega), if_neg (by omega)]
  simp only [hk, Int.toNat_natCast, getD_of hr, alloc_busy ho.w0 ho.w1 ho.ok hb]
  rw [if_neg (by decide), Int.emod_eq_of_lt (by omega) (by omega)]
  rfl
theorem seek_free {s : SlabS} {q : Req} {k : Nat} {r : Rec} (hst : q.st = 0) (hnx : q.next = 2) (hk : q.slot = k) (hr : s.recs[k]? = some r) (ho : RecOk r) (hb : stW r.w = 0) (hg : genW r.w < 4294967295) :
    stepR s q = ({ s with recs := s.recs.set k (takenR r q.p) }, { q with id := (r.g + 1) * 64 + k, st := 2 }) := by
  unfold stepR seekR
  rw [if_neg (by omega), if_neg (by omega), if_neg (by omega)]
  simp only [hk, Int.toNat_natCast, getD_of hr, alloc_free ho.w0 ho.w1 ho.ok hb hg]
  rfl
theorem tame_taken {s : SlabS} {n : Nat} {t m : Int} (h : Tame s n t m) {k : Nat} {r : Rec} (hr : s.recs[k]? = some r) (hb : stW r.w = 0) {p : Int} (ht : t < 4294967295) (p0 : 0 ≤ p) (p1 : p < 18446744073709551616) :
    Tame { s with recs := s.recs.set k (takenR r p) } n (t + 1) (m - 1) := by
  obtain ⟨ho, _, hg⟩ := h.get hr
  obtain ⟨a, b, c⟩ := taken_ok ho (p := p) (by omega) p0 p1
  refine ⟨h.ok.set a, by simpa using h.len, fun x hx => ?_, ?_⟩
  · rcases List.mem_or_eq_of_mem_set hx with h1 | rfl
    · exact (h.mono (by omega)).recs x h1
    · exact ⟨.inr b, by omega⟩
  · have h1 := used_set (takenR r p) hr
    have h2 := h.used
    rw [busy_false hb, busy_true (r := takenR r p) (by omega)] at h1
    show ((usedS (s.recs.set k (takenR r p)) : Nat) : Int) + (m - 1) = s.count
    simp only [Bool.false_eq_true, if_false, if_true] at h1
    omega
theorem finish_pending {n : Int} {p : Bool} (h0 : 0 ≤ n) (h1 : n < 18446744073709551616) (hk : okW n = true) (hs : stW n = 1) : nextW n 9 p = (packW 0 (genW n) (lastW n), 0) := by
  have hb := ok_bd n h0 hk
  unfold nextW
  rw [if_neg (by simp [hk]), if_neg (by omega)]
  have e : toW (stW n) 9 (p && !lastW n) = (0, 0, true) := by rw [hs]; rfl
  simp only [e]
  rw [if_neg (by simp), if_neg (by omega)]
  simp
theorem tame_free {s : SlabS} {n : Nat} {t m : Int} (h : Tame s n t m) (hm : 0 ≤ m) (k : Int) : Tame (freeS s k).1 n t m := by
  unfold freeS
  by_cases h1 : s.werr k ≠ 0 ∨ stW (s.word k) = 0
  · rw [if_pos h1]; exact h
  rw [if_neg h1]
  obtain ⟨h2, h3⟩ : s.werr k = 0 ∧ stW (s.word k) ≠ 0 := by omega
  have hk : s.has k := by
    unfold SlabS.werr at h2
    by_cases hh : s.has k
    · exact hh
    · rw [if_neg hh] at h2; omega
  obtain ⟨j, rfl⟩ := SlabS.has_nat hk
  obtain ⟨r, hr, hg⟩ := SlabS.has_at hk
  obtain ⟨ho, hs, hgen⟩ := h.get hr
  have hw : s.word j = r.w := by unfold SlabS.word; rw [if_pos hk, hg]
  rw [hw] at h3 ⊢
  have hst : stW r.w = 1 := by omega
  have hb := ok_bd r.w ho.w0 ho.ok
  have hf := finish_pending (p := decide (0 < r.p)) ho.w0 ho.w1 ho.ok hst
  have hp := packW_parts 0 (genW r.w) (lastW r.w) (by decide) (by decide) hb.2.2.1 hb.2.2.2
  have ht : s.try j r.w 9 = ({ s with recs := s.recs.set j { r with w := packW 0 (genW r.w) (lastW r.w) } }, packW 0 (genW r.w) (lastW r.w), 0) := by
    unfold SlabS.try
    rw [if_pos hk]
    simp only [hg, hf]
    rw [if_neg (by simp), if_pos trivial]
    rfl
  rw [ht]
  simp only [hp.2.1, and_self, if_true]
  have hu := used_set { r with w := packW 0 (genW r.w) (lastW r.w) } hr
  rw [busy_true h3, busy_false (r := { r with w := packW 0 (genW r.w) (lastW r.w) }) hp.2.1] at hu
  simp only [if_true, Bool.false_eq_true, if_false] at hu
  have hc := h.used
  have hcount : 0 < s.count := by omega
  unfold SlabS.drop
  simp only [hcount, if_true]
  have hok := (drop_ok (s := { s with recs := s.recs.set j { r with w := packW 0 (genW r.w) (lastW r.w) } }) (h.ok.set ⟨hp.2.2.2.2.1, hp.2.2.2.2.2, hp.1, ho.g0, by show r.g ≤ genW (packW 0 (genW r.w) (lastW r.w)); rw [hp.2.2.1]; exact ho.g1, ho.p0, ho.p1⟩)).1
  unfold SlabS.drop at hok
  simp only [hcount, if_true] at hok
  refine ⟨hok, by simpa using h.len, fun x hx => ?_, ?_⟩
  · rcases List.mem_or_eq_of_mem_set hx with h5 | rfl
    · exact h.recs x h5
    · exact ⟨.inl hp.2.1, by rw [show genW (packW 0 (genW r.w) (lastW r.w)) = genW r.w from hp.2.2.1]; exact hgen⟩
  · show ((usedS (s.recs.set j { r with w := packW 0 (genW r.w) (lastW r.w) }) : Nat) : Int) + m = s.count - 1
    omega
theorem tame_more {s : SlabS} {n : Nat} {t m : Int} (h : Tame s n t m) (hc : s.count < n) : Tame { s with count := s.count + 1 } n t (m + 1) :=
  ⟨⟨h.ok.n0, h.ok.n1, by have := h.ok.c0; show 0 ≤ s.count + 1; omega, by have := h.len; show s.count + 1 ≤ (s.recs.length : Int); omega, h.ok.recs⟩, h.len, h.recs, by have := h.used; show (usedS s.recs : Int) + (m + 1) = s.count + 1; omega⟩
end Go.Proofs.YthbjaoinklhikaaGreat

namespace Go.Proofs.YthbjaoinklhikaaGreat
set_option linter.unusedVariables false
set_option linter.unusedSimpArgs false
open Go.RowKit

theorem freeS_ok {s : SlabS} (hs : SlabOk s) (k : Int) : SlabOk (freeS s k).1 ∧ (freeS s k).1.recs.length = s.recs.length := by
  unfold freeS
  have ht := try_ok hs k (s.word k) 9
  split
  · exact ⟨hs, rfl⟩
  split
  · exact ⟨(drop_ok ht.1).1, (drop_ok ht.1).2.trans ht.2⟩
  · exact ht
theorem try_word {s : SlabS} (hs : SlabOk s) (k old ev : Int) (h0 : 0 ≤ old) (h1 : old < 18446744073709551616) (hk : okW old = true) : 0 ≤ (s.try k old ev).2.1 ∧ (s.try k old ev).2.1 < 18446744073709551616 := by
  unfold SlabS.try
  have hr := hs.getD k.toNat
  split
  · simp only []
    split
    · exact ⟨hr.w0, hr.w1⟩
    · next h =>
      split
      · have := nextW_ok h0 h1 hk (Decidable.not_not.1 h); exact ⟨this.2.2.2.2.2.2.2.1, this.2.2.2.2.2.2.2.2.1⟩
      · exact ⟨hr.w0, hr.w1⟩
  · exact ⟨Int.le_refl _, by show (0 : Int) < _; decide⟩
end Go.Proofs.YthbjaoinklhikaaGreat

namespace Go.Proofs.YthbjaoinklhikaaGreat
set_option linter.unusedVariables false
set_option linter.unusedSimpArgs false
open Go.RowKit Go.Shelf

/-! ### An event of one's slot; a look -/
structure CoreOk (x : CoreS) : Prop where
  slab : SlabOk x.slab
  i0 : 0 ≤ x.f.inside
  i1 : x.f.inside ≤ 1000000
  tr : x.tr.length ≤ 1000000
  sh : 1 ≤ x.shs.length
  ring : ∀ s ∈ x.shs, RingB s.ring
theorem word_bd {s : SlabS} (h : SlabOk s) (k : Int) : 0 ≤ s.word k ∧ s.word k < 18446744073709551616 ∧ okW (s.word k) = true := by
  unfold SlabS.word
  split
  · next hk =>
    obtain ⟨j, rfl⟩ := SlabS.has_nat hk
    obtain ⟨r, hr, hr'⟩ := SlabS.has_at hk
    rw [hr']
    have := h.recs r (List.mem_of_getElem? hr)
    exact ⟨this.w0, this.w1, this.ok⟩
  · exact ⟨by omega, by omega, by decide⟩
/-- an event of the word that the slot has: the slab, the word behind -/
def eventS (k : Int) (ev : Int) (s : SlabS) : SlabS × Int := ((s.try k (s.word k) ev).1, (s.try k (s.word k) ev).2.1)
def eventW (ev : Int) (k : WorkS) (s : SlabS) : WorkS := { k with gen := genW (eventS k.slot ev s).2 }
def lookW (k : WorkS) (s : SlabS) : WorkS × Int :=
  if s.serr k.id ≠ 0 then (k, s.serr k.id) else
    if s.mine k.id = false then ({ k with slot := s.slot k.id, saw := s.word (s.slot k.id) }, 7)
    else ({ k with slot := s.slot k.id, saw := s.word (s.slot k.id) }, (nextW (s.word (s.slot k.id)) k.event (decide (0 < s.period (s.slot k.id)))).2)
theorem next_r (n e : Int) (p : Bool) (h0 : 0 ≤ n) (h1 : n < 18446744073709551616) : ReadsG Tryz.prog 167 #[.int .u64 n, .int .i64 e, .bool p] [] (.tuple #[.int .u64 (nextW n e p).1, .int .i64 (nextW n e p).2]) :=
  fun w hw => (next_calls n e p w h0 h1).mono fun e w' ⟨he, hw'⟩ => ⟨he, 0, hw'.symm⟩
section
variable {L : Lay} {x : CoreS} {g : List Blk} {kb : Nat} {pv rv tv : Value} {k : WorkS}
set_option maxRecDepth 100000 in
theorem workEvent (hx : isCore L x g) (ho : CoreOk x) (ev : Int) : DoesG Tryz.prog 174 #[ptr' kb, .int .i64 ev] [workB kb L.fb pv rv tv k, g] fun r gs =>
    r = .returned (.tuple #[]) ∧ ∃ g', isCore L { x with slab := (eventS k.slot ev x.slab).1 } g' ∧ gs = [workB kb L.fb pv rv tv (eventW ev k x.slab), g'] := by
  obtain ⟨w0, w1, w2⟩ := word_bd ho.slab k.slot
  have tb := try_word ho.slab k.slot (x.slab.word k.slot) ev w0 w1 w2
  have HW := Lib.hid (coreWord hx ho.slab.n1 k.slot)
  have HY := Lib.hid (show ∀ g', isCore L x g' → _ from fun g' hx' => coreTry (g := g') hx' ho.slab.n1 k.slot (x.slab.word k.slot) ev w0 w1)
  have HE := Lib.hid (show eventS k.slot ev x.slab = ((x.slab.try k.slot (x.slab.word k.slot) ev).1, (x.slab.try k.slot (x.slab.word k.slot) ev).2.1) ∧ eventW ev k x.slab = { k with gen := genW (x.slab.try k.slot (x.slab.word k.slot) ev).2.1 } from ⟨rfl, rfl⟩)
  have HTB := Lib.hid tb
  intro w hw
  have T0 := TG.refl hw
  have HT := Lib.hid T0
  clear hw T0
  have k0 := HT.out.cell 0 0 rfl 0
  have k16 := HT.out.cell 0 0 rfl 16
  simp only [workC, List.getElem?_toArray, List.getElem?_cons_zero, List.getElem?_cons_succ] at k0 k16
  have HX := Lib.hid hx
  clear hx ho w0 w1 w2 tb
  go_enter Tryz.func174, Tryz.ntmps174
  go_wp2
  refine wp_region_mix1 9 (by kernel_rfl) (by kernel_rfl) ?_
  simp only [List.take_succ_cons, List.take_zero, List.drop_succ_cons, List.drop_zero]
  repeat (go_big_quiet_step ((first | (go_at_call 26; with_reducible exact ReadsG.quiet (coreSlab_r HX.out) HT.out _ [1] rfl rfl))))
  refine wpQuiet_nil ?_
  intro _ hw'
  obtain ⟨nq, hw''⟩ := hw'
  subst hw''
  have HT := Lib.hid (HT.out.drewN nq)
  go_wp2_with fail
  refine (DoesG.use (HW.out) (HT.out) [1] rfl rfl).mono ?_
  rintro e w1 ⟨gs, ⟨rfl, g1, hx1, rfl⟩, Ta⟩
  simp only [putG, List.set_cons_zero, List.set_cons_succ, List.cons_append, List.nil_append, List.append_nil] at Ta
  have HX := Lib.hid hx1
  clear hx1 k0 k16
  have HT := Lib.hid Ta
  clear Ta
  go_wp2_with fail
  refine ⟨rfl, ?_⟩
  have k0 := HT.out.cell 0 0 rfl 0
  have k16 := HT.out.cell 0 0 rfl 16
  simp only [workC, List.getElem?_toArray, List.getElem?_cons_zero, List.getElem?_cons_succ] at k0 k16
  go_wp2
  refine wp_region_mix1 11 (by kernel_rfl) (by kernel_rfl) ?_
  simp only [List.take_succ_cons, List.take_zero, List.drop_succ_cons, List.drop_zero]
  repeat (go_big_quiet_step ((first | (go_at_call 26; with_reducible exact ReadsG.quiet (coreSlab_r HX.out) HT.out _ [1] rfl rfl))))
  refine wpQuiet_nil ?_
  intro _ hw'
  obtain ⟨nq, hw''⟩ := hw'
  subst hw''
  have HT := Lib.hid (HT.out.drewN nq)
  go_wp2_with fail
  refine (DoesG.use (HY.out _ HX.out) (HT.out) [1] rfl rfl).mono ?_
  rintro e w1 ⟨gs, ⟨rfl, g2, hx2, rfl⟩, Ta⟩
  simp only [putG, List.set_cons_zero, List.set_cons_succ, List.cons_append, List.nil_append, List.append_nil] at Ta
  have HX2 := Lib.hid hx2
  clear hx2 k0 k16
  have HT := Lib.hid Ta
  clear Ta
  go_wp2_with fail
  refine ⟨rfl, ?_⟩
  have k18 := HT.out.cell 0 0 rfl 18
  have fk18 := HT.out.free 0 0 rfl 18
  simp only [workC, List.getElem?_toArray, List.getElem?_cons_zero, List.getElem?_cons_succ] at k18
  go_wp2_with (go_at_call 171; refine (gen_calls _ _ HTB.out.1 HTB.out.2).mono ?_; rintro e w' ⟨rfl, rfl⟩)
  exact bodyPost_end (results_none rfl _ _ _) rfl ⟨_, ⟨rfl, g2, by rw [HE.out.1]; exact HX2.out, rfl⟩, (HT.out.set 0 0 rfl 18 _).eq (by rw [HE.out.2]; rfl)⟩
set_option maxRecDepth 100000 in
theorem workLook (hx : isCore L x g) (ho : CoreOk x) (h0 : 0 ≤ k.id) (h9 : k.id < 18446744073709551616) : DoesG Tryz.prog 136 #[ptr' kb] [workB kb L.fb pv rv tv k, g] fun r gs =>
    r = .returned (.int .i64 (lookW k x.slab).2) ∧ ∃ g', isCore L x g' ∧ gs = [workB kb L.fb pv rv tv (lookW k x.slab).1, g'] := by
  have HSL := Lib.hid (show ∀ g', isCore L x g' → _ from fun g' hx' => coreSlot (g := g') hx' ho.slab.n1 k.id h0 h9)
  by_cases h1 : x.slab.serr k.id ≠ 0
  · have HE := Lib.hid (show lookW k x.slab = (k, x.slab.serr k.id) from if_pos h1)
    have hb : (x.slab.serr k.id != 0) = true := bne_iff_ne.2 h1
    have HX := Lib.hid hx
    intro w hw
    have T0 := TG.refl hw
    have HT := Lib.hid T0
    clear hw T0
    have k0 := HT.out.cell 0 0 rfl 0
    have k15 := HT.out.cell 0 0 rfl 15
    simp only [workC, List.getElem?_toArray, List.getElem?_cons_zero, List.getElem?_cons_succ] at k0 k15
    clear hx ho h0 h9 h1
    go_enter Tryz.func136, Tryz.ntmps136
    go_wp2
    refine wp_region_mix1 9 (by kernel_rfl) (by kernel_rfl) ?_
    simp only [List.take_succ_cons, List.take_zero, List.drop_succ_cons, List.drop_zero]
    repeat (go_big_quiet_step ((first | (go_at_call 26; with_reducible exact ReadsG.quiet (coreSlab_r HX.out) HT.out _ [1] rfl rfl))))
    refine wpQuiet_nil ?_
    intro _ hw'
    obtain ⟨nq, hw''⟩ := hw'
    subst hw''
    have HT := Lib.hid (HT.out.drewN nq)
    go_wp2_with fail
    refine (DoesG.use (HSL.out _ HX.out) (HT.out) [1] rfl rfl).mono ?_
    rintro e w1 ⟨gs, ⟨rfl, g1, hx1, rfl⟩, Ta⟩
    simp only [putG, List.set_cons_zero, List.set_cons_succ, List.cons_append, List.nil_append, List.append_nil] at Ta
    have HX := Lib.hid hx1
    clear hx1 k0 k15
    have HT := Lib.hid Ta
    clear Ta
    go_wp2_with fail
    refine ⟨rfl, ?_⟩
    go_wp2
    go_ret
    exact ⟨_, ⟨by rw [HE.out]; rfl, g1, HX.out, rfl⟩, HT.out.eq (by rw [HE.out])⟩
  · have h1 : x.slab.serr k.id = 0 := by omega
    have HS0 := Lib.hid h1
    obtain ⟨sl, hsl⟩ : ∃ sl, x.slab.slot k.id = sl := ⟨_, rfl⟩
    have HSL0 := Lib.hid hsl
    have HWD := Lib.hid (show ∀ g', isCore L x g' → _ from fun g' hx' => coreWord (g := g') hx' ho.slab.n1 sl)
    have HMI := Lib.hid (show ∀ g', isCore L x g' → _ from fun g' hx' => coreMine (g := g') hx' ho.slab.n1 k.id h0 h9)
    have HPE := Lib.hid (show ∀ g', isCore L x g' → _ from fun g' hx' => corePeriod_r (g := g') hx' ho.slab.n1 sl)
    have HWB := Lib.hid (word_bd ho.slab sl)
    rw [h1, hsl] at HSL
    have HX := Lib.hid hx
    cases hm : x.slab.mine k.id with
    | false =>
      have HE := Lib.hid (show lookW k x.slab = ({ k with slot := sl, saw := x.slab.word sl }, 7) from by unfold lookW; rw [if_neg (by rw [h1]; simp), if_pos hm, hsl])
      rw [hm] at HMI
      intro w hw
      have T0 := TG.refl hw
      have HT := Lib.hid T0
      clear hw T0
      have k0 := HT.out.cell 0 0 rfl 0
      have k15 := HT.out.cell 0 0 rfl 15
      simp only [workC, List.getElem?_toArray, List.getElem?_cons_zero, List.getElem?_cons_succ] at k0 k15
      clear hx ho h0 h9 h1 hsl hm
      go_enter Tryz.func136, Tryz.ntmps136
      go_wp2
      refine wp_region_mix1 9 (by kernel_rfl) (by kernel_rfl) ?_
      simp only [List.take_succ_cons, List.take_zero, List.drop_succ_cons, List.drop_zero]
      repeat (go_big_quiet_step ((first | (go_at_call 26; with_reducible exact ReadsG.quiet (coreSlab_r HX.out) HT.out _ [1] rfl rfl))))
      refine wpQuiet_nil ?_
      intro _ hw'
      obtain ⟨nq, hw''⟩ := hw'
      subst hw''
      have HT := Lib.hid (HT.out.drewN nq)
      go_wp2_with fail
      refine (DoesG.use (HSL.out _ HX.out) (HT.out) [1] rfl rfl).mono ?_
      rintro e w1 ⟨gs, ⟨rfl, g1, hx1, rfl⟩, Ta⟩
      simp only [putG, List.set_cons_zero, List.set_cons_succ, List.cons_append, List.nil_append, List.append_nil] at Ta
      have HX := Lib.hid hx1
      clear hx1 k0 k15
      have HT := Lib.hid Ta
      clear Ta
      go_wp2_with fail
      refine ⟨rfl, ?_⟩
      have k0 := HT.out.cell 0 0 rfl 0
      have k16 := HT.out.cell 0 0 rfl 16
      have fk16 := HT.out.free 0 0 rfl 16
      simp only [workC, List.getElem?_toArray, List.getElem?_cons_zero, List.getElem?_cons_succ] at k0 k16
      go_wp2_with fail
      have HT := Lib.hid (HT.out.set 0 0 rfl 16 (.int .i64 sl))
      go_wp2_with fail
      refine (ReadsG.use (coreSlab_r HX.out) (HT.out) [1] rfl rfl).mono ?_
      rintro e w1 ⟨rfl, mq, rfl⟩
      have HT := Lib.hid (HT.out.drewN mq)
      go_wp2_with fail
      refine (DoesG.use (HWD.out _ HX.out) (HT.out) [1] rfl rfl).mono ?_
      rintro e w1 ⟨gs, ⟨rfl, g2, hx2, rfl⟩, Ta⟩
      simp only [putG, List.set_cons_zero, List.set_cons_succ, List.cons_append, List.nil_append, List.append_nil] at Ta
      have HX := Lib.hid hx2
      clear hx2 k0 k16 fk16
      have HT := Lib.hid Ta
      clear Ta
      have k0 := HT.out.cell 0 0 rfl 0
      have k15 := HT.out.cell 0 0 rfl 15
      have k17 := HT.out.cell 0 0 rfl 17
      have fk17 := HT.out.free 0 0 rfl 17
      simp only [workC, List.getElem?_toArray, List.getElem?_cons_zero, List.getElem?_cons_succ] at k0 k15 k17
      go_wp2
      have HT := Lib.hid (HT.out.set 0 0 rfl 17 (.int .u64 (x.slab.word sl)))
      refine wp_region_mix1 9 (by kernel_rfl) (by kernel_rfl) ?_
      simp only [List.take_succ_cons, List.take_zero, List.drop_succ_cons, List.drop_zero]
      repeat (go_big_quiet_step ((first | (go_at_call 26; with_reducible exact ReadsG.quiet (coreSlab_r HX.out) HT.out _ [1] rfl rfl))))
      refine wpQuiet_nil ?_
      intro _ hw'
      obtain ⟨nq, hw''⟩ := hw'
      subst hw''
      have HT := Lib.hid (HT.out.drewN nq)
      go_wp2_with fail
      refine (DoesG.use (HMI.out _ HX.out) (HT.out) [1] rfl rfl).mono ?_
      rintro e w1 ⟨gs, ⟨rfl, g3, hx3, rfl⟩, Ta⟩
      simp only [putG, List.set_cons_zero, List.set_cons_succ, List.cons_append, List.nil_append, List.append_nil] at Ta
      have HX := Lib.hid hx3
      clear hx3 k0 k15 k17 fk17
      have HT := Lib.hid Ta
      clear Ta
      go_wp2_with fail
      refine ⟨rfl, ?_⟩
      go_wp2
      go_ret
      exact ⟨_, ⟨by rw [HE.out]; rfl, g3, HX.out, rfl⟩, HT.out.eq (by rw [HE.out]; rfl)⟩
    | true =>
      have HE := Lib.hid (show lookW k x.slab = ({ k with slot := sl, saw := x.slab.word sl }, (nextW (x.slab.word sl) k.event (decide (0 < x.slab.period sl))).2) from by unfold lookW; rw [if_neg (by rw [h1]; simp), if_neg (by rw [hm]; simp), hsl])
      rw [hm] at HMI
      intro w hw
      have T0 := TG.refl hw
      have HT := Lib.hid T0
      clear hw T0
      have k0 := HT.out.cell 0 0 rfl 0
      have k15 := HT.out.cell 0 0 rfl 15
      simp only [workC, List.getElem?_toArray, List.getElem?_cons_zero, List.getElem?_cons_succ] at k0 k15
      clear hx ho h0 h9 h1 hsl hm
      go_enter Tryz.func136, Tryz.ntmps136
      go_wp2
      refine wp_region_mix1 9 (by kernel_rfl) (by kernel_rfl) ?_
      simp only [List.take_succ_cons, List.take_zero, List.drop_succ_cons, List.drop_zero]
      repeat (go_big_quiet_step ((first | (go_at_call 26; with_reducible exact ReadsG.quiet (coreSlab_r HX.out) HT.out _ [1] rfl rfl))))
      refine wpQuiet_nil ?_
      intro _ hw'
      obtain ⟨nq, hw''⟩ := hw'
      subst hw''
      have HT := Lib.hid (HT.out.drewN nq)
      go_wp2_with fail
      refine (DoesG.use (HSL.out _ HX.out) (HT.out) [1] rfl rfl).mono ?_
      rintro e w1 ⟨gs, ⟨rfl, g1, hx1, rfl⟩, Ta⟩
      simp only [putG, List.set_cons_zero, List.set_cons_succ, List.cons_append, List.nil_append, List.append_nil] at Ta
      have HX := Lib.hid hx1
      clear hx1 k0 k15
      have HT := Lib.hid Ta
      clear Ta
      go_wp2_with fail
      refine ⟨rfl, ?_⟩
      have k0 := HT.out.cell 0 0 rfl 0
      have k16 := HT.out.cell 0 0 rfl 16
      have fk16 := HT.out.free 0 0 rfl 16
      simp only [workC, List.getElem?_toArray, List.getElem?_cons_zero, List.getElem?_cons_succ] at k0 k16
      go_wp2_with fail
      have HT := Lib.hid (HT.out.set 0 0 rfl 16 (.int .i64 sl))
      go_wp2_with fail
      refine (ReadsG.use (coreSlab_r HX.out) (HT.out) [1] rfl rfl).mono ?_
      rintro e w1 ⟨rfl, mq, rfl⟩
      have HT := Lib.hid (HT.out.drewN mq)
      go_wp2_with fail
      refine (DoesG.use (HWD.out _ HX.out) (HT.out) [1] rfl rfl).mono ?_
      rintro e w1 ⟨gs, ⟨rfl, g2, hx2, rfl⟩, Ta⟩
      simp only [putG, List.set_cons_zero, List.set_cons_succ, List.cons_append, List.nil_append, List.append_nil] at Ta
      have HX := Lib.hid hx2
      clear hx2 k0 k16 fk16
      have HT := Lib.hid Ta
      clear Ta
      have k0 := HT.out.cell 0 0 rfl 0
      have k15 := HT.out.cell 0 0 rfl 15
      have k17 := HT.out.cell 0 0 rfl 17
      have fk17 := HT.out.free 0 0 rfl 17
      simp only [workC, List.getElem?_toArray, List.getElem?_cons_zero, List.getElem?_cons_succ] at k0 k15 k17
      go_wp2
      have HT := Lib.hid (HT.out.set 0 0 rfl 17 (.int .u64 (x.slab.word sl)))
      refine wp_region_mix1 9 (by kernel_rfl) (by kernel_rfl) ?_
      simp only [List.take_succ_cons, List.take_zero, List.drop_succ_cons, List.drop_zero]
      repeat (go_big_quiet_step ((first | (go_at_call 26; with_reducible exact ReadsG.quiet (coreSlab_r HX.out) HT.out _ [1] rfl rfl))))
      refine wpQuiet_nil ?_
      intro _ hw'
      obtain ⟨nq, hw''⟩ := hw'
      subst hw''
      have HT := Lib.hid (HT.out.drewN nq)
      go_wp2_with fail
      refine (DoesG.use (HMI.out _ HX.out) (HT.out) [1] rfl rfl).mono ?_
      rintro e w1 ⟨gs, ⟨rfl, g3, hx3, rfl⟩, Ta⟩
      simp only [putG, List.set_cons_zero, List.set_cons_succ, List.cons_append, List.nil_append, List.append_nil] at Ta
      have HX := Lib.hid hx3
      clear hx3 k0 k15 k17 fk17
      have HT := Lib.hid Ta
      clear Ta
      go_wp2_with fail
      refine ⟨rfl, ?_⟩
      have HT := Lib.hid (HT.out.eq (H' := [workB kb L.fb pv rv tv { k with slot := sl, saw := x.slab.word sl }, g3]) rfl)
      have k0 := HT.out.cell 0 0 rfl 0
      have k17 := HT.out.cell 0 0 rfl 17
      simp only [workC, List.getElem?_toArray, List.getElem?_cons_zero, List.getElem?_cons_succ] at k0 k17
      go_wp2
      go_quiet ((first | (go_at_call 26; with_reducible exact ReadsG.quiet (coreSlab_r HX.out) HT.out _ [1] rfl rfl) | (go_at_call 168; with_reducible exact ReadsG.quiet (workKind_r (L := L)) HT.out _ [0] rfl rfl) | (go_at_call 169; with_reducible exact ReadsG.quiet (HPE.out _ HX.out) HT.out _ [1] rfl rfl) | (go_at_call 167; with_reducible exact ReadsG.quiet (next_r _ _ _ HWB.out.1 HWB.out.2.1) HT.out _ [] rfl rfl)))
      have HT := Lib.hid (HT.out.drewN nq)
      go_wp2
      go_ret
      exact ⟨_, ⟨by rw [HE.out]; rfl, g3, HX.out, rfl⟩, HT.out.eq (by rw [HE.out])⟩
end
end Go.Proofs.YthbjaoinklhikaaGreat

namespace Go.Proofs.YthbjaoinklhikaaGreat
set_option linter.unusedVariables false
set_option linter.unusedSimpArgs false
open Go.RowKit Go.Shelf

/-! ### A call's steps, plain -/
inductive MC where
  | right | enter | gate | asks | queues | submits | fills | looks | again | tries | ends | leaves
inductive AC where
  | ends1 | leaves1 | undo | drop | tries1 | again1
abbrev SC : Type := St MC AC Empty
abbrev ZC : Type := WorkS × CoreS
def leavesC : SC := .thn (.row1 .leaves1) .ends
def overC (k : WorkS) : SC := if k.kind = 4 ∨ k.kind = 5 then .row1 .ends1 else leavesC
def refuseC (e : Int) (z : ZC) : ZC := (refuseW e z.1, noteC z.1 { ev0 with kind := 9, err := e } z.2)
def okC (k : WorkS) : WorkS := { k with err := 0, ok := true, aid := k.id, agen := k.gen }
def fillC (v : TaskS) (z : ZC) : ZC :=
  match z.1.tk with
  | none => z
  | some (i, t) => match z.2.shs[i]? with
    | none => z
    | some s => ({ z.1 with tk := some (i, (fillT s.ring t v).2.1) }, { z.2 with shs := z.2.shs.set i { s with ring := (fillT s.ring t v).1 } })
def homeC (slot : Int) (x : CoreS) : Nat := (slot % (x.shs.length : Int)).toNat
def badC (k : WorkS) : Prop := k.kind = 2 ∧ (k.cper = 0 ∨ 18446744073709551616 ≤ k.cdl + k.cper)
instance (k : WorkS) : Decidable (badC k) := by unfold badC; infer_instance
def eventC (ev : Int) (z : ZC) : ZC := (eventW ev z.1 z.2.slab, { z.2 with slab := (eventS z.1.slot ev z.2.slab).1 })
def tryC (z : ZC) : ZC × Int := (({ z.1 with gen := genW (z.2.slab.try z.1.slot z.1.saw z.1.event).2.1 }, { z.2 with slab := (z.2.slab.try z.1.slot z.1.saw z.1.event).1 }), (z.2.slab.try z.1.slot z.1.saw z.1.event).2.2)
def lookC (z : ZC) : ZC × Int := (((lookW z.1 z.2.slab).1, z.2), (lookW z.1 z.2.slab).2)
def taskC (z : ZC) : TaskS := ⟨z.1.id, z.1.slot, z.1.gen, z.1.cdl, z.2.slab.period z.1.slot⟩
def noteZ (E : EvS) (z : ZC) : ZC := (z.1, noteC z.1 E z.2)
def asksC (z : ZC) (q : Req) : SC × ZC :=
  let r := stepR z.2.slab q
  let x' := { z.2 with slab := r.1 }
  if r.2.st = 1 then (leavesC, refuseC 2 ({ z.1 with rq := some r.2 }, x'))
  else if r.2.st = 2 then (.at none .queues, ({ z.1 with rq := some r.2, id := r.2.id, slot := r.2.id % 64, tk := some (homeC (r.2.id % 64) z.2, newTick) }, x'))
  else (.at none .asks, ({ z.1 with rq := some r.2 }, x'))
def queuesC (z : ZC) (i : Nat) (t : TickS) (s : ShardS) : SC × ZC :=
  let r := stepT s.ring t
  let z' : ZC := ({ z.1 with tk := some (i, r.2) }, { z.2 with shs := z.2.shs.set i { s with ring := r.1 } })
  if r.2.status = 0 then (.at none .queues, z')
  else if r.2.status = 1 ∧ z.1.kind = 3 then (leavesC, refuseC 2 z')
  else if r.2.status = 1 then (.thn (.row2 .undo .drop) .leaves, z')
  else if z.1.kind = 3 then (.at none .again, z')
  else (.at none .submits, z')
def runC : MC → ZC → SC × ZC
  | .ends, z => (.row1 .ends1, z)
  | .leaves, z => (leavesC, z)
  | .right, z => if badC z.1 then (.row1 .ends1, refuseC 1 z) else (.at none .enter, z)
  | .enter, z => (.at none .gate, (z.1, { z.2 with f := { z.2.f with inside := z.2.f.inside + 1 } }))
  | .gate, z => if z.2.f.closed = true then (overC z.1, refuseC 3 z)
      else if z.1.kind = 1 ∨ z.1.kind = 2 then (.at none .asks, ({ z.1 with rq := some ⟨z.1.period, 0, 0, 0, 0, 0⟩ }, z.2))
      else (.at none .looks, z)
  | .asks, z => match z.1.rq with
    | none => (.nil, z)
    | some q => asksC z q
  | .queues, z => match z.1.tk with
    | none => (.nil, z)
    | some (i, t) => match z.2.shs[i]? with
      | none => (.nil, z)
      | some s => queuesC z i t s
  | .submits, z => (.at none .fills, noteZ { ev0 with kind := 3, id := (eventC 2 z).1.id, gen := (eventC 2 z).1.gen, dl := (eventC 2 z).1.cdl, per := (eventC 2 z).1.period } (eventC 2 z))
  | .fills, z => (leavesC, (okC (fillC (taskC z) z).1, (fillC (taskC z) z).2))
  | .looks, z =>
    if (lookC z).2 = 0 then
      (if z.1.kind = 3 then (.at none .queues, ({ (lookC z).1.1 with tk := some (homeC (lookC z).1.1.slot z.2, newTick) }, z.2)) else (.at none .tries, (lookC z).1))
    else if (lookC z).2 = 1 then (overC z.1, refuseC 1 (lookC z).1)
    else (overC z.1, refuseC 0 (lookC z).1)
  | .again, z => if (lookC z).2 = 0 then (.at none .tries, (lookC z).1) else (.thn (.row1 .again1) .leaves, refuseC 0 (lookC z).1)
  | .tries, z =>
    if (tryC z).2 ≠ 0 then (if z.1.kind = 3 then (.at none .again, (tryC z).1) else (.at none .looks, (tryC z).1))
    else if z.1.kind = 3 then (.at none .fills, noteZ { ev0 with kind := 6, id := z.1.id, gen := (tryC z).1.1.gen, dl := z.1.cdl } (okC (tryC z).1.1, (tryC z).1.2))
    else if z.1.kind = 5 then (.row1 .ends1, noteZ { ev0 with kind := 8, id := z.1.id, gen := (tryC z).1.1.gen } (okC (tryC z).1.1, (tryC z).1.2))
    else (.thn (.row2 .tries1 .drop) .ends, noteZ { ev0 with kind := 7, id := z.1.id, gen := (tryC z).1.1.gen } (okC (tryC z).1.1, (tryC z).1.2))
def runA : AC → ZC → ZC
  | .ends1, z => noteZ { ev0 with kind := 2, id := z.1.aid, gen := z.1.agen, err := z.1.err } z
  | .leaves1, z => (z.1, { z.2 with f := { z.2.f with inside := lessN z.2.f.inside } })
  | .undo, z => refuseC 2 (eventC 9 z)
  | .drop, z => (z.1, { z.2 with slab := z.2.slab.drop.1 })
  | .tries1, z => eventC 10 z
  | .again1, z => fillC { TaskS.zero with slot := -1 } z

structure WorkOk (k : WorkS) (x : CoreS) : Prop where
  c0 : 0 ≤ k.cdl ∧ k.cdl < 18446744073709551616
  c1 : 0 ≤ k.cper ∧ k.cper < 18446744073709551616
  id : 0 ≤ k.id ∧ k.id < 18446744073709551616
  slot : 0 ≤ k.slot
  saw : 0 ≤ k.saw ∧ k.saw < 18446744073709551616 ∧ okW k.saw = true
  rq : ∀ q, k.rq = some q → ReqOk x.slab.recs.length q
  tk : ∀ i t, k.tk = some (i, t) → TickB t ∧ i < x.shs.length
def preMC (f : MC) (z : ZC) : Prop := CoreOk z.2 ∧ WorkOk z.1 z.2 ∧ (match f with
  | .asks => z.1.rq.isSome = true ∧ ∀ q, z.1.rq = some q → q.st = 0
  | .queues | .fills => z.1.tk.isSome = true
  | _ => True)
def preAC (f : AC) (z : ZC) : Prop := CoreOk z.2 ∧ WorkOk z.1 z.2 ∧ (match f with
  | .again1 => z.1.tk.isSome = true
  | _ => True)

/-! ### In the heap -/
def optR (sb : Nat) : Option Req → Value → List Blk → Prop
  | none, v, g => v = .pointer none ∧ g = []
  | some q, v, g => ∃ qb, v = ptr' qb ∧ g = reqG qb sb q
def optT (L : Lay) : Option (Nat × TickS) → Value → List Blk → Prop
  | none, v, g => v = .pointer none ∧ g = []
  | some (i, t), v, g => ∃ tb q, L.qs[i]? = some q ∧ v = ptr' tb ∧ g = tickG tb q.rb t
def rep2 (L : Lay) (kb : Nat) (pv : Value) (k : WorkS) (x : CoreS) (gK gF : List Blk) : Prop :=
  ∃ rv tv gq gt, optR L.p.sb k.rq rv gq ∧ optT L k.tk tv gt ∧ gK = workB kb L.fb pv rv tv k ++ (gq ++ gt) ∧ isCore L x gF
def repC (L : Lay) (kb : Nat) (pv : Value) (z : ZC) (gK gF : List Blk) : Prop := rep2 L kb pv z.1 z.2 gK gF
def fnMC : MC → FuncId
  | .right => 62
  | .enter => 63
  | .gate => 64
  | .asks => 106
  | .queues => 135
  | .submits => 164
  | .fills => 172
  | .looks => 107
  | .again => 163
  | .tries => 137
  | .ends => 101
  | .leaves => 130
def VMC (kb : Nat) (f : MC) (v : Value) (g : List Blk) : Prop := v = .func (.func (fnMC f)) #[ptr' kb] #[] ∧ g = []
def clo (kb : Nat) (fn : FuncId) (v : Value) (g : List Blk) : Prop := ∃ bk, v = .func (.func fn) #[] #[ptr' bk] ∧ g = [cl bk 26 #[ptr' kb]]
def VAC (kb : Nat) : AC → Value → List Blk → Prop
  | .ends1, v, g => clo kb 128 v g
  | .leaves1, v, g => clo kb 155 v g
  | .undo, v, g => v = .func (.func 161) #[ptr' kb] #[] ∧ g = []
  | .drop, v, g => v = .func (.func 162) #[ptr' kb] #[] ∧ g = []
  | .tries1, v, g => clo kb 173 v g
  | .again1, v, g => clo kb 193 v g
def cliC (L : Lay) (kb : Nat) (pv : Value) : Cli :=
  ⟨MC, AC, Empty, ZC, repC L kb pv, VMC kb, VAC kb, fun _ _ _ => False, runC, runA, (fun y _ => y.elim), preMC, preAC, fun _ _ => True⟩
/-- what a method leaves -/
def MR (L : Lay) (kb : Nat) (pv : Value) (s : SC) (k : WorkS) (x : CoreS) (e : Ending) (gs : GH) : Prop :=
  ∃ m d g' gK' gF', e = .returned (.agg #[m, d]) ∧ (cliC L kb pv).SV s m d g' ∧ rep2 L kb pv k x gK' gF' ∧ gs = [g', gK', gF']
section
variable {L : Lay} {x : CoreS} {gK gF : List Blk} {kb : Nat} {pv : Value} {k : WorkS}
set_option maxRecDepth 100000 in
theorem mEnter (hz : rep2 L kb pv k x gK gF) (hp : preMC .enter (k, x)) : DoesG Tryz.prog 63 #[ptr' kb] [gK, gF] (MR L kb pv (.at none .gate) k { x with f := { x.f with inside := x.f.inside + 1 } }) := by
  have hi0 := hp.1.i0
  have hi1 := hp.1.i1
  obtain ⟨rv, tv, gq, gt, hr, ht, rfl, hx⟩ := hz
  intro w hw
  have T0 := TG.refl hw
  have HT := Lib.hid T0
  clear hw T0
  have HT := Lib.hid (HT.out.sum (H' := [workB kb L.fb pv rv tv k, gq, gt, gF]) (fun n ha h0 h1 h2 => by simp only [pickG, List.map_cons, List.map_nil, List.getD_cons_succ, List.getD_cons_zero, List.set_cons_succ, List.set_cons_zero, List.cons_append, List.flatten_append, List.flatten_cons, List.flatten_nil, List.append_nil, List.nil_append, ha, h0, h1, h2] <;> omega))
  have HX := Lib.hid hx
  have HR := Lib.hid hr
  have HTK := Lib.hid ht
  clear hx hr ht
  have k0 := HT.out.cell 0 0 rfl 0
  simp only [workC, List.getElem?_toArray, List.getElem?_cons_zero, List.getElem?_cons_succ] at k0
  have lt := HT.out.lt 0 0 rfl
  simp only [] at lt
  have HE := Lib.hid (coreEnter HX.out ⟨hi0, hi1⟩)
  clear hp hi0 hi1
  go_enter Tryz.func63, Tryz.ntmps63
  go_wp2_with fail
  refine (DoesG.use (HE.out) (HT.out.alloc (k := w.heap.size) rfl _ _) [3] rfl rfl).mono ?_
  rintro e w1 ⟨gs, ⟨rfl, g1, hx1, rfl⟩, Ta⟩
  simp only [putG, List.set_cons_zero, List.set_cons_succ, List.cons_append, List.nil_append, List.append_nil] at Ta
  have HX := Lib.hid hx1
  clear hx1 k0 lt
  have HT := Lib.hid Ta
  clear Ta
  go_wp2_with fail
  refine (DoesG.use (callsAt) (HT.out) [] rfl rfl).mono ?_
  rintro e w1 ⟨gs, ⟨rfl, rfl⟩, Ta⟩
  simp only [putG, List.set_cons_zero, List.set_cons_succ, List.cons_append, List.nil_append, List.append_nil] at Ta
  have HT := Lib.hid Ta
  clear Ta
  have e0 := HT.out.cell 4 0 rfl 0
  have fe0 := HT.out.free 4 0 rfl 0
  have e1 := HT.out.cell 4 0 rfl 1
  have fe1 := HT.out.free 4 0 rfl 1
  simp only [List.getElem?_nil, List.getElem?_toArray, List.getElem?_cons_zero, List.getElem?_cons_succ] at e0 e1
  go_wp2
  exact bodyPost_ret (v := .agg #[.nilFunc, .func (.func 64) #[ptr' kb] #[]]) (by simp [results, Tryz.results63, go_sem, e0, e1]) rfl ⟨_, ⟨_, _, [], _, _, rfl, ⟨rfl, rfl, rfl⟩, ⟨_, _, gq, gt, HR.out, HTK.out, rfl, HX.out⟩, rfl⟩, (((HT.out.set 4 0 rfl 0 _).set 4 0 rfl 1 _).pick [0, 1, 2, 3] rfl).sum (fun n ha h0 h1 h2 => by simp only [pickG, List.map_cons, List.map_nil, List.getD_cons_succ, List.getD_cons_zero, List.set_cons_succ, List.set_cons_zero, List.cons_append, List.flatten_append, List.flatten_cons, List.flatten_nil, List.append_nil, List.nil_append, ha, h0, h1, h2] <;> omega)⟩

theorem cliC_vals (L : Lay) (kb : Nat) (pv : Value) : (cliC L kb pv).Vals where
  vm h := ⟨_, _, _, h.1⟩
  va {f v g} h := by
    cases f
    case undo => exact ⟨_, _, _, h.1⟩
    case drop => exact ⟨_, _, _, h.1⟩
    all_goals (obtain ⟨bk, h, _⟩ := h; exact ⟨_, _, _, h⟩)
  vy h := h.elim
/-- what ends: the stage alone -/
def SR (L : Lay) (kb : Nat) (pv : Value) (s : SC) (e : Ending) (gs : GH) : Prop := ∃ m d g', e = .returned (.agg #[m, d]) ∧ (cliC L kb pv).SV s m d g' ∧ gs = [g']
end
end Go.Proofs.YthbjaoinklhikaaGreat

namespace Go.Proofs.YthbjaoinklhikaaGreat
set_option linter.unusedVariables false
set_option linter.unusedSimpArgs false
open Go.RowKit Go.Shelf
section
variable {L : Lay} {x : CoreS} {gK gF : List Blk} {kb : Nat} {pv : Value} {k : WorkS}
set_option maxRecDepth 100000 in
theorem sEnds (L : Lay) (kb : Nat) (pv : Value) : DoesG Tryz.prog 101 #[ptr' kb] [] (SR L kb pv (.row1 .ends1)) := by
  intro w hw
  have T0 := TG.refl hw
  have HT := Lib.hid T0
  clear hw T0
  go_enter Tryz.func101, Tryz.ntmps101
  go_wp2_with fail
  refine (DoesG.use (Cli.row_1 (b := w.heap.size + 1 + 1) (o := 0) (D := #[.func (.func 128) #[] #[ptr' w.heap.size]]) rfl 1 (.inl rfl)) (((HT.out.alloc (k := w.heap.size) rfl _ _).alloc (k := w.heap.size + 1) (by simp) _ _).alloc (k := w.heap.size + 1 + 1) (by simp) _ _) [2] rfl rfl).mono ?_
  rintro e w1 ⟨gs, ⟨bf, bl, bi, rfl, rfl⟩, Ta⟩
  simp only [putG, List.set_cons_zero, List.set_cons_succ, List.cons_append, List.nil_append, List.append_nil] at Ta
  have HT := Lib.hid Ta
  clear Ta
  have e0 := HT.out.cell 1 0 rfl 0
  have fe0 := HT.out.free 1 0 rfl 0
  have e1 := HT.out.cell 1 0 rfl 1
  have fe1 := HT.out.free 1 0 rfl 1
  simp only [List.getElem?_nil, List.getElem?_toArray, List.getElem?_cons_zero, List.getElem?_cons_succ] at e0 e1
  go_wp2
  exact bodyPost_ret (v := .agg #[.nilFunc, _]) (by simp [results, Tryz.results101, go_sem, e0, e1]) rfl ⟨_, ⟨_, _, _, rfl, ⟨rfl, bf, bl, bi, w.heap.size + 1 + 1, 0, #[.func (.func 128) #[] #[ptr' w.heap.size]], _, _, rfl, ⟨w.heap.size, rfl, rfl⟩, rfl, rfl⟩, rfl⟩, (((HT.out.set 1 0 rfl 0 _).set 1 0 rfl 1 _).pick [0, 2, 3, 4, 5] rfl).sum (fun n ha h0 h1 h2 => by simp only [pickG, List.map_cons, List.map_nil, List.getD_cons_succ, List.getD_cons_zero, List.set_cons_succ, List.set_cons_zero, List.cons_append, List.flatten_append, List.flatten_cons, List.flatten_nil, List.append_nil, List.nil_append, ha, h0, h1, h2] <;> omega)⟩
set_option maxHeartbeats 4000000 in
set_option maxRecDepth 100000 in
theorem sLeaves (L : Lay) (kb : Nat) (pv : Value) : DoesG Tryz.prog 130 #[ptr' kb] [] (SR L kb pv leavesC) := by
  have hrow : ∀ (bk b bf bl bi : Nat), (cliC L kb pv).SV (.row1 .leaves1) .nilFunc (.func (.func 154) #[] #[ptr' bf, ptr' bl, ptr' bi])
      ([cl bf 1 #[.func (.func 155) #[] #[ptr' bk]], cl bl 226 #[.slice (some ⟨b, 0, none⟩) 1 1], cl bi 3 #[.int .i64 0], cl b 1 #[.func (.func 155) #[] #[ptr' bk]]] ++ [cl bk 26 #[ptr' kb]]) :=
    fun bk b bf bl bi => ⟨rfl, bf, bl, bi, b, 0, _, _, _, rfl, ⟨bk, rfl, rfl⟩, rfl, rfl⟩
  have hthen : ∀ (bk b bf bl bi : Nat), _ := fun bk b bf bl bi => Cli.prog_then_cons (f := MC.ends) (v := .func (.func 101) #[ptr' kb] #[]) (gm := []) (cliC_vals L kb pv) rfl (hrow bk b bf bl bi) ⟨rfl, rfl⟩
  intro w hw
  have T0 := TG.refl hw
  have HT := Lib.hid T0
  clear hw T0
  have HTH := Lib.hid hthen
  clear hrow hthen
  go_enter Tryz.func130, Tryz.ntmps130
  go_wp2_with fail
  have HT := Lib.hid ((HT.out.alloc (k := w.heap.size) rfl 26 #[ptr' kb]).alloc (k := w.heap.size + 1) (by simp) 106 #[.nilFunc, .nilFunc])
  go_region_with (first
    | (go_at_call 127
       refine (DoesG.use (Cli.row_1 (b := w.heap.size + 1 + 1) (o := 0) (D := #[.func (.func 155) #[] #[ptr' w.heap.size]]) rfl 1 (.inl rfl)) (HT.out.drew.alloc (k := w.heap.size + 1 + 1) (by simp) _ _) [2] rfl rfl).mono ?_
       rintro e w1 ⟨gs, ⟨bf, bl, bi, rfl, rfl⟩, Ta⟩
       simp only [putG, List.set_cons_zero, List.set_cons_succ, List.cons_append, List.nil_append, List.append_nil] at Ta
       have b0 := Ta.cell 0 0 rfl 0
       simp only [List.getElem?_toArray, List.getElem?_cons_zero] at b0
       have HT1 := Lib.hid (Ta.sum (H' := [[cl bf 1 #[.func (.func 155) #[] #[ptr' w.heap.size]], cl bl 226 #[.slice (some ⟨w.heap.size + 1 + 1, 0, none⟩) 1 1], cl bi 3 #[.int .i64 0], cl (w.heap.size + 1 + 1) 1 #[.func (.func 155) #[] #[ptr' w.heap.size]]] ++ [cl w.heap.size 26 #[ptr' kb]], [cl (w.heap.size + 1) 106 #[.nilFunc, .nilFunc]], []]) (fun n ha h0 h1 h2 => by simp only [pickG, List.map_cons, List.map_nil, List.getD_cons_succ, List.getD_cons_zero, List.set_cons_succ, List.set_cons_zero, List.cons_append, List.flatten_append, List.flatten_cons, List.flatten_nil, List.append_nil, List.nil_append, ha, h0, h1, h2] <;> omega))
       clear Ta)
    | (go_at_call 143
       refine (DoesG.use (HTH.out _ _ _ _ _) HT1.out [0, 2] rfl rfl).mono ?_
       rintro e w2 ⟨gs, ⟨m2, d2, g2, rfl, hs2, rfl⟩, Ta⟩
       simp only [putG, List.set_cons_zero, List.set_cons_succ, List.cons_append, List.nil_append, List.append_nil] at Ta
       have e0 := Ta.cell 1 0 rfl 0
       have e1 := Ta.cell 1 0 rfl 1
       have f0 := Ta.free 1 0 rfl 0
       have f1 := Ta.free 1 0 rfl 1
       have hv2 := (cliC_vals L kb pv).vals hs2
       obtain ⟨st1, st2⟩ := Cli.store_fv2 (P := Tryz.prog) hv2.1 hv2.2 e0 f0 e1 f1
       clear hv2
       have HS2 := Lib.hid hs2
       have HT2 := Lib.hid Ta
       clear Ta hs2))
  all_goals
    go_wp2
    exact bodyPost_ret (v := .agg #[_, _]) (by simp [results, Tryz.results130, go_sem, e0, e1]) rfl ⟨_, ⟨m2, d2, g2, rfl, HS2.out, rfl⟩, ((HT2.out.set 1 0 rfl 0 _).set 1 0 rfl 1 _).pick [0] rfl⟩
end
end Go.Proofs.YthbjaoinklhikaaGreat

namespace Go.Proofs.YthbjaoinklhikaaGreat
set_option linter.unusedVariables false
set_option linter.unusedSimpArgs false
open Go.RowKit Go.Shelf
section
variable {L : Lay} {x : CoreS} {gK gF : List Blk} {kb : Nat} {pv : Value} {k : WorkS}

theorem times_add_r (x y : Int) (hx : 0 ≤ x) (hy : 0 ≤ y) (h : x + y < 18446744073709551616) : ReadsG Tryz.prog 99 #[.int .u64 x, .int .u64 y] [] (.tuple #[.int .u64 (x + y), .int .i64 0]) := by
  intro w hw
  have ha : ∀ w, (callFunc 126 #[.int .u64 x, .int .u64 y, .int .u64 0]).run Tryz.prog w = .ok (.value (.tuple #[.int .u64 (x + y), .int .u64 0])) w := fun w => by
    rw [add64_run x y hx hy w, show (x + y + 0) % 18446744073709551616 = x + y by omega, show (x + y + 0) / 18446744073709551616 = 0 by omega]
  clear h hx hy hw
  go_enter Tryz.func99, Tryz.ntmps99
  go_wp2_with (simp only [ha])
  go_ret2
  exact ⟨rfl, 0, rfl⟩
theorem times_over_r (x y : Int) (hx : 0 ≤ x) (hy : 0 ≤ y) (hx1 : x < 18446744073709551616) (hy1 : y < 18446744073709551616) (h : 18446744073709551616 ≤ x + y) : ReadsG Tryz.prog 99 #[.int .u64 x, .int .u64 y] [] (.tuple #[.int .u64 0, .int .i64 9]) := by
  intro w hw
  obtain ⟨z, hz⟩ : ∃ z, (x + y + 0) % 18446744073709551616 = z := ⟨_, rfl⟩
  have ha : ∀ w, (callFunc 126 #[.int .u64 x, .int .u64 y, .int .u64 0]).run Tryz.prog w = .ok (.value (.tuple #[.int .u64 z, .int .u64 1])) w := fun w => by
    rw [add64_run x y hx hy w, hz, show (x + y + 0) / 18446744073709551616 = 1 by omega]
  clear h hx hy hw hx1 hy1 hz
  go_enter Tryz.func99, Tryz.ntmps99
  go_wp2_with (simp only [ha])
  go_ret2
  exact ⟨rfl, 0, rfl⟩
set_option maxRecDepth 100000 in
theorem sOver {rv tv : Value} : DoesG Tryz.prog 103 #[ptr' kb] [workB kb L.fb pv rv tv k] fun e gs => ∃ m d g', e = .returned (.agg #[m, d]) ∧ (cliC L kb pv).SV (overC k) m d g' ∧ gs = [workB kb L.fb pv rv tv k, g'] := by
  by_cases h4 : k.kind = 4
  · have HO : overC k = .row1 .ends1 := if_pos (.inl h4)
    rw [HO]
    intro w hw
    have T0 := TG.refl hw
    have HT := Lib.hid T0
    clear hw T0
    have k3 := HT.out.cell 0 0 rfl 3
    simp only [workC, List.getElem?_toArray, List.getElem?_cons_zero, List.getElem?_cons_succ] at k3
    rw [h4] at k3
    have lt := HT.out.lt 0 0 rfl
    simp only [] at lt
    clear h4 HO
    go_enter Tryz.func103, Tryz.ntmps103
    go_wp2_with fail
    refine (DoesG.use (sEnds L kb pv) (HT.out.alloc (k := w.heap.size) rfl _ _) [] rfl rfl).mono ?_
    rintro e w1 ⟨gs, ⟨m2, d2, g2, rfl, hs2, rfl⟩, Ta⟩
    simp only [putG, List.set_cons_zero, List.set_cons_succ, List.cons_append, List.nil_append, List.append_nil] at Ta
    have HT := Lib.hid Ta
    clear Ta
    have e0 := HT.out.cell 1 0 rfl 0
    have fe0 := HT.out.free 1 0 rfl 0
    have e1 := HT.out.cell 1 0 rfl 1
    have fe1 := HT.out.free 1 0 rfl 1
    simp only [List.getElem?_nil, List.getElem?_toArray, List.getElem?_cons_zero, List.getElem?_cons_succ] at e0 e1
    have hv2 := (cliC_vals L kb pv).vals hs2
    obtain ⟨st1, st2⟩ := Cli.store_fv2 (P := Tryz.prog) hv2.1 hv2.2 e0 fe0 e1 fe1
    have HS := Lib.hid hs2
    clear hv2 hs2
    go_wp2
    exact bodyPost_ret (v := .agg #[_, _]) (by simp [results, Tryz.results103, go_sem, e0, e1]) rfl ⟨_, ⟨m2, d2, g2, rfl, HS.out, rfl⟩, ((HT.out.set 1 0 rfl 0 _).set 1 0 rfl 1 _).pick [0, 2] rfl⟩
  · by_cases h5 : k.kind = 5
    · have HO : overC k = .row1 .ends1 := if_pos (.inr h5)
      rw [HO]
      intro w hw
      have T0 := TG.refl hw
      have HT := Lib.hid T0
      clear hw T0
      have k3 := HT.out.cell 0 0 rfl 3
      simp only [workC, List.getElem?_toArray, List.getElem?_cons_zero, List.getElem?_cons_succ] at k3
      rw [h5] at k3
      have lt := HT.out.lt 0 0 rfl
      simp only [] at lt
      clear h4 h5 HO
      go_enter Tryz.func103, Tryz.ntmps103
      go_wp2_with fail
      refine (DoesG.use (sEnds L kb pv) (HT.out.alloc (k := w.heap.size) rfl _ _) [] rfl rfl).mono ?_
      rintro e w1 ⟨gs, ⟨m2, d2, g2, rfl, hs2, rfl⟩, Ta⟩
      simp only [putG, List.set_cons_zero, List.set_cons_succ, List.cons_append, List.nil_append, List.append_nil] at Ta
      have HT := Lib.hid Ta
      clear Ta
      have e0 := HT.out.cell 1 0 rfl 0
      have fe0 := HT.out.free 1 0 rfl 0
      have e1 := HT.out.cell 1 0 rfl 1
      have fe1 := HT.out.free 1 0 rfl 1
      simp only [List.getElem?_nil, List.getElem?_toArray, List.getElem?_cons_zero, List.getElem?_cons_succ] at e0 e1
      have hv2 := (cliC_vals L kb pv).vals hs2
      obtain ⟨st1, st2⟩ := Cli.store_fv2 (P := Tryz.prog) hv2.1 hv2.2 e0 fe0 e1 fe1
      have HS := Lib.hid hs2
      clear hv2 hs2
      go_wp2
      exact bodyPost_ret (v := .agg #[_, _]) (by simp [results, Tryz.results103, go_sem, e0, e1]) rfl ⟨_, ⟨m2, d2, g2, rfl, HS.out, rfl⟩, ((HT.out.set 1 0 rfl 0 _).set 1 0 rfl 1 _).pick [0, 2] rfl⟩
    · have HO : overC k = leavesC := if_neg (by omega)
      have hb4 : (k.kind == 4) = false := beq_eq_false_iff_ne.2 h4
      have hb5 : (k.kind == 5) = false := beq_eq_false_iff_ne.2 h5
      rw [HO]
      intro w hw
      have T0 := TG.refl hw
      have HT := Lib.hid T0
      clear hw T0
      have k3 := HT.out.cell 0 0 rfl 3
      simp only [workC, List.getElem?_toArray, List.getElem?_cons_zero, List.getElem?_cons_succ] at k3
      rw [(show k.kind = k.kind from rfl)] at k3
      have lt := HT.out.lt 0 0 rfl
      simp only [] at lt
      clear h4 h5 HO
      go_enter Tryz.func103, Tryz.ntmps103
      go_wp2_with fail
      refine (DoesG.use (sLeaves L kb pv) (HT.out.alloc (k := w.heap.size) rfl _ _) [] rfl rfl).mono ?_
      rintro e w1 ⟨gs, ⟨m2, d2, g2, rfl, hs2, rfl⟩, Ta⟩
      simp only [putG, List.set_cons_zero, List.set_cons_succ, List.cons_append, List.nil_append, List.append_nil] at Ta
      have HT := Lib.hid Ta
      clear Ta
      have e0 := HT.out.cell 1 0 rfl 0
      have fe0 := HT.out.free 1 0 rfl 0
      have e1 := HT.out.cell 1 0 rfl 1
      have fe1 := HT.out.free 1 0 rfl 1
      simp only [List.getElem?_nil, List.getElem?_toArray, List.getElem?_cons_zero, List.getElem?_cons_succ] at e0 e1
      have hv2 := (cliC_vals L kb pv).vals hs2
      obtain ⟨st1, st2⟩ := Cli.store_fv2 (P := Tryz.prog) hv2.1 hv2.2 e0 fe0 e1 fe1
      have HS := Lib.hid hs2
      clear hv2 hs2
      go_wp2
      exact bodyPost_ret (v := .agg #[_, _]) (by simp [results, Tryz.results103, go_sem, e0, e1]) rfl ⟨_, ⟨m2, d2, g2, rfl, HS.out, rfl⟩, ((HT.out.set 1 0 rfl 0 _).set 1 0 rfl 1 _).pick [0, 2] rfl⟩
end
end Go.Proofs.YthbjaoinklhikaaGreat
