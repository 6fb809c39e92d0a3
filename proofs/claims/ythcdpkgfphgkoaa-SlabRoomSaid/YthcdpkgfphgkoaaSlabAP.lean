import Derived.Test.YthcdpkgfphgkoaaSlabQ
namespace Go.Proofs.Ythcdpkgfphgkoaa
set_option linter.unusedVariables false
set_option linter.unusedSimpArgs false

/-! ## A record is made free, as the laws do it -/
def freeS (s : SlabS) (k : Int) : SlabS × Bool :=
  if s.werr k ≠ 0 ∨ stW (s.word k) = 0 then (s, false)
  else if (s.try k (s.word k) 9).2.2 = 0 ∧ stW (s.try k (s.word k) 9).2.1 = 0 then ((s.try k (s.word k) 9).1.drop.1, decide ((s.try k (s.word k) 9).1.drop.2 = 0))
  else ((s.try k (s.word k) 9).1, false)

/-! ## How many records are used (plain) -/
def busyB (r : Rec) : Bool := !decide (stW r.w = 0)
def usedS (l : List Rec) : Nat := l.countP busyB
theorem used_set {l : List Rec} {k : Nat} {x : Rec} (r : Rec) (h : l[k]? = some x) : usedS (l.set k r) + (if busyB x then 1 else 0) = usedS l + (if busyB r then 1 else 0) := by
  unfold usedS
  induction l generalizing k with
  | nil => simp at h
  | cons a l ih =>
    cases k with
    | zero =>
      simp only [List.getElem?_cons_zero, Option.some.injEq] at h
      subst h
      simp only [List.set_cons_zero, List.countP_cons]
      omega
    | succ k =>
      simp only [List.getElem?_cons_succ] at h
      simp only [List.set_cons_succ, List.countP_cons]
      have := ih h
      omega
theorem used_le (l : List Rec) : usedS l ≤ l.length := List.countP_le_length
theorem used_all {l : List Rec} (h : ∀ r ∈ l, busyB r = true) : usedS l = l.length := List.countP_eq_length.2 h
/-- where not all are used, there is a first one that is free -/
theorem first_free {l : List Rec} (h : usedS l < l.length) : ∃ (j : Nat) (r : Rec), l[j]? = some r ∧ busyB r = false ∧ ∀ (i : Nat) (x : Rec), i < j → l[i]? = some x → busyB x = true := by
  induction l with
  | nil => simp at h
  | cons a l ih =>
    cases hb : busyB a
    · exact ⟨0, a, rfl, hb, fun i x hi => absurd hi (Nat.not_lt_zero _)⟩
    · have h' : usedS l < l.length := by simp only [usedS, List.countP_cons, hb, if_true, List.length_cons] at h ⊢; omega
      obtain ⟨j, r, h1, h2, h3⟩ := ih h'
      refine ⟨j + 1, r, by simpa using h1, h2, fun i x hi hx => ?_⟩
      cases i with
      | zero => simp at hx; subst hx; exact hb
      | succ i => exact h3 i x (by omega) (by simpa using hx)
theorem busy_true {r : Rec} (h : stW r.w ≠ 0) : busyB r = true := by simp [busyB, h]
theorem busy_false {r : Rec} (h : stW r.w = 0) : busyB r = false := by simp [busyB, h]
theorem of_busy {r : Rec} (h : busyB r = true) : stW r.w ≠ 0 := by simpa [busyB] using h
theorem of_free {r : Rec} (h : busyB r = false) : stW r.w = 0 := by simpa [busyB] using h

/-- of laws in which records are only taken and freed: each is free, or pending; generations are small -/
structure Tame (s : SlabS) (n : Nat) (t : Int) (more : Int) : Prop where
  ok : SlabOk s
  len : s.recs.length = n
  recs : ∀ r ∈ s.recs, (stW r.w = 0 ∨ stW r.w = 1) ∧ genW r.w ≤ t
  used : (usedS s.recs : Int) + more = s.count
theorem Tame.get {s : SlabS} {n : Nat} {t m : Int} (h : Tame s n t m) {k : Nat} {r : Rec} (hr : s.recs[k]? = some r) : RecOk r ∧ (stW r.w = 0 ∨ stW r.w = 1) ∧ genW r.w ≤ t :=
  ⟨h.ok.recs _ (List.mem_of_getElem? hr), h.recs _ (List.mem_of_getElem? hr)⟩
theorem new_tame {n : Nat} (h1 : 1 ≤ n) (h2 : n ≤ 64) : Tame (newSlab n) n 0 0 := by
  refine ⟨newSlab_ok h1 h2, by simp [newSlab], fun r hr => ?_, ?_⟩
  · simp only [newSlab, List.mem_replicate] at hr
    obtain ⟨_, rfl⟩ := hr
    exact ⟨.inl (by decide), by decide⟩
  · have : usedS (newSlab n).recs = 0 := by simp [usedS, newSlab, List.countP_replicate, show busyB Rec.zero = false from by decide]
    rw [this]; rfl
theorem Tame.mono {s : SlabS} {n : Nat} {t t' m : Int} (h : Tame s n t m) (ht : t ≤ t') : Tame s n t' m := ⟨h.ok, h.len, fun r hr => ⟨(h.recs r hr).1, Int.le_trans (h.recs r hr).2 ht⟩, h.used⟩
theorem getD_of {l : List Rec} {k : Nat} {r : Rec} (h : l[k]? = some r) : l.getD k Rec.zero = r := by rw [List.getD_eq_getElem?_getD, h]; rfl
theorem slab_eta (s : SlabS) (c : Int) (h : c = s.count) : ({ s with count := c } : SlabS) = s := by subst h; rfl

/-- a record that is taken -/
def takenR (r : Rec) (p : Int) : Rec := ⟨packW 1 (genW r.w + 1) false, r.g + 1, p⟩
theorem taken_ok {r : Rec} (h : RecOk r) {p : Int} (hg : genW r.w < 4294967295) (p0 : 0 ≤ p) (p1 : p < 18446744073709551616) : RecOk (takenR r p) ∧ stW (takenR r p).w = 1 ∧ genW (takenR r p).w = genW r.w + 1 := by
  have hb := ok_bd r.w h.w0 h.ok
  have hp := packW_parts 1 (genW r.w + 1) false (by decide) (by decide) (by omega) (by omega)
  refine ⟨⟨hp.2.2.2.2.1, hp.2.2.2.2.2, hp.1, by have := h.g0; show 0 ≤ r.g + 1; omega, ?_, p0, p1⟩, hp.2.1, hp.2.2.1⟩
  show r.g + 1 ≤ genW (packW 1 (genW r.w + 1) false)
  rw [hp.2.2.1]; have := h.g1; omega
/-- a seek of a record that is used, or free -/
theorem seek_busy {s : SlabS} {q : Req} {k : Nat} {r : Rec} (hst : q.st = 0) (hnx : q.next = 2) (hk : q.slot = k) (hr : s.recs[k]? = some r) (ho : RecOk r) (hb : stW r.w ≠ 0) (hl : k + 1 < s.recs.length) :
    stepR s q = (s, { q with slot := ((k + 1 : Nat) : Int) }) := by
  unfold stepR seekR
  rw [if_neg (by omega), if_neg (by omega), if_neg (by omega)]
  simp only [hk, Int.toNat_natCast, getD_of hr, alloc_busy ho.w0 ho.w1 ho.ok hb]
  rw [if_neg (by decide), Int.emod_eq_of_lt (by omega) (by omega)]
  rfl
theorem seek_free {s : SlabS} {q : Req} {k : Nat} {r : Rec} (hst : q.st = 0) (hnx : q.next = 2) (hk : q.slot = k) (hr : s.recs[k]? = some r) (ho : RecOk r) (hb : stW r.w = 0) (hg : genW r.w < 4294967295) :
    stepR s q = ({ s with recs := s.recs.set k (takenR r q.p) }, { q with id := (r.g + 1) * 64 + k, st := 2 }) := by
  unfold stepR seekR
  rw [if_neg (by omega), if_neg (by omega), if_neg (by omega)]
  simp only [hk, Int.toNat_natCast, getD_of hr, alloc_free ho.w0 ho.w1 ho.ok hb hg]
  rfl
theorem tame_taken {s : SlabS} {n : Nat} {t m : Int} (h : Tame s n t m) {k : Nat} {r : Rec} (hr : s.recs[k]? = some r) (hb : stW r.w = 0) {p : Int} (ht : t < 4294967295) (p0 : 0 ≤ p) (p1 : p < 18446744073709551616) :
    Tame { s with recs := s.recs.set k (takenR r p) } n (t + 1) (m - 1) := by
  obtain ⟨ho, _, hg⟩ := h.get hr
  obtain ⟨a, b, c⟩ := taken_ok ho (p := p) (by omega) p0 p1
  refine ⟨h.ok.set a, by simpa using h.len, fun x hx => ?_, ?_⟩
  · rcases List.mem_or_eq_of_mem_set hx with h1 | rfl
    · exact (h.mono (by omega)).recs x h1
    · exact ⟨.inr b, by omega⟩
  · have h1 := used_set (takenR r p) hr
    have h2 := h.used
    rw [busy_false hb, busy_true (r := takenR r p) (by omega)] at h1
    show ((usedS (s.recs.set k (takenR r p)) : Nat) : Int) + (m - 1) = s.count
    simp only [Bool.false_eq_true, if_false, if_true] at h1
    omega
theorem finish_pending {n : Int} {p : Bool} (h0 : 0 ≤ n) (h1 : n < 18446744073709551616) (hk : okW n = true) (hs : stW n = 1) : nextW n 9 p = (packW 0 (genW n) (lastW n), 0) := by
  have hb := ok_bd n h0 hk
  unfold nextW
  rw [if_neg (by simp [hk]), if_neg (by omega)]
  have e : toW (stW n) 9 (p && !lastW n) = (0, 0, true) := by rw [hs]; rfl
  simp only [e]
  rw [if_neg (by simp), if_neg (by omega)]
  simp
theorem tame_free {s : SlabS} {n : Nat} {t m : Int} (h : Tame s n t m) (hm : 0 ≤ m) (k : Int) : Tame (freeS s k).1 n t m := by
  unfold freeS
  by_cases h1 : s.werr k ≠ 0 ∨ stW (s.word k) = 0
  · rw [if_pos h1]; exact h
  rw [if_neg h1]
  obtain ⟨h2, h3⟩ : s.werr k = 0 ∧ stW (s.word k) ≠ 0 := by omega
  have hk : s.has k := by
    unfold SlabS.werr at h2
    by_cases hh : s.has k
    · exact hh
    · rw [if_neg hh] at h2; omega
  obtain ⟨j, rfl⟩ := SlabS.has_nat hk
  obtain ⟨r, hr, hg⟩ := SlabS.has_at hk
  obtain ⟨ho, hs, hgen⟩ := h.get hr
  have hw : s.word j = r.w := by unfold SlabS.word; rw [if_pos hk, hg]
  rw [hw] at h3 ⊢
  have hst : stW r.w = 1 := by omega
  have hb := ok_bd r.w ho.w0 ho.ok
  have hf := finish_pending (p := decide (0 < r.p)) ho.w0 ho.w1 ho.ok hst
  have hp := packW_parts 0 (genW r.w) (lastW r.w) (by decide) (by decide) hb.2.2.1 hb.2.2.2
  have ht : s.try j r.w 9 = ({ s with recs := s.recs.set j { r with w := packW 0 (genW r.w) (lastW r.w) } }, packW 0 (genW r.w) (lastW r.w), 0) := by
    unfold SlabS.try
    rw [if_pos hk]
    simp only [hg, hf]
    rw [if_neg (by simp), if_pos trivial]
    rfl
  rw [ht]
  simp only [hp.2.1, and_self, if_true]
  have hu := used_set { r with w := packW 0 (genW r.w) (lastW r.w) } hr
  rw [busy_true h3, busy_false (r := { r with w := packW 0 (genW r.w) (lastW r.w) }) hp.2.1] at hu
  simp only [if_true, Bool.false_eq_true, if_false] at hu
  have hc := h.used
  have hcount : 0 < s.count := by omega
  unfold SlabS.drop
  simp only [hcount, if_true]
  have hok := (drop_ok (s := { s with recs := s.recs.set j { r with w := packW 0 (genW r.w) (lastW r.w) } }) (h.ok.set ⟨hp.2.2.2.2.1, hp.2.2.2.2.2, hp.1, ho.g0, by show r.g ≤ genW (packW 0 (genW r.w) (lastW r.w)); rw [hp.2.2.1]; exact ho.g1, ho.p0, ho.p1⟩)).1
  unfold SlabS.drop at hok
  simp only [hcount, if_true] at hok
  refine ⟨hok, by simpa using h.len, fun x hx => ?_, ?_⟩
  · rcases List.mem_or_eq_of_mem_set hx with h5 | rfl
    · exact h.recs x h5
    · exact ⟨.inl hp.2.1, by rw [show genW (packW 0 (genW r.w) (lastW r.w)) = genW r.w from hp.2.2.1]; exact hgen⟩
  · show ((usedS (s.recs.set j { r with w := packW 0 (genW r.w) (lastW r.w) }) : Nat) : Int) + m = s.count - 1
    omega
theorem tame_more {s : SlabS} {n : Nat} {t m : Int} (h : Tame s n t m) (hc : s.count < n) : Tame { s with count := s.count + 1 } n t (m + 1) :=
  ⟨⟨h.ok.n0, h.ok.n1, by have := h.ok.c0; show 0 ≤ s.count + 1; omega, by have := h.len; show s.count + 1 ≤ (s.recs.length : Int); omega, h.ok.recs⟩, h.len, h.recs, by have := h.used; show (usedS s.recs : Int) + (m + 1) = s.count + 1; omega⟩
end Go.Proofs.Ythcdpkgfphgkoaa
