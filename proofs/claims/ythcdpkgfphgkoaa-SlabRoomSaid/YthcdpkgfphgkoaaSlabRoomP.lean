import Derived.Test.YthcdpkgfphgkoaaSlabAP
namespace Go.Proofs.Ythcdpkgfphgkoaa
set_option linter.unusedVariables false
set_option linter.unusedSimpArgs false

/-! ## Requests that step between each other (plain) -/
/-- does a request hold a place of the count? -/
def seekB (q : Req) : Bool := decide (q.st = 0) && decide (q.next = 2)
def seekers (rs : List (Nat × Req)) : Nat := rs.countP fun p => seekB p.2
theorem seekers_set {rs : List (Nat × Req)} {k : Nat} {b : Nat} {q : Req} (q' : Req) (h : rs[k]? = some (b, q)) : seekers (rs.set k (b, q')) + (if seekB q then 1 else 0) = seekers rs + (if seekB q' then 1 else 0) := by
  unfold seekers
  induction rs generalizing k with
  | nil => simp at h
  | cons a l ih =>
    cases k with
    | zero =>
      simp only [List.getElem?_cons_zero, Option.some.injEq] at h
      subst h
      simp only [List.set_cons_zero, List.countP_cons]
      omega
    | succ k =>
      simp only [List.getElem?_cons_succ] at h
      simp only [List.set_cons_succ, List.countP_cons]
      have := ih h
      omega
theorem seekers_snoc (rs : List (Nat × Req)) (b : Nat) (p : Int) : seekers (rs ++ [(b, newReq p)]) = seekers rs := by
  simp [seekers, List.countP_append, seekB, newReq]
theorem seekers_pos {rs : List (Nat × Req)} {k : Nat} {b : Nat} {q : Req} (h : rs[k]? = some (b, q)) (hq : seekB q = true) : 1 ≤ seekers rs := by
  unfold seekers
  exact List.countP_pos_iff.2 ⟨(b, q), List.mem_of_getElem? h, hq⟩

/-- what a step makes of a slab, and a request -/
theorem tame_step {s : SlabS} {n : Nat} {t m : Int} (h : Tame s n t m) (ht : t < 4294967295) {q : Req} (hq : ReqOk n q) :
    Tame (stepR s q).1 n (t + 1) (m + (if seekB (stepR s q).2 then 1 else 0) - (if seekB q then 1 else 0)) ∧ ReqOk n (stepR s q).2 ∧ (stepR s q).2.p = q.p ∧
      ((q.st = 2 → (stepR s q).2 = q ∧ (stepR s q).1 = s) ∧ (q.st ≠ 2 → (stepR s q).2.st = 2 → ∃ (j : Nat) (r : Rec), s.recs[j]? = some r ∧ (stepR s q).1 = { s with recs := s.recs.set j (takenR r q.p) } ∧ (stepR s q).2.id = (r.g + 1) * 64 + j)) ∧
      (∀ i, (s.recs.getD i Rec.zero).g ≤ ((stepR s q).1.recs.getD i Rec.zero).g) := by
  have hok := stepR_ok h.ok (q := q) (by rw [h.len]; exact hq)
  have hrq : ReqOk n (stepR s q).2 := by rw [← h.len]; exact hok.2.1
  by_cases h0 : q.st ≠ 0
  · have e : stepR s q = (s, q) := if_pos h0
    rw [e] at hrq ⊢
    exact ⟨(by simpa using h.mono (by omega)), hrq, rfl, ⟨fun _ => ⟨rfl, rfl⟩, fun h1 h2 => absurd h2 h1⟩, fun i => Int.le_refl _⟩
  have h0 : q.st = 0 := Decidable.not_not.1 h0
  rcases hq.next with h1 | ⟨h1, s0, s1⟩ | h1
  · have e : stepR s q = (s, lookR s q) := by unfold stepR; rw [if_neg (by omega), if_pos h1]
    have hb : seekB q = false := by simp [seekB, h1]
    have hb' : seekB (lookR s q) = false := by
      unfold lookR
      split
      · simp [seekB]
      · simp [seekB]
    rw [e] at hrq ⊢
    rw [hb, hb']
    refine ⟨(by simpa using h.mono (by omega)), hrq, ?_, ⟨fun x => by omega, fun _ x => ?_⟩, fun i => Int.le_refl _⟩
    · unfold lookR; split <;> rfl
    · exfalso; unfold lookR at x; split at x
      · exact absurd x (by show ¬ (1 : Int) = 2; decide)
      · exact absurd (h0.symm.trans x) (by decide)
  · have e : stepR s q = moreR s q := by unfold stepR; rw [if_neg (by omega), if_neg (by omega), if_pos h1]
    have hb : seekB q = false := by simp [seekB, h1]
    rw [e] at hrq ⊢
    rw [hb]
    unfold moreR
    by_cases hc : s.count = q.saw
    · rw [if_pos hc]
      have hb' : seekB { q with next := 2 } = true := by simp [seekB, h0]
      simp only [hb', if_true, Bool.false_eq_true, if_false]
      refine ⟨by have := (tame_more h (by omega)).mono (show t ≤ t + 1 by omega); simpa using this, ?_, trivial, ⟨fun x => by omega, fun _ x => ?_⟩, fun i => Int.le_refl _⟩
      · unfold moreR at hrq; rwa [if_pos hc] at hrq
      · exfalso; exact absurd (h0.symm.trans x) (by decide)
    · rw [if_neg hc]
      have hb' : seekB { q with next := 0 } = false := by simp [seekB]
      simp only [hb', Bool.false_eq_true, if_false]
      refine ⟨by simpa using h.mono (by omega), ?_, trivial, ⟨fun x => by omega, fun _ x => ?_⟩, fun i => Int.le_refl _⟩
      · unfold moreR at hrq; rwa [if_neg hc] at hrq
      · exfalso; exact absurd (h0.symm.trans x) (by decide)
  · have hb : seekB q = true := by simp [seekB, h0, h1]
    obtain ⟨j, hj⟩ := Int.eq_ofNat_of_zero_le hq.slot0
    have hjn : j < s.recs.length := by have := hq.slot1; have := h.len; omega
    have hr := List.getElem?_eq_getElem hjn
    obtain ⟨ho, hst, hg⟩ := h.get hr
    by_cases hf : stW s.recs[j].w = 0
    · have e := seek_free h0 h1 hj hr ho hf (by omega)
      rw [e] at hrq ⊢
      have hb' : seekB { q with id := (s.recs[j].g + 1) * 64 + j, st := 2 } = false := by simp [seekB]
      rw [hb]
      simp only [hb', Bool.false_eq_true, if_false, if_true]
      refine ⟨by have := tame_taken h hr hf (p := q.p) ht hq.p0 hq.p1; simpa using this, hrq, trivial, ⟨fun x => by omega, fun _ _ => ⟨j, _, hr, rfl, rfl⟩⟩, fun i => ?_⟩
      show _ ≤ ((s.recs.set j (takenR s.recs[j] q.p)).getD i Rec.zero).g
      rw [List.getD_eq_getElem?_getD, List.getD_eq_getElem?_getD, List.getElem?_set]
      by_cases e2 : j = i
      · subst e2
        rw [if_pos rfl, if_pos hjn, hr]
        show s.recs[j].g ≤ s.recs[j].g + 1
        omega
      · rw [if_neg e2]; exact Int.le_refl _
    · have hone : seekR s q = (s, { q with slot := (q.slot + 1) % s.recs.length }) := by
        unfold seekR
        simp only [hj, Int.toNat_natCast, getD_of hr, alloc_busy ho.w0 ho.w1 ho.ok hf]
        rw [if_neg (by decide)]
      have e : stepR s q = (s, { q with slot := (q.slot + 1) % s.recs.length }) := by
        unfold stepR; rw [if_neg (by omega), if_neg (by omega), if_neg (by omega)]; exact hone
      rw [e] at hrq ⊢
      have hb' : seekB { q with slot := (q.slot + 1) % s.recs.length } = true := by simp [seekB, h0, h1]
      rw [hb]
      simp only [hb', if_true]
      refine ⟨by have := h.mono (show t ≤ t + 1 by omega); simpa using this, hrq, trivial, ⟨fun x => by omega, fun _ x => ?_⟩, fun i => Int.le_refl _⟩
      exfalso; exact absurd (h0.symm.trans x) (by decide)
end Go.Proofs.Ythcdpkgfphgkoaa
