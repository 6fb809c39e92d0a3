import Derived.Test.YthbjaoinklhikaaSlabP
namespace Go.Proofs.Ythbjaoinklhikaa
set_option linter.unusedVariables false
set_option linter.unusedSimpArgs false

/-! ## What stands of a slab, whatever is done (plain) -/
/-- what comes of a word by an event that may happen -/
theorem nextW_ok {n e : Int} {p : Bool} (h0 : 0 ≤ n) (h1 : n < 18446744073709551616) (hk : okW n = true) (hx : (nextW n e p).2 = 0) :
    1 ≤ e ∧ e ≤ 10 ∧ (toW (stW n) e (p && !lastW n)).2.2 = true ∧ okW (nextW n e p).1 = true ∧
      stW (nextW n e p).1 = (toW (stW n) e (p && !lastW n)).1 ∧ genW (nextW n e p).1 = genW n + (toW (stW n) e (p && !lastW n)).2.1 ∧
      lastW (nextW n e p).1 = (if e = 7 then true else if e = 1 ∨ e = 10 then false else lastW n) ∧ 0 ≤ (nextW n e p).1 ∧ (nextW n e p).1 < 18446744073709551616 ∧ genW n ≤ genW (nextW n e p).1 := by
  rcases nextW_cases n e p h0 h1 hk with ⟨_, h | h | h⟩ | ⟨_, a, b, c, d, f, g, i, j, k⟩
  · omega
  · omega
  · omega
  · have hb := ok_bd n h0 hk
    have hf := toW_fits (stW n) e (p && !lastW n) hb.1 hb.2.1
    exact ⟨a, b, c, d, f, g, i, j, k, by rw [g]; have := hf.2.2.1; omega⟩
theorem toW_one (s : Int) (again : Bool) : toW s 1 again = (1, 1, (s == 0)) := rfl
/-- of a free record an allocation comes about, if the generation may grow -/
theorem alloc_free {n : Int} {p : Bool} (h0 : 0 ≤ n) (h1 : n < 18446744073709551616) (hk : okW n = true) (hs : stW n = 0) (hg : genW n < 4294967295) : nextW n 1 p = (packW 1 (genW n + 1) false, 0) := by
  unfold nextW
  rw [if_neg (by simp [hk]), if_neg (by omega)]
  simp only [toW_one, hs]
  rw [if_neg (by simp), if_neg (by omega)]
  simp
theorem alloc_busy {n : Int} {p : Bool} (h0 : 0 ≤ n) (h1 : n < 18446744073709551616) (hk : okW n = true) (hs : stW n ≠ 0) : nextW n 1 p = (n, 7) := by
  unfold nextW
  rw [if_neg (by simp [hk]), if_neg (by omega)]
  simp only [toW_one]
  rw [if_pos (by simpa using hs)]

theorem RecOk.zero : RecOk Rec.zero := ⟨by decide, by decide, by decide, by decide, by decide, by decide, by decide⟩
theorem newSlab_ok {n : Nat} (h1 : 1 ≤ n) (h2 : n ≤ 64) : SlabOk (newSlab n) :=
  ⟨by simp [newSlab]; omega, by simp [newSlab]; omega, by simp [newSlab], by simp [newSlab], fun r hr => by simp [newSlab] at hr; rw [hr.2]; exact RecOk.zero⟩
theorem SlabOk.set {s : SlabS} (hs : SlabOk s) {k : Nat} {r : Rec} (hr : RecOk r) : SlabOk { s with recs := s.recs.set k r } :=
  ⟨by simpa using hs.n0, by simpa using hs.n1, hs.c0, by simpa using hs.c1, fun x hx => by
    rcases List.mem_or_eq_of_mem_set hx with h | rfl
    · exact hs.recs x h
    · exact hr⟩
theorem SlabOk.getD {s : SlabS} (hs : SlabOk s) (k : Nat) : RecOk (s.recs.getD k Rec.zero) := by
  rw [List.getD_eq_getElem?_getD]
  cases h : s.recs[k]? with
  | none => exact RecOk.zero
  | some r => exact hs.recs r (List.mem_of_getElem? h)
theorem stepR_ok {s : SlabS} {q : Req} (hs : SlabOk s) (hq : ReqOk s.recs.length q) : SlabOk (stepR s q).1 ∧ ReqOk s.recs.length (stepR s q).2 ∧ (stepR s q).1.recs.length = s.recs.length := by
  unfold stepR
  by_cases h0 : q.st ≠ 0
  · rw [if_pos h0]; exact ⟨hs, hq, rfl⟩
  rw [if_neg h0]
  by_cases h1 : q.next = 0
  · rw [if_pos h1]
    refine ⟨hs, ?_, rfl⟩
    unfold lookR
    by_cases h : (s.recs.length : Int) ≤ s.count
    · rw [if_pos h]; exact ⟨hq.p0, hq.p1, hq.slot0, hq.slot1, .inl h1⟩
    · rw [if_neg h]; exact ⟨hq.p0, hq.p1, hq.slot0, hq.slot1, .inr (.inl ⟨rfl, hs.c0, show s.count < _ by omega⟩)⟩
  rw [if_neg h1]
  by_cases h2 : q.next = 1
  · rw [if_pos h2]
    have hsaw : 0 ≤ q.saw ∧ q.saw < s.recs.length := by
      rcases hq.next with h | h | h
      · exact absurd h h1
      · exact h.2
      · omega
    unfold moreR
    by_cases h : s.count = q.saw
    · rw [if_pos h]; exact ⟨⟨hs.n0, hs.n1, by show 0 ≤ s.count + 1; omega, show s.count + 1 ≤ (s.recs.length : Int) by omega, hs.recs⟩, ⟨hq.p0, hq.p1, hq.slot0, hq.slot1, .inr (.inr rfl)⟩, rfl⟩
    · rw [if_neg h]; exact ⟨hs, ⟨hq.p0, hq.p1, hq.slot0, hq.slot1, .inl rfl⟩, rfl⟩
  rw [if_neg h2]
  have hr := hs.getD q.slot.toNat
  have h3 : q.next = 2 := by rcases hq.next with h | h | h <;> omega
  unfold seekR
  by_cases h : (nextW (s.recs.getD q.slot.toNat Rec.zero).w 1 (decide (0 < q.p))).2 = 0
  · simp only [h, if_true]
    obtain ⟨_, _, a, b, c, d, _, e, f, g⟩ := nextW_ok hr.w0 hr.w1 hr.ok h
    refine ⟨hs.set ⟨e, f, b, by have := hr.g0; show 0 ≤ _ + 1; omega, ?_, hq.p0, hq.p1⟩, ⟨hq.p0, hq.p1, hq.slot0, hq.slot1, .inr (.inr h3)⟩, by simp⟩
    show _ + 1 ≤ _
    rw [d]
    have := hr.g1
    simp only [toW_one]
    omega
  · simp only [h, if_false]
    have hn := hs.n0
    exact ⟨hs, ⟨hq.p0, hq.p1, Int.emod_nonneg _ (by omega), Int.emod_lt_of_pos _ (by omega), .inr (.inr h3)⟩, trivial⟩
theorem try_ok {s : SlabS} (hs : SlabOk s) (k old ev : Int) : SlabOk (s.try k old ev).1 ∧ (s.try k old ev).1.recs.length = s.recs.length := by
  unfold SlabS.try
  by_cases h : s.has k
  · rw [if_pos h]
    have hr := hs.getD k.toNat
    simp only []
    by_cases h1 : (nextW old ev (decide (0 < (s.recs.getD k.toNat Rec.zero).p))).2 ≠ 0
    · rw [if_pos h1]; exact ⟨hs, rfl⟩
    rw [if_neg h1]
    by_cases h2 : (s.recs.getD k.toNat Rec.zero).w = old
    · rw [if_pos h2]
      have h3 : (nextW (s.recs.getD k.toNat Rec.zero).w ev (decide (0 < (s.recs.getD k.toNat Rec.zero).p))).2 = 0 := by rw [h2]; exact Decidable.not_not.1 h1
      obtain ⟨_, _, a, b, c, d, _, e, f, g⟩ := nextW_ok hr.w0 hr.w1 hr.ok h3
      rw [h2] at b e f g
      exact ⟨hs.set ⟨e, f, b, hr.g0, by have h9 := hr.g1; rw [h2] at h9; exact Int.le_trans h9 g, hr.p0, hr.p1⟩, by simp⟩
    · rw [if_neg h2]; exact ⟨hs, rfl⟩
  · rw [if_neg h]; exact ⟨hs, rfl⟩
theorem drop_ok {s : SlabS} (hs : SlabOk s) : SlabOk s.drop.1 ∧ s.drop.1.recs.length = s.recs.length := by
  unfold SlabS.drop
  by_cases h : 0 < s.count
  · rw [if_pos h]; exact ⟨⟨hs.n0, hs.n1, by show 0 ≤ s.count - 1; omega, by have := hs.c1; show s.count - 1 ≤ (s.recs.length : Int); omega, hs.recs⟩, rfl⟩
  · rw [if_neg h]; exact ⟨hs, rfl⟩
theorem word_ok {s : SlabS} (hs : SlabOk s) (k : Int) : 0 ≤ s.word k ∧ s.word k < 18446744073709551616 ∧ okW (s.word k) = true := by
  unfold SlabS.word
  by_cases h : s.has k
  · rw [if_pos h]; have hr := hs.getD k.toNat; exact ⟨hr.w0, hr.w1, hr.ok⟩
  · rw [if_neg h]; exact ⟨by decide, by decide, by decide⟩
/-- a request that begins -/
def newReq (p : Int) : Req := ⟨p, 0, 0, 0, 0, 0⟩
theorem newReq_ok {n : Nat} (hn : 1 ≤ n) {p : Int} (h0 : 0 ≤ p) (h1 : p < 18446744073709551616) : ReqOk n (newReq p) := ⟨h0, h1, Int.le_refl _, by show (0 : Int) < n; omega, .inl rfl⟩
end Go.Proofs.Ythbjaoinklhikaa
