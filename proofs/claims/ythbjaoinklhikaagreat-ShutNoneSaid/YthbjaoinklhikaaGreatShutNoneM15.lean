import Derived.Test.YthbjaoinklhikaaGreatShutNoneM14
namespace Go.Proofs.YthbjaoinklhikaaGreat
set_option linter.unusedVariables false
set_option linter.unusedSimpArgs false
open Go.RowKit Go.Shelf

/-! ## What holds along a call's steps -/
structure RingN (N : Int) (r : RingS) : Prop where
  n0 : 1 ≤ r.slots.length
  n1 : r.slots.length ≤ 64
  t0 : 0 ≤ r.tail
  t1 : r.tail ≤ N
  h0 : 0 ≤ r.head
  h1 : r.head ≤ N
structure TickN (N : Int) (t : TickS) : Prop where
  p0 : 0 ≤ t.pos
  p1 : t.pos ≤ N
  nx : t.next = 0 ∨ t.next = 1 ∨ t.next = 2
  st : t.status = 0 ∨ t.status = 1 ∨ t.status = 2
structure CoreN (N : Nat) (x : CoreS) : Prop where
  slab : SlabOk x.slab
  i0 : 0 ≤ x.f.inside
  i1 : x.f.inside ≤ N
  tr : x.tr.length ≤ N
  sh : 1 ≤ x.shs.length
  ring : ∀ s ∈ x.shs, RingN N s.ring
structure WorkN (N : Nat) (k : WorkS) (x : CoreS) : Prop where
  c0 : 0 ≤ k.cdl ∧ k.cdl < 18446744073709551616
  c1 : 0 ≤ k.cper ∧ k.cper < 18446744073709551616
  id : 0 ≤ k.id ∧ k.id < 18446744073709551616
  slot : 0 ≤ k.slot
  saw : 0 ≤ k.saw ∧ k.saw < 18446744073709551616 ∧ okW k.saw = true
  rq : ∀ q, k.rq = some q → ReqOk x.slab.recs.length q
  tk : ∀ i t, k.tk = some (i, t) → TickN N t ∧ i < x.shs.length
def FitC : SC → WorkS → Prop
  | .nil, _ => True
  | .at none .right, _ => True
  | .at none .enter, _ => True
  | .at none .gate, _ => True
  | .at none .looks, _ => True
  | .at none .asks, k => k.rq.isSome = true ∧ ∀ q, k.rq = some q → q.st = 0
  | .at none .queues, k => k.tk.isSome = true
  | .at none .submits, k => k.tk.isSome = true
  | .at none .fills, k => k.tk.isSome = true
  | .at none .again, k => k.tk.isSome = true
  | .at none .tries, k => k.kind = 3 → k.tk.isSome = true
  | .row1 .ends1, _ => True
  | .thn (.row1 .leaves1) .ends, _ => True
  | .thn (.row2 .undo .drop) .leaves, _ => True
  | .thn (.row1 .drop) .leaves, _ => True
  | .thn (.row1 .again1) .leaves, k => k.tk.isSome = true
  | .thn (.row2 .tries1 .drop) .ends, _ => True
  | .thn (.row1 .drop) .ends, _ => True
  | _, _ => False
theorem RingN.mono {N M : Int} {r : RingS} (h : RingN N r) (hm : N ≤ M) : RingN M r := ⟨h.n0, h.n1, h.t0, by have := h.t1; omega, h.h0, by have := h.h1; omega⟩
theorem RingN.b {N : Int} {r : RingS} (h : RingN N r) (hm : N ≤ 1000000) : RingB r := ⟨h.n0, h.n1, h.t0, by have := h.t1; omega, h.h0, by have := h.h1; omega⟩
theorem TickN.mono {N M : Int} {t : TickS} (h : TickN N t) (hm : N ≤ M) : TickN M t := ⟨h.p0, by have := h.p1; omega, h.nx, h.st⟩
theorem TickN.b {N : Int} {t : TickS} (h : TickN N t) (hm : N ≤ 1000000) : TickB t := ⟨h.p0, by have := h.p1; omega, h.nx, h.st⟩
theorem CoreN.ok {N : Nat} {x : CoreS} (h : CoreN N x) (hN : N ≤ 1000000) : CoreOk x :=
  ⟨h.slab, h.i0, by have := h.i1; omega, by have := h.tr; omega, h.sh, fun s hs => (h.ring s hs).b (by omega)⟩
theorem CoreN.mono {N M : Nat} {x : CoreS} (h : CoreN N x) (hm : N ≤ M) : CoreN M x :=
  ⟨h.slab, h.i0, by have := h.i1; omega, by have := h.tr; omega, h.sh, fun s hs => (h.ring s hs).mono (by omega)⟩
theorem CoreN.rings {N M : Nat} {x : CoreS} (h : CoreN N x) (hm : N ≤ M) : ∀ s ∈ x.shs, RingN M s.ring := fun s hs => (h.ring s hs).mono (by omega)
theorem WorkN.ok {N : Nat} {k : WorkS} {x : CoreS} (h : WorkN N k x) (hN : N ≤ 1000000) : WorkOk k x :=
  ⟨h.c0, h.c1, h.id, h.slot, h.saw, h.rq, fun i t ht => ⟨(h.tk i t ht).1.b (by omega), (h.tk i t ht).2⟩⟩
theorem WorkN.mono {N M : Nat} {k : WorkS} {x : CoreS} (h : WorkN N k x) (hm : N ≤ M) : WorkN M k x :=
  ⟨h.c0, h.c1, h.id, h.slot, h.saw, h.rq, fun i t ht => ⟨(h.tk i t ht).1.mono (by omega), (h.tk i t ht).2⟩⟩
/-- a work fits any core of the same size -/
theorem WorkN.core {N : Nat} {k : WorkS} {x x' : CoreS} (h : WorkN N k x) (h1 : x'.slab.recs.length = x.slab.recs.length) (h2 : x'.shs.length = x.shs.length) : WorkN N k x' :=
  ⟨h.c0, h.c1, h.id, h.slot, h.saw, fun q hq => by rw [h1]; exact h.rq q hq, fun i t ht => ⟨(h.tk i t ht).1, by rw [h2]; exact (h.tk i t ht).2⟩⟩
theorem stepT_n {N : Int} {r : RingS} {t : TickS} (hr : RingN N r) (ht : TickN N t) : TickN N (stepT r t).2 ∧ RingN (N + 1) (stepT r t).1 := by
  have h1 := hr.t0; have h2 := hr.t1
  have ho : RingN (N + 1) r := hr.mono (by omega)
  unfold stepT lookT weighT takeT
  split
  · exact ⟨ht, ho⟩
  · split
    · exact ⟨⟨h1, h2, .inr (.inl rfl), ht.st⟩, ho⟩
    · split
      · split
        · exact ⟨⟨ht.p0, ht.p1, .inl rfl, ht.st⟩, ho⟩
        · split
          · exact ⟨⟨ht.p0, ht.p1, ht.nx, .inr (.inl rfl)⟩, ho⟩
          · exact ⟨⟨ht.p0, ht.p1, .inr (.inr rfl), ht.st⟩, ho⟩
      · split
        · exact ⟨⟨ht.p0, ht.p1, .inl rfl, .inr (.inr rfl)⟩, ⟨hr.n0, hr.n1, by have := ht.p0; simp only; omega, by have := ht.p1; simp only; omega, hr.h0, by have := hr.h1; simp only; omega⟩⟩
        · exact ⟨⟨ht.p0, ht.p1, .inl rfl, ht.st⟩, ho⟩
theorem fillT_n {N : Int} {r : RingS} {t : TickS} (v : TaskS) (hr : RingN N r) (ht : TickN N t) : TickN N (fillT r t v).2.1 ∧ RingN N (fillT r t v).1 := by
  unfold fillT
  split
  · exact ⟨⟨ht.p0, ht.p1, ht.nx, ht.st⟩, ⟨by simp only [List.length_set]; exact hr.n0, by simp only [List.length_set]; exact hr.n1, hr.t0, hr.t1, hr.h0, hr.h1⟩⟩
  · exact ⟨ht, hr⟩
theorem ring_set {N : Int} {l : List ShardS} {i : Nat} {s : ShardS} (h : ∀ s ∈ l, RingN N s.ring) (hs : RingN N s.ring) : ∀ a ∈ l.set i s, RingN N a.ring := by
  intro a ha
  rcases List.mem_or_eq_of_mem_set ha with h1 | h1
  · exact h a h1
  · exact h1 ▸ hs
section
variable {N : Nat} {k : WorkS} {x : CoreS}
theorem core_note (h : CoreN N x) (E : EvS) : CoreN (N + 1) (noteC k E x) :=
  ⟨h.slab, h.i0, by have := h.i1; show x.f.inside ≤ _; omega, by have := h.tr; show (x.tr ++ [_]).length ≤ _; rw [List.length_append]; simp; omega, h.sh, h.rings (by omega)⟩
theorem core_slab (h : CoreN N x) {s : SlabS} (hs : SlabOk s) : CoreN N { x with slab := s } := ⟨hs, h.i0, h.i1, h.tr, h.sh, h.ring⟩
theorem refuse_n (hc : CoreN N x) (hk : WorkN N k x) (e : Int) : CoreN (N + 1) (refuseC e (k, x)).2 ∧ WorkN (N + 1) (refuseC e (k, x)).1 (refuseC e (k, x)).2 :=
  ⟨core_note hc _, ((⟨hk.c0, hk.c1, hk.id, hk.slot, hk.saw, hk.rq, hk.tk⟩ : WorkN N (refuseW e k) x).mono (M := N + 1) (by omega)).core rfl rfl⟩
theorem event_n (hc : CoreN N x) (hk : WorkN N k x) (ev : Int) : CoreN N (eventC ev (k, x)).2 ∧ WorkN N (eventC ev (k, x)).1 (eventC ev (k, x)).2 := by
  obtain ⟨h1, h2⟩ := try_ok hc.slab k.slot (x.slab.word k.slot) ev
  exact ⟨core_slab hc h1, (⟨hk.c0, hk.c1, hk.id, hk.slot, hk.saw, hk.rq, hk.tk⟩ : WorkN N (eventW ev k x.slab) x).core h2 rfl⟩
theorem fill_n (hc : CoreN N x) (hk : WorkN N k x) (v : TaskS) : CoreN N (fillC v (k, x)).2 ∧ WorkN N (fillC v (k, x)).1 (fillC v (k, x)).2 := by
  unfold fillC
  simp only
  split
  · exact ⟨hc, hk⟩
  · rename_i i t ht
    split
    · exact ⟨hc, hk⟩
    · rename_i s hs
      obtain ⟨htn, hi⟩ := hk.tk i t ht
      have hrn := hc.ring s (List.mem_of_getElem? hs)
      obtain ⟨a, b⟩ := fillT_n v hrn htn
      refine ⟨⟨hc.slab, hc.i0, hc.i1, hc.tr, by simpa using hc.sh, ring_set hc.ring b⟩, ⟨hk.c0, hk.c1, hk.id, hk.slot, hk.saw, hk.rq, fun i' t' h' => ?_⟩⟩
      cases h'
      exact ⟨a, by simpa using hi⟩
theorem act_n (hc : CoreN N x) (hk : WorkN N k x) (a : AC) : CoreN (N + 1) (runA a (k, x)).2 ∧ WorkN (N + 1) (runA a (k, x)).1 (runA a (k, x)).2 := by
  cases a with
  | ends1 => exact ⟨core_note hc _, (hk.mono (M := N + 1) (by omega)).core rfl rfl⟩
  | leaves1 =>
    have h1 : 0 ≤ lessN x.f.inside ∧ lessN x.f.inside ≤ N := by have := hc.i0; have := hc.i1; unfold lessN; split <;> omega
    exact ⟨⟨hc.slab, h1.1, by have := h1.2; show lessN x.f.inside ≤ _; omega, by have := hc.tr; show x.tr.length ≤ _; omega, hc.sh, hc.rings (by omega)⟩, (hk.mono (M := N + 1) (by omega)).core rfl rfl⟩
  | undo =>
    obtain ⟨h1, h2⟩ := event_n hc hk 9
    exact refuse_n h1 h2 2
  | drop =>
    obtain ⟨h1, h2⟩ := drop_ok hc.slab
    exact ⟨(core_slab hc h1).mono (M := N + 1) (by omega), (hk.mono (M := N + 1) (by omega)).core h2 rfl⟩
  | tries1 =>
    obtain ⟨h1, h2⟩ := event_n hc hk 10
    exact ⟨h1.mono (M := N + 1) (by omega), h2.mono (M := N + 1) (by omega)⟩
  | again1 =>
    obtain ⟨h1, h2⟩ := fill_n hc hk { TaskS.zero with slot := -1 }
    exact ⟨h1.mono (M := N + 1) (by omega), h2.mono (M := N + 1) (by omega)⟩

/-- the invariant -/
structure JC (N : Nat) (s : SC) (z : ZC) : Prop where
  core : CoreN N z.2
  work : WorkN N z.1 z.2
  fit : FitC s z.1
theorem JC.pre {s : SC} {z : ZC} (h : JC N s z) (hN : N < 1000000) : preC s z := by
  obtain ⟨k, x⟩ := z
  obtain ⟨hc, hk, hf⟩ := h
  simp only at hc hk hf
  have ho := hc.ok (by omega)
  have hw := hk.ok (by omega)
  have hact : ∀ a, CoreOk (runA a (k, x)).2 ∧ WorkOk (runA a (k, x)).1 (runA a (k, x)).2 := fun a => ⟨(act_n hc hk a).1.ok (by omega), (act_n hc hk a).2.ok (by omega)⟩
  match s, hf with
  | .nil, _ => trivial
  | .at none .right, _ => exact ⟨ho, hw, trivial⟩
  | .at none .enter, _ => exact ⟨ho, hw, trivial⟩
  | .at none .gate, _ => exact ⟨ho, hw, trivial⟩
  | .at none .looks, _ => exact ⟨ho, hw, trivial⟩
  | .at none .asks, hf => exact ⟨ho, hw, hf⟩
  | .at none .queues, hf => exact ⟨ho, hw, hf⟩
  | .at none .submits, _ => exact ⟨ho, hw, trivial⟩
  | .at none .fills, hf => exact ⟨ho, hw, hf⟩
  | .at none .again, _ => exact ⟨ho, hw, trivial⟩
  | .at none .tries, _ => exact ⟨ho, hw, trivial⟩
  | .row1 .ends1, _ => exact ⟨ho, hw, trivial⟩
  | .thn (.row1 .leaves1) .ends, _ => exact ⟨⟨ho, hw, trivial⟩, fun _ => ⟨(hact .leaves1).1, (hact .leaves1).2, trivial⟩⟩
  | .thn (.row2 .undo .drop) .leaves, _ => exact ⟨⟨ho, hw, trivial⟩, fun h => by cases h⟩
  | .thn (.row1 .drop) .leaves, _ => exact ⟨⟨ho, hw, trivial⟩, fun _ => ⟨(hact .drop).1, (hact .drop).2, trivial⟩⟩
  | .thn (.row1 .again1) .leaves, hf => exact ⟨⟨ho, hw, hf⟩, fun _ => ⟨(hact .again1).1, (hact .again1).2, trivial⟩⟩
  | .thn (.row2 .tries1 .drop) .ends, _ => exact ⟨⟨ho, hw, trivial⟩, fun h => by cases h⟩
  | .thn (.row1 .drop) .ends, _ => exact ⟨⟨ho, hw, trivial⟩, fun _ => ⟨(hact .drop).1, (hact .drop).2, trivial⟩⟩
theorem overC_fit (k k2 : WorkS) : FitC (overC k) k2 := by
  unfold overC leavesC
  split <;> trivial
theorem stepR_st {s : SlabS} {q : Req} (h : q.st = 0) : (stepR s q).2.st = 0 ∨ (stepR s q).2.st = 1 ∨ (stepR s q).2.st = 2 := by
  unfold stepR
  rw [if_neg (by omega)]
  split
  · unfold lookR; split <;> simp [h]
  · split
    · unfold moreR; split <;> simp [h]
    · unfold seekR; simp only; split <;> simp [h]
theorem look_n (hc : CoreN N x) (hk : WorkN N k x) : WorkN N (lookW k x.slab).1 x := by
  have hs : 0 ≤ x.slab.slot k.id := by have := hk.id.1; unfold SlabS.slot; split <;> omega
  have hw := word_bd hc.slab (x.slab.slot k.id)
  unfold lookW
  split
  · exact hk
  · split
    · exact ⟨hk.c0, hk.c1, hk.id, hs, hw, hk.rq, hk.tk⟩
    · exact ⟨hk.c0, hk.c1, hk.id, hs, hw, hk.rq, hk.tk⟩
theorem home_n (hc : CoreN N x) {slot : Int} (h : 0 ≤ slot) : homeC slot x < x.shs.length := by
  have hn := hc.sh
  have a : 0 ≤ slot % (x.shs.length : Int) := Int.emod_nonneg _ (by omega)
  have b : slot % (x.shs.length : Int) < x.shs.length := Int.emod_lt_of_pos _ (by omega)
  unfold homeC; omega
theorem newTick_n : TickN N newTick := ⟨by decide, by show (0 : Int) ≤ N; omega, .inl rfl, .inl rfl⟩
/-- a method keeps it -/
theorem meth_n (hc : CoreN N x) (hk : WorkN N k x) (m : MC) (hf : FitC (.at none m) k) : JC (N + 1) (runC m (k, x)).1 (runC m (k, x)).2 := by
  have hc' := hc.mono (M := N + 1) (by omega)
  have hk' := hk.mono (M := N + 1) (by omega)
  have hre : ∀ e s, FitC s (refuseW e k) → JC (N + 1) s (refuseC e (k, x)) := fun e s hs => ⟨(refuse_n hc hk e).1, (refuse_n hc hk e).2, hs⟩
  cases m with
  | ends => exact hf.elim
  | leaves => exact hf.elim
  | right =>
    show JC (N + 1) (if badC k then _ else _ : SC × ZC).1 (if badC k then _ else _ : SC × ZC).2
    split
    · exact hre 1 _ trivial
    · exact ⟨hc', hk', trivial⟩
  | enter => exact ⟨⟨hc.slab, by have := hc.i0; show 0 ≤ x.f.inside + 1; omega, by have := hc.i1; show x.f.inside + 1 ≤ _; omega, hc'.tr, hc.sh, hc'.ring⟩, hk'.core rfl rfl, trivial⟩
  | gate =>
    show JC (N + 1) (if x.f.closed = true then _ else _ : SC × ZC).1 (if x.f.closed = true then _ else _ : SC × ZC).2
    split
    · exact hre 3 _ (overC_fit _ _)
    · split
      · refine ⟨hc', ⟨hk'.c0, hk'.c1, hk'.id, hk'.slot, hk'.saw, fun q hq => ?_, hk'.tk⟩, rfl, fun q hq => ?_⟩
        · cases hq
          have h1 := hk.c1
          have h2 := hc.slab.n0
          refine ⟨?_, ?_, by simp, by simp; omega, .inl rfl⟩
          · show 0 ≤ k.period; unfold WorkS.period; split <;> omega
          · show k.period < _; unfold WorkS.period; split <;> omega
        · cases hq; rfl
      · exact ⟨hc', hk', trivial⟩
  | asks =>
    obtain ⟨hr, hq0⟩ := hf
    obtain ⟨q, hq⟩ := Option.isSome_iff_exists.1 hr
    have hE : runC .asks (k, x) = asksC (k, x) q := by show (match k.rq with | none => _ | some q => _) = _; rw [hq]
    rw [hE]
    have hst := hq0 q hq
    obtain ⟨h1, h2, h3⟩ := stepR_ok hc.slab (hk.rq q hq)
    have hid := stepR_id hc.slab (hk.rq q hq) hst
    have h4 := stepR_st (s := x.slab) hst
    unfold asksC
    simp only
    generalize stepR x.slab q = r at *
    have cx : CoreN N { x with slab := r.1 } := core_slab hc h1
    have wk : WorkN N { k with rq := some r.2 } { x with slab := r.1 } := ⟨hk.c0, hk.c1, hk.id, hk.slot, hk.saw, fun q' h' => by cases h'; show ReqOk r.1.recs.length r.2; rw [h3]; exact h2, hk.tk⟩
    split
    · exact ⟨(refuse_n cx wk 2).1, (refuse_n cx wk 2).2, trivial⟩
    · split
      · next h5 =>
        obtain ⟨i0, i1⟩ := hid h5
        refine ⟨cx.mono (M := N + 1) (by omega), ⟨wk.c0, wk.c1, ⟨i0, i1⟩, by show 0 ≤ r.2.id % 64; omega, wk.saw, wk.rq, fun i t ht => ?_⟩, rfl⟩
        cases ht
        exact ⟨newTick_n, home_n hc (by omega)⟩
      · next h6 h5 =>
        exact ⟨cx.mono (M := N + 1) (by omega), wk.mono (M := N + 1) (by omega), rfl, fun q' h' => by cases h'; omega⟩
  | queues =>
    obtain ⟨⟨i, t⟩, htk⟩ := Option.isSome_iff_exists.1 hf
    obtain ⟨htn, hi⟩ := hk.tk i t htk
    obtain ⟨s, hs⟩ : ∃ s, x.shs[i]? = some s := ⟨_, List.getElem?_eq_getElem hi⟩
    have hE : runC .queues (k, x) = queuesC (k, x) i t s := by
      show (match k.tk with | none => _ | some (i, t) => _) = _
      rw [htk]
      show (match x.shs[i]? with | none => _ | some s => _) = _
      rw [hs]
    rw [hE]
    obtain ⟨a, b⟩ := stepT_n (hc.ring s (List.mem_of_getElem? hs)) htn
    unfold queuesC
    simp only
    generalize stepT s.ring t = r at *
    have cx : CoreN (N + 1) { x with shs := x.shs.set i { s with ring := r.1 } } := ⟨hc.slab, hc'.i0, hc'.i1, hc'.tr, by simpa using hc.sh, ring_set hc'.ring (by simpa using b)⟩
    have wk : WorkN (N + 1) { k with tk := some (i, r.2) } { x with shs := x.shs.set i { s with ring := r.1 } } := ⟨hk.c0, hk.c1, hk.id, hk.slot, hk.saw, hk.rq, fun i' t' h' => by cases h'; exact ⟨a.mono (by omega), by simpa using hi⟩⟩
    split
    · exact ⟨cx, wk, rfl⟩
    · split
      · refine ⟨⟨cx.slab, cx.i0, cx.i1, ?_, cx.sh, cx.ring⟩, (⟨wk.c0, wk.c1, wk.id, wk.slot, wk.saw, wk.rq, wk.tk⟩ : WorkN (N + 1) (refuseW 2 { k with tk := some (i, r.2) }) { x with shs := x.shs.set i { s with ring := r.1 } }).core rfl rfl, trivial⟩
        have := hc.tr
        show (x.tr ++ [_]).length ≤ _
        rw [List.length_append]; simp; omega
      · split
        · exact ⟨cx, wk, trivial⟩
        · split
          · exact ⟨cx, wk, rfl⟩
          · exact ⟨cx, wk, rfl⟩
  | submits =>
    obtain ⟨h1, h2⟩ := event_n hc hk 2
    exact ⟨core_note h1 _, (h2.mono (M := N + 1) (by omega)).core rfl rfl, hf⟩
  | fills =>
    obtain ⟨h1, h2⟩ := fill_n hc hk (taskC (k, x))
    refine ⟨h1.mono (M := N + 1) (by omega), ?_, trivial⟩
    have h3 := h2.mono (M := N + 1) (by omega)
    exact ⟨h3.c0, h3.c1, h3.id, h3.slot, h3.saw, h3.rq, h3.tk⟩
  | looks =>
    have wk := look_n hc hk
    obtain ⟨e1, e2, e3, e4⟩ := look_keeps k x.slab hk.slot hk.id.1
    show JC (N + 1) (if (lookW k x.slab).2 = 0 then _ else _ : SC × ZC).1 (if (lookW k x.slab).2 = 0 then _ else _ : SC × ZC).2
    split
    · show JC (N + 1) (if k.kind = 3 then _ else _ : SC × ZC).1 (if k.kind = 3 then _ else _ : SC × ZC).2
      split
      · refine ⟨hc', ⟨wk.c0, wk.c1, wk.id, wk.slot, wk.saw, wk.rq, fun i t ht => ?_⟩, rfl⟩
        cases ht
        exact ⟨newTick_n, home_n hc e4⟩
      · next h3 => exact ⟨hc', wk.mono (M := N + 1) (by omega), fun h => absurd (e1.symm.trans h) h3⟩
    · show JC (N + 1) (if (lookW k x.slab).2 = 1 then _ else _ : SC × ZC).1 (if (lookW k x.slab).2 = 1 then _ else _ : SC × ZC).2
      split
      · exact ⟨(refuse_n hc wk 1).1, (refuse_n hc wk 1).2, overC_fit _ _⟩
      · exact ⟨(refuse_n hc wk 0).1, (refuse_n hc wk 0).2, overC_fit _ _⟩
  | again =>
    have wk := look_n hc hk
    obtain ⟨e1, e2, e3, e4⟩ := look_keeps k x.slab hk.slot hk.id.1
    have hf' : (lookW k x.slab).1.tk.isSome = true := by rw [e3]; exact hf
    show JC (N + 1) (if (lookW k x.slab).2 = 0 then _ else _ : SC × ZC).1 (if (lookW k x.slab).2 = 0 then _ else _ : SC × ZC).2
    split
    · exact ⟨hc', wk.mono (M := N + 1) (by omega), fun _ => hf'⟩
    · exact ⟨(refuse_n hc wk 0).1, (refuse_n hc wk 0).2, hf'⟩
  | tries =>
    obtain ⟨h1, h2⟩ := try_ok hc.slab k.slot k.saw k.event
    have cx : CoreN N (tryC (k, x)).1.2 := core_slab hc h1
    have wk : WorkN N (tryC (k, x)).1.1 (tryC (k, x)).1.2 := (⟨hk.c0, hk.c1, hk.id, hk.slot, hk.saw, hk.rq, hk.tk⟩ : WorkN N (tryC (k, x)).1.1 x).core h2 rfl
    have wo : WorkN N (okC (tryC (k, x)).1.1) (tryC (k, x)).1.2 := ⟨wk.c0, wk.c1, wk.id, wk.slot, wk.saw, wk.rq, wk.tk⟩
    show JC (N + 1) (if (tryC (k, x)).2 ≠ 0 then _ else _ : SC × ZC).1 (if (tryC (k, x)).2 ≠ 0 then _ else _ : SC × ZC).2
    split
    · show JC (N + 1) (if k.kind = 3 then _ else _ : SC × ZC).1 (if k.kind = 3 then _ else _ : SC × ZC).2
      split
      · next h3 => exact ⟨cx.mono (M := N + 1) (by omega), wk.mono (M := N + 1) (by omega), hf h3⟩
      · exact ⟨cx.mono (M := N + 1) (by omega), wk.mono (M := N + 1) (by omega), trivial⟩
    · show JC (N + 1) (if k.kind = 3 then _ else _ : SC × ZC).1 (if k.kind = 3 then _ else _ : SC × ZC).2
      split
      · next h3 => exact ⟨core_note cx _, (wo.mono (M := N + 1) (by omega)).core rfl rfl, hf h3⟩
      · show JC (N + 1) (if k.kind = 5 then _ else _ : SC × ZC).1 (if k.kind = 5 then _ else _ : SC × ZC).2
        split
        · exact ⟨core_note cx _, (wo.mono (M := N + 1) (by omega)).core rfl rfl, trivial⟩
        · exact ⟨core_note cx _, (wo.mono (M := N + 1) (by omega)).core rfl rfl, trivial⟩
theorem JC.step {s : SC} {z : ZC} (h : JC N s z) : JC (N + 1) (stepC s z).1 (stepC s z).2 := by
  obtain ⟨k, x⟩ := z
  obtain ⟨hc, hk, hf⟩ := h
  simp only at hc hk hf
  have ha := fun a => act_n hc hk a
  match s, hf with
  | .nil, _ => exact ⟨hc.mono (M := N + 1) (by omega), hk.mono (M := N + 1) (by omega), trivial⟩
  | .at none m, hf => exact meth_n hc hk m hf
  | .row1 .ends1, _ => exact ⟨(ha .ends1).1, (ha .ends1).2, trivial⟩
  | .thn (.row1 .leaves1) .ends, _ => exact ⟨(ha .leaves1).1, (ha .leaves1).2, trivial⟩
  | .thn (.row2 .undo .drop) .leaves, _ => exact ⟨(ha .undo).1, (ha .undo).2, trivial⟩
  | .thn (.row1 .drop) .leaves, _ => exact ⟨(ha .drop).1, (ha .drop).2, trivial⟩
  | .thn (.row1 .again1) .leaves, _ => exact ⟨(ha .again1).1, (ha .again1).2, trivial⟩
  | .thn (.row2 .tries1 .drop) .ends, _ => exact ⟨(ha .tries1).1, (ha .tries1).2, trivial⟩
  | .thn (.row1 .drop) .ends, _ => exact ⟨(ha .drop).1, (ha .drop).2, trivial⟩
/-- so many steps -/
def itC : Nat → SC → ZC → SC × ZC
  | 0, s, z => (s, z)
  | n + 1, s, z => itC n (stepC s z).1 (stepC s z).2
theorem JC.it {N : Nat} : ∀ (n : Nat) {N : Nat} {s : SC} {z : ZC}, JC N s z → JC (N + n) (itC n s z).1 (itC n s z).2
  | 0, _, _, _, h => h
  | n + 1, N, s, z, h => by
    have := JC.it (N := N) n h.step
    rwa [show N + 1 + n = N + (n + 1) by omega] at this
end
end Go.Proofs.YthbjaoinklhikaaGreat

namespace Go.Proofs.YthbjaoinklhikaaGreat
set_option linter.unusedVariables false
set_option linter.unusedSimpArgs false
open Go.RowKit Go.Shelf

/-! ## Begin -/
section
variable {L : Lay} {x : CoreS} {gF : List Blk}
/-- what Begin leaves -/
def BeginR (L : Lay) (x : CoreS) (th no : Int) (c : CallC) (e : Ending) (gs : GH) : Prop :=
  ∃ kb g gF', e = .returned (.tuple #[ptr' kb, .int .i64 0]) ∧ isCall L kb (firstC c.kind) 0 (newW th no c) g ∧ isCore L (noteC (newW th no c) { ev0 with kind := 1, id := c.id, dl := c.dl, per := c.per } x) gF' ∧ gs = [g, gF']
set_option maxRecDepth 100000 in
theorem callBegin_1 (hx : isCore L x gF) (hn : x.tr.length ≤ 1000000) (th no : Int) (c : CallC) : DoesG Tryz.prog 14 #[ptr' L.fb, .int .i64 th, .int .i64 no, .agg { c with kind := 1 }.cells] [gF] (BeginR L x th no { c with kind := 1 }) := by
  unfold BeginR
  have HS := Lib.hid (show ∀ kb pv, (cliC L kb pv).SV (.at none .right) .nilFunc (.func (.func 62) #[ptr' kb] #[]) [] from fun kb pv => ⟨rfl, rfl, rfl⟩)
  have HNW := Lib.hid (show ∀ kb, _ from fun kb => Cli.prog_new (cliC_ok L kb (.pointer none)) (HS.out kb (.pointer none)))
  have HF1 := Lib.hid (show firstC 1 = .at none .right from by simp [firstC])
  intro w hw
  have T0 := TG.refl hw
  have HT := Lib.hid T0
  clear hw T0
  have HX := Lib.hid hx
  have HLN := Lib.hid hn
  clear hx hn
  simp only [CallC.cells]
  go_enter Tryz.func14, Tryz.ntmps14
  go_wp2_with fail
  have HT := Lib.hid ((HT.out.alloc (k := w.heap.size) rfl 24 #[.int .i64 1, .int .u64 c.id, .int .u64 c.dl, .int .u64 c.per]).alloc (k := w.heap.size + 1) (by simp) 102 (workC L.fb (.pointer none) (.pointer none) (.pointer none) (newW th no { c with kind := 1 })))
  simp only [List.cons_append, List.nil_append] at HT
  refine (DoesG.use callsAt HT.out [] rfl rfl).mono ?_
  rintro e w1 ⟨gs, ⟨rfl, rfl⟩, Ta⟩
  simp only [putG, List.set_cons_zero, List.set_cons_succ, List.cons_append, List.nil_append, List.append_nil] at Ta
  have HT := Lib.hid (Ta.sum (H' := [gF, [cl w.heap.size 24 #[.int .i64 1, .int .u64 c.id, .int .u64 c.dl, .int .u64 c.per]], workB (w.heap.size + 1) L.fb (.pointer none) (.pointer none) (.pointer none) (newW th no { c with kind := 1 }), []]) (fun n ha h0 h1 h2 => by simp only [pickG, List.map_cons, List.map_nil, List.getD_cons_succ, List.getD_cons_zero, List.set_cons_succ, List.set_cons_zero, List.cons_append, List.flatten_append, List.flatten_cons, List.flatten_nil, List.append_nil, List.nil_append, ha, h0, h1, h2] <;> omega))
  clear Ta
  go_wp2_with fail
  refine (DoesG.use (HNW.out _) (HT.out) [3] rfl rfl).mono ?_
  rintro e w1 ⟨gs, ⟨pb, rfl, rfl⟩, Ta⟩
  simp only [putG, List.set_cons_zero, List.set_cons_succ, List.cons_append, List.nil_append, List.append_nil] at Ta
  have HT := Lib.hid Ta
  clear Ta
  have k12 := HT.out.cell 2 0 rfl 12
  have fk12 := HT.out.free 2 0 rfl 12
  simp only [workC, List.getElem?_toArray, List.getElem?_cons_zero, List.getElem?_cons_succ] at k12
  have b0 := HT.out.cell 1 0 rfl 0
  have b1 := HT.out.cell 1 0 rfl 1
  have b2 := HT.out.cell 1 0 rfl 2
  have b3 := HT.out.cell 1 0 rfl 3
  simp only [List.getElem?_nil, List.getElem?_toArray, List.getElem?_cons_zero, List.getElem?_cons_succ] at b0 b1 b2 b3
  go_wp2_with fail
  have HT := Lib.hid ((HT.out.set 2 0 rfl 12 (ptr' pb)).eq (H' := [gF, [cl w.heap.size 24 #[.int .i64 1, .int .u64 c.id, .int .u64 c.dl, .int .u64 c.per]], workB (w.heap.size + 1) L.fb (ptr' pb) (.pointer none) (.pointer none) (newW th no { c with kind := 1 }), [], Cli.progB pb .nilFunc (.func (.func 62) #[ptr' (w.heap.size + 1)] #[]) 0]) rfl)
  go_wp2_with fail
  refine (DoesG.use (workNote HX.out { ev0 with kind := 1, id := c.id, dl := c.dl, per := c.per } HLN.out) (HT.out) [2, 0] rfl rfl).mono ?_
  rintro e w1 ⟨gs, ⟨rfl, g1, hx1, rfl⟩, Ta⟩
  simp only [putG, List.set_cons_zero, List.set_cons_succ, List.cons_append, List.nil_append, List.append_nil] at Ta
  have HX := Lib.hid hx1
  clear hx1 k12 fk12 b0 b1 b2 b3
  have HT := Lib.hid Ta
  clear Ta
  go_wp2
  go_ret2
  exact ⟨_, ⟨_, _, g1, rfl, by rw [HF1.out]; exact ⟨pb, _, _, [], _, HS.out _ _, ⟨_, _, [], [], ⟨rfl, rfl⟩, ⟨rfl, rfl⟩, rfl⟩, rfl⟩, HX.out, rfl⟩, ((HT.out.pick [2, 0, 4] rfl).eq (H' := [[cl (w.heap.size + 1) 102 (workC L.fb (ptr' pb) (.pointer none) (.pointer none) (newW th no { c with kind := 1 }))], g1, Cli.progB pb .nilFunc (.func (.func 62) #[ptr' (w.heap.size + 1)] #[]) 0]) rfl).sum (H' := [Cli.progB pb .nilFunc (.func (.func 62) #[ptr' (w.heap.size + 1)] #[]) 0 ++ ([] ++ ([cl (w.heap.size + 1) 102 (workC L.fb (ptr' pb) (.pointer none) (.pointer none) (newW th no { c with kind := 1 }))] ++ ([] ++ []))), g1]) (fun n ha h0 h1 h2 => by simp only [pickG, List.map_cons, List.map_nil, List.getD_cons_succ, List.getD_cons_zero, List.set_cons_succ, List.set_cons_zero, List.cons_append, List.flatten_append, List.flatten_cons, List.flatten_nil, List.append_nil, List.nil_append, ha, h0, h1, h2] <;> omega)⟩
set_option maxRecDepth 100000 in
theorem callBegin_2 (hx : isCore L x gF) (hn : x.tr.length ≤ 1000000) (th no : Int) (c : CallC) : DoesG Tryz.prog 14 #[ptr' L.fb, .int .i64 th, .int .i64 no, .agg { c with kind := 2 }.cells] [gF] (BeginR L x th no { c with kind := 2 }) := by
  unfold BeginR
  have HS := Lib.hid (show ∀ kb pv, (cliC L kb pv).SV (.at none .right) .nilFunc (.func (.func 62) #[ptr' kb] #[]) [] from fun kb pv => ⟨rfl, rfl, rfl⟩)
  have HNW := Lib.hid (show ∀ kb, _ from fun kb => Cli.prog_new (cliC_ok L kb (.pointer none)) (HS.out kb (.pointer none)))
  have HF1 := Lib.hid (show firstC 2 = .at none .right from by simp [firstC])
  intro w hw
  have T0 := TG.refl hw
  have HT := Lib.hid T0
  clear hw T0
  have HX := Lib.hid hx
  have HLN := Lib.hid hn
  clear hx hn
  simp only [CallC.cells]
  go_enter Tryz.func14, Tryz.ntmps14
  go_wp2_with fail
  have HT := Lib.hid ((HT.out.alloc (k := w.heap.size) rfl 24 #[.int .i64 2, .int .u64 c.id, .int .u64 c.dl, .int .u64 c.per]).alloc (k := w.heap.size + 1) (by simp) 102 (workC L.fb (.pointer none) (.pointer none) (.pointer none) (newW th no { c with kind := 2 })))
  simp only [List.cons_append, List.nil_append] at HT
  refine (DoesG.use callsAt HT.out [] rfl rfl).mono ?_
  rintro e w1 ⟨gs, ⟨rfl, rfl⟩, Ta⟩
  simp only [putG, List.set_cons_zero, List.set_cons_succ, List.cons_append, List.nil_append, List.append_nil] at Ta
  have HT := Lib.hid (Ta.sum (H' := [gF, [cl w.heap.size 24 #[.int .i64 2, .int .u64 c.id, .int .u64 c.dl, .int .u64 c.per]], workB (w.heap.size + 1) L.fb (.pointer none) (.pointer none) (.pointer none) (newW th no { c with kind := 2 }), []]) (fun n ha h0 h1 h2 => by simp only [pickG, List.map_cons, List.map_nil, List.getD_cons_succ, List.getD_cons_zero, List.set_cons_succ, List.set_cons_zero, List.cons_append, List.flatten_append, List.flatten_cons, List.flatten_nil, List.append_nil, List.nil_append, ha, h0, h1, h2] <;> omega))
  clear Ta
  go_wp2_with fail
  refine (DoesG.use (HNW.out _) (HT.out) [3] rfl rfl).mono ?_
  rintro e w1 ⟨gs, ⟨pb, rfl, rfl⟩, Ta⟩
  simp only [putG, List.set_cons_zero, List.set_cons_succ, List.cons_append, List.nil_append, List.append_nil] at Ta
  have HT := Lib.hid Ta
  clear Ta
  have k12 := HT.out.cell 2 0 rfl 12
  have fk12 := HT.out.free 2 0 rfl 12
  simp only [workC, List.getElem?_toArray, List.getElem?_cons_zero, List.getElem?_cons_succ] at k12
  have b0 := HT.out.cell 1 0 rfl 0
  have b1 := HT.out.cell 1 0 rfl 1
  have b2 := HT.out.cell 1 0 rfl 2
  have b3 := HT.out.cell 1 0 rfl 3
  simp only [List.getElem?_nil, List.getElem?_toArray, List.getElem?_cons_zero, List.getElem?_cons_succ] at b0 b1 b2 b3
  go_wp2_with fail
  have HT := Lib.hid ((HT.out.set 2 0 rfl 12 (ptr' pb)).eq (H' := [gF, [cl w.heap.size 24 #[.int .i64 2, .int .u64 c.id, .int .u64 c.dl, .int .u64 c.per]], workB (w.heap.size + 1) L.fb (ptr' pb) (.pointer none) (.pointer none) (newW th no { c with kind := 2 }), [], Cli.progB pb .nilFunc (.func (.func 62) #[ptr' (w.heap.size + 1)] #[]) 0]) rfl)
  go_wp2_with fail
  refine (DoesG.use (workNote HX.out { ev0 with kind := 1, id := c.id, dl := c.dl, per := c.per } HLN.out) (HT.out) [2, 0] rfl rfl).mono ?_
  rintro e w1 ⟨gs, ⟨rfl, g1, hx1, rfl⟩, Ta⟩
  simp only [putG, List.set_cons_zero, List.set_cons_succ, List.cons_append, List.nil_append, List.append_nil] at Ta
  have HX := Lib.hid hx1
  clear hx1 k12 fk12 b0 b1 b2 b3
  have HT := Lib.hid Ta
  clear Ta
  go_wp2
  go_ret2
  exact ⟨_, ⟨_, _, g1, rfl, by rw [HF1.out]; exact ⟨pb, _, _, [], _, HS.out _ _, ⟨_, _, [], [], ⟨rfl, rfl⟩, ⟨rfl, rfl⟩, rfl⟩, rfl⟩, HX.out, rfl⟩, ((HT.out.pick [2, 0, 4] rfl).eq (H' := [[cl (w.heap.size + 1) 102 (workC L.fb (ptr' pb) (.pointer none) (.pointer none) (newW th no { c with kind := 2 }))], g1, Cli.progB pb .nilFunc (.func (.func 62) #[ptr' (w.heap.size + 1)] #[]) 0]) rfl).sum (H' := [Cli.progB pb .nilFunc (.func (.func 62) #[ptr' (w.heap.size + 1)] #[]) 0 ++ ([] ++ ([cl (w.heap.size + 1) 102 (workC L.fb (ptr' pb) (.pointer none) (.pointer none) (newW th no { c with kind := 2 }))] ++ ([] ++ []))), g1]) (fun n ha h0 h1 h2 => by simp only [pickG, List.map_cons, List.map_nil, List.getD_cons_succ, List.getD_cons_zero, List.set_cons_succ, List.set_cons_zero, List.cons_append, List.flatten_append, List.flatten_cons, List.flatten_nil, List.append_nil, List.nil_append, ha, h0, h1, h2] <;> omega)⟩
set_option maxRecDepth 100000 in
theorem callBegin_3 (hx : isCore L x gF) (hn : x.tr.length ≤ 1000000) (th no : Int) (c : CallC) : DoesG Tryz.prog 14 #[ptr' L.fb, .int .i64 th, .int .i64 no, .agg { c with kind := 3 }.cells] [gF] (BeginR L x th no { c with kind := 3 }) := by
  unfold BeginR
  have HS := Lib.hid (show ∀ kb pv, (cliC L kb pv).SV (.at none .enter) .nilFunc (.func (.func 63) #[ptr' kb] #[]) [] from fun kb pv => ⟨rfl, rfl, rfl⟩)
  have HNW := Lib.hid (show ∀ kb, _ from fun kb => Cli.prog_new (cliC_ok L kb (.pointer none)) (HS.out kb (.pointer none)))
  have HF1 := Lib.hid (show firstC 3 = .at none .enter from by simp [firstC])
  intro w hw
  have T0 := TG.refl hw
  have HT := Lib.hid T0
  clear hw T0
  have HX := Lib.hid hx
  have HLN := Lib.hid hn
  clear hx hn
  simp only [CallC.cells]
  go_enter Tryz.func14, Tryz.ntmps14
  go_wp2_with fail
  have HT := Lib.hid ((HT.out.alloc (k := w.heap.size) rfl 24 #[.int .i64 3, .int .u64 c.id, .int .u64 c.dl, .int .u64 c.per]).alloc (k := w.heap.size + 1) (by simp) 102 (workC L.fb (.pointer none) (.pointer none) (.pointer none) (newW th no { c with kind := 3 })))
  simp only [List.cons_append, List.nil_append] at HT
  refine (DoesG.use callsAt HT.out [] rfl rfl).mono ?_
  rintro e w1 ⟨gs, ⟨rfl, rfl⟩, Ta⟩
  simp only [putG, List.set_cons_zero, List.set_cons_succ, List.cons_append, List.nil_append, List.append_nil] at Ta
  have HT := Lib.hid (Ta.sum (H' := [gF, [cl w.heap.size 24 #[.int .i64 3, .int .u64 c.id, .int .u64 c.dl, .int .u64 c.per]], workB (w.heap.size + 1) L.fb (.pointer none) (.pointer none) (.pointer none) (newW th no { c with kind := 3 }), []]) (fun n ha h0 h1 h2 => by simp only [pickG, List.map_cons, List.map_nil, List.getD_cons_succ, List.getD_cons_zero, List.set_cons_succ, List.set_cons_zero, List.cons_append, List.flatten_append, List.flatten_cons, List.flatten_nil, List.append_nil, List.nil_append, ha, h0, h1, h2] <;> omega))
  clear Ta
  go_wp2_with fail
  refine (DoesG.use (HNW.out _) (HT.out) [3] rfl rfl).mono ?_
  rintro e w1 ⟨gs, ⟨pb, rfl, rfl⟩, Ta⟩
  simp only [putG, List.set_cons_zero, List.set_cons_succ, List.cons_append, List.nil_append, List.append_nil] at Ta
  have HT := Lib.hid Ta
  clear Ta
  have k12 := HT.out.cell 2 0 rfl 12
  have fk12 := HT.out.free 2 0 rfl 12
  simp only [workC, List.getElem?_toArray, List.getElem?_cons_zero, List.getElem?_cons_succ] at k12
  have b0 := HT.out.cell 1 0 rfl 0
  have b1 := HT.out.cell 1 0 rfl 1
  have b2 := HT.out.cell 1 0 rfl 2
  have b3 := HT.out.cell 1 0 rfl 3
  simp only [List.getElem?_nil, List.getElem?_toArray, List.getElem?_cons_zero, List.getElem?_cons_succ] at b0 b1 b2 b3
  go_wp2_with fail
  have HT := Lib.hid ((HT.out.set 2 0 rfl 12 (ptr' pb)).eq (H' := [gF, [cl w.heap.size 24 #[.int .i64 3, .int .u64 c.id, .int .u64 c.dl, .int .u64 c.per]], workB (w.heap.size + 1) L.fb (ptr' pb) (.pointer none) (.pointer none) (newW th no { c with kind := 3 }), [], Cli.progB pb .nilFunc (.func (.func 63) #[ptr' (w.heap.size + 1)] #[]) 0]) rfl)
  go_wp2_with fail
  refine (DoesG.use (workNote HX.out { ev0 with kind := 1, id := c.id, dl := c.dl, per := c.per } HLN.out) (HT.out) [2, 0] rfl rfl).mono ?_
  rintro e w1 ⟨gs, ⟨rfl, g1, hx1, rfl⟩, Ta⟩
  simp only [putG, List.set_cons_zero, List.set_cons_succ, List.cons_append, List.nil_append, List.append_nil] at Ta
  have HX := Lib.hid hx1
  clear hx1 k12 fk12 b0 b1 b2 b3
  have HT := Lib.hid Ta
  clear Ta
  go_wp2
  go_ret2
  exact ⟨_, ⟨_, _, g1, rfl, by rw [HF1.out]; exact ⟨pb, _, _, [], _, HS.out _ _, ⟨_, _, [], [], ⟨rfl, rfl⟩, ⟨rfl, rfl⟩, rfl⟩, rfl⟩, HX.out, rfl⟩, ((HT.out.pick [2, 0, 4] rfl).eq (H' := [[cl (w.heap.size + 1) 102 (workC L.fb (ptr' pb) (.pointer none) (.pointer none) (newW th no { c with kind := 3 }))], g1, Cli.progB pb .nilFunc (.func (.func 63) #[ptr' (w.heap.size + 1)] #[]) 0]) rfl).sum (H' := [Cli.progB pb .nilFunc (.func (.func 63) #[ptr' (w.heap.size + 1)] #[]) 0 ++ ([] ++ ([cl (w.heap.size + 1) 102 (workC L.fb (ptr' pb) (.pointer none) (.pointer none) (newW th no { c with kind := 3 }))] ++ ([] ++ []))), g1]) (fun n ha h0 h1 h2 => by simp only [pickG, List.map_cons, List.map_nil, List.getD_cons_succ, List.getD_cons_zero, List.set_cons_succ, List.set_cons_zero, List.cons_append, List.flatten_append, List.flatten_cons, List.flatten_nil, List.append_nil, List.nil_append, ha, h0, h1, h2] <;> omega)⟩
set_option maxRecDepth 100000 in
theorem callBegin_4 (hx : isCore L x gF) (hn : x.tr.length ≤ 1000000) (th no : Int) (c : CallC) : DoesG Tryz.prog 14 #[ptr' L.fb, .int .i64 th, .int .i64 no, .agg { c with kind := 4 }.cells] [gF] (BeginR L x th no { c with kind := 4 }) := by
  unfold BeginR
  have HS := Lib.hid (show ∀ kb pv, (cliC L kb pv).SV (.at none .gate) .nilFunc (.func (.func 64) #[ptr' kb] #[]) [] from fun kb pv => ⟨rfl, rfl, rfl⟩)
  have HNW := Lib.hid (show ∀ kb, _ from fun kb => Cli.prog_new (cliC_ok L kb (.pointer none)) (HS.out kb (.pointer none)))
  have HF1 := Lib.hid (show firstC 4 = .at none .gate from by simp [firstC])
  intro w hw
  have T0 := TG.refl hw
  have HT := Lib.hid T0
  clear hw T0
  have HX := Lib.hid hx
  have HLN := Lib.hid hn
  clear hx hn
  simp only [CallC.cells]
  go_enter Tryz.func14, Tryz.ntmps14
  go_wp2_with fail
  have HT := Lib.hid ((HT.out.alloc (k := w.heap.size) rfl 24 #[.int .i64 4, .int .u64 c.id, .int .u64 c.dl, .int .u64 c.per]).alloc (k := w.heap.size + 1) (by simp) 102 (workC L.fb (.pointer none) (.pointer none) (.pointer none) (newW th no { c with kind := 4 })))
  simp only [List.cons_append, List.nil_append] at HT
  refine (DoesG.use callsAt HT.out [] rfl rfl).mono ?_
  rintro e w1 ⟨gs, ⟨rfl, rfl⟩, Ta⟩
  simp only [putG, List.set_cons_zero, List.set_cons_succ, List.cons_append, List.nil_append, List.append_nil] at Ta
  have HT := Lib.hid (Ta.sum (H' := [gF, [cl w.heap.size 24 #[.int .i64 4, .int .u64 c.id, .int .u64 c.dl, .int .u64 c.per]], workB (w.heap.size + 1) L.fb (.pointer none) (.pointer none) (.pointer none) (newW th no { c with kind := 4 }), []]) (fun n ha h0 h1 h2 => by simp only [pickG, List.map_cons, List.map_nil, List.getD_cons_succ, List.getD_cons_zero, List.set_cons_succ, List.set_cons_zero, List.cons_append, List.flatten_append, List.flatten_cons, List.flatten_nil, List.append_nil, List.nil_append, ha, h0, h1, h2] <;> omega))
  clear Ta
  go_wp2_with fail
  refine (DoesG.use (HNW.out _) (HT.out) [3] rfl rfl).mono ?_
  rintro e w1 ⟨gs, ⟨pb, rfl, rfl⟩, Ta⟩
  simp only [putG, List.set_cons_zero, List.set_cons_succ, List.cons_append, List.nil_append, List.append_nil] at Ta
  have HT := Lib.hid Ta
  clear Ta
  have k12 := HT.out.cell 2 0 rfl 12
  have fk12 := HT.out.free 2 0 rfl 12
  simp only [workC, List.getElem?_toArray, List.getElem?_cons_zero, List.getElem?_cons_succ] at k12
  have b0 := HT.out.cell 1 0 rfl 0
  have b1 := HT.out.cell 1 0 rfl 1
  have b2 := HT.out.cell 1 0 rfl 2
  have b3 := HT.out.cell 1 0 rfl 3
  simp only [List.getElem?_nil, List.getElem?_toArray, List.getElem?_cons_zero, List.getElem?_cons_succ] at b0 b1 b2 b3
  go_wp2_with fail
  have HT := Lib.hid ((HT.out.set 2 0 rfl 12 (ptr' pb)).eq (H' := [gF, [cl w.heap.size 24 #[.int .i64 4, .int .u64 c.id, .int .u64 c.dl, .int .u64 c.per]], workB (w.heap.size + 1) L.fb (ptr' pb) (.pointer none) (.pointer none) (newW th no { c with kind := 4 }), [], Cli.progB pb .nilFunc (.func (.func 64) #[ptr' (w.heap.size + 1)] #[]) 0]) rfl)
  go_wp2_with fail
  refine (DoesG.use (workNote HX.out { ev0 with kind := 1, id := c.id, dl := c.dl, per := c.per } HLN.out) (HT.out) [2, 0] rfl rfl).mono ?_
  rintro e w1 ⟨gs, ⟨rfl, g1, hx1, rfl⟩, Ta⟩
  simp only [putG, List.set_cons_zero, List.set_cons_succ, List.cons_append, List.nil_append, List.append_nil] at Ta
  have HX := Lib.hid hx1
  clear hx1 k12 fk12 b0 b1 b2 b3
  have HT := Lib.hid Ta
  clear Ta
  go_wp2
  go_ret2
  exact ⟨_, ⟨_, _, g1, rfl, by rw [HF1.out]; exact ⟨pb, _, _, [], _, HS.out _ _, ⟨_, _, [], [], ⟨rfl, rfl⟩, ⟨rfl, rfl⟩, rfl⟩, rfl⟩, HX.out, rfl⟩, ((HT.out.pick [2, 0, 4] rfl).eq (H' := [[cl (w.heap.size + 1) 102 (workC L.fb (ptr' pb) (.pointer none) (.pointer none) (newW th no { c with kind := 4 }))], g1, Cli.progB pb .nilFunc (.func (.func 64) #[ptr' (w.heap.size + 1)] #[]) 0]) rfl).sum (H' := [Cli.progB pb .nilFunc (.func (.func 64) #[ptr' (w.heap.size + 1)] #[]) 0 ++ ([] ++ ([cl (w.heap.size + 1) 102 (workC L.fb (ptr' pb) (.pointer none) (.pointer none) (newW th no { c with kind := 4 }))] ++ ([] ++ []))), g1]) (fun n ha h0 h1 h2 => by simp only [pickG, List.map_cons, List.map_nil, List.getD_cons_succ, List.getD_cons_zero, List.set_cons_succ, List.set_cons_zero, List.cons_append, List.flatten_append, List.flatten_cons, List.flatten_nil, List.append_nil, List.nil_append, ha, h0, h1, h2] <;> omega)⟩
set_option maxRecDepth 100000 in
theorem callBegin_5 (hx : isCore L x gF) (hn : x.tr.length ≤ 1000000) (th no : Int) (c : CallC) : DoesG Tryz.prog 14 #[ptr' L.fb, .int .i64 th, .int .i64 no, .agg { c with kind := 5 }.cells] [gF] (BeginR L x th no { c with kind := 5 }) := by
  unfold BeginR
  have HS := Lib.hid (show ∀ kb pv, (cliC L kb pv).SV (.at none .gate) .nilFunc (.func (.func 64) #[ptr' kb] #[]) [] from fun kb pv => ⟨rfl, rfl, rfl⟩)
  have HNW := Lib.hid (show ∀ kb, _ from fun kb => Cli.prog_new (cliC_ok L kb (.pointer none)) (HS.out kb (.pointer none)))
  have HF1 := Lib.hid (show firstC 5 = .at none .gate from by simp [firstC])
  intro w hw
  have T0 := TG.refl hw
  have HT := Lib.hid T0
  clear hw T0
  have HX := Lib.hid hx
  have HLN := Lib.hid hn
  clear hx hn
  simp only [CallC.cells]
  go_enter Tryz.func14, Tryz.ntmps14
  go_wp2_with fail
  have HT := Lib.hid ((HT.out.alloc (k := w.heap.size) rfl 24 #[.int .i64 5, .int .u64 c.id, .int .u64 c.dl, .int .u64 c.per]).alloc (k := w.heap.size + 1) (by simp) 102 (workC L.fb (.pointer none) (.pointer none) (.pointer none) (newW th no { c with kind := 5 })))
  simp only [List.cons_append, List.nil_append] at HT
  refine (DoesG.use callsAt HT.out [] rfl rfl).mono ?_
  rintro e w1 ⟨gs, ⟨rfl, rfl⟩, Ta⟩
  simp only [putG, List.set_cons_zero, List.set_cons_succ, List.cons_append, List.nil_append, List.append_nil] at Ta
  have HT := Lib.hid (Ta.sum (H' := [gF, [cl w.heap.size 24 #[.int .i64 5, .int .u64 c.id, .int .u64 c.dl, .int .u64 c.per]], workB (w.heap.size + 1) L.fb (.pointer none) (.pointer none) (.pointer none) (newW th no { c with kind := 5 }), []]) (fun n ha h0 h1 h2 => by simp only [pickG, List.map_cons, List.map_nil, List.getD_cons_succ, List.getD_cons_zero, List.set_cons_succ, List.set_cons_zero, List.cons_append, List.flatten_append, List.flatten_cons, List.flatten_nil, List.append_nil, List.nil_append, ha, h0, h1, h2] <;> omega))
  clear Ta
  go_wp2_with fail
  refine (DoesG.use (HNW.out _) (HT.out) [3] rfl rfl).mono ?_
  rintro e w1 ⟨gs, ⟨pb, rfl, rfl⟩, Ta⟩
  simp only [putG, List.set_cons_zero, List.set_cons_succ, List.cons_append, List.nil_append, List.append_nil] at Ta
  have HT := Lib.hid Ta
  clear Ta
  have k12 := HT.out.cell 2 0 rfl 12
  have fk12 := HT.out.free 2 0 rfl 12
  simp only [workC, List.getElem?_toArray, List.getElem?_cons_zero, List.getElem?_cons_succ] at k12
  have b0 := HT.out.cell 1 0 rfl 0
  have b1 := HT.out.cell 1 0 rfl 1
  have b2 := HT.out.cell 1 0 rfl 2
  have b3 := HT.out.cell 1 0 rfl 3
  simp only [List.getElem?_nil, List.getElem?_toArray, List.getElem?_cons_zero, List.getElem?_cons_succ] at b0 b1 b2 b3
  go_wp2_with fail
  have HT := Lib.hid ((HT.out.set 2 0 rfl 12 (ptr' pb)).eq (H' := [gF, [cl w.heap.size 24 #[.int .i64 5, .int .u64 c.id, .int .u64 c.dl, .int .u64 c.per]], workB (w.heap.size + 1) L.fb (ptr' pb) (.pointer none) (.pointer none) (newW th no { c with kind := 5 }), [], Cli.progB pb .nilFunc (.func (.func 64) #[ptr' (w.heap.size + 1)] #[]) 0]) rfl)
  go_wp2_with fail
  refine (DoesG.use (workNote HX.out { ev0 with kind := 1, id := c.id, dl := c.dl, per := c.per } HLN.out) (HT.out) [2, 0] rfl rfl).mono ?_
  rintro e w1 ⟨gs, ⟨rfl, g1, hx1, rfl⟩, Ta⟩
  simp only [putG, List.set_cons_zero, List.set_cons_succ, List.cons_append, List.nil_append, List.append_nil] at Ta
  have HX := Lib.hid hx1
  clear hx1 k12 fk12 b0 b1 b2 b3
  have HT := Lib.hid Ta
  clear Ta
  go_wp2
  go_ret2
  exact ⟨_, ⟨_, _, g1, rfl, by rw [HF1.out]; exact ⟨pb, _, _, [], _, HS.out _ _, ⟨_, _, [], [], ⟨rfl, rfl⟩, ⟨rfl, rfl⟩, rfl⟩, rfl⟩, HX.out, rfl⟩, ((HT.out.pick [2, 0, 4] rfl).eq (H' := [[cl (w.heap.size + 1) 102 (workC L.fb (ptr' pb) (.pointer none) (.pointer none) (newW th no { c with kind := 5 }))], g1, Cli.progB pb .nilFunc (.func (.func 64) #[ptr' (w.heap.size + 1)] #[]) 0]) rfl).sum (H' := [Cli.progB pb .nilFunc (.func (.func 64) #[ptr' (w.heap.size + 1)] #[]) 0 ++ ([] ++ ([cl (w.heap.size + 1) 102 (workC L.fb (ptr' pb) (.pointer none) (.pointer none) (newW th no { c with kind := 5 }))] ++ ([] ++ []))), g1]) (fun n ha h0 h1 h2 => by simp only [pickG, List.map_cons, List.map_nil, List.getD_cons_succ, List.getD_cons_zero, List.set_cons_succ, List.set_cons_zero, List.cons_append, List.flatten_append, List.flatten_cons, List.flatten_nil, List.append_nil, List.nil_append, ha, h0, h1, h2] <;> omega)⟩
theorem callBegin (hx : isCore L x gF) (hn : x.tr.length ≤ 1000000) (th no : Int) (c : CallC) (h1 : 1 ≤ c.kind) (h5 : c.kind ≤ 5) : DoesG Tryz.prog 14 #[ptr' L.fb, .int .i64 th, .int .i64 no, .agg c.cells] [gF] (BeginR L x th no c) := by
  obtain ⟨kd, id, dl, per⟩ := c
  simp only at h1 h5
  have h : kd = 1 ∨ kd = 2 ∨ kd = 3 ∨ kd = 4 ∨ kd = 5 := by omega
  rcases h with rfl | rfl | rfl | rfl | rfl
  · exact callBegin_1 hx hn th no ⟨1, id, dl, per⟩
  · exact callBegin_2 hx hn th no ⟨2, id, dl, per⟩
  · exact callBegin_3 hx hn th no ⟨3, id, dl, per⟩
  · exact callBegin_4 hx hn th no ⟨4, id, dl, per⟩
  · exact callBegin_5 hx hn th no ⟨5, id, dl, per⟩
set_option maxRecDepth 100000 in
theorem callBegin_none (th no : Int) (c : CallC) : DoesG Tryz.prog 14 #[.pointer none, .int .i64 th, .int .i64 no, .agg c.cells] [] fun e gs => e = .returned (.tuple #[.pointer none, .int .i64 6]) ∧ gs = [] := by
  intro w hw
  have T0 := TG.refl hw
  have HT := Lib.hid T0
  clear hw T0
  simp only [CallC.cells]
  go_enter Tryz.func14, Tryz.ntmps14
  go_wp2
  go_ret2
  exact ⟨_, ⟨rfl, rfl⟩, HT.out.alloc0 _⟩
set_option maxRecDepth 100000 in
theorem callBegin_bad (hx : isCore L x gF) (th no : Int) (c : CallC) (h : c.kind < 1 ∨ 5 < c.kind) : DoesG Tryz.prog 14 #[ptr' L.fb, .int .i64 th, .int .i64 no, .agg c.cells] [gF] fun e gs => e = .returned (.tuple #[.pointer none, .int .i64 1]) ∧ gs = [gF] := by
  intro w hw
  have T0 := TG.refl hw
  have HT := Lib.hid T0
  clear hw T0
  have b1 : (c.kind == 1) = false := beq_eq_false_iff_ne.2 (by omega)
  have b2 : (c.kind == 2) = false := beq_eq_false_iff_ne.2 (by omega)
  have b3 : (c.kind == 3) = false := beq_eq_false_iff_ne.2 (by omega)
  have b4 : (c.kind == 4) = false := beq_eq_false_iff_ne.2 (by omega)
  have b5 : (c.kind == 5) = false := beq_eq_false_iff_ne.2 (by omega)
  clear h hx
  simp only [CallC.cells]
  go_enter Tryz.func14, Tryz.ntmps14
  go_wp2
  go_ret2
  exact ⟨_, ⟨rfl, rfl⟩, (HT.out.alloc0 _).alloc0 _⟩
end
end Go.Proofs.YthbjaoinklhikaaGreat

namespace Go.Proofs.YthbjaoinklhikaaGreat
set_option linter.unusedVariables false
set_option linter.unusedSimpArgs false
open Go.RowKit Go.Shelf

/-! ## A new floor, as a core; a call alone, to its end -/
theorem shard_open {b : Nat} {s : ShardS} {g : List Blk} (h : isShard b s g) : ∃ q : ShP, q.b = b ∧ isSh q s g := by
  obtain ⟨rb, lb, wb, gr, gl, h1, h2, rfl⟩ := h
  exact ⟨⟨b, rb, lb, wb⟩, rfl, gr, gl, h1, h2, by simp [shardB]⟩
theorem fam_open : ∀ {l : List (Nat × ShardS)} {g : List Blk}, FamP (fun (x : Nat × ShardS) => isShard x.1 x.2) l g → ∃ qs : List ShP, qs.map ShP.b = l.map Prod.fst ∧ FamP (fun (z : ShP × ShardS) => isSh z.1 z.2) (qs.zip (l.map Prod.snd)) g
  | [], _, h => ⟨[], rfl, h⟩
  | a :: l, _, h => by
    obtain ⟨u, v, hu, hv, rfl⟩ := h
    obtain ⟨q, hq, hs⟩ := shard_open hu
    obtain ⟨qs, h1, h2⟩ := fam_open hv
    exact ⟨q :: qs, by simp [hq, h1], u, v, hs, h2, rfl⟩
def core0 (c : Cfg) : CoreS := ⟨⟨c, false, 0, 0, 0⟩, newSlab c.cap.toNat, [], List.replicate c.sh.toNat (newShard c.ring.toNat)⟩
theorem newCore (c : Cfg) (hk : c.ok = true) : DoesG Tryz.prog 20 #[.agg c.cells] [] fun e gs =>
    ∃ L gF gP gL, e = .returned (.tuple #[ptr' L.fb, .int .i64 0]) ∧ isCore L (core0 c) gF ∧ emptyPipe L.p.pb gP ∧ gL = [cl L.p.lb 174 #[.slice none 0 0]] ∧ gs = [gF, gP, gL] := by
  refine (floorNew_g c hk).post ?_
  rintro e gs ⟨fb, p, shs, gF, gS, gR, gH, gP, gL, he, ha, hlen, hall, rfl⟩
  obtain ⟨qs, h1, h2⟩ := fam_open ha.shards
  have hsn : shs.map Prod.snd = List.replicate c.sh.toNat (newShard c.ring.toNat) := by
    rw [List.eq_replicate_iff]
    refine ⟨by simp; omega, fun b hb => ?_⟩
    obtain ⟨a, ha', rfl⟩ := List.mem_map.1 hb
    exact hall a ha'
  refine ⟨[gF ++ (gS ++ (gR ++ (gH ++ []))), gP, gL], ⟨⟨fb, p, qs⟩, _, gP, gL, he, ⟨_, gF, gS, gR, gH, [], ha.floor, ha.slab, ?_, ?_, ?_, trG_nil, rfl⟩, ha.pipe, ha.log, rfl⟩, by simp⟩
  · show rowG _ 1 p.sh (qs.map ShP.b).length ((qs.map ShP.b).map fun b => ptr' b) gR
    rw [h1]; exact ha.row'
  · have := congrArg List.length h1
    have := congrArg List.length hsn
    simp only [List.length_map] at *
    show qs.length = (List.replicate _ _).length
    omega
  · show FamP _ (qs.zip (List.replicate _ _)) gH
    rw [← hsn]; exact h2
def Runs (n : Nat) (s : SC) (z : ZC) : Prop := (∀ j, j < n → (itC j s z).1.isNil = false) ∧ (itC n s z).1.isNil = true
theorem itC_next : ∀ (j : Nat) (s : SC) (z : ZC), itC (j + 1) s z = stepC (itC j s z).1 (itC j s z).2
  | 0, _, _ => rfl
  | j + 1, s, z => by rw [itC, itC_next j]; rfl
section
variable {L : Lay} {x : CoreS} {gF : List Blk}
set_option maxRecDepth 100000 in
theorem lawRun (hx : isCore L x gF) (c : CallC) (h1 : 1 ≤ c.kind) (h5 : c.kind ≤ 5) (n N : Nat) (s0 : SC) (z0 : ZC) (hs0 : s0 = firstC c.kind) (hz0 : z0 = (newW 0 1 c, noteC (newW 0 1 c) { ev0 with kind := 1, id := c.id, dl := c.dl, per := c.per } x))
    (hJ : JC N s0 z0) (hN : N + n < 1000000) (hn : n ≤ 499) (hr : Runs n s0 z0) :
    DoesG Tryz.prog 24 #[ptr' L.fb, .agg c.cells] [gF] fun e gs =>
      e = .returned (.tuple #[.agg (ansC (itC n s0 z0).2.1.err (itC n s0 z0).2.1.ok (itC n s0 z0).2.1.aid (itC n s0 z0).2.1.agen), .int .i64 n, .bool true]) ∧ ∃ gF', isCore L (itC n s0 z0).2.2 gF' ∧ gs = [gF'] := by
  have hb := callBegin hx (by have := hJ.core.tr; rw [hz0] at this; simp only [noteC] at this; rw [List.length_append] at this; simp at this; omega) 0 1 c h1 h5
  unfold BeginR at hb
  rw [← hs0] at hb
  have HB := Lib.hid hb
  have HJ := Lib.hid hJ
  have HRN := Lib.hid hr
  have HZ := Lib.hid hz0
  intro w hw
  have T0 := TG.refl hw
  have HT := Lib.hid T0
  clear hw T0
  clear hx hJ hr hz0 hs0 h1 h5 hb
  simp only [CallC.cells] at HB ⊢
  go_enter Tryz.func24, Tryz.ntmps24
  go_wp2_with fail
  have HT := Lib.hid ((HT.out.alloc (k := w.heap.size) rfl 24 #[.int .i64 c.kind, .int .u64 c.id, .int .u64 c.dl, .int .u64 c.per]).alloc (k := w.heap.size + 1) (by simp) 30 #[.int .i64 0, .bool false, .int .u64 0, .int .u64 0, .slice none 0 0])
  go_wp2_with fail
  refine (DoesG.use (HB.out) (HT.out) [0] rfl rfl).mono ?_
  rintro e w1 ⟨gs, ⟨kb, g, gF1, rfl, hc, hx1, rfl⟩, Ta⟩
  simp only [putG, List.set_cons_zero, List.set_cons_succ, List.cons_append, List.nil_append, List.append_nil] at Ta
  have HT := Lib.hid Ta
  clear Ta
  have HT := Lib.hid (HT.out.pick [3, 2, 0] rfl)
  go_wp2
  have T1 := HT.out
  have HC := Lib.hid hc
  have HX1 := Lib.hid hx1
  clear hc hx1
  go_loopw [9] (fun i wr => ∃ j : Nat, j ≤ n ∧ i = .int .i64 j ∧ ∃ g gF2, isCall L kb (itC j s0 z0).1 j (itC j s0 z0).2.1 g ∧ isCore L (itC j s0 z0).2.2 gF2 ∧ TG [gF] w [gF2, [cl (w.heap.size + 1) 30 #[.int .i64 0, .bool false, .int .u64 0, .int .u64 0, .slice none 0 0]], g] wr) (fun i _ => 500 - (intOf i).toNat)
  case atStart => exact ⟨0, Nat.zero_le _, rfl, g, gF1, by rw [HZ.out]; exact HC.out, by rw [HZ.out]; exact HX1.out, T1⟩
  case round =>
    obtain ⟨j, hj, rfl, g2, gF2, hc2, hx2, T2⟩ := hrel
    have HC2 := Lib.hid hc2
    have HX2 := Lib.hid hx2
    have HT := Lib.hid T2
    have hjb : j ≤ 499 := by omega
    clear T1 T2 hc2 hx2
    by_cases hlt : j < n
    · have hni := HRN.out.1 j hlt
      have hpre := (HJ.out.it (N := N) j).pre (by omega)
      have hst := callStep HC2.out HX2.out hpre hni ⟨by omega, by omega⟩
      rw [← itC_next] at hst
      have HST := Lib.hid hst
      clear hst hpre hni
      go_wp2_with fail
      refine (DoesG.use HST.out HT.out [2, 0] rfl rfl).mono ?_
      rintro e w4 ⟨gs, ⟨g3, gF3, rfl, hc3, hx3, rfl⟩, Ta⟩
      simp only [putG, List.set_cons_zero, List.set_cons_succ, List.cons_append, List.nil_append, List.append_nil] at Ta
      have HC3 := Lib.hid hc3
      have HX3 := Lib.hid hx3
      have HT := Lib.hid Ta
      clear Ta hc3 hx3
      go_wp2
      first
      | (go_roundw
         case rel => exact ⟨j + 1, by omega, by go_num, g3, gF3, by have := HC3.out; rwa [show ((j : Int) + 1) = ((j + 1 : Nat) : Int) by omega] at this, HX3.out, HT.out⟩
         case measure => simp [intOf]; omega)
      | exact ⟨⟨j + 1, by omega, by go_num, g3, gF3, by have := HC3.out; rwa [show ((j : Int) + 1) = ((j + 1 : Nat) : Int) by omega] at this, HX3.out, HT.out⟩, by simp [intOf]; omega⟩
      | ((repeat apply Exists.intro); exact ⟨⟨⟨j + 1, by omega, by go_num, g3, gF3, by have := HC3.out; rwa [show ((j : Int) + 1) = ((j + 1 : Nat) : Int) by omega] at this, HX3.out, HT.out⟩, rfl⟩, by simp [intOf]; omega⟩)
    · have hjn : j = n := by omega
      subst hjn
      have hnil := HRN.out.2
      have hs : (itC j s0 z0).1 = .nil := by
        revert hnil
        cases (itC j s0 z0).1 <;> intro h <;> first | rfl | cases h
      have hc4 := HC2.out
      rw [hs] at hc4
      have hst := callStep_nil hc4 HX2.out
      have HST := Lib.hid hst
      clear hst hnil hs hc4
      go_wp2_with fail
      refine (DoesG.use HST.out HT.out [2, 0] rfl rfl).mono ?_
      rintro e w4 ⟨gs, ⟨rfl, g3, gF3, hc3, hx3, rfl⟩, Ta⟩
      simp only [putG, List.set_cons_zero, List.set_cons_succ, List.cons_append, List.nil_append, List.append_nil] at Ta
      have HD := Lib.hid (show ReadsG Tryz.prog 17 #[ptr' kb] [g3] (.bool true) from callDone hc3)
      have hA := callAnswer hc3 rfl
      obtain ⟨k2, hk2⟩ : ∃ k2, (itC j s0 z0).2.1 = k2 := ⟨_, rfl⟩
      rw [hk2] at hA
      have HA := Lib.hid hA
      have HK := Lib.hid hk2
      clear hA hk2
      have HX3 := Lib.hid hx3
      have HT := Lib.hid Ta
      clear Ta hc3 hx3
      go_wp2_with fail
      refine (DoesG.use (HA.out) (HT.out) [2] rfl rfl).mono ?_
      rintro e w1 ⟨gs, ⟨rfl, rfl⟩, Ta⟩
      simp only [putG, List.set_cons_zero, List.set_cons_succ, List.cons_append, List.nil_append, List.append_nil] at Ta
      have HT := Lib.hid Ta
      clear Ta
      have e0 := HT.out.cell 1 0 rfl 0
      have fe0 := HT.out.free 1 0 rfl 0
      have e1 := HT.out.cell 1 0 rfl 1
      have fe1 := HT.out.free 1 0 rfl 1
      have e2 := HT.out.cell 1 0 rfl 2
      have fe2 := HT.out.free 1 0 rfl 2
      have e3 := HT.out.cell 1 0 rfl 3
      have fe3 := HT.out.free 1 0 rfl 3
      have e4 := HT.out.cell 1 0 rfl 4
      have fe4 := HT.out.free 1 0 rfl 4
      simp only [List.getElem?_nil, List.getElem?_toArray, List.getElem?_cons_zero, List.getElem?_cons_succ] at e0 e1 e2 e3 e4
      have lte := HT.out.lt 1 0 rfl
      simp only [] at lte
      simp only [ansC]
      go_wp2_with fail
      have HT := Lib.hid (HT.out.alloc (k := w1.heap.size) rfl 30 (ansC k2.err k2.ok k2.aid k2.agen))
      simp only [List.cons_append, List.nil_append, ansC] at HT
      generalize World.alloc _ _ = w5 at HT ⊢
      clear e0 e1 e2 e3 e4 fe0 fe1 fe2 fe3 fe4
      have e0 := HT.out.cell 1 0 rfl 0
      have fe0 := HT.out.free 1 0 rfl 0
      have e1 := HT.out.cell 1 0 rfl 1
      have fe1 := HT.out.free 1 0 rfl 1
      have e2 := HT.out.cell 1 0 rfl 2
      have fe2 := HT.out.free 1 0 rfl 2
      have e3 := HT.out.cell 1 0 rfl 3
      have fe3 := HT.out.free 1 0 rfl 3
      have e4 := HT.out.cell 1 0 rfl 4
      have fe4 := HT.out.free 1 0 rfl 4
      simp only [List.getElem?_nil, List.getElem?_toArray, List.getElem?_cons_zero, List.getElem?_cons_succ] at e0 e1 e2 e3 e4
      have a0 := HT.out.cell 3 0 rfl 0
      have a1 := HT.out.cell 3 0 rfl 1
      have a2 := HT.out.cell 3 0 rfl 2
      have a3 := HT.out.cell 3 0 rfl 3
      have a4 := HT.out.cell 3 0 rfl 4
      simp only [List.getElem?_nil, List.getElem?_toArray, List.getElem?_cons_zero, List.getElem?_cons_succ] at a0 a1 a2 a3 a4
      refine wp_region_mix1 12 (by kernel_rfl) (by kernel_rfl) ?_
      simp only [List.take_succ_cons, List.take_zero, List.drop_succ_cons, List.drop_zero]
      repeat (go_big_quiet_step ((first | (go_at_call 17; with_reducible exact ReadsG.quiet (HD.out) HT.out _ [2] rfl rfl))))
      refine wpQuiet_nil ?_
      intro _ hw'
      obtain ⟨nq, hw''⟩ := hw'
      subst hw''
      have HT := Lib.hid (HT.out.drewN nq)
      go_wp2_with fail
      refine ⟨rfl, ?_⟩
      go_wp2
      exact bodyPost_ret (v := .tuple #[.agg (ansC k2.err k2.ok k2.aid k2.agen), .int .i64 j, .bool true]) (by simp [results, Tryz.results24, go_sem, e0, e1, e2, e3, e4, ansC]) rfl ⟨_, ⟨by rw [HK.out], gF3, HX3.out, rfl⟩, ((((((HT.out.set 1 0 rfl 0 _).set 1 0 rfl 1 _).set 1 0 rfl 2 _).set 1 0 rfl 3 _).set 1 0 rfl 4 _).pick [0] rfl)⟩
end
end Go.Proofs.YthbjaoinklhikaaGreat
