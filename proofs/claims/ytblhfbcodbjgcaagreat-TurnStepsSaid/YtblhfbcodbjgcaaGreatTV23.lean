import Derived.Test.YtblhfbcodbjgcaaGreatTV22
import Derived.Test.YtblhfbcodbjgcaaGreatTV13
import Derived.Test.YtblhfbcodbjgcaaGreatTV20
import Derived.Test.YtblhfbcodbjgcaaGreatTV17
import Derived.Test.YtblhfbcodbjgcaaGreatTV12
import Derived.Test.YtblhfbcodbjgcaaGreatTV19
namespace Go.Proofs.YtblhfbcodbjgcaaGreat
set_option linter.unusedVariables false
set_option linter.unusedSimpArgs false
open Go.RowKit Go.Shelf
structure RingN (N : Int) (r : RingS) : Prop where
  n0 : 1 ≤ r.slots.length
  n1 : r.slots.length ≤ 64
  t0 : 0 ≤ r.tail
  t1 : r.tail ≤ N
  h0 : 0 ≤ r.head
  h1 : r.head ≤ N
structure TickN (N : Int) (t : TickS) : Prop where
  p0 : 0 ≤ t.pos
  p1 : t.pos ≤ N
  nx : t.next = 0 ∨ t.next = 1 ∨ t.next = 2
  st : t.status = 0 ∨ t.status = 1 ∨ t.status = 2
structure CoreN (N : Nat) (x : CoreS) : Prop where
  slab : SlabOk x.slab
  i0 : 0 ≤ x.f.inside
  i1 : x.f.inside ≤ N
  tr : x.tr.length ≤ N
  sh : 1 ≤ x.shs.length
  ring : ∀ s ∈ x.shs, RingN N s.ring
structure WorkN (N : Nat) (k : WorkS) (x : CoreS) : Prop where
  c0 : 0 ≤ k.cdl ∧ k.cdl < 18446744073709551616
  c1 : 0 ≤ k.cper ∧ k.cper < 18446744073709551616
  id : 0 ≤ k.id ∧ k.id < 18446744073709551616
  slot : 0 ≤ k.slot
  saw : 0 ≤ k.saw ∧ k.saw < 18446744073709551616 ∧ okW k.saw = true
  rq : ∀ q, k.rq = some q → ReqOk x.slab.recs.length q
  tk : ∀ i t, k.tk = some (i, t) → TickN N t ∧ i < x.shs.length
def FitC : SC → WorkS → Prop
  | .nil, _ => True
  | .at none .right, _ => True
  | .at none .enter, _ => True
  | .at none .gate, _ => True
  | .at none .looks, _ => True
  | .at none .asks, k => k.rq.isSome = true ∧ ∀ q, k.rq = some q → q.st = 0
  | .at none .queues, k => k.tk.isSome = true
  | .at none .submits, k => k.tk.isSome = true
  | .at none .fills, k => k.tk.isSome = true
  | .at none .again, k => k.tk.isSome = true
  | .at none .tries, k => k.kind = 3 → k.tk.isSome = true
  | .row1 .ends1, _ => True
  | .thn (.row1 .leaves1) .ends, _ => True
  | .thn (.row2 .undo .drop) .leaves, _ => True
  | .thn (.row1 .drop) .leaves, _ => True
  | .thn (.row1 .again1) .leaves, k => k.tk.isSome = true
  | .thn (.row2 .tries1 .drop) .ends, _ => True
  | .thn (.row1 .drop) .ends, _ => True
  | _, _ => False
theorem RingN.mono {N M : Int} {r : RingS} (h : RingN N r) (hm : N ≤ M) : RingN M r := ⟨h.n0, h.n1, h.t0, by have := h.t1; omega, h.h0, by have := h.h1; omega⟩
theorem RingN.b {N : Int} {r : RingS} (h : RingN N r) (hm : N ≤ 1000000) : RingB r := ⟨h.n0, h.n1, h.t0, by have := h.t1; omega, h.h0, by have := h.h1; omega⟩
theorem TickN.mono {N M : Int} {t : TickS} (h : TickN N t) (hm : N ≤ M) : TickN M t := ⟨h.p0, by have := h.p1; omega, h.nx, h.st⟩
theorem TickN.b {N : Int} {t : TickS} (h : TickN N t) (hm : N ≤ 1000000) : TickB t := ⟨h.p0, by have := h.p1; omega, h.nx, h.st⟩
theorem CoreN.ok {N : Nat} {x : CoreS} (h : CoreN N x) (hN : N ≤ 1000000) : CoreOk x :=
  ⟨h.slab, h.i0, by have := h.i1; omega, by have := h.tr; omega, h.sh, fun s hs => (h.ring s hs).b (by omega)⟩
theorem CoreN.mono {N M : Nat} {x : CoreS} (h : CoreN N x) (hm : N ≤ M) : CoreN M x :=
  ⟨h.slab, h.i0, by have := h.i1; omega, by have := h.tr; omega, h.sh, fun s hs => (h.ring s hs).mono (by omega)⟩
theorem CoreN.rings {N M : Nat} {x : CoreS} (h : CoreN N x) (hm : N ≤ M) : ∀ s ∈ x.shs, RingN M s.ring := fun s hs => (h.ring s hs).mono (by omega)
theorem WorkN.ok {N : Nat} {k : WorkS} {x : CoreS} (h : WorkN N k x) (hN : N ≤ 1000000) : WorkOk k x :=
  ⟨h.c0, h.c1, h.id, h.slot, h.saw, h.rq, fun i t ht => ⟨(h.tk i t ht).1.b (by omega), (h.tk i t ht).2⟩⟩
theorem WorkN.mono {N M : Nat} {k : WorkS} {x : CoreS} (h : WorkN N k x) (hm : N ≤ M) : WorkN M k x :=
  ⟨h.c0, h.c1, h.id, h.slot, h.saw, h.rq, fun i t ht => ⟨(h.tk i t ht).1.mono (by omega), (h.tk i t ht).2⟩⟩
theorem WorkN.core {N : Nat} {k : WorkS} {x x' : CoreS} (h : WorkN N k x) (h1 : x'.slab.recs.length = x.slab.recs.length) (h2 : x'.shs.length = x.shs.length) : WorkN N k x' :=
  ⟨h.c0, h.c1, h.id, h.slot, h.saw, fun q hq => by rw [h1]; exact h.rq q hq, fun i t ht => ⟨(h.tk i t ht).1, by rw [h2]; exact (h.tk i t ht).2⟩⟩
theorem stepT_n {N : Int} {r : RingS} {t : TickS} (hr : RingN N r) (ht : TickN N t) : TickN N (stepT r t).2 ∧ RingN (N + 1) (stepT r t).1 := by
  have h1 := hr.t0; have h2 := hr.t1
  have ho : RingN (N + 1) r := hr.mono (by omega)
  unfold stepT lookT weighT takeT
  split
  · exact ⟨ht, ho⟩
  · split
    · exact ⟨⟨h1, h2, .inr (.inl rfl), ht.st⟩, ho⟩
    · split
      · split
        · exact ⟨⟨ht.p0, ht.p1, .inl rfl, ht.st⟩, ho⟩
        · split
          · exact ⟨⟨ht.p0, ht.p1, ht.nx, .inr (.inl rfl)⟩, ho⟩
          · exact ⟨⟨ht.p0, ht.p1, .inr (.inr rfl), ht.st⟩, ho⟩
      · split
        · exact ⟨⟨ht.p0, ht.p1, .inl rfl, .inr (.inr rfl)⟩, ⟨hr.n0, hr.n1, by have := ht.p0; simp only; omega, by have := ht.p1; simp only; omega, hr.h0, by have := hr.h1; simp only; omega⟩⟩
        · exact ⟨⟨ht.p0, ht.p1, .inl rfl, ht.st⟩, ho⟩
theorem fillT_n {N : Int} {r : RingS} {t : TickS} (v : TaskS) (hr : RingN N r) (ht : TickN N t) : TickN N (fillT r t v).2.1 ∧ RingN N (fillT r t v).1 := by
  unfold fillT
  split
  · exact ⟨⟨ht.p0, ht.p1, ht.nx, ht.st⟩, ⟨by simp only [List.length_set]; exact hr.n0, by simp only [List.length_set]; exact hr.n1, hr.t0, hr.t1, hr.h0, hr.h1⟩⟩
  · exact ⟨ht, hr⟩
theorem ring_set {N : Int} {l : List ShardS} {i : Nat} {s : ShardS} (h : ∀ s ∈ l, RingN N s.ring) (hs : RingN N s.ring) : ∀ a ∈ l.set i s, RingN N a.ring := by
  intro a ha
  rcases List.mem_or_eq_of_mem_set ha with h1 | h1
  · exact h a h1
  · exact h1 ▸ hs
section
variable {N : Nat} {k : WorkS} {x : CoreS}
theorem core_note (h : CoreN N x) (E : EvS) : CoreN (N + 1) (noteC k E x) :=
  ⟨h.slab, h.i0, by have := h.i1; show x.f.inside ≤ _; omega, by have := h.tr; show (x.tr ++ [_]).length ≤ _; rw [List.length_append]; simp; omega, h.sh, h.rings (by omega)⟩
theorem core_slab (h : CoreN N x) {s : SlabS} (hs : SlabOk s) : CoreN N { x with slab := s } := ⟨hs, h.i0, h.i1, h.tr, h.sh, h.ring⟩
theorem refuse_n (hc : CoreN N x) (hk : WorkN N k x) (e : Int) : CoreN (N + 1) (refuseC e (k, x)).2 ∧ WorkN (N + 1) (refuseC e (k, x)).1 (refuseC e (k, x)).2 :=
  ⟨core_note hc _, ((⟨hk.c0, hk.c1, hk.id, hk.slot, hk.saw, hk.rq, hk.tk⟩ : WorkN N (refuseW e k) x).mono (M := N + 1) (by omega)).core rfl rfl⟩
theorem event_n (hc : CoreN N x) (hk : WorkN N k x) (ev : Int) : CoreN N (eventC ev (k, x)).2 ∧ WorkN N (eventC ev (k, x)).1 (eventC ev (k, x)).2 := by
  obtain ⟨h1, h2⟩ := try_ok hc.slab k.slot (x.slab.word k.slot) ev
  exact ⟨core_slab hc h1, (⟨hk.c0, hk.c1, hk.id, hk.slot, hk.saw, hk.rq, hk.tk⟩ : WorkN N (eventW ev k x.slab) x).core h2 rfl⟩
theorem fill_n (hc : CoreN N x) (hk : WorkN N k x) (v : TaskS) : CoreN N (fillC v (k, x)).2 ∧ WorkN N (fillC v (k, x)).1 (fillC v (k, x)).2 := by
  unfold fillC
  simp only
  split
  · exact ⟨hc, hk⟩
  · rename_i i t ht
    split
    · exact ⟨hc, hk⟩
    · rename_i s hs
      obtain ⟨htn, hi⟩ := hk.tk i t ht
      have hrn := hc.ring s (List.mem_of_getElem? hs)
      obtain ⟨a, b⟩ := fillT_n v hrn htn
      refine ⟨⟨hc.slab, hc.i0, hc.i1, hc.tr, by simpa using hc.sh, ring_set hc.ring b⟩, ⟨hk.c0, hk.c1, hk.id, hk.slot, hk.saw, hk.rq, fun i' t' h' => ?_⟩⟩
      cases h'
      exact ⟨a, by simpa using hi⟩
theorem act_n (hc : CoreN N x) (hk : WorkN N k x) (a : AC) : CoreN (N + 1) (runA a (k, x)).2 ∧ WorkN (N + 1) (runA a (k, x)).1 (runA a (k, x)).2 := by
  cases a with
  | ends1 => exact ⟨core_note hc _, (hk.mono (M := N + 1) (by omega)).core rfl rfl⟩
  | leaves1 =>
    have h1 : 0 ≤ lessN x.f.inside ∧ lessN x.f.inside ≤ N := by have := hc.i0; have := hc.i1; unfold lessN; split <;> omega
    exact ⟨⟨hc.slab, h1.1, by have := h1.2; show lessN x.f.inside ≤ _; omega, by have := hc.tr; show x.tr.length ≤ _; omega, hc.sh, hc.rings (by omega)⟩, (hk.mono (M := N + 1) (by omega)).core rfl rfl⟩
  | undo =>
    obtain ⟨h1, h2⟩ := event_n hc hk 9
    exact refuse_n h1 h2 2
  | drop =>
    obtain ⟨h1, h2⟩ := drop_ok hc.slab
    exact ⟨(core_slab hc h1).mono (M := N + 1) (by omega), (hk.mono (M := N + 1) (by omega)).core h2 rfl⟩
  | tries1 =>
    obtain ⟨h1, h2⟩ := event_n hc hk 10
    exact ⟨h1.mono (M := N + 1) (by omega), h2.mono (M := N + 1) (by omega)⟩
  | again1 =>
    obtain ⟨h1, h2⟩ := fill_n hc hk { TaskS.zero with slot := -1 }
    exact ⟨h1.mono (M := N + 1) (by omega), h2.mono (M := N + 1) (by omega)⟩
structure JC (N : Nat) (s : SC) (z : ZC) : Prop where
  core : CoreN N z.2
  work : WorkN N z.1 z.2
  fit : FitC s z.1
theorem JC.pre {s : SC} {z : ZC} (h : JC N s z) (hN : N < 1000000) : preC s z := by
  obtain ⟨k, x⟩ := z
  obtain ⟨hc, hk, hf⟩ := h
  simp only at hc hk hf
  have ho := hc.ok (by omega)
  have hw := hk.ok (by omega)
  have hact : ∀ a, CoreOk (runA a (k, x)).2 ∧ WorkOk (runA a (k, x)).1 (runA a (k, x)).2 := fun a => ⟨(act_n hc hk a).1.ok (by omega), (act_n hc hk a).2.ok (by omega)⟩
  match s, hf with
  | .nil, _ => trivial
  | .at none .right, _ => exact ⟨ho, hw, trivial⟩
  | .at none .enter, _ => exact ⟨ho, hw, trivial⟩
  | .at none .gate, _ => exact ⟨ho, hw, trivial⟩
  | .at none .looks, _ => exact ⟨ho, hw, trivial⟩
  | .at none .asks, hf => exact ⟨ho, hw, hf⟩
  | .at none .queues, hf => exact ⟨ho, hw, hf⟩
  | .at none .submits, _ => exact ⟨ho, hw, trivial⟩
  | .at none .fills, hf => exact ⟨ho, hw, hf⟩
  | .at none .again, _ => exact ⟨ho, hw, trivial⟩
  | .at none .tries, _ => exact ⟨ho, hw, trivial⟩
  | .row1 .ends1, _ => exact ⟨ho, hw, trivial⟩
  | .thn (.row1 .leaves1) .ends, _ => exact ⟨⟨ho, hw, trivial⟩, fun _ => ⟨(hact .leaves1).1, (hact .leaves1).2, trivial⟩⟩
  | .thn (.row2 .undo .drop) .leaves, _ => exact ⟨⟨ho, hw, trivial⟩, fun h => by cases h⟩
  | .thn (.row1 .drop) .leaves, _ => exact ⟨⟨ho, hw, trivial⟩, fun _ => ⟨(hact .drop).1, (hact .drop).2, trivial⟩⟩
  | .thn (.row1 .again1) .leaves, hf => exact ⟨⟨ho, hw, hf⟩, fun _ => ⟨(hact .again1).1, (hact .again1).2, trivial⟩⟩
  | .thn (.row2 .tries1 .drop) .ends, _ => exact ⟨⟨ho, hw, trivial⟩, fun h => by cases h⟩
  | .thn (.row1 .drop) .ends, _ => exact ⟨⟨ho, hw, trivial⟩, fun _ => ⟨(hact .drop).1, (hact .drop).2, trivial⟩⟩
theorem overC_fit (k k2 : WorkS) : FitC (overC k) k2 := by
  unfold overC leavesC
  split <;> trivial
theorem stepR_st {s : SlabS} {q : Req} (h : q.st = 0) : (stepR s q).2.st = 0 ∨ (stepR s q).2.st = 1 ∨ (stepR s q).2.st = 2 := by
  unfold stepR
  rw [if_neg (by omega)]
  split
  · unfold lookR; split <;> simp [h]
  · split
    · unfold moreR; split <;> simp [h]
    · unfold seekR; simp only; split <;> simp [h]
theorem look_n (hc : CoreN N x) (hk : WorkN N k x) : WorkN N (lookW k x.slab).1 x := by
  have hs : 0 ≤ x.slab.slot k.id := by have := hk.id.1; unfold SlabS.slot; split <;> omega
  have hw := word_bd hc.slab (x.slab.slot k.id)
  unfold lookW
  split
  · exact hk
  · split
    · exact ⟨hk.c0, hk.c1, hk.id, hs, hw, hk.rq, hk.tk⟩
    · exact ⟨hk.c0, hk.c1, hk.id, hs, hw, hk.rq, hk.tk⟩
theorem home_n (hc : CoreN N x) {slot : Int} (h : 0 ≤ slot) : homeC slot x < x.shs.length := by
  have hn := hc.sh
  have a : 0 ≤ slot % (x.shs.length : Int) := Int.emod_nonneg _ (by omega)
  have b : slot % (x.shs.length : Int) < x.shs.length := Int.emod_lt_of_pos _ (by omega)
  unfold homeC; omega
theorem newTick_n : TickN N newTick := ⟨by decide, by show (0 : Int) ≤ N; omega, .inl rfl, .inl rfl⟩
theorem meth_n (hc : CoreN N x) (hk : WorkN N k x) (m : MC) (hf : FitC (.at none m) k) : JC (N + 1) (runC m (k, x)).1 (runC m (k, x)).2 := by
  have hc' := hc.mono (M := N + 1) (by omega)
  have hk' := hk.mono (M := N + 1) (by omega)
  have hre : ∀ e s, FitC s (refuseW e k) → JC (N + 1) s (refuseC e (k, x)) := fun e s hs => ⟨(refuse_n hc hk e).1, (refuse_n hc hk e).2, hs⟩
  cases m with
  | ends => exact hf.elim
  | leaves => exact hf.elim
  | right =>
    show JC (N + 1) (if badC k then _ else _ : SC × ZC).1 (if badC k then _ else _ : SC × ZC).2
    split
    · exact hre 1 _ trivial
    · exact ⟨hc', hk', trivial⟩
  | enter => exact ⟨⟨hc.slab, by have := hc.i0; show 0 ≤ x.f.inside + 1; omega, by have := hc.i1; show x.f.inside + 1 ≤ _; omega, hc'.tr, hc.sh, hc'.ring⟩, hk'.core rfl rfl, trivial⟩
  | gate =>
    show JC (N + 1) (if x.f.closed = true then _ else _ : SC × ZC).1 (if x.f.closed = true then _ else _ : SC × ZC).2
    split
    · exact hre 3 _ (overC_fit _ _)
    · split
      · refine ⟨hc', ⟨hk'.c0, hk'.c1, hk'.id, hk'.slot, hk'.saw, fun q hq => ?_, hk'.tk⟩, rfl, fun q hq => ?_⟩
        · cases hq
          have h1 := hk.c1
          have h2 := hc.slab.n0
          refine ⟨?_, ?_, by simp, by simp; omega, .inl rfl⟩
          · show 0 ≤ k.period; unfold WorkS.period; split <;> omega
          · show k.period < _; unfold WorkS.period; split <;> omega
        · cases hq; rfl
      · exact ⟨hc', hk', trivial⟩
  | asks =>
    obtain ⟨hr, hq0⟩ := hf
    obtain ⟨q, hq⟩ := Option.isSome_iff_exists.1 hr
    have hE : runC .asks (k, x) = asksC (k, x) q := by show (match k.rq with | none => _ | some q => _) = _; rw [hq]
    rw [hE]
    have hst := hq0 q hq
    obtain ⟨h1, h2, h3⟩ := stepR_ok hc.slab (hk.rq q hq)
    have hid := stepR_id hc.slab (hk.rq q hq) hst
    have h4 := stepR_st (s := x.slab) hst
    unfold asksC
    simp only
    generalize stepR x.slab q = r at *
    have cx : CoreN N { x with slab := r.1 } := core_slab hc h1
    have wk : WorkN N { k with rq := some r.2 } { x with slab := r.1 } := ⟨hk.c0, hk.c1, hk.id, hk.slot, hk.saw, fun q' h' => by cases h'; show ReqOk r.1.recs.length r.2; rw [h3]; exact h2, hk.tk⟩
    split
    · exact ⟨(refuse_n cx wk 2).1, (refuse_n cx wk 2).2, trivial⟩
    · split
      · next h5 =>
        obtain ⟨i0, i1⟩ := hid h5
        refine ⟨cx.mono (M := N + 1) (by omega), ⟨wk.c0, wk.c1, ⟨i0, i1⟩, by show 0 ≤ r.2.id % 64; omega, wk.saw, wk.rq, fun i t ht => ?_⟩, rfl⟩
        cases ht
        exact ⟨newTick_n, home_n hc (by omega)⟩
      · next h6 h5 =>
        exact ⟨cx.mono (M := N + 1) (by omega), wk.mono (M := N + 1) (by omega), rfl, fun q' h' => by cases h'; omega⟩
  | queues =>
    obtain ⟨⟨i, t⟩, htk⟩ := Option.isSome_iff_exists.1 hf
    obtain ⟨htn, hi⟩ := hk.tk i t htk
    obtain ⟨s, hs⟩ : ∃ s, x.shs[i]? = some s := ⟨_, List.getElem?_eq_getElem hi⟩
    have hE : runC .queues (k, x) = queuesC (k, x) i t s := by
      show (match k.tk with | none => _ | some (i, t) => _) = _
      rw [htk]
      show (match x.shs[i]? with | none => _ | some s => _) = _
      rw [hs]
    rw [hE]
    obtain ⟨a, b⟩ := stepT_n (hc.ring s (List.mem_of_getElem? hs)) htn
    unfold queuesC
    simp only
    generalize stepT s.ring t = r at *
    have cx : CoreN (N + 1) { x with shs := x.shs.set i { s with ring := r.1 } } := ⟨hc.slab, hc'.i0, hc'.i1, hc'.tr, by simpa using hc.sh, ring_set hc'.ring (by simpa using b)⟩
    have wk : WorkN (N + 1) { k with tk := some (i, r.2) } { x with shs := x.shs.set i { s with ring := r.1 } } := ⟨hk.c0, hk.c1, hk.id, hk.slot, hk.saw, hk.rq, fun i' t' h' => by cases h'; exact ⟨a.mono (by omega), by simpa using hi⟩⟩
    split
    · exact ⟨cx, wk, rfl⟩
    · split
      · refine ⟨⟨cx.slab, cx.i0, cx.i1, ?_, cx.sh, cx.ring⟩, (⟨wk.c0, wk.c1, wk.id, wk.slot, wk.saw, wk.rq, wk.tk⟩ : WorkN (N + 1) (refuseW 2 { k with tk := some (i, r.2) }) { x with shs := x.shs.set i { s with ring := r.1 } }).core rfl rfl, trivial⟩
        have := hc.tr
        show (x.tr ++ [_]).length ≤ _
        rw [List.length_append]; simp; omega
      · split
        · exact ⟨cx, wk, trivial⟩
        · split
          · exact ⟨cx, wk, rfl⟩
          · exact ⟨cx, wk, rfl⟩
  | submits =>
    obtain ⟨h1, h2⟩ := event_n hc hk 2
    exact ⟨core_note h1 _, (h2.mono (M := N + 1) (by omega)).core rfl rfl, hf⟩
  | fills =>
    obtain ⟨h1, h2⟩ := fill_n hc hk (taskC (k, x))
    refine ⟨h1.mono (M := N + 1) (by omega), ?_, trivial⟩
    have h3 := h2.mono (M := N + 1) (by omega)
    exact ⟨h3.c0, h3.c1, h3.id, h3.slot, h3.saw, h3.rq, h3.tk⟩
  | looks =>
    have wk := look_n hc hk
    obtain ⟨e1, e2, e3, e4⟩ := look_keeps k x.slab hk.slot hk.id.1
    show JC (N + 1) (if (lookW k x.slab).2 = 0 then _ else _ : SC × ZC).1 (if (lookW k x.slab).2 = 0 then _ else _ : SC × ZC).2
    split
    · show JC (N + 1) (if k.kind = 3 then _ else _ : SC × ZC).1 (if k.kind = 3 then _ else _ : SC × ZC).2
      split
      · refine ⟨hc', ⟨wk.c0, wk.c1, wk.id, wk.slot, wk.saw, wk.rq, fun i t ht => ?_⟩, rfl⟩
        cases ht
        exact ⟨newTick_n, home_n hc e4⟩
      · next h3 => exact ⟨hc', wk.mono (M := N + 1) (by omega), fun h => absurd (e1.symm.trans h) h3⟩
    · show JC (N + 1) (if (lookW k x.slab).2 = 1 then _ else _ : SC × ZC).1 (if (lookW k x.slab).2 = 1 then _ else _ : SC × ZC).2
      split
      · exact ⟨(refuse_n hc wk 1).1, (refuse_n hc wk 1).2, overC_fit _ _⟩
      · exact ⟨(refuse_n hc wk 0).1, (refuse_n hc wk 0).2, overC_fit _ _⟩
  | again =>
    have wk := look_n hc hk
    obtain ⟨e1, e2, e3, e4⟩ := look_keeps k x.slab hk.slot hk.id.1
    have hf' : (lookW k x.slab).1.tk.isSome = true := by rw [e3]; exact hf
    show JC (N + 1) (if (lookW k x.slab).2 = 0 then _ else _ : SC × ZC).1 (if (lookW k x.slab).2 = 0 then _ else _ : SC × ZC).2
    split
    · exact ⟨hc', wk.mono (M := N + 1) (by omega), fun _ => hf'⟩
    · exact ⟨(refuse_n hc wk 0).1, (refuse_n hc wk 0).2, hf'⟩
  | tries =>
    obtain ⟨h1, h2⟩ := try_ok hc.slab k.slot k.saw k.event
    have cx : CoreN N (tryC (k, x)).1.2 := core_slab hc h1
    have wk : WorkN N (tryC (k, x)).1.1 (tryC (k, x)).1.2 := (⟨hk.c0, hk.c1, hk.id, hk.slot, hk.saw, hk.rq, hk.tk⟩ : WorkN N (tryC (k, x)).1.1 x).core h2 rfl
    have wo : WorkN N (okC (tryC (k, x)).1.1) (tryC (k, x)).1.2 := ⟨wk.c0, wk.c1, wk.id, wk.slot, wk.saw, wk.rq, wk.tk⟩
    show JC (N + 1) (if (tryC (k, x)).2 ≠ 0 then _ else _ : SC × ZC).1 (if (tryC (k, x)).2 ≠ 0 then _ else _ : SC × ZC).2
    split
    · show JC (N + 1) (if k.kind = 3 then _ else _ : SC × ZC).1 (if k.kind = 3 then _ else _ : SC × ZC).2
      split
      · next h3 => exact ⟨cx.mono (M := N + 1) (by omega), wk.mono (M := N + 1) (by omega), hf h3⟩
      · exact ⟨cx.mono (M := N + 1) (by omega), wk.mono (M := N + 1) (by omega), trivial⟩
    · show JC (N + 1) (if k.kind = 3 then _ else _ : SC × ZC).1 (if k.kind = 3 then _ else _ : SC × ZC).2
      split
      · next h3 => exact ⟨core_note cx _, (wo.mono (M := N + 1) (by omega)).core rfl rfl, hf h3⟩
      · show JC (N + 1) (if k.kind = 5 then _ else _ : SC × ZC).1 (if k.kind = 5 then _ else _ : SC × ZC).2
        split
        · exact ⟨core_note cx _, (wo.mono (M := N + 1) (by omega)).core rfl rfl, trivial⟩
        · exact ⟨core_note cx _, (wo.mono (M := N + 1) (by omega)).core rfl rfl, trivial⟩
theorem JC.step {s : SC} {z : ZC} (h : JC N s z) : JC (N + 1) (stepC s z).1 (stepC s z).2 := by
  obtain ⟨k, x⟩ := z
  obtain ⟨hc, hk, hf⟩ := h
  simp only at hc hk hf
  have ha := fun a => act_n hc hk a
  match s, hf with
  | .nil, _ => exact ⟨hc.mono (M := N + 1) (by omega), hk.mono (M := N + 1) (by omega), trivial⟩
  | .at none m, hf => exact meth_n hc hk m hf
  | .row1 .ends1, _ => exact ⟨(ha .ends1).1, (ha .ends1).2, trivial⟩
  | .thn (.row1 .leaves1) .ends, _ => exact ⟨(ha .leaves1).1, (ha .leaves1).2, trivial⟩
  | .thn (.row2 .undo .drop) .leaves, _ => exact ⟨(ha .undo).1, (ha .undo).2, trivial⟩
  | .thn (.row1 .drop) .leaves, _ => exact ⟨(ha .drop).1, (ha .drop).2, trivial⟩
  | .thn (.row1 .again1) .leaves, _ => exact ⟨(ha .again1).1, (ha .again1).2, trivial⟩
  | .thn (.row2 .tries1 .drop) .ends, _ => exact ⟨(ha .tries1).1, (ha .tries1).2, trivial⟩
  | .thn (.row1 .drop) .ends, _ => exact ⟨(ha .drop).1, (ha .drop).2, trivial⟩
def itC : Nat → SC → ZC → SC × ZC
  | 0, s, z => (s, z)
  | n + 1, s, z => itC n (stepC s z).1 (stepC s z).2
theorem JC.it {N : Nat} : ∀ (n : Nat) {N : Nat} {s : SC} {z : ZC}, JC N s z → JC (N + n) (itC n s z).1 (itC n s z).2
  | 0, _, _, _, h => h
  | n + 1, N, s, z, h => by
    have := JC.it (N := N) n h.step
    rwa [show N + 1 + n = N + (n + 1) by omega] at this
end
end Go.Proofs.YtblhfbcodbjgcaaGreat

namespace Go.Proofs.YtblhfbcodbjgcaaGreat
set_option linter.unusedVariables false
set_option linter.unusedSimpArgs false
open Go.RowKit Go.Shelf
section
variable {L : Lay} {x : CoreS} {gF : List Blk}
def BeginR (L : Lay) (x : CoreS) (th no : Int) (c : CallC) (e : Ending) (gs : GH) : Prop :=
  ∃ kb g gF', e = .returned (.tuple #[ptr' kb, .int .i64 0]) ∧ isCall L kb (firstC c.kind) 0 (newW th no c) g ∧ isCore L (noteC (newW th no c) { ev0 with kind := 1, id := c.id, dl := c.dl, per := c.per } x) gF' ∧ gs = [g, gF']
set_option maxRecDepth 100000 in
theorem callBegin_1 (hx : isCore L x gF) (hn : x.tr.length ≤ 1000000) (th no : Int) (c : CallC) : DoesG Tryz.prog 18 #[ptr' L.fb, .int .i64 th, .int .i64 no, .agg { c with kind := 1 }.cells] [gF] (BeginR L x th no { c with kind := 1 }) := by
  unfold BeginR
  have HS := Lib.hid (show ∀ kb pv, (cliC L kb pv).SV (.at none .right) .nilFunc (.func (.func 86) #[ptr' kb] #[]) [] from fun kb pv => ⟨rfl, rfl, rfl⟩)
  have HNW := Lib.hid (show ∀ kb, _ from fun kb => Cli.prog_new (cliC_ok L kb (.pointer none)) (HS.out kb (.pointer none)))
  have HF1 := Lib.hid (show firstC 1 = .at none .right from by simp [firstC])
  intro w hw
  have T0 := TG.refl hw
  have HT := Lib.hid T0
  clear hw T0
  have HX := Lib.hid hx
  have HLN := Lib.hid hn
  clear hx hn
  simp only [CallC.cells]
  go_enter Tryz.func18, Tryz.ntmps18
  go_wp2_with fail
  have HT := Lib.hid ((HT.out.alloc (k := w.heap.size) rfl 38 #[.int .i64 1, .int .u64 c.id, .int .u64 c.dl, .int .u64 c.per]).alloc (k := w.heap.size + 1) (by simp) 144 (workC L.fb (.pointer none) (.pointer none) (.pointer none) (newW th no { c with kind := 1 })))
  simp only [List.cons_append, List.nil_append] at HT
  refine (DoesG.use callsAt HT.out [] rfl rfl).mono ?_
  rintro e w1 ⟨gs, ⟨rfl, rfl⟩, Ta⟩
  simp only [putG, List.set_cons_zero, List.set_cons_succ, List.cons_append, List.nil_append, List.append_nil] at Ta
  have HT := Lib.hid (Ta.sum (H' := [gF, [cl w.heap.size 38 #[.int .i64 1, .int .u64 c.id, .int .u64 c.dl, .int .u64 c.per]], workB (w.heap.size + 1) L.fb (.pointer none) (.pointer none) (.pointer none) (newW th no { c with kind := 1 }), []]) (fun n ha h0 h1 h2 => by simp only [SU, ha, h0, h1, h2] <;> omega))
  clear Ta
  go_wp2_with fail
  refine (DoesG.use (HNW.out _) (HT.out) [3] rfl rfl).mono ?_
  rintro e w1 ⟨gs, ⟨pb, rfl, rfl⟩, Ta⟩
  simp only [PU] at Ta
  have HT := Lib.hid Ta
  clear Ta
  have k12 := HT.out.cell 2 0 rfl 12
  have fk12 := HT.out.free 2 0 rfl 12
  simp only [workC, List.getElem?_toArray, List.getElem?_cons_zero, List.getElem?_cons_succ] at k12
  have b0 := HT.out.cell 1 0 rfl 0
  have b1 := HT.out.cell 1 0 rfl 1
  have b2 := HT.out.cell 1 0 rfl 2
  have b3 := HT.out.cell 1 0 rfl 3
  simp only [List.getElem?_nil, List.getElem?_toArray, List.getElem?_cons_zero, List.getElem?_cons_succ] at b0 b1 b2 b3
  go_wp2_with fail
  have HT := Lib.hid ((HT.out.set 2 0 rfl 12 (ptr' pb)).eq (H' := [gF, [cl w.heap.size 38 #[.int .i64 1, .int .u64 c.id, .int .u64 c.dl, .int .u64 c.per]], workB (w.heap.size + 1) L.fb (ptr' pb) (.pointer none) (.pointer none) (newW th no { c with kind := 1 }), [], Cli.progB pb .nilFunc (.func (.func 86) #[ptr' (w.heap.size + 1)] #[]) 0]) rfl)
  go_wp2_with fail
  refine (DoesG.use (workNote HX.out { ev0 with kind := 1, id := c.id, dl := c.dl, per := c.per } HLN.out) (HT.out) [2, 0] rfl rfl).mono ?_
  rintro e w1 ⟨gs, ⟨rfl, g1, hx1, rfl⟩, Ta⟩
  simp only [PU] at Ta
  have HX := Lib.hid hx1
  clear hx1 k12 fk12 b0 b1 b2 b3
  have HT := Lib.hid Ta
  clear Ta
  go_wp2
  go_ret2
  exact ⟨_, ⟨_, _, g1, rfl, by rw [HF1.out]; exact ⟨pb, _, _, [], _, HS.out _ _, ⟨_, _, [], [], ⟨rfl, rfl⟩, ⟨rfl, rfl⟩, rfl⟩, rfl⟩, HX.out, rfl⟩, ((HT.out.pick [2, 0, 4] rfl).eq (H' := [[cl (w.heap.size + 1) 144 (workC L.fb (ptr' pb) (.pointer none) (.pointer none) (newW th no { c with kind := 1 }))], g1, Cli.progB pb .nilFunc (.func (.func 86) #[ptr' (w.heap.size + 1)] #[]) 0]) rfl).sum (H' := [Cli.progB pb .nilFunc (.func (.func 86) #[ptr' (w.heap.size + 1)] #[]) 0 ++ ([] ++ ([cl (w.heap.size + 1) 144 (workC L.fb (ptr' pb) (.pointer none) (.pointer none) (newW th no { c with kind := 1 }))] ++ ([] ++ []))), g1]) (fun n ha h0 h1 h2 => by simp only [SU, ha, h0, h1, h2] <;> omega)⟩
set_option maxRecDepth 100000 in
theorem callBegin_2 (hx : isCore L x gF) (hn : x.tr.length ≤ 1000000) (th no : Int) (c : CallC) : DoesG Tryz.prog 18 #[ptr' L.fb, .int .i64 th, .int .i64 no, .agg { c with kind := 2 }.cells] [gF] (BeginR L x th no { c with kind := 2 }) := by
  unfold BeginR
  have HS := Lib.hid (show ∀ kb pv, (cliC L kb pv).SV (.at none .right) .nilFunc (.func (.func 86) #[ptr' kb] #[]) [] from fun kb pv => ⟨rfl, rfl, rfl⟩)
  have HNW := Lib.hid (show ∀ kb, _ from fun kb => Cli.prog_new (cliC_ok L kb (.pointer none)) (HS.out kb (.pointer none)))
  have HF1 := Lib.hid (show firstC 2 = .at none .right from by simp [firstC])
  intro w hw
  have T0 := TG.refl hw
  have HT := Lib.hid T0
  clear hw T0
  have HX := Lib.hid hx
  have HLN := Lib.hid hn
  clear hx hn
  simp only [CallC.cells]
  go_enter Tryz.func18, Tryz.ntmps18
  go_wp2_with fail
  have HT := Lib.hid ((HT.out.alloc (k := w.heap.size) rfl 38 #[.int .i64 2, .int .u64 c.id, .int .u64 c.dl, .int .u64 c.per]).alloc (k := w.heap.size + 1) (by simp) 144 (workC L.fb (.pointer none) (.pointer none) (.pointer none) (newW th no { c with kind := 2 })))
  simp only [List.cons_append, List.nil_append] at HT
  refine (DoesG.use callsAt HT.out [] rfl rfl).mono ?_
  rintro e w1 ⟨gs, ⟨rfl, rfl⟩, Ta⟩
  simp only [putG, List.set_cons_zero, List.set_cons_succ, List.cons_append, List.nil_append, List.append_nil] at Ta
  have HT := Lib.hid (Ta.sum (H' := [gF, [cl w.heap.size 38 #[.int .i64 2, .int .u64 c.id, .int .u64 c.dl, .int .u64 c.per]], workB (w.heap.size + 1) L.fb (.pointer none) (.pointer none) (.pointer none) (newW th no { c with kind := 2 }), []]) (fun n ha h0 h1 h2 => by simp only [SU, ha, h0, h1, h2] <;> omega))
  clear Ta
  go_wp2_with fail
  refine (DoesG.use (HNW.out _) (HT.out) [3] rfl rfl).mono ?_
  rintro e w1 ⟨gs, ⟨pb, rfl, rfl⟩, Ta⟩
  simp only [PU] at Ta
  have HT := Lib.hid Ta
  clear Ta
  have k12 := HT.out.cell 2 0 rfl 12
  have fk12 := HT.out.free 2 0 rfl 12
  simp only [workC, List.getElem?_toArray, List.getElem?_cons_zero, List.getElem?_cons_succ] at k12
  have b0 := HT.out.cell 1 0 rfl 0
  have b1 := HT.out.cell 1 0 rfl 1
  have b2 := HT.out.cell 1 0 rfl 2
  have b3 := HT.out.cell 1 0 rfl 3
  simp only [List.getElem?_nil, List.getElem?_toArray, List.getElem?_cons_zero, List.getElem?_cons_succ] at b0 b1 b2 b3
  go_wp2_with fail
  have HT := Lib.hid ((HT.out.set 2 0 rfl 12 (ptr' pb)).eq (H' := [gF, [cl w.heap.size 38 #[.int .i64 2, .int .u64 c.id, .int .u64 c.dl, .int .u64 c.per]], workB (w.heap.size + 1) L.fb (ptr' pb) (.pointer none) (.pointer none) (newW th no { c with kind := 2 }), [], Cli.progB pb .nilFunc (.func (.func 86) #[ptr' (w.heap.size + 1)] #[]) 0]) rfl)
  go_wp2_with fail
  refine (DoesG.use (workNote HX.out { ev0 with kind := 1, id := c.id, dl := c.dl, per := c.per } HLN.out) (HT.out) [2, 0] rfl rfl).mono ?_
  rintro e w1 ⟨gs, ⟨rfl, g1, hx1, rfl⟩, Ta⟩
  simp only [PU] at Ta
  have HX := Lib.hid hx1
  clear hx1 k12 fk12 b0 b1 b2 b3
  have HT := Lib.hid Ta
  clear Ta
  go_wp2
  go_ret2
  exact ⟨_, ⟨_, _, g1, rfl, by rw [HF1.out]; exact ⟨pb, _, _, [], _, HS.out _ _, ⟨_, _, [], [], ⟨rfl, rfl⟩, ⟨rfl, rfl⟩, rfl⟩, rfl⟩, HX.out, rfl⟩, ((HT.out.pick [2, 0, 4] rfl).eq (H' := [[cl (w.heap.size + 1) 144 (workC L.fb (ptr' pb) (.pointer none) (.pointer none) (newW th no { c with kind := 2 }))], g1, Cli.progB pb .nilFunc (.func (.func 86) #[ptr' (w.heap.size + 1)] #[]) 0]) rfl).sum (H' := [Cli.progB pb .nilFunc (.func (.func 86) #[ptr' (w.heap.size + 1)] #[]) 0 ++ ([] ++ ([cl (w.heap.size + 1) 144 (workC L.fb (ptr' pb) (.pointer none) (.pointer none) (newW th no { c with kind := 2 }))] ++ ([] ++ []))), g1]) (fun n ha h0 h1 h2 => by simp only [SU, ha, h0, h1, h2] <;> omega)⟩
set_option maxRecDepth 100000 in
theorem callBegin_3 (hx : isCore L x gF) (hn : x.tr.length ≤ 1000000) (th no : Int) (c : CallC) : DoesG Tryz.prog 18 #[ptr' L.fb, .int .i64 th, .int .i64 no, .agg { c with kind := 3 }.cells] [gF] (BeginR L x th no { c with kind := 3 }) := by
  unfold BeginR
  have HS := Lib.hid (show ∀ kb pv, (cliC L kb pv).SV (.at none .enter) .nilFunc (.func (.func 87) #[ptr' kb] #[]) [] from fun kb pv => ⟨rfl, rfl, rfl⟩)
  have HNW := Lib.hid (show ∀ kb, _ from fun kb => Cli.prog_new (cliC_ok L kb (.pointer none)) (HS.out kb (.pointer none)))
  have HF1 := Lib.hid (show firstC 3 = .at none .enter from by simp [firstC])
  intro w hw
  have T0 := TG.refl hw
  have HT := Lib.hid T0
  clear hw T0
  have HX := Lib.hid hx
  have HLN := Lib.hid hn
  clear hx hn
  simp only [CallC.cells]
  go_enter Tryz.func18, Tryz.ntmps18
  go_wp2_with fail
  have HT := Lib.hid ((HT.out.alloc (k := w.heap.size) rfl 38 #[.int .i64 3, .int .u64 c.id, .int .u64 c.dl, .int .u64 c.per]).alloc (k := w.heap.size + 1) (by simp) 144 (workC L.fb (.pointer none) (.pointer none) (.pointer none) (newW th no { c with kind := 3 })))
  simp only [List.cons_append, List.nil_append] at HT
  refine (DoesG.use callsAt HT.out [] rfl rfl).mono ?_
  rintro e w1 ⟨gs, ⟨rfl, rfl⟩, Ta⟩
  simp only [putG, List.set_cons_zero, List.set_cons_succ, List.cons_append, List.nil_append, List.append_nil] at Ta
  have HT := Lib.hid (Ta.sum (H' := [gF, [cl w.heap.size 38 #[.int .i64 3, .int .u64 c.id, .int .u64 c.dl, .int .u64 c.per]], workB (w.heap.size + 1) L.fb (.pointer none) (.pointer none) (.pointer none) (newW th no { c with kind := 3 }), []]) (fun n ha h0 h1 h2 => by simp only [SU, ha, h0, h1, h2] <;> omega))
  clear Ta
  go_wp2_with fail
  refine (DoesG.use (HNW.out _) (HT.out) [3] rfl rfl).mono ?_
  rintro e w1 ⟨gs, ⟨pb, rfl, rfl⟩, Ta⟩
  simp only [PU] at Ta
  have HT := Lib.hid Ta
  clear Ta
  have k12 := HT.out.cell 2 0 rfl 12
  have fk12 := HT.out.free 2 0 rfl 12
  simp only [workC, List.getElem?_toArray, List.getElem?_cons_zero, List.getElem?_cons_succ] at k12
  have b0 := HT.out.cell 1 0 rfl 0
  have b1 := HT.out.cell 1 0 rfl 1
  have b2 := HT.out.cell 1 0 rfl 2
  have b3 := HT.out.cell 1 0 rfl 3
  simp only [List.getElem?_nil, List.getElem?_toArray, List.getElem?_cons_zero, List.getElem?_cons_succ] at b0 b1 b2 b3
  go_wp2_with fail
  have HT := Lib.hid ((HT.out.set 2 0 rfl 12 (ptr' pb)).eq (H' := [gF, [cl w.heap.size 38 #[.int .i64 3, .int .u64 c.id, .int .u64 c.dl, .int .u64 c.per]], workB (w.heap.size + 1) L.fb (ptr' pb) (.pointer none) (.pointer none) (newW th no { c with kind := 3 }), [], Cli.progB pb .nilFunc (.func (.func 87) #[ptr' (w.heap.size + 1)] #[]) 0]) rfl)
  go_wp2_with fail
  refine (DoesG.use (workNote HX.out { ev0 with kind := 1, id := c.id, dl := c.dl, per := c.per } HLN.out) (HT.out) [2, 0] rfl rfl).mono ?_
  rintro e w1 ⟨gs, ⟨rfl, g1, hx1, rfl⟩, Ta⟩
  simp only [PU] at Ta
  have HX := Lib.hid hx1
  clear hx1 k12 fk12 b0 b1 b2 b3
  have HT := Lib.hid Ta
  clear Ta
  go_wp2
  go_ret2
  exact ⟨_, ⟨_, _, g1, rfl, by rw [HF1.out]; exact ⟨pb, _, _, [], _, HS.out _ _, ⟨_, _, [], [], ⟨rfl, rfl⟩, ⟨rfl, rfl⟩, rfl⟩, rfl⟩, HX.out, rfl⟩, ((HT.out.pick [2, 0, 4] rfl).eq (H' := [[cl (w.heap.size + 1) 144 (workC L.fb (ptr' pb) (.pointer none) (.pointer none) (newW th no { c with kind := 3 }))], g1, Cli.progB pb .nilFunc (.func (.func 87) #[ptr' (w.heap.size + 1)] #[]) 0]) rfl).sum (H' := [Cli.progB pb .nilFunc (.func (.func 87) #[ptr' (w.heap.size + 1)] #[]) 0 ++ ([] ++ ([cl (w.heap.size + 1) 144 (workC L.fb (ptr' pb) (.pointer none) (.pointer none) (newW th no { c with kind := 3 }))] ++ ([] ++ []))), g1]) (fun n ha h0 h1 h2 => by simp only [SU, ha, h0, h1, h2] <;> omega)⟩
set_option maxRecDepth 100000 in
theorem callBegin_4 (hx : isCore L x gF) (hn : x.tr.length ≤ 1000000) (th no : Int) (c : CallC) : DoesG Tryz.prog 18 #[ptr' L.fb, .int .i64 th, .int .i64 no, .agg { c with kind := 4 }.cells] [gF] (BeginR L x th no { c with kind := 4 }) := by
  unfold BeginR
  have HS := Lib.hid (show ∀ kb pv, (cliC L kb pv).SV (.at none .gate) .nilFunc (.func (.func 88) #[ptr' kb] #[]) [] from fun kb pv => ⟨rfl, rfl, rfl⟩)
  have HNW := Lib.hid (show ∀ kb, _ from fun kb => Cli.prog_new (cliC_ok L kb (.pointer none)) (HS.out kb (.pointer none)))
  have HF1 := Lib.hid (show firstC 4 = .at none .gate from by simp [firstC])
  intro w hw
  have T0 := TG.refl hw
  have HT := Lib.hid T0
  clear hw T0
  have HX := Lib.hid hx
  have HLN := Lib.hid hn
  clear hx hn
  simp only [CallC.cells]
  go_enter Tryz.func18, Tryz.ntmps18
  go_wp2_with fail
  have HT := Lib.hid ((HT.out.alloc (k := w.heap.size) rfl 38 #[.int .i64 4, .int .u64 c.id, .int .u64 c.dl, .int .u64 c.per]).alloc (k := w.heap.size + 1) (by simp) 144 (workC L.fb (.pointer none) (.pointer none) (.pointer none) (newW th no { c with kind := 4 })))
  simp only [List.cons_append, List.nil_append] at HT
  refine (DoesG.use callsAt HT.out [] rfl rfl).mono ?_
  rintro e w1 ⟨gs, ⟨rfl, rfl⟩, Ta⟩
  simp only [putG, List.set_cons_zero, List.set_cons_succ, List.cons_append, List.nil_append, List.append_nil] at Ta
  have HT := Lib.hid (Ta.sum (H' := [gF, [cl w.heap.size 38 #[.int .i64 4, .int .u64 c.id, .int .u64 c.dl, .int .u64 c.per]], workB (w.heap.size + 1) L.fb (.pointer none) (.pointer none) (.pointer none) (newW th no { c with kind := 4 }), []]) (fun n ha h0 h1 h2 => by simp only [SU, ha, h0, h1, h2] <;> omega))
  clear Ta
  go_wp2_with fail
  refine (DoesG.use (HNW.out _) (HT.out) [3] rfl rfl).mono ?_
  rintro e w1 ⟨gs, ⟨pb, rfl, rfl⟩, Ta⟩
  simp only [PU] at Ta
  have HT := Lib.hid Ta
  clear Ta
  have k12 := HT.out.cell 2 0 rfl 12
  have fk12 := HT.out.free 2 0 rfl 12
  simp only [workC, List.getElem?_toArray, List.getElem?_cons_zero, List.getElem?_cons_succ] at k12
  have b0 := HT.out.cell 1 0 rfl 0
  have b1 := HT.out.cell 1 0 rfl 1
  have b2 := HT.out.cell 1 0 rfl 2
  have b3 := HT.out.cell 1 0 rfl 3
  simp only [List.getElem?_nil, List.getElem?_toArray, List.getElem?_cons_zero, List.getElem?_cons_succ] at b0 b1 b2 b3
  go_wp2_with fail
  have HT := Lib.hid ((HT.out.set 2 0 rfl 12 (ptr' pb)).eq (H' := [gF, [cl w.heap.size 38 #[.int .i64 4, .int .u64 c.id, .int .u64 c.dl, .int .u64 c.per]], workB (w.heap.size + 1) L.fb (ptr' pb) (.pointer none) (.pointer none) (newW th no { c with kind := 4 }), [], Cli.progB pb .nilFunc (.func (.func 88) #[ptr' (w.heap.size + 1)] #[]) 0]) rfl)
  go_wp2_with fail
  refine (DoesG.use (workNote HX.out { ev0 with kind := 1, id := c.id, dl := c.dl, per := c.per } HLN.out) (HT.out) [2, 0] rfl rfl).mono ?_
  rintro e w1 ⟨gs, ⟨rfl, g1, hx1, rfl⟩, Ta⟩
  simp only [PU] at Ta
  have HX := Lib.hid hx1
  clear hx1 k12 fk12 b0 b1 b2 b3
  have HT := Lib.hid Ta
  clear Ta
  go_wp2
  go_ret2
  exact ⟨_, ⟨_, _, g1, rfl, by rw [HF1.out]; exact ⟨pb, _, _, [], _, HS.out _ _, ⟨_, _, [], [], ⟨rfl, rfl⟩, ⟨rfl, rfl⟩, rfl⟩, rfl⟩, HX.out, rfl⟩, ((HT.out.pick [2, 0, 4] rfl).eq (H' := [[cl (w.heap.size + 1) 144 (workC L.fb (ptr' pb) (.pointer none) (.pointer none) (newW th no { c with kind := 4 }))], g1, Cli.progB pb .nilFunc (.func (.func 88) #[ptr' (w.heap.size + 1)] #[]) 0]) rfl).sum (H' := [Cli.progB pb .nilFunc (.func (.func 88) #[ptr' (w.heap.size + 1)] #[]) 0 ++ ([] ++ ([cl (w.heap.size + 1) 144 (workC L.fb (ptr' pb) (.pointer none) (.pointer none) (newW th no { c with kind := 4 }))] ++ ([] ++ []))), g1]) (fun n ha h0 h1 h2 => by simp only [SU, ha, h0, h1, h2] <;> omega)⟩
set_option maxRecDepth 100000 in
theorem callBegin_5 (hx : isCore L x gF) (hn : x.tr.length ≤ 1000000) (th no : Int) (c : CallC) : DoesG Tryz.prog 18 #[ptr' L.fb, .int .i64 th, .int .i64 no, .agg { c with kind := 5 }.cells] [gF] (BeginR L x th no { c with kind := 5 }) := by
  unfold BeginR
  have HS := Lib.hid (show ∀ kb pv, (cliC L kb pv).SV (.at none .gate) .nilFunc (.func (.func 88) #[ptr' kb] #[]) [] from fun kb pv => ⟨rfl, rfl, rfl⟩)
  have HNW := Lib.hid (show ∀ kb, _ from fun kb => Cli.prog_new (cliC_ok L kb (.pointer none)) (HS.out kb (.pointer none)))
  have HF1 := Lib.hid (show firstC 5 = .at none .gate from by simp [firstC])
  intro w hw
  have T0 := TG.refl hw
  have HT := Lib.hid T0
  clear hw T0
  have HX := Lib.hid hx
  have HLN := Lib.hid hn
  clear hx hn
  simp only [CallC.cells]
  go_enter Tryz.func18, Tryz.ntmps18
  go_wp2_with fail
  have HT := Lib.hid ((HT.out.alloc (k := w.heap.size) rfl 38 #[.int .i64 5, .int .u64 c.id, .int .u64 c.dl, .int .u64 c.per]).alloc (k := w.heap.size + 1) (by simp) 144 (workC L.fb (.pointer none) (.pointer none) (.pointer none) (newW th no { c with kind := 5 })))
  simp only [List.cons_append, List.nil_append] at HT
  refine (DoesG.use callsAt HT.out [] rfl rfl).mono ?_
  rintro e w1 ⟨gs, ⟨rfl, rfl⟩, Ta⟩
  simp only [putG, List.set_cons_zero, List.set_cons_succ, List.cons_append, List.nil_append, List.append_nil] at Ta
  have HT := Lib.hid (Ta.sum (H' := [gF, [cl w.heap.size 38 #[.int .i64 5, .int .u64 c.id, .int .u64 c.dl, .int .u64 c.per]], workB (w.heap.size + 1) L.fb (.pointer none) (.pointer none) (.pointer none) (newW th no { c with kind := 5 }), []]) (fun n ha h0 h1 h2 => by simp only [SU, ha, h0, h1, h2] <;> omega))
  clear Ta
  go_wp2_with fail
  refine (DoesG.use (HNW.out _) (HT.out) [3] rfl rfl).mono ?_
  rintro e w1 ⟨gs, ⟨pb, rfl, rfl⟩, Ta⟩
  simp only [PU] at Ta
  have HT := Lib.hid Ta
  clear Ta
  have k12 := HT.out.cell 2 0 rfl 12
  have fk12 := HT.out.free 2 0 rfl 12
  simp only [workC, List.getElem?_toArray, List.getElem?_cons_zero, List.getElem?_cons_succ] at k12
  have b0 := HT.out.cell 1 0 rfl 0
  have b1 := HT.out.cell 1 0 rfl 1
  have b2 := HT.out.cell 1 0 rfl 2
  have b3 := HT.out.cell 1 0 rfl 3
  simp only [List.getElem?_nil, List.getElem?_toArray, List.getElem?_cons_zero, List.getElem?_cons_succ] at b0 b1 b2 b3
  go_wp2_with fail
  have HT := Lib.hid ((HT.out.set 2 0 rfl 12 (ptr' pb)).eq (H' := [gF, [cl w.heap.size 38 #[.int .i64 5, .int .u64 c.id, .int .u64 c.dl, .int .u64 c.per]], workB (w.heap.size + 1) L.fb (ptr' pb) (.pointer none) (.pointer none) (newW th no { c with kind := 5 }), [], Cli.progB pb .nilFunc (.func (.func 88) #[ptr' (w.heap.size + 1)] #[]) 0]) rfl)
  go_wp2_with fail
  refine (DoesG.use (workNote HX.out { ev0 with kind := 1, id := c.id, dl := c.dl, per := c.per } HLN.out) (HT.out) [2, 0] rfl rfl).mono ?_
  rintro e w1 ⟨gs, ⟨rfl, g1, hx1, rfl⟩, Ta⟩
  simp only [PU] at Ta
  have HX := Lib.hid hx1
  clear hx1 k12 fk12 b0 b1 b2 b3
  have HT := Lib.hid Ta
  clear Ta
  go_wp2
  go_ret2
  exact ⟨_, ⟨_, _, g1, rfl, by rw [HF1.out]; exact ⟨pb, _, _, [], _, HS.out _ _, ⟨_, _, [], [], ⟨rfl, rfl⟩, ⟨rfl, rfl⟩, rfl⟩, rfl⟩, HX.out, rfl⟩, ((HT.out.pick [2, 0, 4] rfl).eq (H' := [[cl (w.heap.size + 1) 144 (workC L.fb (ptr' pb) (.pointer none) (.pointer none) (newW th no { c with kind := 5 }))], g1, Cli.progB pb .nilFunc (.func (.func 88) #[ptr' (w.heap.size + 1)] #[]) 0]) rfl).sum (H' := [Cli.progB pb .nilFunc (.func (.func 88) #[ptr' (w.heap.size + 1)] #[]) 0 ++ ([] ++ ([cl (w.heap.size + 1) 144 (workC L.fb (ptr' pb) (.pointer none) (.pointer none) (newW th no { c with kind := 5 }))] ++ ([] ++ []))), g1]) (fun n ha h0 h1 h2 => by simp only [SU, ha, h0, h1, h2] <;> omega)⟩
theorem callBegin (hx : isCore L x gF) (hn : x.tr.length ≤ 1000000) (th no : Int) (c : CallC) (h1 : 1 ≤ c.kind) (h5 : c.kind ≤ 5) : DoesG Tryz.prog 18 #[ptr' L.fb, .int .i64 th, .int .i64 no, .agg c.cells] [gF] (BeginR L x th no c) := by
  obtain ⟨kd, id, dl, per⟩ := c
  simp only at h1 h5
  have h : kd = 1 ∨ kd = 2 ∨ kd = 3 ∨ kd = 4 ∨ kd = 5 := by omega
  rcases h with rfl | rfl | rfl | rfl | rfl
  · exact callBegin_1 hx hn th no ⟨1, id, dl, per⟩
  · exact callBegin_2 hx hn th no ⟨2, id, dl, per⟩
  · exact callBegin_3 hx hn th no ⟨3, id, dl, per⟩
  · exact callBegin_4 hx hn th no ⟨4, id, dl, per⟩
  · exact callBegin_5 hx hn th no ⟨5, id, dl, per⟩
end
end Go.Proofs.YtblhfbcodbjgcaaGreat

namespace Go.Proofs.YtblhfbcodbjgcaaGreat
set_option linter.unusedVariables false
set_option linter.unusedSimpArgs false
open Go.RowKit Go.Shelf
def core0 (c : Cfg) : CoreS := ⟨⟨c, false, 0, 0, 0⟩, newSlab c.cap.toNat, [], List.replicate c.sh.toNat (newShard c.ring.toNat)⟩
def Runs (n : Nat) (s : SC) (z : ZC) : Prop := (∀ j, j < n → (itC j s z).1.isNil = false) ∧ (itC n s z).1.isNil = true
theorem itC_next : ∀ (j : Nat) (s : SC) (z : ZC), itC (j + 1) s z = stepC (itC j s z).1 (itC j s z).2
  | 0, _, _ => rfl
  | j + 1, s, z => by rw [itC, itC_next j]; rfl
section
variable {L : Lay} {x : CoreS} {gF : List Blk}
end
end Go.Proofs.YtblhfbcodbjgcaaGreat

namespace Go.Proofs.YtblhfbcodbjgcaaGreat
set_option linter.unusedVariables false
set_option linter.unusedSimpArgs false
open Go.RowKit Go.Shelf
structure FireS where
  id : Int
  gen : Int
  dl : Int
  tick : Int
def FireS.vals (f : FireS) : List Value := [.int .u64 f.id, .int .u64 f.gen, .int .u64 f.dl, .int .u64 f.tick]
structure PipeS where
  room : Nat
  ch : List FireS
  sp : List FireS
  most : Int
  shut : Bool
def newPipe (n : Nat) : PipeS := ⟨n, [], [], 0, false⟩
abbrev pipeB (pb cb lb : Nat) (p : PipeS) : List Blk := [cl pb 172 #[.chan (some cb), ptr' lb, .int .i64 p.most, .bool p.shut]]
def isPipe (pb : Nat) (p : PipeS) (g : List Blk) : Prop := ∃ (cb lb hb a b : Nat) (l : List Nd) (gl : List Blk), isListF lb hb l gl ∧ l.map Nd.v = p.sp.map FireS.vals ∧
  g = pipeB pb cb lb p ++ ([(cb, .chan p.room (p.ch.map fun f => Value.agg f.vals.toArray).toArray false a b false)] ++ gl)
theorem len_chan (cb n : Nat) (buf : Array Value) (cz : Bool) (a b : Nat) (w : World) (h : w.heap[cb]? = some (.chan n buf cz a b false)) :
    (Builtin.len_ #[169] 3 #[.chan (some cb)]).run Tryz.prog w = .ok (.int .i64 buf.size) w := by
  have hg : (getObj cb).run Tryz.prog w = .ok (.chan n buf cz a b false) w := by simp [getObj, Sem.run, h]
  simp [Builtin.len_, run_underlying Tryz.underlying169, hg, goInt]
section
variable {pb : Nat} {p : PipeS} {g : List Blk}
end
end Go.Proofs.YtblhfbcodbjgcaaGreat

namespace Go.Proofs.YtblhfbcodbjgcaaGreat
set_option linter.unusedVariables false
set_option linter.unusedSimpArgs false
open Go.RowKit Go.Shelf
section
variable {q : ShP} {s : ShardS} {g : List Blk}
set_option maxRecDepth 100000 in
theorem shardPop_g (hg : isSh q s g) (hr : RingB s.ring) : DoesG Tryz.prog 21 #[ptr' q.b] [g] fun e gs =>
    e = .returned (.tuple #[.agg (popR s.ring).2.1.cells, .int .i64 (popR s.ring).2.2]) ∧ ∃ g', isSh q { s with ring := (popR s.ring).1 } g' ∧ gs = [g'] := by
  obtain ⟨gr, gl, h1, h2, rfl⟩ := hg
  have hp := ringPop_g h1 hr
  generalize popR s.ring = p at *
  intro w hw
  have T0 := TG.refl hw
  have HT := Lib.hid T0
  clear hw T0
  have HT := Lib.hid (HT.out.sum (H' := [shardB q.b q.rb q.lb q.wb, gr, gl]) (fun n ha h0 h1 h2 => by simp only [SU, ha, h0, h1, h2] <;> omega))
  have HP := Lib.hid hp
  have HL := Lib.hid h2
  clear h1 h2 hp hr
  go_enter Tryz.func21, Tryz.ntmps21
  go_wp2_with fail
  refine (DoesG.use (shardParts_g q.b q.rb q.lb q.wb) (HT.out.alloc (k := w.heap.size) rfl 40 TaskS.zero.cells) [0] rfl rfl).mono ?_
  rintro e w1 ⟨gs, ⟨rfl, rfl⟩, Ta⟩
  simp only [PU] at Ta
  have HT := Lib.hid Ta
  clear Ta
  have hf := fun w => (inner_field (ptr' q.rb) (ptr' q.lb) (ptr' q.wb) w).1
  go_wp2_with fail
  refine (DoesG.use (HP.out) (HT.out) [1] rfl rfl).mono ?_
  rintro e w1 ⟨gs, ⟨rfl, g1, hg1, rfl⟩, Ta⟩
  simp only [PU] at Ta
  have HG := Lib.hid hg1
  clear hg1
  have HT := Lib.hid Ta
  clear Ta
  have a0 := HT.out.cell 3 0 rfl 0
  have fa0 := HT.out.free 3 0 rfl 0
  have a1 := HT.out.cell 3 0 rfl 1
  have fa1 := HT.out.free 3 0 rfl 1
  have a2 := HT.out.cell 3 0 rfl 2
  have fa2 := HT.out.free 3 0 rfl 2
  have a3 := HT.out.cell 3 0 rfl 3
  have fa3 := HT.out.free 3 0 rfl 3
  have a4 := HT.out.cell 3 0 rfl 4
  have fa4 := HT.out.free 3 0 rfl 4
  simp only [TaskS.cells, TaskS.zero, List.getElem?_toArray, List.getElem?_cons_zero, List.getElem?_cons_succ] at a0 a1 a2 a3 a4
  simp only [TaskS.cells]
  go_wp2
  exact bodyPost_ret (v := .tuple #[.agg p.2.1.cells, .int .i64 p.2.2]) (by simp [results, Tryz.results21, go_sem, a0, a1, a2, a3, a4, TaskS.cells]) rfl ⟨_, ⟨rfl, _, ⟨g1, gl, HG.out, HL.out, rfl⟩, rfl⟩, ((((((HT.out.set 3 0 rfl 0 _).set 3 0 rfl 1 _).set 3 0 rfl 2 _).set 3 0 rfl 3 _).set 3 0 rfl 4 _).pick [0, 1, 2] rfl).sum (fun n ha h0 h1 h2 => by simp only [SU, ha, h0, h1, h2] <;> omega)⟩
set_option maxRecDepth 100000 in
theorem shardWaiting_g (hg : isSh q s g) (hr : RingB s.ring) : DoesG Tryz.prog 45 #[ptr' q.b] [g] fun e gs => e = .returned (.int .i64 (s.ring.tail - s.ring.head)) ∧ ∃ g', isSh q s g' ∧ gs = [g'] := by
  obtain ⟨gr, gl, h1, h2, rfl⟩ := hg
  have hp := ringLen_g h1 hr
  intro w hw
  have T0 := TG.refl hw
  have HT := Lib.hid T0
  clear hw T0
  have HT := Lib.hid (HT.out.sum (H' := [shardB q.b q.rb q.lb q.wb, gr, gl]) (fun n ha h0 h1 h2 => by simp only [SU, ha, h0, h1, h2] <;> omega))
  have HP := Lib.hid hp
  have HL := Lib.hid h2
  clear h1 h2 hp hr
  go_enter Tryz.func45, Tryz.ntmps45
  go_wp2_with fail
  refine (DoesG.use (shardParts_g q.b q.rb q.lb q.wb) (HT.out) [0] rfl rfl).mono ?_
  rintro e w1 ⟨gs, ⟨rfl, rfl⟩, Ta⟩
  simp only [PU] at Ta
  have HT := Lib.hid Ta
  clear Ta
  have hf := fun w => (inner_field (ptr' q.rb) (ptr' q.lb) (ptr' q.wb) w).1
  go_wp2_with fail
  refine (DoesG.use (HP.out) (HT.out) [1] rfl rfl).mono ?_
  rintro e w1 ⟨gs, ⟨rfl, g1, hg1, rfl⟩, Ta⟩
  simp only [PU] at Ta
  have HG := Lib.hid hg1
  clear hg1
  have HT := Lib.hid Ta
  clear Ta
  go_wp2
  go_ret
  exact ⟨_, ⟨rfl, _, ⟨g1, gl, HG.out, HL.out, rfl⟩, rfl⟩, HT.out.sum (fun n ha h0 h1 h2 => by simp only [SU, ha, h0, h1, h2] <;> omega)⟩
set_option maxRecDepth 100000 in
theorem shardReady_g (hg : isSh q s g) (hr : RingB s.ring) : DoesG Tryz.prog 280 #[ptr' q.b] [g] fun e gs => e = .returned (.bool s.ring.ready) ∧ ∃ g', isSh q s g' ∧ gs = [g'] := by
  obtain ⟨gr, gl, h1, h2, rfl⟩ := hg
  have hp := ringReady_g h1 hr
  intro w hw
  have T0 := TG.refl hw
  have HT := Lib.hid T0
  clear hw T0
  have HT := Lib.hid (HT.out.sum (H' := [shardB q.b q.rb q.lb q.wb, gr, gl]) (fun n ha h0 h1 h2 => by simp only [SU, ha, h0, h1, h2] <;> omega))
  have HP := Lib.hid hp
  have HL := Lib.hid h2
  clear h1 h2 hp hr
  go_enter Tryz.func280, Tryz.ntmps280
  go_wp2_with fail
  refine (DoesG.use (shardParts_g q.b q.rb q.lb q.wb) (HT.out) [0] rfl rfl).mono ?_
  rintro e w1 ⟨gs, ⟨rfl, rfl⟩, Ta⟩
  simp only [PU] at Ta
  have HT := Lib.hid Ta
  clear Ta
  have hf := fun w => (inner_field (ptr' q.rb) (ptr' q.lb) (ptr' q.wb) w).1
  go_wp2_with fail
  refine (DoesG.use (HP.out) (HT.out) [1] rfl rfl).mono ?_
  rintro e w1 ⟨gs, ⟨rfl, g1, hg1, rfl⟩, Ta⟩
  simp only [PU] at Ta
  have HG := Lib.hid hg1
  clear hg1
  have HT := Lib.hid Ta
  clear Ta
  go_wp2
  go_ret
  exact ⟨_, ⟨rfl, _, ⟨g1, gl, HG.out, HL.out, rfl⟩, rfl⟩, HT.out.sum (fun n ha h0 h1 h2 => by simp only [SU, ha, h0, h1, h2] <;> omega)⟩
end
section
variable {L : Lay} {x : CoreS} {g : List Blk}
theorem coreShard {F : Nat} {args : Array Value} {i : Nat} {q : ShP} {s s' : ShardS} {v : Value} (hx : isCore L x g) (hq : L.qs[i]? = some q) (hs : x.shs[i]? = some s)
    (hd : ∀ g, isSh q s g → DoesG Tryz.prog F args [g] fun e gs => e = .returned v ∧ ∃ g', isSh q s' g' ∧ gs = [g']) :
    DoesG Tryz.prog F args [g] fun e gs => e = .returned v ∧ ∃ g', isCore L { x with shs := x.shs.set i s' } g' ∧ gs = [g'] := by
  obtain ⟨tr, gF, gS, gR, gH, gT, h1, h2, h3, h4, h5, h6, rfl⟩ := hx
  have hz : (L.qs.zip x.shs)[i]? = some (q, s) := zip_at hq hs
  obtain ⟨u, y, hu, hp, hback⟩ := h5.out hz
  intro w hw
  have T := (((TG.refl hw).sum (H' := [gF ++ (gS ++ (gR ++ gT)), gH]) (fun n ha h0 h1 h2 => by simp only [SU, ha, h0, h1, h2] <;> omega)).permAt 1 rfl hp).sum (H' := [gF ++ (gS ++ (gR ++ gT)), u, y]) (fun n ha h0 h1 h2 => by simp only [SU, ha, h0, h1, h2] <;> omega)
  refine (DoesG.use (hd u hu) T [1] rfl rfl).mono ?_
  rintro e w' ⟨gs, ⟨he, g1, hn1, rfl⟩, T'⟩
  obtain ⟨gH', hf, hp'⟩ := hback (q, s') g1 hn1
  rw [zip_set i hq] at hf
  refine ⟨_, ⟨he, _, ⟨tr, gF, gS, gR, gH', gT, h1, h2, h3, by simpa using h4, hf, h6, rfl⟩, rfl⟩, ?_⟩
  exact ((TG.sum (H := [gF ++ (gS ++ (gR ++ gT)), g1, y]) (H' := [gF ++ (gS ++ (gR ++ gT)), g1 ++ y]) T' (fun n ha h0 h1 h2 => by simp only [SU, ha, h0, h1, h2] <;> omega)).permAt 1 rfl hp').sum (fun n ha h0 h1 h2 => by simp only [SU, ha, h0, h1, h2] <;> omega)
theorem core_shs_same {x : CoreS} {i : Nat} {s : ShardS} (hs : x.shs[i]? = some s) : ({ x with shs := x.shs.set i s } : CoreS) = x := by
  have : x.shs.set i s = x.shs := fam_set_same hs
  rw [this]
theorem corePop (hx : isCore L x g) {i : Nat} {q : ShP} {s : ShardS} (hq : L.qs[i]? = some q) (hs : x.shs[i]? = some s) (hr : RingB s.ring) : DoesG Tryz.prog 21 #[ptr' q.b] [g] fun e gs =>
    e = .returned (.tuple #[.agg (popR s.ring).2.1.cells, .int .i64 (popR s.ring).2.2]) ∧ ∃ g', isCore L { x with shs := x.shs.set i { s with ring := (popR s.ring).1 } } g' ∧ gs = [g'] :=
  coreShard hx hq hs fun g hg => shardPop_g hg hr
theorem coreWaiting (hx : isCore L x g) {i : Nat} {q : ShP} {s : ShardS} (hq : L.qs[i]? = some q) (hs : x.shs[i]? = some s) (hr : RingB s.ring) : DoesG Tryz.prog 45 #[ptr' q.b] [g] fun e gs =>
    e = .returned (.int .i64 (s.ring.tail - s.ring.head)) ∧ ∃ g', isCore L x g' ∧ gs = [g'] := by
  have := coreShard hx hq hs fun g hg => shardWaiting_g hg hr
  rwa [core_shs_same hs] at this
theorem coreReady (hx : isCore L x g) {i : Nat} {q : ShP} {s : ShardS} (hq : L.qs[i]? = some q) (hs : x.shs[i]? = some s) (hr : RingB s.ring) : DoesG Tryz.prog 280 #[ptr' q.b] [g] fun e gs =>
    e = .returned (.bool s.ring.ready) ∧ ∃ g', isCore L x g' ∧ gs = [g'] := by
  have := coreShard hx hq hs fun g hg => shardReady_g hg hr
  rwa [core_shs_same hs] at this
theorem coreShardAt_r (hx : isCore L x g) (i : Int) : ReadsG Tryz.prog 20 #[ptr' L.fb, .int .i64 i] [g] (shardV (L.qs.map ShP.b) i) := by
  obtain ⟨tr, gF, gS, gR, gH, gT, h1, h2, h3, h4, h5, h6, rfl⟩ := hx
  intro w hw
  have T := (TG.refl hw).sum (H' := [gF, gS, gR, gH, gT]) (fun n ha h0 h1 h2 => by simp only [SU, ha, h0, h1, h2] <;> omega)
  exact (floorShard_r h1 h3 i).use T [0, 2] rfl rfl
end
theorem core_q {L : Lay} {x : CoreS} {g : List Blk} (hx : isCore L x g) {i : Nat} (hi : i < x.shs.length) : ∃ q, L.qs[i]? = some q ∧ shardV (L.qs.map ShP.b) i = ptr' q.b := by
  obtain ⟨tr, gF, gS, gR, gH, gT, h1, h2, h3, h4, h5, h6, rfl⟩ := hx
  have hl : i < L.qs.length := by omega
  refine ⟨L.qs[i], List.getElem?_eq_getElem hl, ?_⟩
  unfold shardV
  rw [if_pos (by simp; omega)]
  simp [hl]
end Go.Proofs.YtblhfbcodbjgcaaGreat

namespace Go.Proofs.YtblhfbcodbjgcaaGreat
set_option linter.unusedVariables false
set_option linter.unusedSimpArgs false
open Go.RowKit Go.Shelf
section
variable {L : Lay} {x : CoreS} {g : List Blk}
theorem coreTurn (hx : isCore L x g) (h : 0 ≤ x.f.now ∧ x.f.now < 9223372036854775807) : DoesG Tryz.prog 215 #[ptr' L.fb] [g] fun e gs => e = .returned (.tuple #[.int .u64 (x.f.now + 1), .int .i64 0]) ∧ ∃ g', isCore L { x with f := { x.f with now := x.f.now + 1 } } g' ∧ gs = [g'] := by
  obtain ⟨tr, gF, gS, gR, gH, gT, h1, h2, h3, h4, h5, h6, rfl⟩ := hx
  intro w hw
  have T := (TG.refl hw).sum (H' := [gF, gS, gR, gH, gT]) (fun n ha h0 h1 h2 => by simp only [SU, ha, h0, h1, h2] <;> omega)
  refine (DoesG.use (floorTurn_g h1 h) T [0] rfl rfl).mono ?_
  rintro e w' ⟨gs, ⟨he, g1, hn1, rfl⟩, T'⟩
  exact ⟨_, ⟨he, _, ⟨tr, g1, gS, gR, gH, gT, hn1, h2, h3, h4, h5, h6, rfl⟩, rfl⟩, TG.sum (H := [g1, gS, gR, gH, gT]) T' (fun n ha h0 h1 h2 => by simp only [SU, ha, h0, h1, h2] <;> omega)⟩
theorem coreNow (hx : isCore L x g) : DoesG Tryz.prog 36 #[ptr' L.fb] [g] fun e gs => e = .returned (.int .u64 x.f.now) ∧ ∃ g', isCore L x g' ∧ gs = [g'] := by
  obtain ⟨tr, gF, gS, gR, gH, gT, h1, h2, h3, h4, h5, h6, rfl⟩ := hx
  intro w hw
  have T := (TG.refl hw).sum (H' := [gF, gS, gR, gH, gT]) (fun n ha h0 h1 h2 => by simp only [SU, ha, h0, h1, h2] <;> omega)
  refine (DoesG.use (floorNow_g h1) T [0] rfl rfl).mono ?_
  rintro e w' ⟨gs, ⟨he, g1, hn1, rfl⟩, T'⟩
  exact ⟨_, ⟨he, _, ⟨tr, g1, gS, gR, gH, gT, hn1, h2, h3, h4, h5, h6, rfl⟩, rfl⟩, TG.sum (H := [g1, gS, gR, gH, gT]) T' (fun n ha h0 h1 h2 => by simp only [SU, ha, h0, h1, h2] <;> omega)⟩
theorem corePipe_r (hx : isCore L x g) : ReadsG Tryz.prog 40 #[ptr' L.fb] [g] (ptr' L.p.pb) := by
  obtain ⟨tr, gF, gS, gR, gH, gT, ⟨C, rfl, hc⟩, h2, h3, h4, h5, h6, rfl⟩ := hx
  intro w hw
  have T0 := TG.refl hw
  have HT := Lib.hid T0
  clear hw T0
  have c0 := ((HT.out.sum (H' := [[cl L.fb 133 C], gS, gR, gH, gT]) (fun n ha h0 h1 h2 => by simp only [SU, ha, h0, h1, h2] <;> omega)).cell 0 0 rfl 8).trans hc.pipe
  clear hc h2 h3 h4 h5 h6
  go_enter Tryz.func40, Tryz.ntmps40
  go_wp2
  go_ret
  exact ⟨rfl, 0, rfl⟩
end
theorem TG.mem_at {h H : GH} {w w' : World} (T : TG h w H w') (i : Nat) {p : Blk} (hm : p ∈ H.getD i []) : w'.heap[p.1]? = some p.2 := by
  obtain ⟨j, hj⟩ := List.mem_iff_getElem?.1 hm
  exact T.obj i j hj
theorem TG.mem_cell {h H : GH} {w w' : World} (T : TG h w H w') (i : Nat) {b : Nat} {t : TypeId} {C : Array Value} (hm : cl b t C ∈ H.getD i []) (o : Nat) : w'.cell? ⟨b, o, none⟩ = C[o]? := blk_cell (T.mem_at i hm) o
theorem TG.mem_lt {h H : GH} {w w' : World} (T : TG h w H w') (i : Nat) {p : Blk} (hm : p ∈ H.getD i []) : p.1 < w'.heap.size := (Array.getElem?_eq_some_iff.1 (T.mem_at i hm)).1
end Go.Proofs.YtblhfbcodbjgcaaGreat

namespace Go.Proofs.YtblhfbcodbjgcaaGreat
set_option linter.unusedVariables false
set_option linter.unusedSimpArgs false
open Go.RowKit Go.Shelf
structure ShutS where
  th : Int
  no : Int
  err : Int
  ok : Bool
  aset : Bool
  left : List Int
  saw : Int
inductive MS where
  | shuts | slots0 | slots2 (i : Int) | waits | looks1 (i : Int) | leaves0 (i : Int) | waits2
inductive AS where
  | ends1 | pshut | release (i : Int) | drop
inductive YS where
  | inside | idle
abbrev SS : Type := St MS AS YS
structure ZS where
  k : ShutS
  x : CoreS
  p : PipeS
def evS (k : ShutS) (E : EvS) : EvS := { E with thread := k.th, call := k.no, what := 6 }
def ZS.note (E : EvS) (z : ZS) : ZS := { z with x := { z.x with tr := z.x.tr ++ [evS z.k E] } }
def looksS (i : Int) : SS := .at none (.looks1 i)
def slotsS (i : Int) (z : ZS) : SS := if z.x.f.cfg.cap ≤ i then .thn (.row1 .pshut) .waits else .thn (looksS i) (.slots2 i)
def wordZ (i : Int) (z : ZS) : ZS := { z with k := { z.k with saw := z.x.slab.word i } }
def runS : MS → ZS → SS × ZS
  | .shuts, z => if z.x.f.closed = true then (.row1 .ends1, { (z.note { ev0 with kind := 9, err := 3 }) with k := { z.k with err := 3, ok := false, aset := false } })
      else (.at (some .inside) .slots0, ({ z with x := { z.x with f := { z.x.f with closed := true } } } : ZS).note { ev0 with kind := 10 })
  | .slots0, z => (slotsS 0 z, z)
  | .slots2 i, z => (slotsS (i + 1) z, z)
  | .waits, z => (.at (some .idle) .waits2, z)
  | .looks1 i, z => if stW (z.x.slab.word i) = 2 ∨ stW (z.x.slab.word i) = 3 then (.at none (.leaves0 i), wordZ i z) else (.nil, wordZ i z)
  | .leaves0 i, z =>
    let r := z.x.slab.try i z.k.saw 6
    if r.2.2 ≠ 0 then (looksS i, { z with x := { z.x with slab := r.1 } })
    else (.row2 (.release i) .drop, ({ z with x := { z.x with slab := r.1 }, k := { z.k with left := z.k.left ++ [(numV r.1 i).1] } } : ZS).note { ev0 with kind := 12, id := (numV r.1 i).1, gen := genW r.2.1 })
  | .waits2, z => (.row1 .ends1, { (z.note { ev0 with kind := 13 }) with k := { z.k with err := 0, ok := true, aset := true } })
def runAS : AS → ZS → ZS
  | .ends1, z => z.note { ev0 with kind := 2, err := z.k.err }
  | .pshut, z => { z with p := { z.p with shut := true } }
  | .release i, z => { z with x := { z.x with slab := (z.x.slab.try i (z.x.slab.word i) 10).1 } }
  | .drop, z => { z with x := { z.x with slab := z.x.slab.drop.1 } }
structure ShutOk (z : ZS) : Prop where
  core : CoreOk z.x
  cap : z.x.f.cfg.cap = z.x.slab.recs.length
  busy : 0 ≤ z.x.f.busy ∧ z.x.f.busy ≤ 1000000
  saw : 0 ≤ z.k.saw ∧ z.k.saw < 18446744073709551616 ∧ okW z.k.saw = true
  left : z.k.left.length ≤ 1000000
def MS.fit : MS → ZS → Prop
  | .slots2 i, _ => 0 ≤ i ∧ i ≤ 64
  | .looks1 i, _ => 0 ≤ i ∧ i ≤ 64
  | .leaves0 i, z => (0 ≤ i ∧ i ≤ 64) ∧ z.k.aset = false
  | _, _ => True
def preS (f : MS) (z : ZS) : Prop := ShutOk z ∧ f.fit z
def preAS (_ : AS) (z : ZS) : Prop := ShutOk z
def cloK (kb : Nat) (e : List Blk) (fn : FuncId) (v : Value) : Prop := ∃ bk, v = .func (.func fn) #[] #[ptr' bk] ∧ cl bk 251 #[ptr' kb] ∈ e
def cloI (kb : Nat) (e : List Blk) (fn : FuncId) (i : Int) (v : Value) : Prop := ∃ bk bi, v = .func (.func fn) #[] #[ptr' bk, ptr' bi] ∧ cl bk 251 #[ptr' kb] ∈ e ∧ cl bi 3 #[.int .i64 i] ∈ e
def VMS (kb : Nat) (e : List Blk) (f : MS) (v : Value) (g : List Blk) : Prop := g = [] ∧ match f with
  | .shuts => v = .func (.func 181) #[ptr' kb] #[]
  | .slots0 => cloK kb e 223 v
  | .slots2 i => cloI kb e 251 i v
  | .waits => v = .func (.func 249) #[ptr' kb] #[]
  | .looks1 i => cloI kb e 276 i v
  | .leaves0 i => cloI kb e 277 i v
  | .waits2 => cloK kb e 275 v
def VAS (kb : Nat) (e : List Blk) (f : AS) (v : Value) (g : List Blk) : Prop := g = [] ∧ match f with
  | .ends1 => cloK kb e 246 v
  | .pshut => cloK kb e 247 v
  | .release i => cloI kb e 295 i v
  | .drop => cloK kb e 296 v
def leE (e e' : List Blk) : Prop := ∀ b ∈ e, b ∈ e'
theorem cloK.le {kb : Nat} {e e' : List Blk} {fn : FuncId} {v : Value} (h : cloK kb e fn v) (hl : leE e e') : cloK kb e' fn v := by
  obtain ⟨bk, h1, h2⟩ := h; exact ⟨bk, h1, hl _ h2⟩
theorem cloI.le {kb : Nat} {e e' : List Blk} {fn : FuncId} {i : Int} {v : Value} (h : cloI kb e fn i v) (hl : leE e e') : cloI kb e' fn i v := by
  obtain ⟨bk, bi, h1, h2, h3⟩ := h; exact ⟨bk, bi, h1, hl _ h2, hl _ h3⟩
theorem cloK.is {kb : Nat} {e : List Blk} {fn : FuncId} {v : Value} (h : cloK kb e fn v) : ∃ fn first caps, v = .func (.func fn) first caps := by
  obtain ⟨bk, h1, h2⟩ := h; exact ⟨_, _, _, h1⟩
theorem cloI.is {kb : Nat} {e : List Blk} {fn : FuncId} {i : Int} {v : Value} (h : cloI kb e fn i v) : ∃ fn first caps, v = .func (.func fn) first caps := by
  obtain ⟨bk, bi, h1, h2, h3⟩ := h; exact ⟨_, _, _, h1⟩
theorem VMS.le {kb : Nat} {e e' : List Blk} {f : MS} {v : Value} {g : List Blk} (hl : leE e e') (h : VMS kb e f v g) : VMS kb e' f v g := by
  refine ⟨h.1, ?_⟩
  have := h.2
  cases f <;> first | exact this | exact cloK.le this hl | exact cloI.le this hl
theorem VAS.le {kb : Nat} {e e' : List Blk} {f : AS} {v : Value} {g : List Blk} (hl : leE e e') (h : VAS kb e f v g) : VAS kb e' f v g := by
  refine ⟨h.1, ?_⟩
  have := h.2
  cases f <;> first | exact cloK.le this hl | exact cloI.le this hl
theorem leE.refl (e : List Blk) : leE e e := fun _ h => h
theorem leE.app (e l : List Blk) : leE e (e ++ l) := fun _ h => List.mem_append_left _ h
end Go.Proofs.YtblhfbcodbjgcaaGreat

namespace Go.Proofs.YtblhfbcodbjgcaaGreat
set_option linter.unusedVariables false
set_option linter.unusedSimpArgs false
open Go.RowKit Go.Shelf
set_option maxRecDepth 100000 in
theorem until_g (f1 f2 : FuncId) (a1 a2 c1 c2 : Array Value) : DoesG Tryz.prog 221 #[.func (.func f1) a1 c1, .func (.func f2) a2 c2] [] fun en gs => en = .returned (.agg #[.func (.func f1) a1 c1, .func (.func f2) a2 c2]) ∧ gs = [] := by
  intro w hw
  have T0 := TG.refl hw
  have HT := Lib.hid T0
  clear hw T0
  go_enter Tryz.func221, Tryz.ntmps221
  go_wp2
  exact bodyPost_ret (v := .agg #[_, _]) (by simp [results, Tryz.results221, go_sem]) rfl ⟨_, ⟨rfl, rfl⟩, HT.out.alloc0 _⟩
section
variable {L : Lay} {x : CoreS} {g gK gF : List Blk} {kb : Nat} {pv vl al : Value} {k : ShutS}
end
end Go.Proofs.YtblhfbcodbjgcaaGreat

namespace Go.Proofs.YtblhfbcodbjgcaaGreat
set_option linter.unusedVariables false
set_option linter.unusedSimpArgs false
open Go.RowKit Go.Shelf
section
variable {L : Lay} {x : CoreS} {p : PipeS} {e gK gF : List Blk} {kb : Nat} {pv : Value} {k : ShutS}
end
end Go.Proofs.YtblhfbcodbjgcaaGreat

namespace Go.Proofs.YtblhfbcodbjgcaaGreat
set_option linter.unusedVariables false
set_option linter.unusedSimpArgs false
open Go.RowKit Go.Shelf
section
variable {L : Lay} {x : CoreS} {p : PipeS} {e g gC gK gF : List Blk} {kb : Nat} {pv vl al : Value} {k : ShutS}
end
end Go.Proofs.YtblhfbcodbjgcaaGreat

namespace Go.Proofs.YtblhfbcodbjgcaaGreat
set_option linter.unusedVariables false
set_option linter.unusedSimpArgs false
open Go.RowKit Go.Shelf
section
variable {L : Lay} {x : CoreS} {p : PipeS} {e gK gF : List Blk} {kb : Nat} {pv : Value} {k : ShutS}
end
end Go.Proofs.YtblhfbcodbjgcaaGreat

namespace Go.Proofs.YtblhfbcodbjgcaaGreat
set_option linter.unusedVariables false
set_option linter.unusedSimpArgs false
open Go.RowKit Go.Shelf
section
variable {L : Lay} {x : CoreS} {p : PipeS} {e gl gC gK gF : List Blk} {kb : Nat} {pv vl al : Value} {k : ShutS}
end
end Go.Proofs.YtblhfbcodbjgcaaGreat

namespace Go.Proofs.YtblhfbcodbjgcaaGreat
set_option linter.unusedVariables false
set_option linter.unusedSimpArgs false
open Go.RowKit Go.Shelf
section
variable {L : Lay} {x : CoreS} {p : PipeS} {e gK gF : List Blk} {kb : Nat} {pv : Value} {k : ShutS}
end
end Go.Proofs.YtblhfbcodbjgcaaGreat

namespace Go.Proofs.YtblhfbcodbjgcaaGreat
set_option linter.unusedVariables false
set_option linter.unusedSimpArgs false
open Go.RowKit Go.Shelf
theorem genR (n : Int) (h0 : 0 ≤ n) (h1 : n < 18446744073709551616) : ReadsG Tryz.prog 209 #[.int .u64 n] [] (.int .u64 (genW n)) := fun w hw => (gen_calls n w h0 h1).mono (by rintro e w' ⟨rfl, rfl⟩; exact ⟨rfl, 0, rfl⟩)
section
variable {L : Lay} {x : CoreS} {p : PipeS} {e gl gC gK gF : List Blk} {kb : Nat} {pv vl al : Value} {k : ShutS}
end
end Go.Proofs.YtblhfbcodbjgcaaGreat

namespace Go.Proofs.YtblhfbcodbjgcaaGreat
set_option linter.unusedVariables false
set_option linter.unusedSimpArgs false
open Go.RowKit Go.Shelf
section
variable {L : Lay} {x : CoreS} {p : PipeS} {e gl gC gK gF : List Blk} {kb : Nat} {pv vl al : Value} {k : ShutS}
end
end Go.Proofs.YtblhfbcodbjgcaaGreat

namespace Go.Proofs.YtblhfbcodbjgcaaGreat
set_option linter.unusedVariables false
set_option linter.unusedSimpArgs false
open Go.RowKit Go.Shelf
def stepS (s : SS) (z : ZS) : SS × ZS := St.run runS runAS s z
def preSS (s : SS) (z : ZS) : Prop := St.pre runS runAS preS preAS s z
section
variable {L : Lay} {x : CoreS} {p : PipeS} {g gF : List Blk} {kb : Nat} {s : SS} {n : Int} {k : ShutS}
end
end Go.Proofs.YtblhfbcodbjgcaaGreat

namespace Go.Proofs.YtblhfbcodbjgcaaGreat
set_option linter.unusedVariables false
set_option linter.unusedSimpArgs false
open Go.RowKit Go.Shelf
set_option maxRecDepth 100000 in
theorem Cli.prog_new_v {c : Cli} (h : c.Vals) {s : c.S} {m d : Value} {g : List Blk} (hs : c.SV s m d g) : DoesG Tryz.prog 84 #[.agg #[m, d]] [g] fun e gs => ∃ pb, e = .returned (ptr' pb) ∧ gs = [g, Cli.progB pb m d 0] := by
  obtain ⟨v1, v2⟩ := h.vals hs
  intro w hw
  have T0 := TG.refl hw
  have HT := Lib.hid T0
  clear hw T0
  clear hs h
  rcases v1 with rfl | ⟨fn1, first1, caps1, rfl⟩ <;> rcases v2 with rfl | ⟨fn2, first2, caps2, rfl⟩
  all_goals
    go_enter Tryz.func84, Tryz.ntmps84
    go_wp2
    go_ret
    exact ⟨_, ⟨_, rfl, rfl⟩, (HT.out.alloc0 _).alloc (k := w.heap.size + 1) (by simp) _ _⟩
def ansS (err : Int) (ok : Bool) (v : Value) : Array Value := #[.int .i64 err, .bool ok, .int .u64 0, .int .u64 0, v]
section
variable {L : Lay} {x : CoreS} {p : PipeS} {g gF : List Blk} {kb : Nat} {s : SS} {n : Int} {k : ShutS}
end
end Go.Proofs.YtblhfbcodbjgcaaGreat

namespace Go.Proofs.YtblhfbcodbjgcaaGreat
set_option linter.unusedVariables false
set_option linter.unusedSimpArgs false
open Go.RowKit Go.Shelf
def FitS : SS → ShutS → Prop
  | .nil, _ => True
  | .at none .shuts, k => k.aset = false
  | .at (some .inside) .slots0, k => k.aset = false
  | .at (some .idle) .waits2, _ => True
  | .row1 .ends1, _ => True
  | .thn (.row1 .pshut) .waits, k => k.aset = false
  | .thn (.at none (.looks1 i)) (.slots2 j), k => k.aset = false ∧ i = j ∧ 0 ≤ i ∧ i < 64
  | .thn (.at none (.leaves0 i)) (.slots2 j), k => k.aset = false ∧ i = j ∧ 0 ≤ i ∧ i < 64
  | .thn (.row2 (.release _) .drop) (.slots2 j), k => k.aset = false ∧ 0 ≤ j ∧ j < 64
  | .thn (.row1 .drop) (.slots2 j), k => k.aset = false ∧ 0 ≤ j ∧ j < 64
  | _, _ => False
structure JB (N : Nat) (z : ZS) : Prop where
  core : CoreN N z.x
  cap : z.x.f.cfg.cap = z.x.slab.recs.length
  busy : 0 ≤ z.x.f.busy ∧ z.x.f.busy ≤ N
  saw : 0 ≤ z.k.saw ∧ z.k.saw < 18446744073709551616 ∧ okW z.k.saw = true
  left : z.k.left.length ≤ N
structure JS (N : Nat) (s : SS) (z : ZS) : Prop where
  b : JB N z
  fit : FitS s z.k
theorem JB.mono {N M : Nat} {z : ZS} (h : JB N z) (hm : N ≤ M) : JB M z :=
  ⟨h.core.mono hm, h.cap, by have := h.busy; omega, h.saw, by have := h.left; omega⟩
theorem JB.ok {N : Nat} {z : ZS} (h : JB N z) (hN : N ≤ 1000000) : ShutOk z :=
  ⟨h.core.ok hN, h.cap, by have := h.busy; omega, h.saw, by have := h.left; omega⟩
section
variable {N : Nat} {z : ZS}
theorem noteN {x : CoreS} (h : CoreN N x) (E : EvS) : CoreN (N + 1) { x with tr := x.tr ++ [E] } :=
  ⟨h.slab, h.i0, by have := h.i1; show x.f.inside ≤ _; omega, by have := h.tr; show (x.tr ++ [_]).length ≤ _; rw [List.length_append]; simp; omega, h.sh, h.rings (by omega)⟩
theorem JB.note (h : JB N z) (E : EvS) : JB (N + 1) (z.note E) :=
  ⟨noteN h.core _, h.cap, by have := h.busy; show 0 ≤ z.x.f.busy ∧ z.x.f.busy ≤ _; omega, h.saw, by have := h.left; show z.k.left.length ≤ _; omega⟩
theorem JB.slab (h : JB N z) {s : SlabS} (hs : SlabOk s) (hl : s.recs.length = z.x.slab.recs.length) : JB N { z with x := { z.x with slab := s } } :=
  ⟨core_slab h.core hs, by show z.x.f.cfg.cap = s.recs.length; rw [hl]; exact h.cap, h.busy, h.saw, h.left⟩
theorem actS_n (h : JB N z) (a : AS) : JB (N + 1) (runAS a z) := by
  cases a with
  | ends1 => exact h.note _
  | pshut => exact (⟨h.core, h.cap, h.busy, h.saw, h.left⟩ : JB N { z with p := { z.p with shut := true } }).mono (by omega)
  | release i =>
    obtain ⟨a, b⟩ := try_ok h.core.slab i (z.x.slab.word i) 10
    exact (h.slab a b).mono (by omega)
  | drop =>
    obtain ⟨a, b⟩ := drop_ok h.core.slab
    exact (h.slab a b).mono (by omega)
theorem slotsS_fit {k : ShutS} (h : k.aset = false) {i : Int} (h0 : 0 ≤ i) (hc : z.x.f.cfg.cap ≤ 64) : FitS (slotsS i z) k := by
  unfold slotsS looksS
  split
  · exact h
  · exact ⟨h, rfl, h0, by omega⟩
theorem JB.c64 (h : JB N z) : z.x.f.cfg.cap ≤ 64 := by have := h.cap; have := h.core.slab.n1; omega
theorem JS.pre {s : SS} (h : JS N s z) (hN : N < 1000000) : preSS s z := by
  obtain ⟨hb, hf⟩ := h
  have ho := hb.ok (by omega)
  have ha := fun a => (actS_n hb a).ok (by omega)
  match s, hf with
  | .nil, _ => trivial
  | .at none .shuts, hf => exact ⟨ho, trivial⟩
  | .at (some .inside) .slots0, _ => exact ⟨ho, trivial⟩
  | .at (some .idle) .waits2, _ => exact ⟨ho, trivial⟩
  | .row1 .ends1, _ => exact ho
  | .thn (.row1 .pshut) .waits, _ => exact ⟨ho, fun _ => ⟨ha .pshut, trivial⟩⟩
  | .thn (.at none (.looks1 i)) (.slots2 j), hf =>
    obtain ⟨h1, rfl, h3, h4⟩ := hf
    refine ⟨⟨ho, h3, by omega⟩, fun _ => ?_⟩
    have e : (St.run runS runAS (.at none (.looks1 i)) z).2 = wordZ i z := by
      show (runS (.looks1 i) z).2 = _
      dsimp only [runS]
      split <;> rfl
    rw [e]
    exact ⟨⟨ho.core, ho.cap, ho.busy, word_bd ho.core.slab i, ho.left⟩, h3, by omega⟩
  | .thn (.at none (.leaves0 i)) (.slots2 j), hf =>
    obtain ⟨h1, rfl, h3, h4⟩ := hf
    refine ⟨⟨ho, ⟨h3, by omega⟩, h1⟩, fun hn => ?_⟩
    have : (St.run runS runAS (.at none (.leaves0 i)) z).1.isNil = true := hn
    change (runS (.leaves0 i) z).1.isNil = true at this
    dsimp only [runS] at this
    split at this <;> cases this
  | .thn (.row2 (.release i) .drop) (.slots2 j), hf => exact ⟨ho, fun h => by cases h⟩
  | .thn (.row1 .drop) (.slots2 j), hf => exact ⟨ho, fun _ => ⟨ha .drop, hf.2.1, by have := hf.2.2; omega⟩⟩
theorem JS.step {s : SS} (h : JS N s z) : JS (N + 1) (stepS s z).1 (stepS s z).2 := by
  obtain ⟨hb, hf⟩ := h
  have ha := fun a => actS_n hb a
  have hc := hb.c64
  match s, hf with
  | .nil, _ => exact ⟨hb.mono (by omega), trivial⟩
  | .at none .shuts, hf =>
    show JS (N + 1) (runS .shuts z).1 (runS .shuts z).2
    dsimp only [runS]
    split
    · have := hb.note { ev0 with kind := 9, err := 3 }
      exact ⟨⟨this.core, this.cap, this.busy, this.saw, this.left⟩, trivial⟩
    · exact ⟨JB.note (z := { z with x := { z.x with f := { z.x.f with closed := true } } }) ⟨⟨hb.core.slab, hb.core.i0, hb.core.i1, hb.core.tr, hb.core.sh, hb.core.ring⟩, hb.cap, hb.busy, hb.saw, hb.left⟩ _, hf⟩
  | .at (some .inside) .slots0, hf => exact ⟨hb.mono (by omega), slotsS_fit hf (by decide) hc⟩
  | .at (some .idle) .waits2, _ =>
    have := hb.note { ev0 with kind := 13 }
    exact ⟨⟨this.core, this.cap, this.busy, this.saw, this.left⟩, trivial⟩
  | .row1 .ends1, _ => exact ⟨ha .ends1, trivial⟩
  | .thn (.row1 .pshut) .waits, _ => exact ⟨ha .pshut, trivial⟩
  | .thn (.at none (.looks1 i)) (.slots2 j), hf =>
    obtain ⟨h1, rfl, h3, h4⟩ := hf
    have hw : JB N (wordZ i z) := ⟨hb.core, hb.cap, hb.busy, word_bd hb.core.slab i, hb.left⟩
    show JS (N + 1) (thenSt runS (runS (.looks1 i) z).1 (.slots2 i) (runS (.looks1 i) z).2).1 (thenSt runS (runS (.looks1 i) z).1 (.slots2 i) (runS (.looks1 i) z).2).2
    dsimp only [runS]
    split
    · exact ⟨hw.mono (by omega), h1, rfl, h3, h4⟩
    · exact ⟨hw.mono (by omega), slotsS_fit (z := wordZ i z) (k := (wordZ i z).k) (i := i + 1) h1 (by omega) hc⟩
  | .thn (.at none (.leaves0 i)) (.slots2 j), hf =>
    obtain ⟨h1, rfl, h3, h4⟩ := hf
    obtain ⟨a, b⟩ := try_ok hb.core.slab i z.k.saw 6
    have hs := hb.slab a b
    show JS (N + 1) (thenSt runS (runS (.leaves0 i) z).1 (.slots2 i) (runS (.leaves0 i) z).2).1 (thenSt runS (runS (.leaves0 i) z).1 (.slots2 i) (runS (.leaves0 i) z).2).2
    dsimp only [runS]
    split
    · exact ⟨hs.mono (by omega), h1, rfl, h3, h4⟩
    · have hn := noteN hs.core (evS { z.k with left := z.k.left ++ [(numV (z.x.slab.try i z.k.saw 6).1 i).1] } { ev0 with kind := 12, id := (numV (z.x.slab.try i z.k.saw 6).1 i).1, gen := genW (z.x.slab.try i z.k.saw 6).2.1 })
      refine ⟨⟨hn, hs.cap, ?_, hs.saw, ?_⟩, h1, h3, h4⟩
      · have := hb.busy; exact ⟨this.1, by show z.x.f.busy ≤ _; omega⟩
      · have := hb.left; show (z.k.left ++ [_]).length ≤ _; rw [List.length_append]; simp; omega
  | .thn (.row2 (.release i) .drop) (.slots2 j), hf => exact ⟨ha (.release i), hf⟩
  | .thn (.row1 .drop) (.slots2 j), hf => exact ⟨ha .drop, slotsS_fit (z := runAS .drop z) (i := j + 1) hf.1 (by have := hf.2.1; omega) hc⟩
end
def itS : Nat → SS → ZS → SS × ZS
  | 0, s, z => (s, z)
  | n + 1, s, z => itS n (stepS s z).1 (stepS s z).2
theorem JS.it : ∀ (n : Nat) {N : Nat} {s : SS} {z : ZS}, JS N s z → JS (N + n) (itS n s z).1 (itS n s z).2
  | 0, _, _, _, h => h
  | n + 1, N, s, z, h => by
    have := JS.it n h.step
    rwa [show N + 1 + n = N + (n + 1) by omega] at this
end Go.Proofs.YtblhfbcodbjgcaaGreat

namespace Go.Proofs.YtblhfbcodbjgcaaGreat
set_option linter.unusedVariables false
set_option linter.unusedSimpArgs false
open Go.RowKit Go.Shelf
theorem newRing_n {n : Nat} (h1 : 1 ≤ n) (h2 : n ≤ 64) : RingN 0 (newRing n) := by
  refine ⟨?_, ?_, Int.le_refl 0, Int.le_refl 0, Int.le_refl 0, Int.le_refl 0⟩ <;> simp [newRing] <;> omega
theorem core0_n {c : Cfg} (h : c.ok = true) : CoreN 0 (core0 c) := by
  obtain ⟨h1, h2, h3, _⟩ := Cfg.bd h
  refine ⟨newSlab_ok (by omega) (by omega), by show (0 : Int) ≤ 0; omega, by show (0 : Int) ≤ 0; omega, by show ([] : List EvS).length ≤ 0; simp, ?_, ?_⟩
  · show 1 ≤ (List.replicate _ _).length
    rw [List.length_replicate]; omega
  · intro s hs
    obtain ⟨_, rfl⟩ := List.mem_replicate.1 hs
    exact newRing_n (by omega) (by omega)
structure CallC.wf (c : CallC) : Prop where
  id : 0 ≤ c.id ∧ c.id < 18446744073709551616
  dl : 0 ≤ c.dl ∧ c.dl < 18446744073709551616
  per : 0 ≤ c.per ∧ c.per < 18446744073709551616
theorem newW_n {N : Nat} {c : CallC} (h : c.wf) (th no : Int) (x : CoreS) : WorkN N (newW th no c) x :=
  ⟨h.dl, h.per, h.id, by show (0 : Int) ≤ 0; omega, ⟨by show (0 : Int) ≤ 0; omega, by show (0 : Int) < _; omega, by show okW 0 = true; decide⟩, fun q hq => (by cases hq), fun i t ht => (by cases ht)⟩
theorem first_fit (kd : Int) (k : WorkS) : FitC (firstC kd) k := by
  unfold firstC
  split
  · trivial
  · split <;> trivial
theorem JC.first {N : Nat} {x : CoreS} (hc : CoreN N x) {c : CallC} (h : c.wf) (th no : Int) :
    JC (N + 1) (firstC c.kind) (newW th no c, noteC (newW th no c) { ev0 with kind := 1, id := c.id, dl := c.dl, per := c.per } x) :=
  ⟨core_note hc _, newW_n h th no _, first_fit _ _⟩
end Go.Proofs.YtblhfbcodbjgcaaGreat

namespace Go.Proofs.YtblhfbcodbjgcaaGreat
set_option linter.unusedVariables false
set_option linter.unusedSimpArgs false
open Go.RowKit Go.Shelf
end Go.Proofs.YtblhfbcodbjgcaaGreat
