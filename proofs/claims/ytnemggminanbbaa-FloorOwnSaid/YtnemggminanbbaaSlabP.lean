import Derived.Test.YtnemggminanbbaaCellW
import Derived.Test.YtnemggminanbbaaCellI
namespace Go.Proofs.Ytnemggminanbbaa
set_option linter.unusedVariables false
set_option linter.unusedSimpArgs false
open Go.RowKit

/-! ## A slab, plain -/
/-- a record: its word, how often its slot was given, its period -/
structure Rec where
  w : Int
  g : Int
  p : Int
structure SlabS where
  recs : List Rec
  count : Int
structure Req where
  p : Int
  next : Int
  saw : Int
  slot : Int
  id : Int
  st : Int
structure RecOk (r : Rec) : Prop where
  w0 : 0 ≤ r.w
  w1 : r.w < 18446744073709551616
  ok : okW r.w = true
  g0 : 0 ≤ r.g
  g1 : r.g ≤ genW r.w
  p0 : 0 ≤ r.p
  p1 : r.p < 18446744073709551616
structure SlabOk (s : SlabS) : Prop where
  n0 : 1 ≤ s.recs.length
  n1 : s.recs.length ≤ 64
  c0 : 0 ≤ s.count
  c1 : s.count ≤ s.recs.length
  recs : ∀ r ∈ s.recs, RecOk r
structure ReqOk (n : Nat) (q : Req) : Prop where
  p0 : 0 ≤ q.p
  p1 : q.p < 18446744073709551616
  slot0 : 0 ≤ q.slot
  slot1 : q.slot < n
  next : q.next = 0 ∨ (q.next = 1 ∧ 0 ≤ q.saw ∧ q.saw < n) ∨ q.next = 2
def lookR (s : SlabS) (q : Req) : Req := if (s.recs.length : Int) ≤ s.count then { q with saw := s.count, st := 1 } else { q with saw := s.count, next := 1 }
def moreR (s : SlabS) (q : Req) : SlabS × Req := if s.count = q.saw then ({ s with count := s.count + 1 }, { q with next := 2 }) else (s, { q with next := 0 })
def Rec.zero : Rec := ⟨0, 0, 0⟩
def seekR (s : SlabS) (q : Req) : SlabS × Req :=
  let r := s.recs.getD q.slot.toNat Rec.zero
  let t := nextW r.w 1 (decide (0 < q.p))
  if t.2 = 0 then ({ s with recs := s.recs.set q.slot.toNat ⟨t.1, r.g + 1, q.p⟩ }, { q with id := (r.g + 1) * 64 + q.slot, st := 2 })
  else (s, { q with slot := (q.slot + 1) % s.recs.length })
def stepR (s : SlabS) (q : Req) : SlabS × Req :=
  if q.st ≠ 0 then (s, q) else if q.next = 0 then (s, lookR s q) else if q.next = 1 then moreR s q else seekR s q

/-- a new slab -/
def newSlab (n : Nat) : SlabS := ⟨List.replicate n Rec.zero, 0⟩
/-- a slot's period, word; the error of what asks for a slot's word -/
def SlabS.has (s : SlabS) (k : Int) : Prop := 0 ≤ k ∧ k < s.recs.length
instance (s : SlabS) (k : Int) : Decidable (s.has k) := by unfold SlabS.has; infer_instance
def SlabS.period (s : SlabS) (k : Int) : Int := if s.has k then (s.recs.getD k.toNat Rec.zero).p else 0
def SlabS.word (s : SlabS) (k : Int) : Int := if s.has k then (s.recs.getD k.toNat Rec.zero).w else 0
def SlabS.werr (s : SlabS) (k : Int) : Int := if s.has k then 0 else 4
/-- a number's slot, and the error -/
def SlabS.known (s : SlabS) (id : Int) : Prop := id % 64 < s.recs.length ∧ 1 ≤ id / 64 ∧ id / 64 ≤ (s.recs.getD (id % 64).toNat Rec.zero).g
instance (s : SlabS) (k : Int) : Decidable (s.known k) := by unfold SlabS.known; infer_instance
def SlabS.slot (s : SlabS) (id : Int) : Int := if s.known id then id % 64 else 0
def SlabS.serr (s : SlabS) (id : Int) : Int := if s.known id then 0 else 1
def SlabS.mine (s : SlabS) (id : Int) : Bool := decide (s.known id) && decide ((s.recs.getD (id % 64).toNat Rec.zero).g = id / 64)
/-- a try: the slab, the word, the error -/
def SlabS.try (s : SlabS) (k old ev : Int) : SlabS × Int × Int :=
  if s.has k then
    let r := s.recs.getD k.toNat Rec.zero
    let t := nextW old ev (decide (0 < r.p))
    if t.2 ≠ 0 then (s, r.w, t.2) else if r.w = old then ({ s with recs := s.recs.set k.toNat { r with w := t.1 } }, t.1, 0) else (s, r.w, 10)
  else (s, 0, 4)
def SlabS.drop (s : SlabS) : SlabS × Int := if 0 < s.count then ({ s with count := s.count - 1 }, 0) else (s, 6)
theorem SlabS.has_at {s : SlabS} {j : Nat} (h : s.has j) : ∃ r, s.recs[j]? = some r ∧ s.recs.getD (j : Int).toNat Rec.zero = r := by
  have hj : j < s.recs.length := by unfold SlabS.has at h; omega
  exact ⟨s.recs[j], List.getElem?_eq_getElem hj, by simp [hj]⟩
theorem SlabS.has_nat {s : SlabS} {k : Int} (h : s.has k) : ∃ j : Nat, k = j := Int.eq_ofNat_of_zero_le h.1

/-! ## A slab in the heap -/
def recAt (C : Array Value) (i : Nat) (r : Rec) : Prop := cellAt C (i * 6) (.int .u64 r.w) ∧ C[i * 6 + 4]? = some (.int .u64 r.g) ∧ C[i * 6 + 5]? = some (.int .u64 r.p)
def recsP (rs : List Rec) : Obj → Prop := fun o => ∃ C, cellsAre 165 C o ∧ C.size = rs.length * 6 ∧ ∀ i r, rs[i]? = some r → recAt C i r
def slabP (rb n : Nat) (c : Int) : Obj → Prop := fun o => ∃ C, cellsAre 139 C o ∧ C.size = 5 ∧ C[0]? = some (.slice (some ⟨rb, 0, none⟩) n n) ∧ cellAt C 1 (.int .i64 c)
def slabH (sb rb : Nat) (s : SlabS) : PH := [(sb, slabP rb s.recs.length s.count), (rb, recsP s.recs)]
def reqC (sb : Nat) (q : Req) : Array Value := #[.pointer (some ⟨sb, 0, none⟩), .int .u64 q.p, .int .i64 q.next, .int .i64 q.saw, .int .i64 q.slot, .int .u64 q.id, .int .i64 q.st]
def reqH (qb sb : Nat) (q : Req) : Piece := pt qb 111 (reqC sb q)

theorem recAt_of_recell {C C' : Array Value} {i j : Nat} {r : Rec} {n : Int} (h : recAt C j r) (hc : Recell C (i * 6) (.int .u64 n) C') : recAt C' j (if j = i then { r with w := n } else r) := by
  obtain ⟨h0, h1, h2⟩ := h
  by_cases e : j = i
  · subst e
    rw [if_pos rfl]
    exact ⟨hc.cell, (hc.other _ (by omega)).trans h1, (hc.other _ (by omega)).trans h2⟩
  · rw [if_neg e]
    exact ⟨hc.cellOther h0 (by omega), (hc.other _ (by omega)).trans h1, (hc.other _ (by omega)).trans h2⟩
/-- a record's word has turned -/
theorem recs_recell {rs : List Rec} {C C' : Array Value} {i : Nat} {r : Rec} {n : Int} (hs : C.size = rs.length * 6) (h : ∀ i r, rs[i]? = some r → recAt C i r) (hr : rs[i]? = some r) (hc : Recell C (i * 6) (.int .u64 n) C') :
    C'.size = (rs.set i { r with w := n }).length * 6 ∧ ∀ j x, (rs.set i { r with w := n })[j]? = some x → recAt C' j x := by
  refine ⟨by rw [hc.size, hs, List.length_set], fun j x hx => ?_⟩
  rw [List.getElem?_set] at hx
  by_cases e : i = j
  · subst e
    rw [if_pos rfl] at hx
    split at hx
    · cases hx; have := recAt_of_recell (h i r hr) hc; rwa [if_pos rfl] at this
    · cases hx
  · rw [if_neg e] at hx
    have := recAt_of_recell (h j x hx) hc
    rwa [if_neg (fun x => e x.symm)] at this
theorem recs_same {rs : List Rec} {C C' : Array Value} {i : Nat} {r : Rec} (hs : C.size = rs.length * 6) (h : ∀ i r, rs[i]? = some r → recAt C i r) (hr : rs[i]? = some r) (hc : Recell C (i * 6) (.int .u64 r.w) C') :
    C'.size = rs.length * 6 ∧ ∀ j x, rs[j]? = some x → recAt C' j x := by
  have := recs_recell hs h hr hc
  have e : rs.set i { r with w := r.w } = rs := by
    apply List.ext_getElem? ; intro k; rw [List.getElem?_set]; split
    · next e => subst e; split
                · rw [hr]
                · rename_i hn; exact absurd (List.getElem?_eq_some_iff.1 hr).1 hn
    · rfl
  rwa [e] at this
theorem recAt_set4 {C : Array Value} {i : Nat} {r : Rec} (h : recAt C i r) (n : Int) : recAt (C.setIfInBounds (i * 6 + 4) (.int .u64 n)) i { r with g := n } := by
  obtain ⟨⟨h0, l, t, u, a, b, c⟩, h1, h2⟩ := h
  exact ⟨⟨(get_set_ne (by omega)).trans h0, l, t, u, (get_set_ne (by omega)).trans a, (get_set_ne (by omega)).trans b, (get_set_ne (by omega)).trans c⟩, get_set_eq h1, (get_set_ne (by omega)).trans h2⟩
theorem recAt_set5 {C : Array Value} {i : Nat} {r : Rec} (h : recAt C i r) (n : Int) : recAt (C.setIfInBounds (i * 6 + 5) (.int .u64 n)) i { r with p := n } := by
  obtain ⟨⟨h0, l, t, u, a, b, c⟩, h1, h2⟩ := h
  exact ⟨⟨(get_set_ne (by omega)).trans h0, l, t, u, (get_set_ne (by omega)).trans a, (get_set_ne (by omega)).trans b, (get_set_ne (by omega)).trans c⟩, (get_set_ne (by omega)).trans h1, get_set_eq h2⟩
theorem recAt_else {C : Array Value} {i j k : Nat} {r : Rec} {v : Value} (h : recAt C i r) (hk : j * 6 ≤ k ∧ k < j * 6 + 6) (hij : i ≠ j) : recAt (C.setIfInBounds k v) i r := by
  obtain ⟨⟨h0, l, t, u, a, b, c⟩, h1, h2⟩ := h
  exact ⟨⟨(get_set_ne (by omega)).trans h0, l, t, u, (get_set_ne (by omega)).trans a, (get_set_ne (by omega)).trans b, (get_set_ne (by omega)).trans c⟩, (get_set_ne (by omega)).trans h1, (get_set_ne (by omega)).trans h2⟩
/-- a record that a request holds -/
theorem recs_given {rs : List Rec} {C C' : Array Value} {i : Nat} {r : Rec} {n g p : Int} (hs : C.size = rs.length * 6) (h : ∀ i r, rs[i]? = some r → recAt C i r) (hr : rs[i]? = some r) (hc : Recell C (i * 6) (.int .u64 n) C') :
    ((C'.setIfInBounds (i * 6 + 4) (.int .u64 g)).setIfInBounds (i * 6 + 5) (.int .u64 p)).size = (rs.set i ⟨n, g, p⟩).length * 6 ∧
      ∀ j x, (rs.set i ⟨n, g, p⟩)[j]? = some x → recAt ((C'.setIfInBounds (i * 6 + 4) (.int .u64 g)).setIfInBounds (i * 6 + 5) (.int .u64 p)) j x := by
  obtain ⟨k1, k2⟩ := recs_recell hs h hr hc
  refine ⟨by rw [Array.size_setIfInBounds, Array.size_setIfInBounds, k1, List.length_set, List.length_set], fun j x hx => ?_⟩
  have hi := (List.getElem?_eq_some_iff.1 hr).1
  rw [List.getElem?_set] at hx
  by_cases e : i = j
  · subst e
    rw [if_pos rfl, if_pos hi] at hx
    cases hx
    have := k2 i _ (by rw [List.getElem?_set, if_pos rfl, if_pos hi])
    exact recAt_set5 (recAt_set4 this g) p
  · rw [if_neg e] at hx
    have := k2 j x (by rw [List.getElem?_set, if_neg e]; exact hx)
    exact recAt_else (j := i) (recAt_else (j := i) this ⟨by omega, by omega⟩ (fun x => e x.symm)) ⟨by omega, by omega⟩ (fun x => e x.symm)
theorem slabP_recell {C C' : Array Value} {rb n : Nat} {c : Int} (hs : C.size = 5) (h0 : C[0]? = some (.slice (some ⟨rb, 0, none⟩) n n)) (hc : Recell C 1 (.int .i64 c) C') : slabP rb n c (.cells C' 139 (0, 0)) :=
  ⟨C', rfl, hc.size.trans hs, (hc.other 0 (by omega)).trans h0, hc.cell⟩
end Go.Proofs.Ytnemggminanbbaa
