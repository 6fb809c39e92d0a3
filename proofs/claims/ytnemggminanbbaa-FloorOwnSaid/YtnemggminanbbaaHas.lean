import Derived.Test.YtnemggminanbbaaRange
import Derived.Deep.RegionHeld3
import Derived.BigQuiet
import Derived.Deep.Light
import Derived.Lib.Hide
import Derived.Laws.EntriesVeiled
import Derived.OwnWalk
import Derived.Laws.MakeOwn
namespace Go.Proofs.Ytnemggminanbbaa
set_option linter.unusedVariables false
set_option linter.unusedSimpArgs false
open Go.RowKit Go.Shelf

/-! ## Pieces of the heap: which blocks, and what each of them holds; a call turns its own pieces, and no other. -/

/-- a piece: a block, and what is said of it -/
abbrev Piece := Nat × (Obj → Prop)
abbrev PH := List Piece
/-- the blocks of some pieces -/
def keys (h : PH) : List Nat := h.map Prod.fst
/-- a block of cells, known whole -/
def cellsAre (T : TypeId) (C : Array Value) : Obj → Prop := fun o => o = .cells C T (0, 0)
/-- a block of cells that begins with these -/
abbrev pt (b : Nat) (T : TypeId) (C : Array Value) : Piece := (b, cellsAre T C)

structure Has (h : PH) (w : World) : Prop where
  nodup : (keys h).Nodup
  holds : ∀ p ∈ h, ∃ o, w.heap[p.1]? = some o ∧ p.2 o

/-- from w to w': the pieces h became h', new ones lie behind, nothing else has turned -/
structure Turned (h : PH) (w : World) (h' : PH) (w' : World) : Prop where
  has : Has h' w'
  only : Only (fun k => k ∈ keys h) w w'
  news : ∀ k, k ∈ keys h' → k ∈ keys h ∨ w.heap.size ≤ k

theorem nodup_idx {l : List Nat} (h : l.Nodup) : ∀ {i j : Nat} {x : Nat}, l[i]? = some x → l[j]? = some x → i = j := by
  induction l with
  | nil => intro i j x hi _; simp at hi
  | cons a l ih =>
    obtain ⟨h1, h2⟩ := List.nodup_cons.1 h
    intro i j x hi hj
    cases i with
    | zero =>
      cases j with
      | zero => rfl
      | succ j => simp at hi hj; subst hi; exact absurd (List.mem_of_getElem? hj) h1
    | succ i =>
      cases j with
      | zero => simp at hi hj; subst hj; exact absurd (List.mem_of_getElem? hi) h1
      | succ j => simp at hi hj; rw [ih h2 hi hj]

section
variable {h h' h'' F : PH} {w w' w'' : World}

theorem Has.nil (w : World) : Has [] w := ⟨List.nodup_nil, fun _ h => by simp at h⟩
theorem Has.perm (H : Has h w) (p : h.Perm h') : Has h' w :=
  ⟨(List.Perm.nodup_iff (p.map _)).1 H.nodup, fun q hq => H.holds q (p.mem_iff.2 hq)⟩
theorem Has.lt (H : Has h w) {k : Nat} (hk : k ∈ keys h) : k < w.heap.size := by
  obtain ⟨p, hp, rfl⟩ := List.mem_map.1 hk
  obtain ⟨o, ho, _⟩ := H.holds p hp
  exact (Array.getElem?_eq_some_iff.1 ho).1
theorem keys_append (a b : PH) : keys (a ++ b) = keys a ++ keys b := List.map_append
theorem Has.left (H : Has (h ++ F) w) : Has h w :=
  ⟨(List.nodup_append.1 (keys_append h F ▸ H.nodup)).1, fun p hp => H.holds p (List.mem_append_left _ hp)⟩
theorem Has.right (H : Has (h ++ F) w) : Has F w :=
  ⟨(List.nodup_append.1 (keys_append h F ▸ H.nodup)).2.1, fun p hp => H.holds p (List.mem_append_right _ hp)⟩
theorem Has.apart (H : Has (h ++ F) w) {k : Nat} (h1 : k ∈ keys h) (h2 : k ∈ keys F) : False :=
  (List.nodup_append.1 (keys_append h F ▸ H.nodup)).2.2 k h1 k h2 rfl
theorem Has.drop (H : Has (h ++ F) w) : Has F w := H.right
theorem Has.drew (H : Has h w) : Has h w.drew := ⟨H.nodup, H.holds⟩
theorem Has.only {S : Nat → Prop} (H : Has h w) (ho : Only S w w') (hs : ∀ k ∈ keys h, ¬ S k) : Has h w' :=
  ⟨H.nodup, fun p hp => by
    obtain ⟨o, h1, h2⟩ := H.holds p hp
    exact ⟨o, ho.blk h1 (hs _ (List.mem_map.2 ⟨p, hp, rfl⟩)), h2⟩⟩

theorem Turned.refl (H : Has h w) : Turned h w h w := ⟨H, Only.refl _ _, fun _ hk => .inl hk⟩
theorem Turned.trans (a : Turned h w h' w') (b : Turned h' w' h'' w'') : Turned h w h'' w'' :=
  ⟨b.has, a.only.trans' b.only (fun k hk hs => (a.news k hs).resolve_right (by omega)), fun k hk => by
    rcases b.news k hk with h1 | h1
    · exact a.news k h1
    · exact .inr (Nat.le_trans a.only.size h1)⟩
/-- the frame -/
theorem Turned.frame (a : Turned h w h' w') (H : Has (h ++ F) w) : Turned (h ++ F) w (h' ++ F) w' := by
  have hF : Has F w' := H.right.only a.only (fun k h1 h2 => H.apart h2 h1)
  refine ⟨⟨?_, ?_⟩, a.only.mono (fun k _ hk => by rw [keys_append]; exact List.mem_append_left _ hk), fun k hk => ?_⟩
  · rw [keys_append]
    refine List.nodup_append.2 ⟨a.has.nodup, hF.nodup, fun x hx y hy he => ?_⟩
    subst he
    rcases a.news x hx with h1 | h1
    · exact H.apart h1 hy
    · exact absurd (H.right.lt hy) (by omega)
  · intro p hp
    rcases List.mem_append.1 hp with h1 | h1
    · exact a.has.holds p h1
    · exact hF.holds p h1
  · rw [keys_append] at hk ⊢
    rcases List.mem_append.1 hk with h1 | h1
    · rcases a.news k h1 with h2 | h2
      · exact .inl (List.mem_append_left _ h2)
      · exact .inr h2
    · exact .inl (List.mem_append_right _ h1)
theorem Turned.perm (a : Turned h w h' w') (p : h'.Perm h'') : Turned h w h'' w' :=
  ⟨a.has.perm p, a.only, fun k hk => a.news k ((p.map Prod.fst).mem_iff.2 hk)⟩
theorem Turned.drop (a : Turned h w (h' ++ h'') w') : Turned h w h'' w' :=
  ⟨a.has.right, a.only, fun k hk => a.news k (by rw [keys_append]; exact List.mem_append_right _ hk)⟩
theorem Turned.dropR (a : Turned h w (h' ++ h'') w') : Turned h w h' w' :=
  ⟨a.has.left, a.only, fun k hk => a.news k (by rw [keys_append]; exact List.mem_append_left _ hk)⟩
theorem Turned.drop1 {p : Piece} (a : Turned h w (p :: h'') w') : Turned h w h'' w' := Turned.drop (h' := [p]) a
theorem Turned.drew (a : Turned h w h' w') : Turned h w h' w'.drew := ⟨a.has.drew, a.only.drew, a.news⟩
theorem Turned.alloc0 (a : Turned h w h' w') (o : Obj) : Turned h w h' (w'.alloc o) :=
  ⟨⟨a.has.nodup, fun p hp => by obtain ⟨o', h1, h2⟩ := a.has.holds p hp; exact ⟨o', alloc_old h1 o, h2⟩⟩, a.only.alloc o, a.news⟩
theorem Turned.alloc (a : Turned h w h' w') {k : Nat} (hk : k = w'.heap.size) (T : TypeId) (C : Array Value) : Turned h w (pt k T C :: h') (w'.alloc (.cells C T)) := by
  subst hk
  refine ⟨⟨?_, ?_⟩, a.only.alloc _, ?_⟩
  · refine List.nodup_cons.2 ⟨fun hm => absurd (a.has.lt hm) (Nat.lt_irrefl _), a.has.nodup⟩
  · intro p hp
    rcases List.mem_cons.1 hp with rfl | hp
    · exact ⟨_, alloc_new _ rfl, rfl⟩
    · obtain ⟨o', h1, h2⟩ := a.has.holds p hp
      exact ⟨o', alloc_old h1 _, h2⟩
  · intro k hk
    rcases List.mem_cons.1 hk with rfl | hk
    · exact .inr a.only.size
    · exact a.news k hk
theorem Turned.cons_ne {p : Piece} (a : Turned h w (p :: h') w') {k : Nat} (hk : k ∈ keys h') : k ≠ p.1 :=
  fun e => (List.nodup_cons.1 a.has.nodup).1 (e ▸ hk)
theorem setCell_blk {w : World} {b : Nat} {C : Array Value} {T : TypeId} (hb : w.heap[b]? = some (.cells C T (0, 0))) (i : Nat) (v : Value) :
    (w.setCell ⟨b, i, none⟩ v).heap[b]? = some (.cells (C.setIfInBounds i v) T (0, 0)) := by
  show (w.heap.modify b _)[b]? = _
  rw [Array.getElem?_modify, if_pos rfl, hb]
  rfl
theorem set_otherC {w : World} {B B' : Nat} {o : Obj} (h : w.heap[B]? = some o) (hne : B ≠ B') {i : Nat} (v : Value) : (w.setCell ⟨B', i, none⟩ v).heap[B]? = some o :=
  (Below.heap_setCell w ⟨B', i, none⟩ v B hne).trans h
/-- a cell of the first piece is turned -/
theorem Turned.set {b : Nat} {T : TypeId} {C : Array Value} (a : Turned h w (pt b T C :: h') w') (i : Nat) (v : Value) : Turned h w (pt b T (C.setIfInBounds i v) :: h') (w'.setCell ⟨b, i, none⟩ v) := by
  obtain ⟨o, ho, rfl⟩ := a.has.holds (pt b T C) List.mem_cons_self
  have hnd := List.nodup_cons.1 a.has.nodup
  refine ⟨⟨a.has.nodup, ?_⟩, a.only.setCell _ ?_ v, a.news⟩
  · intro p hp
    rcases List.mem_cons.1 hp with rfl | hp
    · exact ⟨_, setCell_blk ho i v, rfl⟩
    · obtain ⟨o', h1, h2⟩ := a.has.holds p (List.mem_cons_of_mem _ hp)
      exact ⟨o', set_otherC h1 (fun e => hnd.1 (List.mem_map.2 ⟨p, hp, e⟩)) v, h2⟩
  · rcases a.news b (List.mem_cons_self) with h1 | h1
    · exact .inl h1
    · exact .inr h1
/-- what is said of the first piece may be said otherwise -/
theorem Turned.say {b : Nat} {p q : Obj → Prop} (a : Turned h w ((b, p) :: h') w') (hpq : ∀ o, p o → q o) : Turned h w ((b, q) :: h') w' :=
  ⟨⟨a.has.nodup, fun x hx => by
    rcases List.mem_cons.1 hx with rfl | hx
    · obtain ⟨o, h1, h2⟩ := a.has.holds (b, p) List.mem_cons_self; exact ⟨o, h1, hpq o h2⟩
    · exact a.has.holds x (List.mem_cons_of_mem _ hx)⟩, a.only, a.news⟩
theorem Turned.open {b : Nat} {p : Obj → Prop} (a : Turned h w ((b, p) :: h') w') : ∃ o, p o ∧ Turned h w ((b, (· = o)) :: h') w' := by
  obtain ⟨o, h1, h2⟩ := a.has.holds (b, p) List.mem_cons_self
  refine ⟨o, h2, ⟨⟨a.has.nodup, fun x hx => ?_⟩, a.only, a.news⟩⟩
  rcases List.mem_cons.1 hx with rfl | hx
  · exact ⟨o, h1, rfl⟩
  · exact a.has.holds x (List.mem_cons_of_mem _ hx)
/-- a block known whole, by its place in the list -/
theorem Turned.blk (a : Turned h w h' w') (i : Nat) {b : Nat} {T : TypeId} {C : Array Value} (hi : h'[i]? = some (pt b T C)) : w'.heap[b]? = some (.cells C T (0, 0)) := by
  obtain ⟨o, h1, h2⟩ := a.has.holds _ (List.mem_of_getElem? hi)
  exact h2 ▸ h1
theorem Turned.cell (a : Turned h w h' w') (i : Nat) {b : Nat} {T : TypeId} {C : Array Value} (hi : h'[i]? = some (pt b T C)) (o : Nat) : w'.cell? ⟨b, o, none⟩ = C[o]? := blk_cell (a.blk i hi) o
theorem Turned.free (a : Turned h w h' w') (i : Nat) {b : Nat} {T : TypeId} {C : Array Value} (hi : h'[i]? = some (pt b T C)) (o : Nat) : w'.frozen? ⟨b, o, none⟩ = false := blk_free (a.blk i hi) o
theorem Turned.lt (a : Turned h w h' w') (i : Nat) {p : Piece} (hi : h'[i]? = some p) : p.1 < w'.heap.size :=
  a.has.lt (List.mem_map.2 ⟨p, List.mem_of_getElem? hi, rfl⟩)
theorem Turned.ne (a : Turned h w h' w') (i j : Nat) {p q : Piece} (hi : h'[i]? = some p) (hj : h'[j]? = some q) (hij : i ≠ j) : p.1 ≠ q.1 := by
  intro e
  have hn := a.has.nodup
  have h1 : (keys h')[i]? = some p.1 := by simp [keys, hi]
  have h2 : (keys h')[j]? = some q.1 := by simp [keys, hj]
  rw [← e] at h2
  exact hij (nodup_idx hn h1 h2)
theorem Turned.below (a : Turned [] w h' w') : Below w.heap.size w w' := a.only.below (fun k _ hk => by simp [keys] at hk) (Nat.le_refl _)
/-- what the call turned, of old blocks -/
theorem Turned.old (a : Turned h w h' w') {k : Nat} {o : Obj} (hk : w.heap[k]? = some o) (hn : k ∉ keys h) : w'.heap[k]? = some o := a.only.blk hk hn
end

/-- one piece is drawn to the front -/
theorem pull {H F : PH} (i : Nat) {p : Piece} (h1 : H[i]? = some p) (h2 : H.eraseIdx i = F) : H.Perm (p :: F) := by
  subst h2
  induction H generalizing i with
  | nil => simp at h1
  | cons x l ih =>
    cases i with
    | zero => simp at h1; subst h1; exact List.Perm.refl _
    | succ n =>
      simp only [List.getElem?_cons_succ] at h1
      simp only [List.eraseIdx_cons_succ]
      exact ((ih n h1).cons x).trans (List.Perm.swap p x _)

theorem wrapI (n : Int) (h0 : -9223372036854775808 ≤ n) (h1 : n < 9223372036854775808) : IntKind.i64.wrap n = n := by
  rw [IntKind.wrap_i64]; omega
theorem wrapU (n : Int) (h0 : 0 ≤ n) (h1 : n < 18446744073709551616) : IntKind.u64.wrap n = n := by
  have e : IntKind.u64.wrap n = n % 18446744073709551616 := by simp [IntKind.wrap, IntKind.bits, IntKind.signed]
  rw [e]; omega
theorem put_back {H : PH} (i : Nat) {p q : Piece} (h1 : H[i]? = some p) : (q :: H.eraseIdx i).Perm (H.set i q) := by
  induction H generalizing i with
  | nil => simp at h1
  | cons x l ih =>
    cases i with
    | zero => exact List.Perm.refl _
    | succ n =>
      simp only [List.getElem?_cons_succ] at h1
      simp only [List.eraseIdx_cons_succ, List.set_cons_succ]
      exact (List.Perm.swap x q _).trans ((ih n h1).cons x)
section
variable {h H : PH} {w w' : World}
theorem Turned.setAt (a : Turned h w H w') (i : Nat) {b : Nat} {T : TypeId} {C : Array Value} (hi : H[i]? = some (pt b T C)) (o : Nat) (v : Value) :
    Turned h w (H.set i (pt b T (C.setIfInBounds o v))) (w'.setCell ⟨b, o, none⟩ v) :=
  ((a.perm (pull i hi rfl)).set o v).perm (put_back i hi)
theorem Turned.sayAt (a : Turned h w H w') (i : Nat) {b : Nat} {p : Obj → Prop} (hi : H[i]? = some (b, p)) (q : Obj → Prop) (hpq : ∀ o, p o → q o) :
    Turned h w (H.set i (b, q)) w' :=
  ((a.perm (pull i hi rfl)).say hpq).perm (put_back i hi)
theorem Turned.openAt (a : Turned h w H w') (i : Nat) {b : Nat} {p : Obj → Prop} (hi : H[i]? = some (b, p)) :
    ∃ o, p o ∧ Turned h w (H.set i (b, (· = o))) w' := by
  obtain ⟨o, h1, h2⟩ := (a.perm (pull i hi rfl)).open
  exact ⟨o, h1, h2.perm (put_back i hi)⟩
end

/-- **A CALL'S CONTRACT ON PIECES.** -/
def Does (P : Program) (f : Nat) (args : Array Value) (h : PH) (R : Ending → PH → Prop) : Prop :=
  ∀ w, Has h w → Calls P f args w fun e w' => ∃ h', R e h' ∧ Turned h w h' w'

theorem Does.use {P : Program} {f : Nat} {args : Array Value} {hc F h H : PH} {R : Ending → PH → Prop} {w w1 : World} (hd : Does P f args hc R)
    (T : Turned h w H w1) (hp : H.Perm (hc ++ F)) : Calls P f args w1 fun e w2 => ∃ h', R e h' ∧ Turned h w (h' ++ F) w2 := by
  have T' := T.perm hp
  refine (hd w1 T'.has.left).mono ?_
  rintro e w2 ⟨h', hr, ht⟩
  exact ⟨h', hr, T'.trans (ht.frame T'.has)⟩
/-- of a call that asks for one piece: it lies where it lay -/
theorem Does.at {P : Program} {f : Nat} {args : Array Value} {p : Piece} {h H : PH} {R : Ending → PH → Prop} {w w1 : World} (hd : Does P f args [p] R)
    (T : Turned h w H w1) (i : Nat) (hi : H[i]? = some p) : Calls P f args w1 fun e w2 => ∃ h', R e h' ∧ ∀ q, h' = [q] → Turned h w (H.set i q) w2 := by
  refine (hd.use T (pull i hi rfl)).mono ?_
  rintro e w2 ⟨h', hr, ht⟩
  exact ⟨h', hr, fun q hq => by subst hq; exact ht.perm (put_back i hi)⟩
/-- of a call that asks for no piece and leaves none -/
theorem Does.off {P : Program} {f : Nat} {args : Array Value} {h H : PH} {R : Ending → PH → Prop} {w w1 : World} (hd : Does P f args [] R)
    (T : Turned h w H w1) : Calls P f args w1 fun e w2 => ∃ h', R e h' ∧ Turned h w (h' ++ H) w2 := hd.use T (List.Perm.refl _)
theorem Does.mono {P : Program} {f : Nat} {args : Array Value} {h : PH} {R R' : Ending → PH → Prop} (hd : Does P f args h R) (hr : ∀ e h', R e h' → R' e h') : Does P f args h R' :=
  fun w hw => (hd w hw).mono fun e w' ⟨h', a, b⟩ => ⟨h', hr _ _ a, b⟩
/-- of a call that turns nothing and asks for nothing -/
theorem Does.pure {P : Program} {f : Nat} {args : Array Value} {v : Value} (hc : ∀ w, Calls P f args w fun e w' => e = .returned v ∧ w = w') (h : PH) : Does P f args h fun e h' => e = .returned v ∧ h' = h :=
  fun w hw => (hc w).mono fun e w' ⟨a, b⟩ => ⟨h, ⟨a, rfl⟩, b ▸ Turned.refl hw⟩
/-- 'make([]T, n)', n a variable, T of so many cells -/
theorem run_make_n {P : Program} (t e : TypeId) (z : Value) (size bytes : Nat) (ht : P.underlying t = some (.slice e)) (hinfo : (P.info? e).map (fun i => (i.zero, i.size, i.bytes)) = some (some z, size, bytes))
    (n : Nat) (hbytes : bytes * n ≤ 281474976710656) (h63 : n ≤ 9223372036854775807) (w : World) :
    (Instr.makeSlice t (.int .i64 (n : Int)) (.int .i64 (n : Int))).run P w = .ok (.slice (some ⟨w.heap.size, 0, none⟩) n n) (w.alloc (.cells (madeCells z.cells (n * size)) e)) := by
  obtain ⟨i, hi, hz0, hz1, hz2⟩ := info_parts hinfo
  have h := run_make (P := P) w t e i z ht hi hz0 .i64 .i64 n n (by omega) (Int.le_refl _) (by rw [hz2]; omega) (by omega)
  simpa [hz1] using h
theorem made_get (z : Array Value) (n s i j : Nat) (hz : z.size = s) (hi : i < n) (hj : j < s) : (madeCells z (n * s))[i * s + j]? = z[j]? := by
  have hlt : i * s + j < n * s := by
    have h1 : (i + 1) * s ≤ n * s := Nat.mul_le_mul_right _ hi
    rw [Nat.add_mul, Nat.one_mul] at h1
    omega
  have hm : (i * s + j) % s = j := by rw [Nat.add_comm, Nat.add_mul_mod_self_right, Nat.mod_eq_of_lt hj]
  have hjz : j < z.size := by omega
  simp only [madeCells, Array.getElem?_map, Array.getElem?_range, hlt, if_true, Option.map_some, hz, hm]
  rw [Array.getElem?_eq_getElem hjz, getElem!_pos z j hjz]
end Go.Proofs.Ytnemggminanbbaa
