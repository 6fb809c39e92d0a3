import Derived.Test.YtnemggminanbbaaHas
namespace Go.Proofs.Ytnemggminanbbaa
set_option linter.unusedVariables false
set_option linter.unusedSimpArgs false
open Go.RowKit Go.Shelf

/-! ## Groups of blocks: each block known whole; a group is what belongs together, and keeps its place in the list of groups. -/

abbrev Blk := Nat × Obj
abbrev GH := List (List Blk)
/-- the groups' pieces -/
def ex (g : List Blk) : PH := g.map fun p => (p.1, (· = p.2))
/-- a block of cells -/
abbrev cl (b : Nat) (T : TypeId) (C : Array Value) : Blk := (b, .cells C T (0, 0))
theorem ex_append (a b : List Blk) : ex (a ++ b) = ex a ++ ex b := List.map_append
theorem ex_perm {a b : List Blk} (h : a.Perm b) : (ex a).Perm (ex b) := h.map _
/-- from the groups h at w to the groups H at w' -/
def TG (h : GH) (w : World) (H : GH) (w' : World) : Prop := Turned (ex h.flatten) w (ex H.flatten) w'
def HasG (H : GH) (w : World) : Prop := Has (ex H.flatten) w

/-- groups without some -/
def holesG : GH → List Nat → GH
  | H, [] => H
  | H, i :: is => holesG (H.set i []) is
/-- groups with some anew; what is more than these comes behind -/
def putG : GH → List Nat → GH → GH
  | H, [], gs => H ++ gs
  | H, i :: is, [] => putG (H.set i []) is []
  | H, i :: is, g :: gs => putG (H.set i g) is gs
def pickG (H : GH) (is : List Nat) : GH := is.map fun i => H.getD i []
/-- what turns groups, as one text -/
theorem SU : (∀ (H : GH) (is : List Nat), pickG H is = is.map fun i => H.getD i []) ∧ (∀ (α β : Type) (f : α → β) (a : α) (l : List α), (a :: l).map f = f a :: l.map f) ∧ (∀ (α β : Type) (f : α → β), ([] : List α).map f = []) ∧
    (∀ (α : Type) (x : α) (l : List α) (n : Nat) (d : α), (x :: l).getD (n + 1) d = l.getD n d) ∧ (∀ (α : Type) (x : α) (l : List α) (d : α), (x :: l).getD 0 d = x) ∧
    (∀ (α : Type) (x : α) (l : List α) (n : Nat) (d : α), (x :: l).set (n + 1) d = x :: l.set n d) ∧ (∀ (α : Type) (x : α) (l : List α) (d : α), (x :: l).set 0 d = d :: l) ∧
    (∀ (α : Type) (x : α) (l m : List α), x :: l ++ m = x :: (l ++ m)) ∧ (∀ l m : GH, (l ++ m).flatten = l.flatten ++ m.flatten) ∧ (∀ (a : List Blk) (l : GH), (a :: l).flatten = a ++ l.flatten) ∧ (([] : GH).flatten = []) ∧
    (∀ (α : Type) (l : List α), l ++ [] = l) ∧ (∀ (α : Type) (l : List α), [] ++ l = l) :=
  ⟨fun _ _ => rfl, fun _ _ _ _ _ => rfl, fun _ _ _ => rfl, fun _ _ _ _ _ => rfl, fun _ _ _ _ => rfl, fun _ _ _ _ _ => rfl, fun _ _ _ _ => rfl, fun _ _ _ _ => rfl, fun _ _ => List.flatten_append, fun _ _ => rfl, rfl, fun _ l => List.append_nil l, fun _ _ => rfl⟩
theorem PU : (∀ (H : GH) (gs : GH), putG H [] gs = H ++ gs) ∧ (∀ (H : GH) (i : Nat) (is : List Nat), putG H (i :: is) [] = putG (H.set i []) is []) ∧ (∀ (H : GH) (i : Nat) (is : List Nat) (g : List Blk) (gs : GH), putG H (i :: is) (g :: gs) = putG (H.set i g) is gs) ∧
    (∀ (α : Type) (x : α) (l : List α) (n : Nat) (d : α), (x :: l).set (n + 1) d = x :: l.set n d) ∧ (∀ (α : Type) (x : α) (l : List α) (d : α), (x :: l).set 0 d = d :: l) ∧ (∀ (α : Type) (x : α) (l m : List α), x :: l ++ m = x :: (l ++ m)) ∧
    (∀ (α : Type) (l : List α), l ++ [] = l) ∧ (∀ (α : Type) (l : List α), [] ++ l = l) :=
  ⟨fun _ _ => rfl, fun _ _ _ => rfl, fun _ _ _ _ _ => rfl, fun _ _ _ _ _ => rfl, fun _ _ _ _ => rfl, fun _ _ _ _ => rfl, fun _ l => List.append_nil l, fun _ _ => rfl⟩
def nodupB : List Nat → Bool
  | [] => true
  | i :: is => !is.contains i && nodupB is
def fineG (H : GH) (is : List Nat) : Bool := nodupB is && is.all fun i => decide (i < H.length)

theorem perm_set {H : GH} : ∀ {i : Nat} (g : List Blk), i < H.length → (H.set i g).flatten.Perm (g ++ (H.set i []).flatten) := by
  induction H with
  | nil => intro i g h; simp at h
  | cons a l ih =>
    intro i g h
    cases i with
    | zero => simp only [List.set_cons_zero, List.flatten_cons, List.nil_append]; exact List.Perm.refl _
    | succ n =>
      simp only [List.set_cons_succ, List.flatten_cons]
      refine ((ih g (by simpa using h)).append_left a).trans ?_
      rw [← List.append_assoc, ← List.append_assoc]
      exact List.perm_append_comm.append_right _
theorem set_self {H : GH} {i : Nat} (h : i < H.length) : H.set i (H.getD i []) = H := by
  apply List.ext_getElem?
  intro k
  rw [List.getElem?_set]
  split
  · next e => subst e; simp [h]
  · rfl
theorem perm_at {H : GH} {i : Nat} (h : i < H.length) : H.flatten.Perm (H.getD i [] ++ (H.set i []).flatten) := by
  have := perm_set (H.getD i []) h
  rwa [set_self h] at this
theorem holesG_set {is : List Nat} : ∀ {H : GH} {i : Nat} {g : List Blk}, i ∉ is → holesG (H.set i g) is = (holesG H is).set i g := by
  induction is with
  | nil => intro H i g _; rfl
  | cons j is ih =>
    intro H i g hi
    have hj : i ≠ j := fun e => hi (e ▸ List.mem_cons_self)
    simp only [holesG]
    rw [List.set_comm _ _ hj, ih (fun h => hi (List.mem_cons_of_mem _ h))]
theorem holesG_length {is : List Nat} : ∀ {H : GH}, (holesG H is).length = H.length := by
  induction is with
  | nil => intro H; rfl
  | cons j is ih => intro H; simp only [holesG]; rw [ih, List.length_set]
theorem nodupB_cons {i : Nat} {is : List Nat} (h : nodupB (i :: is) = true) : i ∉ is ∧ nodupB is = true := by
  simp only [nodupB, Bool.and_eq_true, Bool.not_eq_true', List.contains_eq_mem, decide_eq_false_iff_not] at h
  exact h
theorem pick_perm {is : List Nat} : ∀ {H : GH}, fineG H is = true → H.flatten.Perm ((pickG H is).flatten ++ (holesG H is).flatten) := by
  induction is with
  | nil => intro H _; exact List.Perm.refl _
  | cons i is ih =>
    intro H h
    simp only [fineG, Bool.and_eq_true, List.all_cons, decide_eq_true_eq] at h
    obtain ⟨hn, hi, hl⟩ := h
    obtain ⟨h1, h2⟩ := nodupB_cons hn
    refine (perm_at hi).trans ?_
    simp only [pickG, List.map_cons, List.flatten_cons, holesG, List.append_assoc]
    refine List.Perm.append_left _ ?_
    refine (ih (H := H.set i []) (by simp only [fineG, Bool.and_eq_true, List.length_set]; exact ⟨h2, hl⟩)).trans ?_
    have e : pickG (H.set i []) is = pickG H is := by
      apply List.map_congr_left
      intro j hj
      have hij : i ≠ j := by rintro rfl; exact h1 hj
      rw [List.getD_eq_getElem?_getD, List.getD_eq_getElem?_getD, List.getElem?_set, if_neg hij]
    rw [e]
    exact List.Perm.refl _
theorem put_perm {is : List Nat} : ∀ {H : GH} {gs : GH}, fineG H is = true → (putG H is gs).flatten.Perm (gs.flatten ++ (holesG H is).flatten) := by
  induction is with
  | nil => intro H gs _; simp only [putG, holesG, List.flatten_append]; exact List.perm_append_comm
  | cons i is ih =>
    intro H gs h
    simp only [fineG, Bool.and_eq_true, List.all_cons, decide_eq_true_eq] at h
    obtain ⟨hn, hi, hl⟩ := h
    obtain ⟨h1, h2⟩ := nodupB_cons hn
    have hf : ∀ g, fineG (H.set i g) is = true := fun g => by simp only [fineG, Bool.and_eq_true, List.length_set]; exact ⟨h2, hl⟩
    cases gs with
    | nil => simp only [putG, holesG]; exact ih (hf _)
    | cons g gs =>
      simp only [putG, holesG, List.flatten_cons]
      refine (ih (hf g)).trans ?_
      rw [holesG_set h1, holesG_set h1]
      have := perm_set (H := holesG H is) (i := i) g (by rw [holesG_length]; exact hi)
      refine (this.append_left _).trans ?_
      rw [← List.append_assoc]
      exact List.perm_append_comm.append_right _

section
variable {h H : GH} {w w' : World}
theorem TG.refl (a : HasG H w) : TG H w H w := Turned.refl a
theorem TG.trans {H' : GH} {w'' : World} (a : TG h w H w') (b : TG H w' H' w'') : TG h w H' w'' := Turned.trans a b
theorem TG.has (a : TG h w H w') : HasG H w' := Turned.has a
theorem TG.re (a : TG h w H w') {H' : GH} (p : H.flatten.Perm H'.flatten) : TG h w H' w' := Turned.perm a (ex_perm p)
theorem TG.eq (a : TG h w H w') {H' : GH} (p : H.flatten = H'.flatten) : TG h w H' w' := a.re (p ▸ List.Perm.refl _)
theorem TG.base (a : TG h w H w') {h' : GH} (p : h.flatten = h'.flatten) : TG h' w H w' := by unfold TG at a ⊢; rwa [← p]
theorem TG.pick (a : TG h w H w') (is : List Nat) (f : fineG H is = true) : TG h w (pickG H is) w' := by
  have b : Turned _ _ _ _ := Turned.perm a (ex_perm (pick_perm f))
  rw [ex_append] at b
  exact b.dropR
theorem TG.drew (a : TG h w H w') : TG h w H w'.drew := Turned.drew a
theorem TG.drewN (a : TG h w H w') (n : Nat) : TG h w H (w'.drewN n) := ⟨⟨a.has.nodup, a.has.holds⟩, Turned.only a |>.drewN n, Turned.news a⟩
theorem TG.alloc0 (a : TG h w H w') (o : Obj) : TG h w H (w'.alloc o) := Turned.alloc0 a o
theorem TG.put (a : TG h w H w') {k : Nat} (hk : k = w'.heap.size) (o : Obj) : TG h w (H ++ [[(k, o)]]) (w'.alloc o) := by
  subst hk
  have b : Turned (ex h.flatten) w ((w'.heap.size, (· = o)) :: ex H.flatten) (w'.alloc o) := by
    have a' : Turned _ _ _ _ := a
    refine ⟨⟨?_, ?_⟩, a'.only.alloc _, ?_⟩
    · exact List.nodup_cons.2 ⟨fun hm => absurd (a'.has.lt hm) (Nat.lt_irrefl _), a'.has.nodup⟩
    · intro p hp
      rcases List.mem_cons.1 hp with rfl | hp
      · exact ⟨_, alloc_new _ rfl, rfl⟩
      · obtain ⟨o', h1, h2⟩ := a'.has.holds p hp
        exact ⟨o', alloc_old h1 _, h2⟩
    · intro k hk
      rcases List.mem_cons.1 hk with rfl | hk
      · exact .inr a'.only.size
      · exact a'.news k hk
  have e : (H ++ [[(w'.heap.size, o)]]).flatten = H.flatten ++ [(w'.heap.size, o)] := by simp
  unfold TG
  rw [e, ex_append]
  exact b.perm (List.perm_append_comm (l₁ := [_]))
theorem TG.alloc (a : TG h w H w') {k : Nat} (hk : k = w'.heap.size) (T : TypeId) (C : Array Value) : TG h w (H ++ [[cl k T C]]) (w'.alloc (.cells C T)) := a.put hk _

theorem at_lt {i j : Nat} {p : Blk} (hij : (H.getD i [])[j]? = some p) : i < H.length := by
  rcases Nat.lt_or_ge i H.length with h1 | h1
  · exact h1
  · have e : H.getD i [] = [] := by rw [List.getD_eq_getElem?_getD, List.getElem?_eq_none h1]; rfl
    rw [e] at hij; cases hij
theorem mem_flat {i j : Nat} {p : Blk} (hij : (H.getD i [])[j]? = some p) : p ∈ H.flatten := by
  have h1 := List.mem_of_getElem? hij
  have h2 := at_lt hij
  exact List.mem_flatten.2 ⟨_, by rw [List.getD_eq_getElem?_getD, List.getElem?_eq_getElem h2]; exact List.getElem_mem h2, h1⟩
theorem HasG.obj (a : HasG H w) (i j : Nat) {p : Blk} (hij : (H.getD i [])[j]? = some p) : w.heap[p.1]? = some p.2 := by
  obtain ⟨o, h1, h2⟩ := Has.holds a (p.1, (· = p.2)) (List.mem_map.2 ⟨p, mem_flat hij, rfl⟩)
  exact h2 ▸ h1
theorem TG.obj (a : TG h w H w') (i j : Nat) {p : Blk} (hij : (H.getD i [])[j]? = some p) : w'.heap[p.1]? = some p.2 := a.has.obj i j hij
theorem TG.cell (a : TG h w H w') (i j : Nat) {b : Nat} {T : TypeId} {C : Array Value} (hij : (H.getD i [])[j]? = some (cl b T C)) (o : Nat) : w'.cell? ⟨b, o, none⟩ = C[o]? := blk_cell (a.obj i j hij) o
theorem TG.free (a : TG h w H w') (i j : Nat) {b : Nat} {T : TypeId} {C : Array Value} (hij : (H.getD i [])[j]? = some (cl b T C)) (o : Nat) : w'.frozen? ⟨b, o, none⟩ = false := blk_free (a.obj i j hij) o
theorem TG.lt (a : TG h w H w') (i j : Nat) {p : Blk} (hij : (H.getD i [])[j]? = some p) : p.1 < w'.heap.size := (Array.getElem?_eq_some_iff.1 (a.obj i j hij)).1
theorem keys_ex (g : List Blk) : keys (ex g) = g.map Prod.fst := by simp [keys, ex, Function.comp_def]
theorem TG.nodup (a : TG h w H w') : (H.flatten.map Prod.fst).Nodup := keys_ex _ ▸ Has.nodup (Turned.has a)
/-- blocks of two groups differ -/
theorem TG.ne (a : TG h w H w') (i j k l : Nat) (hik : i ≠ k) {p q : Blk} (hij : (H.getD i [])[j]? = some p) (hkl : (H.getD k [])[l]? = some q) : p.1 ≠ q.1 := by
  intro e
  have hi := at_lt hij
  have hn := a.nodup
  have hp := (perm_at hi).map Prod.fst
  have hn' := (hp.nodup_iff).1 hn
  rw [List.map_append] at hn'
  have hq : q ∈ (H.set i []).flatten := mem_flat (H := H.set i []) (i := k) (j := l) (by rw [List.getD_eq_getElem?_getD, List.getElem?_set, if_neg hik, ← List.getD_eq_getElem?_getD]; exact hkl)
  exact (List.nodup_append.1 hn').2.2 p.1 (List.mem_map.2 ⟨p, List.mem_of_getElem? hij, rfl⟩) p.1 (List.mem_map.2 ⟨q, hq, e.symm⟩) rfl
/-- and those of one group, too -/
theorem TG.ne' (a : TG h w H w') (i j l : Nat) (hjl : j ≠ l) {p q : Blk} (hij : (H.getD i [])[j]? = some p) (hkl : (H.getD i [])[l]? = some q) : p.1 ≠ q.1 := by
  intro e
  have hi := at_lt hij
  have hn := a.nodup
  have hp := (perm_at hi).map Prod.fst
  have hn' := (hp.nodup_iff).1 hn
  rw [List.map_append] at hn'
  have h1 := (List.nodup_append.1 hn').1
  have e1 : ((H.getD i []).map Prod.fst)[j]? = some p.1 := by rw [List.getElem?_map, hij]; rfl
  have e2 : ((H.getD i []).map Prod.fst)[l]? = some p.1 := by rw [List.getElem?_map, hkl, e]; rfl
  exact hjl (nodup_idx h1 e1 e2)
/-- an object is turned -/
theorem TG.turn (a : TG h w H w') (i : Nat) {b : Nat} {o o' : Obj} {pre post : List Blk} (hi : i < H.length) (hg : H.getD i [] = pre ++ (b, o) :: post)
    {w'' : World} (hb : w''.heap[b]? = some o') (ho : ∀ k, k ≠ b → w''.heap[k]? = w'.heap[k]?) (hs : w''.heap.size = w'.heap.size) (h1 : w''.os = w'.os) (h2 : w''.tape = w'.tape) (h3 : w''.output = w'.output) :
    TG h w (H.set i (pre ++ (b, o') :: post)) w'' := by
  have a' : Turned _ _ _ _ := a
  have hp : (ex H.flatten).Perm ((b, (· = o)) :: ex (pre ++ post ++ (H.set i []).flatten)) := by
    refine (ex_perm ((perm_at hi).trans ?_)).trans (List.Perm.refl (ex ((b, o) :: (pre ++ post ++ (H.set i []).flatten))))
    rw [hg]
    refine (List.Perm.append_right _ List.perm_middle).trans ?_
    simp
  have hp' : ((b, (· = o')) :: ex (pre ++ post ++ (H.set i []).flatten)).Perm (ex (H.set i (pre ++ (b, o') :: post)).flatten) := by
    refine List.Perm.trans (List.Perm.refl (ex ((b, o') :: (pre ++ post ++ (H.set i []).flatten)))) (ex_perm ((perm_set _ hi).trans ?_).symm)
    refine (List.Perm.append_right _ List.perm_middle).trans ?_
    simp
  have c := a'.perm hp
  have hnd := List.nodup_cons.1 c.has.nodup
  have hbl := c.has.lt (k := b) List.mem_cons_self
  refine Turned.perm ?_ hp'
  refine ⟨⟨c.has.nodup, fun p hp => ?_⟩, ⟨h1.trans c.only.os, h2.trans c.only.tape, h3.trans c.only.output, by rw [hs]; exact c.only.size, fun k hk hn => (ho k ?_).trans (c.only.block k hk hn)⟩, c.news⟩
  · rcases List.mem_cons.1 hp with rfl | hp
    · exact ⟨o', hb, rfl⟩
    · obtain ⟨x, h1, h2⟩ := c.has.holds p (List.mem_cons_of_mem _ hp)
      exact ⟨x, (ho _ (fun e => hnd.1 (List.mem_map.2 ⟨p, hp, e⟩))).trans h1, h2⟩
  · rintro rfl
    rcases c.news k List.mem_cons_self with h4 | h4
    · exact hn h4
    · omega
theorem split_at {l : List Blk} {j : Nat} {p : Blk} (hj : l[j]? = some p) : l = l.take j ++ p :: l.drop (j + 1) ∧ ∀ q, l.set j q = l.take j ++ q :: l.drop (j + 1) := by
  obtain ⟨h1, h2⟩ := List.getElem?_eq_some_iff.1 hj
  have e : ∀ q, l.set j q = l.take j ++ q :: l.drop (j + 1) := fun q => List.set_eq_take_append_cons_drop.trans (if_pos h1)
  refine ⟨?_, e⟩
  rw [← e, ← h2, List.set_getElem_self]
/-- a cell is turned -/
theorem TG.set (a : TG h w H w') (i j : Nat) {b : Nat} {T : TypeId} {C : Array Value} (hij : (H.getD i [])[j]? = some (cl b T C)) (o : Nat) (v : Value) :
    TG h w (H.set i ((H.getD i []).set j (cl b T (C.setIfInBounds o v)))) (w'.setCell ⟨b, o, none⟩ v) := by
  obtain ⟨h1, h2⟩ := split_at hij
  have := a.turn (w'' := w'.setCell ⟨b, o, none⟩ v) i (o' := .cells (C.setIfInBounds o v) T (0, 0)) (at_lt hij) h1 (setCell_blk (a.obj i j hij) o v) (fun k hk => Below.heap_setCell w' ⟨b, o, none⟩ v k hk) (heap_size_setCell _ _ _) rfl rfl rfl
  rwa [← h2] at this
end

/-- **A CALL'S CONTRACT ON GROUPS.** -/
def DoesG (P : Program) (f : Nat) (args : Array Value) (gs : GH) (R : Ending → GH → Prop) : Prop :=
  ∀ w, HasG gs w → Calls P f args w fun e w' => ∃ gs', R e gs' ∧ TG gs w gs' w'

section
variable {P : Program} {f : Nat} {args : Array Value} {gs h H : GH} {R R' : Ending → GH → Prop} {w w1 : World}
/-- the groups that a call asks for lie at these places -/
theorem DoesG.use (hd : DoesG P f args gs R) (T : TG h w H w1) (is : List Nat) (hp : pickG H is = gs) (hf : fineG H is = true) :
    Calls P f args w1 fun e w2 => ∃ gs', R e gs' ∧ TG h w (putG H is gs') w2 := by
  subst hp
  have T1 : Turned _ _ _ _ := Turned.perm T (ex_perm (pick_perm hf))
  rw [ex_append] at T1
  refine (hd w1 T1.has.left).mono ?_
  rintro e w2 ⟨gs', hr, ht⟩
  refine ⟨gs', hr, ?_⟩
  have ht' : Turned _ _ _ _ := ht
  have := T1.trans (ht'.frame T1.has)
  rw [← ex_append] at this
  exact Turned.perm this (ex_perm (put_perm hf).symm)
theorem DoesG.mono (hd : DoesG P f args gs R) (hr : ∀ e gs', R e gs' → R' e gs') : DoesG P f args gs R' :=
  fun w hw => (hd w hw).mono fun e w' ⟨g, a, b⟩ => ⟨g, hr _ _ a, b⟩
/-- the answer's groups are put otherwise -/
theorem DoesG.post (hd : DoesG P f args gs R) (hr : ∀ e gs', R e gs' → ∃ gs'', R' e gs'' ∧ gs'.flatten.Perm gs''.flatten) : DoesG P f args gs R' :=
  fun w hw => (hd w hw).mono fun e w' ⟨g, a, b⟩ => by
    obtain ⟨g', h1, h2⟩ := hr _ _ a
    exact ⟨g', h1, b.re h2⟩
/-- the groups that are asked for are put otherwise -/
theorem DoesG.pre {gs' : GH} (hd : DoesG P f args gs R) (he : gs.flatten = gs'.flatten) : DoesG P f args gs' R :=
  fun w hw => (hd w (by unfold HasG at hw ⊢; rwa [he])).mono fun e w' ⟨g, a, b⟩ => ⟨g, a, b.base he⟩
/-- of a call that turns nothing and asks for nothing -/
theorem DoesG.pure {v : Value} (hc : ∀ w, Calls P f args w fun e w' => e = .returned v ∧ w = w') : DoesG P f args gs fun e g => e = .returned v ∧ g = gs :=
  fun w hw => (hc w).mono fun e w' ⟨a, b⟩ => ⟨gs, ⟨a, rfl⟩, b ▸ TG.refl hw⟩
/-- of a call that makes memory, and asks for nothing -/
theorem DoesG.below {Q : Ending → Prop} (hc : ∀ w, Calls P f args w fun e w' => Q e ∧ Below w.heap.size w w') : DoesG P f args [] fun e g => Q e ∧ g = [] :=
  fun w hw => (hc w).mono fun e w' ⟨a, b⟩ => ⟨[], ⟨a, rfl⟩, ⟨⟨List.nodup_nil, fun _ h => by cases h⟩, ⟨b.os, b.tape, b.output, b.size, fun k hk _ => b.block k hk⟩, fun k hk => by cases hk⟩⟩
theorem DoesG.to_below {Q : Ending → Prop} (hd : DoesG P f args [] fun e g => Q e) (w : World) : Calls P f args w fun e w' => Q e ∧ Below w.heap.size w w' :=
  (hd w ⟨List.nodup_nil, fun _ h => by cases h⟩).mono fun e w' ⟨g, a, b⟩ => ⟨a, Turned.below b⟩
end

/-! ## From contracts on pieces to contracts on groups -/
inductive Match : PH → List Blk → Prop
  | nil : Match [] []
  | cons {b : Nat} {p : Obj → Prop} {o : Obj} {h : PH} {g : List Blk} : p o → Match h g → Match ((b, p) :: h) ((b, o) :: g)
theorem Match.keys {h : PH} {g : List Blk} (m : Match h g) : keys h = keys (ex g) := by
  induction m with
  | nil => rfl
  | cons _ _ ih => simp only [Go.Proofs.Ytnemggminanbbaa.keys, ex, List.map_cons] at ih ⊢; rw [ih]
theorem Match.has {h : PH} {g : List Blk} (m : Match h g) {w : World} (H : Has (ex g) w) : Has h w := by
  refine ⟨m.keys ▸ H.nodup, ?_⟩
  have hh := H.holds
  clear H
  induction m with
  | nil => intro p hp; cases hp
  | cons hp m ih =>
    intro q hq
    rcases List.mem_cons.1 hq with rfl | hq
    · obtain ⟨o, h1, h2⟩ := hh _ (by simp only [ex, List.map_cons]; exact List.mem_cons_self)
      exact ⟨o, h1, by subst h2; exact hp⟩
    · exact ih (fun p hp => hh p (by simp only [ex, List.map_cons]; exact List.mem_cons_of_mem _ hp)) q hq
theorem Match.of_holds {w : World} : ∀ {h : PH}, (∀ p ∈ h, ∃ o, w.heap[p.1]? = some o ∧ p.2 o) → ∃ g, Match h g ∧ ∀ p ∈ ex g, ∃ o, w.heap[p.1]? = some o ∧ p.2 o
  | [], _ => ⟨[], .nil, fun _ h => by cases h⟩
  | (b, p) :: h, H => by
    obtain ⟨o, h1, h2⟩ := H (b, p) List.mem_cons_self
    obtain ⟨g, m, hg⟩ := Match.of_holds (h := h) (fun q hq => H q (List.mem_cons_of_mem _ hq))
    refine ⟨(b, o) :: g, .cons h2 m, fun q hq => ?_⟩
    simp only [ex, List.map_cons] at hq
    rcases List.mem_cons.1 hq with rfl | hq
    · exact ⟨o, h1, rfl⟩
    · exact hg q hq
theorem Does.G {P : Program} {f : Nat} {args : Array Value} {h : PH} {R : Ending → PH → Prop} (hd : Does P f args h R) {gs : GH} (m : Match h gs.flatten) :
    DoesG P f args gs fun e gs' => ∃ h' g, R e h' ∧ Match h' g ∧ gs' = [g] := by
  intro w hw
  refine (hd w (m.has hw)).mono ?_
  rintro e w' ⟨h', hr, ht⟩
  obtain ⟨g, mg, hg⟩ := Match.of_holds ht.has.holds
  refine ⟨[g], ⟨h', g, hr, mg, rfl⟩, ?_⟩
  have ef : ([g] : GH).flatten = g := by simp
  unfold TG
  rw [ef]
  refine ⟨⟨mg.keys ▸ ht.has.nodup, hg⟩, ?_, ?_⟩
  · rw [← m.keys]; exact ht.only
  · rw [← m.keys, ← mg.keys]; exact ht.news
theorem Match.append {a b : PH} {g : List Blk} (m : Match (a ++ b) g) : ∃ x y, g = x ++ y ∧ Match a x ∧ Match b y := by
  induction a generalizing g with
  | nil => exact ⟨[], g, rfl, .nil, m⟩
  | cons p a ih =>
    cases m with
    | cons hp m =>
      obtain ⟨x, y, rfl, h1, h2⟩ := ih m
      exact ⟨_ :: x, y, rfl, .cons hp h1, h2⟩
theorem Match.join {a b : PH} {x y : List Blk} (m : Match a x) (n : Match b y) : Match (a ++ b) (x ++ y) := by
  induction m with
  | nil => exact n
  | cons hp m ih => exact .cons hp ih
theorem Match.one {b : Nat} {p : Obj → Prop} {g : List Blk} (m : Match [(b, p)] g) : ∃ o, p o ∧ g = [(b, o)] := by
  cases m with
  | cons hp m => cases m; exact ⟨_, hp, rfl⟩
theorem Match.isPt {b : Nat} {T : TypeId} {C : Array Value} {g : List Blk} (m : Match [pt b T C] g) : g = [cl b T C] := by
  obtain ⟨o, rfl, rfl⟩ := m.one; rfl
theorem Match.of_pt (b : Nat) (T : TypeId) (C : Array Value) : Match [pt b T C] [cl b T C] := .cons rfl .nil
theorem Does.G1 {P : Program} {f : Nat} {args : Array Value} {a a' : PH} {v : Value} {x : List Blk} (hd : Does P f args a fun e h' => e = .returned v ∧ h' = a') (ma : Match a x) :
    DoesG P f args [x] fun e gs => e = .returned v ∧ ∃ x', Match a' x' ∧ gs = [x'] := by
  refine (hd.G (gs := [x]) (by simpa using ma)).mono ?_
  rintro e gs ⟨h', g, ⟨he, rfl⟩, m, rfl⟩
  exact ⟨he, g, m, rfl⟩
theorem Does.G2 {P : Program} {f : Nat} {args : Array Value} {a a' b b' : PH} {v : Value} {x y : List Blk} (hd : Does P f args (a ++ b) fun e h' => e = .returned v ∧ h' = a' ++ b') (ma : Match a x) (mb : Match b y) :
    DoesG P f args [x, y] fun e gs => e = .returned v ∧ ∃ x' y', Match a' x' ∧ Match b' y' ∧ gs = [x', y'] := by
  refine (hd.G (gs := [x, y]) (by simpa using ma.join mb)).post ?_
  rintro e gs ⟨h', g, ⟨he, rfl⟩, m, rfl⟩
  obtain ⟨x', y', rfl, m1, m2⟩ := m.append
  exact ⟨_, ⟨he, x', y', m1, m2, rfl⟩, by simp⟩
/-- what a post says of the ending is said of it alone, the groups are some -/
theorem HasG.nil (w : World) : HasG [] w := ⟨List.nodup_nil, fun _ h => by cases h⟩
end Go.Proofs.Ytnemggminanbbaa
