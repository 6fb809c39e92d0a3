import Derived.Test.YtnemggminanbbaaRow
namespace Go.Proofs.Ytnemggminanbbaa
set_option linter.unusedVariables false
set_option linter.unusedSimpArgs false
open Go.RowKit Go.Shelf

/-! ## Groups that are parted, and put together -/
section
variable {h H : GH} {w w' : World}
/-- a group's blocks in another order -/
theorem TG.permAt (T : TG h w H w') (i : Nat) {g : List Blk} (hi : decide (i < H.length) = true) (hp : (H.getD i []).Perm g) : TG h w (H.set i g) w' := by
  have hi := of_decide_eq_true hi
  exact T.re ((perm_at hi).trans ((hp.append_right _).trans (perm_set g hi).symm))
/-- a part of a group gets a place of its own, at the end -/
theorem TG.part (T : TG h w H w') (i : Nat) {a b : List Blk} (hi : decide (i < H.length) = true) (hp : (H.getD i []).Perm (a ++ b)) : TG h w (H.set i b ++ [a]) w' := by
  have hi := of_decide_eq_true hi
  refine T.re ((perm_at hi).trans ((hp.append_right _).trans ?_))
  have e : (H.set i b ++ [a]).flatten = (H.set i b).flatten ++ a := by simp
  rw [e]
  refine List.Perm.trans ?_ ((perm_set b hi).symm.append_right a)
  rw [List.append_assoc]
  exact List.perm_append_comm
/-- two groups become one, at the first's place -/
theorem TG.merge (T : TG h w H w') (i j : Nat) (hij : i ≠ j) (hi : decide (i < H.length) = true) (hj : decide (j < H.length) = true) : TG h w ((H.set j []).set i (H.getD i [] ++ H.getD j [])) w' := by
  have hi := of_decide_eq_true hi
  have hj := of_decide_eq_true hj
  have hi' : i < (H.set j []).length := by rw [List.length_set]; exact hi
  have e : (H.set j []).getD i [] = H.getD i [] := by rw [List.getD_eq_getElem?_getD, List.getElem?_set, if_neg (Ne.symm hij), ← List.getD_eq_getElem?_getD]
  refine T.re ((perm_at hj).trans ?_)
  refine List.Perm.trans ?_ (perm_set _ hi').symm
  refine ((perm_at hi').append_left _).trans ?_
  rw [e, ← List.append_assoc]
  exact List.perm_append_comm.append_right _
end

/-- the blocks of a family -/
def famB {α : Type} (f : α → List Blk) (l : List α) : List Blk := l.flatMap f
section
variable {α : Type} {f : α → List Blk} {l : List α} {k : Nat} {a : α}
theorem fam_out (hk : l[k]? = some a) : (famB f l).Perm (f a ++ famB f (l.eraseIdx k)) := by
  unfold famB
  induction l generalizing k with
  | nil => simp at hk
  | cons x l ih =>
    cases k with
    | zero => simp only [List.getElem?_cons_zero, Option.some.injEq] at hk; subst hk; simp
    | succ k =>
      simp only [List.getElem?_cons_succ] at hk
      simp only [List.flatMap_cons, List.eraseIdx_cons_succ]
      refine ((ih hk).append_left _).trans ?_
      rw [← List.append_assoc, ← List.append_assoc]
      exact List.perm_append_comm.append_right _
theorem fam_in (hk : k < l.length) (a' : α) : (f a' ++ famB f (l.eraseIdx k)).Perm (famB f (l.set k a')) := by
  have h1 : (l.set k a')[k]? = some a' := by rw [List.getElem?_set, if_pos rfl, if_pos hk]
  have h2 := fam_out (f := f) h1
  rw [List.eraseIdx_set_eq] at h2
  exact h2.symm
theorem fam_snoc (x : α) : famB f (l ++ [x]) = famB f l ++ f x := by simp [famB]
theorem fam_set_same (hk : l[k]? = some a) : l.set k a = l := by
  apply List.ext_getElem?
  intro i
  rw [List.getElem?_set]
  split
  · next e => subst e; rw [hk]; simp [(List.getElem?_eq_some_iff.1 hk).1]
  · rfl
end
section
variable {h H : GH} {w w' : World} {α : Type} {f : α → List Blk} {l : List α} {k : Nat} {a : α}
/-- one of a family gets a place of its own -/
theorem TG.out (T : TG h w H w') (i : Nat) (hi : decide (i < H.length) = true) (hg : H.getD i [] = famB f l) (hk : l[k]? = some a) : TG h w (H.set i (famB f (l.eraseIdx k)) ++ [f a]) w' :=
  T.part i hi (hg ▸ fam_out hk)
/-- and goes back -/
theorem TG.back (T : TG h w H w') (i j : Nat) (hij : i ≠ j) (hi : decide (i < H.length) = true) (hj : decide (j < H.length) = true) {a' : α} (hg : H.getD i [] = famB f (l.eraseIdx k)) (hgj : H.getD j [] = f a') (hk : k < l.length) :
    TG h w ((H.set j []).set i (famB f (l.set k a'))) w' := by
  have T1 := T.merge i j hij hi hj
  have hi' := of_decide_eq_true hi
  have T2 := T1.permAt i (g := famB f (l.set k a')) (by rw [List.length_set, List.length_set]; exact hi) (by
    rw [List.getD_eq_getElem?_getD, List.getElem?_set, if_pos rfl, if_pos (by rw [List.length_set]; exact hi'), Option.getD_some, hg, hgj]
    exact List.perm_append_comm.trans (fam_in hk a'))
  rwa [List.set_set] at T2
/-- a new one of a family -/
theorem TG.join (T : TG h w H w') (i j : Nat) (hij : i ≠ j) (hi : decide (i < H.length) = true) (hj : decide (j < H.length) = true) {x : α} (hg : H.getD i [] = famB f l) (hgj : H.getD j [] = f x) :
    TG h w ((H.set j []).set i (famB f (l ++ [x]))) w' := by
  have T1 := T.merge i j hij hi hj
  rwa [hg, hgj, ← fam_snoc] at T1
end
/-! ## A family whose blocks are known by what is said of them -/
def FamP {α : Type} (P : α → List Blk → Prop) : List α → List Blk → Prop
  | [], g => g = []
  | a :: l, g => ∃ x y, P a x ∧ FamP P l y ∧ g = x ++ y
section
variable {α : Type} {P : α → List Blk → Prop}
theorem FamP.snoc {l : List α} {g x : List Blk} {a : α} (h : FamP P l g) (hx : P a x) : FamP P (l ++ [a]) (g ++ x) := by
  induction l generalizing g with
  | nil => obtain rfl : g = [] := h; exact ⟨x, [], hx, rfl, by simp⟩
  | cons b l ih =>
    obtain ⟨y, z, hy, hz, rfl⟩ := h
    exact ⟨y, z ++ x, hy, ih hz, by simp⟩
/-- one of them, and what may stand in its place -/
theorem FamP.out {l : List α} {g : List Blk} {k : Nat} {a : α} (h : FamP P l g) (hk : l[k]? = some a) :
    ∃ x y, P a x ∧ g.Perm (x ++ y) ∧ ∀ a' x', P a' x' → ∃ g', FamP P (l.set k a') g' ∧ (x' ++ y).Perm g' := by
  induction l generalizing g k with
  | nil => simp at hk
  | cons b l ih =>
    obtain ⟨u, v, hu, hv, rfl⟩ := h
    cases k with
    | zero =>
      simp only [List.getElem?_cons_zero, Option.some.injEq] at hk
      subst hk
      exact ⟨u, v, hu, List.Perm.refl _, fun a' x' hx' => ⟨x' ++ v, ⟨x', v, hx', hv, rfl⟩, List.Perm.refl _⟩⟩
    | succ k =>
      simp only [List.getElem?_cons_succ] at hk
      obtain ⟨x, y, hx, hp, hr⟩ := ih hv hk
      refine ⟨x, u ++ y, hx, ?_, fun a' x' hx' => ?_⟩
      · refine (hp.append_left u).trans ?_
        rw [← List.append_assoc, ← List.append_assoc]
        exact List.perm_append_comm.append_right _
      · obtain ⟨g', hg', hp'⟩ := hr a' x' hx'
        refine ⟨u ++ g', ⟨u, g', hu, hg', rfl⟩, ?_⟩
        refine List.Perm.trans ?_ (hp'.append_left u)
        rw [← List.append_assoc, ← List.append_assoc]
        exact List.perm_append_comm.append_right _
end
end Go.Proofs.Ytnemggminanbbaa
