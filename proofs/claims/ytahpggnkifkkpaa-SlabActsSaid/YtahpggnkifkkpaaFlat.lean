import Derived.Test.YtahpggnkifkkpaaRow
namespace Go.Proofs.Ytahpggnkifkkpaa
set_option linter.unusedVariables false
open Go.RowKit Go.Shelf

/-! ## Structs of so many cells in a row -/
section
variable {α : Type} (f : α → List Value) (sz : Nat) (hf : ∀ a, (f a).length = sz) (z : α)
theorem flat_length (hf : ∀ a, (f a).length = sz) (l : List α) : (l.flatMap f).length = l.length * sz := by
  induction l with
  | nil => simp
  | cons a l ih => rw [List.flatMap_cons, List.length_append, ih, hf, List.length_cons, Nat.succ_mul]; omega
theorem flat_snoc (l : List α) (a : α) : (l ++ [a]).flatMap f = l.flatMap f ++ f a := by simp
theorem flat_at (hf : ∀ a, (f a).length = sz) (l : List α) (i j : Nat) (hi : i < l.length) (hj : j < sz) : (l.flatMap f)[i * sz + j]? = (f (l.getD i z))[j]? := by
  induction l generalizing i with
  | nil => simp at hi
  | cons e l ih =>
    have he := hf e
    rw [List.flatMap_cons]
    cases i with
    | zero => rw [Nat.zero_mul, Nat.zero_add, List.getElem?_append_left (by omega)]; rfl
    | succ i => rw [List.getElem?_append_right (by rw [he, Nat.succ_mul]; omega), show (i + 1) * sz + j - (f e).length = i * sz + j by rw [he, Nat.succ_mul]; omega, ih i (by simpa using hi)]; rfl
theorem flat_set (hf : ∀ a, (f a).length = sz) (l : List α) (i j : Nat) (hi : i < l.length) (hj : j < sz) (v : Value) (x : α) (hx : f x = (f (l.getD i z)).set j v) : (l.flatMap f).set (i * sz + j) v = (l.set i x).flatMap f := by
  induction l generalizing i with
  | nil => simp at hi
  | cons e l ih =>
    have he := hf e
    rw [List.flatMap_cons]
    cases i with
    | zero => rw [Nat.zero_mul, Nat.zero_add, List.set_append_left _ _ (by omega), List.set_cons_zero, List.flatMap_cons, hx]; rfl
    | succ i => rw [List.set_append_right _ _ (by rw [he, Nat.succ_mul]; omega), show (i + 1) * sz + j - (f e).length = i * sz + j by rw [he, Nat.succ_mul]; omega, ih i (by simpa using hi) (by simpa using hx), List.set_cons_succ, List.flatMap_cons]
theorem flat_put (hf : ∀ a, (f a).length = sz) (l : List α) (i : Nat) (hi : i < l.length) (x : α) : (l.flatMap f).take (i * sz) ++ f x ++ (l.flatMap f).drop (i * sz + sz) = (l.set i x).flatMap f := by
  induction l generalizing i with
  | nil => simp at hi
  | cons e l ih =>
    have he := hf e
    rw [List.flatMap_cons]
    cases i with
    | zero => rw [Nat.zero_mul, List.take_zero, List.nil_append, Nat.zero_add, List.drop_append, List.drop_eq_nil_of_le (by omega), he, Nat.sub_self, List.drop_zero, List.nil_append, List.set_cons_zero, List.flatMap_cons]
    | succ i =>
      rw [List.take_append, List.take_of_length_le (by rw [he, Nat.succ_mul]; omega), show (i + 1) * sz - (f e).length = i * sz by rw [he, Nat.succ_mul]; omega,
        List.drop_append, List.drop_eq_nil_of_le (by rw [he, Nat.succ_mul]; omega), show (i + 1) * sz + sz - (f e).length = i * sz + sz by rw [he, Nat.succ_mul]; omega, List.nil_append, List.append_assoc, List.append_assoc, ← List.append_assoc (List.take _ _), ih i (by simpa using hi), List.set_cons_succ, List.flatMap_cons]
end
/-! ## A struct is stored into a row: cell by cell -/
def setsL (xs : List Value) (o : Nat) : List Value → List Value
  | [] => xs
  | v :: vs => setsL (xs.set o v) (o + 1) vs
def setsC (C : Array Value) (o : Nat) : List Value → Array Value
  | [] => C
  | v :: vs => setsC (C.setIfInBounds o v) (o + 1) vs
def setsW (w : World) (b o : Nat) : List Value → World
  | [] => w
  | v :: vs => setsW (w.setCell ⟨b, o, none⟩ v) b (o + 1) vs
theorem setsL_eq (vs : List Value) : ∀ (xs : List Value) (o : Nat), o + vs.length ≤ xs.length → setsL xs o vs = xs.take o ++ vs ++ xs.drop (o + vs.length) := by
  induction vs with
  | nil => intro xs o h; simp [setsL]
  | cons v vs ih =>
    intro xs o h
    simp only [List.length_cons] at h
    rw [setsL, ih _ _ (by rw [List.length_set]; omega)]
    have ht : (xs.set o v).take (o + 1) = xs.take o ++ [v] := by
      rw [List.take_succ_eq_append_getElem (by rw [List.length_set]; omega), List.take_set, List.getElem_set_self]
      congr 1
      rw [List.set_eq_of_length_le (by rw [List.length_take]; omega)]
    have hd : (xs.set o v).drop (o + 1 + vs.length) = xs.drop (o + 1 + vs.length) := by rw [List.drop_set_of_lt (by omega)]
    rw [ht, hd, List.append_assoc _ [v], List.length_cons, show o + 1 + vs.length = o + (vs.length + 1) by omega]
    rfl
section
variable {h H : GH} {w w' : World}
theorem getD_set {i : Nat} (hi : i < H.length) (g : List Blk) : (H.set i g).getD i [] = g := by
  rw [List.getD_eq_getElem?_getD, List.getElem?_set, if_pos rfl, if_pos hi]; rfl
theorem TG.setAs (T : TG h w H w') (i : Nat) {b : Nat} {E : TypeId} {C C' : Array Value} (hi : H.getD i [] = [cl b E C]) (o : Nat) (v : Value) (hC : C.setIfInBounds o v = C') : TG h w (H.set i [cl b E C']) (w'.setCell ⟨b, o, none⟩ v) := by
  have T1 := T.set i 0 (b := b) (T := E) (C := C) (by rw [hi]; rfl) o v
  rw [hi, hC] at T1
  exact T1
theorem TG.sets {i b : Nat} {E : TypeId} (vs : List Value) : ∀ {H : GH} {w' : World} {C : Array Value} (o : Nat), TG h w H w' → H.getD i [] = [cl b E C] → TG h w (H.set i [cl b E (setsC C o vs)]) (setsW w' b o vs) := by
  induction vs with
  | nil =>
    intro H w' C o T hi
    rw [setsC, setsW, ← hi, set_self (at_lt (i := i) (j := 0) (p := cl b E C) (by rw [hi]; rfl))]
    exact T
  | cons v vs ih =>
    intro H w' C o T hi
    have hlt : i < H.length := at_lt (i := i) (j := 0) (p := cl b E C) (by rw [hi]; rfl)
    have T1 := T.set i 0 (b := b) (T := E) (C := C) (by rw [hi]; rfl) o v
    rw [hi] at T1
    have T2 := ih (o + 1) T1 (getD_set hlt _)
    rwa [List.set_set] at T2
theorem rowG.sets {e : TypeId} {size : Nat} {v : Value} {n : Nat} {b : Nat} (vs : List Value) : ∀ {xs : List Value} {cur : Array Value} (o : Nat), rowG e size v n xs [cl b e cur] → rowG e size v n (setsL xs o vs) [cl b e (setsC cur o vs)] := by
  induction vs with
  | nil => intro xs cur o r; exact r
  | cons u vs ih => intro xs cur o r; exact ih (o + 1) (r.set rfl o u)
/-- one struct of a row is stored anew -/
theorem row_put {α : Type} {f : α → List Value} {sz : Nat} (hf : ∀ a, (f a).length = sz) (T : TG h w H w') (i : Nat) {b : Nat} {e : TypeId} {v : Value} {l : List α} {cur : Array Value} (hi : H.getD i [] = [cl b e cur])
    (r : rowG e sz v l.length (l.flatMap f) [cl b e cur]) {k : Nat} (hk : k < l.length) (x : α) : ∃ cur', rowG e sz v (l.set k x).length ((l.set k x).flatMap f) [cl b e cur'] ∧ TG h w (H.set i [cl b e cur']) (setsW w' b (k * sz) (f x)) := by
  have r' := r.sets (f x) (k * sz)
  rw [setsL_eq _ _ _ (by rw [flat_length f sz hf, hf, ← Nat.succ_mul]; exact Nat.mul_le_mul_right _ hk), hf, flat_put f sz hf l k hk x] at r'
  exact ⟨_, by rw [List.length_set]; exact r', T.sets _ _ hi⟩
end
end Go.Proofs.Ytahpggnkifkkpaa
