import Derived.Test.YtnemggminanbbaaMix
import Derived.Test.YtnemggminanbbaaCtor
namespace Go.Proofs.Ytnemggminanbbaa
set_option linter.unusedVariables false
set_option linter.unusedSimpArgs false
open Go.RowKit Go.Shelf

/-! ## Stages: what a stage is, as a term; what its closures do, once for all that is made of them -/
/-- a stage: none; a function behind a condition, or none; a row of one thing, of two; one behind another -/
inductive St (M A Y : Type) where
  | nil
  | at (y : Option Y) (m : M)
  | row1 (a : A)
  | row2 (a b : A)
  | thn (s : St M A Y) (m : M)
section
variable {M A Y α : Type}
def St.isNil : St M A Y → Bool
  | .nil => true
  | _ => false
def thenSt (runM : M → α → St M A Y × α) (s : St M A Y) (m : M) (x : α) : St M A Y × α :=
  match s with
  | .nil => runM m x
  | s => (.thn s m, x)
def St.run (runM : M → α → St M A Y × α) (runA : A → α → α) : St M A Y → α → St M A Y × α
  | .nil, x => (.nil, x)
  | .at _ m, x => runM m x
  | .row1 a, x => (.nil, runA a x)
  | .row2 a b, x => (.row1 b, runA a x)
  | .thn s m, x => thenSt runM (s.run runM runA x).1 m (s.run runM runA x).2
/-- what must hold for a stage's next step -/
def St.pre (runM : M → α → St M A Y × α) (runA : A → α → α) (preM : M → α → Prop) (preA : A → α → Prop) : St M A Y → α → Prop
  | .nil, _ => True
  | .at _ m, x => preM m x
  | .row1 a, x => preA a x
  | .row2 a _, x => preA a x
  | .thn s m, x => s.pre runM runA preM preA x ∧ ((s.run runM runA x).1.isNil = true → preM m (s.run runM runA x).2)
def St.may (mayY : Y → α → Bool) : St M A Y → α → Bool
  | .nil, _ => false
  | .at none _, _ => true
  | .at (some y) _, x => mayY y x
  | .row1 _, _ => true
  | .row2 _ _, _ => true
  | .thn s _, x => s.may mayY x
def St.preY (preY : Y → α → Prop) : St M A Y → α → Prop
  | .at (some y) _, x => preY y x
  | .thn s _, x => s.preY preY x
  | _, _ => True
end
/-- groups put otherwise: by a sum over their blocks -/
theorem TG.sum {h H H' : GH} {w w' : World} (T : TG h w H w')
    (hs : ∀ n : List Blk → Nat, (∀ x y, n (x ++ y) = n x + n y) → n [] = 0 → (∀ a b l, n (a :: b :: l) = n [a] + n (b :: l)) → (∀ a x y, n (a :: (x ++ y)) = n [a] + (n x + n y)) → n H.flatten = n H'.flatten) : TG h w H' w' := by
  classical
  refine T.re (List.perm_iff_count.2 fun a => hs (fun l => l.count a) (fun x y => List.count_append) rfl (fun b d l => ?_) (fun b x y => ?_))
  · show List.count a ([b] ++ (d :: l)) = _
    rw [List.count_append]
  · show List.count a ([b] ++ (x ++ y)) = _
    rw [List.count_append, List.count_append]
end Go.Proofs.Ytnemggminanbbaa
