import Derived.Test.YtnemggminanbbaaRangeG
import Derived.Deep.QuietTactic
namespace Go.Proofs.Ytnemggminanbbaa
set_option linter.unusedVariables false
open Go.RowKit Go.Shelf
/-- a function that only reads: it answers v and leaves the world alone, but for its draws -/
def ReadsG (P : Program) (f : Nat) (args : Array Value) (gs : GH) (v : Value) : Prop :=
  ∀ w, HasG gs w → Calls P f args w fun e w' => e = .returned v ∧ ∃ m, w' = w.drewN m
section
variable {P : Program} {f : Nat} {args : Array Value} {gs h H : GH} {v : Value} {w w1 : World}
theorem ReadsG.does (r : ReadsG P f args gs v) : DoesG P f args gs fun e gs' => e = .returned v ∧ gs' = gs :=
  fun w hw => (r w hw).mono fun e w' ⟨he, m, hw'⟩ => ⟨gs, ⟨he, rfl⟩, by subst hw'; exact (TG.refl hw).drewN m⟩
theorem ReadsG.use (r : ReadsG P f args gs v) (T : TG h w H w1) (is : List Nat) (hp : pickG H is = gs) (hf : fineG H is = true) :
    Calls P f args w1 fun e w2 => e = .returned v ∧ ∃ m, w2 = w1.drewN m := by
  subst hp; exact r w1 (T.pick is hf).has
theorem ReadsG.quiet (r : ReadsG P f args gs v) (T : TG h w H w1) (n : Nat) (is : List Nat) (hp : pickG H is = gs) (hf : fineG H is = true) :
    Calls P f args (w1.drewN n) fun e w2 => e = .returned v ∧ ∃ m, w2 = w1.drewN m :=
  Calls.quiet_of (r.use (T.drewN n) is hp hf)
end
end Go.Proofs.Ytnemggminanbbaa
