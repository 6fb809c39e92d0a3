/-
  No cell of these rows narrows 'for every input' (looked for: loops, veiled, ifaces, maps, wideKeys, modest, calm, conditions, laid).
  DERIVED. THE GIVEN ROWS OF THIS SEAT. 9 by the template 'for every input the law returns true; each argument reads behind the call as it read before'; 0 by the template 'total and deterministic' (their statements: YthbjaoinklhikaaGreatTotals.lean).
  GIVEN WITH THE SEED: the statements are not yours to turn. If you find one false, say at which input.
  Laid BY PROGRAM, IN A SANDBOX (cutbox-rows.mjs): the forced cells as the released guide's own fill.sh prints them over the translation a60fd7666b38a12e… (all of the seat's roots in one cut). By AI agents, Wed Nov 11 2026. No macro, syntax, notation, axiom, sorry.
-/
import Derived.Test.YthbjaoinklhikaaGreatChecked
import GoSem.Claim
import GoSem.ClaimJoined
import GoSem.ClaimMapViews
import Derived.JoinedTies
import Derived.KernelRfl
namespace Go.Proofs.YthbjaoinklhikaaGreat
/- THE CELL 'sum', in the pinned program and in every row, IS THE sha256 OF THE DUMP (.gsa) THAT YthbjaoinklhikaaGreatProg.lean LOADS. Nothing in Lean hashes anything: it is a label: what it is worth is what the hold of that sum in a sandbox is worth. -/
noncomputable def Tryz.pinned : Pinned := { name := "ythbjaoinklhikaagreat", sum := "a60fd7666b38a12e75bae57a1c8d3787d3774a26b3f69982d0f6a2ed3ec1d6b7", checked := Tryz.checked }
namespace Rows
def none {H : Type} : Left H := { results := [], args := [] }

/-- 'vergelaw16.CallsNone': WHATEVER THE INPUT: true; the input reads as it did. -/
def callsNoneSpec : ChangeSpec := { name := "callsNone", fn := fun _ => fun
  | [d1, d2] => { results := [.lit (.bool true)], args := [d1, d2] }
  | _ => none }
def callsNoneRow : OpenClaim := { program := "ythbjaoinklhikaagreat", sum := "a60fd7666b38a12e75bae57a1c8d3787d3774a26b3f69982d0f6a2ed3ec1d6b7", func := "verge/vergelaw16.CallsNone", spec := "callsNone", inPlace := ["math/bits.Add64"], unfollowed := true, recurses := true, apart := false }
def CallsNoneSaid : Prop := callsNoneRow.holds Tryz.pinned (OpenSpec.ofChange callsNoneSpec)

/-- ITS FALSE NEIGHBOUR: 'it returns false'. Refute it at one input. -/
def callsNoneWrong : ChangeSpec := { name := "callsNone", fn := fun _ => fun
  | [d1, d2] => { results := [.lit (.bool false)], args := [d1, d2] }
  | _ => none }
def CallsNoneWrongFalsely : Prop := callsNoneRow.holds Tryz.pinned (OpenSpec.ofChange callsNoneWrong)

/-- 'vergelaw16.CallsErrors': WHATEVER THE INPUT: true; the input reads as it did. -/
def callsErrorsSpec : ChangeSpec := { name := "callsErrors", fn := fun _ => fun
  | [d1, d2, d3, d4] => { results := [.lit (.bool true)], args := [d1, d2, d3, d4] }
  | _ => none }
def callsErrorsRow : OpenClaim := { program := "ythbjaoinklhikaagreat", sum := "a60fd7666b38a12e75bae57a1c8d3787d3774a26b3f69982d0f6a2ed3ec1d6b7", func := "verge/vergelaw16.CallsErrors", spec := "callsErrors", inPlace := ["math/bits.Add64"], unfollowed := true, recurses := true, apart := false }
def CallsErrorsSaid : Prop := callsErrorsRow.holds Tryz.pinned (OpenSpec.ofChange callsErrorsSpec)

/-- ITS FALSE NEIGHBOUR: 'it returns false'. Refute it at one input. -/
def callsErrorsWrong : ChangeSpec := { name := "callsErrors", fn := fun _ => fun
  | [d1, d2, d3, d4] => { results := [.lit (.bool false)], args := [d1, d2, d3, d4] }
  | _ => none }
def CallsErrorsWrongFalsely : Prop := callsErrorsRow.holds Tryz.pinned (OpenSpec.ofChange callsErrorsWrong)

/-- 'vergelaw16.CallsRefused': WHATEVER THE INPUT: true; the input reads as it did. -/
def callsRefusedSpec : ChangeSpec := { name := "callsRefused", fn := fun _ => fun
  | [d1, d2, d3, d4, d5] => { results := [.lit (.bool true)], args := [d1, d2, d3, d4, d5] }
  | _ => none }
def callsRefusedRow : OpenClaim := { program := "ythbjaoinklhikaagreat", sum := "a60fd7666b38a12e75bae57a1c8d3787d3774a26b3f69982d0f6a2ed3ec1d6b7", func := "verge/vergelaw16.CallsRefused", spec := "callsRefused", inPlace := ["math/bits.Add64"], unfollowed := true, recurses := true, apart := false }
def CallsRefusedSaid : Prop := callsRefusedRow.holds Tryz.pinned (OpenSpec.ofChange callsRefusedSpec)

/-- ITS FALSE NEIGHBOUR: 'it returns false'. Refute it at one input. -/
def callsRefusedWrong : ChangeSpec := { name := "callsRefused", fn := fun _ => fun
  | [d1, d2, d3, d4, d5] => { results := [.lit (.bool false)], args := [d1, d2, d3, d4, d5] }
  | _ => none }
def CallsRefusedWrongFalsely : Prop := callsRefusedRow.holds Tryz.pinned (OpenSpec.ofChange callsRefusedWrong)

/-- 'vergelaw16.CallsGone': WHATEVER THE INPUT: true; the input reads as it did. -/
def callsGoneSpec : ChangeSpec := { name := "callsGone", fn := fun _ => fun
  | [d1, d2, d3, d4] => { results := [.lit (.bool true)], args := [d1, d2, d3, d4] }
  | _ => none }
def callsGoneRow : OpenClaim := { program := "ythbjaoinklhikaagreat", sum := "a60fd7666b38a12e75bae57a1c8d3787d3774a26b3f69982d0f6a2ed3ec1d6b7", func := "verge/vergelaw16.CallsGone", spec := "callsGone", inPlace := ["math/bits.Add64"], unfollowed := true, recurses := true, apart := false }
def CallsGoneSaid : Prop := callsGoneRow.holds Tryz.pinned (OpenSpec.ofChange callsGoneSpec)

/-- ITS FALSE NEIGHBOUR: 'it returns false'. Refute it at one input. -/
def callsGoneWrong : ChangeSpec := { name := "callsGone", fn := fun _ => fun
  | [d1, d2, d3, d4] => { results := [.lit (.bool false)], args := [d1, d2, d3, d4] }
  | _ => none }
def CallsGoneWrongFalsely : Prop := callsGoneRow.holds Tryz.pinned (OpenSpec.ofChange callsGoneWrong)

/-- 'vergelaw16.CallsOnce': WHATEVER THE INPUT: true; the input reads as it did. -/
def callsOnceSpec : ChangeSpec := { name := "callsOnce", fn := fun _ => fun
  | [d1, d2, d3, d4] => { results := [.lit (.bool true)], args := [d1, d2, d3, d4] }
  | _ => none }
def callsOnceRow : OpenClaim := { program := "ythbjaoinklhikaagreat", sum := "a60fd7666b38a12e75bae57a1c8d3787d3774a26b3f69982d0f6a2ed3ec1d6b7", func := "verge/vergelaw16.CallsOnce", spec := "callsOnce", inPlace := ["math/bits.Add64"], unfollowed := true, recurses := true, apart := false }
def CallsOnceSaid : Prop := callsOnceRow.holds Tryz.pinned (OpenSpec.ofChange callsOnceSpec)

/-- ITS FALSE NEIGHBOUR: 'it returns false'. Refute it at one input. -/
def callsOnceWrong : ChangeSpec := { name := "callsOnce", fn := fun _ => fun
  | [d1, d2, d3, d4] => { results := [.lit (.bool false)], args := [d1, d2, d3, d4] }
  | _ => none }
def CallsOnceWrongFalsely : Prop := callsOnceRow.holds Tryz.pinned (OpenSpec.ofChange callsOnceWrong)

/-- 'vergelaw18.ShutNone': WHATEVER THE INPUT: true; the input reads as it did. -/
def shutNoneSpec : ChangeSpec := { name := "shutNone", fn := fun _ => fun
  | [d1, d2] => { results := [.lit (.bool true)], args := [d1, d2] }
  | _ => none }
def shutNoneRow : OpenClaim := { program := "ythbjaoinklhikaagreat", sum := "a60fd7666b38a12e75bae57a1c8d3787d3774a26b3f69982d0f6a2ed3ec1d6b7", func := "verge/vergelaw18.ShutNone", spec := "shutNone", inPlace := ["math/bits.Add64"], unfollowed := true, recurses := true, apart := false }
def ShutNoneSaid : Prop := shutNoneRow.holds Tryz.pinned (OpenSpec.ofChange shutNoneSpec)

/-- ITS FALSE NEIGHBOUR: 'it returns false'. Refute it at one input. -/
def shutNoneWrong : ChangeSpec := { name := "shutNone", fn := fun _ => fun
  | [d1, d2] => { results := [.lit (.bool false)], args := [d1, d2] }
  | _ => none }
def ShutNoneWrongFalsely : Prop := shutNoneRow.holds Tryz.pinned (OpenSpec.ofChange shutNoneWrong)

/-- 'vergelaw17.TurnNone': WHATEVER THE INPUT: true; the input reads as it did. -/
def turnNoneSpec : ChangeSpec := { name := "turnNone", fn := fun _ => fun
  | [d1, d2] => { results := [.lit (.bool true)], args := [d1, d2] }
  | _ => none }
def turnNoneRow : OpenClaim := { program := "ythbjaoinklhikaagreat", sum := "a60fd7666b38a12e75bae57a1c8d3787d3774a26b3f69982d0f6a2ed3ec1d6b7", func := "verge/vergelaw17.TurnNone", spec := "turnNone", inPlace := ["math/bits.Add64"], unfollowed := true, recurses := true, apart := false }
def TurnNoneSaid : Prop := turnNoneRow.holds Tryz.pinned (OpenSpec.ofChange turnNoneSpec)

/-- ITS FALSE NEIGHBOUR: 'it returns false'. Refute it at one input. -/
def turnNoneWrong : ChangeSpec := { name := "turnNone", fn := fun _ => fun
  | [d1, d2] => { results := [.lit (.bool false)], args := [d1, d2] }
  | _ => none }
def TurnNoneWrongFalsely : Prop := turnNoneRow.holds Tryz.pinned (OpenSpec.ofChange turnNoneWrong)

/-- 'vergelaw17.TurnSteps': WHATEVER THE INPUT: true; the input reads as it did. -/
def turnStepsSpec : ChangeSpec := { name := "turnSteps", fn := fun _ => fun
  | [d1, d2] => { results := [.lit (.bool true)], args := [d1, d2] }
  | _ => none }
def turnStepsRow : OpenClaim := { program := "ythbjaoinklhikaagreat", sum := "a60fd7666b38a12e75bae57a1c8d3787d3774a26b3f69982d0f6a2ed3ec1d6b7", func := "verge/vergelaw17.TurnSteps", spec := "turnSteps", inPlace := ["math/bits.Add64"], unfollowed := true, recurses := true, apart := false }
def TurnStepsSaid : Prop := turnStepsRow.holds Tryz.pinned (OpenSpec.ofChange turnStepsSpec)

/-- ITS FALSE NEIGHBOUR: 'it returns false'. Refute it at one input. -/
def turnStepsWrong : ChangeSpec := { name := "turnSteps", fn := fun _ => fun
  | [d1, d2] => { results := [.lit (.bool false)], args := [d1, d2] }
  | _ => none }
def TurnStepsWrongFalsely : Prop := turnStepsRow.holds Tryz.pinned (OpenSpec.ofChange turnStepsWrong)

/-- 'vergelaw17.TurnTaken': WHATEVER THE INPUT: true; the input reads as it did. -/
def turnTakenSpec : ChangeSpec := { name := "turnTaken", fn := fun _ => fun
  | [d1, d2, d3] => { results := [.lit (.bool true)], args := [d1, d2, d3] }
  | _ => none }
def turnTakenRow : OpenClaim := { program := "ythbjaoinklhikaagreat", sum := "a60fd7666b38a12e75bae57a1c8d3787d3774a26b3f69982d0f6a2ed3ec1d6b7", func := "verge/vergelaw17.TurnTaken", spec := "turnTaken", inPlace := ["math/bits.Add64"], unfollowed := true, recurses := true, apart := false }
def TurnTakenSaid : Prop := turnTakenRow.holds Tryz.pinned (OpenSpec.ofChange turnTakenSpec)

/-- ITS FALSE NEIGHBOUR: 'it returns false'. Refute it at one input. -/
def turnTakenWrong : ChangeSpec := { name := "turnTaken", fn := fun _ => fun
  | [d1, d2, d3] => { results := [.lit (.bool false)], args := [d1, d2, d3] }
  | _ => none }
def TurnTakenWrongFalsely : Prop := turnTakenRow.holds Tryz.pinned (OpenSpec.ofChange turnTakenWrong)

/- THE SECOND FORM. 'bulk': how many values and letters a reading holds, each counted each time it is reached (what is shared counts as often as it is met; a slice's spare places count too). A statement '..UptoSaid' is the law's where the arguments, and the package variables that the reading takes, are together of bulk at most 1048576: NARROWER than '..Said'. Prove '..Said' where nothing that the law and all that it calls make is longer than what came in: it says more and counts as full. Else prove '..UptoSaid'. A law counts once. -/
mutual
def uptoBulk {H : Type} : DataW H → Nat
  | .lit (.string bytes) => bytes.length + 1
  | .lit _ => 1
  | .nil => 1
  | .ptr d => uptoBulk d + 1
  | .slice elems spare => uptoBulkAll elems + uptoBulkAll spare + 1
  | .agg parts => uptoBulkAll parts + 1
  | .iface _ d => uptoBulk d + 1
  | .map entries => uptoBulkEntries entries + 1
  | .held _ => 1
def uptoBulkAll {H : Type} : List (DataW H) → Nat
  | [] => 0
  | d :: r => uptoBulk d + uptoBulkAll r
def uptoBulkEntries {H : Type} : List (Lit × DataW H) → Nat
  | [] => 0
  | x :: r => uptoBulkEntry x + uptoBulkEntries r
def uptoBulkEntry {H : Type} : Lit × DataW H → Nat
  | (.string bytes, d) => bytes.length + uptoBulk d + 1
  | (_, d) => uptoBulk d + 1
 end
def uptoSmall : (H : Type) → List (DataW H) → Bool := fun _ ds => decide (uptoBulkAll ds ≤ 1048576)
def OpenSpec.upto (s : _root_.Go.ChangeSpec) : _root_.Go.OpenSpec := { _root_.Go.OpenSpec.ofChange s with cond := some uptoSmall }

/-- 'vergelaw16.CallsNone', WHERE WHAT IT READS IS OF BULK AT MOST 1048576: true; the input reads as it did. -/
def callsNoneUptoRow : OpenClaim := { program := "ythbjaoinklhikaagreat", sum := "a60fd7666b38a12e75bae57a1c8d3787d3774a26b3f69982d0f6a2ed3ec1d6b7", func := "verge/vergelaw16.CallsNone", spec := "callsNone", inPlace := ["math/bits.Add64"], unfollowed := true, recurses := true, apart := false, narrowed := true }
def CallsNoneUptoSaid : Prop := callsNoneUptoRow.holds Tryz.pinned (OpenSpec.upto callsNoneSpec)

/-- 'vergelaw16.CallsErrors', WHERE WHAT IT READS IS OF BULK AT MOST 1048576: true; the input reads as it did. -/
def callsErrorsUptoRow : OpenClaim := { program := "ythbjaoinklhikaagreat", sum := "a60fd7666b38a12e75bae57a1c8d3787d3774a26b3f69982d0f6a2ed3ec1d6b7", func := "verge/vergelaw16.CallsErrors", spec := "callsErrors", inPlace := ["math/bits.Add64"], unfollowed := true, recurses := true, apart := false, narrowed := true }
def CallsErrorsUptoSaid : Prop := callsErrorsUptoRow.holds Tryz.pinned (OpenSpec.upto callsErrorsSpec)

/-- 'vergelaw16.CallsRefused', WHERE WHAT IT READS IS OF BULK AT MOST 1048576: true; the input reads as it did. -/
def callsRefusedUptoRow : OpenClaim := { program := "ythbjaoinklhikaagreat", sum := "a60fd7666b38a12e75bae57a1c8d3787d3774a26b3f69982d0f6a2ed3ec1d6b7", func := "verge/vergelaw16.CallsRefused", spec := "callsRefused", inPlace := ["math/bits.Add64"], unfollowed := true, recurses := true, apart := false, narrowed := true }
def CallsRefusedUptoSaid : Prop := callsRefusedUptoRow.holds Tryz.pinned (OpenSpec.upto callsRefusedSpec)

/-- 'vergelaw16.CallsGone', WHERE WHAT IT READS IS OF BULK AT MOST 1048576: true; the input reads as it did. -/
def callsGoneUptoRow : OpenClaim := { program := "ythbjaoinklhikaagreat", sum := "a60fd7666b38a12e75bae57a1c8d3787d3774a26b3f69982d0f6a2ed3ec1d6b7", func := "verge/vergelaw16.CallsGone", spec := "callsGone", inPlace := ["math/bits.Add64"], unfollowed := true, recurses := true, apart := false, narrowed := true }
def CallsGoneUptoSaid : Prop := callsGoneUptoRow.holds Tryz.pinned (OpenSpec.upto callsGoneSpec)

/-- 'vergelaw16.CallsOnce', WHERE WHAT IT READS IS OF BULK AT MOST 1048576: true; the input reads as it did. -/
def callsOnceUptoRow : OpenClaim := { program := "ythbjaoinklhikaagreat", sum := "a60fd7666b38a12e75bae57a1c8d3787d3774a26b3f69982d0f6a2ed3ec1d6b7", func := "verge/vergelaw16.CallsOnce", spec := "callsOnce", inPlace := ["math/bits.Add64"], unfollowed := true, recurses := true, apart := false, narrowed := true }
def CallsOnceUptoSaid : Prop := callsOnceUptoRow.holds Tryz.pinned (OpenSpec.upto callsOnceSpec)

/-- 'vergelaw18.ShutNone', WHERE WHAT IT READS IS OF BULK AT MOST 1048576: true; the input reads as it did. -/
def shutNoneUptoRow : OpenClaim := { program := "ythbjaoinklhikaagreat", sum := "a60fd7666b38a12e75bae57a1c8d3787d3774a26b3f69982d0f6a2ed3ec1d6b7", func := "verge/vergelaw18.ShutNone", spec := "shutNone", inPlace := ["math/bits.Add64"], unfollowed := true, recurses := true, apart := false, narrowed := true }
def ShutNoneUptoSaid : Prop := shutNoneUptoRow.holds Tryz.pinned (OpenSpec.upto shutNoneSpec)

/-- 'vergelaw17.TurnNone', WHERE WHAT IT READS IS OF BULK AT MOST 1048576: true; the input reads as it did. -/
def turnNoneUptoRow : OpenClaim := { program := "ythbjaoinklhikaagreat", sum := "a60fd7666b38a12e75bae57a1c8d3787d3774a26b3f69982d0f6a2ed3ec1d6b7", func := "verge/vergelaw17.TurnNone", spec := "turnNone", inPlace := ["math/bits.Add64"], unfollowed := true, recurses := true, apart := false, narrowed := true }
def TurnNoneUptoSaid : Prop := turnNoneUptoRow.holds Tryz.pinned (OpenSpec.upto turnNoneSpec)

/-- 'vergelaw17.TurnSteps', WHERE WHAT IT READS IS OF BULK AT MOST 1048576: true; the input reads as it did. -/
def turnStepsUptoRow : OpenClaim := { program := "ythbjaoinklhikaagreat", sum := "a60fd7666b38a12e75bae57a1c8d3787d3774a26b3f69982d0f6a2ed3ec1d6b7", func := "verge/vergelaw17.TurnSteps", spec := "turnSteps", inPlace := ["math/bits.Add64"], unfollowed := true, recurses := true, apart := false, narrowed := true }
def TurnStepsUptoSaid : Prop := turnStepsUptoRow.holds Tryz.pinned (OpenSpec.upto turnStepsSpec)

/-- 'vergelaw17.TurnTaken', WHERE WHAT IT READS IS OF BULK AT MOST 1048576: true; the input reads as it did. -/
def turnTakenUptoRow : OpenClaim := { program := "ythbjaoinklhikaagreat", sum := "a60fd7666b38a12e75bae57a1c8d3787d3774a26b3f69982d0f6a2ed3ec1d6b7", func := "verge/vergelaw17.TurnTaken", spec := "turnTaken", inPlace := ["math/bits.Add64"], unfollowed := true, recurses := true, apart := false, narrowed := true }
def TurnTakenUptoSaid : Prop := turnTakenUptoRow.holds Tryz.pinned (OpenSpec.upto turnTakenSpec)

end Rows
end Go.Proofs.YthbjaoinklhikaaGreat
