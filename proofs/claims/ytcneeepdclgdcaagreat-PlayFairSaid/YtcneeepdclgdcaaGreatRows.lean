/-
  No cell of these rows narrows 'for every input' (looked for: loops, veiled, ifaces, maps, wideKeys, modest, calm, conditions, laid).
  DERIVED. THE GIVEN ROWS OF THIS SEAT. 9 by the template 'for every input the law returns true; each argument reads behind the call as it read before'; 0 by the template 'total and deterministic' (their statements: YtcneeepdclgdcaaGreatTotals.lean).
  GIVEN WITH THE SEED: the statements are not yours to turn. If you find one false, say at which input.
  Laid BY PROGRAM, IN A SANDBOX (cutbox-rows.mjs): the forced cells as the released guide's own fill.sh prints them over the translation b1628f4479f65ed7… (all of the seat's roots in one cut). By AI agents, Wed Nov 11 2026. No macro, syntax, notation, axiom, sorry.
-/
import Derived.Test.YtcneeepdclgdcaaGreatChecked
import GoSem.Claim
import GoSem.ClaimJoined
import GoSem.ClaimMapViews
import Derived.JoinedTies
import Derived.KernelRfl
namespace Go.Proofs.YtcneeepdclgdcaaGreat
/- THE CELL 'sum', in the pinned program and in every row, IS THE sha256 OF THE DUMP (.gsa) THAT YtcneeepdclgdcaaGreatProg.lean LOADS. Nothing in Lean hashes anything: it is a label: what it is worth is what the hold of that sum in a sandbox is worth. -/
noncomputable def Tryz.pinned : Pinned := { name := "ytcneeepdclgdcaagreat", sum := "b1628f4479f65ed7c3e6b12edd43d26b51b60d7bcba9dfda18c36160a869b047", checked := Tryz.checked }
namespace Rows
def none {H : Type} : Left H := { results := [], args := [] }

/-- 'vergelaw16.CallsOnce': WHATEVER THE INPUT: true; the input reads as it did. -/
def callsOnceSpec : ChangeSpec := { name := "callsOnce", fn := fun _ => fun
  | [d1, d2, d3, d4] => { results := [.lit (.bool true)], args := [d1, d2, d3, d4] }
  | _ => none }
def callsOnceRow : OpenClaim := { program := "ytcneeepdclgdcaagreat", sum := "b1628f4479f65ed7c3e6b12edd43d26b51b60d7bcba9dfda18c36160a869b047", func := "verge/vergelaw16.CallsOnce", spec := "callsOnce", inPlace := ["math/bits.Add64"], unfollowed := true, recurses := true, plainKeys := false, apart := false }
def CallsOnceSaid : Prop := callsOnceRow.holds Tryz.pinned (OpenSpec.ofChange callsOnceSpec)

/-- ITS FALSE NEIGHBOUR: 'it returns false'. Refute it at one input. -/
def callsOnceWrong : ChangeSpec := { name := "callsOnce", fn := fun _ => fun
  | [d1, d2, d3, d4] => { results := [.lit (.bool false)], args := [d1, d2, d3, d4] }
  | _ => none }
def CallsOnceWrongFalsely : Prop := callsOnceRow.holds Tryz.pinned (OpenSpec.ofChange callsOnceWrong)

/-- 'vergelaw17.TurnExact': WHATEVER THE INPUT: true; the input reads as it did. -/
def turnExactSpec : ChangeSpec := { name := "turnExact", fn := fun _ => fun
  | [d1, d2, d3] => { results := [.lit (.bool true)], args := [d1, d2, d3] }
  | _ => none }
def turnExactRow : OpenClaim := { program := "ytcneeepdclgdcaagreat", sum := "b1628f4479f65ed7c3e6b12edd43d26b51b60d7bcba9dfda18c36160a869b047", func := "verge/vergelaw17.TurnExact", spec := "turnExact", inPlace := ["math/bits.Add64"], unfollowed := true, recurses := true, plainKeys := false, apart := false }
def TurnExactSaid : Prop := turnExactRow.holds Tryz.pinned (OpenSpec.ofChange turnExactSpec)

/-- ITS FALSE NEIGHBOUR: 'it returns false'. Refute it at one input. -/
def turnExactWrong : ChangeSpec := { name := "turnExact", fn := fun _ => fun
  | [d1, d2, d3] => { results := [.lit (.bool false)], args := [d1, d2, d3] }
  | _ => none }
def TurnExactWrongFalsely : Prop := turnExactRow.holds Tryz.pinned (OpenSpec.ofChange turnExactWrong)

/-- 'vergelaw17.TurnArmed': WHATEVER THE INPUT: true; the input reads as it did. -/
def turnArmedSpec : ChangeSpec := { name := "turnArmed", fn := fun _ => fun
  | [d1, d2, d3] => { results := [.lit (.bool true)], args := [d1, d2, d3] }
  | _ => none }
def turnArmedRow : OpenClaim := { program := "ytcneeepdclgdcaagreat", sum := "b1628f4479f65ed7c3e6b12edd43d26b51b60d7bcba9dfda18c36160a869b047", func := "verge/vergelaw17.TurnArmed", spec := "turnArmed", inPlace := ["math/bits.Add64"], unfollowed := true, recurses := true, plainKeys := false, apart := false }
def TurnArmedSaid : Prop := turnArmedRow.holds Tryz.pinned (OpenSpec.ofChange turnArmedSpec)

/-- ITS FALSE NEIGHBOUR: 'it returns false'. Refute it at one input. -/
def turnArmedWrong : ChangeSpec := { name := "turnArmed", fn := fun _ => fun
  | [d1, d2, d3] => { results := [.lit (.bool false)], args := [d1, d2, d3] }
  | _ => none }
def TurnArmedWrongFalsely : Prop := turnArmedRow.holds Tryz.pinned (OpenSpec.ofChange turnArmedWrong)

/-- 'vergelaw17.TurnTaken': WHATEVER THE INPUT: true; the input reads as it did. -/
def turnTakenSpec : ChangeSpec := { name := "turnTaken", fn := fun _ => fun
  | [d1, d2, d3] => { results := [.lit (.bool true)], args := [d1, d2, d3] }
  | _ => none }
def turnTakenRow : OpenClaim := { program := "ytcneeepdclgdcaagreat", sum := "b1628f4479f65ed7c3e6b12edd43d26b51b60d7bcba9dfda18c36160a869b047", func := "verge/vergelaw17.TurnTaken", spec := "turnTaken", inPlace := ["math/bits.Add64"], unfollowed := true, recurses := true, plainKeys := false, apart := false }
def TurnTakenSaid : Prop := turnTakenRow.holds Tryz.pinned (OpenSpec.ofChange turnTakenSpec)

/-- ITS FALSE NEIGHBOUR: 'it returns false'. Refute it at one input. -/
def turnTakenWrong : ChangeSpec := { name := "turnTaken", fn := fun _ => fun
  | [d1, d2, d3] => { results := [.lit (.bool false)], args := [d1, d2, d3] }
  | _ => none }
def TurnTakenWrongFalsely : Prop := turnTakenRow.holds Tryz.pinned (OpenSpec.ofChange turnTakenWrong)

/-- 'vergelaw18.ShutLeft': WHATEVER THE INPUT: true; the input reads as it did. -/
def shutLeftSpec : ChangeSpec := { name := "shutLeft", fn := fun _ => fun
  | [d1, d2, d3] => { results := [.lit (.bool true)], args := [d1, d2, d3] }
  | _ => none }
def shutLeftRow : OpenClaim := { program := "ytcneeepdclgdcaagreat", sum := "b1628f4479f65ed7c3e6b12edd43d26b51b60d7bcba9dfda18c36160a869b047", func := "verge/vergelaw18.ShutLeft", spec := "shutLeft", inPlace := ["math/bits.Add64"], unfollowed := true, recurses := true, plainKeys := false, apart := false }
def ShutLeftSaid : Prop := shutLeftRow.holds Tryz.pinned (OpenSpec.ofChange shutLeftSpec)

/-- ITS FALSE NEIGHBOUR: 'it returns false'. Refute it at one input. -/
def shutLeftWrong : ChangeSpec := { name := "shutLeft", fn := fun _ => fun
  | [d1, d2, d3] => { results := [.lit (.bool false)], args := [d1, d2, d3] }
  | _ => none }
def ShutLeftWrongFalsely : Prop := shutLeftRow.holds Tryz.pinned (OpenSpec.ofChange shutLeftWrong)

/-- 'vergelaw18.ShutOnce': WHATEVER THE INPUT: true; the input reads as it did. -/
def shutOnceSpec : ChangeSpec := { name := "shutOnce", fn := fun _ => fun
  | [d1, d2, d3] => { results := [.lit (.bool true)], args := [d1, d2, d3] }
  | _ => none }
def shutOnceRow : OpenClaim := { program := "ytcneeepdclgdcaagreat", sum := "b1628f4479f65ed7c3e6b12edd43d26b51b60d7bcba9dfda18c36160a869b047", func := "verge/vergelaw18.ShutOnce", spec := "shutOnce", inPlace := ["math/bits.Add64"], unfollowed := true, recurses := true, plainKeys := false, apart := false }
def ShutOnceSaid : Prop := shutOnceRow.holds Tryz.pinned (OpenSpec.ofChange shutOnceSpec)

/-- ITS FALSE NEIGHBOUR: 'it returns false'. Refute it at one input. -/
def shutOnceWrong : ChangeSpec := { name := "shutOnce", fn := fun _ => fun
  | [d1, d2, d3] => { results := [.lit (.bool false)], args := [d1, d2, d3] }
  | _ => none }
def ShutOnceWrongFalsely : Prop := shutOnceRow.holds Tryz.pinned (OpenSpec.ofChange shutOnceWrong)

/-- 'vergelaw20.ServiceEnds': WHATEVER THE INPUT: true; the input reads as it did. -/
def serviceEndsSpec : ChangeSpec := { name := "serviceEnds", fn := fun _ => fun
  | [d1, d2, d3, d4] => { results := [.lit (.bool true)], args := [d1, d2, d3, d4] }
  | _ => none }
def serviceEndsRow : OpenClaim := { program := "ytcneeepdclgdcaagreat", sum := "b1628f4479f65ed7c3e6b12edd43d26b51b60d7bcba9dfda18c36160a869b047", func := "verge/vergelaw20.ServiceEnds", spec := "serviceEnds", inPlace := ["math/bits.Add64"], unfollowed := true, recurses := true, plainKeys := false, apart := false }
def ServiceEndsSaid : Prop := serviceEndsRow.holds Tryz.pinned (OpenSpec.ofChange serviceEndsSpec)

/-- ITS FALSE NEIGHBOUR: 'it returns false'. Refute it at one input. -/
def serviceEndsWrong : ChangeSpec := { name := "serviceEnds", fn := fun _ => fun
  | [d1, d2, d3, d4] => { results := [.lit (.bool false)], args := [d1, d2, d3, d4] }
  | _ => none }
def ServiceEndsWrongFalsely : Prop := serviceEndsRow.holds Tryz.pinned (OpenSpec.ofChange serviceEndsWrong)

/-- 'vergelaw23.PlayFair': WHATEVER THE INPUT: true; the input reads as it did. -/
def playFairSpec : ChangeSpec := { name := "playFair", fn := fun _ => fun
  | [d1, d2, d3] => { results := [.lit (.bool true)], args := [d1, d2, d3] }
  | _ => none }
def playFairRow : OpenClaim := { program := "ytcneeepdclgdcaagreat", sum := "b1628f4479f65ed7c3e6b12edd43d26b51b60d7bcba9dfda18c36160a869b047", func := "verge/vergelaw23.PlayFair", spec := "playFair", inPlace := ["math/bits.Add64"], unfollowed := true, recurses := true, plainKeys := false, apart := false }
def PlayFairSaid : Prop := playFairRow.holds Tryz.pinned (OpenSpec.ofChange playFairSpec)

/-- ITS FALSE NEIGHBOUR: 'it returns false'. Refute it at one input. -/
def playFairWrong : ChangeSpec := { name := "playFair", fn := fun _ => fun
  | [d1, d2, d3] => { results := [.lit (.bool false)], args := [d1, d2, d3] }
  | _ => none }
def PlayFairWrongFalsely : Prop := playFairRow.holds Tryz.pinned (OpenSpec.ofChange playFairWrong)

/-- 'vergelaw23.PlayDrains': WHATEVER THE INPUT: true; the input reads as it did. -/
def playDrainsSpec : ChangeSpec := { name := "playDrains", fn := fun _ => fun
  | [d1, d2, d3, d4] => { results := [.lit (.bool true)], args := [d1, d2, d3, d4] }
  | _ => none }
def playDrainsRow : OpenClaim := { program := "ytcneeepdclgdcaagreat", sum := "b1628f4479f65ed7c3e6b12edd43d26b51b60d7bcba9dfda18c36160a869b047", func := "verge/vergelaw23.PlayDrains", spec := "playDrains", inPlace := ["math/bits.Add64"], unfollowed := true, recurses := true, plainKeys := false, apart := false }
def PlayDrainsSaid : Prop := playDrainsRow.holds Tryz.pinned (OpenSpec.ofChange playDrainsSpec)

/-- ITS FALSE NEIGHBOUR: 'it returns false'. Refute it at one input. -/
def playDrainsWrong : ChangeSpec := { name := "playDrains", fn := fun _ => fun
  | [d1, d2, d3, d4] => { results := [.lit (.bool false)], args := [d1, d2, d3, d4] }
  | _ => none }
def PlayDrainsWrongFalsely : Prop := playDrainsRow.holds Tryz.pinned (OpenSpec.ofChange playDrainsWrong)

/- THE SECOND FORM. 'bulk': how many values and letters a reading holds, each counted each time it is reached (what is shared counts as often as it is met; a slice's spare places count too). A statement '..UptoSaid' is the law's where the arguments, and the package variables that the reading takes, are together of bulk at most 1048576: NARROWER than '..Said'. Prove '..Said' where nothing that the law and all that it calls make is longer than what came in: it says more and counts as full. Else prove '..UptoSaid'. A law counts once. -/
mutual
def uptoBulk {H : Type} : DataW H → Nat
  | .lit (.string bytes) => bytes.length + 1
  | .lit _ => 1
  | .nil => 1
  | .ptr d => uptoBulk d + 1
  | .slice elems spare => uptoBulkAll elems + uptoBulkAll spare + 1
  | .agg parts => uptoBulkAll parts + 1
  | .iface _ d => uptoBulk d + 1
  | .map entries => uptoBulkEntries entries + 1
  | .held _ => 1
def uptoBulkAll {H : Type} : List (DataW H) → Nat
  | [] => 0
  | d :: r => uptoBulk d + uptoBulkAll r
def uptoBulkEntries {H : Type} : List (Lit × DataW H) → Nat
  | [] => 0
  | x :: r => uptoBulkEntry x + uptoBulkEntries r
def uptoBulkEntry {H : Type} : Lit × DataW H → Nat
  | (.string bytes, d) => bytes.length + uptoBulk d + 1
  | (_, d) => uptoBulk d + 1
 end
def uptoSmall : (H : Type) → List (DataW H) → Bool := fun _ ds => decide (uptoBulkAll ds ≤ 1048576)
def OpenSpec.upto (s : _root_.Go.ChangeSpec) : _root_.Go.OpenSpec := { _root_.Go.OpenSpec.ofChange s with cond := some uptoSmall }

/-- 'vergelaw16.CallsOnce', WHERE WHAT IT READS IS OF BULK AT MOST 1048576: true; the input reads as it did. -/
def callsOnceUptoRow : OpenClaim := { program := "ytcneeepdclgdcaagreat", sum := "b1628f4479f65ed7c3e6b12edd43d26b51b60d7bcba9dfda18c36160a869b047", func := "verge/vergelaw16.CallsOnce", spec := "callsOnce", inPlace := ["math/bits.Add64"], unfollowed := true, recurses := true, plainKeys := false, apart := false, narrowed := true }
def CallsOnceUptoSaid : Prop := callsOnceUptoRow.holds Tryz.pinned (OpenSpec.upto callsOnceSpec)

/-- 'vergelaw17.TurnExact', WHERE WHAT IT READS IS OF BULK AT MOST 1048576: true; the input reads as it did. -/
def turnExactUptoRow : OpenClaim := { program := "ytcneeepdclgdcaagreat", sum := "b1628f4479f65ed7c3e6b12edd43d26b51b60d7bcba9dfda18c36160a869b047", func := "verge/vergelaw17.TurnExact", spec := "turnExact", inPlace := ["math/bits.Add64"], unfollowed := true, recurses := true, plainKeys := false, apart := false, narrowed := true }
def TurnExactUptoSaid : Prop := turnExactUptoRow.holds Tryz.pinned (OpenSpec.upto turnExactSpec)

/-- 'vergelaw17.TurnArmed', WHERE WHAT IT READS IS OF BULK AT MOST 1048576: true; the input reads as it did. -/
def turnArmedUptoRow : OpenClaim := { program := "ytcneeepdclgdcaagreat", sum := "b1628f4479f65ed7c3e6b12edd43d26b51b60d7bcba9dfda18c36160a869b047", func := "verge/vergelaw17.TurnArmed", spec := "turnArmed", inPlace := ["math/bits.Add64"], unfollowed := true, recurses := true, plainKeys := false, apart := false, narrowed := true }
def TurnArmedUptoSaid : Prop := turnArmedUptoRow.holds Tryz.pinned (OpenSpec.upto turnArmedSpec)

/-- 'vergelaw17.TurnTaken', WHERE WHAT IT READS IS OF BULK AT MOST 1048576: true; the input reads as it did. -/
def turnTakenUptoRow : OpenClaim := { program := "ytcneeepdclgdcaagreat", sum := "b1628f4479f65ed7c3e6b12edd43d26b51b60d7bcba9dfda18c36160a869b047", func := "verge/vergelaw17.TurnTaken", spec := "turnTaken", inPlace := ["math/bits.Add64"], unfollowed := true, recurses := true, plainKeys := false, apart := false, narrowed := true }
def TurnTakenUptoSaid : Prop := turnTakenUptoRow.holds Tryz.pinned (OpenSpec.upto turnTakenSpec)

/-- 'vergelaw18.ShutLeft', WHERE WHAT IT READS IS OF BULK AT MOST 1048576: true; the input reads as it did. -/
def shutLeftUptoRow : OpenClaim := { program := "ytcneeepdclgdcaagreat", sum := "b1628f4479f65ed7c3e6b12edd43d26b51b60d7bcba9dfda18c36160a869b047", func := "verge/vergelaw18.ShutLeft", spec := "shutLeft", inPlace := ["math/bits.Add64"], unfollowed := true, recurses := true, plainKeys := false, apart := false, narrowed := true }
def ShutLeftUptoSaid : Prop := shutLeftUptoRow.holds Tryz.pinned (OpenSpec.upto shutLeftSpec)

/-- 'vergelaw18.ShutOnce', WHERE WHAT IT READS IS OF BULK AT MOST 1048576: true; the input reads as it did. -/
def shutOnceUptoRow : OpenClaim := { program := "ytcneeepdclgdcaagreat", sum := "b1628f4479f65ed7c3e6b12edd43d26b51b60d7bcba9dfda18c36160a869b047", func := "verge/vergelaw18.ShutOnce", spec := "shutOnce", inPlace := ["math/bits.Add64"], unfollowed := true, recurses := true, plainKeys := false, apart := false, narrowed := true }
def ShutOnceUptoSaid : Prop := shutOnceUptoRow.holds Tryz.pinned (OpenSpec.upto shutOnceSpec)

/-- 'vergelaw20.ServiceEnds', WHERE WHAT IT READS IS OF BULK AT MOST 1048576: true; the input reads as it did. -/
def serviceEndsUptoRow : OpenClaim := { program := "ytcneeepdclgdcaagreat", sum := "b1628f4479f65ed7c3e6b12edd43d26b51b60d7bcba9dfda18c36160a869b047", func := "verge/vergelaw20.ServiceEnds", spec := "serviceEnds", inPlace := ["math/bits.Add64"], unfollowed := true, recurses := true, plainKeys := false, apart := false, narrowed := true }
def ServiceEndsUptoSaid : Prop := serviceEndsUptoRow.holds Tryz.pinned (OpenSpec.upto serviceEndsSpec)

/-- 'vergelaw23.PlayFair', WHERE WHAT IT READS IS OF BULK AT MOST 1048576: true; the input reads as it did. -/
def playFairUptoRow : OpenClaim := { program := "ytcneeepdclgdcaagreat", sum := "b1628f4479f65ed7c3e6b12edd43d26b51b60d7bcba9dfda18c36160a869b047", func := "verge/vergelaw23.PlayFair", spec := "playFair", inPlace := ["math/bits.Add64"], unfollowed := true, recurses := true, plainKeys := false, apart := false, narrowed := true }
def PlayFairUptoSaid : Prop := playFairUptoRow.holds Tryz.pinned (OpenSpec.upto playFairSpec)

/-- 'vergelaw23.PlayDrains', WHERE WHAT IT READS IS OF BULK AT MOST 1048576: true; the input reads as it did. -/
def playDrainsUptoRow : OpenClaim := { program := "ytcneeepdclgdcaagreat", sum := "b1628f4479f65ed7c3e6b12edd43d26b51b60d7bcba9dfda18c36160a869b047", func := "verge/vergelaw23.PlayDrains", spec := "playDrains", inPlace := ["math/bits.Add64"], unfollowed := true, recurses := true, plainKeys := false, apart := false, narrowed := true }
def PlayDrainsUptoSaid : Prop := playDrainsUptoRow.holds Tryz.pinned (OpenSpec.upto playDrainsSpec)

end Rows
end Go.Proofs.YtcneeepdclgdcaaGreat
