/-
  No cell of these rows narrows 'for every input' (looked for: loops, veiled, ifaces, maps, wideKeys, modest, calm, conditions, laid).
  DERIVED. THE GIVEN ROWS OF THIS SEAT. 7 by the template 'for every input the law returns true; each argument reads behind the call as it read before'; 0 by the template 'total and deterministic' (their statements: YtikpbibeagbccaaGreatTotals.lean).
  GIVEN WITH THE SEED: the statements are not yours to turn. If you find one false, say at which input.
  Laid BY PROGRAM, IN A SANDBOX (cutbox-rows.mjs): the forced cells as the released guide's own fill.sh prints them over the translation a6852f37de4fd935… (all of the seat's roots in one cut). By AI agents, Wed Nov 11 2026. No macro, syntax, notation, axiom, sorry.
-/
import Derived.Test.YtikpbibeagbccaaGreatChecked
import GoSem.Claim
import GoSem.ClaimJoined
import GoSem.ClaimMapViews
import Derived.JoinedTies
import Derived.KernelRfl
namespace Go.Proofs.YtikpbibeagbccaaGreat
/- THE CELL 'sum', in the pinned program and in every row, IS THE sha256 OF THE DUMP (.gsa) THAT YtikpbibeagbccaaGreatProg.lean LOADS. Nothing in Lean hashes anything: it is a label: what it is worth is what the hold of that sum in a sandbox is worth. -/
noncomputable def Tryz.pinned : Pinned := { name := "ytikpbibeagbccaagreat", sum := "a6852f37de4fd93528b14f4a5aa024a66f4d56ca6144852292aad633ec44b64d", checked := Tryz.checked }
namespace Rows
def none {H : Type} : Left H := { results := [], args := [] }

/-- 'vergelaw20.ServiceGoes': WHATEVER THE INPUT: true; the input reads as it did. -/
def serviceGoesSpec : ChangeSpec := { name := "serviceGoes", fn := fun _ => fun
  | [d1, d2, d3] => { results := [.lit (.bool true)], args := [d1, d2, d3] }
  | _ => none }
def serviceGoesRow : OpenClaim := { program := "ytikpbibeagbccaagreat", sum := "a6852f37de4fd93528b14f4a5aa024a66f4d56ca6144852292aad633ec44b64d", func := "verge/vergelaw20.ServiceGoes", spec := "serviceGoes", inPlace := ["math/bits.Add64"], unfollowed := true, recurses := true, apart := false }
def ServiceGoesSaid : Prop := serviceGoesRow.holds Tryz.pinned (OpenSpec.ofChange serviceGoesSpec)

/-- ITS FALSE NEIGHBOUR: 'it returns false'. Refute it at one input. -/
def serviceGoesWrong : ChangeSpec := { name := "serviceGoes", fn := fun _ => fun
  | [d1, d2, d3] => { results := [.lit (.bool false)], args := [d1, d2, d3] }
  | _ => none }
def ServiceGoesWrongFalsely : Prop := serviceGoesRow.holds Tryz.pinned (OpenSpec.ofChange serviceGoesWrong)

/-- 'vergelaw20.ServiceEnds': WHATEVER THE INPUT: true; the input reads as it did. -/
def serviceEndsSpec : ChangeSpec := { name := "serviceEnds", fn := fun _ => fun
  | [d1, d2, d3, d4] => { results := [.lit (.bool true)], args := [d1, d2, d3, d4] }
  | _ => none }
def serviceEndsRow : OpenClaim := { program := "ytikpbibeagbccaagreat", sum := "a6852f37de4fd93528b14f4a5aa024a66f4d56ca6144852292aad633ec44b64d", func := "verge/vergelaw20.ServiceEnds", spec := "serviceEnds", inPlace := ["math/bits.Add64"], unfollowed := true, recurses := true, apart := false }
def ServiceEndsSaid : Prop := serviceEndsRow.holds Tryz.pinned (OpenSpec.ofChange serviceEndsSpec)

/-- ITS FALSE NEIGHBOUR: 'it returns false'. Refute it at one input. -/
def serviceEndsWrong : ChangeSpec := { name := "serviceEnds", fn := fun _ => fun
  | [d1, d2, d3, d4] => { results := [.lit (.bool false)], args := [d1, d2, d3, d4] }
  | _ => none }
def ServiceEndsWrongFalsely : Prop := serviceEndsRow.holds Tryz.pinned (OpenSpec.ofChange serviceEndsWrong)

/-- 'vergelaw23.PlayNone': WHATEVER THE INPUT: true; the input reads as it did. -/
def playNoneSpec : ChangeSpec := { name := "playNone", fn := fun _ => fun
  | [d1, d2] => { results := [.lit (.bool true)], args := [d1, d2] }
  | _ => none }
def playNoneRow : OpenClaim := { program := "ytikpbibeagbccaagreat", sum := "a6852f37de4fd93528b14f4a5aa024a66f4d56ca6144852292aad633ec44b64d", func := "verge/vergelaw23.PlayNone", spec := "playNone", inPlace := ["math/bits.Add64"], unfollowed := true, recurses := true, apart := false }
def PlayNoneSaid : Prop := playNoneRow.holds Tryz.pinned (OpenSpec.ofChange playNoneSpec)

/-- ITS FALSE NEIGHBOUR: 'it returns false'. Refute it at one input. -/
def playNoneWrong : ChangeSpec := { name := "playNone", fn := fun _ => fun
  | [d1, d2] => { results := [.lit (.bool false)], args := [d1, d2] }
  | _ => none }
def PlayNoneWrongFalsely : Prop := playNoneRow.holds Tryz.pinned (OpenSpec.ofChange playNoneWrong)

/-- 'vergelaw23.PlayParts': WHATEVER THE INPUT: true; the input reads as it did. -/
def playPartsSpec : ChangeSpec := { name := "playParts", fn := fun _ => fun
  | [d1, d2, d3, d4] => { results := [.lit (.bool true)], args := [d1, d2, d3, d4] }
  | _ => none }
def playPartsRow : OpenClaim := { program := "ytikpbibeagbccaagreat", sum := "a6852f37de4fd93528b14f4a5aa024a66f4d56ca6144852292aad633ec44b64d", func := "verge/vergelaw23.PlayParts", spec := "playParts", inPlace := ["math/bits.Add64"], unfollowed := true, recurses := true, apart := false }
def PlayPartsSaid : Prop := playPartsRow.holds Tryz.pinned (OpenSpec.ofChange playPartsSpec)

/-- ITS FALSE NEIGHBOUR: 'it returns false'. Refute it at one input. -/
def playPartsWrong : ChangeSpec := { name := "playParts", fn := fun _ => fun
  | [d1, d2, d3, d4] => { results := [.lit (.bool false)], args := [d1, d2, d3, d4] }
  | _ => none }
def PlayPartsWrongFalsely : Prop := playPartsRow.holds Tryz.pinned (OpenSpec.ofChange playPartsWrong)

/-- 'vergelaw23.PlayRounds': WHATEVER THE INPUT: true; the input reads as it did. -/
def playRoundsSpec : ChangeSpec := { name := "playRounds", fn := fun _ => fun
  | [d1, d2, d3, d4, d5] => { results := [.lit (.bool true)], args := [d1, d2, d3, d4, d5] }
  | _ => none }
def playRoundsRow : OpenClaim := { program := "ytikpbibeagbccaagreat", sum := "a6852f37de4fd93528b14f4a5aa024a66f4d56ca6144852292aad633ec44b64d", func := "verge/vergelaw23.PlayRounds", spec := "playRounds", inPlace := ["math/bits.Add64"], unfollowed := true, recurses := true, apart := false }
def PlayRoundsSaid : Prop := playRoundsRow.holds Tryz.pinned (OpenSpec.ofChange playRoundsSpec)

/-- ITS FALSE NEIGHBOUR: 'it returns false'. Refute it at one input. -/
def playRoundsWrong : ChangeSpec := { name := "playRounds", fn := fun _ => fun
  | [d1, d2, d3, d4, d5] => { results := [.lit (.bool false)], args := [d1, d2, d3, d4, d5] }
  | _ => none }
def PlayRoundsWrongFalsely : Prop := playRoundsRow.holds Tryz.pinned (OpenSpec.ofChange playRoundsWrong)

/-- 'vergelaw23.PlayFair': WHATEVER THE INPUT: true; the input reads as it did. -/
def playFairSpec : ChangeSpec := { name := "playFair", fn := fun _ => fun
  | [d1, d2, d3] => { results := [.lit (.bool true)], args := [d1, d2, d3] }
  | _ => none }
def playFairRow : OpenClaim := { program := "ytikpbibeagbccaagreat", sum := "a6852f37de4fd93528b14f4a5aa024a66f4d56ca6144852292aad633ec44b64d", func := "verge/vergelaw23.PlayFair", spec := "playFair", inPlace := ["math/bits.Add64"], unfollowed := true, recurses := true, apart := false }
def PlayFairSaid : Prop := playFairRow.holds Tryz.pinned (OpenSpec.ofChange playFairSpec)

/-- ITS FALSE NEIGHBOUR: 'it returns false'. Refute it at one input. -/
def playFairWrong : ChangeSpec := { name := "playFair", fn := fun _ => fun
  | [d1, d2, d3] => { results := [.lit (.bool false)], args := [d1, d2, d3] }
  | _ => none }
def PlayFairWrongFalsely : Prop := playFairRow.holds Tryz.pinned (OpenSpec.ofChange playFairWrong)

/-- 'vergelaw23.PlayDrains': WHATEVER THE INPUT: true; the input reads as it did. -/
def playDrainsSpec : ChangeSpec := { name := "playDrains", fn := fun _ => fun
  | [d1, d2, d3, d4] => { results := [.lit (.bool true)], args := [d1, d2, d3, d4] }
  | _ => none }
def playDrainsRow : OpenClaim := { program := "ytikpbibeagbccaagreat", sum := "a6852f37de4fd93528b14f4a5aa024a66f4d56ca6144852292aad633ec44b64d", func := "verge/vergelaw23.PlayDrains", spec := "playDrains", inPlace := ["math/bits.Add64"], unfollowed := true, recurses := true, apart := false }
def PlayDrainsSaid : Prop := playDrainsRow.holds Tryz.pinned (OpenSpec.ofChange playDrainsSpec)

/-- ITS FALSE NEIGHBOUR: 'it returns false'. Refute it at one input. -/
def playDrainsWrong : ChangeSpec := { name := "playDrains", fn := fun _ => fun
  | [d1, d2, d3, d4] => { results := [.lit (.bool false)], args := [d1, d2, d3, d4] }
  | _ => none }
def PlayDrainsWrongFalsely : Prop := playDrainsRow.holds Tryz.pinned (OpenSpec.ofChange playDrainsWrong)

/- THE SECOND FORM. 'bulk': how many values and letters a reading holds, each counted each time it is reached (what is shared counts as often as it is met; a slice's spare places count too). A statement '..UptoSaid' is the law's where the arguments, and the package variables that the reading takes, are together of bulk at most 1048576: NARROWER than '..Said'. Prove '..Said' where nothing that the law and all that it calls make is longer than what came in: it says more and counts as full. Else prove '..UptoSaid'. A law counts once. -/
mutual
def uptoBulk {H : Type} : DataW H → Nat
  | .lit (.string bytes) => bytes.length + 1
  | .lit _ => 1
  | .nil => 1
  | .ptr d => uptoBulk d + 1
  | .slice elems spare => uptoBulkAll elems + uptoBulkAll spare + 1
  | .agg parts => uptoBulkAll parts + 1
  | .iface _ d => uptoBulk d + 1
  | .map entries => uptoBulkEntries entries + 1
  | .held _ => 1
def uptoBulkAll {H : Type} : List (DataW H) → Nat
  | [] => 0
  | d :: r => uptoBulk d + uptoBulkAll r
def uptoBulkEntries {H : Type} : List (Lit × DataW H) → Nat
  | [] => 0
  | x :: r => uptoBulkEntry x + uptoBulkEntries r
def uptoBulkEntry {H : Type} : Lit × DataW H → Nat
  | (.string bytes, d) => bytes.length + uptoBulk d + 1
  | (_, d) => uptoBulk d + 1
 end
def uptoSmall : (H : Type) → List (DataW H) → Bool := fun _ ds => decide (uptoBulkAll ds ≤ 1048576)
def OpenSpec.upto (s : _root_.Go.ChangeSpec) : _root_.Go.OpenSpec := { _root_.Go.OpenSpec.ofChange s with cond := some uptoSmall }

/-- 'vergelaw20.ServiceGoes', WHERE WHAT IT READS IS OF BULK AT MOST 1048576: true; the input reads as it did. -/
def serviceGoesUptoRow : OpenClaim := { program := "ytikpbibeagbccaagreat", sum := "a6852f37de4fd93528b14f4a5aa024a66f4d56ca6144852292aad633ec44b64d", func := "verge/vergelaw20.ServiceGoes", spec := "serviceGoes", inPlace := ["math/bits.Add64"], unfollowed := true, recurses := true, apart := false, narrowed := true }
def ServiceGoesUptoSaid : Prop := serviceGoesUptoRow.holds Tryz.pinned (OpenSpec.upto serviceGoesSpec)

/-- 'vergelaw20.ServiceEnds', WHERE WHAT IT READS IS OF BULK AT MOST 1048576: true; the input reads as it did. -/
def serviceEndsUptoRow : OpenClaim := { program := "ytikpbibeagbccaagreat", sum := "a6852f37de4fd93528b14f4a5aa024a66f4d56ca6144852292aad633ec44b64d", func := "verge/vergelaw20.ServiceEnds", spec := "serviceEnds", inPlace := ["math/bits.Add64"], unfollowed := true, recurses := true, apart := false, narrowed := true }
def ServiceEndsUptoSaid : Prop := serviceEndsUptoRow.holds Tryz.pinned (OpenSpec.upto serviceEndsSpec)

/-- 'vergelaw23.PlayNone', WHERE WHAT IT READS IS OF BULK AT MOST 1048576: true; the input reads as it did. -/
def playNoneUptoRow : OpenClaim := { program := "ytikpbibeagbccaagreat", sum := "a6852f37de4fd93528b14f4a5aa024a66f4d56ca6144852292aad633ec44b64d", func := "verge/vergelaw23.PlayNone", spec := "playNone", inPlace := ["math/bits.Add64"], unfollowed := true, recurses := true, apart := false, narrowed := true }
def PlayNoneUptoSaid : Prop := playNoneUptoRow.holds Tryz.pinned (OpenSpec.upto playNoneSpec)

/-- 'vergelaw23.PlayParts', WHERE WHAT IT READS IS OF BULK AT MOST 1048576: true; the input reads as it did. -/
def playPartsUptoRow : OpenClaim := { program := "ytikpbibeagbccaagreat", sum := "a6852f37de4fd93528b14f4a5aa024a66f4d56ca6144852292aad633ec44b64d", func := "verge/vergelaw23.PlayParts", spec := "playParts", inPlace := ["math/bits.Add64"], unfollowed := true, recurses := true, apart := false, narrowed := true }
def PlayPartsUptoSaid : Prop := playPartsUptoRow.holds Tryz.pinned (OpenSpec.upto playPartsSpec)

/-- 'vergelaw23.PlayRounds', WHERE WHAT IT READS IS OF BULK AT MOST 1048576: true; the input reads as it did. -/
def playRoundsUptoRow : OpenClaim := { program := "ytikpbibeagbccaagreat", sum := "a6852f37de4fd93528b14f4a5aa024a66f4d56ca6144852292aad633ec44b64d", func := "verge/vergelaw23.PlayRounds", spec := "playRounds", inPlace := ["math/bits.Add64"], unfollowed := true, recurses := true, apart := false, narrowed := true }
def PlayRoundsUptoSaid : Prop := playRoundsUptoRow.holds Tryz.pinned (OpenSpec.upto playRoundsSpec)

/-- 'vergelaw23.PlayFair', WHERE WHAT IT READS IS OF BULK AT MOST 1048576: true; the input reads as it did. -/
def playFairUptoRow : OpenClaim := { program := "ytikpbibeagbccaagreat", sum := "a6852f37de4fd93528b14f4a5aa024a66f4d56ca6144852292aad633ec44b64d", func := "verge/vergelaw23.PlayFair", spec := "playFair", inPlace := ["math/bits.Add64"], unfollowed := true, recurses := true, apart := false, narrowed := true }
def PlayFairUptoSaid : Prop := playFairUptoRow.holds Tryz.pinned (OpenSpec.upto playFairSpec)

/-- 'vergelaw23.PlayDrains', WHERE WHAT IT READS IS OF BULK AT MOST 1048576: true; the input reads as it did. -/
def playDrainsUptoRow : OpenClaim := { program := "ytikpbibeagbccaagreat", sum := "a6852f37de4fd93528b14f4a5aa024a66f4d56ca6144852292aad633ec44b64d", func := "verge/vergelaw23.PlayDrains", spec := "playDrains", inPlace := ["math/bits.Add64"], unfollowed := true, recurses := true, apart := false, narrowed := true }
def PlayDrainsUptoSaid : Prop := playDrainsUptoRow.holds Tryz.pinned (OpenSpec.upto playDrainsSpec)

end Rows
end Go.Proofs.YtikpbibeagbccaaGreat
