/-
  No cell of these rows narrows 'for every input' (looked for: loops, veiled, ifaces, maps, wideKeys, modest, calm, conditions, laid).
  DERIVED. THE GIVEN ROWS OF THIS SEAT. 6 by the template 'for every input the law returns true; each argument reads behind the call as it read before'; 0 by the template 'total and deterministic' (their statements: YtahpggnkifkkpaaTotals.lean).
  GIVEN WITH THE SEED: the statements are not yours to turn. If you find one false, say at which input.
  Laid BY PROGRAM, IN A SANDBOX (cutbox-rows.mjs): the forced cells as the released guide's own fill.sh prints them over the translation ce78c598d70b99a8… (all of the seat's roots in one cut). By AI agents, Wed Nov 11 2026. No macro, syntax, notation, axiom, sorry.
-/
import Derived.Test.YtahpggnkifkkpaaChecked
import GoSem.Claim
import GoSem.ClaimJoined
import GoSem.ClaimMapViews
import Derived.JoinedTies
import Derived.KernelRfl
namespace Go.Proofs.Ytahpggnkifkkpaa
/- THE CELL 'sum', in the pinned program and in every row, IS THE sha256 OF THE DUMP (.gsa) THAT YtahpggnkifkkpaaProg.lean LOADS. Nothing in Lean hashes anything: it is a label: what it is worth is what the hold of that sum in a sandbox is worth. -/
noncomputable def Try.pinned : Pinned := { name := "ytahpggnkifkkpaa", sum := "ce78c598d70b99a8eee328d31b9bcefeaf7afea58bafff5e9d1beeebbf8b1fc8", checked := Try.checked }
namespace Rows
def none {H : Type} : Left H := { results := [], args := [] }

/-- 'vergelaw09.SlabAlone': WHATEVER THE INPUT: true; the input reads as it did. -/
def slabAloneSpec : ChangeSpec := { name := "slabAlone", fn := fun _ => fun
  | [d1, d2] => { results := [.lit (.bool true)], args := [d1, d2] }
  | _ => none }
def slabAloneRow : OpenClaim := { program := "ytahpggnkifkkpaa", sum := "ce78c598d70b99a8eee328d31b9bcefeaf7afea58bafff5e9d1beeebbf8b1fc8", func := "verge/vergelaw09.SlabAlone", spec := "slabAlone", unfollowed := true, recurses := true, apart := false }
def SlabAloneSaid : Prop := slabAloneRow.holds Try.pinned (OpenSpec.ofChange slabAloneSpec)

/-- ITS FALSE NEIGHBOUR: 'it returns false'. Refute it at one input. -/
def slabAloneWrong : ChangeSpec := { name := "slabAlone", fn := fun _ => fun
  | [d1, d2] => { results := [.lit (.bool false)], args := [d1, d2] }
  | _ => none }
def SlabAloneWrongFalsely : Prop := slabAloneRow.holds Try.pinned (OpenSpec.ofChange slabAloneWrong)

/-- 'vergelaw09.SlabRoom': WHATEVER THE INPUT: true; the input reads as it did. -/
def slabRoomSpec : ChangeSpec := { name := "slabRoom", fn := fun _ => fun
  | [d1, d2] => { results := [.lit (.bool true)], args := [d1, d2] }
  | _ => none }
def slabRoomRow : OpenClaim := { program := "ytahpggnkifkkpaa", sum := "ce78c598d70b99a8eee328d31b9bcefeaf7afea58bafff5e9d1beeebbf8b1fc8", func := "verge/vergelaw09.SlabRoom", spec := "slabRoom", unfollowed := true, recurses := true, apart := false }
def SlabRoomSaid : Prop := slabRoomRow.holds Try.pinned (OpenSpec.ofChange slabRoomSpec)

/-- ITS FALSE NEIGHBOUR: 'it returns false'. Refute it at one input. -/
def slabRoomWrong : ChangeSpec := { name := "slabRoom", fn := fun _ => fun
  | [d1, d2] => { results := [.lit (.bool false)], args := [d1, d2] }
  | _ => none }
def SlabRoomWrongFalsely : Prop := slabRoomRow.holds Try.pinned (OpenSpec.ofChange slabRoomWrong)

/-- 'vergelaw09.SlabStale': WHATEVER THE INPUT: true; the input reads as it did. -/
def slabStaleSpec : ChangeSpec := { name := "slabStale", fn := fun _ => fun
  | [d1, d2] => { results := [.lit (.bool true)], args := [d1, d2] }
  | _ => none }
def slabStaleRow : OpenClaim := { program := "ytahpggnkifkkpaa", sum := "ce78c598d70b99a8eee328d31b9bcefeaf7afea58bafff5e9d1beeebbf8b1fc8", func := "verge/vergelaw09.SlabStale", spec := "slabStale", unfollowed := true, recurses := true, apart := false }
def SlabStaleSaid : Prop := slabStaleRow.holds Try.pinned (OpenSpec.ofChange slabStaleSpec)

/-- ITS FALSE NEIGHBOUR: 'it returns false'. Refute it at one input. -/
def slabStaleWrong : ChangeSpec := { name := "slabStale", fn := fun _ => fun
  | [d1, d2] => { results := [.lit (.bool false)], args := [d1, d2] }
  | _ => none }
def SlabStaleWrongFalsely : Prop := slabStaleRow.holds Try.pinned (OpenSpec.ofChange slabStaleWrong)

/-- 'vergelaw09.SlabRise': WHATEVER THE INPUT: true; the input reads as it did. -/
def slabRiseSpec : ChangeSpec := { name := "slabRise", fn := fun _ => fun
  | [d1, d2] => { results := [.lit (.bool true)], args := [d1, d2] }
  | _ => none }
def slabRiseRow : OpenClaim := { program := "ytahpggnkifkkpaa", sum := "ce78c598d70b99a8eee328d31b9bcefeaf7afea58bafff5e9d1beeebbf8b1fc8", func := "verge/vergelaw09.SlabRise", spec := "slabRise", unfollowed := true, recurses := true, apart := false }
def SlabRiseSaid : Prop := slabRiseRow.holds Try.pinned (OpenSpec.ofChange slabRiseSpec)

/-- ITS FALSE NEIGHBOUR: 'it returns false'. Refute it at one input. -/
def slabRiseWrong : ChangeSpec := { name := "slabRise", fn := fun _ => fun
  | [d1, d2] => { results := [.lit (.bool false)], args := [d1, d2] }
  | _ => none }
def SlabRiseWrongFalsely : Prop := slabRiseRow.holds Try.pinned (OpenSpec.ofChange slabRiseWrong)

/-- 'vergelaw09.SlabActs': WHATEVER THE INPUT: true; the input reads as it did. -/
def slabActsSpec : ChangeSpec := { name := "slabActs", fn := fun _ => fun
  | [d1, d2, d3, d4] => { results := [.lit (.bool true)], args := [d1, d2, d3, d4] }
  | _ => none }
def slabActsRow : OpenClaim := { program := "ytahpggnkifkkpaa", sum := "ce78c598d70b99a8eee328d31b9bcefeaf7afea58bafff5e9d1beeebbf8b1fc8", func := "verge/vergelaw09.SlabActs", spec := "slabActs", unfollowed := true, recurses := true, apart := false }
def SlabActsSaid : Prop := slabActsRow.holds Try.pinned (OpenSpec.ofChange slabActsSpec)

/-- ITS FALSE NEIGHBOUR: 'it returns false'. Refute it at one input. -/
def slabActsWrong : ChangeSpec := { name := "slabActs", fn := fun _ => fun
  | [d1, d2, d3, d4] => { results := [.lit (.bool false)], args := [d1, d2, d3, d4] }
  | _ => none }
def SlabActsWrongFalsely : Prop := slabActsRow.holds Try.pinned (OpenSpec.ofChange slabActsWrong)

/-- 'vergelaw09.SlabNone': WHATEVER THE INPUT: true; the input reads as it did. -/
def slabNoneSpec : ChangeSpec := { name := "slabNone", fn := fun _ => fun
  | [d1, d2, d3] => { results := [.lit (.bool true)], args := [d1, d2, d3] }
  | _ => none }
def slabNoneRow : OpenClaim := { program := "ytahpggnkifkkpaa", sum := "ce78c598d70b99a8eee328d31b9bcefeaf7afea58bafff5e9d1beeebbf8b1fc8", func := "verge/vergelaw09.SlabNone", spec := "slabNone", unfollowed := true, recurses := true, apart := false }
def SlabNoneSaid : Prop := slabNoneRow.holds Try.pinned (OpenSpec.ofChange slabNoneSpec)

/-- ITS FALSE NEIGHBOUR: 'it returns false'. Refute it at one input. -/
def slabNoneWrong : ChangeSpec := { name := "slabNone", fn := fun _ => fun
  | [d1, d2, d3] => { results := [.lit (.bool false)], args := [d1, d2, d3] }
  | _ => none }
def SlabNoneWrongFalsely : Prop := slabNoneRow.holds Try.pinned (OpenSpec.ofChange slabNoneWrong)

/- THE SECOND FORM. 'bulk': how many values and letters a reading holds, each counted each time it is reached (what is shared counts as often as it is met; a slice's spare places count too). A statement '..UptoSaid' is the law's where the arguments, and the package variables that the reading takes, are together of bulk at most 1048576: NARROWER than '..Said'. Prove '..Said' where nothing that the law and all that it calls make is longer than what came in: it says more and counts as full. Else prove '..UptoSaid'. A law counts once. -/
mutual
def uptoBulk {H : Type} : DataW H → Nat
  | .lit (.string bytes) => bytes.length + 1
  | .lit _ => 1
  | .nil => 1
  | .ptr d => uptoBulk d + 1
  | .slice elems spare => uptoBulkAll elems + uptoBulkAll spare + 1
  | .agg parts => uptoBulkAll parts + 1
  | .iface _ d => uptoBulk d + 1
  | .map entries => uptoBulkEntries entries + 1
  | .held _ => 1
def uptoBulkAll {H : Type} : List (DataW H) → Nat
  | [] => 0
  | d :: r => uptoBulk d + uptoBulkAll r
def uptoBulkEntries {H : Type} : List (Lit × DataW H) → Nat
  | [] => 0
  | x :: r => uptoBulkEntry x + uptoBulkEntries r
def uptoBulkEntry {H : Type} : Lit × DataW H → Nat
  | (.string bytes, d) => bytes.length + uptoBulk d + 1
  | (_, d) => uptoBulk d + 1
 end
def uptoSmall : (H : Type) → List (DataW H) → Bool := fun _ ds => decide (uptoBulkAll ds ≤ 1048576)
def OpenSpec.upto (s : _root_.Go.ChangeSpec) : _root_.Go.OpenSpec := { _root_.Go.OpenSpec.ofChange s with cond := some uptoSmall }

/-- 'vergelaw09.SlabAlone', WHERE WHAT IT READS IS OF BULK AT MOST 1048576: true; the input reads as it did. -/
def slabAloneUptoRow : OpenClaim := { program := "ytahpggnkifkkpaa", sum := "ce78c598d70b99a8eee328d31b9bcefeaf7afea58bafff5e9d1beeebbf8b1fc8", func := "verge/vergelaw09.SlabAlone", spec := "slabAlone", unfollowed := true, recurses := true, apart := false, narrowed := true }
def SlabAloneUptoSaid : Prop := slabAloneUptoRow.holds Try.pinned (OpenSpec.upto slabAloneSpec)

/-- 'vergelaw09.SlabRoom', WHERE WHAT IT READS IS OF BULK AT MOST 1048576: true; the input reads as it did. -/
def slabRoomUptoRow : OpenClaim := { program := "ytahpggnkifkkpaa", sum := "ce78c598d70b99a8eee328d31b9bcefeaf7afea58bafff5e9d1beeebbf8b1fc8", func := "verge/vergelaw09.SlabRoom", spec := "slabRoom", unfollowed := true, recurses := true, apart := false, narrowed := true }
def SlabRoomUptoSaid : Prop := slabRoomUptoRow.holds Try.pinned (OpenSpec.upto slabRoomSpec)

/-- 'vergelaw09.SlabStale', WHERE WHAT IT READS IS OF BULK AT MOST 1048576: true; the input reads as it did. -/
def slabStaleUptoRow : OpenClaim := { program := "ytahpggnkifkkpaa", sum := "ce78c598d70b99a8eee328d31b9bcefeaf7afea58bafff5e9d1beeebbf8b1fc8", func := "verge/vergelaw09.SlabStale", spec := "slabStale", unfollowed := true, recurses := true, apart := false, narrowed := true }
def SlabStaleUptoSaid : Prop := slabStaleUptoRow.holds Try.pinned (OpenSpec.upto slabStaleSpec)

/-- 'vergelaw09.SlabRise', WHERE WHAT IT READS IS OF BULK AT MOST 1048576: true; the input reads as it did. -/
def slabRiseUptoRow : OpenClaim := { program := "ytahpggnkifkkpaa", sum := "ce78c598d70b99a8eee328d31b9bcefeaf7afea58bafff5e9d1beeebbf8b1fc8", func := "verge/vergelaw09.SlabRise", spec := "slabRise", unfollowed := true, recurses := true, apart := false, narrowed := true }
def SlabRiseUptoSaid : Prop := slabRiseUptoRow.holds Try.pinned (OpenSpec.upto slabRiseSpec)

/-- 'vergelaw09.SlabActs', WHERE WHAT IT READS IS OF BULK AT MOST 1048576: true; the input reads as it did. -/
def slabActsUptoRow : OpenClaim := { program := "ytahpggnkifkkpaa", sum := "ce78c598d70b99a8eee328d31b9bcefeaf7afea58bafff5e9d1beeebbf8b1fc8", func := "verge/vergelaw09.SlabActs", spec := "slabActs", unfollowed := true, recurses := true, apart := false, narrowed := true }
def SlabActsUptoSaid : Prop := slabActsUptoRow.holds Try.pinned (OpenSpec.upto slabActsSpec)

/-- 'vergelaw09.SlabNone', WHERE WHAT IT READS IS OF BULK AT MOST 1048576: true; the input reads as it did. -/
def slabNoneUptoRow : OpenClaim := { program := "ytahpggnkifkkpaa", sum := "ce78c598d70b99a8eee328d31b9bcefeaf7afea58bafff5e9d1beeebbf8b1fc8", func := "verge/vergelaw09.SlabNone", spec := "slabNone", unfollowed := true, recurses := true, apart := false, narrowed := true }
def SlabNoneUptoSaid : Prop := slabNoneUptoRow.holds Try.pinned (OpenSpec.upto slabNoneSpec)

end Rows
end Go.Proofs.Ytahpggnkifkkpaa
