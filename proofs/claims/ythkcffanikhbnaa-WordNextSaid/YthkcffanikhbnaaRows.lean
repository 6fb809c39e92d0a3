/-
  No cell of these rows narrows 'for every input' (looked for: loops, veiled, ifaces, maps, wideKeys, modest, calm, conditions, laid).
  DERIVED. THE GIVEN ROWS OF THIS SEAT. 6 by the template 'for every input the law returns true; each argument reads behind the call as it read before'; 0 by the template 'total and deterministic' (their statements: YthkcffanikhbnaaTotals.lean).
  GIVEN WITH THE SEED: the statements are not yours to turn. If you find one false, say at which input.
  Laid BY PROGRAM, IN A SANDBOX (cutbox-rows.mjs): the forced cells as the released guide's own fill.sh prints them over the translation 0c0a896e1305d080… (all of the seat's roots in one cut). By AI agents, Wed Nov 11 2026. No macro, syntax, notation, axiom, sorry.
-/
import Derived.Test.YthkcffanikhbnaaChecked
import GoSem.Claim
import GoSem.ClaimJoined
import GoSem.ClaimMapViews
import Derived.JoinedTies
import Derived.KernelRfl
namespace Go.Proofs.Ythkcffanikhbnaa
/- THE CELL 'sum', in the pinned program and in every row, IS THE sha256 OF THE DUMP (.gsa) THAT YthkcffanikhbnaaProg.lean LOADS. Nothing in Lean hashes anything: it is a label: what it is worth is what the hold of that sum in a sandbox is worth. -/
noncomputable def Try.pinned : Pinned := { name := "ythkcffanikhbnaa", sum := "0c0a896e1305d0809fbd3097a96cad745a1139df35e27f94f2f7bc2d92f5d84c", checked := Try.checked }
namespace Rows
def none {H : Type} : Left H := { results := [], args := [] }

/-- 'vergelaw02.WordParts': WHATEVER THE INPUT: true; the input reads as it did. -/
def wordPartsSpec : ChangeSpec := { name := "wordParts", fn := fun _ => fun
  | [d] => { results := [.lit (.bool true)], args := [d] }
  | _ => none }
def wordPartsRow : OpenClaim := { program := "ythkcffanikhbnaa", sum := "0c0a896e1305d0809fbd3097a96cad745a1139df35e27f94f2f7bc2d92f5d84c", func := "verge/vergelaw02.WordParts", spec := "wordParts", apart := false }
def WordPartsSaid : Prop := wordPartsRow.holds Try.pinned (OpenSpec.ofChange wordPartsSpec)

/-- ITS FALSE NEIGHBOUR: 'it returns false'. Refute it at one input. -/
def wordPartsWrong : ChangeSpec := { name := "wordParts", fn := fun _ => fun
  | [d] => { results := [.lit (.bool false)], args := [d] }
  | _ => none }
def WordPartsWrongFalsely : Prop := wordPartsRow.holds Try.pinned (OpenSpec.ofChange wordPartsWrong)

/-- 'vergelaw02.WordPacks': WHATEVER THE INPUT: true; the input reads as it did. -/
def wordPacksSpec : ChangeSpec := { name := "wordPacks", fn := fun _ => fun
  | [d1, d2, d3] => { results := [.lit (.bool true)], args := [d1, d2, d3] }
  | _ => none }
def wordPacksRow : OpenClaim := { program := "ythkcffanikhbnaa", sum := "0c0a896e1305d0809fbd3097a96cad745a1139df35e27f94f2f7bc2d92f5d84c", func := "verge/vergelaw02.WordPacks", spec := "wordPacks", apart := false }
def WordPacksSaid : Prop := wordPacksRow.holds Try.pinned (OpenSpec.ofChange wordPacksSpec)

/-- ITS FALSE NEIGHBOUR: 'it returns false'. Refute it at one input. -/
def wordPacksWrong : ChangeSpec := { name := "wordPacks", fn := fun _ => fun
  | [d1, d2, d3] => { results := [.lit (.bool false)], args := [d1, d2, d3] }
  | _ => none }
def WordPacksWrongFalsely : Prop := wordPacksRow.holds Try.pinned (OpenSpec.ofChange wordPacksWrong)

/-- 'vergelaw02.WordNext': WHATEVER THE INPUT: true; the input reads as it did. -/
def wordNextSpec : ChangeSpec := { name := "wordNext", fn := fun _ => fun
  | [d1, d2, d3] => { results := [.lit (.bool true)], args := [d1, d2, d3] }
  | _ => none }
def wordNextRow : OpenClaim := { program := "ythkcffanikhbnaa", sum := "0c0a896e1305d0809fbd3097a96cad745a1139df35e27f94f2f7bc2d92f5d84c", func := "verge/vergelaw02.WordNext", spec := "wordNext", apart := false }
def WordNextSaid : Prop := wordNextRow.holds Try.pinned (OpenSpec.ofChange wordNextSpec)

/-- ITS FALSE NEIGHBOUR: 'it returns false'. Refute it at one input. -/
def wordNextWrong : ChangeSpec := { name := "wordNext", fn := fun _ => fun
  | [d1, d2, d3] => { results := [.lit (.bool false)], args := [d1, d2, d3] }
  | _ => none }
def WordNextWrongFalsely : Prop := wordNextRow.holds Try.pinned (OpenSpec.ofChange wordNextWrong)

/-- 'vergelaw02.WordRuns': WHATEVER THE INPUT: true; the input reads as it did. -/
def wordRunsSpec : ChangeSpec := { name := "wordRuns", fn := fun _ => fun
  | [d1, d2, d3] => { results := [.lit (.bool true)], args := [d1, d2, d3] }
  | _ => none }
def wordRunsRow : OpenClaim := { program := "ythkcffanikhbnaa", sum := "0c0a896e1305d0809fbd3097a96cad745a1139df35e27f94f2f7bc2d92f5d84c", func := "verge/vergelaw02.WordRuns", spec := "wordRuns", apart := false }
def WordRunsSaid : Prop := wordRunsRow.holds Try.pinned (OpenSpec.ofChange wordRunsSpec)

/-- ITS FALSE NEIGHBOUR: 'it returns false'. Refute it at one input. -/
def wordRunsWrong : ChangeSpec := { name := "wordRuns", fn := fun _ => fun
  | [d1, d2, d3] => { results := [.lit (.bool false)], args := [d1, d2, d3] }
  | _ => none }
def WordRunsWrongFalsely : Prop := wordRunsRow.holds Try.pinned (OpenSpec.ofChange wordRunsWrong)

/-- 'vergelaw02.WordOnce': WHATEVER THE INPUT: true; the input reads as it did. -/
def wordOnceSpec : ChangeSpec := { name := "wordOnce", fn := fun _ => fun
  | [d1, d2, d3, d4] => { results := [.lit (.bool true)], args := [d1, d2, d3, d4] }
  | _ => none }
def wordOnceRow : OpenClaim := { program := "ythkcffanikhbnaa", sum := "0c0a896e1305d0809fbd3097a96cad745a1139df35e27f94f2f7bc2d92f5d84c", func := "verge/vergelaw02.WordOnce", spec := "wordOnce", apart := false }
def WordOnceSaid : Prop := wordOnceRow.holds Try.pinned (OpenSpec.ofChange wordOnceSpec)

/-- ITS FALSE NEIGHBOUR: 'it returns false'. Refute it at one input. -/
def wordOnceWrong : ChangeSpec := { name := "wordOnce", fn := fun _ => fun
  | [d1, d2, d3, d4] => { results := [.lit (.bool false)], args := [d1, d2, d3, d4] }
  | _ => none }
def WordOnceWrongFalsely : Prop := wordOnceRow.holds Try.pinned (OpenSpec.ofChange wordOnceWrong)

/-- 'vergelaw02.WordLast': WHATEVER THE INPUT: true; the input reads as it did. -/
def wordLastSpec : ChangeSpec := { name := "wordLast", fn := fun _ => fun
  | [d1, d2, d3] => { results := [.lit (.bool true)], args := [d1, d2, d3] }
  | _ => none }
def wordLastRow : OpenClaim := { program := "ythkcffanikhbnaa", sum := "0c0a896e1305d0809fbd3097a96cad745a1139df35e27f94f2f7bc2d92f5d84c", func := "verge/vergelaw02.WordLast", spec := "wordLast", apart := false }
def WordLastSaid : Prop := wordLastRow.holds Try.pinned (OpenSpec.ofChange wordLastSpec)

/-- ITS FALSE NEIGHBOUR: 'it returns false'. Refute it at one input. -/
def wordLastWrong : ChangeSpec := { name := "wordLast", fn := fun _ => fun
  | [d1, d2, d3] => { results := [.lit (.bool false)], args := [d1, d2, d3] }
  | _ => none }
def WordLastWrongFalsely : Prop := wordLastRow.holds Try.pinned (OpenSpec.ofChange wordLastWrong)

/- THE SECOND FORM. 'bulk': how many values and letters a reading holds, each counted each time it is reached (what is shared counts as often as it is met; a slice's spare places count too). A statement '..UptoSaid' is the law's where the arguments, and the package variables that the reading takes, are together of bulk at most 1048576: NARROWER than '..Said'. Prove '..Said' where nothing that the law and all that it calls make is longer than what came in: it says more and counts as full. Else prove '..UptoSaid'. A law counts once. -/
mutual
def uptoBulk {H : Type} : DataW H → Nat
  | .lit (.string bytes) => bytes.length + 1
  | .lit _ => 1
  | .nil => 1
  | .ptr d => uptoBulk d + 1
  | .slice elems spare => uptoBulkAll elems + uptoBulkAll spare + 1
  | .agg parts => uptoBulkAll parts + 1
  | .iface _ d => uptoBulk d + 1
  | .map entries => uptoBulkEntries entries + 1
  | .held _ => 1
def uptoBulkAll {H : Type} : List (DataW H) → Nat
  | [] => 0
  | d :: r => uptoBulk d + uptoBulkAll r
def uptoBulkEntries {H : Type} : List (Lit × DataW H) → Nat
  | [] => 0
  | x :: r => uptoBulkEntry x + uptoBulkEntries r
def uptoBulkEntry {H : Type} : Lit × DataW H → Nat
  | (.string bytes, d) => bytes.length + uptoBulk d + 1
  | (_, d) => uptoBulk d + 1
 end
def uptoSmall : (H : Type) → List (DataW H) → Bool := fun _ ds => decide (uptoBulkAll ds ≤ 1048576)
def OpenSpec.upto (s : _root_.Go.ChangeSpec) : _root_.Go.OpenSpec := { _root_.Go.OpenSpec.ofChange s with cond := some uptoSmall }

/-- 'vergelaw02.WordParts', WHERE WHAT IT READS IS OF BULK AT MOST 1048576: true; the input reads as it did. -/
def wordPartsUptoRow : OpenClaim := { program := "ythkcffanikhbnaa", sum := "0c0a896e1305d0809fbd3097a96cad745a1139df35e27f94f2f7bc2d92f5d84c", func := "verge/vergelaw02.WordParts", spec := "wordParts", apart := false, narrowed := true }
def WordPartsUptoSaid : Prop := wordPartsUptoRow.holds Try.pinned (OpenSpec.upto wordPartsSpec)

/-- 'vergelaw02.WordPacks', WHERE WHAT IT READS IS OF BULK AT MOST 1048576: true; the input reads as it did. -/
def wordPacksUptoRow : OpenClaim := { program := "ythkcffanikhbnaa", sum := "0c0a896e1305d0809fbd3097a96cad745a1139df35e27f94f2f7bc2d92f5d84c", func := "verge/vergelaw02.WordPacks", spec := "wordPacks", apart := false, narrowed := true }
def WordPacksUptoSaid : Prop := wordPacksUptoRow.holds Try.pinned (OpenSpec.upto wordPacksSpec)

/-- 'vergelaw02.WordNext', WHERE WHAT IT READS IS OF BULK AT MOST 1048576: true; the input reads as it did. -/
def wordNextUptoRow : OpenClaim := { program := "ythkcffanikhbnaa", sum := "0c0a896e1305d0809fbd3097a96cad745a1139df35e27f94f2f7bc2d92f5d84c", func := "verge/vergelaw02.WordNext", spec := "wordNext", apart := false, narrowed := true }
def WordNextUptoSaid : Prop := wordNextUptoRow.holds Try.pinned (OpenSpec.upto wordNextSpec)

/-- 'vergelaw02.WordRuns', WHERE WHAT IT READS IS OF BULK AT MOST 1048576: true; the input reads as it did. -/
def wordRunsUptoRow : OpenClaim := { program := "ythkcffanikhbnaa", sum := "0c0a896e1305d0809fbd3097a96cad745a1139df35e27f94f2f7bc2d92f5d84c", func := "verge/vergelaw02.WordRuns", spec := "wordRuns", apart := false, narrowed := true }
def WordRunsUptoSaid : Prop := wordRunsUptoRow.holds Try.pinned (OpenSpec.upto wordRunsSpec)

/-- 'vergelaw02.WordOnce', WHERE WHAT IT READS IS OF BULK AT MOST 1048576: true; the input reads as it did. -/
def wordOnceUptoRow : OpenClaim := { program := "ythkcffanikhbnaa", sum := "0c0a896e1305d0809fbd3097a96cad745a1139df35e27f94f2f7bc2d92f5d84c", func := "verge/vergelaw02.WordOnce", spec := "wordOnce", apart := false, narrowed := true }
def WordOnceUptoSaid : Prop := wordOnceUptoRow.holds Try.pinned (OpenSpec.upto wordOnceSpec)

/-- 'vergelaw02.WordLast', WHERE WHAT IT READS IS OF BULK AT MOST 1048576: true; the input reads as it did. -/
def wordLastUptoRow : OpenClaim := { program := "ythkcffanikhbnaa", sum := "0c0a896e1305d0809fbd3097a96cad745a1139df35e27f94f2f7bc2d92f5d84c", func := "verge/vergelaw02.WordLast", spec := "wordLast", apart := false, narrowed := true }
def WordLastUptoSaid : Prop := wordLastUptoRow.holds Try.pinned (OpenSpec.upto wordLastSpec)

end Rows
end Go.Proofs.Ythkcffanikhbnaa
