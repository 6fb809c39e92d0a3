import Derived.Test.YtahpggnkifkkpaaSlabActs
import Derived.Test.YtahpggnkifkkpaaOpen
namespace Go.Proofs.Ytahpggnkifkkpaa
set_option linter.unusedVariables false
set_option linter.unusedSimpArgs false
open Go.RowKit Go.Shelf Go.ChangeShapes Go.WideShapes Go.Deep
section
variable {H : Type} {enc : TypeId × Value → H} {w : World} {base : Nat} {spare : Nat → Bool} {held : Bool}
theorem four_of {l : List Value} (h : l.length = 4) : ∃ a b c d, l = [a, b, c, d] := by
  match l, h with
  | [a, b, c, d], _ => exact ⟨a, b, c, d, rfl⟩
def ActS.wf (e : ActS) : Prop := (Lit.int .u64 e.old).wf = true
theorem act_of_trod {n : Nat} {cs : List Value} {x : DataW H × List MemPlace} (h : DataW.trod enc Try.prog w base spare held n 57 cs = some x) : ∃ e : ActS, cs = e.cells.toList ∧ e.wf := by
  obtain ⟨xs, n1, _, _, hl, hlen, hf⟩ := DataW.trod_struct Try.underlying57 h
  rw [show Try.prog.cellsOf 57 = 4 from by kernel_rfl] at hl
  obtain ⟨c0, c1, c2, c3, rfl⟩ := four_of hl
  have hs : ∀ i, i < 4 → (xs[i]?).isSome = true := fun i hi => by rw [List.getElem?_eq_getElem (by rw [hlen]; exact hi)]; rfl
  have f0 : DataW.trod enc Try.prog w base spare held n1 3 (List.take (Try.prog.cellsOf 3) (List.drop 0 [c0, c1, c2, c3])) = xs[0]? := hf 0 _ rfl
  have f1 : DataW.trod enc Try.prog w base spare held n1 3 (List.take (Try.prog.cellsOf 3) (List.drop 1 [c0, c1, c2, c3])) = xs[1]? := hf 1 _ rfl
  have f2 : DataW.trod enc Try.prog w base spare held n1 3 (List.take (Try.prog.cellsOf 3) (List.drop 2 [c0, c1, c2, c3])) = xs[2]? := hf 2 _ rfl
  have f3 : DataW.trod enc Try.prog w base spare held n1 32 (List.take (Try.prog.cellsOf 32) (List.drop 3 [c0, c1, c2, c3])) = xs[3]? := hf 3 _ rfl
  simp only [show Try.prog.cellsOf 3 = 1 from by kernel_rfl, List.drop_zero, List.drop_succ_cons, List.take_succ_cons, List.take_zero] at f0 f1 f2
  simp only [show Try.prog.cellsOf 32 = 1 from by kernel_rfl, List.drop_zero, List.drop_succ_cons, List.take_succ_cons, List.take_zero] at f3
  obtain ⟨z0, rfl, _⟩ := int_of_trod Try.underlying3 f0 (hs 0 (by omega))
  obtain ⟨z1, rfl, _⟩ := int_of_trod Try.underlying3 f1 (hs 1 (by omega))
  obtain ⟨z2, rfl, _⟩ := int_of_trod Try.underlying3 f2 (hs 2 (by omega))
  obtain ⟨z3, rfl, w3⟩ := int_of_trod Try.underlying32 f3 (hs 3 (by omega))
  exact ⟨⟨z0, z1, z2, z3⟩, rfl, w3⟩
abbrev ActL := List ActS
def IsActs (w : World) (a : Option Addr) (len cap : Nat) (es : ActL) : Prop := es.length = len ∧ len ≤ 9223372036854775807 ∧ SActsAt w a es
theorem open_acts {fuel : Nat} {a : Option Addr} {len cap : Nat} {x : DataW H × List MemPlace} (h : DataW.trod enc Try.prog w base spare held fuel 53 (Value.cells (.slice a len cap)).toList = some x) : ∃ es, IsActs w a len cap es := by
  obtain ⟨es, h1, h2, hw, h3⟩ := open_structs' ActS.zero ActS.wf (fun e : ActS => e.cells.toList) 4 Try.underlying53 (by kernel_rfl) (by decide) act_of_trod (fun _ => rfl) h
  refine ⟨es, h1, h2, fun z hz => (by have := bounds_u64 (hw z hz); omega), h3.imp id ?_⟩
  rintro ⟨b, off, e1, e2, e3⟩
  exact ⟨b, off, e1, e2, fun i j hi hj => (e3 i j hi hj).trans (by rw [Array.getElem?_toList])⟩
end
end Go.Proofs.Ytahpggnkifkkpaa
