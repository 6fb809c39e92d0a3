import Derived.Test.YtnemggminanbbaaList
namespace Go.Proofs.Ytnemggminanbbaa
set_option linter.unusedVariables false
set_option linter.unusedSimpArgs false
open Go.RowKit Go.Shelf

/-! ## A list's first node is taken out -/
theorem Try.infoHome : (Try.prog.info? 179).map (fun i => (i.zero, i.size, i.bytes)) = some (some (.agg #[.pointer none]), 1, 8) := by kernel_rfl
theorem home_same (b : Nat) (w : World) : (binOp .eql 171 (ptr' b) (ptr' b)).run Try.prog w = .ok (.bool true) w := by
  obtain ⟨i, hi, _, _, _⟩ := info_parts Try.infoHome
  exact run_eql_ptr_same w ⟨b, 0, none⟩ Try.underlying171 hi
theorem nodesB_hd (T : TypeId) (hb : Nat) (p q p' : Value) (a : Nd) (l : List Nd) : nodesB T hb p q (a :: l) = cl a.b T (a.v ++ [p, nxV q l, ptr' hb]).toArray :: nodesB T hb (ptr' a.b) q l := rfl
theorem nx_nil (l : List Nd) : l = [] ∨ ∃ y m, l = y :: m := by cases l <;> simp
section
variable {lb hb : Nat} {l : List Nd} {g : List Blk}
end
section
variable {lb hb : Nat} {l : List Nd} {g : List Blk}
end
end Go.Proofs.Ytnemggminanbbaa
