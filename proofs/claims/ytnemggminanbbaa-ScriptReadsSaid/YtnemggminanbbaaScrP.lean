import Derived.Test.YtnemggminanbbaaScrO
import Derived.Laws.BytesArg
namespace Go.Proofs.Ytnemggminanbbaa
set_option linter.unusedVariables false
set_option linter.unusedSimpArgs false
open Go.RowKit

theorem conv_bytes {w : World} {a : Option Addr} {xs : List Int} (c : Nat) (h : Bytes w a xs) : (convert 22 9 (.slice a xs.length c)).run Try.prog w = .ok (.string (strOfNums xs)) w := by
  by_cases h0 : xs = []
  · subst h0
    cases a with
    | none => exact run_convert_bytes_nil (P := Try.prog) w _ _ Try.underlying22 Try.underlying5 0 c _ Try.underlying9
    | some x =>
      rw [run_convert_bytes_string w _ _ _ _ _ c Try.underlying22 Try.underlying5 Try.underlying9, List.length_nil, run_bytesToString w x 0 c [] (run_loadCells_list (P := Try.prog) w x [] (fun j v hj => by simp at hj))]
      rfl
  · obtain ⟨b, off, rfl, hc⟩ := h.cells (i := 0) (by cases xs <;> simp_all)
    exact run_convert_bytes_arg (P := Try.prog) w _ _ Try.underlying22 Try.underlying5 b off _ c xs rfl hc _ Try.underlying9

end Go.Proofs.Ytnemggminanbbaa
