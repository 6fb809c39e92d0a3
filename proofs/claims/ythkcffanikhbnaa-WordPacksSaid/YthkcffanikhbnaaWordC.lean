import Derived.Test.YthkcffanikhbnaaWordT
import Derived.Test.YthkcffanikhbnaaWordB
namespace Go.Proofs.Ythkcffanikhbnaa
set_option linter.unusedVariables false
set_option linter.unusedSimpArgs false
open Go.RowKit

set_option maxRecDepth 100000 in
set_option maxHeartbeats 1000000 in
theorem rows_calls (w : World) :
    Calls Try.prog 21 #[] w fun e w' => e = .returned (.slice (some ⟨w.heap.size, 0, none⟩) 18 18) ∧ w' = w.alloc (.cells tabC 52) := by
  go_enter Try.func21, Try.ntmps21
  go_wp2
  go_ret
  exact ⟨rfl, rfl⟩
end Go.Proofs.Ythkcffanikhbnaa
