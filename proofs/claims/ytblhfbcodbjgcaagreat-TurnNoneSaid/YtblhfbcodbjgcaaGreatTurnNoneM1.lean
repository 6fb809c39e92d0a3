import Derived.Test.YtblhfbcodbjgcaaGreatTV23
import Derived.Test.YtblhfbcodbjgcaaGreatTV19
namespace Go.Proofs.YtblhfbcodbjgcaaGreat
set_option linter.unusedVariables false
set_option linter.unusedSimpArgs false
open Go.RowKit Go.Shelf
theorem coreTrace {L : Lay} {x : CoreS} {g : List Blk} (hx : isCore L x g) (hn : x.tr.length ≤ 1000000) : DoesG Tryz.prog 35 #[ptr' L.fb] [g] fun e gs => ∃ v g' gv, e = .returned v ∧ isCore L x g' ∧ trG v x.tr gv ∧ gs = [g', gv] := by
  obtain ⟨tr, gF, gS, gR, gH, gT, h1, h2, h3, h4, h5, h6, rfl⟩ := hx
  intro w hw
  have T := (TG.refl hw).sum (H' := [gF, gS, gR, gH, gT]) (fun n ha h0 h1 h2 => by simp only [SU, ha, h0, h1, h2] <;> omega)
  refine (DoesG.use (floorTrace_g h1 h6 (by omega)) T [0, 4] rfl rfl).mono ?_
  rintro e w' ⟨gs, ⟨v, gv, he, hv, rfl⟩, T'⟩
  exact ⟨_, ⟨v, _, gv, he, ⟨tr, gF, gS, gR, gH, gT, h1, h2, h3, h4, h5, h6, rfl⟩, hv, rfl⟩, TG.sum (H := [gF, gS, gR, gH, gT, gv]) T' (fun n ha h0 h1 h2 => by simp only [SU, ha, h0, h1, h2] <;> omega)⟩
end Go.Proofs.YtblhfbcodbjgcaaGreat
