import Derived.Test.YtnemggminanbbaaScrA
import Derived.LoopTactic
import Derived.Deep.LoopGhost
namespace Go.Proofs.Ytnemggminanbbaa
set_option linter.unusedVariables false
set_option linter.unusedSimpArgs false
open Go.RowKit

/-- a slice of bytes: where there is an element, its cells -/
def Bytes (w : World) (a : Option Addr) (xs : List Int) : Prop :=
  (∀ x ∈ xs, 0 ≤ x ∧ x ≤ 255) ∧ (xs = [] ∨ ∃ b off, a = some ⟨b, off, none⟩ ∧ b < w.heap.size ∧ ∀ i, i < xs.length → w.cell? ⟨b, off + i, none⟩ = some (.int .u8 (xs.getD i 0)))

theorem Bytes.cells {w : World} {a : Option Addr} {xs : List Int} (h : Bytes w a xs) {i : Nat} (hi : i < xs.length) : ∃ b off, a = some ⟨b, off, none⟩ ∧ ∀ i, i < xs.length → w.cell? ⟨b, off + i, none⟩ = some (.int .u8 (xs.getD i 0)) := by
  rcases h.2 with rfl | ⟨b, off, h1, h2, h3⟩
  · simp at hi
  · exact ⟨b, off, h1, h3⟩
theorem Bytes.cells' {w : World} {a : Option Addr} {xs : List Int} (h : Bytes w a xs) {i : Nat} (hi : i < xs.length) : ∃ b off, a = some ⟨b, off, none⟩ ∧ b < w.heap.size ∧ ∀ i, i < xs.length → w.cell? ⟨b, off + i, none⟩ = some (.int .u8 (xs.getD i 0)) := by
  rcases h.2 with rfl | ⟨b, off, h1, h2, h3⟩
  · simp at hi
  · exact ⟨b, off, h1, h2, h3⟩
theorem Bytes.only {S : Nat → Prop} {w w' : World} {a : Option Addr} {xs : List Int} (h : Bytes w a xs) (ho : Only S w w') (hS : ∀ b off, a = some ⟨b, off, none⟩ → ¬ S b) : Bytes w' a xs := by
  refine ⟨h.1, h.2.imp id ?_⟩
  rintro ⟨b, off, h1, h2, h3⟩
  exact ⟨b, off, h1, Nat.lt_of_lt_of_le h2 ho.size, fun i hi => (ho.cell (p := ⟨b, off + i, none⟩) h2 (hS b off h1)).trans (h3 i hi)⟩
theorem Bytes.grew {w w' : World} {a : Option Addr} {xs : List Int} (h : Bytes w a xs) (ho : Grew w w') : Bytes w' a xs := h.only ho (fun _ _ _ x => x)
theorem Bytes.byte {w : World} {a : Option Addr} {xs : List Int} (h : Bytes w a xs) (i : Nat) : 0 ≤ xs.getD i 0 ∧ xs.getD i 0 ≤ 255 := by
  by_cases hi : i < xs.length
  · rw [List.getD_eq_getElem?_getD, List.getElem?_eq_getElem hi]; exact h.1 _ (List.getElem_mem hi)
  · rw [List.getD_eq_getElem?_getD, List.getElem?_eq_none (by omega)]; simp

set_option maxHeartbeats 1000000 in
theorem equal_calls (a1 a2 : Option Addr) (c1 c2 : Nat) (xs ys : List Int) (w : World) (h1 : Bytes w a1 xs) (h2 : Bytes w a2 ys) (hl1 : xs.length ≤ 1000000) (hl2 : ys.length ≤ 1000000) :
    Calls Try.prog 70 #[.slice a1 xs.length c1, .slice a2 ys.length c2] w fun e w' => e = .returned (.bool (decide (xs = ys))) ∧ Grew w w' := by
  by_cases hl : xs.length = ys.length
  · have H1 := Lib.hid h1; clear h1
    have H2 := Lib.hid h2; clear h2
    have HL := Lib.hid hl
    rw [← hl]
    clear hl hl2
    go_enter Try.func70, Try.ntmps70
    go_wp2
    go_loopw [13] (fun i wr => ∃ k : Nat, k ≤ xs.length ∧ i = .int .i64 k ∧ Hid (∀ j, j < k → xs.getD j 0 = ys.getD j 0) ∧ Grew w wr) (fun i _ => xs.length - (intOf i).toNat)
    case atStart => exact ⟨0, Nat.zero_le _, rfl, fun j hj => by omega, Only.refl _ _⟩
    case round =>
      obtain ⟨k, hk, rfl, hF, hG⟩ := hrel
      by_cases hlt : k < xs.length
      · obtain ⟨b1, o1, rfl, hc1⟩ := (H1.out.grew hG).cells hlt
        obtain ⟨b2, o2, rfl, hc2⟩ := (H2.out.grew hG).cells (by rw [← HL.out]; exact hlt)
        have d1 := hc1 k hlt
        have d2 := hc2 k (by rw [← HL.out]; exact hlt)
        clear hc1 hc2
        generalize hx : xs.getD k 0 = x at d1
        generalize hy : ys.getD k 0 = y at d2
        have HX := Lib.hid hx; clear hx
        have HY := Lib.hid hy; clear hy
        by_cases hxy : x = y
        · have e1 : (x != y) = false := by simp [hxy]
          have HE := Lib.hid hxy; clear hxy
          go_wp2
          go_quiet (fail)
          go_wp2
          go_roundw
          case rel =>
            refine ⟨k + 1, by omega, by go_num, fun j hj => ?_, hG.drewN _⟩
            by_cases hjk : j = k
            · subst hjk; rw [HX.out, HY.out]; exact HE.out
            · exact hF.out j (by omega)
          case measure => simp [intOf]; omega
        · have e1 : (x != y) = true := by simp [hxy]
          have HE := Lib.hid hxy; clear hxy
          go_wp2
          go_quiet (fail)
          go_wp2
          go_ret
          refine ⟨ret_bool ?_, hG.drewN _⟩
          symm
          rw [decide_eq_false_iff_not]
          intro e
          exact HE.out (by rw [← HX.out, ← HY.out, e])
      · go_wp2
        go_ret
        refine ⟨ret_bool ?_, hG⟩
        symm
        rw [decide_eq_true_eq]
        have HL' := HL.out
        have hk' : k = xs.length := by omega
        subst hk'
        refine List.ext_getElem HL' (fun i h1 h2 => ?_)
        have := hF.out i h1
        rwa [List.getD_eq_getElem?_getD, List.getD_eq_getElem?_getD, List.getElem?_eq_getElem h1, List.getElem?_eq_getElem h2] at this
  · have hne : ((xs.length : Int) != (ys.length : Int)) = true := by simp; omega
    have HL := Lib.hid hl; clear hl
    have H1 := Lib.hid h1; clear h1
    have H2 := Lib.hid h2; clear h2
    go_enter Try.func70, Try.ntmps70
    go_wp2

    go_ret
    refine ⟨ret_bool ?_, Only.refl _ _⟩
    symm
    rw [decide_eq_false_iff_not]
    intro e
    exact HL.out (by rw [e])
end Go.Proofs.Ytnemggminanbbaa
