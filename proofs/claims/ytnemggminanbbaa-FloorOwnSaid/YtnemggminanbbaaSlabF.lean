import Derived.Test.YtnemggminanbbaaSlabE
namespace Go.Proofs.Ytnemggminanbbaa
set_option linter.unusedVariables false
set_option linter.unusedSimpArgs false
open Go.RowKit

theorem SlabS.known_at {s : SlabS} {id : Int} (h0 : 0 ≤ id) (h : s.known id) : ∃ (j : Nat) (r : Rec), id % 64 = j ∧ s.recs[j]? = some r ∧ 1 ≤ id / 64 ∧ id / 64 ≤ r.g ∧ s.has j ∧ s.recs.getD (id % 64).toNat Rec.zero = r := by
  have h1 : 0 ≤ id % 64 := by omega
  have hh : s.has (id % 64) := ⟨h1, h.1⟩
  obtain ⟨j, hj⟩ := SlabS.has_nat hh
  rw [hj] at hh
  obtain ⟨r, hr, hg⟩ := SlabS.has_at hh
  rw [← hj] at hg
  have h3 := h.2.2
  rw [hg] at h3
  exact ⟨j, r, hj, hr, h.2.1, h3, hh, hg⟩

theorem swapW_at {s : SlabS} {C C' : Array Value} {j : Nat} {r : Rec} {old n : Int} (hs : C.size = s.recs.length * 6) (h : ∀ i r, s.recs[i]? = some r → recAt C i r) (hr : s.recs[j]? = some r)
    (hc : Recell C (j * 6) (.int .u64 (if r.w = old then n else r.w)) C') : recsP (if r.w = old then s.recs.set j { r with w := n } else s.recs) (.cells C' 165 (0, 0)) := by
  by_cases e : r.w = old
  · rw [if_pos e] at hc ⊢; exact ⟨C', rfl, recs_recell hs h hr hc⟩
  · rw [if_neg e] at hc ⊢; exact ⟨C', rfl, recs_same hs h hr hc⟩

end Go.Proofs.Ytnemggminanbbaa
