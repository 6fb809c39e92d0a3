import Derived.Test.YtnemggminanbbaaScrN
namespace Go.Proofs.Ytnemggminanbbaa
set_option linter.unusedVariables false
set_option linter.unusedSimpArgs false
open Go.RowKit

/-- what the document's bytes of an entry are -/
def RefBytes (E : Ent) (w : World) (r : Ending) (w' : World) : Prop :=
  Grew w w' ∧ ((E.ok = true ∧ ∃ B, r = .returned (.tuple #[.slice (some ⟨B, 0, none⟩) 6 6, .bool true]) ∧ Bytes w' (some ⟨B, 0, none⟩) E.bytes) ∨ (E.ok = false ∧ r = .returned (.tuple #[.slice none 0 0, .bool false])))

def Ent.small (e : Ent) : Prop := 0 ≤ e.k ∧ e.k ≤ 255 ∧ 0 ≤ e.n ∧ e.n ≤ 255 ∧ 0 ≤ e.c ∧ e.c ≤ 255 ∧ e.i ≤ 255 ∧ e.d ≤ 255 ∧ e.p ≤ 255

theorem not_small_ok (e : Ent) (hw : e.wf) (h : ¬ e.small) : e.ok = false := by
  obtain ⟨k, n, c, i, d, p⟩ := e
  obtain ⟨w1, w2, w3⟩ := hw
  simp only at w1 w2 w3
  unfold Ent.small at h
  simp only at h
  cases hb : Ent.ok ⟨k, n, c, i, d, p⟩
  · rfl
  · exfalso
    apply h
    unfold Ent.ok at hb
    simp only at hb
    split at hb
    · simp at hb; omega
    · split at hb <;> simp at hb <;> omega
theorem one_eq_iff (k n c i d p : Int) (hw : Ent.wf ⟨k, n, c, i, d, p⟩) (h : Ent.small ⟨k, n, c, i, d, p⟩) : oneE k n c i d p = ⟨k, n, c, i, d, p⟩ ↔ Ent.ok ⟨k, n, c, i, d, p⟩ = true := by
  obtain ⟨w1, w2, w3⟩ := hw
  simp only at w1 w2 w3
  unfold Ent.small at h
  simp only at h
  unfold oneE Ent.ok Ent.zero
  simp only
  by_cases k0 : k = 0
  · rw [if_neg (by omega), if_neg (by omega), if_pos k0]
    simp
    omega
  · by_cases k1 : k = 1
    · rw [if_neg k0, if_pos k1]
      subst k1
      by_cases hc : n ≤ 8 ∧ 1 ≤ c ∧ c ≤ 7
      · rw [if_pos (by omega)]; simp; omega
      · rw [if_neg (by omega), if_neg (by omega)]; simp; omega
    · rw [if_neg k0, if_neg k1, if_neg (by omega)]
      by_cases hc : 2 ≤ k ∧ k ≤ 4 ∧ c = 0 ∧ i = 0 ∧ d = 0 ∧ p = 0
      · rw [if_pos hc]; simp; omega
      · rw [if_neg hc]; simp; omega

theorem small_bytes (k n c i d p : Int) (hw : Ent.wf ⟨k, n, c, i, d, p⟩) (h : Ent.small ⟨k, n, c, i, d, p⟩) (ho : Ent.ok ⟨k, n, c, i, d, p⟩ = true) : Ent.bytes ⟨k, n, c, i, d, p⟩ = [k, n, c, i, d, p] := by
  obtain ⟨w1, w2, w3⟩ := hw
  simp only at w1 w2 w3
  unfold Ent.small at h
  simp only at h
  unfold Ent.ok at ho
  unfold Ent.bytes
  simp only at ho ⊢
  by_cases k1 : k = 1
  · rw [if_pos k1]; simp; omega
  · rw [if_neg k1] at ho ⊢
    by_cases k0 : k = 0
    · rw [if_pos k0] at ho; simp at ho ⊢; omega
    · rw [if_neg k0] at ho; simp at ho ⊢; omega

end Go.Proofs.Ytnemggminanbbaa
