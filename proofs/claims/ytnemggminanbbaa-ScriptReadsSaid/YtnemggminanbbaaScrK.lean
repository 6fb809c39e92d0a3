import Derived.Test.YtnemggminanbbaaScrJ
namespace Go.Proofs.Ytnemggminanbbaa
set_option linter.unusedVariables false
set_option linter.unusedSimpArgs false
open Go.RowKit Go.Shelf

/-- its unsigned fields are none below 0 -/
def Ent.wf (e : Ent) : Prop := 0 ≤ e.i ∧ 0 ≤ e.d ∧ 0 ≤ e.p
theorem readE_ok (zs : List Int) : (readE zs).ok = true := by
  unfold readE
  split
  · rfl
  · split
    · rename_i h; exact h.1
    · rfl
theorem readE_wf (zs : List Int) (h : ∀ x ∈ zs, 0 ≤ x ∧ x ≤ 255) : (readE zs).wf := by
  have hz : Ent.zero.wf := by unfold Ent.wf Ent.zero; simp
  have hb : ∀ i, 0 ≤ zs.getD i 0 := fun i => by
    by_cases hi : i < zs.length
    · rw [List.getD_eq_getElem?_getD, List.getElem?_eq_getElem hi]; exact (h _ (List.getElem_mem hi)).1
    · rw [List.getD_eq_getElem?_getD, List.getElem?_eq_none (by omega)]; simp
  unfold readE
  split
  · exact hz
  · split
    · unfold tryE
      split
      · exact ⟨hb 3, hb 4, hb 5⟩
      · exact ⟨Int.le_refl _, Int.le_refl _, Int.le_refl _⟩
    · exact hz
/-- what may be comes back -/
theorem readE_bytes (e : Ent) (h : e.ok = true) (hw : e.wf) : readE e.bytes = e := by
  obtain ⟨k, n, c, i, d, p⟩ := e
  obtain ⟨w1, w2, w3⟩ := hw
  simp only at w1 w2 w3
  have hlen := Ent.bytes_length ⟨k, n, c, i, d, p⟩
  by_cases h1 : k = 1
  · subst h1
    have h' := h
    simp only [Ent.ok, if_neg (show ¬ (1 : Int) = 0 by omega), if_true, Bool.and_eq_true, decide_eq_true_eq] at h'
    have hb : Ent.bytes ⟨1, n, c, i, d, p⟩ = [1, n, c, i, d, p] := by
      simp only [Ent.bytes, if_true]
      congr 1; congr 1; · omega
      congr 1; · omega
      congr 1; · omega
      congr 1; · omega
      congr 1; omega
    have ht : tryE [1, n, c, i, d, p] = ⟨1, n, c, i, d, p⟩ := rfl
    rw [hb, readE, if_neg (by simp), ht, if_pos ⟨h, hb⟩]
  · have h' := h
    have hk : (k = 0 ∧ n = 0 ∧ c = 0 ∧ i = 0 ∧ d = 0 ∧ p = 0) ∨ (2 ≤ k ∧ k ≤ 4 ∧ 0 ≤ n ∧ n ≤ 255 ∧ c = 0 ∧ i = 0 ∧ d = 0 ∧ p = 0) := by
      by_cases h0 : k = 0
      · simp only [Ent.ok, if_pos h0, Bool.and_eq_true, beq_iff_eq] at h'
        exact .inl ⟨h0, h'.1, h'.2.1, h'.2.2.1, h'.2.2.2.1, h'.2.2.2.2⟩
      · simp only [Ent.ok, if_neg h0, if_neg h1, Bool.and_eq_true, beq_iff_eq, decide_eq_true_eq] at h'
        exact .inr (by omega)
    rcases hk with ⟨rfl, rfl, rfl, rfl, rfl, rfl⟩ | ⟨a1, a2, a3, a4, rfl, rfl, rfl, rfl⟩
    · rfl
    · have hb : Ent.bytes ⟨k, n, 0, 0, 0, 0⟩ = [k, n, 0, 0, 0, 0] := by
        simp only [Ent.bytes, if_neg h1]
        congr 1; · omega
        congr 1; omega
      have ht : tryE [k, n, 0, 0, 0, 0] = ⟨k, n, 0, 0, 0, 0⟩ := if_neg h1
      rw [hb, readE, if_neg (by simp), ht, if_pos ⟨h, hb⟩]

theorem six_bytesOf (l : List Ent) (k : Nat) (hk : k < l.length) : six (bytesOf l) k = (l.getD k Ent.zero).bytes := by
  induction l generalizing k with
  | nil => simp at hk
  | cons e l ih =>
    have hb : bytesOf (e :: l) = e.bytes ++ bytesOf l := by simp [bytesOf]
    have hl := Ent.bytes_length e
    rw [hb]
    cases k with
    | zero =>
      unfold six
      rw [Nat.mul_zero, List.drop_zero, List.take_append_of_le_length (by omega), List.take_of_length_le (by omega)]
      rfl
    | succ k =>
      rw [show k + 1 = 1 + k by omega, six_append_right (A := e.bytes) (by omega), ih k (by simpa using hk), show 1 + k = k + 1 by omega]
      rfl
theorem entsK_bytesOf (l : List Ent) (h : ∀ e ∈ l, e.ok = true ∧ e.wf) : entsK (bytesOf l) l.length = l := by
  apply List.ext_getElem?
  intro i
  unfold entsK
  rw [List.getElem?_map]
  by_cases hi : i < l.length
  · rw [List.getElem?_range hi, List.getElem?_eq_getElem hi]
    simp only [Option.map_some]
    rw [six_bytesOf l i hi, List.getD_eq_getElem?_getD, List.getElem?_eq_getElem hi]
    congr 1
    exact readE_bytes _ (h _ (List.getElem_mem hi)).1 (h _ (List.getElem_mem hi)).2
  · rw [List.getElem?_eq_none (by rw [List.length_range]; omega), List.getElem?_eq_none (by omega)]
    rfl
theorem entsK_good (zs : List Int) (n : Nat) (h : ∀ x ∈ zs, 0 ≤ x ∧ x ≤ 255) : ∀ e ∈ entsK zs n, e.ok = true ∧ e.wf := by
  intro e he
  obtain ⟨k, _, rfl⟩ := List.mem_map.1 he
  exact ⟨readE_ok _, readE_wf _ (fun x hx => h x (List.mem_of_mem_drop (List.mem_of_mem_take hx)))⟩
theorem all_ok_of (l : List Ent) (h : ∀ e ∈ l, e.ok = true ∧ e.wf) : l.all Ent.ok = true := by rw [List.all_eq_true]; exact fun e he => (h e he).1
end Go.Proofs.Ytnemggminanbbaa
