import Derived.Test.YtphbokncbflicaaScrN
namespace Go.Proofs.Ytphbokncbflicaa
set_option linter.unusedVariables false
set_option linter.unusedSimpArgs false
open Go.RowKit

/-- what the document's bytes of an entry are -/
def RefBytes (E : Ent) (w : World) (r : Ending) (w' : World) : Prop :=
  Grew w w' ∧ ((E.ok = true ∧ ∃ B, r = .returned (.tuple #[.slice (some ⟨B, 0, none⟩) 6 6, .bool true]) ∧ Bytes w' (some ⟨B, 0, none⟩) E.bytes) ∨ (E.ok = false ∧ r = .returned (.tuple #[.slice none 0 0, .bool false])))

def Ent.small (e : Ent) : Prop := 0 ≤ e.k ∧ e.k ≤ 255 ∧ 0 ≤ e.n ∧ e.n ≤ 255 ∧ 0 ≤ e.c ∧ e.c ≤ 255 ∧ e.i ≤ 255 ∧ e.d ≤ 255 ∧ e.p ≤ 255

theorem not_small_ok (e : Ent) (hw : e.wf) (h : ¬ e.small) : e.ok = false := by
  obtain ⟨k, n, c, i, d, p⟩ := e
  obtain ⟨w1, w2, w3⟩ := hw
  simp only at w1 w2 w3
  unfold Ent.small at h
  simp only at h
  cases hb : Ent.ok ⟨k, n, c, i, d, p⟩
  · rfl
  · exfalso
    apply h
    unfold Ent.ok at hb
    simp only at hb
    split at hb
    · simp at hb; omega
    · split at hb <;> simp at hb <;> omega
theorem one_eq_iff (k n c i d p : Int) (hw : Ent.wf ⟨k, n, c, i, d, p⟩) (h : Ent.small ⟨k, n, c, i, d, p⟩) : oneE k n c i d p = ⟨k, n, c, i, d, p⟩ ↔ Ent.ok ⟨k, n, c, i, d, p⟩ = true := by
  obtain ⟨w1, w2, w3⟩ := hw
  simp only at w1 w2 w3
  unfold Ent.small at h
  simp only at h
  unfold oneE Ent.ok Ent.zero
  simp only
  by_cases k0 : k = 0
  · rw [if_neg (by omega), if_neg (by omega), if_pos k0]
    simp
    omega
  · by_cases k1 : k = 1
    · rw [if_neg k0, if_pos k1]
      subst k1
      by_cases hc : n ≤ 8 ∧ 1 ≤ c ∧ c ≤ 7
      · rw [if_pos (by omega)]; simp; omega
      · rw [if_neg (by omega), if_neg (by omega)]; simp; omega
    · rw [if_neg k0, if_neg k1, if_neg (by omega)]
      by_cases hc : 2 ≤ k ∧ k ≤ 4 ∧ c = 0 ∧ i = 0 ∧ d = 0 ∧ p = 0
      · rw [if_pos hc]; simp; omega
      · rw [if_neg hc]; simp; omega

theorem small_bytes (k n c i d p : Int) (hw : Ent.wf ⟨k, n, c, i, d, p⟩) (h : Ent.small ⟨k, n, c, i, d, p⟩) (ho : Ent.ok ⟨k, n, c, i, d, p⟩ = true) : Ent.bytes ⟨k, n, c, i, d, p⟩ = [k, n, c, i, d, p] := by
  obtain ⟨w1, w2, w3⟩ := hw
  simp only at w1 w2 w3
  unfold Ent.small at h
  simp only at h
  unfold Ent.ok at ho
  unfold Ent.bytes
  simp only at ho ⊢
  by_cases k1 : k = 1
  · rw [if_pos k1]; simp; omega
  · rw [if_neg k1] at ho ⊢
    by_cases k0 : k = 0
    · rw [if_pos k0] at ho; simp at ho ⊢; omega
    · rw [if_neg k0] at ho; simp at ho ⊢; omega

set_option maxRecDepth 100000 in
set_option maxHeartbeats 2000000 in
theorem refbytes_calls (k n c i d p : Int) (w : World) (hw : Ent.wf ⟨k, n, c, i, d, p⟩) :
    Calls Try.prog 14 #[.agg #[.int .i64 k, .int .i64 n, .int .i64 c, .int .u64 i, .int .u64 d, .int .u64 p]] w (RefBytes ⟨k, n, c, i, d, p⟩ w) := by
  by_cases hs : Ent.small ⟨k, n, c, i, d, p⟩
  · obtain ⟨w1, w2, w3⟩ := hw
    have HS := Lib.hid hs
    unfold Ent.small at hs
    simp only at w1 w2 w3 hs
    obtain ⟨s1, s2, s3, s4, s5, s6, s7, s8, s9⟩ := hs
    go_enter Try.func14, Try.ntmps14
    go_wp2
    have hr : ∀ x ∈ [k, n, c, i, d, p], 0 ≤ x ∧ x ≤ 255 := by simp; omega
    have hBy : ∀ W : World, W.heap.size = w.heap.size + 1 + 1 → Bytes (World.drew (W.alloc (.cells #[.int .u8 k, .int .u8 n, .int .u8 c, .int .u8 i, .int .u8 d, .int .u8 p] 5))) (some ⟨w.heap.size + 1 + 1, 0, none⟩) [k, n, c, i, d, p] := fun W h => (Bytes.new hr (alloc_new _ h.symm)).grew (Only.refl _ _).drew
    have hg0 : ∀ o1 o2 o3, Grew w (((w.alloc o1).alloc o2).alloc o3).drew := fun o1 o2 o3 => ((((Only.refl _ w).alloc _).alloc _).alloc _).drew
    have h1 := one_eq_iff k n c i d p ⟨w1, w2, w3⟩ HS.out
    have OC := fun w' (h : Bytes w' (some ⟨w.heap.size + 1 + 1, 0, none⟩) [k, n, c, i, d, p]) => one_six (some ⟨w.heap.size + 1 + 1, 0, none⟩) 6 [k, n, c, i, d, p] w' rfl h
    simp only [List.getD_eq_getElem?_getD, List.getElem?_cons_zero, List.getElem?_cons_succ, Option.getD_some] at OC
    by_cases hok : Ent.ok ⟨k, n, c, i, d, p⟩ = true
    · have hb := small_bytes k n c i d p ⟨w1, w2, w3⟩ HS.out hok
      rw [h1.2 hok] at OC
      have HB := Lib.hid hb; have HOK := Lib.hid hok
      clear hb hok h1
      go_region_with (go_at_call 18; refine (OC _ (hBy _ (by simp [World.size_alloc]))).mono ?_; rintro e w5 ⟨rfl, hg5⟩; simp only [Ent.val]; have HG5 := Lib.hid (Only.trans (hg0 _ _ _) hg5); have HBB := Lib.hid ((hBy ((w.alloc _).alloc _) (by simp [World.size_alloc])).grew hg5); have hk := blk_cell (hg5.blk (B := w.heap.size) (show _ = _ from alloc_old (alloc_old (alloc_new _ rfl) _) _) (fun x => x)); clear hg5)
      go_wp2
      all_goals go_ret2
      all_goals exact ⟨HG5.out, .inl ⟨HOK.out, _, rfl, by rw [HB.out]; exact HBB.out⟩⟩
    · have h2 : ¬ oneE k n c i d p = ⟨k, n, c, i, d, p⟩ := fun h => hok (h1.1 h)
      have hno : Ent.ok ⟨k, n, c, i, d, p⟩ = false := by simpa using hok
      have HNO := Lib.hid hno
      obtain ⟨g1, g2, g3, g4, g5, g6, hg⟩ : ∃ g1 g2 g3 g4 g5 g6, oneE k n c i d p = ⟨g1, g2, g3, g4, g5, g6⟩ := ⟨_, _, _, _, _, _, rfl⟩
      rw [hg] at OC h2
      simp only [Ent.mk.injEq] at h2
      have h3 : (g1 == k) = false ∨ (g1 = k ∧ (g2 == n) = false) ∨ (g1 = k ∧ g2 = n ∧ (g3 == c) = false) ∨ (g1 = k ∧ g2 = n ∧ g3 = c ∧ (g4 == i) = false) ∨ (g1 = k ∧ g2 = n ∧ g3 = c ∧ g4 = i ∧ (g5 == d) = false) ∨ (g1 = k ∧ g2 = n ∧ g3 = c ∧ g4 = i ∧ g5 = d ∧ (g6 == p) = false) := by
        simp only [beq_eq_false_iff_ne, ne_eq]
        omega
      clear hg h1 hok hno h2
      rcases h3 with h | ⟨rfl, h⟩ | ⟨rfl, rfl, h⟩ | ⟨rfl, rfl, rfl, h⟩ | ⟨rfl, rfl, rfl, rfl, h⟩ | ⟨rfl, rfl, rfl, rfl, rfl, h⟩
      all_goals go_region_with (go_at_call 18; refine (OC _ (hBy _ (by simp [World.size_alloc]))).mono ?_; rintro e w5 ⟨rfl, hg5⟩; simp only [Ent.val]; have HG5 := Lib.hid (Only.trans (hg0 _ _ _) hg5); have hk := blk_cell (hg5.blk (B := w.heap.size) (show _ = _ from alloc_old (alloc_old (alloc_new _ rfl) _) _) (fun x => x)); clear hg5)
      all_goals go_wp2
      all_goals go_ret2
      all_goals exact ⟨HG5.out, .inr ⟨HNO.out, rfl⟩⟩
  · have hno := not_small_ok _ hw hs
    obtain ⟨w1, w2, w3⟩ := hw
    have HNO := Lib.hid hno; clear hno
    unfold Ent.small at hs
    simp only at w1 w2 w3 hs
    go_enter Try.func14, Try.ntmps14
    go_wp2
    all_goals go_ret2
    all_goals exact ⟨((Only.refl _ w).alloc _).alloc _, .inr ⟨HNO.out, rfl⟩⟩
end Go.Proofs.Ytphbokncbflicaa
