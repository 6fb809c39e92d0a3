import Derived.Test.YtnemggminanbbaaScrM
namespace Go.Proofs.Ytnemggminanbbaa
set_option linter.unusedVariables false
set_option linter.unusedSimpArgs false
open Go.RowKit

/-- the document's entry of six bytes -/
def oneE (z0 z1 z2 z3 z4 z5 : Int) : Ent :=
  if z0 = 1 ∧ z1 ≤ 8 ∧ 1 ≤ z2 ∧ z2 ≤ 7 then ⟨1, z1, z2, z3, z4, z5⟩
  else if 2 ≤ z0 ∧ z0 ≤ 4 ∧ z2 = 0 ∧ z3 = 0 ∧ z4 = 0 ∧ z5 = 0 then ⟨z0, z1, 0, 0, 0, 0⟩ else Ent.zero

theorem ret_ent {a b : Ent} (h : a = b) : Ending.returned a.val = .returned b.val := by rw [h]

set_option maxRecDepth 100000 in
set_option maxHeartbeats 2000000 in
theorem one_six (a : Option Addr) (cap : Nat) (zs : List Int) (w : World) (hl : zs.length = 6) (hb : Bytes w a zs) :
    Calls Try.prog 39 #[.slice a 6 cap] w (RetEnt (oneE (zs.getD 0 0) (zs.getD 1 0) (zs.getD 2 0) (zs.getD 3 0) (zs.getD 4 0) (zs.getD 5 0)) w) := by
  obtain ⟨b, off, rfl, hlt, hc⟩ := hb.cells' (i := 0) (by omega)
  have hlt1 : b < w.heap.size + 1 := by omega
  have c0 := hc 0 (by omega)
  have c1 := hc 1 (by omega)
  have c2 := hc 2 (by omega)
  have c3 := hc 3 (by omega)
  have c4 := hc 4 (by omega)
  have c5 := hc 5 (by omega)
  obtain ⟨p0, q0⟩ := hb.byte 0
  obtain ⟨p1, q1⟩ := hb.byte 1
  obtain ⟨p2, q2⟩ := hb.byte 2
  obtain ⟨p3, q3⟩ := hb.byte 3
  obtain ⟨p4, q4⟩ := hb.byte 4
  obtain ⟨p5, q5⟩ := hb.byte 5
  clear hb hc
  generalize zs.getD 0 0 = z0 at *
  generalize zs.getD 1 0 = z1 at *
  generalize zs.getD 2 0 = z2 at *
  generalize zs.getD 3 0 = z3 at *
  generalize zs.getD 4 0 = z4 at *
  generalize zs.getD 5 0 = z5 at *
  clear hl
  simp only [Nat.add_zero] at c0
  go_enter Try.func39, Try.ntmps39
  go_wp2
  go_region
  go_wp2
  · go_region
    go_wp2
    refine bodyPost_ret (v := Ent.val ⟨_, _, _, _, _, _⟩) (ret32 rfl rfl (six_new (show (w.alloc _).heap[w.heap.size]? = _ from alloc_new _ rfl))) rfl ⟨ret_ent ?_, (((Only.refl _ w).alloc _).drew).drew⟩
    go_light
    unfold oneE Ent.zero
    rw [if_pos (by omega)]
  all_goals refine bodyPost_ret (v := Ent.val ⟨_, _, _, _, _, _⟩) (ret32 rfl rfl (six_new (show (w.alloc _).heap[w.heap.size]? = _ from alloc_new _ rfl))) rfl ⟨ret_ent ?_, ((Only.refl _ w).alloc _).drew⟩
  all_goals go_light
  all_goals unfold oneE Ent.zero
  all_goals try simp only [beq_eq_false_iff_ne, ne_eq, beq_iff_eq] at *
  all_goals first | (rw [if_neg (by omega), if_neg (by omega)]) | (rw [if_neg (by omega), if_pos (by omega)])
end Go.Proofs.Ytnemggminanbbaa
