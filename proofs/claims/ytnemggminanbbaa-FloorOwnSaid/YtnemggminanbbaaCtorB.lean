import Derived.Test.YtnemggminanbbaaCtor
import Derived.Test.YtnemggminanbbaaFloorB
import Derived.Test.YtnemggminanbbaaSlabX
import Derived.Test.YtnemggminanbbaaCellB
import Derived.Test.YtnemggminanbbaaCellU
namespace Go.Proofs.Ytnemggminanbbaa
set_option linter.unusedVariables false
set_option linter.unusedSimpArgs false
open Go.RowKit Go.Shelf

/-! ### A pipe in which nothing is -/
def emptyPipe (pb : Nat) (g : List Blk) : Prop := ∃ cb lb hb n : Nat, g = [cl pb 117 #[.chan (some cb), ptr' lb, .int .i64 0, .bool false], (cb, .chan n #[] false 0 0 false)] ++ noList lb hb
def emptyPipeN (n pb : Nat) (g : List Blk) : Prop := ∃ cb lb hb : Nat, g = [cl pb 117 #[.chan (some cb), ptr' lb, .int .i64 0, .bool false], (cb, .chan n #[] false 0 0 false)] ++ noList lb hb
theorem emptyPipeN.is {n pb : Nat} {g : List Blk} (h : emptyPipeN n pb g) : emptyPipe pb g := by obtain ⟨cb, lb, hb, e⟩ := h; exact ⟨cb, lb, hb, n, e⟩
theorem fire_info : (Try.prog.info? 68).map (fun i => (i.zero, i.size, i.bytes)) = some (some (.agg #[.int .u64 0, .int .u64 0, .int .u64 0, .int .u64 0]), 4, 32) := by kernel_rfl
theorem run_makeChan_n (n : Nat) (hn : n ≤ 16) (w : World) : (Instr.makeChan 114 (.int .i64 (n : Int))).run Try.prog w = .ok (.chan (some w.heap.size)) (w.alloc (.chan n #[] false 0 0 false)) := by
  obtain ⟨i, hi, _, _, hb⟩ := info_parts fire_info
  have hw : IntKind.i64.wrap (n : Int) = n := by rw [IntKind.wrap_i64]; omega
  have h1 : ¬ ((n : Int) < 0) := by omega
  have h2 : ¬ (9223372036854775807 < (n : Int)) := by omega
  have h3 : ¬ (281474976710544 < 32 * (n : Int)) := by omega
  simp [Instr.makeChan, asInt, asIntOf, run_underlying Try.underlying114, typeInfo, hi, hb, hw, h1, h2, h3, newObj, IntKind.max, IntKind.bits, IntKind.signed]
  rfl
set_option maxRecDepth 100000 in
set_option maxHeartbeats 4000000 in
theorem pipeNew_g (n : Nat) (h1 : 1 ≤ n) (h2 : n ≤ 16) : DoesG Try.prog 47 #[.int .i64 n] [] fun e gs => ∃ b g, e = .returned (.tuple #[ptr' b, .int .i64 0]) ∧ emptyPipeN n b g ∧ gs = [g] := by
  intro w hw
  have T0 := TG.refl hw
  have HT := Lib.hid T0
  clear hw T0
  have hmk := run_makeChan_n n h2
  have hd1 : decide ((n : Int) < 1) = false := by simp; omega
  have hd2 : decide (16 < (n : Int)) = false := by simp; omega
  go_enter Try.func47, Try.ntmps47
  go_wp2
  go_region_with (
    go_at_call 73
    first
    | (refine (DoesG.use fireListNew_g (HT.out.drew.put rfl (.chan n #[] false 0 0 false)) [] rfl rfl).mono ?_
       rintro e w1 ⟨gs, ⟨lb, hb, rfl, rfl⟩, Ta⟩
       have HT1 := Lib.hid Ta
       clear Ta)
    | (refine (DoesG.use fireListNew_g HT.out.drew [] rfl rfl).mono ?_
       rintro e w1 ⟨gs, ⟨lb, hb, rfl, rfl⟩, Ta⟩
       have HT1 := Lib.hid Ta
       clear Ta))
  · go_wp2
    go_ret2
    refine ⟨_, ⟨_, _, rfl, ⟨w.heap.size, lb, hb, rfl⟩, rfl⟩, (HT1.out.alloc (k := w1.heap.size) rfl 117 #[.chan (some w.heap.size), ptr' lb, .int .i64 0, .bool false]).re ?_⟩
    simp only [putG, List.nil_append, List.append_nil, List.cons_append, List.flatten_cons, List.flatten_nil, noList]
    exact (List.perm_append_comm (l₁ := [_, _, _]) (l₂ := [_]))
  · go_wp2
    go_ret2
    refine ⟨_, ⟨_, _, rfl, ⟨w1.heap.size, lb, hb, rfl⟩, rfl⟩, ((HT1.out.put (k := w1.heap.size) rfl (.chan n #[] false 0 0 false)).alloc (k := w1.heap.size + 1) (by simp) 117 #[.chan (some w1.heap.size), ptr' lb, .int .i64 0, .bool false]).re ?_⟩
    simp only [putG, List.nil_append, List.append_nil, List.cons_append, List.flatten_cons, List.flatten_nil, noList]
    exact (List.perm_append_comm (l₁ := [_, _]) (l₂ := [_, _])).trans (List.Perm.swap _ _ _)
end Go.Proofs.Ytnemggminanbbaa
