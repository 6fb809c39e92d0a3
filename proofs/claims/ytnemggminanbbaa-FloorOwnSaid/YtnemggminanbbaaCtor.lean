import Derived.Test.YtnemggminanbbaaFloorA
import Derived.Test.YtnemggminanbbaaCellI
import Derived.Test.YtnemggminanbbaaFam
namespace Go.Proofs.Ytnemggminanbbaa
set_option linter.unusedVariables false
set_option linter.unusedSimpArgs false
open Go.RowKit Go.Shelf

abbrev ptr' (b : Nat) : Value := .pointer (some ⟨b, 0, none⟩)
/-! ## What is made, and needs not be known -/
theorem listNew0_g : DoesG Try.prog 87 #[] [] fun e gs => ∃ b, e = .returned (ptr' b) ∧ gs = [] := by
  intro w hw
  have T0 := TG.refl hw
  have HT := Lib.hid T0
  clear hw T0
  go_enter Try.func87, Try.ntmps87
  go_wp2
  go_ret
  exact ⟨[], ⟨_, rfl, rfl⟩, (HT.out.alloc0 _).alloc0 _⟩
set_option maxRecDepth 100000 in
set_option maxHeartbeats 4000000 in
theorem levelNew0_g : DoesG Try.prog 88 #[] [] fun e gs => ∃ b, e = .returned (ptr' b) ∧ gs = [] := by
  intro w hw
  have T0 := TG.refl hw
  have HT := Lib.hid T0
  clear hw T0
  go_enter Try.func88, Try.ntmps88
  go_wp2
  have T1 := HT.out.alloc (k := w.heap.size) rfl 209 Try.zeroCells209
  go_loopw [2, 5] (fun _ i wr => ∃ (k : Nat) (C : Array Value), k ≤ 64 ∧ i = .int .i64 k ∧ C.size = 66 ∧ TG [] w [[cl w.heap.size 209 C]] wr) (fun _ i _ => 65 - (intOf i).toNat)
  case atStart => exact ⟨0, _, by omega, rfl, by kernel_rfl, T1⟩
  case round =>
    obtain ⟨lb, hlb⟩ : ∃ lb, lb = w.heap.size := ⟨_, rfl⟩
    rw [← hlb] at hrel ⊢
    obtain ⟨k, C, hk, rfl, hC, T⟩ := hrel
    have HT := Lib.hid T
    have HC := Lib.hid hC
    clear T T1 hC hlb
    by_cases hlt : k < 64
    · have c0 := Array.getElem?_eq_getElem (xs := C) (i := k) (by rw [HC.out]; omega)
      have HC0 := Lib.hid c0
      clear c0
      go_wp2
      go_region_with (
        go_at_call 87
        refine (DoesG.use listNew0_g HT.out.drew [] rfl rfl).mono ?_
        rintro e w1 ⟨gs, ⟨b, rfl, rfl⟩, Ta⟩
        simp only [putG, List.nil_append, List.append_nil] at Ta
        have c1 := (Ta.cell 0 0 rfl k).trans HC0.out
        have f1 := Ta.free 0 0 rfl k
        have HT1 := Lib.hid Ta
        clear Ta)
      go_wp2
      first
      | (go_roundw
         case rel => exact ⟨k + 1, _, by omega, by go_num, by rw [Array.size_setIfInBounds]; exact HC.out, HT1.out.set 0 0 rfl k _⟩
         case measure => simp [intOf]; omega)
      | exact ⟨⟨k + 1, _, by omega, by go_num, by rw [Array.size_setIfInBounds]; exact HC.out, HT1.out.set 0 0 rfl k _⟩, by simp [intOf]; omega⟩
      | ((repeat apply Exists.intro); exact ⟨⟨⟨k + 1, _, by omega, by go_num, by rw [Array.size_setIfInBounds]; exact HC.out, HT1.out.set 0 0 rfl k _⟩, rfl⟩, by simp [intOf]; omega⟩)
    · go_wp2
      go_ret
      exact ⟨[], ⟨_, rfl, rfl⟩, HT.out.pick [] rfl⟩
set_option maxRecDepth 100000 in
set_option maxHeartbeats 4000000 in
theorem wheelNew0_g (now : Int) : DoesG Try.prog 76 #[.int .u64 now] [] fun e gs => ∃ b, e = .returned (ptr' b) ∧ gs = [] := by
  intro w hw
  have T0 := TG.refl hw
  have HT := Lib.hid T0
  clear hw T0
  go_enter Try.func76, Try.ntmps76
  go_wp2_with fail
  refine (DoesG.use (listNew0_g) (HT.out) [] rfl rfl).mono ?_
  rintro e w1 ⟨gs, ⟨b0, rfl, rfl⟩, Ta⟩
  simp only [PU] at Ta
  have HT := Lib.hid Ta
  clear Ta
  go_wp2
  have T1 := HT.out.alloc (k := w1.heap.size) rfl 192 #[.int .u64 now, .pointer none, .pointer none, .pointer none, .pointer none, ptr' b0, .int .i64 0]
  go_loopw [4, 9] (fun _ i wr => ∃ (k : Nat) (C : Array Value), k ≤ 4 ∧ i = .int .i64 k ∧ C.size = 7 ∧ TG [] w [[cl w1.heap.size 192 C]] wr) (fun _ i _ => 5 - (intOf i).toNat)
  case atStart => exact ⟨0, _, by omega, rfl, rfl, T1⟩
  case round =>
    obtain ⟨lb, hlb⟩ : ∃ lb, lb = w1.heap.size := ⟨_, rfl⟩
    rw [← hlb] at hrel ⊢
    obtain ⟨k, C, hk, rfl, hC, T⟩ := hrel
    have HT := Lib.hid T
    have HC := Lib.hid hC
    clear T T1 hC hlb
    by_cases hlt : k < 4
    · have c0 := Array.getElem?_eq_getElem (xs := C) (i := 1 + k) (by rw [HC.out]; omega)
      have HC0 := Lib.hid c0
      clear c0
      go_wp2
      go_region_with (
        go_at_call 88
        refine (DoesG.use levelNew0_g HT.out.drew [] rfl rfl).mono ?_
        rintro e w2 ⟨gs, ⟨b, rfl, rfl⟩, Ta⟩
        simp only [putG, List.nil_append, List.append_nil] at Ta
        have c1 := (Ta.cell 0 0 rfl (1 + k)).trans HC0.out
        have f1 := Ta.free 0 0 rfl (1 + k)
        have HT1 := Lib.hid Ta
        clear Ta)
      go_wp2
      first
      | (go_roundw
         case rel => exact ⟨k + 1, _, by omega, by go_num, by rw [Array.size_setIfInBounds]; exact HC.out, HT1.out.set 0 0 rfl (1 + k) _⟩
         case measure => simp [intOf]; omega)
      | exact ⟨⟨k + 1, _, by omega, by go_num, by rw [Array.size_setIfInBounds]; exact HC.out, HT1.out.set 0 0 rfl (1 + k) _⟩, by simp [intOf]; omega⟩
      | ((repeat apply Exists.intro); exact ⟨⟨⟨k + 1, _, by omega, by go_num, by rw [Array.size_setIfInBounds]; exact HC.out, HT1.out.set 0 0 rfl (1 + k) _⟩, rfl⟩, by simp [intOf]; omega⟩)
    · go_wp2
      go_ret
      exact ⟨[], ⟨_, rfl, rfl⟩, HT.out.pick [] rfl⟩

/-! ## A lock, a log, a list without nodes, a ring -/
def isLock (b : Nat) (who : Int) (n : Int) (g : List Blk) : Prop := ∃ C, g = [cl b 130 C] ∧ C.size = 5 ∧ cellAt C 0 (.int .i64 who) ∧ C[4]? = some (.int .i64 n)
theorem lockNew_g : DoesG Try.prog 75 #[] [] fun e gs => ∃ b g, e = .returned (ptr' b) ∧ isLock b 0 0 g ∧ gs = [g] := by
  intro w hw
  have T0 := TG.refl hw
  have HT := Lib.hid T0
  clear hw T0
  go_enter Try.func75, Try.ntmps75
  go_wp2
  go_ret
  exact ⟨_, ⟨_, _, rfl, ⟨_, rfl, rfl, ⟨rfl, 0, 0, 0, rfl, rfl, rfl⟩, rfl⟩, rfl⟩, HT.out.alloc rfl _ _⟩
theorem logNew_g : DoesG Try.prog 45 #[] [] fun e gs => ∃ b, e = .returned (ptr' b) ∧ gs = [[cl b 123 #[.slice none 0 0]]] := by
  intro w hw
  have T0 := TG.refl hw
  have HT := Lib.hid T0
  clear hw T0
  go_enter Try.func45, Try.ntmps45
  go_wp2
  go_ret
  exact ⟨_, ⟨_, rfl, rfl⟩, HT.out.alloc rfl _ _⟩
/-- a list of firings without nodes -/
def noList (b hb : Nat) : List Blk := [cl b 173 #[.pointer none, .pointer none, .int .i64 0, ptr' hb], cl hb 179 #[.pointer none]]
theorem fireListNew_g : DoesG Try.prog 73 #[] [] fun e gs => ∃ b hb, e = .returned (ptr' b) ∧ gs = [noList b hb] := by
  intro w hw
  have T0 := TG.refl hw
  have HT := Lib.hid T0
  clear hw T0
  go_enter Try.func73, Try.ntmps73
  go_wp2
  go_ret
  exact ⟨_, ⟨_, _, rfl, rfl⟩, ((HT.out.alloc rfl _ _).alloc rfl _ _).re (by simp [noList]; exact List.Perm.swap _ _ _)⟩

/-! ### A ring -/
structure TaskS where
  id : Int
  slot : Int
  gen : Int
  dl : Int
  per : Int
def TaskS.zero : TaskS := ⟨0, 0, 0, 0, 0⟩
structure SlotS where
  seq : Int
  v : TaskS
structure RingS where
  slots : List SlotS
  tail : Int
  head : Int
def taskAt (D : Array Value) (o : Nat) (t : TaskS) : Prop := D[o]? = some (.int .u64 t.id) ∧ D[o + 1]? = some (.int .i64 t.slot) ∧ D[o + 2]? = some (.int .u64 t.gen) ∧ D[o + 3]? = some (.int .u64 t.dl) ∧ D[o + 4]? = some (.int .u64 t.per)
def slotAt (D : Array Value) (i : Nat) (s : SlotS) : Prop := cellAt D (i * 9) (.int .i64 s.seq) ∧ taskAt D (i * 9 + 4) s.v
def isRing (rb : Nat) (r : RingS) (g : List Blk) : Prop := ∃ sb C D, g = [cl rb 182 C, cl sb 184 D] ∧ C.size = 6 ∧ C[0]? = some (.slice (some ⟨sb, 0, none⟩) r.slots.length r.slots.length) ∧ cellAt C 1 (.int .i64 r.tail) ∧
  C[5]? = some (.int .i64 r.head) ∧ D.size = r.slots.length * 9 ∧ ∀ i s, r.slots[i]? = some s → slotAt D i s
theorem storeI_g (b o : Nat) (T : TypeId) (C : Array Value) (u : Value) (x : Int) (hc : C[o]? = some u) :
    DoesG Try.prog 86 #[.pointer (some ⟨b, o, none⟩), .int .i64 x] [[cl b T C]] fun e gs => e = .returned (.tuple #[]) ∧ gs = [[cl b T (C.setIfInBounds o (.int .i64 x))]] := by
  intro w hw
  have T0 := TG.refl hw
  have HT := Lib.hid T0
  clear hw T0
  have c0 := (HT.out.cell 0 0 rfl o).trans hc
  have f0 := HT.out.free 0 0 rfl o
  clear hc
  go_enter Try.func86, Try.ntmps86
  go_wp2
  refine bodyPost_end (results_none rfl _ _ _) rfl ⟨_, ⟨rfl, rfl⟩, HT.out.set 0 0 rfl o _⟩
def newRing (n : Nat) : RingS := ⟨(List.range n).map fun (i : Nat) => ⟨2 * (i : Int), TaskS.zero⟩, 0, 0⟩
def slotC : Array Value := #[.int .i64 0, .int .i64 0, .int .i64 0, .int .i64 0, .int .u64 0, .int .i64 0, .int .u64 0, .int .u64 0, .int .u64 0]
theorem slot_info : (Try.prog.info? 184).map (fun i => (i.zero, i.size, i.bytes)) = some (some (.agg slotC), 9, 72) := by kernel_rfl
/-- the slots behind so many stores -/
def ringD (n k : Nat) (D : Array Value) : Prop := D.size = n * 9 ∧ ∀ i, i < n → slotAt D i ⟨if i < k then 2 * (i : Int) else 0, TaskS.zero⟩
theorem ringD_new (n : Nat) : ringD n 0 (madeCells slotC (n * 9)) := by
  refine ⟨size_madeCells _ _, fun i hi => ?_⟩
  rw [if_neg (Nat.not_lt_zero _)]
  have hz : slotC.size = 9 := rfl
  have g : ∀ j, j < 9 → (madeCells slotC (n * 9))[i * 9 + j]? = slotC[j]? := fun j hj => made_get _ n 9 i j hz hi hj
  exact ⟨⟨g 0 (by decide), 0, 0, 0, g 1 (by decide), g 2 (by decide), g 3 (by decide)⟩, g 4 (by decide), g 5 (by decide), g 6 (by decide), g 7 (by decide), g 8 (by decide)⟩
theorem slotAt_set {D : Array Value} {i j : Nat} {s : SlotS} (h : slotAt D i s) (x : Int) : slotAt (D.setIfInBounds (j * 9) (.int .i64 x)) i (if i = j then { s with seq := x } else s) := by
  obtain ⟨⟨a0, l, t, u, a1, a2, a3⟩, b0, b1, b2, b3, b4⟩ := h
  by_cases e : i = j
  · subst e
    rw [if_pos rfl]
    exact ⟨⟨get_set_eq a0, l, t, u, (get_set_ne (by omega)).trans a1, (get_set_ne (by omega)).trans a2, (get_set_ne (by omega)).trans a3⟩, (get_set_ne (by omega)).trans b0, (get_set_ne (by omega)).trans b1, (get_set_ne (by omega)).trans b2, (get_set_ne (by omega)).trans b3, (get_set_ne (by omega)).trans b4⟩
  · rw [if_neg e]
    exact ⟨⟨(get_set_ne (by omega)).trans a0, l, t, u, (get_set_ne (by omega)).trans a1, (get_set_ne (by omega)).trans a2, (get_set_ne (by omega)).trans a3⟩, (get_set_ne (by omega)).trans b0, (get_set_ne (by omega)).trans b1, (get_set_ne (by omega)).trans b2, (get_set_ne (by omega)).trans b3, (get_set_ne (by omega)).trans b4⟩
theorem ringD_next {n k : Nat} {D : Array Value} (h : ringD n k D) (hk : k < n) : ringD n (k + 1) (D.setIfInBounds (k * 9) (.int .i64 (2 * k))) := by
  refine ⟨by rw [Array.size_setIfInBounds]; exact h.1, fun i hi => ?_⟩
  have h2 := slotAt_set (j := k) (h.2 i hi) (2 * k)
  by_cases e : i = k
  · subst e
    rw [if_pos rfl] at h2
    rw [if_pos (by omega)]
    exact h2
  · rw [if_neg e] at h2
    have e2 : (if i < k + 1 then 2 * (i : Int) else 0) = if i < k then 2 * (i : Int) else 0 := by
      by_cases h3 : i < k
      · rw [if_pos h3, if_pos (by omega)]
      · rw [if_neg h3, if_neg (by omega)]
    rw [e2]; exact h2
set_option maxRecDepth 100000 in
set_option maxHeartbeats 4000000 in
theorem ringNew_g (n : Nat) (h1 : 1 ≤ n) (h2 : n ≤ 64) : DoesG Try.prog 74 #[.int .i64 n] [] fun e gs => ∃ b g, e = .returned (.tuple #[ptr' b, .int .i64 0]) ∧ isRing b (newRing n) g ∧ gs = [g] := by
  intro w hw
  have T0 := TG.refl hw
  have HT := Lib.hid T0
  clear hw T0
  have hmk : ∀ w, (Instr.makeSlice 180 (.int .i64 (n : Int)) (.int .i64 (n : Int))).run Try.prog w = .ok (.slice (some ⟨w.heap.size, 0, none⟩) n n) (w.alloc (.cells (madeCells slotC (n * 9)) 184)) := run_make_n _ _ (.agg slotC) 9 72 Try.underlying180 slot_info n (by omega) (by omega)
  have hd1 : decide ((n : Int) < 1) = false := by simp; omega
  have hd2 : decide (64 < (n : Int)) = false := by simp; omega
  go_enter Try.func74, Try.ntmps74
  go_wp2
  have T1 := (HT.out.alloc (k := w.heap.size) rfl 184 (madeCells slotC (n * 9))).alloc (k := w.heap.size + 1) (by simp) 182 #[.slice (some ⟨w.heap.size, 0, none⟩) n n, .int .i64 0, .int .i64 0, .int .i64 0, .int .i64 0, .int .i64 0]
  obtain ⟨sb, hsb⟩ : ∃ sb, sb = w.heap.size := ⟨_, rfl⟩
  rw [← hsb] at T1 ⊢
  obtain ⟨rb, hrb⟩ : ∃ rb, rb = sb + 1 := ⟨_, rfl⟩
  rw [← hrb] at T1 ⊢
  go_loopw [5, 21] (fun _ i wr => ∃ (k : Nat) (D : Array Value), k ≤ n ∧ i = .int .i64 k ∧ ringD n k D ∧ TG [] w [[cl sb 184 D], [cl rb 182 #[.slice (some ⟨sb, 0, none⟩) n n, .int .i64 0, .int .i64 0, .int .i64 0, .int .i64 0, .int .i64 0]]] wr) (fun _ i _ => n + 1 - (intOf i).toNat)
  case atStart => exact ⟨0, _, by omega, rfl, ringD_new n, T1⟩
  case round =>
    obtain ⟨k, D, hk, rfl, hD, T⟩ := hrel
    have HT := Lib.hid T
    have HD := Lib.hid hD
    have c1 := T.cell 1 0 rfl
    clear T T1 hD hsb hrb
    by_cases hlt : k < n
    · go_wp2_with fail
      refine (DoesG.use (storeI_g sb (k * 9) 184 D _ (2 * k) (HD.out.2 k hlt).1.1) (HT.out) [0] rfl rfl).mono ?_
      rintro e w1 ⟨gs, ⟨rfl, rfl⟩, Ta⟩
      simp only [PU] at Ta
      have HT := Lib.hid Ta
      clear Ta
      go_wp2
      first
      | (go_roundw
         case rel => exact ⟨k + 1, _, by omega, by go_num, ringD_next HD.out hlt, HT.out⟩
         case measure => simp [intOf]; omega)
      | exact ⟨⟨k + 1, _, by omega, by go_num, ringD_next HD.out hlt, HT.out⟩, by simp [intOf]; omega⟩
      | ((repeat apply Exists.intro); exact ⟨⟨⟨k + 1, _, by omega, by go_num, ringD_next HD.out hlt, HT.out⟩, rfl⟩, by simp [intOf]; omega⟩)
    · obtain rfl : k = n := by omega
      go_wp2
      go_ret2
      refine ⟨_, ⟨_, [cl rb 182 _, cl sb 184 D], rfl, ⟨sb, _, D, rfl, rfl, by simp [newRing], ⟨rfl, 0, 0, 0, rfl, rfl, rfl⟩, rfl, by simpa [newRing] using HD.out.1, fun i s hs => ?_⟩, rfl⟩, HT.out.re (List.Perm.swap _ _ _)⟩
      have hi : i < k := by have := (List.getElem?_eq_some_iff.1 hs).1; simpa [newRing] using this
      have h2 := HD.out.2 i hi
      rw [if_pos hi] at h2
      have e : s = ⟨2 * (i : Int), TaskS.zero⟩ := by simp [newRing, hi] at hs; exact hs.symm
      rw [e]; exact h2
end Go.Proofs.Ytnemggminanbbaa
