import Derived.Test.YtnemggminanbbaaFloorE
import Derived.Test.YtnemggminanbbaaMix
namespace Go.Proofs.Ytnemggminanbbaa
set_option linter.unusedVariables false
set_option linter.unusedSimpArgs false
open Go.RowKit Go.Shelf

/-! ## A lock's methods -/
theorem lockTry1_g (bb : Nat) (now who : Int) (ok : Bool) (hk : (now == 0) = ok) (h : 0 ≤ who ∧ who ≤ 1000000000) :
    DoesG Try.prog 62 #[.int .i64 now, ptr' bb] [[cl bb 3 #[.int .i64 who]]] fun e gs => e = .returned (.tuple #[.int .i64 (who + 1), .bool ok]) ∧ gs = [[cl bb 3 #[.int .i64 who]]] := by
  subst hk
  intro w hw
  have T0 := TG.refl hw
  have HT := Lib.hid T0
  clear hw T0
  have c0 := HT.out.cell 0 0 rfl 0
  simp only [List.getElem?_toArray, List.getElem?_cons_zero] at c0
  obtain ⟨h1, h2⟩ := h
  go_enter Try.func62, Try.ntmps62
  go_wp2
  go_ret2
  exact ⟨_, ⟨by simp, rfl⟩, HT.out⟩
theorem isLock.re {who n y : Int} {C C' : Array Value} (h : C.size = 5 ∧ cellAt C 0 (.int .i64 who) ∧ C[4]? = some (.int .i64 n)) (r : Recell C 0 (.int .i64 y) C') : C'.size = 5 ∧ cellAt C' 0 (.int .i64 y) ∧ C'[4]? = some (.int .i64 n) :=
  ⟨r.size.trans h.1, r.cell, (r.other 4 (by omega)).trans h.2.2⟩
theorem lock_turns {who n m : Int} {C : Array Value} (h : C.size = 5 ∧ cellAt C 0 (.int .i64 who) ∧ C[4]? = some (.int .i64 n)) : (C.setIfInBounds 4 (.int .i64 m)).size = 5 ∧ cellAt (C.setIfInBounds 4 (.int .i64 m)) 0 (.int .i64 who) ∧ (C.setIfInBounds 4 (.int .i64 m))[4]? = some (.int .i64 m) := by
  obtain ⟨hs, ⟨h0, l, t, u, h1, h2, h3⟩, h4⟩ := h
  exact ⟨by simpa using hs, ⟨(get_set_ne (by omega)).trans h0, l, t, u, (get_set_ne (by omega)).trans h1, (get_set_ne (by omega)).trans h2, (get_set_ne (by omega)).trans h3⟩, get_set_eq h4⟩
def tryW (x who : Int) : Int := if x = 0 then who + 1 else x
def tryN (x n : Int) : Int := if x = 0 then n + 1 else n
set_option maxRecDepth 100000 in
theorem lockTry_g {lb : Nat} {x n : Int} {g : List Blk} (who : Int) (hg : isLock lb x n g) (h : 0 ≤ who ∧ who ≤ 1000000000) (hn : 0 ≤ n ∧ n ≤ 1000000000) :
    DoesG Try.prog 29 #[ptr' lb, .int .i64 who] [g] fun e gs => e = .returned (.bool (x == 0)) ∧ ∃ g', isLock lb (tryW x who) (tryN x n) g' ∧ gs = [g'] := by
  obtain ⟨C, rfl, hC⟩ := hg
  intro w hw
  have T0 := TG.refl hw
  have HT := Lib.hid T0
  clear hw T0
  have HC := Lib.hid hC
  have hw0 := h.1
  by_cases hx : x = 0
  · subst hx
    have HB := Lib.hid (lockTry1_g w.heap.size 0 who true rfl h)
    obtain ⟨hn0, hn1⟩ := hn
    clear hC h
    go_enter Try.func29, Try.ntmps29
    go_wp2_with fail
    refine (DoesG.use (turnI_g (caps := #[ptr' w.heap.size]) (g := 62) (bb := w.heap.size) (D := #[.int .i64 who]) HC.out.2.1 (enters_of Try.func62 (by kernel_rfl) rfl) HB.out) ((HT.out.alloc rfl _ _)) [0, 1] rfl rfl).mono ?_
    rintro e w1 ⟨gs, ⟨rfl, C1, hr, rfl⟩, Ta⟩
    simp only [PU] at Ta
    have HC1 := Lib.hid (isLock.re HC.out hr)
    have c4 := (Ta.cell 0 0 rfl 4).trans HC1.out.2.2
    have fc4 := Ta.free 0 0 rfl 4
    clear hr
    have HT := Lib.hid Ta
    clear Ta
    go_wp2
    go_ret
    exact ⟨_, ⟨rfl, _, ⟨_, rfl, lock_turns HC1.out⟩, rfl⟩, (HT.out.set 0 0 rfl 4 _).pick [0] rfl⟩
  · have hb : (x == 0) = false := beq_eq_false_iff_ne.2 hx
    have HB := Lib.hid (lockTry1_g w.heap.size x who false hb h)
    have HX := Lib.hid (show tryW x who = x ∧ tryN x n = n from ⟨if_neg hx, if_neg hx⟩)
    have HBB := Lib.hid hb
    clear hC hx hb h hn
    go_enter Try.func29, Try.ntmps29
    go_wp2_with fail
    refine (DoesG.use (turnI_g (caps := #[ptr' w.heap.size]) (g := 62) (bb := w.heap.size) (D := #[.int .i64 who]) HC.out.2.1 (enters_of Try.func62 (by kernel_rfl) rfl) HB.out) ((HT.out.alloc rfl _ _)) [0, 1] rfl rfl).mono ?_
    rintro e w1 ⟨gs, ⟨rfl, C1, hr, rfl⟩, Ta⟩
    simp only [PU] at Ta
    have HC1 := Lib.hid (isLock.re HC.out hr)
    clear hr
    have HT := Lib.hid Ta
    clear Ta
    go_wp2
    go_ret
    exact ⟨_, ⟨by rw [HBB.out]; rfl, _, ⟨_, rfl, by rw [HX.out.1, HX.out.2]; exact HC1.out⟩, rfl⟩, HT.out.pick [0] rfl⟩
theorem lockTry_neg {lb : Nat} {x n : Int} {g : List Blk} (who : Int) (hg : isLock lb x n g) (h : who < 0) :
    DoesG Try.prog 29 #[ptr' lb, .int .i64 who] [g] fun e gs => e = .returned (.bool false) ∧ gs = [g] := by
  obtain ⟨C, rfl, hC⟩ := hg
  intro w hw
  have T0 := TG.refl hw
  have HT := Lib.hid T0
  clear hw T0
  clear hC
  go_enter Try.func29, Try.ntmps29
  go_wp2
  go_ret
  exact ⟨_, ⟨rfl, rfl⟩, (HT.out.alloc rfl _ _).pick [0] rfl⟩
theorem lockOwner_no {lb : Nat} {n : Int} {g : List Blk} (hg : isLock lb 0 n g) :
    DoesG Try.prog 30 #[ptr' lb] [g] fun e gs => e = .returned (.tuple #[.int .i64 0, .bool false]) ∧ ∃ g', isLock lb 0 n g' ∧ gs = [g'] := by
  obtain ⟨C, rfl, hC⟩ := hg
  intro w hw
  have T0 := TG.refl hw
  have HT := Lib.hid T0
  clear hw T0
  have HC := Lib.hid hC
  clear hC
  go_enter Try.func30, Try.ntmps30
  go_wp2_with fail
  refine (DoesG.use (cellG (loadI_does lb 0 _ C 0 HC.out.2.1)) (HT.out) [0] rfl rfl).mono ?_
  rintro e w1 ⟨gs, ⟨rfl, C1, hr, rfl⟩, Ta⟩
  simp only [PU] at Ta
  have HC1 := Lib.hid (isLock.re HC.out hr)
  clear hr
  have HT := Lib.hid Ta
  clear Ta
  go_wp2
  go_ret2
  exact ⟨_, ⟨rfl, _, ⟨_, rfl, HC1.out⟩, rfl⟩, HT.out⟩
theorem lockOwner_yes {lb : Nat} {who n : Int} {g : List Blk} (hg : isLock lb (who + 1) n g) (h : 0 ≤ who ∧ who ≤ 1000000000) :
    DoesG Try.prog 30 #[ptr' lb] [g] fun e gs => e = .returned (.tuple #[.int .i64 who, .bool true]) ∧ ∃ g', isLock lb (who + 1) n g' ∧ gs = [g'] := by
  obtain ⟨C, rfl, hC⟩ := hg
  intro w hw
  have T0 := TG.refl hw
  have HT := Lib.hid T0
  clear hw T0
  have HC := Lib.hid hC
  obtain ⟨h0, h1⟩ := h
  have hb : ((who + 1 : Int) == 0) = false := beq_eq_false_iff_ne.2 (by omega)
  clear hC
  go_enter Try.func30, Try.ntmps30
  go_wp2_with fail
  refine (DoesG.use (cellG (loadI_does lb 0 _ C (who + 1) HC.out.2.1)) (HT.out) [0] rfl rfl).mono ?_
  rintro e w1 ⟨gs, ⟨rfl, C1, hr, rfl⟩, Ta⟩
  simp only [PU] at Ta
  have HC1 := Lib.hid (isLock.re HC.out hr)
  clear hr
  have HT := Lib.hid Ta
  clear Ta
  go_wp2_with fail
  refine (DoesG.use (cellG (loadI_does lb 0 _ C1 (who + 1) HC1.out.2.1)) (HT.out) [0] rfl rfl).mono ?_
  rintro e w1 ⟨gs, ⟨rfl, C2, hr, rfl⟩, Ta⟩
  simp only [PU] at Ta
  have HC2 := Lib.hid (isLock.re HC1.out hr)
  clear hr
  have HT := Lib.hid Ta
  clear Ta
  go_wp2
  go_ret2
  exact ⟨_, ⟨by simp, _, ⟨_, rfl, HC2.out⟩, rfl⟩, HT.out⟩

/-! ## What a shard has -/
def shardB (b rb lb wb : Nat) : List Blk := [cl b 154 #[ptr' rb, ptr' lb, ptr' wb]]
set_option maxRecDepth 100000 in
theorem shardParts_g (b rb lb wb : Nat) : DoesG Try.prog 60 #[ptr' b] [shardB b rb lb wb] fun e gs => e = .returned (.agg #[ptr' rb, ptr' lb, ptr' wb]) ∧ gs = [shardB b rb lb wb] := by
  intro w hw
  have T0 := TG.refl hw
  have HT := Lib.hid T0
  clear hw T0
  simp only [shardB] at HT ⊢
  have c0 := HT.out.cell 0 0 rfl 0
  have c1 := HT.out.cell 0 0 rfl 1
  have c2 := HT.out.cell 0 0 rfl 2
  have hlt := HT.out.lt 0 0 rfl
  simp only [List.getElem?_toArray, List.getElem?_cons_zero, List.getElem?_cons_succ] at c0 c1 c2 hlt
  go_enter Try.func60, Try.ntmps60
  go_wp2
  exact bodyPost_ret (v := .agg #[ptr' rb, ptr' lb, ptr' wb]) (by simp [results, Try.results60, go_sem]) rfl ⟨_, ⟨rfl, rfl⟩, HT.out.alloc0 _⟩
theorem inner_field (a b c : Value) (w : World) : (Instr.field 127 (.agg #[a, b, c]) 0).run Try.prog w = .ok a w ∧ (Instr.field 127 (.agg #[a, b, c]) 1).run Try.prog w = .ok b w ∧ (Instr.field 127 (.agg #[a, b, c]) 2).run Try.prog w = .ok c w := ⟨by kernel_rfl, by kernel_rfl, by kernel_rfl⟩
set_option maxRecDepth 100000 in
theorem shardLock_g (b rb lb wb : Nat) : DoesG Try.prog 28 #[ptr' b] [shardB b rb lb wb] fun e gs => e = .returned (ptr' lb) ∧ gs = [shardB b rb lb wb] := by
  intro w hw
  have T0 := TG.refl hw
  have HT := Lib.hid T0
  clear hw T0
  go_enter Try.func28, Try.ntmps28
  go_wp2_with fail
  refine (DoesG.use (shardParts_g b rb lb wb) (HT.out) [0] rfl rfl).mono ?_
  rintro e w1 ⟨gs, ⟨rfl, rfl⟩, Ta⟩
  simp only [PU] at Ta
  have HT := Lib.hid Ta
  clear Ta
  have hf := fun w => (inner_field (ptr' rb) (ptr' lb) (ptr' wb) w).2.1
  go_wp2
  go_ret
  exact ⟨_, ⟨rfl, rfl⟩, HT.out⟩
end Go.Proofs.Ytnemggminanbbaa
