import Derived.Test.YtblhfbcodbjgcaaGreatTU6
import Derived.Test.YtblhfbcodbjgcaaGreatTU2
import Derived.Test.YtblhfbcodbjgcaaGreatTU5
import Derived.Laws.Externs
import Derived.Deep.RegionLaw
import Derived.Deep.DeepCutAuto
import Derived.Deep.CutBlock
import Derived.WalkSpells
import Derived.Test.YtblhfbcodbjgcaaGreatTU4
namespace Go.Proofs.YtblhfbcodbjgcaaGreat
set_option linter.unusedVariables false
set_option linter.unusedSimpArgs false
open Go.RowKit Go.Shelf
theorem lockTry1_g (bb : Nat) (now who : Int) (ok : Bool) (hk : (now == 0) = ok) (h : 0 ≤ who ∧ who ≤ 1000000000) :
    DoesG Tryz.prog 279 #[.int .i64 now, ptr' bb] [[cl bb 3 #[.int .i64 who]]] fun e gs => e = .returned (.tuple #[.int .i64 (who + 1), .bool ok]) ∧ gs = [[cl bb 3 #[.int .i64 who]]] := by
  subst hk
  intro w hw
  have T0 := TG.refl hw
  have HT := Lib.hid T0
  clear hw T0
  have c0 := HT.out.cell 0 0 rfl 0
  simp only [List.getElem?_toArray, List.getElem?_cons_zero] at c0
  obtain ⟨h1, h2⟩ := h
  go_enter Tryz.func279, Tryz.ntmps279
  go_wp2
  go_ret2
  exact ⟨_, ⟨by simp, rfl⟩, HT.out⟩
theorem isLock.re {who n y : Int} {C C' : Array Value} (h : C.size = 5 ∧ cellAt C 0 (.int .i64 who) ∧ C[4]? = some (.int .i64 n)) (r : Recell C 0 (.int .i64 y) C') : C'.size = 5 ∧ cellAt C' 0 (.int .i64 y) ∧ C'[4]? = some (.int .i64 n) :=
  ⟨r.size.trans h.1, r.cell, (r.other 4 (by omega)).trans h.2.2⟩
theorem lock_turns {who n m : Int} {C : Array Value} (h : C.size = 5 ∧ cellAt C 0 (.int .i64 who) ∧ C[4]? = some (.int .i64 n)) : (C.setIfInBounds 4 (.int .i64 m)).size = 5 ∧ cellAt (C.setIfInBounds 4 (.int .i64 m)) 0 (.int .i64 who) ∧ (C.setIfInBounds 4 (.int .i64 m))[4]? = some (.int .i64 m) := by
  obtain ⟨hs, ⟨h0, l, t, u, h1, h2, h3⟩, h4⟩ := h
  exact ⟨by simpa using hs, ⟨(get_set_ne (by omega)).trans h0, l, t, u, (get_set_ne (by omega)).trans h1, (get_set_ne (by omega)).trans h2, (get_set_ne (by omega)).trans h3⟩, get_set_eq h4⟩
def tryW (x who : Int) : Int := if x = 0 then who + 1 else x
def tryN (x n : Int) : Int := if x = 0 then n + 1 else n
set_option maxRecDepth 100000 in
theorem lockTry_g {lb : Nat} {x n : Int} {g : List Blk} (who : Int) (hg : isLock lb x n g) (h : 0 ≤ who ∧ who ≤ 1000000000) (hn : 0 ≤ n ∧ n ≤ 1000000000) :
    DoesG Tryz.prog 257 #[ptr' lb, .int .i64 who] [g] fun e gs => e = .returned (.bool (x == 0)) ∧ ∃ g', isLock lb (tryW x who) (tryN x n) g' ∧ gs = [g'] := by
  obtain ⟨C, rfl, hC⟩ := hg
  intro w hw
  have T0 := TG.refl hw
  have HT := Lib.hid T0
  clear hw T0
  have HC := Lib.hid hC
  have hw0 := h.1
  by_cases hx : x = 0
  · subst hx
    have HB := Lib.hid (lockTry1_g w.heap.size 0 who true rfl h)
    obtain ⟨hn0, hn1⟩ := hn
    clear hC h
    go_enter Tryz.func257, Tryz.ntmps257
    go_wp2_with fail
    refine (DoesG.use (turnI_g (caps := #[ptr' w.heap.size]) (g := 279) (bb := w.heap.size) (D := #[.int .i64 who]) HC.out.2.1 (enters_of Tryz.func279 (by kernel_rfl) rfl) HB.out) ((HT.out.alloc rfl _ _)) [0, 1] rfl rfl).mono ?_
    rintro e w1 ⟨gs, ⟨rfl, C1, hr, rfl⟩, Ta⟩
    simp only [PU] at Ta
    have HC1 := Lib.hid (isLock.re HC.out hr)
    have c4 := (Ta.cell 0 0 rfl 4).trans HC1.out.2.2
    have fc4 := Ta.free 0 0 rfl 4
    clear hr
    have HT := Lib.hid Ta
    clear Ta
    go_wp2
    go_ret
    exact ⟨_, ⟨rfl, _, ⟨_, rfl, lock_turns HC1.out⟩, rfl⟩, (HT.out.set 0 0 rfl 4 _).pick [0] rfl⟩
  · have hb : (x == 0) = false := beq_eq_false_iff_ne.2 hx
    have HB := Lib.hid (lockTry1_g w.heap.size x who false hb h)
    have HX := Lib.hid (show tryW x who = x ∧ tryN x n = n from ⟨if_neg hx, if_neg hx⟩)
    have HBB := Lib.hid hb
    clear hC hx hb h hn
    go_enter Tryz.func257, Tryz.ntmps257
    go_wp2_with fail
    refine (DoesG.use (turnI_g (caps := #[ptr' w.heap.size]) (g := 279) (bb := w.heap.size) (D := #[.int .i64 who]) HC.out.2.1 (enters_of Tryz.func279 (by kernel_rfl) rfl) HB.out) ((HT.out.alloc rfl _ _)) [0, 1] rfl rfl).mono ?_
    rintro e w1 ⟨gs, ⟨rfl, C1, hr, rfl⟩, Ta⟩
    simp only [PU] at Ta
    have HC1 := Lib.hid (isLock.re HC.out hr)
    clear hr
    have HT := Lib.hid Ta
    clear Ta
    go_wp2
    go_ret
    exact ⟨_, ⟨by rw [HBB.out]; rfl, _, ⟨_, rfl, by rw [HX.out.1, HX.out.2]; exact HC1.out⟩, rfl⟩, HT.out.pick [0] rfl⟩
theorem lockMay_g {lb : Nat} {x n : Int} {g : List Blk} (who : Int) (hg : isLock lb x n g) :
    DoesG Tryz.prog 255 #[ptr' lb, .int .i64 who] [g] fun e gs => e = .returned (.bool (decide (0 ≤ who) && x == 0)) ∧ ∃ g', isLock lb x n g' ∧ gs = [g'] := by
  obtain ⟨C, rfl, hC⟩ := hg
  intro w hw
  have T0 := TG.refl hw
  have HT := Lib.hid T0
  clear hw T0
  have HC := Lib.hid hC
  clear hC
  by_cases hw : 0 ≤ who
  · have HW := Lib.hid (show decide (0 ≤ who) = true from by simpa using hw)
    go_enter Tryz.func255, Tryz.ntmps255
    go_wp2_with fail
    refine (DoesG.use (cellG (loadI_does lb 0 _ C x HC.out.2.1)) (HT.out) [0] rfl rfl).mono ?_
    rintro e w1 ⟨gs, ⟨rfl, C1, hr, rfl⟩, Ta⟩
    simp only [PU] at Ta
    have HC1 := Lib.hid (isLock.re HC.out hr)
    clear hr
    have HT := Lib.hid Ta
    clear Ta
    go_wp2
    go_ret
    exact ⟨_, ⟨by rw [HW.out, Bool.true_and]; rfl, _, ⟨_, rfl, HC1.out⟩, rfl⟩, HT.out⟩
  · have HW := Lib.hid (show decide (0 ≤ who) = false from by simpa using hw)
    go_enter Tryz.func255, Tryz.ntmps255
    go_wp2
    go_ret
    exact ⟨_, ⟨by rw [HW.out, Bool.false_and]; rfl, _, ⟨_, rfl, HC.out⟩, rfl⟩, HT.out⟩
theorem lockTurns_g {lb : Nat} {x n : Int} {g : List Blk} (hg : isLock lb x n g) : DoesG Tryz.prog 39 #[ptr' lb] [g] fun e gs => e = .returned (.int .i64 n) ∧ gs = [g] := by
  obtain ⟨C, rfl, hC⟩ := hg
  intro w hw
  have T0 := TG.refl hw
  have HT := Lib.hid T0
  clear hw T0
  have c4 := (HT.out.cell 0 0 rfl 4).trans hC.2.2
  clear hC
  go_enter Tryz.func39, Tryz.ntmps39
  go_wp2
  go_ret
  exact ⟨_, ⟨rfl, rfl⟩, HT.out⟩
theorem lockLeave1_g (bb : Nat) (now who : Int) (ok : Bool) (hk : (now == who + 1) = ok) (h : 0 ≤ who ∧ who ≤ 1000000000) :
    DoesG Tryz.prog 289 #[.int .i64 now, ptr' bb] [[cl bb 3 #[.int .i64 who]]] fun e gs => e = .returned (.tuple #[.int .i64 0, .bool ok]) ∧ gs = [[cl bb 3 #[.int .i64 who]]] := by
  subst hk
  intro w hw
  have T0 := TG.refl hw
  have HT := Lib.hid T0
  clear hw T0
  have c0 := HT.out.cell 0 0 rfl 0
  simp only [List.getElem?_toArray, List.getElem?_cons_zero] at c0
  obtain ⟨h1, h2⟩ := h
  go_enter Tryz.func289, Tryz.ntmps289
  go_wp2
  try go_quiet (fail)
  try go_wp2
  go_ret2
  first | exact ⟨_, ⟨by simp, rfl⟩, HT.out.drewN _⟩ | exact ⟨_, ⟨by simp, rfl⟩, HT.out⟩
theorem lockLeave_g {lb : Nat} {n : Int} {g : List Blk} (who : Int) (hg : isLock lb (who + 1) n g) (h : 0 ≤ who ∧ who ≤ 1000000000) :
    DoesG Tryz.prog 267 #[ptr' lb, .int .i64 who] [g] fun e gs => e = .returned (.int .i64 0) ∧ ∃ g', isLock lb 0 n g' ∧ gs = [g'] := by
  obtain ⟨C, rfl, hC⟩ := hg
  intro w hw
  have T0 := TG.refl hw
  have HT := Lib.hid T0
  clear hw T0
  have HC := Lib.hid hC
  have hw0 := h.1
  have HB := Lib.hid (lockLeave1_g w.heap.size (who + 1) who true (by simp) h)
  clear hC h
  go_enter Tryz.func267, Tryz.ntmps267
  go_wp2_with fail
  refine (DoesG.use (turnI_g (caps := #[ptr' w.heap.size]) (g := 289) (bb := w.heap.size) (D := #[.int .i64 who]) HC.out.2.1 (enters_of Tryz.func289 (by kernel_rfl) rfl) HB.out) ((HT.out.alloc rfl _ _)) [0, 1] rfl rfl).mono ?_
  rintro e w1 ⟨gs, ⟨rfl, C1, hr, rfl⟩, Ta⟩
  simp only [PU] at Ta
  have HC1 := Lib.hid (isLock.re HC.out hr)
  clear hr
  have HT := Lib.hid Ta
  clear Ta
  go_wp2
  go_ret
  exact ⟨_, ⟨rfl, _, ⟨_, rfl, HC1.out⟩, rfl⟩, HT.out.pick [0] rfl⟩
def shardB (b rb lb wb : Nat) : List Blk := [cl b 220 #[ptr' rb, ptr' lb, ptr' wb]]
set_option maxRecDepth 100000 in
theorem shardParts_g (b rb lb wb : Nat) : DoesG Tryz.prog 91 #[ptr' b] [shardB b rb lb wb] fun e gs => e = .returned (.agg #[ptr' rb, ptr' lb, ptr' wb]) ∧ gs = [shardB b rb lb wb] := by
  intro w hw
  have T0 := TG.refl hw
  have HT := Lib.hid T0
  clear hw T0
  simp only [shardB] at HT ⊢
  have c0 := HT.out.cell 0 0 rfl 0
  have c1 := HT.out.cell 0 0 rfl 1
  have c2 := HT.out.cell 0 0 rfl 2
  have hlt := HT.out.lt 0 0 rfl
  simp only [List.getElem?_toArray, List.getElem?_cons_zero, List.getElem?_cons_succ] at c0 c1 c2 hlt
  go_enter Tryz.func91, Tryz.ntmps91
  go_wp2
  exact bodyPost_ret (v := .agg #[ptr' rb, ptr' lb, ptr' wb]) (by simp [results, Tryz.results91, go_sem]) rfl ⟨_, ⟨rfl, rfl⟩, HT.out.alloc0 _⟩
theorem inner_field (a b c : Value) (w : World) : (Instr.field 156 (.agg #[a, b, c]) 0).run Tryz.prog w = .ok a w ∧ (Instr.field 156 (.agg #[a, b, c]) 1).run Tryz.prog w = .ok b w ∧ (Instr.field 156 (.agg #[a, b, c]) 2).run Tryz.prog w = .ok c w := ⟨by kernel_rfl, by kernel_rfl, by kernel_rfl⟩
set_option maxRecDepth 100000 in
theorem shardLock_g (b rb lb wb : Nat) : DoesG Tryz.prog 38 #[ptr' b] [shardB b rb lb wb] fun e gs => e = .returned (ptr' lb) ∧ gs = [shardB b rb lb wb] := by
  intro w hw
  have T0 := TG.refl hw
  have HT := Lib.hid T0
  clear hw T0
  go_enter Tryz.func38, Tryz.ntmps38
  go_wp2_with fail
  refine (DoesG.use (shardParts_g b rb lb wb) (HT.out) [0] rfl rfl).mono ?_
  rintro e w1 ⟨gs, ⟨rfl, rfl⟩, Ta⟩
  simp only [PU] at Ta
  have HT := Lib.hid Ta
  clear Ta
  have hf := fun w => (inner_field (ptr' rb) (ptr' lb) (ptr' wb) w).2.1
  go_wp2
  go_ret
  exact ⟨_, ⟨rfl, rfl⟩, HT.out⟩
end Go.Proofs.YtblhfbcodbjgcaaGreat

namespace Go.Proofs.YtblhfbcodbjgcaaGreat
set_option linter.unusedVariables false
set_option linter.unusedSimpArgs false
open Go.RowKit Go.Shelf
section
variable {rb sb tb : Nat} {r : RingS} {t : TickS} {C D : Array Value} {g : List Blk}
theorem ringBegin_g (rb : Nat) : DoesG Tryz.prog 197 #[ptr' rb] [] fun e gs => ∃ tb, e = .returned (ptr' tb) ∧ gs = [tickG tb rb newTick] := by
  intro w hw
  have T0 := TG.refl hw
  have HT := Lib.hid T0
  clear hw T0
  go_enter Tryz.func197, Tryz.ntmps197
  go_wp2
  go_ret
  exact ⟨_, ⟨_, rfl, rfl⟩, HT.out.alloc rfl _ _⟩
set_option maxRecDepth 100000 in
theorem tickStep_g (hg : isRing rb r g) (hr : RingB r) (ht : TickB t) : DoesG Tryz.prog 198 #[ptr' tb] [tickG tb rb t, g] fun e gs =>
    e = .returned (.int .i64 (stepT r t).2.status) ∧ ∃ g', isRing rb (stepT r t).1 g' ∧ gs = [tickG tb rb (stepT r t).2, g'] := by
  intro w hw
  have T0 := TG.refl hw
  have HT := Lib.hid T0
  clear hw T0
  have HL := Lib.hid (tickLook_g (tb := tb) (t := t) hg)
  have HWE := Lib.hid (tickWeigh_g (tb := tb) (t := t) hg hr ht)
  have HTK := Lib.hid (tickTake_g (tb := tb) (t := t) hg ht)
  have HG := Lib.hid hg
  have hst : t.status = 0 ∨ t.status ≠ 0 := by omega
  have hnx := ht.nx
  have HW0 := Lib.hid (show t.status ≠ 0 → stepT r t = (r, t) from fun h => if_pos h)
  have HW1 := Lib.hid (show t.status = 0 → t.next = 0 → stepT r t = (r, lookT r t) from fun h h1 => (if_neg (by omega)).trans (if_pos h1))
  have HW2 := Lib.hid (show t.status = 0 → t.next = 1 → stepT r t = (r, weighT r t) from fun h h1 => (if_neg (by omega)).trans ((if_neg (by omega)).trans (if_pos h1)))
  have HW3 := Lib.hid (show t.status = 0 → t.next = 2 → stepT r t = takeT r t from fun h h1 => (if_neg (by omega)).trans ((if_neg (by omega)).trans (if_neg (by omega))))
  have t2 := HT.out.cell 0 0 rfl 2
  have t3 := HT.out.cell 0 0 rfl 3
  simp only [tickC, List.getElem?_toArray, List.getElem?_cons_zero, List.getElem?_cons_succ] at t2 t3
  have lt := HT.out.lt 0 0 rfl
  simp only [] at lt
  clear hg hr ht
  rcases hst with hst | hst
  · rcases hnx with hnx | hnx | hnx
    · have HS := Lib.hid (HW1.out hst hnx)
      rw [hst] at t3
      rw [hnx] at t2
      clear hst hnx
      go_enter Tryz.func198, Tryz.ntmps198
      go_wp2_with fail
      refine (DoesG.use (HL.out) (HT.out.put rfl _) [0, 1] rfl rfl).mono ?_
      rintro e w1 ⟨gs, ⟨rfl, g', hg', rfl⟩, Ta⟩
      simp only [putG, List.set_cons_zero, List.set_cons_succ, List.cons_append, List.nil_append, List.append_nil] at Ta
      have t3 := Ta.cell 0 0 rfl 3
      simp only [tickC, List.getElem?_toArray, List.getElem?_cons_zero, List.getElem?_cons_succ] at t3
      have HT := Lib.hid Ta
      clear Ta
      go_wp2
      go_ret
      exact ⟨_, ⟨by rw [HS.out]; rfl, g', by rw [HS.out]; exact hg', rfl⟩, (HT.out.pick [0, 1] rfl).eq (by rw [HS.out]; rfl)⟩
    · have HS := Lib.hid (HW2.out hst hnx)
      rw [hst] at t3
      rw [hnx] at t2
      clear hst hnx
      go_enter Tryz.func198, Tryz.ntmps198
      go_wp2_with fail
      refine (DoesG.use (HWE.out) (HT.out.put rfl _) [0, 1] rfl rfl).mono ?_
      rintro e w1 ⟨gs, ⟨rfl, g', hg', rfl⟩, Ta⟩
      simp only [putG, List.set_cons_zero, List.set_cons_succ, List.cons_append, List.nil_append, List.append_nil] at Ta
      have t3 := Ta.cell 0 0 rfl 3
      simp only [tickC, List.getElem?_toArray, List.getElem?_cons_zero, List.getElem?_cons_succ] at t3
      have HT := Lib.hid Ta
      clear Ta
      go_wp2
      go_ret
      exact ⟨_, ⟨by rw [HS.out]; rfl, g', by rw [HS.out]; exact hg', rfl⟩, (HT.out.pick [0, 1] rfl).eq (by rw [HS.out]; rfl)⟩
    · have HS := Lib.hid (HW3.out hst hnx)
      rw [hst] at t3
      rw [hnx] at t2
      clear hst hnx
      go_enter Tryz.func198, Tryz.ntmps198
      go_wp2_with fail
      refine (DoesG.use (HTK.out) (HT.out.put rfl _) [0, 1] rfl rfl).mono ?_
      rintro e w1 ⟨gs, ⟨rfl, g', hg', rfl⟩, Ta⟩
      simp only [putG, List.set_cons_zero, List.set_cons_succ, List.cons_append, List.nil_append, List.append_nil] at Ta
      have t3 := Ta.cell 0 0 rfl 3
      simp only [tickC, List.getElem?_toArray, List.getElem?_cons_zero, List.getElem?_cons_succ] at t3
      have HT := Lib.hid Ta
      clear Ta
      go_wp2
      go_ret
      exact ⟨_, ⟨by rw [HS.out]; rfl, g', by rw [HS.out]; exact hg', rfl⟩, (HT.out.pick [0, 1] rfl).eq (by rw [HS.out]; rfl)⟩
  · have HS := Lib.hid (HW0.out hst)
    have hb : (t.status == 0) = false := beq_eq_false_iff_ne.2 hst
    clear hst hnx
    go_enter Tryz.func198, Tryz.ntmps198
    go_wp2
    go_ret
    exact ⟨_, ⟨by rw [HS.out]; rfl, g, by rw [HS.out]; exact HG.out, rfl⟩, ((HT.out.put rfl _).pick [0, 1] rfl).eq (by rw [HS.out]; rfl)⟩
theorem storeC_g (b o : Nat) (T : TypeId) (C : Array Value) (y x : Int) (hc : cellAt C o (.int .i64 y)) :
    DoesG Tryz.prog 145 #[.pointer (some ⟨b, o, none⟩), .int .i64 x] [[cl b T C]] fun e gs => e = .returned (.tuple #[]) ∧ gs = [[cl b T (C.setIfInBounds o (.int .i64 x))]] := storeI_g b o T C _ x hc.1
theorem slotsD.fill {l : List SlotS} {D : Array Value} {k : Nat} {s : SlotS} (h : slotsD l D) (hk : l[k]? = some s) (v : TaskS) (n : Int) : slotsD (l.set k ⟨n, v⟩) ((putTask D (k * 9 + 4) v).setIfInBounds (k * 9) (.int .i64 n)) := by
  have h1 := h.putV hk v
  have hk1 : (l.set k { s with v := v })[k]? = some { s with v := v } := by rw [List.getElem?_set, if_pos rfl, if_pos (List.getElem?_eq_some_iff.1 hk).1]
  obtain ⟨⟨a0, l0, t0, u0, a1, a2, a3⟩, b⟩ := h1.at_ k _ hk1
  refine ⟨?_, fun i s' hs => ?_⟩
  · rw [Array.size_setIfInBounds, h1.size]; simp
  · rw [List.getElem?_set] at hs
    by_cases e : k = i
    · subst e
      rw [if_pos rfl, if_pos (List.getElem?_eq_some_iff.1 hk).1] at hs
      cases hs
      obtain ⟨b0, b1, b2, b3, b4⟩ := b
      exact ⟨⟨get_set_eq a0, l0, t0, u0, (get_set_ne (by omega)).trans a1, (get_set_ne (by omega)).trans a2, (get_set_ne (by omega)).trans a3⟩, (get_set_ne (by omega)).trans b0, (get_set_ne (by omega)).trans b1, (get_set_ne (by omega)).trans b2, (get_set_ne (by omega)).trans b3, (get_set_ne (by omega)).trans b4⟩
    · rw [if_neg e] at hs
      have hs1 : (l.set k { s with v := v })[i]? = some s' := by rw [List.getElem?_set, if_neg e]; exact hs
      obtain ⟨⟨a0, l0, t0, u0, a1, a2, a3⟩, b0, b1, b2, b3, b4⟩ := h1.at_ i s' hs1
      exact ⟨⟨(get_set_ne (by omega)).trans a0, l0, t0, u0, (get_set_ne (by omega)).trans a1, (get_set_ne (by omega)).trans a2, (get_set_ne (by omega)).trans a3⟩, (get_set_ne (by omega)).trans b0, (get_set_ne (by omega)).trans b1, (get_set_ne (by omega)).trans b2, (get_set_ne (by omega)).trans b3, (get_set_ne (by omega)).trans b4⟩
set_option maxRecDepth 100000 in
theorem tickFill_yes (v : TaskS) (hg : isRing rb r g) (hr : RingB r) (ht : TickB t) (hh : t.status = 2 ∧ t.filled = false) : DoesG Tryz.prog 234 #[ptr' tb, .agg v.cells] [tickG tb rb t, g] fun e gs =>
    e = .returned (.int .i64 0) ∧ ∃ g', isRing rb { r with slots := r.slots.set (r.at t.pos) ⟨2 * t.pos + 1, v⟩ } g' ∧ gs = [tickG tb rb { t with filled := true }, g'] := by
  obtain ⟨sb, C, D, rfl, hC, hD⟩ := hg.open
  obtain ⟨ha, hal, hav⟩ := ring_at hr.n0 t.pos
  intro w hw
  have T0 := TG.refl hw
  have HT := Lib.hid T0
  clear hw T0
  have HC := Lib.hid hC
  have HD := Lib.hid hD
  have HA := Lib.hid (ringAt_r (rb := rb) hC hr t.pos ht.p0 ht.p1)
  simp only [tickG] at HT ⊢
  have HT := Lib.hid (HT.out.eq (H' := [[cl tb 332 (tickC rb t)], [cl rb 231 C], [cl sb 233 D]]) rfl)
  have HV := Lib.hid (hD.fill ha v (2 * t.pos + 1))
  have HCS := Lib.hid (hC.withSlots (l := r.slots.set (r.at t.pos) ⟨2 * t.pos + 1, v⟩) (List.length_set ..))
  have hcell := (hD.at_ _ _ ha).1
  generalize r.slot t.pos = s at *
  generalize r.at t.pos = k at *
  have p0 := ht.p0
  have p1 := ht.p1
  obtain ⟨e0, e1, e2, e3, e4⟩ := (hD.at_ _ _ ha).2
  obtain ⟨pos, nx, st, fi⟩ := t
  simp only at HA HV HCS p0 p1 hh
  obtain ⟨rfl, rfl⟩ := hh
  have HP := Lib.hid (show cellAt (putTask D (k * 9 + 4) v) (k * 9) (.int .i64 s.seq) from by
    obtain ⟨a0, l0, t0, u0, a1, a2, a3⟩ := hcell
    exact ⟨(putTask_ne (by omega)).trans a0, l0, t0, u0, (putTask_ne (by omega)).trans a1, (putTask_ne (by omega)).trans a2, (putTask_ne (by omega)).trans a3⟩)
  have HE := Lib.hid (And.intro e0 (And.intro e1 (And.intro e2 (And.intro e3 e4))))
  have lt := HT.out.lt 0 0 rfl
  simp only [] at lt
  have t0 := HT.out.cell 0 0 rfl 0
  have t1 := HT.out.cell 0 0 rfl 1
  have t3 := HT.out.cell 0 0 rfl 3
  have t4 := HT.out.cell 0 0 rfl 4
  have f4 := HT.out.free 0 0 rfl 4
  simp only [tickC, List.getElem?_toArray, List.getElem?_cons_zero, List.getElem?_cons_succ] at t0 t1 t3 t4
  clear hC hD hg ha hav ht hr hal e0 e1 e2 e3 e4 hcell
  simp only [TaskS.cells]
  go_enter Tryz.func234, Tryz.ntmps234
  go_wp2
  have HT := Lib.hid ((HT.out.set 0 0 rfl 4 (.bool true)).alloc (k := w.heap.size) (by simp) 40 #[.int .u64 v.id, .int .i64 v.slot, .int .u64 v.gen, .int .u64 v.dl, .int .u64 v.per])
  clear t0 t1 t3 t4 f4 lt
  generalize World.alloc _ _ = w1 at HT ⊢
  simp only [List.set_cons_zero, List.cons_append, List.nil_append] at HT
  have t0 := HT.out.cell 0 0 rfl 0
  have t1 := HT.out.cell 0 0 rfl 1
  have b0 := HT.out.cell 3 0 rfl 0
  have b1 := HT.out.cell 3 0 rfl 1
  have b2 := HT.out.cell 3 0 rfl 2
  have b3 := HT.out.cell 3 0 rfl 3
  have b4 := HT.out.cell 3 0 rfl 4
  simp only [tickC, List.getElem?_toArray, List.getElem?_cons_zero, List.getElem?_cons_succ] at t0 t1 b0 b1 b2 b3 b4
  have d0 := (HT.out.cell 2 0 rfl (k * 9 + 4)).trans HE.out.1
  have d1 := (HT.out.cell 2 0 rfl (k * 9 + 4 + 1)).trans HE.out.2.1
  have d2 := (HT.out.cell 2 0 rfl (k * 9 + 4 + 2)).trans HE.out.2.2.1
  have d3 := (HT.out.cell 2 0 rfl (k * 9 + 4 + 3)).trans HE.out.2.2.2.1
  have d4 := (HT.out.cell 2 0 rfl (k * 9 + 4 + 4)).trans HE.out.2.2.2.2
  have g0 := HT.out.free 2 0 rfl (k * 9 + 4)
  have g1 := HT.out.free 2 0 rfl (k * 9 + 4 + 1)
  have g2 := HT.out.free 2 0 rfl (k * 9 + 4 + 2)
  have g3 := HT.out.free 2 0 rfl (k * 9 + 4 + 3)
  have g4 := HT.out.free 2 0 rfl (k * 9 + 4 + 4)
  have n1 := HT.out.ne 0 0 2 0 (by decide) rfl rfl
  simp only [] at n1
  go_quiet ((first | (go_at_call 144; with_reducible exact ReadsG.quiet (HA.out) HT.out _ [1] rfl rfl)))
  have HT := Lib.hid (HT.out.drewN nq)
  go_wp2
  have HT := Lib.hid ((((((HT.out.set 2 0 rfl (k * 9 + 4) (.int .u64 v.id)).set 2 0 rfl (k * 9 + 4 + 1) (.int .i64 v.slot)).set 2 0 rfl (k * 9 + 4 + 2) (.int .u64 v.gen)).set 2 0 rfl (k * 9 + 4 + 3) (.int .u64 v.dl)).set 2 0 rfl (k * 9 + 4 + 4) (.int .u64 v.per)).eq (H' := [[cl tb 332 (tickC rb ⟨pos, nx, 2, true⟩)], [cl rb 231 C], [cl sb 233 (putTask D (k * 9 + 4) v)], [cl w.heap.size 40 #[.int .u64 v.id, .int .i64 v.slot, .int .u64 v.gen, .int .u64 v.dl, .int .u64 v.per]]]) rfl)
  clear t0 t1 b0 b1 b2 b3 b4 d0 d1 d2 d3 d4 g0 g1 g2 g3 g4 n1
  generalize World.setCell _ _ _ = w2 at HT ⊢
  have t1 := HT.out.cell 0 0 rfl 1
  simp only [tickC, List.getElem?_toArray, List.getElem?_cons_zero, List.getElem?_cons_succ] at t1
  refine wp_region_mix1 9 (by kernel_rfl) (by kernel_rfl) ?_
  simp only [List.take_succ_cons, List.take_zero, List.drop_succ_cons, List.drop_zero]
  repeat (go_big_quiet_step ((fail)))
  refine wpQuiet_nil ?_
  intro _ hw'
  obtain ⟨nq, hw''⟩ := hw'
  subst hw''
  have HT := Lib.hid (HT.out.drewN nq)
  go_wp2_with fail
  refine (DoesG.use (storeC_g _ _ _ _ _ _ HP.out) (HT.out) [2] rfl rfl).mono ?_
  rintro e w1 ⟨gs, ⟨rfl, rfl⟩, Ta⟩
  simp only [PU] at Ta
  have HT := Lib.hid Ta
  clear Ta
  go_wp2_with fail
  refine ⟨rfl, ?_⟩
  go_wp2
  go_ret
  exact ⟨_, ⟨rfl, _, isRing.mk' HCS.out HV.out, rfl⟩, (HT.out.pick [0, 1, 2] rfl).eq rfl⟩
set_option maxRecDepth 100000 in
theorem tickFill_no (v : TaskS) (hh : ¬ (t.status = 2 ∧ t.filled = false)) : DoesG Tryz.prog 234 #[ptr' tb, .agg v.cells] [tickG tb rb t] fun e gs => e = .returned (.int .i64 7) ∧ gs = [tickG tb rb t] := by
  intro w hw
  have T0 := TG.refl hw
  have HT := Lib.hid T0
  clear hw T0
  have lt := HT.out.lt 0 0 rfl
  simp only [] at lt
  have t3 := HT.out.cell 0 0 rfl 3
  have t4 := HT.out.cell 0 0 rfl 4
  simp only [tickC, List.getElem?_toArray, List.getElem?_cons_zero, List.getElem?_cons_succ] at t3 t4
  simp only [TaskS.cells]
  by_cases h : t.status = 2
  · have hf : t.filled = true := by
      cases hf : t.filled
      · exact absurd ⟨h, hf⟩ hh
      · rfl
    rw [h] at t3
    rw [hf] at t4
    clear h hf hh
    go_enter Tryz.func234, Tryz.ntmps234
    go_wp2
    go_ret
    exact ⟨_, ⟨rfl, rfl⟩, HT.out.alloc0 _⟩
  · have hb : (t.status != 2) = true := bne_iff_ne.2 h
    have hb' : (t.status == 2) = false := beq_eq_false_iff_ne.2 h
    clear h hh
    go_enter Tryz.func234, Tryz.ntmps234
    go_wp2
    go_ret
    exact ⟨_, ⟨rfl, rfl⟩, HT.out.alloc0 _⟩
theorem tickFill_g (v : TaskS) (hg : isRing rb r g) (hr : RingB r) (ht : TickB t) : DoesG Tryz.prog 234 #[ptr' tb, .agg v.cells] [tickG tb rb t, g] fun e gs =>
    e = .returned (.int .i64 (fillT r t v).2.2) ∧ ∃ g', isRing rb (fillT r t v).1 g' ∧ gs = [tickG tb rb (fillT r t v).2.1, g'] := by
  by_cases hh : t.status = 2 ∧ t.filled = false
  · have e : fillT r t v = ({ r with slots := r.slots.set (r.at t.pos) ⟨2 * t.pos + 1, v⟩ }, { t with filled := true }, 0) := if_pos hh
    rw [e]
    exact tickFill_yes v hg hr ht hh
  · have e : fillT r t v = (r, t, 7) := if_neg hh
    rw [e]
    intro w hw
    refine (DoesG.use (tickFill_no v hh) (TG.refl hw) [0] rfl rfl).mono ?_
    rintro e w' ⟨gs, ⟨he, rfl⟩, T⟩
    exact ⟨_, ⟨he, g, hg, rfl⟩, T⟩
end
end Go.Proofs.YtblhfbcodbjgcaaGreat

namespace Go.Proofs.YtblhfbcodbjgcaaGreat
set_option linter.unusedVariables false
set_option linter.unusedSimpArgs false
open Go.RowKit Go.Shelf
theorem add64_run (x y : Int) (hx : 0 ≤ x) (hy : 0 ≤ y) (w : World) : (callFunc 163 #[.int .u64 x, .int .u64 y, .int .u64 0]).run Tryz.prog w =
    .ok (.value (.tuple #[.int .u64 ((x + y + 0) % 18446744073709551616), .int .u64 ((x + y + 0) / 18446744073709551616)])) w := by
  rw [run_callFunc_extern Tryz.func163 (by kernel_rfl) (by kernel_rfl) (by kernel_rfl) (e := add64Entry) (by kernel_rfl), run_add64 x y 0 hx hy (by omega) (by omega)]
  rfl
theorem timesAdd_g (x y : Int) (hx : 0 ≤ x) (hy : 0 ≤ y) (h : x + y < 18446744073709551616) : DoesG Tryz.prog 132 #[.int .u64 x, .int .u64 y] [] fun e gs => e = .returned (.tuple #[.int .u64 (x + y), .int .i64 0]) ∧ gs = [] := by
  intro w hw
  have T0 := TG.refl hw
  have HT := Lib.hid T0
  clear hw T0
  have ha : ∀ w, (callFunc 163 #[.int .u64 x, .int .u64 y, .int .u64 0]).run Tryz.prog w = .ok (.value (.tuple #[.int .u64 (x + y), .int .u64 0])) w := fun w => by
    rw [add64_run x y hx hy w, show (x + y + 0) % 18446744073709551616 = x + y by omega, show (x + y + 0) / 18446744073709551616 = 0 by omega]
  clear h hx hy
  go_enter Tryz.func132, Tryz.ntmps132
  go_wp2_with (simp only [ha])
  go_ret2
  exact ⟨_, ⟨rfl, rfl⟩, HT.out⟩
theorem storeU_g {b o : Nat} {T : TypeId} {C : Array Value} {n : Int} (x : Int) (hc : cellAt C o (.int .u64 n)) :
    DoesG Tryz.prog 242 #[.pointer (some ⟨b, o, none⟩), .int .u64 x] [[cl b T C]] fun e gs => e = .returned (.tuple #[]) ∧ ∃ C', Recell C o (.int .u64 x) C' ∧ gs = [[cl b T C']] := by
  intro w hw
  have T0 := TG.refl hw
  have HT := Lib.hid T0
  clear hw T0
  have c0 := (HT.out.cell 0 0 rfl o).trans hc.1
  have f0 := HT.out.free 0 0 rfl o
  have HC := Lib.hid hc
  clear hc
  go_enter Tryz.func242, Tryz.ntmps242
  go_wp2
  exact bodyPost_end (results_none rfl _ _ _) rfl ⟨_, ⟨rfl, _, recell_value HC.out, rfl⟩, HT.out.set 0 0 rfl o _⟩
theorem floorTurn_g {fb : Nat} {p : FPtr} {f : FloorS} {tr : Value} {g : List Blk} (hg : isFloor fb p f tr g) (h : 0 ≤ f.now ∧ f.now < 9223372036854775807) : DoesG Tryz.prog 215 #[ptr' fb] [g] fun e gs =>
    e = .returned (.tuple #[.int .u64 (f.now + 1), .int .i64 0]) ∧ ∃ g', isFloor fb p { f with now := f.now + 1 } tr g' ∧ gs = [g'] := by
  obtain ⟨C, rfl, hc⟩ := hg
  intro w hw
  have T0 := TG.refl hw
  have HT := Lib.hid T0
  clear hw T0
  have HC := Lib.hid hc
  have HA := Lib.hid (timesAdd_g f.now 1 h.1 (by omega) (by omega))
  clear hc h
  go_enter Tryz.func215, Tryz.ntmps215
  go_wp2_with fail
  refine (DoesG.use (cellG (loadU_does fb 22 _ C f.now HC.out.now)) (HT.out) [0] rfl rfl).mono ?_
  rintro e w1 ⟨gs, ⟨rfl, C1, hr, rfl⟩, Ta⟩
  simp only [PU] at Ta
  have HT := Lib.hid Ta
  clear Ta
  have HC1 := Lib.hid (HC.out.nowS hr)
  clear hr
  go_wp2_with fail
  refine (DoesG.use (HA.out) (HT.out) [] rfl rfl).mono ?_
  rintro e w1 ⟨gs, ⟨rfl, rfl⟩, Ta⟩
  simp only [PU] at Ta
  have HT := Lib.hid Ta
  clear Ta
  go_wp2_with fail
  refine (DoesG.use (storeU_g (f.now + 1) HC1.out.now) (HT.out) [0] rfl rfl).mono ?_
  rintro e w1 ⟨gs, ⟨rfl, C2, hr, rfl⟩, Ta⟩
  simp only [PU] at Ta
  have HT := Lib.hid Ta
  clear Ta
  have HC2 := Lib.hid (HC1.out.nowR hr)
  clear hr
  go_wp2
  go_ret2
  exact ⟨_, ⟨rfl, _, ⟨C2, rfl, HC2.out⟩, rfl⟩, HT.out⟩
end Go.Proofs.YtblhfbcodbjgcaaGreat

namespace Go.Proofs.YtblhfbcodbjgcaaGreat
set_option linter.unusedVariables false
set_option linter.unusedSimpArgs false
open Go.RowKit Go.Shelf
theorem Tryz.infoEvent : (Tryz.prog.info? 152).map (fun i => (i.zero, i.size, i.bytes)) = some (some (.agg #[.int .i64 0, .int .i64 0, .int .i64 0, .int .i64 0, .int .u64 0, .int .u64 0, .int .u64 0, .int .u64 0, .int .u64 0, .int .i64 0]), 10, 80) := by kernel_rfl
theorem floorC.setTr {p : FPtr} {f : FloorS} {tr : Value} {C : Array Value} (h : floorC p f tr C) (v : Value) : floorC p f v (C.setIfInBounds 26 v) := by
  have hs := h.size
  have ne : ∀ i, i < 26 → (C.setIfInBounds 26 v)[i]? = C[i]? := fun i hi => get_set_ne (by omega)
  have ce : ∀ {o : Nat} {x : Value}, o + 4 ≤ 26 → cellAt C o x → cellAt (C.setIfInBounds 26 v) o x := by
    rintro o x ho ⟨h0, l, t, u, h1, h2, h3⟩
    exact ⟨(ne _ (by omega)).trans h0, l, t, u, (ne _ (by omega)).trans h1, (ne _ (by omega)).trans h2, (ne _ (by omega)).trans h3⟩
  exact ⟨by simpa using hs, fun i hi => (ne i (by omega)).trans (h.cfg i hi), (ne _ (by omega)).trans h.slab, (ne _ (by omega)).trans h.sh, (ne _ (by omega)).trans h.pipe, (ne _ (by omega)).trans h.log,
    ce (by omega) h.closed, ce (by omega) h.inside, ce (by omega) h.busy, ce (by omega) h.now, get_set_eq h.tr⟩
theorem step_append_G {P : Program} {ops : Array Oper} {o : Oper} {a : Act} {w' : World} {K : Act → World → Prop} {Q : Exit → Act → World → Prop} {Eg : Prop} {e : TypeId} {v : Value} {n : Nat} {xs : List Value} {g : List Blk} {h H : GH} {w : World}
    (hgd : o.guard = none) (s x : Operand) (t : TypeId) (ho : o.op = .call { callee := .builtin .append, args := #[s, x], argTypes := #[t, t] })
    (size bytes : Nat) (z : Value) (ht : P.underlying t = some (.slice e)) (hinfo : (P.info? e).map (fun i => (i.zero, i.size, i.bytes)) = some (some z, size, bytes)) (hzs : z.cells.size = size) (hsz : 0 < size)
    (T : TG h w H w') (k : Nat) (hk : decide (k < H.length) = true) (hg : H.getD k [] = g) (r : rowG e size v n xs g) (hs : a.eval s = v)
    (ad : Addr) (m c : Nat) (news : List Value) (hx : a.eval x = .slice (some ad) m c) (hl : news.length = m * size) (hnews : ∀ j u, news[j]? = some u → w'.cell? (ad.add j) = some u) (h1 : ∀ u ∈ news, u.oneCell' = true)
    (h63 : n + m ≤ maxLen) (hbytes : (n + m) * bytes ≤ 140737488355328)
    (hK : ∀ v' w'' g', rowG e size v' (n + m) (xs ++ news) g' → TG h w (H.set k g') w'' → K (a.put o.dst v') w'') :
    if Region.wanted o (yielded ops a.tmps) = true then Oper.wp P o a w' K Q else Eg := by
  have hw : Region.wanted o (yielded ops a.tmps) = true := by simp [Region.wanted, hgd]
  rw [if_pos hw]
  obtain ⟨i, hi, hz, hsize, hby⟩ := info_parts hinfo
  obtain ⟨v', w'', g', hr, h2, h3⟩ := run_append_row (P := P) t o.type e i z size bytes ht hi hz hsize hby hzs hsz T k (of_decide_eq_true hk) hg r ad m c news hl hnews h1 h63 hbytes
  unfold Oper.wp
  simp [execOp, ho, resolve, invoke, builtin, hs, hx, hr, Result.andThen]
  exact hK v' w'' g' h2 h3
set_option maxRecDepth 100000 in
theorem floorNote_big {fb : Nat} {p : FPtr} {f : FloorS} {tr : Value} {g gT : List Blk} {n : Nat} {xs : List Value} (E : EvS) (hg : isFloor fb p f tr g) (hr : rowG 152 10 tr n xs gT) (hn : n ≤ 1000000000) :
    DoesG Tryz.prog 142 #[ptr' fb, .agg E.cells] [g, gT] fun e gs =>
      e = .returned (.tuple #[]) ∧ ∃ tr' g' gT', isFloor fb p f tr' g' ∧ rowG 152 10 tr' (n + 1) (xs ++ E.cells.toList) gT' ∧ gs = [g', gT'] := by
  obtain ⟨C, rfl, hc⟩ := hg
  obtain ⟨a, cap, rfl⟩ := hr.val
  intro w hw
  have T0 := TG.refl hw
  have HT := Lib.hid T0
  clear hw T0
  simp only [EvS.cells]
  have HC := Lib.hid hc
  have HR := Lib.hid hr
  have htr := hc.tr
  clear hc hr
  go_enter Tryz.func142, Tryz.ntmps142
  go_wp2
  have HT := Lib.hid (HT.out.alloc (k := w.heap.size) rfl 152 #[.int .i64 E.kind, .int .i64 E.thread, .int .i64 E.call, .int .i64 E.what, .int .u64 E.id, .int .u64 E.gen, .int .u64 E.dl, .int .u64 E.per, .int .u64 E.tick, .int .i64 E.err])
  have c0 := (HT.out.cell 0 0 rfl 26).trans htr
  have q := HT.out.cell 2 0 rfl
  clear q c0
  generalize w.alloc _ = w1 at HT ⊢
  simp only [List.cons_append, List.nil_append] at HT
  have c0 := (HT.out.cell 0 0 rfl 26).trans htr
  have q := HT.out.cell 2 0 rfl
  have HT := Lib.hid HT.out.drew
  have f0 := HT.out.free 0 0 rfl
  have hl0 := HT.out.lt 0 0 rfl
  have hl1 := HT.out.lt 2 0 rfl
  simp only [World.drew] at hl0 hl1
  go_region_law (
    refine step_append_G rfl (.tmp 10) (.tmp 12) 60 rfl 10 80 _ Tryz.underlying60 Tryz.infoEvent rfl (by decide) (HT.out.alloc0 _) 1 rfl rfl HR.out rfl ⟨w1.heap.size, 0, none⟩ 1 1 [.int .i64 E.kind, .int .i64 E.thread, .int .i64 E.call, .int .i64 E.what, .int .u64 E.id, .int .u64 E.gen, .int .u64 E.dl, .int .u64 E.per, .int .u64 E.tick, .int .i64 E.err] rfl rfl (news_alloc _ _ _) (by simp [Value.oneCell']) (by unfold maxLen; omega) (by omega) ?_
    intro v w3 gT1 r T
    simp only [List.set_cons_zero, List.set_cons_succ] at T
    obtain ⟨a1, cap1, rfl⟩ := r.val
    have f1 := T.free 0 0 rfl 26
    have c1 := (T.cell 0 0 rfl 26).trans htr
    have T := Lib.hid T
    have r := Lib.hid r)
  all_goals go_wp2
  all_goals exact bodyPost_end (results_none rfl _ _ _) rfl ⟨_, ⟨rfl, _, _, _, ⟨_, rfl, HC.out.setTr _⟩, r.out, rfl⟩, (T.out.set 0 0 rfl 26 _).pick [0, 1] rfl⟩
end Go.Proofs.YtblhfbcodbjgcaaGreat

namespace Go.Proofs.YtblhfbcodbjgcaaGreat
set_option linter.unusedVariables false
set_option linter.unusedSimpArgs false
open Go.RowKit Go.Shelf
def evCells (l : List EvS) : List Value := l.flatMap fun e => e.cells.toList
def EvS.zero : EvS := ⟨0, 0, 0, 0, 0, 0, 0, 0, 0, 0⟩
theorem evCells_cons (e : EvS) (l : List EvS) : evCells (e :: l) = e.cells.toList ++ evCells l := rfl
theorem evCells_snoc (l : List EvS) (e : EvS) : evCells (l ++ [e]) = evCells l ++ e.cells.toList := by simp [evCells]
theorem evCells_one (l : List EvS) : ∀ u ∈ evCells l, u.oneCell' = true := by
  intro u hu
  obtain ⟨e, _, h⟩ := List.mem_flatMap.1 hu
  simp [EvS.cells] at h
  rcases h with rfl | rfl | rfl | rfl | rfl | rfl | rfl | rfl | rfl | rfl <;> rfl
theorem evCells_at (l : List EvS) (i j : Nat) (hi : i < l.length) (hj : j < 10) : (evCells l)[i * 10 + j]? = (l.getD i EvS.zero).cells[j]? := by
  induction l generalizing i with
  | nil => simp at hi
  | cons e l ih =>
    have he : e.cells.toList.length = 10 := rfl
    rw [evCells_cons]
    cases i with
    | zero =>
      rw [show 0 * 10 + j = j by omega, List.getElem?_append_left (by omega), Array.getElem?_toList]
      rfl
    | succ i =>
      rw [List.getElem?_append_right (by omega), show (i + 1) * 10 + j - e.cells.toList.length = i * 10 + j by omega, ih i (by simpa using hi)]
      rfl
def trG (tr : Value) (l : List EvS) (g : List Blk) : Prop := rowG 152 10 tr l.length (evCells l) g
theorem trG.put {tr : Value} {l : List EvS} {e : EvS} {g : List Blk} (h : rowG 152 10 tr (l.length + 1) (evCells l ++ e.cells.toList) g) : trG tr (l ++ [e]) g := by
  unfold trG; rw [evCells_snoc, List.length_append]; exact h
theorem trG_nil : trG (.slice none 0 0) [] [] := rowG_nil _ _
set_option maxRecDepth 100000 in
theorem clone_g {tr : Value} {l : List EvS} {gT : List Blk} (hr : trG tr l gT) (hn : l.length ≤ 1000000000) :
    DoesG Tryz.prog 104 #[tr] [gT] fun e gs => ∃ v g', e = .returned v ∧ trG v l g' ∧ gs = [gT, g'] := by
  have hr' : rowG 152 10 tr l.length (evCells l) gT := hr
  obtain ⟨hl, (⟨rfl, h0, rfl⟩ | ⟨b, cap, cur, rfl, rfl, h1, h2, h3, h4⟩)⟩ := hr
  · have he : l = [] := List.eq_nil_of_length_eq_zero h0
    subst he
    clear hr' h0 hl hn
    intro w hw
    have T0 := TG.refl hw
    have HT := Lib.hid T0
    clear hw T0
    have hn := fun (w : World) => Lib.run_eql_slice_nil (P := Tryz.prog) w 60 152 none 0 0 0 0 Tryz.underlying60
    go_enter Tryz.func104, Tryz.ntmps104
    go_wp2
    go_ret
    exact ⟨[[], []], ⟨_, [], rfl, trG_nil, rfl⟩, HT.out.eq (by simp)⟩
  · intro w hw
    have T0 := TG.refl hw
    have HT := Lib.hid T0
    clear hw T0
    have HN := Lib.hid (show ∀ j u, (evCells l)[j]? = some u → (w.alloc (.cells #[] 152)).cell? ((⟨b, 0, none⟩ : Addr).add j) = some u from ((HT.out.alloc (k := w.heap.size) rfl 152 #[]).owns 0 rfl hr').cells (g := b) rfl)
    have HL := Lib.hid hl
    have HC := Lib.hid (evCells_one l)
    clear hr' hl h4 h3
    have hn := fun (w : World) => Lib.run_eql_slice_nil (P := Tryz.prog) w 60 152 (some ⟨b, 0, none⟩) l.length cap 0 0 Tryz.underlying60
    go_enter Tryz.func104, Tryz.ntmps104
    go_wp2_with (
      at_builtin
      (with_reducible refine wpList_append_G rfl (.tmp 5) (.tmp 6) 60 rfl 152 10 80 _ Tryz.underlying60 Tryz.infoEvent rfl (by decide) (HT.out.alloc rfl _ _) 1 rfl rfl (rowG_lit _ 10 _ 0 0 #[] (Nat.le_refl _) (by decide) rfl) rfl ⟨b, 0, none⟩ l.length cap (evCells l) rfl HL.out HN.out HC.out (by unfold maxLen; omega) (by omega) ?_)
      intro v w2 g2 r T
      simp only [List.set_cons_zero, List.set_cons_succ, List.cons_append, List.nil_append] at T
      have T := Lib.hid T
      have r := Lib.hid r)
    go_ret
    have hv : trG v l g2 := by simpa [trG] using r.out
    exact ⟨_, ⟨_, rfl, _, hv, rfl⟩, T.out⟩
theorem floorTrace_g {fb : Nat} {p : FPtr} {f : FloorS} {tr : Value} {g gT : List Blk} {l : List EvS} (hg : isFloor fb p f tr g) (hr : trG tr l gT) (hn : l.length ≤ 1000000000) :
    DoesG Tryz.prog 35 #[ptr' fb] [g, gT] fun e gs => ∃ v g', e = .returned v ∧ trG v l g' ∧ gs = [g, gT, g'] := by
  obtain ⟨C, rfl, hc⟩ := hg
  obtain ⟨a, cap, rfl⟩ := rowG.val hr
  intro w hw
  have T0 := TG.refl hw
  have HT := Lib.hid T0
  clear hw T0
  have c0 := (HT.out.cell 0 0 rfl 26).trans hc.tr
  have HR := Lib.hid hr
  have HN := Lib.hid hn
  clear hc hr hn
  go_enter Tryz.func35, Tryz.ntmps35
  go_wp2_with fail
  refine (DoesG.use (clone_g HR.out HN.out) (HT.out) [1] rfl rfl).mono ?_
  rintro e w1 ⟨gs, ⟨v, g', rfl, hv, rfl⟩, Ta⟩
  simp only [PU] at Ta
  have HT := Lib.hid Ta
  clear Ta
  have HV := Lib.hid hv
  clear hv
  go_wp2
  go_ret
  exact ⟨_, ⟨_, _, rfl, HV.out, rfl⟩, HT.out⟩
theorem trG.cells {h H : GH} {w w' : World} (T : TG h w H w') (i : Nat) {tr : Value} {l : List EvS} {g : List Blk} (hi : H.getD i [] = g) (r : trG tr l g) {k : Nat} (hk : k < l.length) :
    ∃ b cap, tr = .slice (some ⟨b, 0, none⟩) l.length cap ∧ l.length ≤ cap ∧ cap ≤ maxLen ∧ ∃ e, l.getD k EvS.zero = e ∧
    w'.cell? ⟨b, k * 10, none⟩ = some (.int .i64 e.kind) ∧ w'.cell? ⟨b, k * 10 + 1, none⟩ = some (.int .i64 e.thread) ∧ w'.cell? ⟨b, k * 10 + 2, none⟩ = some (.int .i64 e.call) ∧ w'.cell? ⟨b, k * 10 + 3, none⟩ = some (.int .i64 e.what) ∧
    w'.cell? ⟨b, k * 10 + 4, none⟩ = some (.int .u64 e.id) ∧ w'.cell? ⟨b, k * 10 + 5, none⟩ = some (.int .u64 e.gen) ∧ w'.cell? ⟨b, k * 10 + 6, none⟩ = some (.int .u64 e.dl) ∧ w'.cell? ⟨b, k * 10 + 7, none⟩ = some (.int .u64 e.per) ∧ w'.cell? ⟨b, k * 10 + 8, none⟩ = some (.int .u64 e.tick) ∧ w'.cell? ⟨b, k * 10 + 9, none⟩ = some (.int .i64 e.err) := by
  obtain ⟨b, cap, cur, rfl, rfl, h1, h2, h3, h4⟩ := rowG.open r (by omega)
  refine ⟨b, cap, rfl, h1, h2, _, rfl, ?_⟩
  have hh := fun j (hj : j < 10) => (T.cell (b := b) i 0 (by rw [hi]; rfl) (k * 10 + j)).trans ((h4 (k * 10 + j) (by omega)).trans (evCells_at l k j hk hj))
  exact ⟨hh 0 (by omega), hh 1 (by omega), hh 2 (by omega), hh 3 (by omega), hh 4 (by omega), hh 5 (by omega), hh 6 (by omega), hh 7 (by omega), hh 8 (by omega), hh 9 (by omega)⟩
end Go.Proofs.YtblhfbcodbjgcaaGreat

namespace Go.Proofs.YtblhfbcodbjgcaaGreat
set_option linter.unusedVariables false
set_option linter.unusedSimpArgs false
open Go.RowKit Go.Shelf
structure ShP where
  b : Nat
  rb : Nat
  lb : Nat
  wb : Nat
def isSh (q : ShP) (s : ShardS) (g : List Blk) : Prop := ∃ gr gl, isRing q.rb s.ring gr ∧ isLock q.lb s.who s.turns gl ∧ g = shardB q.b q.rb q.lb q.wb ++ (gr ++ gl)
structure Lay where
  fb : Nat
  p : FPtr
  qs : List ShP
structure CoreS where
  f : FloorS
  slab : SlabS
  tr : List EvS
  shs : List ShardS
def isCore (L : Lay) (x : CoreS) (g : List Blk) : Prop := ∃ tr gF gS gR gH gT, isFloor L.fb L.p x.f tr gF ∧ isSlab L.p.sb x.slab gS ∧ rowG 42 1 L.p.sh (L.qs.map ShP.b).length ((L.qs.map ShP.b).map fun b => ptr' b) gR ∧
  L.qs.length = x.shs.length ∧ FamP (fun (z : ShP × ShardS) => isSh z.1 z.2) (L.qs.zip x.shs) gH ∧ trG tr x.tr gT ∧ g = gF ++ (gS ++ (gR ++ (gH ++ gT)))
theorem ReadsG.part {P : Program} {f : Nat} {args : Array Value} {gs : GH} {v : Value} (r : ReadsG P f args gs v) {g : List Blk} {H : GH} (is : List Nat) (hH : ∀ {w}, HasG [g] w → ∃ w0 h, TG h w0 H w) (hp : pickG H is = gs) (hf : fineG H is = true) : ReadsG P f args [g] v := by
  intro w hw
  obtain ⟨w0, h, T⟩ := hH hw
  exact r.use T is hp hf
section
variable {L : Lay} {x : CoreS} {g : List Blk}
theorem floorSlab_r {fb : Nat} {p : FPtr} {f : FloorS} {tr : Value} {g : List Blk} (hg : isFloor fb p f tr g) : ReadsG Tryz.prog 22 #[ptr' fb] [g] (ptr' p.sb) := by
  obtain ⟨C, rfl, hc⟩ := hg
  intro w hw
  have T0 := TG.refl hw
  have HT := Lib.hid T0
  clear hw T0
  have c0 := (HT.out.cell 0 0 rfl 6).trans hc.slab
  clear hc
  go_enter Tryz.func22, Tryz.ntmps22
  go_wp2
  go_ret
  exact ⟨rfl, 0, rfl⟩
theorem coreSlab_r (hx : isCore L x g) : ReadsG Tryz.prog 22 #[ptr' L.fb] [g] (ptr' L.p.sb) := by
  obtain ⟨tr, gF, gS, gR, gH, gT, h1, h2, h3, h4, h5, h6, rfl⟩ := hx
  intro w hw
  have T := (TG.refl hw).sum (H' := [gF, gS, gR, gH, gT]) (fun n ha h0 h1 h2 => by simp only [SU, ha, h0, h1, h2] <;> omega)
  exact (floorSlab_r h1).use T [0] rfl rfl
theorem coreHome_r (hx : isCore L x g) (hn : 1 ≤ L.qs.length) (i : Int) : ReadsG Tryz.prog 171 #[ptr' L.fb, .int .i64 i] [g] (homeV (L.qs.map ShP.b) i) := by
  obtain ⟨tr, gF, gS, gR, gH, gT, h1, h2, h3, h4, h5, h6, rfl⟩ := hx
  intro w hw
  have T := (TG.refl hw).sum (H' := [gF, gS, gR, gH, gT]) (fun n ha h0 h1 h2 => by simp only [SU, ha, h0, h1, h2] <;> omega)
  exact (floorHome_r h1 h3 (by simpa using hn) i).use T [0, 2] rfl rfl
theorem coreEnter (hx : isCore L x g) (h : 0 ≤ x.f.inside ∧ x.f.inside ≤ 1000000) : DoesG Tryz.prog 135 #[ptr' L.fb] [g] fun e gs => e = .returned (.tuple #[]) ∧ ∃ g', isCore L { x with f := { x.f with inside := x.f.inside + 1 } } g' ∧ gs = [g'] := by
  obtain ⟨tr, gF, gS, gR, gH, gT, h1, h2, h3, h4, h5, h6, rfl⟩ := hx
  intro w hw
  have T := (TG.refl hw).sum (H' := [gF, gS, gR, gH, gT]) (fun n ha h0 h1 h2 => by simp only [SU, ha, h0, h1, h2] <;> omega)
  refine (DoesG.use (floorEnter_g h1 h) T [0] rfl rfl).mono ?_
  rintro e w' ⟨gs, ⟨he, g1, hn1, rfl⟩, T'⟩
  exact ⟨_, ⟨he, _, ⟨tr, g1, gS, gR, gH, gT, hn1, h2, h3, h4, h5, h6, rfl⟩, rfl⟩, TG.sum (H := [g1, gS, gR, gH, gT]) T' (fun n ha h0 h1 h2 => by simp only [SU, ha, h0, h1, h2] <;> omega)⟩
theorem coreLeave (hx : isCore L x g) (h : 0 ≤ x.f.inside ∧ x.f.inside ≤ 1000000) : DoesG Tryz.prog 193 #[ptr' L.fb] [g] fun e gs => e = .returned (.int .i64 (lessE x.f.inside)) ∧ ∃ g', isCore L { x with f := { x.f with inside := lessN x.f.inside } } g' ∧ gs = [g'] := by
  obtain ⟨tr, gF, gS, gR, gH, gT, h1, h2, h3, h4, h5, h6, rfl⟩ := hx
  intro w hw
  have T := (TG.refl hw).sum (H' := [gF, gS, gR, gH, gT]) (fun n ha h0 h1 h2 => by simp only [SU, ha, h0, h1, h2] <;> omega)
  refine (DoesG.use (floorLeave_g h1 h) T [0] rfl rfl).mono ?_
  rintro e w' ⟨gs, ⟨he, g1, hn1, rfl⟩, T'⟩
  exact ⟨_, ⟨he, _, ⟨tr, g1, gS, gR, gH, gT, hn1, h2, h3, h4, h5, h6, rfl⟩, rfl⟩, TG.sum (H := [g1, gS, gR, gH, gT]) T' (fun n ha h0 h1 h2 => by simp only [SU, ha, h0, h1, h2] <;> omega)⟩
theorem coreClosed (hx : isCore L x g) : DoesG Tryz.prog 136 #[ptr' L.fb] [g] fun e gs => e = .returned (.bool x.f.closed) ∧ ∃ g', isCore L x g' ∧ gs = [g'] := by
  obtain ⟨tr, gF, gS, gR, gH, gT, h1, h2, h3, h4, h5, h6, rfl⟩ := hx
  intro w hw
  have T := (TG.refl hw).sum (H' := [gF, gS, gR, gH, gT]) (fun n ha h0 h1 h2 => by simp only [SU, ha, h0, h1, h2] <;> omega)
  refine (DoesG.use (floorClosed_g h1) T [0] rfl rfl).mono ?_
  rintro e w' ⟨gs, ⟨he, g1, hn1, rfl⟩, T'⟩
  exact ⟨_, ⟨he, _, ⟨tr, g1, gS, gR, gH, gT, hn1, h2, h3, h4, h5, h6, rfl⟩, rfl⟩, TG.sum (H := [g1, gS, gR, gH, gT]) T' (fun n ha h0 h1 h2 => by simp only [SU, ha, h0, h1, h2] <;> omega)⟩
theorem coreShut (hx : isCore L x g) : DoesG Tryz.prog 34 #[ptr' L.fb] [g] fun e gs => e = .returned (.bool (!x.f.closed)) ∧ ∃ g', isCore L { x with f := { x.f with closed := true } } g' ∧ gs = [g'] := by
  obtain ⟨tr, gF, gS, gR, gH, gT, h1, h2, h3, h4, h5, h6, rfl⟩ := hx
  intro w hw
  have T := (TG.refl hw).sum (H' := [gF, gS, gR, gH, gT]) (fun n ha h0 h1 h2 => by simp only [SU, ha, h0, h1, h2] <;> omega)
  refine (DoesG.use (floorShut_g h1) T [0] rfl rfl).mono ?_
  rintro e w' ⟨gs, ⟨he, g1, hn1, rfl⟩, T'⟩
  exact ⟨_, ⟨he, _, ⟨tr, g1, gS, gR, gH, gT, hn1, h2, h3, h4, h5, h6, rfl⟩, rfl⟩, TG.sum (H := [g1, gS, gR, gH, gT]) T' (fun n ha h0 h1 h2 => by simp only [SU, ha, h0, h1, h2] <;> omega)⟩
theorem coreInside (hx : isCore L x g) : DoesG Tryz.prog 26 #[ptr' L.fb] [g] fun e gs => e = .returned (.int .i64 x.f.inside) ∧ ∃ g', isCore L x g' ∧ gs = [g'] := by
  obtain ⟨tr, gF, gS, gR, gH, gT, h1, h2, h3, h4, h5, h6, rfl⟩ := hx
  intro w hw
  have T := (TG.refl hw).sum (H' := [gF, gS, gR, gH, gT]) (fun n ha h0 h1 h2 => by simp only [SU, ha, h0, h1, h2] <;> omega)
  refine (DoesG.use (floorInside_g h1) T [0] rfl rfl).mono ?_
  rintro e w' ⟨gs, ⟨he, g1, hn1, rfl⟩, T'⟩
  exact ⟨_, ⟨he, _, ⟨tr, g1, gS, gR, gH, gT, hn1, h2, h3, h4, h5, h6, rfl⟩, rfl⟩, TG.sum (H := [g1, gS, gR, gH, gT]) T' (fun n ha h0 h1 h2 => by simp only [SU, ha, h0, h1, h2] <;> omega)⟩
theorem coreCount (hx : isCore L x g) : DoesG Tryz.prog 23 #[ptr' L.p.sb] [g] fun e gs => e = .returned (.int .i64 x.slab.count) ∧ ∃ g', isCore L x g' ∧ gs = [g'] := by
  obtain ⟨tr, gF, gS, gR, gH, gT, h1, h2, h3, h4, h5, h6, rfl⟩ := hx
  intro w hw
  have T := (TG.refl hw).sum (H' := [gF, gS, gR, gH, gT]) (fun n ha h0 h1 h2 => by simp only [SU, ha, h0, h1, h2] <;> omega)
  refine (DoesG.use (slabCount_g h2) T [1] rfl rfl).mono ?_
  rintro e w' ⟨gs, ⟨he, g1, hn1, rfl⟩, T'⟩
  exact ⟨_, ⟨he, _, ⟨tr, gF, g1, gR, gH, gT, h1, hn1, h3, h4, h5, h6, rfl⟩, rfl⟩, TG.sum (H := [gF, g1, gR, gH, gT]) T' (fun n ha h0 h1 h2 => by simp only [SU, ha, h0, h1, h2] <;> omega)⟩
theorem coreWord (hx : isCore L x g) (hn : x.slab.recs.length ≤ 64) (k : Int) : DoesG Tryz.prog 46 #[ptr' L.p.sb, .int .i64 k] [g] fun e gs => e = .returned (.tuple #[.int .u64 (x.slab.word k), .int .i64 (x.slab.werr k)]) ∧ ∃ g', isCore L x g' ∧ gs = [g'] := by
  obtain ⟨tr, gF, gS, gR, gH, gT, h1, h2, h3, h4, h5, h6, rfl⟩ := hx
  intro w hw
  have T := (TG.refl hw).sum (H' := [gF, gS, gR, gH, gT]) (fun n ha h0 h1 h2 => by simp only [SU, ha, h0, h1, h2] <;> omega)
  refine (DoesG.use (slabWord_g h2 hn k) T [1] rfl rfl).mono ?_
  rintro e w' ⟨gs, ⟨he, g1, hn1, rfl⟩, T'⟩
  exact ⟨_, ⟨he, _, ⟨tr, gF, g1, gR, gH, gT, h1, hn1, h3, h4, h5, h6, rfl⟩, rfl⟩, TG.sum (H := [gF, g1, gR, gH, gT]) T' (fun n ha h0 h1 h2 => by simp only [SU, ha, h0, h1, h2] <;> omega)⟩
theorem coreSlot (hx : isCore L x g) (hn : x.slab.recs.length ≤ 64) (id : Int) (h0 : 0 ≤ id) (h9 : id < 18446744073709551616) : DoesG Tryz.prog 203 #[ptr' L.p.sb, .int .u64 id] [g] fun e gs => e = .returned (.tuple #[.int .i64 (x.slab.slot id), .int .i64 (x.slab.serr id)]) ∧ ∃ g', isCore L x g' ∧ gs = [g'] := by
  obtain ⟨tr, gF, gS, gR, gH, gT, h1, h2, h3, h4, h5, h6, rfl⟩ := hx
  intro w hw
  have T := (TG.refl hw).sum (H' := [gF, gS, gR, gH, gT]) (fun n ha h0 h1 h2 => by simp only [SU, ha, h0, h1, h2] <;> omega)
  refine (DoesG.use (slabSlot_g h2 hn id h0 h9) T [1] rfl rfl).mono ?_
  rintro e w' ⟨gs, ⟨he, g1, hn1, rfl⟩, T'⟩
  exact ⟨_, ⟨he, _, ⟨tr, gF, g1, gR, gH, gT, h1, hn1, h3, h4, h5, h6, rfl⟩, rfl⟩, TG.sum (H := [gF, g1, gR, gH, gT]) T' (fun n ha h0 h1 h2 => by simp only [SU, ha, h0, h1, h2] <;> omega)⟩
theorem coreMine (hx : isCore L x g) (hn : x.slab.recs.length ≤ 64) (id : Int) (h0 : 0 ≤ id) (h9 : id < 18446744073709551616) : DoesG Tryz.prog 204 #[ptr' L.p.sb, .int .u64 id] [g] fun e gs => e = .returned (.bool (x.slab.mine id)) ∧ ∃ g', isCore L x g' ∧ gs = [g'] := by
  obtain ⟨tr, gF, gS, gR, gH, gT, h1, h2, h3, h4, h5, h6, rfl⟩ := hx
  intro w hw
  have T := (TG.refl hw).sum (H' := [gF, gS, gR, gH, gT]) (fun n ha h0 h1 h2 => by simp only [SU, ha, h0, h1, h2] <;> omega)
  refine (DoesG.use (slabMine_g h2 hn id h0 h9) T [1] rfl rfl).mono ?_
  rintro e w' ⟨gs, ⟨he, g1, hn1, rfl⟩, T'⟩
  exact ⟨_, ⟨he, _, ⟨tr, gF, g1, gR, gH, gT, h1, hn1, h3, h4, h5, h6, rfl⟩, rfl⟩, TG.sum (H := [gF, g1, gR, gH, gT]) T' (fun n ha h0 h1 h2 => by simp only [SU, ha, h0, h1, h2] <;> omega)⟩
theorem coreDrop (hx : isCore L x g) (h0 : 0 ≤ x.slab.count) (h9 : x.slab.count ≤ 64) : DoesG Tryz.prog 232 #[ptr' L.p.sb] [g] fun e gs => e = .returned (.int .i64 x.slab.drop.2) ∧ ∃ g', isCore L { x with slab := x.slab.drop.1 } g' ∧ gs = [g'] := by
  obtain ⟨tr, gF, gS, gR, gH, gT, h1, h2, h3, h4, h5, h6, rfl⟩ := hx
  intro w hw
  have T := (TG.refl hw).sum (H' := [gF, gS, gR, gH, gT]) (fun n ha h0 h1 h2 => by simp only [SU, ha, h0, h1, h2] <;> omega)
  refine (DoesG.use (slabDrop_g h2 h0 h9) T [1] rfl rfl).mono ?_
  rintro e w' ⟨gs, ⟨he, g1, hn1, rfl⟩, T'⟩
  exact ⟨_, ⟨he, _, ⟨tr, gF, g1, gR, gH, gT, h1, hn1, h3, h4, h5, h6, rfl⟩, rfl⟩, TG.sum (H := [gF, g1, gR, gH, gT]) T' (fun n ha h0 h1 h2 => by simp only [SU, ha, h0, h1, h2] <;> omega)⟩
theorem coreTry (hx : isCore L x g) (hn : x.slab.recs.length ≤ 64) (k old ev : Int) (h0 : 0 ≤ old) (h9 : old < 18446744073709551616) : DoesG Tryz.prog 208 #[ptr' L.p.sb, .int .i64 k, .int .u64 old, .int .i64 ev] [g] fun e gs => e = .returned (.tuple #[.int .u64 (x.slab.try k old ev).2.1, .int .i64 (x.slab.try k old ev).2.2]) ∧ ∃ g', isCore L { x with slab := (x.slab.try k old ev).1 } g' ∧ gs = [g'] := by
  obtain ⟨tr, gF, gS, gR, gH, gT, h1, h2, h3, h4, h5, h6, rfl⟩ := hx
  intro w hw
  have T := (TG.refl hw).sum (H' := [gF, gS, gR, gH, gT]) (fun n ha h0 h1 h2 => by simp only [SU, ha, h0, h1, h2] <;> omega)
  refine (DoesG.use (slabTry_g h2 hn k old ev h0 h9) T [1] rfl rfl).mono ?_
  rintro e w' ⟨gs, ⟨he, g1, hn1, rfl⟩, T'⟩
  exact ⟨_, ⟨he, _, ⟨tr, gF, g1, gR, gH, gT, h1, hn1, h3, h4, h5, h6, rfl⟩, rfl⟩, TG.sum (H := [gF, g1, gR, gH, gT]) T' (fun n ha h0 h1 h2 => by simp only [SU, ha, h0, h1, h2] <;> omega)⟩
theorem coreReq (hx : isCore L x g) (qb : Nat) (q : Req) (hs : SlabOk x.slab) (hq : ReqOk x.slab.recs.length q) : DoesG Tryz.prog 169 #[ptr' qb] [reqG qb L.p.sb q, g] fun e gs => e = .returned (.int .i64 (stepR x.slab q).2.st) ∧ ∃ g', isCore L { x with slab := (stepR x.slab q).1 } g' ∧ gs = [reqG qb L.p.sb (stepR x.slab q).2, g'] := by
  obtain ⟨tr, gF, gS, gR, gH, gT, h1, h2, h3, h4, h5, h6, rfl⟩ := hx
  intro w hw
  have T := (TG.refl hw).sum (H' := [reqG qb L.p.sb q, gF, gS, gR, gH, gT]) (fun n ha h0 h1 h2 => by simp only [SU, ha, h0, h1, h2] <;> omega)
  refine (DoesG.use (reqStep_g qb q h2 hs hq) T [0, 2] rfl rfl).mono ?_
  rintro e w' ⟨gs, ⟨he, g1, hn1, rfl⟩, T'⟩
  exact ⟨_, ⟨he, _, ⟨tr, gF, g1, gR, gH, gT, h1, hn1, h3, h4, h5, h6, rfl⟩, rfl⟩, TG.sum (H := [reqG qb L.p.sb (stepR x.slab q).2, gF, g1, gR, gH, gT]) T' (fun n ha h0 h1 h2 => by simp only [SU, ha, h0, h1, h2] <;> omega)⟩
theorem coreNote (hx : isCore L x g) (E : EvS) (hn : x.tr.length ≤ 1000000) : DoesG Tryz.prog 142 #[ptr' L.fb, .agg E.cells] [g] fun e gs => e = .returned (.tuple #[]) ∧ ∃ g', isCore L { x with tr := x.tr ++ [E] } g' ∧ gs = [g'] := by
  obtain ⟨tr, gF, gS, gR, gH, gT, h1, h2, h3, h4, h5, h6, rfl⟩ := hx
  intro w hw
  have T := (TG.refl hw).sum (H' := [gF, gS, gR, gH, gT]) (fun n ha h0 h1 h2 => by simp only [SU, ha, h0, h1, h2] <;> omega)
  refine (DoesG.use (floorNote_big E h1 h6 (by omega)) T [0, 4] rfl rfl).mono ?_
  rintro e w' ⟨gs, ⟨he, tr1, g1, gT1, hn1, hn2, rfl⟩, T'⟩
  exact ⟨_, ⟨he, _, ⟨tr1, g1, gS, gR, gH, gT1, hn1, h2, h3, h4, h5, trG.put hn2, rfl⟩, rfl⟩, TG.sum (H := [g1, gS, gR, gH, gT1]) T' (fun n ha h0 h1 h2 => by simp only [SU, ha, h0, h1, h2] <;> omega)⟩
theorem zip_at {α β : Type} {l : List α} {m : List β} {i : Nat} {a : α} {b : β} (ha : l[i]? = some a) (hb : m[i]? = some b) : (l.zip m)[i]? = some (a, b) := by
  rw [List.getElem?_zip_eq_some]; exact ⟨ha, hb⟩
theorem zip_set {α β : Type} : ∀ {l : List α} {m : List β} (i : Nat) {a : α} {b : β}, l[i]? = some a → (l.zip m).set i (a, b) = l.zip (m.set i b)
  | [], m, i, a, b, h => by simp at h
  | c :: l, [], i, a, b, h => by simp
  | c :: l, d :: m, 0, a, b, h => by simp at h; simp [h]
  | c :: l, d :: m, i + 1, a, b, h => by simp at h; simp [zip_set i h]
theorem coreTick (hx : isCore L x g) {i : Nat} {q : ShP} {s : ShardS} (hq : L.qs[i]? = some q) (hs : x.shs[i]? = some s) (tb : Nat) (t : TickS) (hr0 : RingB s.ring) (ht : TickB t) : DoesG Tryz.prog 198 #[ptr' tb] [tickG tb q.rb t, g] fun e gs => e = .returned (.int .i64 (stepT s.ring t).2.status) ∧ ∃ g', isCore L { x with shs := x.shs.set i { s with ring := (stepT s.ring t).1 } } g' ∧ gs = [tickG tb q.rb (stepT s.ring t).2, g'] := by
  obtain ⟨tr, gF, gS, gR, gH, gT, h1, h2, h3, h4, h5, h6, rfl⟩ := hx
  have hz : (L.qs.zip x.shs)[i]? = some (q, s) := zip_at hq hs
  obtain ⟨u, y, ⟨gr, gl, hr, hl, rfl⟩, hp, hback⟩ := h5.out hz
  intro w hw
  have T := (((TG.refl hw).sum (H' := [tickG tb q.rb t, gF ++ (gS ++ (gR ++ gT)), gH]) (fun n ha h0 h1 h2 => by simp only [SU, ha, h0, h1, h2] <;> omega)).permAt 2 rfl hp).sum (H' := [tickG tb q.rb t, gF ++ (gS ++ (gR ++ gT)), shardB q.b q.rb q.lb q.wb, gr, gl, y]) (fun n ha h0 h1 h2 => by simp only [SU, ha, h0, h1, h2] <;> omega)
  refine (DoesG.use (tickStep_g (tb := tb) (t := t) hr hr0 ht) T [0, 3] rfl rfl).mono ?_
  rintro e w' ⟨gs, ⟨he, g1, hn1, rfl⟩, T'⟩
  obtain ⟨gH', hf, hp'⟩ := hback (q, { s with ring := (stepT s.ring t).1 }) (shardB q.b q.rb q.lb q.wb ++ (g1 ++ gl)) ⟨g1, gl, hn1, hl, rfl⟩
  rw [zip_set i hq] at hf
  refine ⟨_, ⟨he, _, ⟨tr, gF, gS, gR, gH', gT, h1, h2, h3, by simpa using h4, hf, h6, rfl⟩, rfl⟩, ?_⟩
  exact ((TG.sum (H := [tickG tb q.rb (stepT s.ring t).2, gF ++ (gS ++ (gR ++ gT)), shardB q.b q.rb q.lb q.wb, g1, gl, y]) (H' := [tickG tb q.rb (stepT s.ring t).2, gF ++ (gS ++ (gR ++ gT)), shardB q.b q.rb q.lb q.wb ++ (g1 ++ gl) ++ y]) T' (fun n ha h0 h1 h2 => by simp only [SU, ha, h0, h1, h2] <;> omega)).permAt 2 rfl hp').sum (fun n ha h0 h1 h2 => by simp only [SU, ha, h0, h1, h2] <;> omega)
theorem coreFill (hx : isCore L x g) {i : Nat} {q : ShP} {s : ShardS} (hq : L.qs[i]? = some q) (hs : x.shs[i]? = some s) (tb : Nat) (t : TickS) (hr0 : RingB s.ring) (ht : TickB t) (v : TaskS) : DoesG Tryz.prog 234 #[ptr' tb, .agg v.cells] [tickG tb q.rb t, g] fun e gs => e = .returned (.int .i64 (fillT s.ring t v).2.2) ∧ ∃ g', isCore L { x with shs := x.shs.set i { s with ring := (fillT s.ring t v).1 } } g' ∧ gs = [tickG tb q.rb (fillT s.ring t v).2.1, g'] := by
  obtain ⟨tr, gF, gS, gR, gH, gT, h1, h2, h3, h4, h5, h6, rfl⟩ := hx
  have hz : (L.qs.zip x.shs)[i]? = some (q, s) := zip_at hq hs
  obtain ⟨u, y, ⟨gr, gl, hr, hl, rfl⟩, hp, hback⟩ := h5.out hz
  intro w hw
  have T := (((TG.refl hw).sum (H' := [tickG tb q.rb t, gF ++ (gS ++ (gR ++ gT)), gH]) (fun n ha h0 h1 h2 => by simp only [SU, ha, h0, h1, h2] <;> omega)).permAt 2 rfl hp).sum (H' := [tickG tb q.rb t, gF ++ (gS ++ (gR ++ gT)), shardB q.b q.rb q.lb q.wb, gr, gl, y]) (fun n ha h0 h1 h2 => by simp only [SU, ha, h0, h1, h2] <;> omega)
  refine (DoesG.use (tickFill_g (tb := tb) (t := t) v hr hr0 ht) T [0, 3] rfl rfl).mono ?_
  rintro e w' ⟨gs, ⟨he, g1, hn1, rfl⟩, T'⟩
  obtain ⟨gH', hf, hp'⟩ := hback (q, { s with ring := (fillT s.ring t v).1 }) (shardB q.b q.rb q.lb q.wb ++ (g1 ++ gl)) ⟨g1, gl, hn1, hl, rfl⟩
  rw [zip_set i hq] at hf
  refine ⟨_, ⟨he, _, ⟨tr, gF, gS, gR, gH', gT, h1, h2, h3, by simpa using h4, hf, h6, rfl⟩, rfl⟩, ?_⟩
  exact ((TG.sum (H := [tickG tb q.rb (fillT s.ring t v).2.1, gF ++ (gS ++ (gR ++ gT)), shardB q.b q.rb q.lb q.wb, g1, gl, y]) (H' := [tickG tb q.rb (fillT s.ring t v).2.1, gF ++ (gS ++ (gR ++ gT)), shardB q.b q.rb q.lb q.wb ++ (g1 ++ gl) ++ y]) T' (fun n ha h0 h1 h2 => by simp only [SU, ha, h0, h1, h2] <;> omega)).permAt 2 rfl hp').sum (fun n ha h0 h1 h2 => by simp only [SU, ha, h0, h1, h2] <;> omega)
end
end Go.Proofs.YtblhfbcodbjgcaaGreat
