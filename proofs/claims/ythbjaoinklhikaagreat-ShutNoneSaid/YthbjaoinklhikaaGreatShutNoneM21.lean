import Derived.Test.YthbjaoinklhikaaGreatShutNoneM20
namespace Go.Proofs.YthbjaoinklhikaaGreat
set_option linter.unusedVariables false
set_option linter.unusedSimpArgs false
open Go.RowKit Go.Shelf

/-! ## ShutNone, plain; of no closing -/
def xin (i b : Int) : CoreS := { core0 (plain18 1) with f := { (core0 (plain18 1)).f with inside := i, busy := b } }
def sI : SS := .at (some .inside) .slots0
def sB : SS := .at (some .idle) .waits2
def ZS.ins (z : ZS) (i : Int) : ZS := { z with x := { z.x with f := { z.x.f with inside := i } } }
def ZS.bus (z : ZS) (i : Int) : ZS := { z with x := { z.x with f := { z.x.f with busy := i } } }
theorem JS.ins {N : Nat} {s : SS} {z : ZS} (h : JS N s z) {i : Nat} (hi : i ≤ N) : JS N s (z.ins i) :=
  ⟨⟨⟨h.b.core.slab, by show (0 : Int) ≤ (i : Int); omega, by show ((i : Nat) : Int) ≤ N; omega, h.b.core.tr, h.b.core.sh, h.b.core.ring⟩, h.b.cap, h.b.busy, h.b.saw, h.b.left⟩, h.fit⟩
theorem JS.bus {N : Nat} {s : SS} {z : ZS} (h : JS N s z) {i : Nat} (hi : i ≤ N) : JS N s (z.bus i) :=
  ⟨⟨⟨h.b.core.slab, h.b.core.i0, h.b.core.i1, h.b.core.tr, h.b.core.sh, h.b.core.ring⟩, h.b.cap, ⟨by show (0 : Int) ≤ (i : Int); omega, by show ((i : Nat) : Int) ≤ N; omega⟩, h.b.saw, h.b.left⟩, h.fit⟩
def zA (n m nr : Nat) : ZS := begS 0 (xin n m) (newPipe nr)
def zI (n m nr i : Nat) : ZS := (stepS firstS (zA n m nr)).2.ins i
def zB (n m nr b : Nat) : ZS := (itS 14 sI (zI n m nr 0)).2.bus b
def mayB : Nat → SS → ZS → Bool
  | 0, _, _ => true
  | n + 1, s, z => mayS' s z && mayB n (stepS s z).1 (stepS s z).2
theorem mayB_is : ∀ {n : Nat} {s : SS} {z : ZS}, mayB n s z = true → ∀ j, j < n → mayS' (itS j s z).1 (itS j s z).2 = true
  | 0, _, _, _, j, hj => by omega
  | n + 1, s, z, h, j, hj => by
    simp only [mayB, Bool.and_eq_true] at h
    cases j with
    | zero => exact h.1
    | succ j => exact mayB_is h.2 j (by omega)
structure NoneOk (n m nr : Nat) (z0 : ZS) (I B : Nat → ZS) : Prop where
  jA : JS 5 firstS z0
  mA : mayS' firstS z0 = true
  sA : stepS firstS z0 = (sI, I n)
  jI : ∀ j, j ≤ 3 → JS 6 sI (I j)
  iI : ∀ j, (I j).x.f.inside = j
  mI : ∀ j, mayS' sI (I (j + 1)) = false
  lI : ∀ j, (I (j + 1)).k = (I j).k ∧ (I (j + 1)).p = (I j).p ∧ ({ (I (j + 1)).x with f := { (I (j + 1)).x.f with inside := (j : Int) } } : CoreS) = (I j).x
  mR : ∀ j, j < 14 → mayS' (itS j sI (I 0)).1 (itS j sI (I 0)).2 = true
  eR : itS 14 sI (I 0) = (sB, B m)
  jB : ∀ j, j ≤ 3 → JS 20 sB (B j)
  iB : ∀ j, (B j).x.f.busy = j
  mB : ∀ j, mayS' sB (B (j + 1)) = false
  lB : ∀ j, (B (j + 1)).k = (B j).k ∧ (B (j + 1)).p = (B j).p ∧ ({ (B (j + 1)).x with f := { (B (j + 1)).x.f with busy := (j : Int) } } : CoreS) = (B j).x
  m1 : mayS' sB (B 0) = true
  e3 : ∃ e1 e2, e1 = stepS sB (B 0) ∧ e2 = stepS e1.1 e1.2 ∧ JS 21 e1.1 e1.2 ∧ JS 22 e2.1 e2.2 ∧ mayS' e1.1 e1.2 = true ∧ mayS' e2.1 e2.2 = false ∧ EndS e2 0 true [] []
set_option maxHeartbeats 1000000 in
theorem none18 (n m nr : Nat) (hn : n ≤ 3) (hm : m ≤ 3) : NoneOk n m nr (zA n m nr) (zI n m nr) (zB n m nr) := by
  have hA : JS 5 firstS (zA n m nr) := JS.first (N := 4) (x := xin n m) ⟨(core0_n (c := plain18 1) (by decide)).slab, by show (0 : Int) ≤ (n : Int); omega, by show ((n : Nat) : Int) ≤ _; omega, by show ([] : List EvS).length ≤ 4; simp, by show 1 ≤ (List.replicate 1 (newShard 16)).length; simp, fun s hs => (((core0_n (c := plain18 1) (by decide)).ring s hs).mono (by decide))⟩ rfl ⟨by show (0 : Int) ≤ (m : Int); omega, by show ((m : Nat) : Int) ≤ _; omega⟩ _ _
  have hS : JS 6 sI (stepS firstS (zA n m nr)).2 := by
    have h := hA.step
    have e : (stepS firstS (zA n m nr)).1 = sI := by kernel_rfl
    revert h
    generalize stepS firstS (zA n m nr) = r at *
    intro h
    rw [← e]
    exact h
  have hI : ∀ j, j ≤ 3 → JS 6 sI (zI n m nr j) := fun j hj => JS.ins hS (by omega)
  have hR : JS 20 sB (itS 14 sI (zI n m nr 0)).2 := by
    have h := (hI 0 (by decide)).it 14
    have e : (itS 14 sI (zI n m nr 0)).1 = sB := by kernel_rfl
    revert h
    generalize itS 14 sI (zI n m nr 0) = r at *
    intro h
    rw [← e]
    exact h
  have hB : ∀ j, j ≤ 3 → JS 20 sB (zB n m nr j) := fun j hj => hR.bus (by omega)
  refine ⟨hA, by kernel_rfl, by kernel_rfl, hI, fun _ => by kernel_rfl, fun j => ?_, fun _ => ⟨by kernel_rfl, by kernel_rfl, by kernel_rfl⟩, fun j hj => ?_, by kernel_rfl, hB, fun _ => by kernel_rfl, fun j => ?_, fun _ => ⟨by kernel_rfl, by kernel_rfl, by kernel_rfl⟩, by kernel_rfl, ⟨_, _, rfl, rfl, (hB 0 (by decide)).step, (hB 0 (by decide)).step.step, by kernel_rfl, by kernel_rfl, ⟨by kernel_rfl, ?_, by kernel_rfl, by kernel_rfl, by kernel_rfl, by kernel_rfl⟩⟩⟩
  · have e : mayS' sI (zI n m nr (j + 1)) = (((j + 1 : Nat) : Int) == 0) := by kernel_rfl
    rw [e]
    exact beq_eq_false_iff_ne.2 (by omega)
  · exact mayB_is (show mayB 14 sI (zI n m nr 0) = true by kernel_rfl) j hj
  · have e : mayS' sB (zB n m nr (j + 1)) = (((j + 1 : Nat) : Int) == 0) := by kernel_rfl
    rw [e]
    exact beq_eq_false_iff_ne.2 (by omega)
  · have := (hB 0 (by decide)).step.step.b.core.tr
    omega
theorem none18x (n m nr : Nat) (hn : n ≤ 3) (hm : m ≤ 3) : ∃ z0 I B, z0 = begS 0 (xin n m) (newPipe nr) ∧ NoneOk n m nr z0 I B := ⟨_, _, _, rfl, none18 n m nr hn hm⟩
theorem xin00 : xin ((0 : Nat) : Int) 0 = core0 (plain18 1) := by kernel_rfl
section
variable {L : Lay} {x : CoreS} {p : PipeS} {g : List Blk}
theorem cpLeave (hx : isCP L x p g) (h : 0 ≤ x.f.inside ∧ x.f.inside ≤ 1000000) : DoesG Tryz.prog 43 #[ptr' L.fb] [g] fun e gs => e = .returned (.int .i64 (lessE x.f.inside)) ∧ ∃ g', isCP L { x with f := { x.f with inside := lessN x.f.inside } } p g' ∧ gs = [g'] := by
  obtain ⟨gC, gP, h1, h2, rfl⟩ := hx
  intro w hw
  have T := (TG.refl hw).sum (H' := [gC, gP]) (fun n ha h0 h1 h2 => by simp only [pickG, List.map_cons, List.map_nil, List.getD_cons_succ, List.getD_cons_zero, List.set_cons_succ, List.set_cons_zero, List.cons_append, List.flatten_append, List.flatten_cons, List.flatten_nil, List.append_nil, List.nil_append, ha, h0, h1, h2] <;> omega)
  refine (DoesG.use (coreLeave h1 h) T [0] rfl rfl).mono ?_
  rintro e w' ⟨gs, ⟨he, g1, hn1, rfl⟩, T'⟩
  exact ⟨_, ⟨he, _, ⟨g1, gP, hn1, h2, rfl⟩, rfl⟩, TG.sum (H := [g1, gP]) T' (fun n ha h0 h1 h2 => by simp only [pickG, List.map_cons, List.map_nil, List.getD_cons_succ, List.getD_cons_zero, List.set_cons_succ, List.set_cons_zero, List.cons_append, List.flatten_append, List.flatten_cons, List.flatten_nil, List.append_nil, List.nil_append, ha, h0, h1, h2] <;> omega)⟩
theorem cpRest (hx : isCP L x p g) (h : 0 ≤ x.f.busy ∧ x.f.busy ≤ 1000000) : DoesG Tryz.prog 42 #[ptr' L.fb, .bool false] [g] fun e gs => e = .returned (.int .i64 (lessE x.f.busy)) ∧ ∃ g', isCP L { x with f := { x.f with busy := lessN x.f.busy } } p g' ∧ gs = [g'] := by
  obtain ⟨gC, gP, h1, h2, rfl⟩ := hx
  intro w hw
  have T := (TG.refl hw).sum (H' := [gC, gP]) (fun n ha h0 h1 h2 => by simp only [pickG, List.map_cons, List.map_nil, List.getD_cons_succ, List.getD_cons_zero, List.set_cons_succ, List.set_cons_zero, List.cons_append, List.flatten_append, List.flatten_cons, List.flatten_nil, List.append_nil, List.nil_append, ha, h0, h1, h2] <;> omega)
  refine (DoesG.use (coreRest h1 h) T [0] rfl rfl).mono ?_
  rintro e w' ⟨gs, ⟨he, g1, hn1, rfl⟩, T'⟩
  exact ⟨_, ⟨he, _, ⟨g1, gP, hn1, h2, rfl⟩, rfl⟩, TG.sum (H := [g1, gP]) T' (fun n ha h0 h1 h2 => by simp only [pickG, List.map_cons, List.map_nil, List.getD_cons_succ, List.getD_cons_zero, List.set_cons_succ, List.set_cons_zero, List.cons_append, List.flatten_append, List.flatten_cons, List.flatten_nil, List.append_nil, List.nil_append, ha, h0, h1, h2] <;> omega)⟩
end
set_option maxRecDepth 100000 in
theorem cloAnswer_nil : DoesG Tryz.prog 35 #[.pointer none] [] fun e gs => e = .returned (.tuple #[.agg #[.int .i64 0, .bool false, .int .u64 0, .int .u64 0, .slice none 0 0], .int .i64 6]) ∧ gs = [] := by
  intro w hw
  have T0 := TG.refl hw
  have HT := Lib.hid T0
  clear hw T0
  go_enter Tryz.func35, Tryz.ntmps35
  go_wp2
  exact bodyPost_ret (v := .tuple #[.agg #[.int .i64 0, .bool false, .int .u64 0, .int .u64 0, .slice none 0 0], .int .i64 6]) (by simp [results, Tryz.results35, go_sem]) rfl ⟨_, ⟨rfl, rfl⟩, HT.out.alloc0 _⟩
theorem cloMay_nil : DoesG Tryz.prog 37 #[.pointer none] [] fun e gs => e = .returned (.bool false) ∧ gs = [] := by
  intro w hw
  have HT := Lib.hid (TG.refl hw)
  clear hw
  go_enter Tryz.func37, Tryz.ntmps37
  go_wp2
  go_ret
  exact ⟨_, ⟨rfl, rfl⟩, HT.out⟩
theorem cloStep_nil : DoesG Tryz.prog 38 #[.pointer none] [] fun e gs => e = .returned (.bool false) ∧ gs = [] := by
  intro w hw
  have HT := Lib.hid (TG.refl hw)
  clear hw
  go_enter Tryz.func38, Tryz.ntmps38
  go_wp2
  go_ret
  exact ⟨_, ⟨rfl, rfl⟩, HT.out⟩
theorem cloDone_nil : DoesG Tryz.prog 39 #[.pointer none] [] fun e gs => e = .returned (.bool true) ∧ gs = [] := by
  intro w hw
  have HT := Lib.hid (TG.refl hw)
  clear hw
  go_enter Tryz.func39, Tryz.ntmps39
  go_wp2
  go_ret
  exact ⟨_, ⟨rfl, rfl⟩, HT.out⟩
set_option maxRecDepth 100000 in
theorem cloBegin_none (th no : Int) : DoesG Tryz.prog 36 #[.pointer none, .int .i64 th, .int .i64 no] [] fun e gs => e = .returned (.tuple #[.pointer none, .int .i64 6]) ∧ gs = [] := by
  intro w hw
  have T0 := TG.refl hw
  have HT := Lib.hid T0
  clear hw T0
  go_enter Tryz.func36, Tryz.ntmps36
  go_wp2
  go_ret2
  exact ⟨_, ⟨rfl, rfl⟩, HT.out⟩
end Go.Proofs.YthbjaoinklhikaaGreat

namespace Go.Proofs.YthbjaoinklhikaaGreat
set_option linter.unusedVariables false
set_option linter.unusedSimpArgs false
open Go.RowKit Go.Shelf
set_option maxRecDepth 100000 in
set_option maxHeartbeats 2000000 in
theorem lawShutNone (ib bb : Int) (h0 : 0 ≤ ib ∧ ib ≤ 255) (h1 : 0 ≤ bb ∧ bb ≤ 255) : DoesG Tryz.prog 8 #[.int .u8 ib, .int .u8 bb] [] fun e gs => e = .returned (.bool true) := by
  obtain ⟨n, hn⟩ := Int.eq_ofNat_of_zero_le (show 0 ≤ ib.tmod 4 from Int.tmod_nonneg _ h0.1)
  obtain ⟨m, hm⟩ := Int.eq_ofNat_of_zero_le (show 0 ≤ bb.tmod 4 from Int.tmod_nonneg _ h1.1)
  have hn3 : n ≤ 3 := by have := Int.tmod_lt_of_pos ib (show (0 : Int) < 4 by decide); omega
  have hm3 : m ≤ 3 := by have := Int.tmod_lt_of_pos bb (show (0 : Int) < 4 by decide); omega
  have HN := Lib.hid (newCore (plain18 1) (by decide))
  intro w hw
  have T0 := TG.refl hw
  have HT := Lib.hid T0
  clear hw T0
  go_enter Tryz.func8, Tryz.ntmps8
  go_wp2_with fail
  refine (DoesG.use (alive18_g) (HT.out) [] rfl rfl).mono ?_
  rintro e w1 ⟨gs, ⟨rfl, rfl⟩, Ta⟩
  simp only [putG, List.set_cons_zero, List.set_cons_succ, List.cons_append, List.nil_append, List.append_nil] at Ta
  have HT := Lib.hid Ta
  clear Ta
  go_wp2_with fail
  refine (DoesG.use (cloAnswer_nil) (HT.out) [] rfl rfl).mono ?_
  rintro e w1 ⟨gs, ⟨rfl, rfl⟩, Ta⟩
  simp only [putG, List.set_cons_zero, List.set_cons_succ, List.cons_append, List.nil_append, List.append_nil] at Ta
  have HT := Lib.hid Ta
  clear Ta
  generalize w1 = wa at HT ⊢
  go_wp2_with fail
  refine (DoesG.use (cloBegin_none 0 0) (HT.out.alloc (k := wa.heap.size) rfl 30 #[.int .i64 0, .bool false, .int .u64 0, .int .u64 0, .slice none 0 0]) [] rfl rfl).mono ?_
  rintro e w1 ⟨gs, ⟨rfl, rfl⟩, Ta⟩
  simp only [putG, List.set_cons_zero, List.set_cons_succ, List.cons_append, List.nil_append, List.append_nil] at Ta
  have HT := Lib.hid Ta
  clear Ta
  go_wp2_with fail
  refine (DoesG.use (cloMay_nil) (HT.out) [] rfl rfl).mono ?_
  rintro e w1 ⟨gs, ⟨rfl, rfl⟩, Ta⟩
  simp only [putG, List.set_cons_zero, List.set_cons_succ, List.cons_append, List.nil_append, List.append_nil] at Ta
  have HT := Lib.hid Ta
  clear Ta
  go_wp2_with fail
  refine (DoesG.use (cloStep_nil) (HT.out) [] rfl rfl).mono ?_
  rintro e w1 ⟨gs, ⟨rfl, rfl⟩, Ta⟩
  simp only [putG, List.set_cons_zero, List.set_cons_succ, List.cons_append, List.nil_append, List.append_nil] at Ta
  have HT := Lib.hid Ta
  clear Ta
  go_wp2_with fail
  refine (DoesG.use (cloDone_nil) (HT.out) [] rfl rfl).mono ?_
  rintro e w1 ⟨gs, ⟨rfl, rfl⟩, Ta⟩
  simp only [putG, List.set_cons_zero, List.set_cons_succ, List.cons_append, List.nil_append, List.append_nil] at Ta
  have HT := Lib.hid Ta
  clear Ta
  have a1 := HT.out.cell 0 0 rfl 1
  have a4 := HT.out.cell 0 0 rfl 4
  simp only [List.getElem?_nil, List.getElem?_toArray, List.getElem?_cons_zero, List.getElem?_cons_succ] at a1 a4
  go_wp2_with fail
  refine (DoesG.use (plain18_g 1) (HT.out) [] rfl rfl).mono ?_
  rintro e w1 ⟨gs, ⟨rfl, rfl⟩, Ta⟩
  simp only [putG, List.set_cons_zero, List.set_cons_succ, List.cons_append, List.nil_append, List.append_nil] at Ta
  have HT := Lib.hid Ta
  clear Ta
  go_wp2_with fail
  refine (DoesG.use (HN.out) (HT.out) [] rfl rfl).mono ?_
  rintro e w1 ⟨gs, ⟨L, gF, gP, gL, rfl, hx, hp, rfl, rfl⟩, Ta⟩
  simp only [putG, List.set_cons_zero, List.set_cons_succ, List.cons_append, List.nil_append, List.append_nil] at Ta
  have HX := Lib.hid hx
  have HP := Lib.hid (pipe_empty hp)
  clear hx hp a1 a4
  have HT := Lib.hid Ta
  clear Ta
  obtain ⟨nr, hpp⟩ := HP.out
  have HPP := Lib.hid hpp
  clear hpp
  have HT := Lib.hid (HT.out.pick [1, 2] rfl)
  obtain ⟨z0, I, B, hz0, hno⟩ := none18x n m nr hn3 hm3
  have HNO := Lib.hid hno
  have HZ := Lib.hid hz0
  clear hno hz0
  go_wp2
  have HX0 := Lib.hid (show isCore L (xin ((0 : Nat) : Int) 0) gF from by rw [xin00]; exact HX.out)
  go_loopw [14] (fun i wr => ∃ j : Nat, j ≤ n ∧ i = .int .i64 j ∧ ∃ g, isCore L (xin j 0) g ∧ TG [] w [g, gP] wr) (fun i _ => n - (intOf i).toNat)
  case atStart => exact ⟨0, Nat.zero_le _, rfl, _, HX0.out, HT.out⟩
  case round =>
    obtain ⟨j, hj, rfl, g2, hx2, T2⟩ := hrel
    have HX2 := Lib.hid hx2
    have HT := Lib.hid T2
    clear T2 hx2
    by_cases hlt : j < n
    · go_wp2_with fail
      refine (DoesG.use (coreEnter HX2.out ⟨by show 0 ≤ (j : Int); omega, by show (j : Int) ≤ 1000000; omega⟩) HT.out [0] rfl rfl).mono ?_
      rintro e w4 ⟨gs, ⟨rfl, g3, hx3, rfl⟩, Ta⟩
      simp only [putG, List.set_cons_zero, List.set_cons_succ, List.cons_append, List.nil_append, List.append_nil] at Ta
      have HX3 := Lib.hid (show isCore L (xin ((j + 1 : Nat) : Int) 0) g3 from hx3)
      have HT := Lib.hid Ta
      clear Ta hx3
      go_wp2
      first
      | (go_roundw
         case rel => exact ⟨j + 1, by omega, by go_num, g3, HX3.out, HT.out⟩
         case measure => simp [intOf]; omega)
      | exact ⟨⟨j + 1, by omega, by go_num, g3, HX3.out, HT.out⟩, by simp [intOf]; omega⟩
      | ((repeat apply Exists.intro); exact ⟨⟨⟨j + 1, by omega, by go_num, g3, HX3.out, HT.out⟩, rfl⟩, by simp [intOf]; omega⟩)
    · have hjn : j = n := by omega
      subst hjn
      go_wp2
      go_loopw [15] (fun i wr => ∃ b : Nat, b ≤ m ∧ i = .int .i64 b ∧ ∃ g, isCore L (xin j b) g ∧ TG [] w [g, gP] wr) (fun i _ => m - (intOf i).toNat)
      case atStart => exact ⟨0, Nat.zero_le _, rfl, _, HX2.out, HT.out⟩
      case round =>
        obtain ⟨b, hb, rfl, g3, hx3, T3⟩ := hrel
        have HX3 := Lib.hid hx3
        have HT := Lib.hid T3
        clear T3 hx3
        by_cases hlb : b < m
        · go_wp2_with fail
          refine (DoesG.use (coreWork HX3.out ⟨by show 0 ≤ (b : Int); omega, by show (b : Int) ≤ 1000000; omega⟩) HT.out [0] rfl rfl).mono ?_
          rintro e w4 ⟨gs, ⟨rfl, g4, hx4, rfl⟩, Ta⟩
          simp only [putG, List.set_cons_zero, List.set_cons_succ, List.cons_append, List.nil_append, List.append_nil] at Ta
          have HX4 := Lib.hid (show isCore L (xin j ((b + 1 : Nat) : Int)) g4 from hx4)
          have HT := Lib.hid Ta
          clear Ta hx4
          go_wp2
          first
          | (go_roundw
             case rel => exact ⟨b + 1, by omega, by go_num, g4, HX4.out, HT.out⟩
             case measure => simp [intOf]; omega)
          | exact ⟨⟨b + 1, by omega, by go_num, g4, HX4.out, HT.out⟩, by simp [intOf]; omega⟩
          | ((repeat apply Exists.intro); exact ⟨⟨⟨b + 1, by omega, by go_num, g4, HX4.out, HT.out⟩, rfl⟩, by simp [intOf]; omega⟩)
        · have hbm : b = m := by omega
          subst hbm
          have HT := Lib.hid (HT.out.sum (H' := [g3 ++ gP]) (fun n ha h0 h1 h2 => by simp only [pickG, List.map_cons, List.map_nil, List.getD_cons_succ, List.getD_cons_zero, List.set_cons_succ, List.set_cons_zero, List.cons_append, List.flatten_append, List.flatten_cons, List.flatten_nil, List.append_nil, List.nil_append, ha, h0, h1, h2] <;> omega))
          have HCP := Lib.hid (show isCP L (xin j b) (newPipe nr) (g3 ++ gP) from ⟨g3, gP, HX3.out, HPP.out, rfl⟩)
          have HBG := Lib.hid (cloBegin HCP.out (by show ([] : List EvS).length ≤ _; simp) 0 0)
          go_wp2_with fail
          refine (DoesG.use (HBG.out) (HT.out) [0] rfl rfl).mono ?_
          rintro e w1 ⟨gs, ⟨kb, g, gF1, rfl, hc, hx1, rfl⟩, Ta⟩
          simp only [putG, List.set_cons_zero, List.set_cons_succ, List.cons_append, List.nil_append, List.append_nil] at Ta
          have HT := Lib.hid Ta
          clear Ta
          have hz := HZ.out
          have hst := cloStep (s := firstS) (k := z0.k) (x := z0.x) (p := z0.p) (by rw [hz]; exact hc) (by rw [hz]; exact hx1) (HNO.out.jA.b.ok (by decide)) HNO.out.mA (HNO.out.jA.pre (by decide)) ⟨by decide, by decide⟩
          have hst : DoesG _ _ _ _ fun en gs => ∃ g' gF', en = .returned (.bool true) ∧ isClo L kb (stepS firstS z0).1 (0 + 1) (stepS firstS z0).2.k g' ∧ isCP L (stepS firstS z0).2.x (stepS firstS z0).2.p gF' ∧ gs = [g', gF'] := hst
          rw [HNO.out.sA] at hst
          have HST := Lib.hid hst
          clear hst hz hc hx1
          have HT := Lib.hid (HT.out.pick [1, 0] rfl)
          go_wp2_with fail
          refine (DoesG.use (HST.out) (HT.out) [1, 0] rfl rfl).mono ?_
          rintro e w1 ⟨gs, ⟨g5, gF5, rfl, hc5, hx5, rfl⟩, Ta⟩
          simp only [putG, List.set_cons_zero, List.set_cons_succ, List.cons_append, List.nil_append, List.append_nil] at Ta
          have HT := Lib.hid Ta
          clear Ta
          have HC := Lib.hid hc5
          have HX := Lib.hid hx5
          clear hc5 hx5
          go_wp2
          go_loopw [18] (fun i wr => ∃ q : Nat, q ≤ j ∧ i = .int .i64 q ∧ ∃ g gF, isClo L kb sI 1 (I (j - q)).k g ∧ isCP L (I (j - q)).x (I (j - q)).p gF ∧ TG [] w [gF, g] wr) (fun i _ => j - (intOf i).toNat)
          case atStart => exact ⟨0, Nat.zero_le _, rfl, _, _, HC.out, HX.out, HT.out⟩
          case round =>
            obtain ⟨q, hq, rfl, g6, gF6, hc6, hx6, T6⟩ := hrel
            have HT := Lib.hid T6
            clear T6
            by_cases hlq : q < j
            · obtain ⟨r, hr⟩ : ∃ r, j - q = r + 1 := ⟨j - q - 1, by omega⟩
              rw [hr] at hc6 hx6
              have ho : ShutOk ⟨(I (r + 1)).k, (I (r + 1)).x, (I (r + 1)).p⟩ := (HNO.out.jI (r + 1) (by omega)).b.ok (by decide)
              have hm : mayS' sI ⟨(I (r + 1)).k, (I (r + 1)).x, (I (r + 1)).p⟩ = false := HNO.out.mI r
              have hmy := cloMay hc6 hx6 ho
              rw [hm] at hmy
              have HMY := Lib.hid hmy
              have HNX := Lib.hid (show ∀ g gF, isClo L kb sI 1 (I (r + 1)).k g → isCP L (I (r + 1)).x (I (r + 1)).p gF → _ from fun g gF hc hx => cloNo hc hx ho hm)
              have e0 := HNO.out.iI (r + 1)
              have e1 : lessE (I (r + 1)).x.f.inside = 0 := by rw [e0]; unfold lessE; rw [if_neg (by omega)]
              have e2 : lessN (I (r + 1)).x.f.inside = (r : Int) := by rw [e0]; unfold lessN; rw [if_neg (by omega)]; omega
              have HLV := Lib.hid (show ∀ gF, isCP L (I (r + 1)).x (I (r + 1)).p gF → DoesG Tryz.prog 43 #[ptr' L.fb] [gF] fun e gs => e = .returned (.int .i64 0) ∧ ∃ g', isCP L (I r).x (I r).p g' ∧ gs = [g'] from fun gF hx => by
                have h := cpLeave hx ⟨by rw [e0]; omega, by rw [e0]; omega⟩
                rw [e1, e2, (HNO.out.lI r).2.2, (HNO.out.lI r).2.1] at h
                exact h)
              have HR := Lib.hid (show j - (q + 1) = r by omega)
              clear hmy ho hm e0 e1 e2 hc6 hx6 hr
              go_wp2_with fail
              refine (DoesG.use (HMY.out) (HT.out) [1, 0] rfl rfl).mono ?_
              rintro e w1 ⟨gs, ⟨rfl, g7, gF7, hc7, hx7, rfl⟩, Ta⟩
              simp only [putG, List.set_cons_zero, List.set_cons_succ, List.cons_append, List.nil_append, List.append_nil] at Ta
              have HNZ := Lib.hid (HNX.out _ _ hc7 hx7)
              clear hc7 hx7
              have HT := Lib.hid Ta
              clear Ta
              go_wp2_with fail
              refine (DoesG.use (HNZ.out) (HT.out) [1, 0] rfl rfl).mono ?_
              rintro e w1 ⟨gs, ⟨rfl, g8, gF8, hc8, hx8, rfl⟩, Ta⟩
              simp only [putG, List.set_cons_zero, List.set_cons_succ, List.cons_append, List.nil_append, List.append_nil] at Ta
              have HLZ := Lib.hid (HLV.out _ hx8)
              have HC8 := Lib.hid hc8
              clear hc8 hx8
              have HT := Lib.hid Ta
              clear Ta
              go_wp2_with fail
              refine (DoesG.use (HLZ.out) (HT.out) [0] rfl rfl).mono ?_
              rintro e w1 ⟨gs, ⟨rfl, gF9, hx9, rfl⟩, Ta⟩
              simp only [putG, List.set_cons_zero, List.set_cons_succ, List.cons_append, List.nil_append, List.append_nil] at Ta
              have HX9 := Lib.hid hx9
              clear hx9
              have HT := Lib.hid Ta
              clear Ta
              go_wp2
              first
              | (go_roundw
                 case rel => exact ⟨q + 1, by omega, by go_num, g8, gF9, by rw [HR.out, ← (HNO.out.lI r).1]; exact HC8.out, by rw [HR.out]; exact HX9.out, HT.out⟩
                 case measure => simp [intOf]; omega)
              | exact ⟨⟨q + 1, by omega, by go_num, g8, gF9, by rw [HR.out, ← (HNO.out.lI r).1]; exact HC8.out, by rw [HR.out]; exact HX9.out, HT.out⟩, by simp [intOf]; omega⟩
              | ((repeat apply Exists.intro); exact ⟨⟨⟨q + 1, by omega, by go_num, g8, gF9, by rw [HR.out, ← (HNO.out.lI r).1]; exact HC8.out, by rw [HR.out]; exact HX9.out, HT.out⟩, rfl⟩, by simp [intOf]; omega⟩)
            · have hqj : q = j := by omega
              subst hqj
              rw [Nat.sub_self] at hc6 hx6
              have HC := Lib.hid hc6
              have HX := Lib.hid hx6
              clear hc6 hx6
              go_wp2
              go_loopw [19] (fun i wr => ∃ r : Nat, r ≤ 14 ∧ i = .int .i64 r ∧ ∃ g gF, isClo L kb (itS r sI (I 0)).1 (1 + r) (itS r sI (I 0)).2.k g ∧ isCP L (itS r sI (I 0)).2.x (itS r sI (I 0)).2.p gF ∧ TG [] w [gF, g] wr) (fun i _ => 14 - (intOf i).toNat)
              case atStart => exact ⟨0, Nat.zero_le _, rfl, _, _, HC.out, HX.out, HT.out⟩
              case round =>
                obtain ⟨r, hr, rfl, g7, gF7, hc7, hx7, T7⟩ := hrel
                have HC7 := Lib.hid hc7
                have HX7 := Lib.hid hx7
                have HT := Lib.hid T7
                clear T7 hc7 hx7
                by_cases hlr : r < 14
                · have hJ := (HNO.out.jI 0 (by decide)).it r
                  have hst := cloStep HC7.out HX7.out (hJ.b.ok (by omega)) (HNO.out.mR r hlr) (hJ.pre (by omega)) ⟨by omega, by omega⟩
                  rw [← itS_next] at hst
                  have HST := Lib.hid hst
                  clear hst hJ
                  go_wp2_with fail
                  refine (DoesG.use HST.out HT.out [1, 0] rfl rfl).mono ?_
                  rintro e w4 ⟨gs, ⟨g8, gF8, rfl, hc8, hx8, rfl⟩, Ta⟩
                  simp only [putG, List.set_cons_zero, List.set_cons_succ, List.cons_append, List.nil_append, List.append_nil] at Ta
                  have HC8 := Lib.hid hc8
                  have HX8 := Lib.hid hx8
                  have HT := Lib.hid Ta
                  clear Ta hc8 hx8
                  go_wp2
                  first
                  | (go_roundw
                     case rel => exact ⟨r + 1, by omega, by go_num, g8, gF8, by have := HC8.out; rwa [show ((1 : Int) + r + 1) = 1 + ((r + 1 : Nat) : Int) by omega] at this, HX8.out, HT.out⟩
                     case measure => simp [intOf]; omega)
                  | exact ⟨⟨r + 1, by omega, by go_num, g8, gF8, by have := HC8.out; rwa [show ((1 : Int) + r + 1) = 1 + ((r + 1 : Nat) : Int) by omega] at this, HX8.out, HT.out⟩, by simp [intOf]; omega⟩
                  | ((repeat apply Exists.intro); exact ⟨⟨⟨r + 1, by omega, by go_num, g8, gF8, by have := HC8.out; rwa [show ((1 : Int) + r + 1) = 1 + ((r + 1 : Nat) : Int) by omega] at this, HX8.out, HT.out⟩, rfl⟩, by simp [intOf]; omega⟩)
                · have hr14 : r = 14 := by omega
                  have he := HNO.out.eR
                  rw [← hr14] at he
                  have hc8 := HC7.out
                  have hx8 := HX7.out
                  rw [he] at hc8 hx8
                  have hr15 : (1 : Int) + r = 15 := by omega
                  rw [hr15] at hc8
                  have HC := Lib.hid hc8
                  have HX := Lib.hid hx8
                  clear hc8 hx8 he hr15 HC7 HX7
                  go_wp2
                  go_loopw [20] (fun i wr => ∃ q : Nat, q ≤ b ∧ i = .int .i64 q ∧ ∃ g gF, isClo L kb sB 15 (B (b - q)).k g ∧ isCP L (B (b - q)).x (B (b - q)).p gF ∧ TG [] w [gF, g] wr) (fun i _ => b - (intOf i).toNat)
                  case atStart => exact ⟨0, Nat.zero_le _, rfl, _, _, HC.out, HX.out, HT.out⟩
                  case round =>
                    obtain ⟨q, hq, rfl, g6, gF6, hc6, hx6, T6⟩ := hrel
                    have HT := Lib.hid T6
                    clear T6
                    by_cases hlq : q < b
                    · obtain ⟨r, hr⟩ : ∃ r, b - q = r + 1 := ⟨b - q - 1, by omega⟩
                      rw [hr] at hc6 hx6
                      have ho : ShutOk ⟨(B (r + 1)).k, (B (r + 1)).x, (B (r + 1)).p⟩ := (HNO.out.jB (r + 1) (by omega)).b.ok (by decide)
                      have hm : mayS' sB ⟨(B (r + 1)).k, (B (r + 1)).x, (B (r + 1)).p⟩ = false := HNO.out.mB r
                      have hmy := cloMay hc6 hx6 ho
                      rw [hm] at hmy
                      have HMY := Lib.hid hmy
                      have HNX := Lib.hid (show ∀ g gF, isClo L kb sB 15 (B (r + 1)).k g → isCP L (B (r + 1)).x (B (r + 1)).p gF → _ from fun g gF hc hx => cloNo hc hx ho hm)
                      have e0 := HNO.out.iB (r + 1)
                      have e1 : lessE (B (r + 1)).x.f.busy = 0 := by rw [e0]; unfold lessE; rw [if_neg (by omega)]
                      have e2 : lessN (B (r + 1)).x.f.busy = (r : Int) := by rw [e0]; unfold lessN; rw [if_neg (by omega)]; omega
                      have HLV := Lib.hid (show ∀ gF, isCP L (B (r + 1)).x (B (r + 1)).p gF → DoesG Tryz.prog 42 #[ptr' L.fb, .bool false] [gF] fun e gs => e = .returned (.int .i64 0) ∧ ∃ g', isCP L (B r).x (B r).p g' ∧ gs = [g'] from fun gF hx => by
                        have h := cpRest hx ⟨by rw [e0]; omega, by rw [e0]; omega⟩
                        rw [e1, e2, (HNO.out.lB r).2.2, (HNO.out.lB r).2.1] at h
                        exact h)
                      have HR := Lib.hid (show b - (q + 1) = r by omega)
                      clear hmy ho hm e0 e1 e2 hc6 hx6 hr
                      go_wp2_with fail
                      refine (DoesG.use (HMY.out) (HT.out) [1, 0] rfl rfl).mono ?_
                      rintro e w1 ⟨gs, ⟨rfl, g7, gF7, hc7, hx7, rfl⟩, Ta⟩
                      simp only [putG, List.set_cons_zero, List.set_cons_succ, List.cons_append, List.nil_append, List.append_nil] at Ta
                      have HNZ := Lib.hid (HNX.out _ _ hc7 hx7)
                      clear hc7 hx7
                      have HT := Lib.hid Ta
                      clear Ta
                      go_wp2_with fail
                      refine (DoesG.use (HNZ.out) (HT.out) [1, 0] rfl rfl).mono ?_
                      rintro e w1 ⟨gs, ⟨rfl, g8, gF8, hc8, hx8, rfl⟩, Ta⟩
                      simp only [putG, List.set_cons_zero, List.set_cons_succ, List.cons_append, List.nil_append, List.append_nil] at Ta
                      have HLZ := Lib.hid (HLV.out _ hx8)
                      have HC8 := Lib.hid hc8
                      clear hc8 hx8
                      have HT := Lib.hid Ta
                      clear Ta
                      go_wp2_with fail
                      refine (DoesG.use (HLZ.out) (HT.out) [0] rfl rfl).mono ?_
                      rintro e w1 ⟨gs, ⟨rfl, gF9, hx9, rfl⟩, Ta⟩
                      simp only [putG, List.set_cons_zero, List.set_cons_succ, List.cons_append, List.nil_append, List.append_nil] at Ta
                      have HX9 := Lib.hid hx9
                      clear hx9
                      have HT := Lib.hid Ta
                      clear Ta
                      go_wp2
                      first
                      | (go_roundw
                         case rel => exact ⟨q + 1, by omega, by go_num, g8, gF9, by rw [HR.out, ← (HNO.out.lB r).1]; exact HC8.out, by rw [HR.out]; exact HX9.out, HT.out⟩
                         case measure => simp [intOf]; omega)
                      | exact ⟨⟨q + 1, by omega, by go_num, g8, gF9, by rw [HR.out, ← (HNO.out.lB r).1]; exact HC8.out, by rw [HR.out]; exact HX9.out, HT.out⟩, by simp [intOf]; omega⟩
                      | ((repeat apply Exists.intro); exact ⟨⟨⟨q + 1, by omega, by go_num, g8, gF9, by rw [HR.out, ← (HNO.out.lB r).1]; exact HC8.out, by rw [HR.out]; exact HX9.out, HT.out⟩, rfl⟩, by simp [intOf]; omega⟩)
                    · have hqj : q = b := by omega
                      subst hqj
                      rw [Nat.sub_self] at hc6 hx6
                      have HC := Lib.hid hc6
                      have HX := Lib.hid hx6
                      clear hc6 hx6
                      obtain ⟨e1, e2, he1, he2, hj1, hj2, hm1, hm2, hend⟩ := HNO.out.e3
                      have hs1 := cloStep HC.out HX.out ((HNO.out.jB 0 (by decide)).b.ok (by decide)) HNO.out.m1 ((HNO.out.jB 0 (by decide)).pre (by decide)) ⟨by decide, by decide⟩
                      have hs1 : DoesG _ _ _ _ fun en gs => ∃ g' gF', en = .returned (.bool true) ∧ isClo L kb (stepS sB (B 0)).1 (15 + 1) (stepS sB (B 0)).2.k g' ∧ isCP L (stepS sB (B 0)).2.x (stepS sB (B 0)).2.p gF' ∧ gs = [g', gF'] := hs1
                      rw [← he1] at hs1
                      have HS1 := Lib.hid hs1
                      have HB0 := Lib.hid (cloBusy HC.out rfl)
                      have HS2 := Lib.hid (show ∀ g gF, isClo L kb e1.1 (15 + 1) e1.2.k g → isCP L e1.2.x e1.2.p gF → DoesG Tryz.prog 38 #[ptr' kb] [g, gF] fun en gs => ∃ g' gF', en = .returned (.bool true) ∧ isClo L kb e2.1 (15 + 1 + 1) e2.2.k g' ∧ isCP L e2.2.x e2.2.p gF' ∧ gs = [g', gF'] from fun g gF hc hx => by
                        rw [he2]
                        exact cloStep hc hx (hj1.b.ok (by decide)) hm1 (hj1.pre (by decide)) ⟨by decide, by decide⟩)
                      have HNX := Lib.hid (show ∀ g gF, isClo L kb e2.1 (15 + 1 + 1) e2.2.k g → isCP L e2.2.x e2.2.p gF → _ from fun g gF hc hx => cloNo hc hx (hj2.b.ok (by decide)) hm2)
                      have HAN := Lib.hid (show ∀ g, isClo L kb e2.1 (15 + 1 + 1) e2.2.k g → DoesG Tryz.prog 35 #[ptr' kb] [g] fun en gs => ∃ v gv, en = .returned (.tuple #[.agg (ansS 0 true v), .int .i64 0]) ∧ rowG 22 1 v ([] : List Int).length (u64s []) gv ∧ gs = [g, gv] from fun g hc => by
                        have h := cloAnswer hc hend.nil (by rw [hend.left]; decide)
                        rw [hend.err, hend.ok, hend.told] at h
                        exact h)
                      clear hs1 hj1 hj2 hm1 hm2 hend he1 he2
                      go_wp2_with fail
                      refine (DoesG.use (HB0.out) (HT.out) [1] rfl rfl).mono ?_
                      rintro e w1 ⟨gs, ⟨rfl, rfl⟩, Ta⟩
                      simp only [putG, List.set_cons_zero, List.set_cons_succ, List.cons_append, List.nil_append, List.append_nil] at Ta
                      have HT := Lib.hid Ta
                      clear Ta
                      simp only [ansS]
                      generalize w1 = wc at HT ⊢
                      go_wp2_with fail
                      refine (DoesG.use (HS1.out) (HT.out.alloc (k := wc.heap.size) rfl 30 #[.int .i64 0, .bool false, .int .u64 0, .int .u64 0, .slice none 0 0]) [1, 0] rfl rfl).mono ?_
                      rintro e w1 ⟨gs, ⟨g9, gF9, rfl, hc9, hx9, rfl⟩, Ta⟩
                      simp only [putG, List.set_cons_zero, List.set_cons_succ, List.cons_append, List.nil_append, List.append_nil] at Ta
                      have HSZ := Lib.hid (HS2.out _ _ hc9 hx9)
                      clear hc9 hx9
                      have HT := Lib.hid Ta
                      clear Ta
                      go_wp2_with fail
                      refine (DoesG.use (HSZ.out) (HT.out) [1, 0] rfl rfl).mono ?_
                      rintro e w1 ⟨gs, ⟨g10, gF10, rfl, hc10, hx10, rfl⟩, Ta⟩
                      simp only [putG, List.set_cons_zero, List.set_cons_succ, List.cons_append, List.nil_append, List.append_nil] at Ta
                      have HC := Lib.hid hc10
                      have HX := Lib.hid hx10
                      clear hc10 hx10
                      have HT := Lib.hid Ta
                      clear Ta
                      have HAZ := Lib.hid (HAN.out _ HC.out)
                      go_wp2_with fail
                      refine (DoesG.use (HAZ.out) (HT.out) [1] rfl rfl).mono ?_
                      rintro e w1 ⟨gs, ⟨v, gv, rfl, hv, rfl⟩, Ta⟩
                      simp only [putG, List.set_cons_zero, List.set_cons_succ, List.cons_append, List.nil_append, List.append_nil] at Ta
                      have HT := Lib.hid Ta
                      clear Ta
                      obtain ⟨avv, capv, hvv⟩ := rowG.val hv
                      subst hvv
                      clear hv
                      simp only [ansS]
                      generalize w1 = wd at HT ⊢
                      have HNZ := Lib.hid (HNX.out _ _ HC.out HX.out)
                      go_wp2_with fail
                      refine (DoesG.use (HNZ.out) (HT.out.alloc (k := wd.heap.size) rfl 30 #[.int .i64 0, .bool true, .int .u64 0, .int .u64 0, .slice avv ([] : List Int).length capv]) [1, 0] rfl rfl).mono ?_
                      rintro e w1 ⟨gs, ⟨rfl, g11, gF11, hc11, hx11, rfl⟩, Ta⟩
                      simp only [putG, List.set_cons_zero, List.set_cons_succ, List.cons_append, List.nil_append, List.append_nil] at Ta
                      have HT := Lib.hid Ta
                      clear Ta
                      clear hc11 hx11
                      go_wp2
                      go_ret
                      exact ⟨_, rfl, HT.out⟩
end Go.Proofs.YthbjaoinklhikaaGreat
