import Derived.Test.YtnemggminanbbaaFloorA
namespace Go.Proofs.Ytnemggminanbbaa
set_option linter.unusedVariables false
set_option linter.unusedSimpArgs false
open Go.RowKit Go.Shelf
attribute [local go_sem] Oper.semAt_some

set_option maxRecDepth 100000 in
set_option maxHeartbeats 4000000 in
theorem check_g (c : Cfg) : DoesG Try.prog 44 #[.agg c.cells] [] fun e gs => e = .returned (.int .i64 (if c.ok then 0 else 8)) ∧ gs = [] := by
  intro w hw
  have T0 := TG.refl hw
  have HT := Lib.hid T0
  clear hw T0
  have HB := Lib.hid (bounds_g c)
  obtain ⟨C, hC⟩ : ∃ C, C = c.cells := ⟨_, rfl⟩
  have hC' := hC
  simp only [Cfg.cells] at hC'
  rw [← hC] at HB
  have HCC := Lib.hid hC
  simp only [Cfg.cells]
  refine calls_of_marks Try.func44 rfl ?_
  simp only [Try.ntmps44, List.size_toArray, List.length_cons, List.length_nil, Nat.reduceAdd, Nat.reduceSub, Array.replicate_succ, Array.replicate_zero, List.push_toArray, List.append_toArray, List.nil_append, List.cons_append]
  go_wp2_with fail
  rw [← hC']
  clear hC hC'
  refine (DoesG.use HB.out ((HT.out.alloc rfl _ _).alloc rfl _ _) [] rfl rfl).mono ?_
  rintro e w1 ⟨gs, ⟨cb, rfl, rfl⟩, Ta⟩
  simp only [putG, List.nil_append, List.cons_append, HCC.out] at Ta
  go_wp2
  refine wp_rangeG rfl (enters_of Try.func85 (by kernel_rfl) rfl) (bounds_iter 2 cb c) (fun _ _ => rfl) Ta (chkJ (w.heap.size) (w.heap.size + 1) cb c) (chkX (w.heap.size) (w.heap.size + 1) cb c) ?h0 ?hT ?hbody ?hdone ?hstop
  case h0 => exact ⟨by simp, fun i hi => absurd hi (Nat.not_lt_zero _)⟩
  case hT => rintro k H _ ⟨rfl, _⟩; rfl
  case hbody =>
    rintro k hk H W l ⟨rfl, hu⟩ hH
    obtain ⟨x, hx⟩ : ∃ x, (c.pair k).1 = x := ⟨_, rfl⟩
    obtain ⟨m, hm⟩ : ∃ m, (c.pair k).2 = m := ⟨_, rfl⟩
    simp only [hx, hm]
    have hf : c.fine k = (decide (1 ≤ x) && decide (x ≤ m)) := by unfold Cfg.fine; rw [hx, hm]
    have HF := Lib.hid hf
    have HU := Lib.hid hu
    have HH := Lib.hid hH
    clear hx hm hf hu hH
    refine wpIn_any (n := 9) ?_
    gi_wp2
    refine ⟨_, TG.refl HH.out, fun Wb hb => ?_⟩
    have HT := Lib.hid (TG.refl hb)
    have f1 := HT.out.free 1 0 rfl 0
    have c1 := HT.out.cell 1 0 rfl 0
    clear hb
    have bad : c.fine k = false → ∃ H', chkX (w.heap.size) (w.heap.size + 1) cb c (k + 1) .ret H' ∧ TG [[cl w.heap.size 46 c.cells], [cl (w.heap.size + 1) 42 #[.int .i64 0]], [cl cb 46 c.cells]] Wb H' (Wb.setCell ⟨w.heap.size + 1, 0, none⟩ (.int .i64 8)) :=
      fun h => ⟨_, ⟨rfl, rfl, Cfg.not_ok hk h⟩, HT.out.set 1 0 rfl 0 (.int .i64 8)⟩
    have HBAD := Lib.hid bad
    clear bad
    by_cases h1 : x < 1
    · refine wpIn_any (n := 9) ?_
      gi_wp2
      exact HBAD.out (by rw [HF.out]; simp; omega)
    · by_cases h2 : m < x
      · refine wpIn_any (n := 9) ?_
        gi_wp2
        exact HBAD.out (by rw [HF.out]; simp; omega)
      · refine wpIn_any (n := 9) ?_
        gi_wp2
        refine ⟨_, ⟨rfl, fun i hi => ?_⟩, HT.out⟩
        by_cases hik : i = k
        · subst hik; rw [HF.out]; simp; omega
        · exact HU.out i (by omega)
  case hdone =>
    rintro H W D ⟨rfl, hu⟩ hT hD hK
    have HX := Lib.hid (And.intro hT (And.intro hD hK))
    have HT := Lib.hid (TG.refl hT.has)
    have HU := Lib.hid (Cfg.ok_of hu)
    have f1 := hT.free 1 0 rfl 0
    have c1 := hT.cell 1 0 rfl 0
    clear hu hT hD hK
    go_wp2
    obtain ⟨hT, hD, hK⟩ := HX.out
    have T2 := HT.out.set 1 0 rfl 0 (.int .i64 0)
    have T3 := hT.fin hD T2 (.deferred none)
    have c2 := T3.cell 1 0 rfl 0
    refine post_mark (v := .int .i64 0) ((Below.heap_setCell W _ _ D (by have := hD.2.2; intro e; subst e; exact this (by simp [keys, ex]))).trans hK) (by simp [results, Try.results44, go_sem, c2]) ⟨[], ⟨by simp [HU.out], rfl⟩, T3.pick [] rfl⟩
  case hstop =>
    rintro k cd H W D hk ⟨rfl, rfl, hok⟩ hT hD hK
    have T3 := hT.fin hD (TG.refl hT.has) (.deferred none)
    have c2 := T3.cell 1 0 rfl 0
    refine wp_ret (post_mark (v := .int .i64 8) hK (by simp [results, Try.results44, go_sem, c2]) ⟨[], ⟨by simp [hok], rfl⟩, T3.pick [] rfl⟩)
end Go.Proofs.Ytnemggminanbbaa
