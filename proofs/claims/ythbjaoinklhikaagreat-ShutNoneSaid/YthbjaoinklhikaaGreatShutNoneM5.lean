import Derived.Test.YthbjaoinklhikaaGreatShutNoneM4
import Derived.Test.YthbjaoinklhikaaGreatShutNoneM3
namespace Go.Proofs.YthbjaoinklhikaaGreat
set_option linter.unusedVariables false
set_option linter.unusedSimpArgs false
open Go.RowKit Go.Shelf
namespace Cli
variable {c : Cli}
/-! ### A program -/
def progB (pb : Nat) (m d : Value) (n : Int) : List Blk := [cl pb 165 #[m, d, .int .i64 n]]
set_option maxRecDepth 100000 in
theorem prog_new (h : c.Ok) {s : c.S} {m d : Value} {g : List Blk} (hs : c.SV s m d g) : DoesG Tryz.prog 60 #[.agg #[m, d]] [g] fun e gs => ∃ pb, e = .returned (ptr' pb) ∧ gs = [g, progB pb m d 0] := by
  obtain ⟨v1, v2⟩ := h.vals hs
  intro w hw
  have T0 := TG.refl hw
  have HT := Lib.hid T0
  clear hw T0
  clear hs h
  rcases v1 with rfl | ⟨fn1, first1, caps1, rfl⟩ <;> rcases v2 with rfl | ⟨fn2, first2, caps2, rfl⟩
  all_goals
    go_enter Tryz.func60, Tryz.ntmps60
    go_wp2
    go_ret
    exact ⟨_, ⟨_, rfl, rfl⟩, (HT.out.alloc0 _).alloc (k := w.heap.size + 1) (by simp) _ _⟩
set_option maxRecDepth 100000 in
theorem prog_done (h : c.Ok) {s : c.S} {m d : Value} {g : List Blk} (hs : c.SV s m d g) (pb : Nat) (n : Int) : ReadsG Tryz.prog 68 #[ptr' pb] [progB pb m d n] (.bool s.isNil) := by
  cases hn : s.isNil with
  | true =>
    have : s = .nil := by cases s <;> first | rfl | cases hn
    subst this
    obtain ⟨rfl, rfl, rfl⟩ := SV.nil hs
    intro w hw
    have T0 := TG.refl hw
    have HT := Lib.hid T0
    clear hw T0
    have c1 := HT.out.cell 0 0 rfl 1
    simp only [progB, List.getElem?_toArray, List.getElem?_cons_zero, List.getElem?_cons_succ] at c1
    have q1 := fun w => fun_nil_M w
    clear hs h
    go_enter Tryz.func68, Tryz.ntmps68
    go_wp2
    go_ret
    exact ⟨rfl, 0, rfl⟩
  | false =>
    obtain ⟨fn, first, caps, rfl⟩ := h.do_ hn hs
    intro w hw
    have T0 := TG.refl hw
    have HT := Lib.hid T0
    clear hw T0
    have c1 := HT.out.cell 0 0 rfl 1
    simp only [progB, List.getElem?_toArray, List.getElem?_cons_zero, List.getElem?_cons_succ] at c1
    have q1 := fun w => fun_is_M (.func fn) first caps w
    clear hs h
    go_enter Tryz.func68, Tryz.ntmps68
    go_wp2
    go_ret
    exact ⟨rfl, 0, rfl⟩

/-- what a stage's condition says -/
def MayR (c : Cli) (s : c.S) (x : c.α) (g : List Blk) (e : Ending) (gs : GH) : Prop := ∃ gK gF, e = .returned (.bool (s.may c.mayY x)) ∧ c.rep x gK gF ∧ gs = [g, gK, gF]
theorem may_nil : ∀ {s : c.S} {d : Value} {g : List Blk} {x : c.α}, c.Ok → s.isNil = false → c.SV s .nilFunc d g → s.may c.mayY x = true
  | .nil, _, _, _, _, hn, _ => by cases hn
  | .at none _, _, _, _, _, _, _ => rfl
  | .at (some y) _, _, _, _, h, _, v => by
    obtain ⟨g1, g2, h1, _⟩ := v
    obtain ⟨_, _, _, he⟩ := h.vy h1
    cases he
  | .row1 _, _, _, _, _, _, _ => rfl
  | .row2 _ _, _, _, _, _, _, _ => rfl
  | .thn s _, _, _, _, h, _, v => by
    obtain ⟨bs, br, ds, vm, gs, gm, _, hn, hv, _⟩ := v
    exact may_nil (s := s) h hn hv
theorem may_fun (h : c.Ok) : ∀ {s : c.S} {f : Fn} {a b : Array Value} {d : Value} {g gK gF : List Blk} {x : c.α}, c.SV s (.func f a b) d g → c.rep x gK gF → s.preY c.preY x → FnG Tryz.prog (.func f a b) [g, gK, gF] (MayR c s x g)
  | .nil, _, _, _, _, _, _, _, _, v, _, _ => by cases v.1
  | .at none _, _, _, _, _, _, _, _, _, v, _, _ => by cases v.1
  | .at (some y) _, _, _, _, _, _, gK, gF, _, v, hx, hp => by
    obtain ⟨g1, g2, h1, h2, rfl⟩ := v
    obtain ⟨fn, first, caps, hv, eg, hd⟩ := h.y h1 hx hp
    refine ⟨fn, first, caps, hv, eg, fun w hw => ?_⟩
    have T := (TG.refl hw).sum (H' := [g1, g2, gK, gF]) (fun n ha h0 h1 h2 => by simp only [pickG, List.map_cons, List.map_nil, List.getD_cons_succ, List.getD_cons_zero, List.set_cons_succ, List.set_cons_zero, List.cons_append, List.flatten_append, List.flatten_cons, List.flatten_nil, List.append_nil, List.nil_append, ha, h0, h1, h2] <;> omega)
    refine (DoesG.use hd T [0, 2, 3] rfl rfl).mono ?_
    rintro e w' ⟨gs, ⟨gK', gF', he, hx', rfl⟩, T'⟩
    exact ⟨_, ⟨gK', gF', he, hx', rfl⟩, TG.sum (H := [g1, g2, gK', gF']) T' (fun n ha h0 h1 h2 => by simp only [pickG, List.map_cons, List.map_nil, List.getD_cons_succ, List.getD_cons_zero, List.set_cons_succ, List.set_cons_zero, List.cons_append, List.flatten_append, List.flatten_cons, List.flatten_nil, List.append_nil, List.nil_append, ha, h0, h1, h2] <;> omega)⟩
  | .row1 _, _, _, _, _, _, _, _, _, v, _, _ => by cases v.1
  | .row2 _ _, _, _, _, _, _, _, _, _, v, _, _ => by cases v.1
  | .thn s _, f, a, b, _, _, gK, gF, _, v, hx, hp => by
    obtain ⟨bs, br, ds, vm, gs, gm, _, hn, hv, _, rfl⟩ := v
    obtain ⟨fn, first, caps, hv', eg, hd⟩ := may_fun h hv hx hp
    refine ⟨fn, first, caps, hv', eg, fun w hw => ?_⟩
    have T := (TG.refl hw).sum (H' := [[cl bs 106 #[.func f a b, ds], cl br 104 #[vm]], gs, gm, gK, gF]) (fun n ha h0 h1 h2 => by simp only [pickG, List.map_cons, List.map_nil, List.getD_cons_succ, List.getD_cons_zero, List.set_cons_succ, List.set_cons_zero, List.cons_append, List.flatten_append, List.flatten_cons, List.flatten_nil, List.append_nil, List.nil_append, ha, h0, h1, h2] <;> omega)
    refine (DoesG.use hd T [1, 3, 4] rfl rfl).mono ?_
    rintro e w' ⟨gs', ⟨gK', gF', he, hx', rfl⟩, T'⟩
    exact ⟨_, ⟨gK', gF', he, hx', rfl⟩, TG.sum (H := [[cl bs 106 #[.func f a b, ds], cl br 104 #[vm]], gs, gm, gK', gF']) T' (fun n ha h0 h1 h2 => by simp only [pickG, List.map_cons, List.map_nil, List.getD_cons_succ, List.getD_cons_zero, List.set_cons_succ, List.set_cons_zero, List.cons_append, List.flatten_append, List.flatten_cons, List.flatten_nil, List.append_nil, List.nil_append, ha, h0, h1, h2] <;> omega)⟩
set_option maxRecDepth 100000 in
theorem prog_may (h : c.Ok) {s : c.S} {m d : Value} {g gK gF : List Blk} {x : c.α} (hs : c.SV s m d g) (hx : c.rep x gK gF) (hp : s.preY c.preY x) (pb : Nat) (n : Int) :
    DoesG Tryz.prog 66 #[ptr' pb] [progB pb m d n, g, gK, gF] fun e gs => ∃ gK' gF', e = .returned (.bool (s.may c.mayY x)) ∧ c.rep x gK' gF' ∧ gs = [progB pb m d n, g, gK', gF'] := by
  have hd := prog_done h hs pb n
  cases hn : s.isNil with
  | true =>
    have : s = .nil := by cases s <;> first | rfl | cases hn
    subst this
    rw [hn] at hd
    intro w hw
    have T0 := TG.refl hw
    have HT := Lib.hid T0
    clear hw T0
    have HD := Lib.hid hd
    have HX := Lib.hid hx
    clear hs h hd hn hp hx
    go_enter Tryz.func66, Tryz.ntmps66
    go_wp2_with fail
    refine (ReadsG.use (HD.out) (HT.out) [0] rfl rfl).mono ?_
    rintro e w1 ⟨rfl, mq, rfl⟩
    have HT := Lib.hid (HT.out.drewN mq)
    go_wp2
    go_ret
    exact ⟨_, ⟨gK, gF, rfl, HX.out, rfl⟩, HT.out⟩
  | false =>
    rw [hn] at hd
    obtain ⟨v1, _⟩ := h.vals hs
    rcases v1 with rfl | ⟨fn1, first1, caps1, rfl⟩
    · have hm := may_nil (x := x) h hn hs
      rw [hm]
      intro w hw
      have T0 := TG.refl hw
      have HT := Lib.hid T0
      clear hw T0
      have c0 := HT.out.cell 0 0 rfl 0
      simp only [progB, List.getElem?_toArray, List.getElem?_cons_zero, List.getElem?_cons_succ] at c0
      have HD := Lib.hid hd
      have HX := Lib.hid hx
      have q1 := fun w => fun_nil_Y w
      clear hs h hd hn hp hx hm
      go_enter Tryz.func66, Tryz.ntmps66
      go_wp2_with fail
      refine (ReadsG.use (HD.out) (HT.out) [0] rfl rfl).mono ?_
      rintro e w1 ⟨rfl, mq, rfl⟩
      have HT := Lib.hid (HT.out.drewN mq)
      go_wp2
      go_ret
      exact ⟨_, ⟨gK, gF, rfl, HX.out, rfl⟩, HT.out⟩
    · obtain ⟨fn, first, caps, hv, eg, hf⟩ := may_fun h hs hx hp
      obtain ⟨rfl, rfl, rfl⟩ : fn1 = fn ∧ first1 = first ∧ caps1 = caps := by
        cases hv
        exact ⟨rfl, rfl, rfl⟩
      obtain ⟨b, hb⟩ : ∃ b, s.may c.mayY x = b := ⟨_, rfl⟩
      unfold MayR at hf
      rw [hb] at hf ⊢
      intro w hw
      have T0 := TG.refl hw
      have HT := Lib.hid T0
      clear hw T0
      have c0 := HT.out.cell 0 0 rfl 0
      simp only [progB, List.getElem?_toArray, List.getElem?_cons_zero, List.getElem?_cons_succ] at c0
      have HD := Lib.hid hd
      have HF := Lib.hid hf
      have q1 := fun w => fun_is_Y (.func fn1) first1 caps1 w
      clear hs h hd hn hp hx hb hf hv
      go_enter Tryz.func66, Tryz.ntmps66
      go_wp2_with fail
      refine (ReadsG.use (HD.out) (HT.out) [0] rfl rfl).mono ?_
      rintro e w1 ⟨rfl, mq, rfl⟩
      have HT := Lib.hid (HT.out.drewN mq)
      go_wp2_with fail
      refine (DoesG.use (HF.out) (HT.out) [1, 2, 3] rfl rfl).mono ?_
      rintro e w1 ⟨gs, ⟨gK', gF', rfl, hx', rfl⟩, Ta⟩
      simp only [putG, List.set_cons_zero, List.set_cons_succ, List.cons_append, List.nil_append, List.append_nil] at Ta
      have HX := Lib.hid hx'
      clear hx'
      have HT := Lib.hid Ta
      clear Ta
      go_wp2
      go_ret
      exact ⟨_, ⟨gK', gF', rfl, HX.out, rfl⟩, HT.out⟩
/-- a step that may be made -/
def StepR (c : Cli) (pb : Nat) (n : Int) (s : c.S) (x : c.α) (e : Ending) (gs : GH) : Prop :=
  ∃ m d g gK gF, e = .returned (.bool true) ∧ c.SV (c.run s x).1 m d g ∧ c.rep (c.run s x).2 gK gF ∧ gs = [progB pb m d (n + 1), g, gK, gF]
set_option maxRecDepth 100000 in
theorem prog_step_no (h : c.Ok) {s : c.S} {m d : Value} {g gK gF : List Blk} {x : c.α} (hs : c.SV s m d g) (hx : c.rep x gK gF) (hp : s.preY c.preY x) (pb : Nat) (n : Int) (hm : s.may c.mayY x = false) :
    DoesG Tryz.prog 67 #[ptr' pb] [progB pb m d n, g, gK, gF] fun e gs => ∃ gK' gF', e = .returned (.bool false) ∧ c.rep x gK' gF' ∧ gs = [progB pb m d n, g, gK', gF'] := by
  have hd := prog_may h hs hx hp pb n
  rw [hm] at hd
  intro w hw
  have T0 := TG.refl hw
  have HT := Lib.hid T0
  clear hw T0
  have HD := Lib.hid hd
  clear hs h hd hp hx hm
  go_enter Tryz.func67, Tryz.ntmps67
  go_wp2_with fail
  refine (DoesG.use (HD.out) (HT.out) [0, 1, 2, 3] rfl rfl).mono ?_
  rintro e w1 ⟨gs, ⟨gK', gF', rfl, hx', rfl⟩, Ta⟩
  simp only [putG, List.set_cons_zero, List.set_cons_succ, List.cons_append, List.nil_append, List.append_nil] at Ta
  have HX := Lib.hid hx'
  clear hx'
  have HT := Lib.hid Ta
  clear Ta
  go_wp2
  go_ret
  exact ⟨_, ⟨gK', gF', rfl, HX.out, rfl⟩, HT.out⟩
set_option maxRecDepth 100000 in
theorem prog_step (h : c.Ok) {s : c.S} {m d : Value} {g gK gF : List Blk} {x : c.α} (hs : c.SV s m d g) (hx : c.rep x gK gF) (hp : s.preY c.preY x) (hq : c.pre s x) (pb : Nat) (n : Int) (hn : 0 ≤ n ∧ n ≤ 1000000000) (hm : s.may c.mayY x = true) :
    DoesG Tryz.prog 67 #[ptr' pb] [progB pb m d n, g, gK, gF] (StepR c pb n s x) := by
  have hd := prog_may h hs hx hp pb n
  rw [hm] at hd
  have hni : s.isNil = false := by cases s <;> first | rfl | cases hm
  have hdo : ∀ gK' gF', c.rep x gK' gF' → FnG Tryz.prog d [g, gK', gF'] (DoR c s x) := fun _ _ hx' => prog_do h hni hs hx' hq
  obtain ⟨fn, first, caps, rfl⟩ := h.do_ hni hs
  have HV := Lib.hid (show ∀ (s : c.S) m d g, c.SV s m d g → isFv m ∧ isFv d from fun _ _ _ _ hv => h.vals hv)
  intro w hw
  have T0 := TG.refl hw
  have HT := Lib.hid T0
  clear hw T0
  have HD := Lib.hid hd
  have HO := Lib.hid hdo
  obtain ⟨hn0, hn1⟩ := hn
  clear hs h hd hp hx hm hq hni hdo
  go_enter Tryz.func67, Tryz.ntmps67
  go_wp2_with fail
  refine (DoesG.use (HD.out) (HT.out) [0, 1, 2, 3] rfl rfl).mono ?_
  rintro e w1 ⟨gs, ⟨gK1, gF1, rfl, hx', rfl⟩, Ta⟩
  simp only [putG, List.set_cons_zero, List.set_cons_succ, List.cons_append, List.nil_append, List.append_nil] at Ta
  have c1 := Ta.cell 0 0 rfl 1
  have c2 := Ta.cell 0 0 rfl 2
  have f2 := Ta.free 0 0 rfl 2
  have hf := HO.out _ _ hx'
  clear hx'
  simp only [List.getElem?_toArray, List.getElem?_cons_zero, List.getElem?_cons_succ] at c1 c2
  have HT := Lib.hid Ta
  clear Ta
  obtain ⟨fn', first', caps', hv, eg, hf⟩ := hf
  obtain ⟨rfl, rfl, rfl⟩ : fn = fn' ∧ first = first' ∧ caps = caps' := by
    cases hv
    exact ⟨rfl, rfl, rfl⟩
  have HF := Lib.hid hf
  clear hf hv
  go_wp2_with fail
  refine (DoesG.use (HF.out) (HT.out.set 0 0 rfl 2 (.int .i64 (n + 1))) [1, 2, 3] rfl rfl).mono ?_
  rintro e w1 ⟨gs, ⟨m', d', g', gK', gF', rfl, hs', hx', rfl⟩, Ta⟩
  simp only [putG, List.set_cons_zero, List.set_cons_succ, List.cons_append, List.nil_append, List.append_nil] at Ta
  have e0 := Ta.cell 0 0 rfl 0
  have e1 := Ta.cell 0 0 rfl 1
  have f0 := Ta.free 0 0 rfl 0
  have f1 := Ta.free 0 0 rfl 1
  have hv2 := HV.out _ _ _ _ hs'
  obtain ⟨st1, st2⟩ := store_fv2 (P := Tryz.prog) hv2.1 hv2.2 e0 f0 e1 f1
  have HS := Lib.hid hs'
  have HX := Lib.hid hx'
  clear hs' hx' hv2
  have HT := Lib.hid Ta
  clear Ta
  go_wp2
  go_ret
  exact ⟨_, ⟨m', d', g', gK', gF', rfl, HS.out, HX.out, rfl⟩, (HT.out.set 0 0 rfl 0 _).set 0 0 rfl 1 _⟩
end Cli
end Go.Proofs.YthbjaoinklhikaaGreat

namespace Go.Proofs.YthbjaoinklhikaaGreat
set_option linter.unusedVariables false
set_option linter.unusedSimpArgs false
open Go.RowKit Go.Shelf
attribute [local go_sem] Oper.semAt_some

set_option maxRecDepth 100000 in
set_option maxHeartbeats 4000000 in
theorem check_g (c : Cfg) : DoesG Tryz.prog 69 #[.agg c.cells] [] fun e gs => e = .returned (.int .i64 (if c.ok then 0 else 8)) ∧ gs = [] := by
  intro w hw
  have T0 := TG.refl hw
  have HT := Lib.hid T0
  clear hw T0
  have HB := Lib.hid (bounds_g c)
  obtain ⟨C, hC⟩ : ∃ C, C = c.cells := ⟨_, rfl⟩
  have hC' := hC
  simp only [Cfg.cells] at hC'
  rw [← hC] at HB
  have HCC := Lib.hid hC
  simp only [Cfg.cells]
  refine calls_of_marks Tryz.func69 rfl ?_
  simp only [Tryz.ntmps69, List.size_toArray, List.length_cons, List.length_nil, Nat.reduceAdd, Nat.reduceSub, Array.replicate_succ, Array.replicate_zero, List.push_toArray, List.append_toArray, List.nil_append, List.cons_append]
  go_wp2_with fail
  rw [← hC']
  clear hC hC'
  refine (DoesG.use HB.out ((HT.out.alloc rfl _ _).alloc rfl _ _) [] rfl rfl).mono ?_
  rintro e w1 ⟨gs, ⟨cb, rfl, rfl⟩, Ta⟩
  simp only [putG, List.nil_append, List.cons_append, HCC.out] at Ta
  go_wp2
  refine wp_rangeG rfl (enters_of Tryz.func138 (by kernel_rfl) rfl) (bounds_iter 2 cb c) (fun _ _ => rfl) Ta (chkJ (w.heap.size) (w.heap.size + 1) cb c) (chkX (w.heap.size) (w.heap.size + 1) cb c) ?h0 ?hT ?hbody ?hdone ?hstop
  case h0 => exact ⟨by simp, fun i hi => absurd hi (Nat.not_lt_zero _)⟩
  case hT => rintro k H _ ⟨rfl, _⟩; rfl
  case hbody =>
    rintro k hk H W l ⟨rfl, hu⟩ hH
    obtain ⟨x, hx⟩ : ∃ x, (c.pair k).1 = x := ⟨_, rfl⟩
    obtain ⟨m, hm⟩ : ∃ m, (c.pair k).2 = m := ⟨_, rfl⟩
    simp only [hx, hm]
    have hf : c.fine k = (decide (1 ≤ x) && decide (x ≤ m)) := by unfold Cfg.fine; rw [hx, hm]
    have HF := Lib.hid hf
    have HU := Lib.hid hu
    have HH := Lib.hid hH
    clear hx hm hf hu hH
    refine wpIn_any (n := 9) ?_
    gi_wp2
    refine ⟨_, TG.refl HH.out, fun Wb hb => ?_⟩
    have HT := Lib.hid (TG.refl hb)
    have f1 := HT.out.free 1 0 rfl 0
    have c1 := HT.out.cell 1 0 rfl 0
    clear hb
    have bad : c.fine k = false → ∃ H', chkX (w.heap.size) (w.heap.size + 1) cb c (k + 1) .ret H' ∧ TG [[cl w.heap.size 41 c.cells], [cl (w.heap.size + 1) 27 #[.int .i64 0]], [cl cb 41 c.cells]] Wb H' (Wb.setCell ⟨w.heap.size + 1, 0, none⟩ (.int .i64 8)) :=
      fun h => ⟨_, ⟨rfl, rfl, Cfg.not_ok hk h⟩, HT.out.set 1 0 rfl 0 (.int .i64 8)⟩
    have HBAD := Lib.hid bad
    clear bad
    by_cases h1 : x < 1
    · refine wpIn_any (n := 9) ?_
      gi_wp2
      exact HBAD.out (by rw [HF.out]; simp; omega)
    · by_cases h2 : m < x
      · refine wpIn_any (n := 9) ?_
        gi_wp2
        exact HBAD.out (by rw [HF.out]; simp; omega)
      · refine wpIn_any (n := 9) ?_
        gi_wp2
        refine ⟨_, ⟨rfl, fun i hi => ?_⟩, HT.out⟩
        by_cases hik : i = k
        · subst hik; rw [HF.out]; simp; omega
        · exact HU.out i (by omega)
  case hdone =>
    rintro H W D ⟨rfl, hu⟩ hT hD hK
    have HX := Lib.hid (And.intro hT (And.intro hD hK))
    have HT := Lib.hid (TG.refl hT.has)
    have HU := Lib.hid (Cfg.ok_of hu)
    have f1 := hT.free 1 0 rfl 0
    have c1 := hT.cell 1 0 rfl 0
    clear hu hT hD hK
    go_wp2
    obtain ⟨hT, hD, hK⟩ := HX.out
    have T2 := HT.out.set 1 0 rfl 0 (.int .i64 0)
    have T3 := hT.fin hD T2 (.deferred none)
    have c2 := T3.cell 1 0 rfl 0
    refine post_mark (v := .int .i64 0) ((Below.heap_setCell W _ _ D (by have := hD.2.2; intro e; subst e; exact this (by simp [keys, ex]))).trans hK) (by simp [results, Tryz.results69, go_sem, c2]) ⟨[], ⟨by simp [HU.out], rfl⟩, T3.pick [] rfl⟩
  case hstop =>
    rintro k cd H W D hk ⟨rfl, rfl, hok⟩ hT hD hK
    have T3 := hT.fin hD (TG.refl hT.has) (.deferred none)
    have c2 := T3.cell 1 0 rfl 0
    refine wp_ret (post_mark (v := .int .i64 8) hK (by simp [results, Tryz.results69, go_sem, c2]) ⟨[], ⟨by simp [hok], rfl⟩, T3.pick [] rfl⟩)
end Go.Proofs.YthbjaoinklhikaaGreat

namespace Go.Proofs.YthbjaoinklhikaaGreat
set_option linter.unusedVariables false
set_option linter.unusedSimpArgs false
open Go.RowKit

theorem loadW_does (b o : Nat) (T : TypeId) (C : Array Value) (n : Int) (hc : cellAt C o (.int .u64 n)) :
    Does Tryz.prog 77 #[.pointer (some ⟨b, o, none⟩)] [pt b T C] (CellPost b T C o (.int .u64 n) (.int .u64 n)) := by
  intro w hw
  obtain ⟨h0, l, t, u, h1, h2, h3⟩ := hc
  have T0 := Turned.refl hw
  have hb := T0.blk 0 rfl
  have c0 : w.cell? ⟨b, o, none⟩ = some (.int .u64 n) := (blk_cell hb o).trans h0
  have c1 : w.cell? ⟨b, o + 1, none⟩ = some (.int .i64 l) := (blk_cell hb (o + 1)).trans h1
  have f1 := blk_free hb (o + 1)
  have T1 := Lib.hid T0
  have H := Lib.hid (And.intro h0 (And.intro h1 (And.intro h2 h3)))
  clear T0 hb hw h0 h1 h2 h3
  go_enter Tryz.func77, Tryz.ntmps77
  go_wp2
  go_ret
  obtain ⟨h0, h1, h2, h3⟩ := H.out
  exact ⟨_, ⟨rfl, _, rfl, recell_loads h0 h1 h2 h3⟩, T1.out.set (o + 1) _⟩

theorem swapW_does (b o : Nat) (T : TypeId) (C : Array Value) (n old new : Int) (hc : cellAt C o (.int .u64 n)) :
    Does Tryz.prog 198 #[.pointer (some ⟨b, o, none⟩), .int .u64 old, .int .u64 new] [pt b T C] (CellPost b T C o (.int .u64 (if n = old then new else n)) (.bool (decide (n = old)))) := by
  intro w hw
  obtain ⟨h0, l, t, u, h1, h2, h3⟩ := hc
  have T0 := Turned.refl hw
  have hb := T0.blk 0 rfl
  have c0 : w.cell? ⟨b, o, none⟩ = some (.int .u64 n) := (blk_cell hb o).trans h0
  have c2 : w.cell? ⟨b, o + 2, none⟩ = some (.int .i64 t) := (blk_cell hb (o + 2)).trans h2
  have c3 : w.cell? ⟨b, o + 3, none⟩ = some (.int .i64 u) := (blk_cell hb (o + 3)).trans h3
  have f0 := blk_free hb o
  have f2 := blk_free hb (o + 2)
  have f3 := blk_free hb (o + 3)
  have T1 := Lib.hid T0
  have H := Lib.hid (And.intro h0 (And.intro h1 (And.intro h2 h3)))
  clear T0 hb hw h0 h1 h2 h3
  by_cases he : n = old
  · subst he
    skip
    all_goals
      go_enter Tryz.func198, Tryz.ntmps198
      go_wp2
      go_ret
      obtain ⟨h0, h1, h2, h3⟩ := H.out
      exact ⟨_, ⟨by simp, _, rfl, recell_swap h0 h1 h2 h3⟩, ((T1.out.set (o + 2) _).set o _).set (o + 3) _⟩
  · skip
    all_goals
      go_enter Tryz.func198, Tryz.ntmps198
      go_wp2
      go_ret
      obtain ⟨h0, h1, h2, h3⟩ := H.out
      exact ⟨_, ⟨by simp [he], _, rfl, recell_tries h0 h1 h2 h3⟩, T1.out.set (o + 2) _⟩

theorem turnW_does (b o : Nat) (T : TypeId) (C : Array Value) (n v : Int) (ok : Bool) (g : Nat) (caps : Array Value) (F : PH) (hc : cellAt C o (.int .u64 n))
    (eg : ∀ args w, (callFunc g args).run Tryz.prog w = .ok (.enter g args) w)
    (hg : Does Tryz.prog g (#[.int .u64 n] ++ caps) F fun e h' => e = .returned (.tuple #[.int .u64 v, .bool ok]) ∧ h' = F) :
    Does Tryz.prog 187 #[.pointer (some ⟨b, o, none⟩), .func (.func g) #[] caps] (pt b T C :: F) fun e h' =>
      e = .returned (.tuple #[.int .u64 n, .bool ok]) ∧ ∃ C', h' = pt b T C' :: F ∧ Recell C o (.int .u64 (if ok = true then v else n)) C' := by
  intro w hw
  have T0 := Lib.hid (Turned.refl hw)
  have HC := Lib.hid hc
  have HG := Lib.hid hg
  clear hw hc hg
  cases ok
  · go_enter Tryz.func187, Tryz.ntmps187
    go_wp2_with (first
      | (go_at_call 77; refine ((loadW_does b o T C n HC.out).use T0.out (List.Perm.refl _)).mono ?_
         rintro e w1 ⟨h', ⟨rfl, C1, rfl, hr1⟩, T1⟩; have T1 := Lib.hid T1; have HR1 := Lib.hid hr1; clear hr1)
      | (refine (HG.out.use T1.out (List.perm_append_comm (l₁ := [pt b T C1]) (l₂ := F))).mono ?_
         rintro e w2 ⟨h', ⟨rfl, rfl⟩, T2⟩; have T2 := Lib.hid T2))

    go_ret2
    exact ⟨_, ⟨rfl, C1, rfl, HR1.out⟩, T2.out.perm (List.perm_append_comm)⟩
  · go_enter Tryz.func187, Tryz.ntmps187
    go_wp2_with (first
      | (go_at_call 77; refine ((loadW_does b o T C n HC.out).use T0.out (List.Perm.refl _)).mono ?_
         rintro e w1 ⟨h', ⟨rfl, C1, rfl, hr1⟩, T1⟩; have T1 := Lib.hid T1; have HR1 := Lib.hid hr1; clear hr1)
      | (go_at_call 198; refine ((swapW_does b o T C1 n n v HR1.out.cell).use T2.out (List.perm_append_comm)).mono ?_
         rintro e w3 ⟨h', ⟨rfl, C3, rfl, hr3⟩, T3⟩; rw [if_pos rfl] at hr3; have T3 := Lib.hid T3; have HR3 := Lib.hid hr3; clear hr3)
      | (refine (HG.out.use T1.out (List.perm_append_comm (l₁ := [pt b T C1]) (l₂ := F))).mono ?_
         rintro e w2 ⟨h', ⟨rfl, rfl⟩, T2⟩; have T2 := Lib.hid T2))
    all_goals go_ret2
    all_goals exact ⟨_, ⟨by simp, C3, rfl, HR1.out.trans HR3.out⟩, T3.out⟩
end Go.Proofs.YthbjaoinklhikaaGreat

namespace Go.Proofs.YthbjaoinklhikaaGreat
set_option linter.unusedVariables false
set_option linter.unusedSimpArgs false
open Go.RowKit

/-! ## A slab, plain -/
/-- a record: its word, how often its slot was given, its period -/
structure Rec where
  w : Int
  g : Int
  p : Int
structure SlabS where
  recs : List Rec
  count : Int
structure Req where
  p : Int
  next : Int
  saw : Int
  slot : Int
  id : Int
  st : Int
structure RecOk (r : Rec) : Prop where
  w0 : 0 ≤ r.w
  w1 : r.w < 18446744073709551616
  ok : okW r.w = true
  g0 : 0 ≤ r.g
  g1 : r.g ≤ genW r.w
  p0 : 0 ≤ r.p
  p1 : r.p < 18446744073709551616
structure SlabOk (s : SlabS) : Prop where
  n0 : 1 ≤ s.recs.length
  n1 : s.recs.length ≤ 64
  c0 : 0 ≤ s.count
  c1 : s.count ≤ s.recs.length
  recs : ∀ r ∈ s.recs, RecOk r
structure ReqOk (n : Nat) (q : Req) : Prop where
  p0 : 0 ≤ q.p
  p1 : q.p < 18446744073709551616
  slot0 : 0 ≤ q.slot
  slot1 : q.slot < n
  next : q.next = 0 ∨ (q.next = 1 ∧ 0 ≤ q.saw ∧ q.saw < n) ∨ q.next = 2
def lookR (s : SlabS) (q : Req) : Req := if (s.recs.length : Int) ≤ s.count then { q with saw := s.count, st := 1 } else { q with saw := s.count, next := 1 }
def moreR (s : SlabS) (q : Req) : SlabS × Req := if s.count = q.saw then ({ s with count := s.count + 1 }, { q with next := 2 }) else (s, { q with next := 0 })
def Rec.zero : Rec := ⟨0, 0, 0⟩
def seekR (s : SlabS) (q : Req) : SlabS × Req :=
  let r := s.recs.getD q.slot.toNat Rec.zero
  let t := nextW r.w 1 (decide (0 < q.p))
  if t.2 = 0 then ({ s with recs := s.recs.set q.slot.toNat ⟨t.1, r.g + 1, q.p⟩ }, { q with id := (r.g + 1) * 64 + q.slot, st := 2 })
  else (s, { q with slot := (q.slot + 1) % s.recs.length })
def stepR (s : SlabS) (q : Req) : SlabS × Req :=
  if q.st ≠ 0 then (s, q) else if q.next = 0 then (s, lookR s q) else if q.next = 1 then moreR s q else seekR s q

/-- a new slab -/
def newSlab (n : Nat) : SlabS := ⟨List.replicate n Rec.zero, 0⟩
/-- a slot's period, word; the error of what asks for a slot's word -/
def SlabS.has (s : SlabS) (k : Int) : Prop := 0 ≤ k ∧ k < s.recs.length
instance (s : SlabS) (k : Int) : Decidable (s.has k) := by unfold SlabS.has; infer_instance
def SlabS.period (s : SlabS) (k : Int) : Int := if s.has k then (s.recs.getD k.toNat Rec.zero).p else 0
def SlabS.word (s : SlabS) (k : Int) : Int := if s.has k then (s.recs.getD k.toNat Rec.zero).w else 0
def SlabS.werr (s : SlabS) (k : Int) : Int := if s.has k then 0 else 4
/-- a number's slot, and the error -/
def SlabS.known (s : SlabS) (id : Int) : Prop := id % 64 < s.recs.length ∧ 1 ≤ id / 64 ∧ id / 64 ≤ (s.recs.getD (id % 64).toNat Rec.zero).g
instance (s : SlabS) (k : Int) : Decidable (s.known k) := by unfold SlabS.known; infer_instance
def SlabS.slot (s : SlabS) (id : Int) : Int := if s.known id then id % 64 else 0
def SlabS.serr (s : SlabS) (id : Int) : Int := if s.known id then 0 else 1
def SlabS.mine (s : SlabS) (id : Int) : Bool := decide (s.known id) && decide ((s.recs.getD (id % 64).toNat Rec.zero).g = id / 64)
/-- a try: the slab, the word, the error -/
def SlabS.try (s : SlabS) (k old ev : Int) : SlabS × Int × Int :=
  if s.has k then
    let r := s.recs.getD k.toNat Rec.zero
    let t := nextW old ev (decide (0 < r.p))
    if t.2 ≠ 0 then (s, r.w, t.2) else if r.w = old then ({ s with recs := s.recs.set k.toNat { r with w := t.1 } }, t.1, 0) else (s, r.w, 10)
  else (s, 0, 4)
def SlabS.drop (s : SlabS) : SlabS × Int := if 0 < s.count then ({ s with count := s.count - 1 }, 0) else (s, 6)
theorem SlabS.has_at {s : SlabS} {j : Nat} (h : s.has j) : ∃ r, s.recs[j]? = some r ∧ s.recs.getD (j : Int).toNat Rec.zero = r := by
  have hj : j < s.recs.length := by unfold SlabS.has at h; omega
  exact ⟨s.recs[j], List.getElem?_eq_getElem hj, by simp [hj]⟩
theorem SlabS.has_nat {s : SlabS} {k : Int} (h : s.has k) : ∃ j : Nat, k = j := Int.eq_ofNat_of_zero_le h.1

/-! ## A slab in the heap -/
def recAt (C : Array Value) (i : Nat) (r : Rec) : Prop := cellAt C (i * 6) (.int .u64 r.w) ∧ C[i * 6 + 4]? = some (.int .u64 r.g) ∧ C[i * 6 + 5]? = some (.int .u64 r.p)
def recsP (rs : List Rec) : Obj → Prop := fun o => ∃ C, cellsAre 134 C o ∧ C.size = rs.length * 6 ∧ ∀ i r, rs[i]? = some r → recAt C i r
def slabP (rb n : Nat) (c : Int) : Obj → Prop := fun o => ∃ C, cellsAre 138 C o ∧ C.size = 5 ∧ C[0]? = some (.slice (some ⟨rb, 0, none⟩) n n) ∧ cellAt C 1 (.int .i64 c)
def slabH (sb rb : Nat) (s : SlabS) : PH := [(sb, slabP rb s.recs.length s.count), (rb, recsP s.recs)]
def reqC (sb : Nat) (q : Req) : Array Value := #[.pointer (some ⟨sb, 0, none⟩), .int .u64 q.p, .int .i64 q.next, .int .i64 q.saw, .int .i64 q.slot, .int .u64 q.id, .int .i64 q.st]
def reqH (qb sb : Nat) (q : Req) : Piece := pt qb 213 (reqC sb q)

theorem recAt_of_recell {C C' : Array Value} {i j : Nat} {r : Rec} {n : Int} (h : recAt C j r) (hc : Recell C (i * 6) (.int .u64 n) C') : recAt C' j (if j = i then { r with w := n } else r) := by
  obtain ⟨h0, h1, h2⟩ := h
  by_cases e : j = i
  · subst e
    rw [if_pos rfl]
    exact ⟨hc.cell, (hc.other _ (by omega)).trans h1, (hc.other _ (by omega)).trans h2⟩
  · rw [if_neg e]
    exact ⟨hc.cellOther h0 (by omega), (hc.other _ (by omega)).trans h1, (hc.other _ (by omega)).trans h2⟩
/-- a record's word has turned -/
theorem recs_recell {rs : List Rec} {C C' : Array Value} {i : Nat} {r : Rec} {n : Int} (hs : C.size = rs.length * 6) (h : ∀ i r, rs[i]? = some r → recAt C i r) (hr : rs[i]? = some r) (hc : Recell C (i * 6) (.int .u64 n) C') :
    C'.size = (rs.set i { r with w := n }).length * 6 ∧ ∀ j x, (rs.set i { r with w := n })[j]? = some x → recAt C' j x := by
  refine ⟨by rw [hc.size, hs, List.length_set], fun j x hx => ?_⟩
  rw [List.getElem?_set] at hx
  by_cases e : i = j
  · subst e
    rw [if_pos rfl] at hx
    split at hx
    · cases hx; have := recAt_of_recell (h i r hr) hc; rwa [if_pos rfl] at this
    · cases hx
  · rw [if_neg e] at hx
    have := recAt_of_recell (h j x hx) hc
    rwa [if_neg (fun x => e x.symm)] at this
theorem recs_same {rs : List Rec} {C C' : Array Value} {i : Nat} {r : Rec} (hs : C.size = rs.length * 6) (h : ∀ i r, rs[i]? = some r → recAt C i r) (hr : rs[i]? = some r) (hc : Recell C (i * 6) (.int .u64 r.w) C') :
    C'.size = rs.length * 6 ∧ ∀ j x, rs[j]? = some x → recAt C' j x := by
  have := recs_recell hs h hr hc
  have e : rs.set i { r with w := r.w } = rs := by
    apply List.ext_getElem? ; intro k; rw [List.getElem?_set]; split
    · next e => subst e; split
                · rw [hr]
                · rename_i hn; exact absurd (List.getElem?_eq_some_iff.1 hr).1 hn
    · rfl
  rwa [e] at this
theorem recAt_set4 {C : Array Value} {i : Nat} {r : Rec} (h : recAt C i r) (n : Int) : recAt (C.setIfInBounds (i * 6 + 4) (.int .u64 n)) i { r with g := n } := by
  obtain ⟨⟨h0, l, t, u, a, b, c⟩, h1, h2⟩ := h
  exact ⟨⟨(get_set_ne (by omega)).trans h0, l, t, u, (get_set_ne (by omega)).trans a, (get_set_ne (by omega)).trans b, (get_set_ne (by omega)).trans c⟩, get_set_eq h1, (get_set_ne (by omega)).trans h2⟩
theorem recAt_set5 {C : Array Value} {i : Nat} {r : Rec} (h : recAt C i r) (n : Int) : recAt (C.setIfInBounds (i * 6 + 5) (.int .u64 n)) i { r with p := n } := by
  obtain ⟨⟨h0, l, t, u, a, b, c⟩, h1, h2⟩ := h
  exact ⟨⟨(get_set_ne (by omega)).trans h0, l, t, u, (get_set_ne (by omega)).trans a, (get_set_ne (by omega)).trans b, (get_set_ne (by omega)).trans c⟩, (get_set_ne (by omega)).trans h1, get_set_eq h2⟩
theorem recAt_else {C : Array Value} {i j k : Nat} {r : Rec} {v : Value} (h : recAt C i r) (hk : j * 6 ≤ k ∧ k < j * 6 + 6) (hij : i ≠ j) : recAt (C.setIfInBounds k v) i r := by
  obtain ⟨⟨h0, l, t, u, a, b, c⟩, h1, h2⟩ := h
  exact ⟨⟨(get_set_ne (by omega)).trans h0, l, t, u, (get_set_ne (by omega)).trans a, (get_set_ne (by omega)).trans b, (get_set_ne (by omega)).trans c⟩, (get_set_ne (by omega)).trans h1, (get_set_ne (by omega)).trans h2⟩
/-- a record that a request holds -/
theorem recs_given {rs : List Rec} {C C' : Array Value} {i : Nat} {r : Rec} {n g p : Int} (hs : C.size = rs.length * 6) (h : ∀ i r, rs[i]? = some r → recAt C i r) (hr : rs[i]? = some r) (hc : Recell C (i * 6) (.int .u64 n) C') :
    ((C'.setIfInBounds (i * 6 + 4) (.int .u64 g)).setIfInBounds (i * 6 + 5) (.int .u64 p)).size = (rs.set i ⟨n, g, p⟩).length * 6 ∧
      ∀ j x, (rs.set i ⟨n, g, p⟩)[j]? = some x → recAt ((C'.setIfInBounds (i * 6 + 4) (.int .u64 g)).setIfInBounds (i * 6 + 5) (.int .u64 p)) j x := by
  obtain ⟨k1, k2⟩ := recs_recell hs h hr hc
  refine ⟨by rw [Array.size_setIfInBounds, Array.size_setIfInBounds, k1, List.length_set, List.length_set], fun j x hx => ?_⟩
  have hi := (List.getElem?_eq_some_iff.1 hr).1
  rw [List.getElem?_set] at hx
  by_cases e : i = j
  · subst e
    rw [if_pos rfl, if_pos hi] at hx
    cases hx
    have := k2 i _ (by rw [List.getElem?_set, if_pos rfl, if_pos hi])
    exact recAt_set5 (recAt_set4 this g) p
  · rw [if_neg e] at hx
    have := k2 j x (by rw [List.getElem?_set, if_neg e]; exact hx)
    exact recAt_else (j := i) (recAt_else (j := i) this ⟨by omega, by omega⟩ (fun x => e x.symm)) ⟨by omega, by omega⟩ (fun x => e x.symm)
theorem slabP_recell {C C' : Array Value} {rb n : Nat} {c : Int} (hs : C.size = 5) (h0 : C[0]? = some (.slice (some ⟨rb, 0, none⟩) n n)) (hc : Recell C 1 (.int .i64 c) C') : slabP rb n c (.cells C' 138 (0, 0)) :=
  ⟨C', rfl, hc.size.trans hs, (hc.other 0 (by omega)).trans h0, hc.cell⟩
end Go.Proofs.YthbjaoinklhikaaGreat

namespace Go.Proofs.YthbjaoinklhikaaGreat
set_option linter.unusedVariables false
set_option linter.unusedSimpArgs false
open Go.RowKit

theorem slabCount_does (sb rb : Nat) (s : SlabS) :
    Does Tryz.prog 28 #[.pointer (some ⟨sb, 0, none⟩)] (slabH sb rb s) fun e h' => e = .returned (.int .i64 s.count) ∧ h' = slabH sb rb s := by
  intro w hw
  obtain ⟨o, ⟨C, rfl, hs, h0, hc⟩, T0⟩ := (Turned.refl hw).openAt 0 rfl
  have T0 := Lib.hid T0
  have HC := Lib.hid (And.intro hs (And.intro h0 hc))
  clear hw hs h0 hc
  go_enter Tryz.func28, Tryz.ntmps28
  go_wp2_with (go_at_call 78; refine ((loadI_does sb 1 _ C s.count HC.out.2.2).at T0.out 0 rfl).mono ?_
               rintro e w1 ⟨h', ⟨rfl, C1, rfl, hr1⟩, T1⟩; have HR1 := Lib.hid hr1; clear hr1; have T1 := Lib.hid (T1 _ rfl))
  go_ret
  exact ⟨_, ⟨rfl, rfl⟩, T1.out.sayAt 0 rfl _ (fun o ho => by cases ho; exact slabP_recell HC.out.1 HC.out.2.1 HR1.out)⟩

theorem look_does (qb sb rb : Nat) (s : SlabS) (q : Req) :
    Does Tryz.prog 156 #[.pointer (some ⟨qb, 0, none⟩)] (reqH qb sb q :: slabH sb rb s) fun e h' => e = .returned (.tuple #[]) ∧ h' = reqH qb sb (lookR s q) :: slabH sb rb s := by
  intro w hw
  obtain ⟨o, ⟨C, rfl, hs, h0, hc⟩, T0⟩ := (Turned.refl hw).openAt 1 rfl
  have q0 := blk_cell (T0.blk 0 rfl)
  have hne : qb ≠ sb := T0.ne 0 1 rfl rfl (by decide)
  simp only [reqC] at q0
  have HT := Lib.hid T0
  have HC := Lib.hid (And.intro hs (And.intro h0 hc))
  clear hw hs h0 hc T0
  by_cases hk : (s.recs.length : Int) ≤ s.count
  · skip
    have HK := Lib.hid (show lookR s q = _ from if_pos hk)
    go_enter Tryz.func156, Tryz.ntmps156
    go_wp2_with (
      go_at_call 78
      refine ((loadI_does sb 1 _ C s.count HC.out.2.2).at HT.out 1 rfl).mono ?_
      rintro e w1 ⟨h', ⟨rfl, C1, rfl, hr1⟩, Ta⟩
      have T1 := Ta _ rfl
      clear Ta
      have q1 := blk_cell (T1.blk 0 rfl)
      have qf := blk_free (T1.blk 0 rfl)
      simp only [reqC] at q1
      have s1 := (blk_cell (T1.blk 1 rfl) 0).trans ((hr1.other 0 (by omega)).trans HC.out.2.1)
      have HR1 := Lib.hid hr1
      have HT1 := Lib.hid T1
      clear hr1 T1 q0)
    go_region
    go_wp2
    refine bodyPost_ret (results_none rfl _ _ _) rfl ⟨_, ⟨rfl, ?_⟩, (((HT1.out.setAt 0 rfl 3 _).drew).setAt 0 rfl 6 _).sayAt 1 rfl _ (fun o ho => by cases ho; exact slabP_recell HC.out.1 HC.out.2.1 HR1.out)⟩
    rw [HK.out]; rfl
  · skip
    have HK := Lib.hid (show lookR s q = _ from if_neg hk)
    go_enter Tryz.func156, Tryz.ntmps156
    go_wp2_with (
      go_at_call 78
      refine ((loadI_does sb 1 _ C s.count HC.out.2.2).at HT.out 1 rfl).mono ?_
      rintro e w1 ⟨h', ⟨rfl, C1, rfl, hr1⟩, Ta⟩
      have T1 := Ta _ rfl
      clear Ta
      have q1 := blk_cell (T1.blk 0 rfl)
      have qf := blk_free (T1.blk 0 rfl)
      simp only [reqC] at q1
      have s1 := (blk_cell (T1.blk 1 rfl) 0).trans ((hr1.other 0 (by omega)).trans HC.out.2.1)
      have HR1 := Lib.hid hr1
      have HT1 := Lib.hid T1
      clear hr1 T1 q0)
    go_region
    go_wp2
    refine bodyPost_end (results_none rfl _ _ _) rfl ⟨_, ⟨rfl, ?_⟩, (((HT1.out.setAt 0 rfl 3 _).drew).setAt 0 rfl 2 _).sayAt 1 rfl _ (fun o ho => by cases ho; exact slabP_recell HC.out.1 HC.out.2.1 HR1.out)⟩
    rw [HK.out]; rfl
end Go.Proofs.YthbjaoinklhikaaGreat

namespace Go.Proofs.YthbjaoinklhikaaGreat
set_option linter.unusedVariables false
set_option linter.unusedSimpArgs false
open Go.RowKit

theorem more_does (qb sb rb : Nat) (s : SlabS) (q : Req) (b0 : 0 ≤ q.saw) (b1 : q.saw < 64) :
    Does Tryz.prog 157 #[.pointer (some ⟨qb, 0, none⟩)] (reqH qb sb q :: slabH sb rb s) fun e h' => e = .returned (.tuple #[]) ∧ h' = reqH qb sb (moreR s q).2 :: slabH sb rb (moreR s q).1 := by
  intro w hw
  obtain ⟨o, ⟨C, rfl, hs, h0, hc⟩, T0⟩ := (Turned.refl hw).openAt 1 rfl
  have q0 := blk_cell (T0.blk 0 rfl)
  have qf0 := blk_free (T0.blk 0 rfl)
  have hne : qb ≠ sb := T0.ne 0 1 rfl rfl (by decide)
  simp only [reqC] at q0
  have HT := Lib.hid T0
  have HC := Lib.hid (And.intro hs (And.intro h0 hc))
  clear hw hs h0 hc T0
  have hwr : wrap64 (q.saw + 1) = q.saw + 1 := by unfold wrap64; omega
  by_cases hk : s.count = q.saw
  · have HK := Lib.hid (show moreR s q = _ from if_pos hk)
    go_enter Tryz.func157, Tryz.ntmps157
    go_wp2
    go_region_held3 (fun w' => w'.cell? ⟨qb, 0, none⟩ = some (.pointer (some ⟨sb, 0, none⟩)) ∧ w'.cell? ⟨qb, 3, none⟩ = some (.int .i64 q.saw)) (first | exact ⟨(HT.out.setAt 0 rfl 2 _).drew.cell 0 rfl 0, (HT.out.setAt 0 rfl 2 _).drew.cell 0 rfl 3⟩ | exact ⟨q1 0, q1 3⟩) ((
      go_at_call 149
      rw [wrapI (q.saw + 1) (by omega) (by omega)]
      refine ((swapI_does sb 1 _ C s.count q.saw (q.saw + 1) HC.out.2.2).at (HT.out.setAt 0 rfl 2 _).drew 1 rfl).mono ?_
      rintro e w1 ⟨h', ⟨rfl, C1, rfl, hr1⟩, Ta⟩
      have T1 := Ta _ rfl
      clear Ta
      have q1 := blk_cell (T1.blk 0 rfl)
      have qf := blk_free (T1.blk 0 rfl)
      rw [if_pos hk] at hr1
      have HR1 := Lib.hid hr1
      have HT1 := Lib.hid T1
      clear hr1 T1 q0))
    go_wp2
    refine bodyPost_end (results_none rfl _ _ _) rfl ⟨_, ⟨rfl, ?_⟩, (HT1.out.setAt 0 rfl 2 _).sayAt 1 rfl _ (fun o ho => by cases ho; exact slabP_recell HC.out.1 HC.out.2.1 HR1.out)⟩
    rw [HK.out, hk]; rfl
  · have HK := Lib.hid (show moreR s q = _ from if_neg hk)
    go_enter Tryz.func157, Tryz.ntmps157
    go_wp2
    go_region_held3 (fun w' => w'.cell? ⟨qb, 0, none⟩ = some (.pointer (some ⟨sb, 0, none⟩)) ∧ w'.cell? ⟨qb, 3, none⟩ = some (.int .i64 q.saw)) (first | exact ⟨(HT.out.setAt 0 rfl 2 _).drew.cell 0 rfl 0, (HT.out.setAt 0 rfl 2 _).drew.cell 0 rfl 3⟩ | exact ⟨q1 0, q1 3⟩) ((
      go_at_call 149
      rw [wrapI (q.saw + 1) (by omega) (by omega)]
      refine ((swapI_does sb 1 _ C s.count q.saw (q.saw + 1) HC.out.2.2).at (HT.out.setAt 0 rfl 2 _).drew 1 rfl).mono ?_
      rintro e w1 ⟨h', ⟨rfl, C1, rfl, hr1⟩, Ta⟩
      have T1 := Ta _ rfl
      clear Ta
      have q1 := blk_cell (T1.blk 0 rfl)
      have qf := blk_free (T1.blk 0 rfl)
      rw [if_neg hk] at hr1
      have HR1 := Lib.hid hr1
      have HT1 := Lib.hid T1
      clear hr1 T1 q0))
    go_wp2
    refine bodyPost_end (results_none rfl _ _ _) rfl ⟨_, ⟨rfl, ?_⟩, HT1.out.sayAt 1 rfl _ (fun o ho => by cases ho; exact slabP_recell HC.out.1 HC.out.2.1 HR1.out)⟩
    rw [HK.out]; rfl
end Go.Proofs.YthbjaoinklhikaaGreat

namespace Go.Proofs.YthbjaoinklhikaaGreat
set_option linter.unusedVariables false
set_option linter.unusedSimpArgs false
open Go.RowKit

theorem seek1_does (xb qb sb : Nat) (q : Req) (n : Int) (h0 : 0 ≤ n) (h1 : n < 18446744073709551616) :
    Does Tryz.prog 188 #[.int .u64 n, .pointer (some ⟨xb, 0, none⟩)] [pt xb 99 #[.pointer (some ⟨qb, 0, none⟩)], reqH qb sb q] fun e h' =>
      e = .returned (.tuple #[.int .u64 (nextW n 1 (decide (0 < q.p))).1, .bool ((nextW n 1 (decide (0 < q.p))).2 == 0)]) ∧ h' = [pt xb 99 #[.pointer (some ⟨qb, 0, none⟩)], reqH qb sb q] := by
  intro w hw
  have T0 := Turned.refl hw
  have x0 := T0.cell 0 rfl 0
  have q0 := T0.cell 1 (show _ = some (pt qb _ _) from rfl) 1
  simp [reqC] at x0 q0
  have HT := Lib.hid T0
  clear hw T0
  go_enter Tryz.func188, Tryz.ntmps188
  go_wp2_with (
    go_at_call 167
    refine (next_calls _ _ _ _ h0 h1).mono ?_
    rintro e w1 ⟨rfl, rfl⟩)
  all_goals go_ret2
  all_goals exact ⟨_, ⟨by simp_all, rfl⟩, HT.out⟩
end Go.Proofs.YthbjaoinklhikaaGreat

namespace Go.Proofs.YthbjaoinklhikaaGreat
set_option linter.unusedVariables false
set_option linter.unusedSimpArgs false
open Go.RowKit

set_option maxHeartbeats 1000000 in
theorem seek_does (qb sb rb : Nat) (s : SlabS) (q : Req) (k : Nat) (r : Rec) (hk : q.slot = k) (hr : s.recs[k]? = some r) (ho : RecOk r) (hn : s.recs.length ≤ 64) :
    Does Tryz.prog 158 #[.pointer (some ⟨qb, 0, none⟩)] (reqH qb sb q :: slabH sb rb s) fun e h' => e = .returned (.tuple #[]) ∧ h' = reqH qb sb (seekR s q).2 :: slabH sb rb (seekR s q).1 := by
  intro w hw
  obtain ⟨o, ⟨C, rfl, hs, h0, hc⟩, T0⟩ := (Turned.refl hw).openAt 1 rfl
  obtain ⟨o, ⟨D, rfl, hd, hD⟩, T0⟩ := T0.openAt 2 rfl
  have q0 := T0.cell 0 (show _ = some (pt qb _ _) from rfl)
  have s0 : w.cell? ⟨sb, 0, none⟩ = _ := (T0.cell 1 (show _ = some (pt sb _ _) from rfl) 0).trans h0
  have hqs : qb ≠ sb := T0.ne 0 1 rfl rfl (by decide)
  have hqr : qb ≠ rb := T0.ne 0 2 rfl rfl (by decide)
  have hkl := (List.getElem?_eq_some_iff.1 hr).1
  simp only [reqC] at q0
  have HT := Lib.hid T0
  have HC := Lib.hid (And.intro hs (And.intro h0 hc))
  have HD := Lib.hid (And.intro hd hD)
  have HR := Lib.hid hr
  have HO := Lib.hid ho
  have hlq := T0.lt 0 (show _ = some (pt qb _ _) from rfl)
  have hls := T0.lt 1 (show _ = some (pt sb _ _) from rfl)
  simp only [] at hlq hls
  clear hw hs h0 hc T0 hd hD hr ho
  obtain ⟨v, hv⟩ : ∃ v, nextW r.w 1 (decide (0 < q.p)) = v := ⟨_, rfl⟩
  obtain ⟨n1, e1⟩ := v
  have HV := Lib.hid hv; clear hv
  rw [hk] at q0
  have hperm : ∀ (b x : Piece) (D' : Array Value), [b, x, (sb, fun o => o = Obj.cells C 138 (0, 0)), pt rb 134 D'].Perm ((pt rb 134 D' :: [b, x]) ++ [(sb, fun o => o = Obj.cells C 138 (0, 0))]) :=
    fun b x D' => (pull 3 rfl rfl)
  obtain ⟨hg0, hg1⟩ : 0 ≤ r.g ∧ r.g ≤ 4294967295 := ⟨HO.out.g0, Int.le_trans HO.out.g1 (ok_bd _ HO.out.w0 HO.out.ok).2.2.2⟩
  by_cases he : e1 = 0
  · subst he
    have HK := Lib.hid (show seekR s q = ({ s with recs := s.recs.set k ⟨n1, r.g + 1, q.p⟩ }, { q with id := (r.g + 1) * 64 + q.slot, st := 2 }) from by
      unfold seekR; simp only [hk, Int.toNat_natCast, List.getD_eq_getElem?_getD, HR.out, Option.getD_some, HV.out]; rfl)
    go_enter Tryz.func158, Tryz.ntmps158
    go_wp2
    go_region
    go_wp2_with (
      go_at_call 187
      refine ((turnW_does rb (k * 6) 134 D r.w n1 true 188 #[.pointer (some ⟨w.heap.size, 0, none⟩)] [pt w.heap.size 99 #[.pointer (some ⟨qb, 0, none⟩)], reqH qb sb q]
        (HD.out.2 k r HR.out).1 (enters_of Tryz.func188 (by kernel_rfl) rfl)
        ((seek1_does w.heap.size qb sb q r.w HO.out.w0 HO.out.w1).mono (fun e h' hh => by rw [HV.out] at hh; exact hh))).use (HT.out.alloc rfl _ _).drew (hperm _ _ _)).mono ?_
      rintro e w1 ⟨h', ⟨rfl, D1, rfl, hr1⟩, T1⟩
      have q1 := T1.cell 2 (show _ = some (pt qb _ _) from rfl)
      have x1 := T1.cell 1 (show _ = some (pt w.heap.size _ _) from rfl)
      have s1 : w1.cell? ⟨sb, 0, none⟩ = _ := (T1.cell 3 (show _ = some (pt sb _ _) from rfl) 0).trans HC.out.2.1
      have g1 := (T1.cell 0 (show _ = some (pt rb _ _) from rfl) (k * 6 + 4)).trans ((hr1.other (k * 6 + 4) (by omega)).trans (HD.out.2 k r HR.out).2.1)
      have p1 := (T1.cell 0 (show _ = some (pt rb _ _) from rfl) (k * 6 + 5)).trans ((hr1.other (k * 6 + 5) (by omega)).trans (HD.out.2 k r HR.out).2.2)
      have f1 := T1.free 0 (show _ = some (pt rb _ _) from rfl)
      have f2 := T1.free 2 (show _ = some (pt qb _ _) from rfl)
      simp only [reqC, hk] at q1
      have HR1 := Lib.hid hr1
      have HT1 := Lib.hid T1
      clear hr1 T1)
    go_region
    go_wp2
    refine bodyPost_end (results_none rfl _ _ _) rfl ⟨_, ⟨rfl, ?_⟩, Turned.drop1 (((((((HT1.out.setAt 0 rfl (k * 6 + 4) _).setAt 0 rfl (k * 6 + 5) _).setAt 2 rfl 5 _).setAt 2 rfl 6 _).drew.sayAt 0 rfl
      (recsP (s.recs.set k ⟨n1, r.g + 1, q.p⟩)) ?_).sayAt 3 rfl (slabP rb (s.recs.set k ⟨n1, r.g + 1, q.p⟩).length s.count) ?_).perm (List.perm_append_comm (l₁ := [_]) (l₂ := [_, _, _])))⟩
    · rw [HK.out, ← hk]; rfl
    · intro o ho; cases ho
      exact ⟨_, rfl, recs_given HD.out.1 HD.out.2 HR.out HR1.out⟩
    · intro o ho; cases ho; rw [List.length_set]; exact ⟨C, rfl, HC.out⟩
  · have HK := Lib.hid (show seekR s q = (s, { q with slot := (q.slot + 1) % s.recs.length }) from by
      unfold seekR; simp only [hk, Int.toNat_natCast, List.getD_eq_getElem?_getD, HR.out, Option.getD_some, HV.out]; exact if_neg he)
    go_enter Tryz.func158, Tryz.ntmps158
    go_wp2
    go_region
    go_wp2_with (
      go_at_call 187
      refine ((turnW_does rb (k * 6) 134 D r.w n1 false 188 #[.pointer (some ⟨w.heap.size, 0, none⟩)] [pt w.heap.size 99 #[.pointer (some ⟨qb, 0, none⟩)], reqH qb sb q]
        (HD.out.2 k r HR.out).1 (enters_of Tryz.func188 (by kernel_rfl) rfl)
        ((seek1_does w.heap.size qb sb q r.w HO.out.w0 HO.out.w1).mono (fun e h' hh => by rw [HV.out, show ((e1 == 0) = false) from by simpa using he] at hh; exact hh))).use (HT.out.alloc rfl _ _).drew (hperm _ _ _)).mono ?_
      rintro e w1 ⟨h', ⟨rfl, D1, rfl, hr1⟩, T1⟩
      have q1 := T1.cell 2 (show _ = some (pt qb _ _) from rfl)
      have x1 := T1.cell 1 (show _ = some (pt w.heap.size _ _) from rfl)
      have s1 : w1.cell? ⟨sb, 0, none⟩ = _ := (T1.cell 3 (show _ = some (pt sb _ _) from rfl) 0).trans HC.out.2.1
      have g1 := (T1.cell 0 (show _ = some (pt rb _ _) from rfl) (k * 6 + 4)).trans ((hr1.other (k * 6 + 4) (by omega)).trans (HD.out.2 k r HR.out).2.1)
      have p1 := (T1.cell 0 (show _ = some (pt rb _ _) from rfl) (k * 6 + 5)).trans ((hr1.other (k * 6 + 5) (by omega)).trans (HD.out.2 k r HR.out).2.2)
      have f1 := T1.free 0 (show _ = some (pt rb _ _) from rfl)
      have f2 := T1.free 2 (show _ = some (pt qb _ _) from rfl)
      simp only [reqC, hk] at q1
      have HR1 := Lib.hid hr1
      have HT1 := Lib.hid T1
      clear hr1 T1)
    go_region
    go_wp2
    refine bodyPost_ret (results_none rfl _ _ _) rfl ⟨_, ⟨rfl, ?_⟩, Turned.drop1 (((((HT1.out.setAt 2 rfl 4 _).drew.sayAt 0 rfl
      (recsP s.recs) ?_).sayAt 3 rfl (slabP rb s.recs.length s.count) ?_).perm (List.perm_append_comm (l₁ := [_]) (l₂ := [_, _, _]))))⟩
    · rw [HK.out, hk]; rfl
    · intro o ho; cases ho
      exact ⟨_, rfl, recs_same HD.out.1 HD.out.2 HR.out HR1.out⟩
    · intro o ho; cases ho; exact ⟨C, rfl, HC.out⟩
end Go.Proofs.YthbjaoinklhikaaGreat

namespace Go.Proofs.YthbjaoinklhikaaGreat
set_option linter.unusedVariables false
set_option linter.unusedSimpArgs false
open Go.RowKit

def atV (rb n : Nat) (k : Int) : Value := if 0 ≤ k ∧ k < n then .pointer (some ⟨rb, k.toNat * 6, none⟩) else .pointer none
theorem atV_has (rb : Nat) {s : SlabS} {j : Nat} (h : s.has j) : atV rb s.recs.length j = .pointer (some ⟨rb, j * 6, none⟩) := (if_pos h).trans (by simp)
theorem atV_not (rb : Nat) {s : SlabS} {k : Int} (h : ¬ s.has k) : atV rb s.recs.length k = .pointer none := if_neg h
theorem slabAt_does (sb rb n : Nat) (c : Int) (k : Int) (hn : n ≤ 64) :
    Does Tryz.prog 76 #[.pointer (some ⟨sb, 0, none⟩), .int .i64 k] [(sb, slabP rb n c)] fun e h' => e = .returned (atV rb n k) ∧ h' = [(sb, slabP rb n c)] := by
  intro w hw
  obtain ⟨o, ⟨C, rfl, hs, h0, hc⟩, T0⟩ := (Turned.refl hw).openAt 0 rfl
  have s0 : w.cell? ⟨sb, 0, none⟩ = _ := (T0.cell 0 (show _ = some (pt sb _ _) from rfl) 0).trans h0
  have HT := Lib.hid (T0.sayAt 0 rfl (slabP rb n c) (fun o ho => by cases ho; exact ⟨C, rfl, hs, h0, hc⟩))
  clear hw hs h0 hc T0
  by_cases h1 : 0 ≤ k
  · obtain ⟨j, rfl⟩ := Int.eq_ofNat_of_zero_le h1
    by_cases h2 : j < n
    · have HV := Lib.hid (show atV rb n (j : Int) = .pointer (some ⟨rb, j * 6, none⟩) from by unfold atV; rw [if_pos ⟨h1, by omega⟩]; simp)
      go_enter Tryz.func76, Tryz.ntmps76
      go_wp2
      all_goals go_ret
      all_goals exact ⟨_, ⟨by rw [HV.out]; rfl, rfl⟩, HT.out⟩
    · have HV := Lib.hid (show atV rb n (j : Int) = .pointer none from by unfold atV; rw [if_neg (by omega)])
      go_enter Tryz.func76, Tryz.ntmps76
      go_wp2
      all_goals go_ret
      all_goals exact ⟨_, ⟨by rw [HV.out]; rfl, rfl⟩, HT.out⟩
  · have HV := Lib.hid (show atV rb n k = .pointer none from by unfold atV; rw [if_neg (by omega)])
    go_enter Tryz.func76, Tryz.ntmps76
    go_wp2
    all_goals go_ret
    all_goals exact ⟨_, ⟨by rw [HV.out]; rfl, rfl⟩, HT.out⟩

theorem reqId_does (qb sb : Nat) (q : Req) :
    Does Tryz.prog 132 #[.pointer (some ⟨qb, 0, none⟩)] [reqH qb sb q] fun e h' =>
      e = .returned (.tuple #[.int .u64 (if q.st = 2 then q.id else 0), .int .i64 (if q.st = 2 then 0 else 7)]) ∧ h' = [reqH qb sb q] := by
  intro w hw
  have T0 := Turned.refl hw
  have q0 := T0.cell 0 (show _ = some (pt qb _ _) from rfl)
  simp only [reqC] at q0
  have HT := Lib.hid T0
  clear hw T0
  by_cases h2 : q.st = 2
  all_goals
    go_enter Tryz.func132, Tryz.ntmps132
    go_wp2
    all_goals go_ret2
    all_goals exact ⟨_, ⟨by simp [h2], rfl⟩, HT.out⟩

theorem slabBegin_does (sb : Nat) (p : Int) :
    Does Tryz.prog 104 #[.pointer (some ⟨sb, 0, none⟩), .int .u64 p] [] fun e h' =>
      ∃ qb, e = .returned (.pointer (some ⟨qb, 0, none⟩)) ∧ h' = [reqH qb sb ⟨p, 0, 0, 0, 0, 0⟩] := by
  intro w hw
  have HT := Lib.hid (Turned.refl hw)
  clear hw
  go_enter Tryz.func104, Tryz.ntmps104
  go_wp2
  go_ret
  exact ⟨_, ⟨_, rfl, rfl⟩, HT.out.alloc rfl _ _⟩

theorem slabPeriod_does (sb rb : Nat) (s : SlabS) (k : Int) (hn : s.recs.length ≤ 64) :
    Does Tryz.prog 169 #[.pointer (some ⟨sb, 0, none⟩), .int .i64 k] (slabH sb rb s) fun e h' =>
      e = .returned (.int .u64 (s.period k)) ∧ h' = slabH sb rb s := by
  intro w hw
  have HT := Lib.hid (Turned.refl hw)
  clear hw
  by_cases h : s.has k
  · obtain ⟨j, rfl⟩ := SlabS.has_nat h
    obtain ⟨r, hr, hrd⟩ := SlabS.has_at h
    have HV := Lib.hid (atV_has rb h)
    have HP := Lib.hid (show s.period j = r.p from by unfold SlabS.period; rw [if_pos h, hrd])
    clear hrd h
    have HR := Lib.hid hr; clear hr
    go_enter Tryz.func169, Tryz.ntmps169
    go_wp2_with (
      go_at_call 76
      refine ((slabAt_does sb rb s.recs.length s.count j hn).at HT.out 0 rfl).mono ?_
      rintro e w1 ⟨h', ⟨he, rfl⟩, Ta⟩
      rw [HV.out] at he
      subst he
      obtain ⟨o, ⟨D, rfl, hd, hD⟩, T1⟩ := (Ta _ rfl).openAt 1 rfl
      have d1 : w1.cell? ⟨rb, j * 6 + 5, none⟩ = _ := (T1.cell 1 (show _ = some (pt rb _ _) from rfl) _).trans (hD j r HR.out).2.2
      have HT1 := Lib.hid (T1.sayAt 1 rfl (recsP s.recs) (fun o ho => by cases ho; exact ⟨D, rfl, hd, hD⟩))
      clear T1 hd hD Ta)
    go_ret
    exact ⟨_, ⟨by rw [HP.out]; rfl, rfl⟩, HT1.out⟩
  · have HV := Lib.hid (atV_not rb h)
    have HP := Lib.hid (show s.period k = 0 from if_neg h)
    clear h
    go_enter Tryz.func169, Tryz.ntmps169
    go_wp2_with (
      go_at_call 76
      refine ((slabAt_does sb rb s.recs.length s.count k hn).at HT.out 0 rfl).mono ?_
      rintro e w1 ⟨h', ⟨he, rfl⟩, Ta⟩
      rw [HV.out] at he
      subst he
      have HT1 := Lib.hid (Ta _ rfl)
      clear Ta)
    go_ret
    exact ⟨_, ⟨by rw [HP.out]; rfl, rfl⟩, HT1.out⟩

theorem slabWord_does (sb rb : Nat) (s : SlabS) (k : Int) (hn : s.recs.length ≤ 64) :
    Does Tryz.prog 27 #[.pointer (some ⟨sb, 0, none⟩), .int .i64 k] (slabH sb rb s) fun e h' =>
      e = .returned (.tuple #[.int .u64 (s.word k), .int .i64 (s.werr k)]) ∧ h' = slabH sb rb s := by
  intro w hw
  have HT := Lib.hid (Turned.refl hw)
  clear hw
  by_cases h : s.has k
  · obtain ⟨j, rfl⟩ := SlabS.has_nat h
    obtain ⟨r, hr, hrd⟩ := SlabS.has_at h
    have HV := Lib.hid (atV_has rb h)
    have HP := Lib.hid (show s.word j = r.w ∧ s.werr j = 0 from ⟨by unfold SlabS.word; rw [if_pos h, hrd], if_pos h⟩)
    clear hrd h
    have HR := Lib.hid hr; clear hr
    go_enter Tryz.func27, Tryz.ntmps27
    go_wp2_with (first
      | (go_at_call 76
         refine ((slabAt_does sb rb s.recs.length s.count j hn).at HT.out 0 rfl).mono ?_
         rintro e w1 ⟨h', ⟨he, rfl⟩, Ta⟩
         rw [HV.out] at he
         subst he
         obtain ⟨o, ⟨D, rfl, hd, hD⟩, T1⟩ := (Ta _ rfl).openAt 1 rfl
         have HD := Lib.hid (And.intro hd hD)
         have HT1 := Lib.hid T1
         clear T1 hd hD Ta)
      | (go_at_call 77
         refine ((loadW_does rb (j * 6) _ D r.w (HD.out.2 j r HR.out).1).at HT1.out 1 rfl).mono ?_
         rintro e w2 ⟨h', ⟨rfl, C1, rfl, hr1⟩, Ta⟩
         have HR1 := Lib.hid hr1
         have HT2 := Lib.hid ((Ta _ rfl).sayAt 1 rfl (recsP s.recs) (fun o ho => by cases ho; exact ⟨C1, rfl, recs_same HD.out.1 HD.out.2 HR.out HR1.out⟩))
         clear Ta hr1))
    go_ret2
    exact ⟨_, ⟨by rw [HP.out.1, HP.out.2]; rfl, rfl⟩, HT2.out⟩
  · have HV := Lib.hid (atV_not rb h)
    have HP := Lib.hid (show s.word k = 0 ∧ s.werr k = 4 from ⟨if_neg h, if_neg h⟩)
    clear h
    go_enter Tryz.func27, Tryz.ntmps27
    go_wp2_with (
      go_at_call 76
      refine ((slabAt_does sb rb s.recs.length s.count k hn).at HT.out 0 rfl).mono ?_
      rintro e w1 ⟨h', ⟨he, rfl⟩, Ta⟩
      rw [HV.out] at he
      subst he
      have HT1 := Lib.hid (Ta _ rfl)
      clear Ta)
    go_ret2
    exact ⟨_, ⟨by rw [HP.out.1, HP.out.2]; rfl, rfl⟩, HT1.out⟩
end Go.Proofs.YthbjaoinklhikaaGreat
