import Derived.Test.YtblhfbcodbjgcaaGreatTV33
import Derived.Test.YtblhfbcodbjgcaaGreatTurnNoneM1
namespace Go.Proofs.YtblhfbcodbjgcaaGreat
set_option linter.unusedVariables false
set_option linter.unusedSimpArgs false
open Go.RowKit Go.Shelf
def xClosed (x : CoreS) : CoreS := { x with f := { x.f with closed := true } }
def zNone (th no : Int) : ZT := begT th no (xClosed (core0 (plain17 1))) (zf0 (plain17 1)).ws (zf0 (plain17 1)).p
theorem none17 (th no : Int) (h : 0 ≤ th) : ∃ z0, z0 = zNone th no ∧ RunsT 4 firstT z0 ∧ (∀ j, j < 4 → preYS' (itT j firstT z0).1 (itT j firstT z0).2) ∧ (∀ j, j < 4 → preST (itT j firstT z0).1 (itT j firstT z0).2) ∧ (itT 4 firstT z0).1.isNil = true ∧
    (itT 4 firstT z0).2.k.err = 3 ∧ (itT 4 firstT z0).2.k.ok = false ∧ (itT 4 firstT z0).2.x.f.now = 0 ∧ (itT 4 firstT z0).2.x.f.inside = 0 := by
  have hr : RunsT 4 firstT (zNone th no) := runsT_is (by kernel_rfl)
  have h0 := zf0_n (plain17 1) (by decide)
  have hc : CoreN 0 (xClosed (core0 (plain17 1))) := ⟨h0.1.core.slab, h0.1.core.i0, h0.1.core.i1, h0.1.core.tr, h0.1.core.sh, h0.1.core.ring⟩
  have hrest : RestN 0 (xClosed (core0 (plain17 1))) (zf0 (plain17 1)).ws (zf0 (plain17 1)).p := by
    have := h0.1.rest
    exact ⟨this.now, this.busy, this.cap, this.wl, this.wok, this.task, this.turns, this.ch, this.sp⟩
  have hj : JT 1 firstT (zNone th no) := JT.first (N := 0) hc hrest h0.2.1 h0.2.2 h (.inl rfl) no
  refine ⟨_, rfl, hr, fun j hj4 => ?_, fun j hj4 => ?_, by kernel_rfl, by kernel_rfl, by kernel_rfl, by kernel_rfl, by kernel_rfl⟩
  · exact (hj.it j (by omega) (fun i hi => hr.1 i (by omega))).preY (by omega)
  · exact (hj.it j (by omega) (fun i hi => hr.1 i (by omega))).pre (by omega) (hr.1 j hj4)
set_option maxRecDepth 100000 in
set_option maxHeartbeats 1000000 in
theorem lawTurnNone (th no : Int) : DoesG Tryz.prog 4 #[.int .i64 th, .int .i64 no] [] fun e gs => e = .returned (.bool true) := by
  have HN := Lib.hid (newFull (plain17 1) (by decide))
  have han := turnAnswer_nil
  simp only [ansS] at han
  have HAN := Lib.hid han
  clear han
  intro w hw
  have T0 := TG.refl hw
  have HT := Lib.hid T0
  clear hw T0
  go_enter Tryz.func4, Tryz.ntmps4
  go_wp2_with fail
  refine (DoesG.use (alive17_g) (HT.out) [] rfl rfl).mono ?_
  rintro e w1 ⟨gs, ⟨rfl, rfl⟩, Ta⟩
  simp only [PU] at Ta
  have HT := Lib.hid Ta
  clear Ta
  go_wp2_with fail
  refine (DoesG.use (HAN.out) (HT.out) [] rfl rfl).mono ?_
  rintro e w1 ⟨gs, ⟨rfl, rfl⟩, Ta⟩
  simp only [PU] at Ta
  have HT := Lib.hid Ta
  clear Ta
  generalize w1 = wa at HT ⊢
  go_wp2_with fail
  refine (DoesG.use (turnBegin_none th no) (HT.out.alloc (k := wa.heap.size) rfl 51 (ansS 0 false (.slice none 0 0))) [] rfl rfl).mono ?_
  rintro e w1 ⟨gs, ⟨rfl, rfl⟩, Ta⟩
  simp only [PU] at Ta
  have HT := Lib.hid Ta
  clear Ta
  simp only [ansS] at HT
  go_wp2_with fail
  refine (ReadsG.use (turnMay_nil) (HT.out) [] rfl rfl).mono ?_
  rintro e w1 ⟨rfl, mq, rfl⟩
  have HT := Lib.hid (HT.out.drewN mq)
  generalize World.drewN _ _ = wb at HT ⊢
  go_wp2_with fail
  refine (ReadsG.use (turnStep_nil) (HT.out) [] rfl rfl).mono ?_
  rintro e w1 ⟨rfl, mq, rfl⟩
  have HT := Lib.hid (HT.out.drewN mq)
  generalize World.drewN _ _ = wc at HT ⊢
  go_wp2_with fail
  refine (ReadsG.use (turnDone_nil) (HT.out) [] rfl rfl).mono ?_
  rintro e w1 ⟨rfl, mq, rfl⟩
  have HT := Lib.hid (HT.out.drewN mq)
  generalize World.drewN _ _ = wd at HT ⊢
  have a0 := HT.out.cell 0 0 rfl 0
  have a1 := HT.out.cell 0 0 rfl 1
  simp only [List.getElem?_nil, List.getElem?_toArray, List.getElem?_cons_zero, List.getElem?_cons_succ] at a0 a1
  go_wp2_with fail
  refine (DoesG.use (plain17_g 1) (HT.out) [] rfl rfl).mono ?_
  rintro e w1 ⟨gs, ⟨rfl, rfl⟩, Ta⟩
  simp only [PU] at Ta
  have HT := Lib.hid Ta
  clear Ta
  go_wp2_with fail
  refine (DoesG.use (HN.out) (HT.out) [] rfl rfl).mono ?_
  rintro e w1 ⟨gs, ⟨L, g, rfl, hz, rfl⟩, Ta⟩
  simp only [PU] at Ta
  clear a0 a1
  have HT := Lib.hid Ta
  clear Ta
  obtain ⟨gT, gL, ⟨gC, gW, gP, hx, hw, hp, rfl⟩, hl, rfl⟩ := hz
  have HSH := Lib.hid (coreShut hx)
  have HWP := Lib.hid (And.intro hw hp)
  have HT := Lib.hid (HT.out.sum (H' := [gC, gW ++ gP, gL, [cl wa.heap.size 51 #[.int .i64 0, .bool false, .int .u64 0, .int .u64 0, .slice none 0 0]]]) (fun n ha h0 h1 h2 => by simp only [SU, ha, h0, h1, h2] <;> omega))
  clear hx hw hp hl
  go_wp2_with fail
  refine (DoesG.use (HSH.out) (HT.out) [0] rfl rfl).mono ?_
  rintro e w1 ⟨gs, ⟨rfl, gC1, hx1, rfl⟩, Ta⟩
  simp only [PU] at Ta
  have HT := Lib.hid Ta
  clear Ta
  have HT := Lib.hid (HT.out.pick [0, 1] rfl)
  by_cases hth : th < 0
  · have HX := Lib.hid hx1
    clear hx1
    have HTR := Lib.hid (coreTrace HX.out (by show ([] : List EvS).length ≤ _; simp))
    go_wp2_with fail
    refine (DoesG.use (turnBegin_bad (L := L) th no hth) (HT.out) [] rfl rfl).mono ?_
    rintro e w1 ⟨gs, ⟨rfl, rfl⟩, Ta⟩
    simp only [PU] at Ta
    have HT := Lib.hid Ta
    clear Ta
    go_wp2_with fail
    refine (DoesG.use (HTR.out) (HT.out) [0] rfl rfl).mono ?_
    rintro e w1 ⟨gs, ⟨v, g', gv, rfl, hx2, hv, rfl⟩, Ta⟩
    simp only [PU] at Ta
    have HT := Lib.hid Ta
    clear Ta
    obtain ⟨av, cap, hv2⟩ := rowG.val hv
    subst hv2
    have e0 : ((⟨{ (zf0 (plain17 1)).x.f with closed := true }, (zf0 (plain17 1)).x.slab, (zf0 (plain17 1)).x.tr, (zf0 (plain17 1)).x.shs⟩ : CoreS).tr.length) = 0 := rfl
    go_wp2
    go_ret
    exact ⟨_, rfl, HT.out⟩
  · have HX := Lib.hid (show isTF L (xClosed (core0 (plain17 1))) (zf0 (plain17 1)).ws (zf0 (plain17 1)).p (gC1 ++ (gW ++ gP)) from ⟨gC1, gW, gP, hx1, HWP.out.1, HWP.out.2, rfl⟩)
    have HT := Lib.hid (HT.out.sum (H' := [gC1 ++ (gW ++ gP)]) (fun n ha h0 h1 h2 => by simp only [SU, ha, h0, h1, h2] <;> omega))
    obtain ⟨z0, hz0, hr, hpy, hpr, hnl, he1, he2, he3, he4⟩ := none17 th no (by omega)
    have HB := Lib.hid (turnBegin HX.out (by show ([] : List EvS).length ≤ _; simp) th no (by omega))
    have HZ := Lib.hid hz0
    have HRN := Lib.hid hr
    have HPY := Lib.hid hpy
    have HPR := Lib.hid hpr
    have HNL := Lib.hid hnl
    have HE := Lib.hid (And.intro he1 (And.intro he2 (And.intro he3 he4)))
    clear hx1 hz0 hr hpy hpr hnl he1 he2 he3 he4
    go_wp2_with fail
    refine (DoesG.use (HB.out) (HT.out) [0] rfl rfl).mono ?_
    rintro e w1 ⟨gs, ⟨kb, g, gF1, rfl, hc, hx1, rfl⟩, Ta⟩
    simp only [PU] at Ta
    have HT := Lib.hid Ta
    clear Ta
    have HT := Lib.hid (HT.out.pick [1, 0] rfl)
    have HC := Lib.hid (show isTurn L kb firstT 0 z0.k g from by rw [HZ.out]; exact hc)
    have HX := Lib.hid (show isTF L z0.x z0.ws z0.p gF1 from by rw [HZ.out]; exact hx1)
    clear hc hx1
    go_wp2
    go_loopw [14] (fun i wr => ∃ j : Nat, j ≤ 4 ∧ i = .int .i64 j ∧ ∃ g gF2, isTurn L kb (itT j firstT z0).1 j (itT j firstT z0).2.k g ∧ isTF L (itT j firstT z0).2.x (itT j firstT z0).2.ws (itT j firstT z0).2.p gF2 ∧ TG [] w ([gF2, g]) wr) (fun i _ => 50 - (intOf i).toNat)
    case atStart => exact ⟨0, Nat.zero_le _, rfl, _, _, HC.out, HX.out, HT.out⟩
    case round =>
      obtain ⟨j, hj, rfl, g2, gF2, hc2, hx2, T2⟩ := hrel
      have HC2 := Lib.hid hc2
      have HX2 := Lib.hid hx2
      have HT := Lib.hid T2
      clear T2 hc2 hx2
      by_cases hlt : j < 4
      · have hst := turnStep HC2.out HX2.out (HPY.out j hlt) (HRN.out.1 j hlt) (HPR.out j hlt) ⟨by omega, by omega⟩
        rw [← itT_next] at hst
        have HST := Lib.hid hst
        clear hst
        go_wp2_with fail
        refine (DoesG.use HST.out HT.out [1, 0] rfl rfl).mono ?_
        rintro e w4 ⟨gs, ⟨g3, gF3, rfl, hc3, hx3, rfl⟩, Ta⟩
        simp only [PU] at Ta
        have HC3 := Lib.hid hc3
        have HX3 := Lib.hid hx3
        have HT := Lib.hid Ta
        clear Ta hc3 hx3
        go_wp2
        first
        | (go_roundw
           case rel => exact ⟨j + 1, by omega, by go_num, g3, gF3, by have := HC3.out; rwa [show ((j : Int) + 1) = ((j + 1 : Nat) : Int) by omega] at this, HX3.out, HT.out⟩
           case measure => simp [intOf]; omega)
        | exact ⟨⟨j + 1, by omega, by go_num, g3, gF3, by have := HC3.out; rwa [show ((j : Int) + 1) = ((j + 1 : Nat) : Int) by omega] at this, HX3.out, HT.out⟩, by simp [intOf]; omega⟩
        | ((repeat apply Exists.intro); exact ⟨⟨⟨j + 1, by omega, by go_num, g3, gF3, by have := HC3.out; rwa [show ((j : Int) + 1) = ((j + 1 : Nat) : Int) by omega] at this, HX3.out, HT.out⟩, rfl⟩, by simp [intOf]; omega⟩)
      · have hjn : j = 4 := by omega
        have hr2 := HRN.out.2
        have hnil := HNL.out
        rw [← hjn] at hr2 hnil
        have hst := turnNo HC2.out HX2.out (by
          have hs : (itT j firstT z0).1 = .nil := isNil_nil hnil
          rw [hs]; trivial) hr2
        clear hr2 hlt hj
        have HST := Lib.hid hst
        clear hst
        go_wp2_with fail
        refine (DoesG.use HST.out HT.out [1, 0] rfl rfl).mono ?_
        rintro e w4 ⟨gs, ⟨rfl, g3, gF3, hc3, hx3, rfl⟩, Ta⟩
        simp only [PU] at Ta
        have hA := turnAnswer hc3 hnil
        subst hjn
        rw [HE.out.1, HE.out.2.1] at hA
        simp only [ansS] at hA
        obtain ⟨gC4, gW4, gP4, hx4, hw4, hp4, rfl⟩ := hx3
        have HNW := Lib.hid (show DoesG _ _ _ _ _ from coreNow hx4)
        have HA := Lib.hid hA
        have HX4 := Lib.hid hx4
        have HT := Lib.hid (Ta.sum (H' := [gC4, g3, gW4 ++ gP4]) (fun n ha h0 h1 h2 => by simp only [SU, ha, h0, h1, h2] <;> omega))
        clear Ta hc3 hw4 hp4 hA hnil hx4
        go_wp2_with fail
        refine (DoesG.use (HA.out) (HT.out) [1] rfl rfl).mono ?_
        rintro e w1 ⟨gs, ⟨rfl, rfl⟩, Ta⟩
        simp only [PU] at Ta
        have HT := Lib.hid Ta
        clear Ta
        generalize w1 = w5 at HT ⊢
        have HT := Lib.hid (HT.out.alloc (k := w5.heap.size) rfl 51 (ansS 3 false (.slice none 0 0)))
        simp only [ansS, List.cons_append, List.nil_append] at HT ⊢
        have e0 := HT.out.cell 3 0 rfl 0
        have e1 := HT.out.cell 3 0 rfl 1
        simp only [List.getElem?_nil, List.getElem?_toArray, List.getElem?_cons_zero, List.getElem?_cons_succ] at e0 e1
        rw [HE.out.2.2.1] at HNW
        go_wp2_with fail
        refine (DoesG.use (HNW.out) (HT.out) [0] rfl rfl).mono ?_
        rintro e w1 ⟨gs, ⟨rfl, g6, hx6, rfl⟩, Ta⟩
        simp only [PU] at Ta
        have HT := Lib.hid Ta
        clear Ta
        have hin := coreInside hx6
        rw [HE.out.2.2.2] at hin
        have HIN := Lib.hid hin
        clear hin hx6
        go_wp2_with fail
        refine (DoesG.use (HIN.out) (HT.out) [0] rfl rfl).mono ?_
        rintro e w1 ⟨gs, ⟨rfl, g7, hx7, rfl⟩, Ta⟩
        simp only [PU] at Ta
        have HT := Lib.hid Ta
        clear Ta
        go_wp2
        go_ret
        exact ⟨_, rfl, HT.out⟩
end Go.Proofs.YtblhfbcodbjgcaaGreat
