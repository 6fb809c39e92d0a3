import Derived.Test.YtblhfbcodbjgcaaGreatTU24
import Derived.Test.YtblhfbcodbjgcaaGreatTU20
import Derived.Test.YtblhfbcodbjgcaaGreatTU7
import Derived.Test.YtblhfbcodbjgcaaGreatTU12
namespace Go.Proofs.YtblhfbcodbjgcaaGreat
set_option linter.unusedVariables false
set_option linter.unusedSimpArgs false
open Go.RowKit Go.Shelf
section
variable {L : Lay} {x : CoreS} {ws : List WheelS} {p : PipeS} {e : ET} {g gC gK gF : List Blk} {kb : Nat} {pv sv : Value} {k : TurnS}
set_option maxRecDepth 100000 in
set_option maxHeartbeats 8000000 in
theorem tOne21 (d : Nat) (hz : repT L kb pv e ⟨k, x, ws, p⟩ gK gF) (hp : preT (.one21 d) ⟨k, x, ws, p⟩) (bk bd : Nat) (hb : kBox kb bk e) (hbd : e.2[d]? = some bd) :
    DoesG Tryz.prog 258 #[ptr' bk, ptr' bd] [gK, gF] (MRT L kb pv e (runT (.one21 d) ⟨k, x, ws, p⟩).1 (runT (.one21 d) ⟨k, x, ws, p⟩).2) := by
  obtain ⟨ho, hh, hc⟩ := hp
  obtain ⟨gd, gC, gW, gP, hd, hx, hw, hpp, rfl, rfl⟩ := hz
  obtain ⟨i, q, s, S, hki, hq, hs, hS, hsv, hsh, hss, hwh, hwo, hrb, ht0, ht1⟩ := turn_sh hx hw ho hh
  have hwt := coreWaiting hx hq hs hrb
  have hpo := sPops (kb := kb) (pv := pv) (k := k) hq (s.ring.tail - s.ring.head)
  have hon : ∀ (e' : ET) gK gF, repT L kb pv e' ⟨k, x, ws, p⟩ gK gF → kBox kb bk e' → e'.2[d]? = some bd → _ := fun e' gK gF hz h1 h2 => tOne211 d hz bk bd h1 h2
  simp only [runT, hss, popsT, hsh]
  generalize s.ring.tail - s.ring.head = n at *
  by_cases hn : n ≤ 0
  · rw [if_pos hn] at hpo ⊢
    obtain ⟨sq, hst⟩ : ∃ sq, one211T d ⟨k, x, ws, p⟩ = (sq, ⟨k, x, ws, p⟩) := ⟨_, rfl⟩
    rw [hst] at hon ⊢
    dsimp only at hon ⊢
    intro w hw
    have T0 := TG.refl hw
    have HT := Lib.hid T0
    clear hw T0
    have HT := Lib.hid (HT.out.sum (H' := [turnB kb L.fb pv (sVal L k) k, gd, e.1, gC, gW, gP]) (fun n ha h0 h1 h2 => by simp only [SU, ha, h0, h1, h2] <;> omega))
    have HD := Lib.hid hd
    have HW := Lib.hid hw
    have HPP := Lib.hid hpp
    have HWT := Lib.hid hwt
    rw [← hsv] at hpo
    have HPO := Lib.hid hpo
    have HON := Lib.hid hon
    have HSV := Lib.hid hsv
    have HB := Lib.hid (show cl bk 56 #[ptr' kb] ∈ e.1 from hb)
    have HBD := Lib.hid hbd
    clear ho hh hc hx hw hd hpp hki hq hs hS hsv hsh hss hwh hwo hrb ht0 ht1 hwt hpo hon hb hbd hn hst
    go_enter Tryz.func258, Tryz.ntmps258
    go_wp2_with fail
    have HT := Lib.hid (HT.out.alloc (k := w.heap.size) rfl 148 #[.nilFunc, .nilFunc])
    generalize World.alloc w _ = w1 at HT ⊢
    generalize w.heap.size = sb at *
    have b0 := HT.out.mem_cell 2 HB.out 0
    have k10 := HT.out.cell 0 0 rfl 10
    have ltb := HT.out.mem_lt 2 HB.out
    have ltk := HT.out.lt 0 0 rfl
    simp only [turnC, List.getElem?_toArray, List.getElem?_cons_zero, List.getElem?_cons_succ, HSV.out] at b0 k10 ltb ltk
    go_region_held3 (fun w' => w'.cell? ⟨bk, 0, none⟩ = some (ptr' kb) ∧ w'.cell? ⟨kb, 10, none⟩ = some (ptr' q.b))
      (first
      | exact ⟨b0, k10⟩
      | exact ⟨q1, q2⟩
      | exact ⟨r1, r2⟩
      | exact ⟨s1, s2⟩
      | exact ⟨t1, t2⟩)
      (first
      | (go_at_call 45
         refine (DoesG.use HWT.out HT.out.drew [3] rfl rfl).mono ?_
         rintro e w7 ⟨gs, ⟨rfl, g1, hx1, rfl⟩, Ta⟩
         simp only [PU] at Ta
         have HT7 := Lib.hid Ta
         have HX7 := Lib.hid hx1
         clear Ta hx1
         have q1 := HT7.out.mem_cell 2 HB.out 0
         have q2 := HT7.out.cell 0 0 rfl 10
         simp only [turnC, List.getElem?_toArray, List.getElem?_cons_zero, List.getElem?_cons_succ, HSV.out] at q1 q2)
      | (go_at_call 259
         refine (DoesG.use HPO.out HT7.out [0] rfl rfl).mono ?_
         rintro e w8 ⟨gs, ⟨g2, l2, ⟨m2, d2, rfl, hs2⟩, rfl⟩, Ta⟩
         simp only [PU] at Ta
         obtain ⟨rfl, rfl, rfl⟩ := hs2 (l2, []) (fun _ h => h)
         have HT8 := Lib.hid (Ta.sum2 (H' := [turnB kb L.fb pv (sVal L k) k, gd, e.1, g1, gW, gP, [cl sb 148 #[.nilFunc, .nilFunc]], l2]) (fun n ha h0 h1 h2 => by simp only [SU, ha, h0, h1, h2] <;> omega))
         clear Ta hs2
         have r1 := HT8.out.mem_cell 2 HB.out 0
         have r2 := HT8.out.cell 0 0 rfl 10
         simp only [turnC, List.getElem?_toArray, List.getElem?_cons_zero, List.getElem?_cons_succ, HSV.out] at r1 r2
         have hth := then_nil (first := #[]) (caps := #[ptr' bk, ptr' bd]) (enters_of Tryz.func260 (by kernel_rfl) rfl) (HON.out (e.1 ++ l2, e.2) (turnB kb L.fb pv (sVal L k) k ++ (gd ++ (e.1 ++ l2))) (g1 ++ (gW ++ gP)) ⟨gd, g1, gW, gP, HD.out, HX7.out, HW.out, HPP.out, rfl, rfl⟩ (List.mem_append_left _ HB.out) HBD.out) (fun _ _ h => MRT.fv h)
         have HTH := Lib.hid hth
         clear hth)
      | (go_at_call 191
         refine (DoesG.use HTH.out (HT8.out.sum2 (H' := [turnB kb L.fb pv (sVal L k) k ++ (gd ++ (e.1 ++ l2)), g1 ++ (gW ++ gP), [cl sb 148 #[.nilFunc, .nilFunc]]]) (fun n ha h0 h1 h2 => by simp only [SU, ha, h0, h1, h2] <;> omega)) [0, 1] rfl rfl).mono ?_
         rintro e w9 ⟨gs, ⟨e2, hl2, m3, d3, g3, gK3, gF3, rfl, hs3, hz3, rfl⟩, Ta⟩
         simp only [PU] at Ta
         have HT9 := Lib.hid Ta
         have HL2 := Lib.hid hl2
         have hbx : cl bk 56 #[ptr' kb] ∈ e2.1 := hl2.b _ (List.mem_append_left _ HB.out)
         obtain ⟨gd3, gC3, gW3, gP3, hd3, hx3, hw3, hpp3, rfl, rfl⟩ := hz3
         have HZ3 := Lib.hid (show repT L kb pv e2 ⟨k, x, ws, p⟩ _ _ from ⟨gd3, gC3, gW3, gP3, hd3, hx3, hw3, hpp3, rfl, rfl⟩)
         clear Ta hl2 hd3 hx3 hw3 hpp3
         have hbm : cl bk 56 #[ptr' kb] ∈ turnB kb L.fb pv (sVal L k) k ++ (gd3 ++ e2.1) := List.mem_append_right _ (List.mem_append_right _ hbx)
         have z0 := HT9.out.cell 2 0 rfl 0
         have fz0 := HT9.out.free 2 0 rfl 0
         have z1 := HT9.out.cell 2 0 rfl 1
         have fz1 := HT9.out.free 2 0 rfl 1
         have hv2 := (cliT_vals L kb pv _).vals hs3
         have HS := Lib.hid hs3
         have s1 := HT9.out.mem_cell 1 hbm 0
         have s2 := HT9.out.cell 1 0 rfl 10
         simp only [turnC, List.getElem?_toArray, List.getElem?_cons_zero, List.getElem?_cons_succ, HSV.out] at z0 z1 s1 s2
         obtain ⟨st1, st2⟩ := Cli.store_fv2 (P := Tryz.prog) hv2.1 hv2.2 z0 fz0 z1 fz1
         have HT10 := Lib.hid ((HT9.out.set 2 0 rfl 0 m3).set 2 0 rfl 1 d3)
         have t1 := HT10.out.mem_cell 1 hbm 0
         have t2 := HT10.out.cell 1 0 rfl 10
         simp only [turnC, List.getElem?_toArray, List.getElem?_cons_zero, List.getElem?_cons_succ, HSV.out] at t1 t2
         clear hv2 hs3 hbx hbm))
    all_goals
      have y0 := HT10.out.cell 2 0 rfl 0
      have y1 := HT10.out.cell 2 0 rfl 1
      simp only [Array.set!, List.setIfInBounds_toArray, List.set_cons_zero, List.set_cons_succ, List.getElem?_toArray, List.getElem?_cons_zero, List.getElem?_cons_succ] at y0 y1
      clear b0 k10 q1 q2 r1 r2 s1 s2 t1 t2 z0 z1 fz0 fz1 st1 st2 HT7 HT8 HT9
      generalize World.setCell (World.setCell w9 _ _) _ _ = w5 at HT10 y0 y1 ⊢
      go_wp2
      exact bodyPost_ret (v := .agg #[_, _]) (by simp [results, Tryz.results258, go_sem, y0, y1]) rfl ⟨_, MRT.of ⟨e2, (leT.app e l2).trans HL2.out, m3, d3, g3, _, _, rfl, HS.out, HZ3.out, rfl⟩, HT10.out.pick [0, 1, 3] rfl⟩
  · rw [if_neg hn] at hpo ⊢
    rw [if_neg hn]
    dsimp only
    intro w hw
    have T0 := TG.refl hw
    have HT := Lib.hid T0
    clear hw T0
    have HT := Lib.hid (HT.out.sum (H' := [turnB kb L.fb pv (sVal L k) k, gd, e.1, gC, gW, gP]) (fun n ha h0 h1 h2 => by simp only [SU, ha, h0, h1, h2] <;> omega))
    have HD := Lib.hid hd
    have HW := Lib.hid hw
    have HPP := Lib.hid hpp
    have HWT := Lib.hid hwt
    rw [← hsv] at hpo
    have HPO := Lib.hid hpo
    have HSV := Lib.hid hsv
    have HB := Lib.hid (show cl bk 56 #[ptr' kb] ∈ e.1 from hb)
    have HBD := Lib.hid hbd
    clear ho hh hc hx hw hd hpp hki hq hs hS hsv hsh hss hwh hwo hrb ht0 ht1 hwt hpo hon hb hbd hn
    go_enter Tryz.func258, Tryz.ntmps258
    go_wp2_with fail
    have HT := Lib.hid (HT.out.alloc (k := w.heap.size) rfl 148 #[.nilFunc, .nilFunc])
    generalize World.alloc w _ = w1 at HT ⊢
    generalize w.heap.size = sb at *
    have b0 := HT.out.mem_cell 2 HB.out 0
    have k10 := HT.out.cell 0 0 rfl 10
    have ltb := HT.out.mem_lt 2 HB.out
    have ltk := HT.out.lt 0 0 rfl
    simp only [turnC, List.getElem?_toArray, List.getElem?_cons_zero, List.getElem?_cons_succ, HSV.out] at b0 k10 ltb ltk
    go_region_held3 (fun w' => w'.cell? ⟨bk, 0, none⟩ = some (ptr' kb) ∧ w'.cell? ⟨kb, 10, none⟩ = some (ptr' q.b))
      (first
      | exact ⟨b0, k10⟩
      | exact ⟨q1, q2⟩
      | exact ⟨r1, r2⟩
      | exact ⟨s1, s2⟩
      | exact ⟨t1, t2⟩)
      (first
      | (go_at_call 45
         refine (DoesG.use HWT.out HT.out.drew [3] rfl rfl).mono ?_
         rintro e w7 ⟨gs, ⟨rfl, g1, hx1, rfl⟩, Ta⟩
         simp only [PU] at Ta
         have HT7 := Lib.hid Ta
         have HX7 := Lib.hid hx1
         clear Ta hx1
         have q1 := HT7.out.mem_cell 2 HB.out 0
         have q2 := HT7.out.cell 0 0 rfl 10
         simp only [turnC, List.getElem?_toArray, List.getElem?_cons_zero, List.getElem?_cons_succ, HSV.out] at q1 q2)
      | (go_at_call 259
         refine (DoesG.use HPO.out HT7.out [0] rfl rfl).mono ?_
         rintro e w8 ⟨gs, ⟨g2, l2, ⟨m2, d2, rfl, hs2⟩, rfl⟩, Ta⟩
         simp only [PU] at Ta
         have HT8 := Lib.hid (Ta.sum2 (H' := [turnB kb L.fb pv (sVal L k) k, gd, e.1, g1, gW, gP, [cl sb 148 #[.nilFunc, .nilFunc]], l2, g2, []]) (fun n ha h0 h1 h2 => by simp only [SU, ha, h0, h1, h2] <;> omega))
         have HS2 := Lib.hid hs2
         clear Ta hs2
         have r1 := HT8.out.mem_cell 2 HB.out 0
         have r2 := HT8.out.cell 0 0 rfl 10
         simp only [turnC, List.getElem?_toArray, List.getElem?_cons_zero, List.getElem?_cons_succ, HSV.out] at r1 r2)
      | (go_at_call 191
         refine (DoesG.use (Cli.prog_then_x (c := (cliT L kb pv).on (e.1 ++ l2, e.2)) (s := .at (some (.ready i)) (.pops1 n)) (f := MT.one211 d) (v := .func (.func 260) #[] #[ptr' bk, ptr' bd]) (gm := []) (cliT_vals L kb pv _) rfl (HS2.out (e.1 ++ l2, e.2) (fun b hb => List.mem_append_right _ hb)) ⟨rfl, bk, bd, rfl, List.mem_append_left _ HB.out, HBD.out⟩) HT8.out [8, 9] rfl rfl).mono ?_
         rintro e w9 ⟨gs, ⟨bs, br, rfl, rfl⟩, Ta⟩
         simp only [PU] at Ta
         have HT9 := Lib.hid Ta
         clear Ta
         have s1 := HT9.out.mem_cell 2 HB.out 0
         have s2 := HT9.out.cell 0 0 rfl 10
         have z0 := HT9.out.cell 6 0 rfl 0
         have fz0 := HT9.out.free 6 0 rfl 0
         have z1 := HT9.out.cell 6 0 rfl 1
         have fz1 := HT9.out.free 6 0 rfl 1
         have hv2 := (cliT_vals L kb pv _).vals (HS2.out (e.1 ++ l2, e.2) (fun b hb => List.mem_append_right _ hb))
         simp only [turnC, List.getElem?_toArray, List.getElem?_cons_zero, List.getElem?_cons_succ, HSV.out] at s1 s2 z0 z1
         obtain ⟨st1, st2⟩ := Cli.store_fv2 (P := Tryz.prog) (v' := .func (.func 226) #[] #[ptr' bs, ptr' br]) hv2.1 (Or.inr ⟨_, _, _, rfl⟩) z0 fz0 z1 fz1
         have HT10 := Lib.hid ((HT9.out.set 6 0 rfl 0 m2).set 6 0 rfl 1 (.func (.func 226) #[] #[ptr' bs, ptr' br]))
         have t1 := HT10.out.mem_cell 2 HB.out 0
         have t2 := HT10.out.cell 0 0 rfl 10
         simp only [turnC, List.getElem?_toArray, List.getElem?_cons_zero, List.getElem?_cons_succ, HSV.out] at t1 t2
         clear hv2))
    all_goals
      have HS := Lib.hid (HS2.out (e.1 ++ l2, e.2) (fun b hb => List.mem_append_right _ hb))
      have y0 := HT10.out.cell 6 0 rfl 0
      have y1 := HT10.out.cell 6 0 rfl 1
      simp only [Array.set!, List.setIfInBounds_toArray, List.set_cons_zero, List.set_cons_succ, List.getElem?_toArray, List.getElem?_cons_zero, List.getElem?_cons_succ] at y0 y1
      clear b0 k10 q1 q2 r1 r2 s1 s2 t1 t2 z0 z1 fz0 fz1 st1 st2 HT7 HT8 HT9
      generalize World.setCell (World.setCell w9 _ _) _ _ = w5 at HT10 y0 y1 ⊢
      go_wp2
      exact bodyPost_ret (v := .agg #[_, _]) (by simp [results, Tryz.results258, go_sem, y0, y1]) rfl ⟨_, MRT.of ⟨(e.1 ++ l2, e.2), leT.app e l2, _, _, _, _, _, rfl, ⟨bs, br, _, _, g2, [], rfl, rfl, HS.out, ⟨rfl, bk, bd, rfl, List.mem_append_left _ HB.out, HBD.out⟩, rfl⟩, ⟨gd, g1, gW, gP, HD.out, HX7.out, HW.out, HPP.out, (rfl : turnB kb L.fb pv (sVal L k) k ++ (gd ++ (e.1 ++ l2)) = _), rfl⟩, rfl⟩, (HT10.out.pick [8, 0, 1, 2, 7, 3, 4, 5] rfl).sum2 (fun n ha h0 h1 h2 => by simp only [SU, ha, h0, h1, h2] <;> omega)⟩
end
end Go.Proofs.YtblhfbcodbjgcaaGreat

namespace Go.Proofs.YtblhfbcodbjgcaaGreat
set_option linter.unusedVariables false
set_option linter.unusedSimpArgs false
open Go.RowKit Go.Shelf
set_option maxRecDepth 100000 in
set_option maxHeartbeats 4000000 in
theorem cliT_ok (L : Lay) (kb : Nat) (pv : Value) : (cliT L kb pv).Ok where
  refl := leT.refl
  trans h1 h2 := h1.trans h2
  mm hl h := VMT.le hl h
  ma hl h := VAT.le hl h
  v e := cliT_vals L kb pv e
  m {e f v g gK gF z} hv hz hp := by
    obtain ⟨k, x, ws, p⟩ := z
    obtain ⟨rfl, hv⟩ := hv
    cases f with
    | enter => subst hv; exact ⟨_, _, _, rfl, fun _ _ => rfl, (tEnter hz hp).pre rfl⟩
    | gate => subst hv; exact ⟨_, _, _, rfl, fun _ _ => rfl, (tGate hz hp).pre rfl⟩
    | tick => subst hv; exact ⟨_, _, _, rfl, fun _ _ => rfl, (tTick hz hp).pre rfl⟩
    | shards1 i => obtain ⟨bk, bi, rfl, hb, hbi⟩ := hv; exact ⟨_, _, _, rfl, fun _ _ => rfl, (tShards1 i hz hp bk bi hb hbi).pre rfl⟩
    | one2 d => obtain ⟨bk, bd, rfl, hb, hbd⟩ := hv; exact ⟨_, _, _, rfl, fun _ _ => rfl, (tOne2 d hz hp bk bd hb hbd).pre rfl⟩
    | one21 d => obtain ⟨bk, bd, rfl, hb, hbd⟩ := hv; exact ⟨_, _, _, rfl, fun _ _ => rfl, (tOne21 d hz hp bk bd hb hbd).pre rfl⟩
    | one211 d => obtain ⟨bk, bd, rfl, hb, hbd⟩ := hv; exact ⟨_, _, _, rfl, fun _ _ => rfl, (tOne211 d hz bk bd hb hbd).pre rfl⟩
    | one2112 d => obtain ⟨bk, bd, rfl, hb, hbd⟩ := hv; exact ⟨_, _, _, rfl, fun _ _ => rfl, (tOne2112 d hz hp bk bd hb hbd).pre rfl⟩
    | one21121 => obtain ⟨bk, rfl, hb⟩ := hv; exact ⟨_, _, _, rfl, fun _ _ => rfl, (tOne21121 hz bk hb).pre rfl⟩
    | pops1 n => obtain ⟨bk, bi, rfl, hb, hbi⟩ := hv; exact ⟨_, _, _, rfl, fun _ _ => rfl, (tPops1 n hz hp bk bi hb hbi).pre rfl⟩
    | pops11 n => obtain ⟨bk, bi, rfl, hb, hbi⟩ := hv; exact ⟨_, _, _, rfl, fun _ _ => rfl, (tPops11 n hz hp.1 hp.2.1 hp.2.2 bk bi hb hbi).pre rfl⟩
    | rec1 => obtain ⟨bk, rfl, hb⟩ := hv; exact ⟨_, _, _, rfl, fun _ _ => rfl, (tRec1 hz hp bk hb).pre rfl⟩
    | rec11 => obtain ⟨bk, rfl, hb⟩ := hv; exact ⟨_, _, _, rfl, fun _ _ => rfl, (tRec11 hz hp bk hb).pre rfl⟩
    | fires1 d i => obtain ⟨bk, bp, bi, bd, rfl, hb, hbd, hbp, hbi⟩ := hv; exact ⟨_, _, _, rfl, fun _ _ => rfl, (tFires1 d i hz hp bk bp bi bd hb hbd hbp hbi).pre rfl⟩
    | looks => subst hv; exact ⟨_, _, _, rfl, fun _ _ => rfl, (tLooks hz hp).pre rfl⟩
    | claims => subst hv; exact ⟨_, _, _, rfl, fun _ _ => rfl, (tClaims hz hp).pre rfl⟩
    | claims2 => obtain ⟨bk, rfl, hb⟩ := hv; exact ⟨_, _, _, rfl, fun _ _ => rfl, (tClaims2 hz bk hb).pre rfl⟩
    | behind => subst hv; exact ⟨_, _, _, rfl, fun _ _ => rfl, (tBehind hz hp).pre rfl⟩
    | rearm1 next => obtain ⟨bk, bn, rfl, hb, hbn⟩ := hv; exact ⟨_, _, _, rfl, fun _ _ => rfl, (tRearm1 next hz hp bk bn hb hbn).pre rfl⟩
    | finishes => subst hv; exact ⟨_, _, _, rfl, fun _ _ => rfl, (tFinishes hz hp).pre rfl⟩
  a {e f v g gK gF z} hv hz hp := by
    obtain ⟨k, x, ws, p⟩ := z
    obtain ⟨rfl, hv⟩ := hv
    cases f with
    | leave1 => obtain ⟨bk, rfl, hb⟩ := hv; exact ⟨_, _, _, rfl, fun _ _ => rfl, (aLeave1 hz hp bk hb).pre rfl⟩
    | answer => obtain ⟨bk, rfl, hb⟩ := hv; exact ⟨_, _, _, rfl, fun _ _ => rfl, (aAnswer hz hp bk hb).pre rfl⟩
    | turnA d => obtain ⟨bk, bd, rfl, hb, hbd⟩ := hv; exact ⟨_, _, _, rfl, fun _ _ => rfl, (aTurnA d hz hp bk bd hb hbd).pre rfl⟩
    | unlock => obtain ⟨bk, rfl, hb⟩ := hv; exact ⟨_, _, _, rfl, fun _ _ => rfl, (aUnlock hz hp bk hb).pre rfl⟩
    | put f => obtain ⟨bk, bf, rfl, hb, hbf⟩ := hv; exact ⟨_, _, _, rfl, fun _ _ => rfl, (aPut f hz hp bk bf hb hbf).pre rfl⟩
    | rel => obtain ⟨bk, rfl, hb⟩ := hv; exact ⟨_, _, _, rfl, fun _ _ => rfl, (aRelT hz hp bk hb).pre rfl⟩
    | drop => obtain ⟨bk, rfl, hb⟩ := hv; exact ⟨_, _, _, rfl, fun _ _ => rfl, (aDropT hz hp bk hb).pre rfl⟩
  y {e f v g gK gF z} hv hz hp := by
    obtain ⟨k, x, ws, p⟩ := z
    obtain ⟨rfl, hv⟩ := hv
    cases f with
    | lock => obtain ⟨bk, rfl, hb⟩ := hv; exact ⟨_, _, _, rfl, fun _ _ => rfl, ((yLock hz hp bk hb).pre rfl).post (by rintro e gs ⟨gK', gF', h1, h2, rfl⟩; exact ⟨_, ⟨gK', gF', h1, h2, rfl⟩, .refl _⟩)⟩
    | ready i => obtain ⟨q, hq, rfl⟩ := hv; exact ⟨_, _, _, rfl, fun _ _ => rfl, ((yReady i hz hp hq).pre rfl).post (by rintro e gs ⟨gK', gF', h1, h2, rfl⟩; exact ⟨_, ⟨gK', gF', h1, h2, rfl⟩, .refl _⟩)⟩
end Go.Proofs.YtblhfbcodbjgcaaGreat

namespace Go.Proofs.YtblhfbcodbjgcaaGreat
set_option linter.unusedVariables false
set_option linter.unusedSimpArgs false
open Go.RowKit Go.Shelf
section
variable {L : Lay} {x : CoreS} {p : PipeS} {e gl gC gK gF : List Blk} {kb : Nat} {pv vl al : Value} {k : ShutS}
end
end Go.Proofs.YtblhfbcodbjgcaaGreat

namespace Go.Proofs.YtblhfbcodbjgcaaGreat
set_option linter.unusedVariables false
set_option linter.unusedSimpArgs false
open Go.RowKit Go.Shelf
def stepS (s : SS) (z : ZS) : SS × ZS := St.run runS runAS s z
def preSS (s : SS) (z : ZS) : Prop := St.pre runS runAS preS preAS s z
section
variable {L : Lay} {x : CoreS} {p : PipeS} {g gF : List Blk} {kb : Nat} {s : SS} {n : Int} {k : ShutS}
end
end Go.Proofs.YtblhfbcodbjgcaaGreat

namespace Go.Proofs.YtblhfbcodbjgcaaGreat
set_option linter.unusedVariables false
set_option linter.unusedSimpArgs false
open Go.RowKit Go.Shelf
set_option maxRecDepth 100000 in
theorem Cli.prog_new_v {c : Cli} (h : c.Vals) {s : c.S} {m d : Value} {g : List Blk} (hs : c.SV s m d g) : DoesG Tryz.prog 84 #[.agg #[m, d]] [g] fun e gs => ∃ pb, e = .returned (ptr' pb) ∧ gs = [g, Cli.progB pb m d 0] := by
  obtain ⟨v1, v2⟩ := h.vals hs
  intro w hw
  have T0 := TG.refl hw
  have HT := Lib.hid T0
  clear hw T0
  clear hs h
  rcases v1 with rfl | ⟨fn1, first1, caps1, rfl⟩ <;> rcases v2 with rfl | ⟨fn2, first2, caps2, rfl⟩
  all_goals
    go_enter Tryz.func84, Tryz.ntmps84
    go_wp2
    go_ret
    exact ⟨_, ⟨_, rfl, rfl⟩, (HT.out.alloc0 _).alloc (k := w.heap.size + 1) (by simp) _ _⟩
def ansS (err : Int) (ok : Bool) (v : Value) : Array Value := #[.int .i64 err, .bool ok, .int .u64 0, .int .u64 0, v]
section
variable {L : Lay} {x : CoreS} {p : PipeS} {g gF : List Blk} {kb : Nat} {s : SS} {n : Int} {k : ShutS}
end
end Go.Proofs.YtblhfbcodbjgcaaGreat

namespace Go.Proofs.YtblhfbcodbjgcaaGreat
set_option linter.unusedVariables false
set_option linter.unusedSimpArgs false
open Go.RowKit Go.Shelf
def isTK (L : Lay) (kb : Nat) (pv : Value) (e : ET) (k : TurnS) (gK : List Blk) : Prop := ∃ gd, isDue e.2 k gd ∧ gK = turnB kb L.fb pv (sVal L k) k ++ (gd ++ e.1)
def isTF (L : Lay) (x : CoreS) (ws : List WheelS) (p : PipeS) (gF : List Blk) : Prop := ∃ gC gW gP, isCore L x gC ∧ isWheels L ws gW ∧ isPipe L.p.pb p gP ∧ gF = gC ++ (gW ++ gP)
theorem repT_iff {L : Lay} {kb : Nat} {pv : Value} {e : ET} {gK gF : List Blk} {z : ZT} : repT L kb pv e z gK gF ↔ isTK L kb pv e z.k gK ∧ isTF L z.x z.ws z.p gF :=
  ⟨fun ⟨gd, gC, gW, gP, a, b, c, d, h, i⟩ => ⟨⟨gd, a, h⟩, ⟨gC, gW, gP, b, c, d, i⟩⟩, fun ⟨⟨gd, a, h⟩, ⟨gC, gW, gP, b, c, d, i⟩⟩ => ⟨gd, gC, gW, gP, a, b, c, d, h, i⟩⟩
def isTurn (L : Lay) (kb : Nat) (s : ST) (n : Int) (k : TurnS) (g : List Blk) : Prop :=
  ∃ (pb : Nat) (e : ET) (m d : Value) (gst gK : List Blk), (cliT L kb (ptr' pb)).SV e s m d gst ∧ isTK L kb (ptr' pb) e k gK ∧ g = Cli.progB pb m d n ++ (gst ++ gK)
def stepTu (s : ST) (z : ZT) : ST × ZT := St.run runT runAT s z
def preST (s : ST) (z : ZT) : Prop := St.pre runT runAT preT preAT s z
def maySt (s : ST) (z : ZT) : Bool := s.may mayT z
def preYS' (s : ST) (z : ZT) : Prop := St.preY preYT s z
section
variable {L : Lay} {x : CoreS} {ws : List WheelS} {p : PipeS} {g gF : List Blk} {kb : Nat} {s : ST} {n : Int} {k : TurnS}
set_option maxRecDepth 100000 in
theorem turnStep (hc : isTurn L kb s n k g) (hx : isTF L x ws p gF) (hy : preYS' s ⟨k, x, ws, p⟩) (hm : maySt s ⟨k, x, ws, p⟩ = true) (hp : preST s ⟨k, x, ws, p⟩) (hb : 0 ≤ n ∧ n ≤ 1000000000) :
    DoesG Tryz.prog 31 #[ptr' kb] [g, gF] fun en gs => ∃ g' gF', en = .returned (.bool true) ∧ isTurn L kb (stepTu s ⟨k, x, ws, p⟩).1 (n + 1) (stepTu s ⟨k, x, ws, p⟩).2.k g' ∧ isTF L (stepTu s ⟨k, x, ws, p⟩).2.x (stepTu s ⟨k, x, ws, p⟩).2.ws (stepTu s ⟨k, x, ws, p⟩).2.p gF' ∧ gs = [g', gF'] := by
  obtain ⟨pb, e, m, d, gst, gK, hs, hk, rfl⟩ := hc
  have hd := CliE.prog_step (n := n) (cliT_ok L kb (ptr' pb)) hs (x := (⟨k, x, ws, p⟩ : ZT)) (repT_iff.2 ⟨hk, hx⟩) hy hp pb hb hm
  obtain ⟨gd, hl, rfl⟩ := hk
  intro w hw
  have T0 := TG.refl hw
  have HT := Lib.hid T0
  clear hw T0
  have T1 := HT.out.sum (H' := [turnB kb L.fb (ptr' pb) (sVal L k) k, Cli.progB pb m d n ++ (gst ++ (gd ++ e.1)), gF]) (fun n ha h0 h1 h2 => by simp only [SU, ha, h0, h1, h2] <;> omega)
  have k8 := T1.cell 0 0 rfl 8
  simp only [turnC, List.getElem?_toArray, List.getElem?_cons_zero, List.getElem?_cons_succ] at k8
  have lt := T1.lt 0 0 rfl
  simp only [] at lt
  have HD := Lib.hid hd
  have HT := Lib.hid (HT.out.sum (H' := [Cli.progB pb m d n, gst, turnB kb L.fb (ptr' pb) (sVal L k) k ++ (gd ++ e.1), gF]) (fun n ha h0 h1 h2 => by simp only [SU, ha, h0, h1, h2] <;> omega))
  clear hs hl hx hy hm hp hb hd T1
  go_enter Tryz.func31, Tryz.ntmps31
  go_wp2_with fail
  refine (DoesG.use (HD.out) (HT.out) [0, 1, 2, 3] rfl rfl).mono ?_
  rintro e w1 ⟨gs, ⟨e', hle, m', d', gst', gK', gF', rfl, hs', hx', rfl⟩, Ta⟩
  simp only [PU] at Ta
  have HS := Lib.hid hs'
  have HX := Lib.hid (repT_iff.1 hx')
  clear hs' hx' k8
  have HT := Lib.hid Ta
  clear Ta
  go_wp2
  go_ret
  exact ⟨_, ⟨_, gF', rfl, ⟨pb, e', m', d', gst', gK', HS.out, HX.out.1, rfl⟩, HX.out.2, rfl⟩, HT.out.sum (fun n ha h0 h1 h2 => by simp only [SU, ha, h0, h1, h2] <;> omega)⟩
set_option maxRecDepth 100000 in
theorem turnNo (hc : isTurn L kb s n k g) (hx : isTF L x ws p gF) (hy : preYS' s ⟨k, x, ws, p⟩) (hm : maySt s ⟨k, x, ws, p⟩ = false) :
    DoesG Tryz.prog 31 #[ptr' kb] [g, gF] fun en gs => en = .returned (.bool false) ∧ ∃ g' gF', isTurn L kb s n k g' ∧ isTF L x ws p gF' ∧ gs = [g', gF'] := by
  obtain ⟨pb, e, m, d, gst, gK, hs, hk, rfl⟩ := hc
  have hd := CliE.prog_step_no (n := n) (cliT_ok L kb (ptr' pb)) hs (x := (⟨k, x, ws, p⟩ : ZT)) (repT_iff.2 ⟨hk, hx⟩) hy pb hm
  obtain ⟨gd, hl, rfl⟩ := hk
  intro w hw
  have T0 := TG.refl hw
  have HT := Lib.hid T0
  clear hw T0
  have T1 := HT.out.sum (H' := [turnB kb L.fb (ptr' pb) (sVal L k) k, Cli.progB pb m d n ++ (gst ++ (gd ++ e.1)), gF]) (fun n ha h0 h1 h2 => by simp only [SU, ha, h0, h1, h2] <;> omega)
  have k8 := T1.cell 0 0 rfl 8
  simp only [turnC, List.getElem?_toArray, List.getElem?_cons_zero, List.getElem?_cons_succ] at k8
  have lt := T1.lt 0 0 rfl
  simp only [] at lt
  have HD := Lib.hid hd
  have HS := Lib.hid hs
  have HT := Lib.hid (HT.out.sum (H' := [Cli.progB pb m d n, gst, turnB kb L.fb (ptr' pb) (sVal L k) k ++ (gd ++ e.1), gF]) (fun n ha h0 h1 h2 => by simp only [SU, ha, h0, h1, h2] <;> omega))
  clear hs hl hx hy hm hd T1
  go_enter Tryz.func31, Tryz.ntmps31
  go_wp2_with fail
  refine (DoesG.use (HD.out) (HT.out) [0, 1, 2, 3] rfl rfl).mono ?_
  rintro e w1 ⟨gs, ⟨gK', gF', rfl, hx', rfl⟩, Ta⟩
  simp only [PU] at Ta
  have HX := Lib.hid (repT_iff.1 hx')
  clear hx' k8
  have HT := Lib.hid Ta
  clear Ta
  go_wp2
  go_ret
  exact ⟨_, ⟨rfl, _, gF', ⟨pb, e, m, d, gst, gK', HS.out, HX.out.1, rfl⟩, HX.out.2, rfl⟩, HT.out.sum (fun n ha h0 h1 h2 => by simp only [SU, ha, h0, h1, h2] <;> omega)⟩
set_option maxRecDepth 100000 in
theorem turnDone (hc : isTurn L kb s n k g) : ReadsG Tryz.prog 32 #[ptr' kb] [g] (.bool s.isNil) := by
  obtain ⟨pb, e, m, d, gst, gK, hs, hk, rfl⟩ := hc
  have hd := CliE.prog_done (cliT_ok L kb (ptr' pb)) hs pb n
  obtain ⟨gd, hl, rfl⟩ := hk
  intro w hw
  have T0 := TG.refl hw
  have HT := Lib.hid T0
  clear hw T0
  have T1 := HT.out.sum (H' := [turnB kb L.fb (ptr' pb) (sVal L k) k, Cli.progB pb m d n ++ (gst ++ (gd ++ e.1))]) (fun n ha h0 h1 h2 => by simp only [SU, ha, h0, h1, h2] <;> omega)
  have k8 := T1.cell 0 0 rfl 8
  simp only [turnC, List.getElem?_toArray, List.getElem?_cons_zero, List.getElem?_cons_succ] at k8
  have lt := T1.lt 0 0 rfl
  simp only [] at lt
  have HD := Lib.hid hd
  have HT := Lib.hid (HT.out.sum (H' := [Cli.progB pb m d n, gst, turnB kb L.fb (ptr' pb) (sVal L k) k ++ (gd ++ e.1)]) (fun n ha h0 h1 h2 => by simp only [SU, ha, h0, h1, h2] <;> omega))
  clear hs hl hd T1
  go_enter Tryz.func32, Tryz.ntmps32
  go_wp2_with fail
  refine (ReadsG.use (HD.out) (HT.out) [0] rfl rfl).mono ?_
  rintro e w1 ⟨rfl, mq, rfl⟩
  go_wp2
  go_ret
  exact ⟨rfl, _, rfl⟩
end
end Go.Proofs.YtblhfbcodbjgcaaGreat

namespace Go.Proofs.YtblhfbcodbjgcaaGreat
set_option linter.unusedVariables false
set_option linter.unusedSimpArgs false
open Go.RowKit Go.Shelf
def newT (th no : Int) : TurnS := ⟨th, no, 0, false, 0, none, ⟨0, 0, 0, 0, 0⟩, 0, 0, []⟩
def firstT : ST := .at none .enter
section
variable {L : Lay} {x : CoreS} {ws : List WheelS} {p : PipeS} {g gF : List Blk} {kb : Nat} {s : ST} {n : Int} {k : TurnS}
set_option maxRecDepth 100000 in
theorem turnAnswer (hc : isTurn L kb s n k g) (hn : s.isNil = true) : DoesG Tryz.prog 28 #[ptr' kb] [g] fun en gs =>
    en = .returned (.tuple #[.agg (ansS k.err k.ok (.slice none 0 0)), .int .i64 0]) ∧ gs = [g] := by
  have hd := turnDone hc
  obtain ⟨pb, e, m, d, gst, gK, hs, ⟨gd, hl, rfl⟩, rfl⟩ := hc
  rw [hn] at hd
  intro w hw
  have T0 := TG.refl hw
  have HT := Lib.hid T0
  clear hw T0
  have HD := Lib.hid hd
  clear hd hs hl
  go_enter Tryz.func28, Tryz.ntmps28
  go_wp2_with fail
  have HT := Lib.hid (HT.out.alloc (k := w.heap.size) rfl 51 #[.int .i64 0, .bool false, .int .u64 0, .int .u64 0, .slice none 0 0])
  go_wp2_with fail
  refine (ReadsG.use (HD.out) (HT.out) [0] rfl rfl).mono ?_
  rintro e w1 ⟨rfl, mq, rfl⟩
  have HT := Lib.hid (HT.out.drewN mq)
  generalize World.drewN _ _ = wq at HT ⊢
  have HT := Lib.hid (HT.out.sum (H' := [turnB kb L.fb (ptr' pb) (sVal L k) k, Cli.progB pb m d n ++ (gst ++ (gd ++ e.1)), [cl w.heap.size 51 #[.int .i64 0, .bool false, .int .u64 0, .int .u64 0, .slice none 0 0]]]) (fun n ha h0 h1 h2 => by simp only [SU, ha, h0, h1, h2] <;> omega))
  have k3 := HT.out.cell 0 0 rfl 3
  have k4 := HT.out.cell 0 0 rfl 4
  have k5 := HT.out.cell 0 0 rfl 5
  have k6 := HT.out.cell 0 0 rfl 6
  have k7 := HT.out.cell 0 0 rfl 7
  simp only [turnC, List.getElem?_toArray, List.getElem?_cons_zero, List.getElem?_cons_succ] at k3 k4 k5 k6 k7
  have r0 := HT.out.cell 2 0 rfl 0
  have fr0 := HT.out.free 2 0 rfl 0
  have r1 := HT.out.cell 2 0 rfl 1
  have fr1 := HT.out.free 2 0 rfl 1
  have r2 := HT.out.cell 2 0 rfl 2
  have fr2 := HT.out.free 2 0 rfl 2
  have r3 := HT.out.cell 2 0 rfl 3
  have fr3 := HT.out.free 2 0 rfl 3
  have r4 := HT.out.cell 2 0 rfl 4
  have fr4 := HT.out.free 2 0 rfl 4
  simp only [List.getElem?_nil, List.getElem?_toArray, List.getElem?_cons_zero, List.getElem?_cons_succ] at r0 r1 r2 r3 r4
  have lt := HT.out.lt 0 0 rfl
  simp only [] at lt
  go_wp2
  exact bodyPost_ret (v := .tuple #[.agg (ansS k.err k.ok (.slice none 0 0)), .int .i64 0]) (by simp [results, Tryz.results28, go_sem, r0, r1, r2, r3, r4, ansS]) rfl ⟨_, ⟨rfl, rfl⟩, ((((((HT.out.set 2 0 rfl 0 _).set 2 0 rfl 1 _).set 2 0 rfl 2 _).set 2 0 rfl 3 _).set 2 0 rfl 4 _).pick [0, 1] rfl).sum (fun n ha h0 h1 h2 => by simp only [SU, ha, h0, h1, h2] <;> omega)⟩
set_option maxRecDepth 100000 in
theorem turnBegin (hx : isTF L x ws p gF) (hn : x.tr.length ≤ 1000000) (th no : Int) (hth : 0 ≤ th) : DoesG Tryz.prog 29 #[ptr' L.fb, .int .i64 th, .int .i64 no] [gF] fun en gs =>
    ∃ kb g gF', en = .returned (.tuple #[ptr' kb, .int .i64 0]) ∧ isTurn L kb firstT 0 (newT th no) g ∧ isTF L { x with tr := x.tr ++ [evT (newT th no) { ev0 with kind := 1 }] } ws p gF' ∧ gs = [g, gF'] := by
  obtain ⟨gC, gW, gP, hx, hw, hpp, rfl⟩ := hx
  have HS := Lib.hid (show ∀ kb pv, ((cliT L kb pv).on ([], [])).SV (.at none .enter) .nilFunc (.func (.func 99) #[ptr' kb] #[]) [] from fun kb pv => ⟨rfl, rfl, rfl⟩)
  have HNW := Lib.hid (show ∀ kb, _ from fun kb => Cli.prog_new_v (cliT_vals L kb (.pointer none) ([], [])) (HS.out kb (.pointer none)))
  intro w hw
  have T0 := TG.refl hw
  have HT := Lib.hid T0
  clear hw T0
  have HX := Lib.hid hx
  have HW := Lib.hid hw
  have HPP := Lib.hid hpp
  have HLN := Lib.hid hn
  clear hx hn hpp hw
  go_enter Tryz.func29, Tryz.ntmps29
  go_wp2_with fail
  refine (DoesG.use (at_g _ _ _) (HT.out.alloc (k := w.heap.size) rfl 164 (turnC L.fb (.pointer none) (.pointer none) (newT th no))) [] rfl rfl).mono ?_
  rintro e w1 ⟨gs, ⟨rfl, rfl⟩, Ta⟩
  simp only [PU] at Ta
  have HT := Lib.hid Ta
  clear Ta
  go_wp2_with fail
  refine (DoesG.use (HNW.out w.heap.size) (HT.out.sum (H' := [gC, gW ++ gP, [], [cl w.heap.size 164 (turnC L.fb (.pointer none) (.pointer none) (newT th no))]]) (fun n ha h0 h1 h2 => by simp only [SU, ha, h0, h1, h2] <;> omega)) [2] rfl rfl).mono ?_
  rintro e w1 ⟨gs, ⟨pb, rfl, rfl⟩, Ta⟩
  simp only [PU] at Ta
  have HT := Lib.hid Ta
  clear Ta
  have k8 := HT.out.cell 3 0 rfl 8
  have fk8 := HT.out.free 3 0 rfl 8
  simp only [turnC, List.getElem?_toArray, List.getElem?_cons_zero, List.getElem?_cons_succ] at k8
  have hnt := fun g (hg : isCore L x g) => turnNote (kb := w.heap.size) (pv := ptr' pb) (sv := .pointer none) (k := newT th no) hg { ev0 with kind := 1 } HLN.out
  simp only [EvS.cells, ev0] at hnt
  go_wp2_with fail
  refine (DoesG.use (hnt _ HX.out) ((HT.out.set 3 0 rfl 8 (ptr' pb)).eq (H' := [gC, gW ++ gP, [], turnB w.heap.size L.fb (ptr' pb) (.pointer none) (newT th no), Cli.progB pb .nilFunc (.func (.func 99) #[ptr' w.heap.size] #[]) 0]) rfl) [3, 0] rfl rfl).mono ?_
  rintro e w1 ⟨gs, ⟨rfl, g1, hx1, rfl⟩, Ta⟩
  simp only [PU] at Ta
  have HX := Lib.hid hx1
  clear hx1 k8 fk8
  have HT := Lib.hid Ta
  clear Ta
  go_wp2
  go_ret2
  exact ⟨_, ⟨_, _, _, rfl, ⟨pb, ([], []), _, _, [], turnB w.heap.size L.fb (ptr' pb) (.pointer none) (newT th no) ++ ([] ++ []), HS.out _ _, ⟨[], ⟨rfl, .inl ⟨rfl, rfl⟩⟩, rfl⟩, rfl⟩, ⟨g1, gW, gP, HX.out, HW.out, HPP.out, rfl⟩, rfl⟩, (HT.out.pick [4, 3, 0, 1] rfl).sum2 (fun n ha h0 h1 h2 => by simp only [SU, ha, h0, h1, h2] <;> omega)⟩
end
end Go.Proofs.YtblhfbcodbjgcaaGreat

namespace Go.Proofs.YtblhfbcodbjgcaaGreat
set_option linter.unusedVariables false
set_option linter.unusedSimpArgs false
open Go.RowKit Go.Shelf
def wheel0S : WheelS := wheel0.s
def isShardW (b : Nat) (s : ShardS) (g : List Blk) : Prop := ∃ rb lb wb gr gl gw, isRing rb s.ring gr ∧ isLock lb s.who s.turns gl ∧ isWheel wb wheel0S gw ∧ g = [cl b 220 #[ptr' rb, ptr' lb, ptr' wb]] ++ gr ++ gl ++ gw
theorem totW_0 : totW wheel0 = 0 := by decide
set_option maxRecDepth 100000 in
set_option maxHeartbeats 4000000 in
theorem shardNewW_g : MakesShard isShardW := by
  intro n h1 h2
  intro w hw
  have T0 := TG.refl hw
  have HT := Lib.hid T0
  clear hw T0
  have HWN := Lib.hid (show ∀ (b : Nat) g, isWheelA b wheel0 0 g → isWheel b wheel0S g from fun b g h => ⟨wheel0, rfl, by rw [totW_0]; exact h⟩)
  go_enter Tryz.func83, Tryz.ntmps83
  go_wp2_with fail
  refine (DoesG.use (ringNew_g n h1 h2) (HT.out) [] rfl rfl).mono ?_
  rintro e w1 ⟨gs, ⟨rb, gr, rfl, hgr, rfl⟩, Ta⟩
  simp only [PU] at Ta
  have HT := Lib.hid Ta
  clear Ta
  go_wp2_with fail
  refine (DoesG.use (lockNew_g) (HT.out) [] rfl rfl).mono ?_
  rintro e w1 ⟨gs, ⟨lb, gl, rfl, hgl, rfl⟩, Ta⟩
  simp only [PU] at Ta
  have HT := Lib.hid Ta
  clear Ta
  go_wp2_with fail
  refine (DoesG.use (wheelNew_g) (HT.out) [] rfl rfl).mono ?_
  rintro e w1 ⟨gs, ⟨wb, gw, rfl, hgw, rfl⟩, Ta⟩
  simp only [PU] at Ta
  have HT := Lib.hid Ta
  clear Ta
  go_wp2
  go_ret2
  exact ⟨_, ⟨_, _, rfl, ⟨rb, lb, wb, gr, gl, gw, hgr, hgl, HWN.out _ _ hgw, rfl⟩, rfl⟩, (HT.out.alloc (k := w1.heap.size) rfl 220 #[ptr' rb, ptr' lb, ptr' wb]).sum (fun n ha h0 h1 h2 => by simp only [SU, ha, h0, h1, h2] <;> omega)⟩
theorem shardW_open {b : Nat} {s : ShardS} {g : List Blk} (h : isShardW b s g) : ∃ (q : ShP) (g1 g2 : List Blk), q.b = b ∧ isSh q s g1 ∧ isWheel q.wb wheel0S g2 ∧ g = g1 ++ g2 := by
  obtain ⟨rb, lb, wb, gr, gl, gw, h1, h2, h3, rfl⟩ := h
  exact ⟨⟨b, rb, lb, wb⟩, _, gw, rfl, ⟨gr, gl, h1, h2, rfl⟩, h3, by simp [shardB]⟩
theorem famW_open : ∀ {l : List (Nat × ShardS)} {g : List Blk}, FamP (fun (x : Nat × ShardS) => isShardW x.1 x.2) l g → ∃ (qs : List ShP) (g1 g2 : List Blk), qs.map ShP.b = l.map Prod.fst ∧ FamP (fun (z : ShP × ShardS) => isSh z.1 z.2) (qs.zip (l.map Prod.snd)) g1 ∧
      FamP (fun (z : ShP × WheelS) => isWheel z.1.wb z.2) (qs.zip (List.replicate l.length wheel0S)) g2 ∧ g.Perm (g1 ++ g2)
  | [], _, h => by cases h; exact ⟨[], [], [], rfl, rfl, rfl, List.Perm.refl _⟩
  | a :: l, _, h => by
    obtain ⟨u, v, hu, hv, rfl⟩ := h
    obtain ⟨q, ga, gb, hq, hs, hw, rfl⟩ := shardW_open hu
    obtain ⟨qs, g1, g2, h1, h2, h3, h4⟩ := famW_open hv
    refine ⟨q :: qs, ga ++ g1, gb ++ g2, by simp [hq, h1], ⟨ga, g1, hs, h2, rfl⟩, ⟨gb, g2, hw, h3, rfl⟩, ?_⟩
    refine (List.Perm.append_left _ h4).trans ?_
    classical
    refine List.perm_iff_count.2 fun a => ?_
    simp only [List.count_append]
    omega
def fires (l : List FireS) : List Value := flatV (l.map fun f => f.vals.toArray)
def isLog (lb : Nat) (l : List FireS) (g : List Blk) : Prop := ∃ v gr, rowG 69 4 v l.length (fires l) gr ∧ g = [cl lb 214 #[v]] ++ gr
structure ZF where
  x : CoreS
  ws : List WheelS
  p : PipeS
  lg : List FireS
def isZ (L : Lay) (z : ZF) (g : List Blk) : Prop := ∃ gT gL, isTF L z.x z.ws z.p gT ∧ isLog L.p.lb z.lg gL ∧ g = gT ++ gL
def zf0 (c : Cfg) : ZF := ⟨core0 c, List.replicate c.sh.toNat wheel0S, newPipe c.room.toNat, []⟩
theorem pipe_emptyN {n pb : Nat} {g : List Blk} (h : emptyPipeN n pb g) : isPipe pb (newPipe n) g := by
  obtain ⟨cb, lb, hb, rfl⟩ := h
  exact ⟨cb, lb, hb, 0, 0, [], _, ⟨(by intro a h; cases h), rfl⟩, rfl, by simp [noList, nodesB, nxV, lsV, pipeB, newPipe]⟩
theorem newFull (c : Cfg) (hk : c.ok = true) : DoesG Tryz.prog 16 #[.agg c.cells] [] fun e gs =>
    ∃ L g, e = .returned (.tuple #[ptr' L.fb, .int .i64 0]) ∧ isZ L (zf0 c) g ∧ gs = [g] := by
  refine (floorNew_gP shardNewW_g c hk).post ?_
  rintro e gs ⟨fb, p, shs, gF, gS, gR, gH, gP, gL, he, ha, hlen, hall, rfl⟩
  obtain ⟨qs, g1, g2, h1, h2, h3, h4⟩ := famW_open ha.shards
  have hn : shs.length = c.sh.toNat := by omega
  have hsn : shs.map Prod.snd = List.replicate c.sh.toNat (newShard c.ring.toNat) := by
    rw [List.eq_replicate_iff]
    refine ⟨by simp; omega, fun b hb => ?_⟩
    obtain ⟨a, ha', rfl⟩ := List.mem_map.1 hb
    exact hall a ha'
  have hq : qs.length = c.sh.toNat := by
    have := congrArg List.length h1
    simp only [List.length_map] at this
    omega
  refine ⟨[gF ++ (gS ++ (gR ++ (g1 ++ []))) ++ (g2 ++ gP) ++ gL], ⟨⟨fb, p, qs⟩, _, he, ⟨gF ++ (gS ++ (gR ++ (g1 ++ []))) ++ (g2 ++ gP), gL, ⟨_, g2, gP, ⟨_, gF, gS, gR, g1, [], ha.floor, ha.slab, ?_, ?_, ?_, trG_nil, rfl⟩, ⟨?_, ?_⟩, pipe_emptyN ha.pipeN, rfl⟩, ⟨.slice none 0 0, [], rowG_nil _ _, ?_⟩, rfl⟩, rfl⟩, ?_⟩
  · show rowG _ 1 p.sh (qs.map ShP.b).length ((qs.map ShP.b).map fun b => ptr' b) gR
    have := ha.row
    rw [h1, List.length_map, List.map_map]
    exact this
  · show qs.length = (List.replicate _ _).length
    rw [List.length_replicate]; exact hq
  · show FamP _ (qs.zip (List.replicate _ _)) g1
    rw [← hsn]; exact h2
  · show (List.replicate _ _).length = qs.length
    rw [List.length_replicate]; exact hq.symm
  · show FamP _ (qs.zip (List.replicate _ _)) g2
    rw [← hn]; exact h3
  · rw [ha.log]; simp
  · classical
    refine List.perm_iff_count.2 fun a => ?_
    have := (List.perm_iff_count.1 h4) a
    simp only [List.flatten_cons, List.flatten_nil, List.append_nil, List.count_append] at this ⊢
    omega
end Go.Proofs.YtblhfbcodbjgcaaGreat

namespace Go.Proofs.YtblhfbcodbjgcaaGreat
set_option linter.unusedVariables false
set_option linter.unusedSimpArgs false
open Go.RowKit Go.Shelf
def FitS : SS → ShutS → Prop
  | .nil, _ => True
  | .at none .shuts, k => k.aset = false
  | .at (some .inside) .slots0, k => k.aset = false
  | .at (some .idle) .waits2, _ => True
  | .row1 .ends1, _ => True
  | .thn (.row1 .pshut) .waits, k => k.aset = false
  | .thn (.at none (.looks1 i)) (.slots2 j), k => k.aset = false ∧ i = j ∧ 0 ≤ i ∧ i < 64
  | .thn (.at none (.leaves0 i)) (.slots2 j), k => k.aset = false ∧ i = j ∧ 0 ≤ i ∧ i < 64
  | .thn (.row2 (.release _) .drop) (.slots2 j), k => k.aset = false ∧ 0 ≤ j ∧ j < 64
  | .thn (.row1 .drop) (.slots2 j), k => k.aset = false ∧ 0 ≤ j ∧ j < 64
  | _, _ => False
structure JB (N : Nat) (z : ZS) : Prop where
  core : CoreN N z.x
  cap : z.x.f.cfg.cap = z.x.slab.recs.length
  busy : 0 ≤ z.x.f.busy ∧ z.x.f.busy ≤ N
  saw : 0 ≤ z.k.saw ∧ z.k.saw < 18446744073709551616 ∧ okW z.k.saw = true
  left : z.k.left.length ≤ N
structure JS (N : Nat) (s : SS) (z : ZS) : Prop where
  b : JB N z
  fit : FitS s z.k
theorem JB.mono {N M : Nat} {z : ZS} (h : JB N z) (hm : N ≤ M) : JB M z :=
  ⟨h.core.mono hm, h.cap, by have := h.busy; omega, h.saw, by have := h.left; omega⟩
theorem JB.ok {N : Nat} {z : ZS} (h : JB N z) (hN : N ≤ 1000000) : ShutOk z :=
  ⟨h.core.ok hN, h.cap, by have := h.busy; omega, h.saw, by have := h.left; omega⟩
section
variable {N : Nat} {z : ZS}
theorem noteN {x : CoreS} (h : CoreN N x) (E : EvS) : CoreN (N + 1) { x with tr := x.tr ++ [E] } :=
  ⟨h.slab, h.i0, by have := h.i1; show x.f.inside ≤ _; omega, by have := h.tr; show (x.tr ++ [_]).length ≤ _; rw [List.length_append]; simp; omega, h.sh, h.rings (by omega)⟩
theorem JB.note (h : JB N z) (E : EvS) : JB (N + 1) (z.note E) :=
  ⟨noteN h.core _, h.cap, by have := h.busy; show 0 ≤ z.x.f.busy ∧ z.x.f.busy ≤ _; omega, h.saw, by have := h.left; show z.k.left.length ≤ _; omega⟩
theorem JB.slab (h : JB N z) {s : SlabS} (hs : SlabOk s) (hl : s.recs.length = z.x.slab.recs.length) : JB N { z with x := { z.x with slab := s } } :=
  ⟨core_slab h.core hs, by show z.x.f.cfg.cap = s.recs.length; rw [hl]; exact h.cap, h.busy, h.saw, h.left⟩
theorem actS_n (h : JB N z) (a : AS) : JB (N + 1) (runAS a z) := by
  cases a with
  | ends1 => exact h.note _
  | pshut => exact (⟨h.core, h.cap, h.busy, h.saw, h.left⟩ : JB N { z with p := { z.p with shut := true } }).mono (by omega)
  | release i =>
    obtain ⟨a, b⟩ := try_ok h.core.slab i (z.x.slab.word i) 10
    exact (h.slab a b).mono (by omega)
  | drop =>
    obtain ⟨a, b⟩ := drop_ok h.core.slab
    exact (h.slab a b).mono (by omega)
theorem slotsS_fit {k : ShutS} (h : k.aset = false) {i : Int} (h0 : 0 ≤ i) (hc : z.x.f.cfg.cap ≤ 64) : FitS (slotsS i z) k := by
  unfold slotsS looksS
  split
  · exact h
  · exact ⟨h, rfl, h0, by omega⟩
theorem JB.c64 (h : JB N z) : z.x.f.cfg.cap ≤ 64 := by have := h.cap; have := h.core.slab.n1; omega
theorem JS.pre {s : SS} (h : JS N s z) (hN : N < 1000000) : preSS s z := by
  obtain ⟨hb, hf⟩ := h
  have ho := hb.ok (by omega)
  have ha := fun a => (actS_n hb a).ok (by omega)
  match s, hf with
  | .nil, _ => trivial
  | .at none .shuts, hf => exact ⟨ho, trivial⟩
  | .at (some .inside) .slots0, _ => exact ⟨ho, trivial⟩
  | .at (some .idle) .waits2, _ => exact ⟨ho, trivial⟩
  | .row1 .ends1, _ => exact ho
  | .thn (.row1 .pshut) .waits, _ => exact ⟨ho, fun _ => ⟨ha .pshut, trivial⟩⟩
  | .thn (.at none (.looks1 i)) (.slots2 j), hf =>
    obtain ⟨h1, rfl, h3, h4⟩ := hf
    refine ⟨⟨ho, h3, by omega⟩, fun _ => ?_⟩
    have e : (St.run runS runAS (.at none (.looks1 i)) z).2 = wordZ i z := by
      show (runS (.looks1 i) z).2 = _
      dsimp only [runS]
      split <;> rfl
    rw [e]
    exact ⟨⟨ho.core, ho.cap, ho.busy, word_bd ho.core.slab i, ho.left⟩, h3, by omega⟩
  | .thn (.at none (.leaves0 i)) (.slots2 j), hf =>
    obtain ⟨h1, rfl, h3, h4⟩ := hf
    refine ⟨⟨ho, ⟨h3, by omega⟩, h1⟩, fun hn => ?_⟩
    have : (St.run runS runAS (.at none (.leaves0 i)) z).1.isNil = true := hn
    change (runS (.leaves0 i) z).1.isNil = true at this
    dsimp only [runS] at this
    split at this <;> cases this
  | .thn (.row2 (.release i) .drop) (.slots2 j), hf => exact ⟨ho, fun h => by cases h⟩
  | .thn (.row1 .drop) (.slots2 j), hf => exact ⟨ho, fun _ => ⟨ha .drop, hf.2.1, by have := hf.2.2; omega⟩⟩
theorem JS.step {s : SS} (h : JS N s z) : JS (N + 1) (stepS s z).1 (stepS s z).2 := by
  obtain ⟨hb, hf⟩ := h
  have ha := fun a => actS_n hb a
  have hc := hb.c64
  match s, hf with
  | .nil, _ => exact ⟨hb.mono (by omega), trivial⟩
  | .at none .shuts, hf =>
    show JS (N + 1) (runS .shuts z).1 (runS .shuts z).2
    dsimp only [runS]
    split
    · have := hb.note { ev0 with kind := 9, err := 3 }
      exact ⟨⟨this.core, this.cap, this.busy, this.saw, this.left⟩, trivial⟩
    · exact ⟨JB.note (z := { z with x := { z.x with f := { z.x.f with closed := true } } }) ⟨⟨hb.core.slab, hb.core.i0, hb.core.i1, hb.core.tr, hb.core.sh, hb.core.ring⟩, hb.cap, hb.busy, hb.saw, hb.left⟩ _, hf⟩
  | .at (some .inside) .slots0, hf => exact ⟨hb.mono (by omega), slotsS_fit hf (by decide) hc⟩
  | .at (some .idle) .waits2, _ =>
    have := hb.note { ev0 with kind := 13 }
    exact ⟨⟨this.core, this.cap, this.busy, this.saw, this.left⟩, trivial⟩
  | .row1 .ends1, _ => exact ⟨ha .ends1, trivial⟩
  | .thn (.row1 .pshut) .waits, _ => exact ⟨ha .pshut, trivial⟩
  | .thn (.at none (.looks1 i)) (.slots2 j), hf =>
    obtain ⟨h1, rfl, h3, h4⟩ := hf
    have hw : JB N (wordZ i z) := ⟨hb.core, hb.cap, hb.busy, word_bd hb.core.slab i, hb.left⟩
    show JS (N + 1) (thenSt runS (runS (.looks1 i) z).1 (.slots2 i) (runS (.looks1 i) z).2).1 (thenSt runS (runS (.looks1 i) z).1 (.slots2 i) (runS (.looks1 i) z).2).2
    dsimp only [runS]
    split
    · exact ⟨hw.mono (by omega), h1, rfl, h3, h4⟩
    · exact ⟨hw.mono (by omega), slotsS_fit (z := wordZ i z) (k := (wordZ i z).k) (i := i + 1) h1 (by omega) hc⟩
  | .thn (.at none (.leaves0 i)) (.slots2 j), hf =>
    obtain ⟨h1, rfl, h3, h4⟩ := hf
    obtain ⟨a, b⟩ := try_ok hb.core.slab i z.k.saw 6
    have hs := hb.slab a b
    show JS (N + 1) (thenSt runS (runS (.leaves0 i) z).1 (.slots2 i) (runS (.leaves0 i) z).2).1 (thenSt runS (runS (.leaves0 i) z).1 (.slots2 i) (runS (.leaves0 i) z).2).2
    dsimp only [runS]
    split
    · exact ⟨hs.mono (by omega), h1, rfl, h3, h4⟩
    · have hn := noteN hs.core (evS { z.k with left := z.k.left ++ [(numV (z.x.slab.try i z.k.saw 6).1 i).1] } { ev0 with kind := 12, id := (numV (z.x.slab.try i z.k.saw 6).1 i).1, gen := genW (z.x.slab.try i z.k.saw 6).2.1 })
      refine ⟨⟨hn, hs.cap, ?_, hs.saw, ?_⟩, h1, h3, h4⟩
      · have := hb.busy; exact ⟨this.1, by show z.x.f.busy ≤ _; omega⟩
      · have := hb.left; show (z.k.left ++ [_]).length ≤ _; rw [List.length_append]; simp; omega
  | .thn (.row2 (.release i) .drop) (.slots2 j), hf => exact ⟨ha (.release i), hf⟩
  | .thn (.row1 .drop) (.slots2 j), hf => exact ⟨ha .drop, slotsS_fit (z := runAS .drop z) (i := j + 1) hf.1 (by have := hf.2.1; omega) hc⟩
end
def itS : Nat → SS → ZS → SS × ZS
  | 0, s, z => (s, z)
  | n + 1, s, z => itS n (stepS s z).1 (stepS s z).2
theorem JS.it : ∀ (n : Nat) {N : Nat} {s : SS} {z : ZS}, JS N s z → JS (N + n) (itS n s z).1 (itS n s z).2
  | 0, _, _, _, h => h
  | n + 1, N, s, z, h => by
    have := JS.it n h.step
    rwa [show N + 1 + n = N + (n + 1) by omega] at this
end Go.Proofs.YtblhfbcodbjgcaaGreat

namespace Go.Proofs.YtblhfbcodbjgcaaGreat
set_option linter.unusedVariables false
set_option linter.unusedSimpArgs false
open Go.RowKit Go.Shelf
def WEnt (P : EntS → Prop) (w : WheelS) : Prop := (∀ l ∈ w.lv, ∀ s ∈ l, ∀ e ∈ s, P e) ∧ ∀ e ∈ w.by_, P e
section
variable {P : EntS → Prop} {w : WheelS}
theorem mem_modify {α : Type} {f : α → α} {b : α} : ∀ {l : List α} {k : Nat}, b ∈ l.modify k f → b ∈ l ∨ ∃ a ∈ l, b = f a := by
  intro l k hb
  obtain ⟨i, hi⟩ := List.getElem?_of_mem hb
  rw [List.getElem?_modify] at hi
  cases ha : l[i]? with
  | none => rw [ha] at hi; simp at hi
  | some a =>
    rw [ha] at hi
    have hm := List.mem_of_getElem? ha
    by_cases hk : k = i
    · simp [hk] at hi; exact .inr ⟨a, hm, hi.symm⟩
    · simp [hk] at hi; exact .inl (hi ▸ hm)
theorem WEnt.place (h : WEnt P w) {e : EntS} (he : P e) : WEnt P (w.place e) := by
  unfold WheelS.place
  split
  · refine ⟨h.1, fun x hx => ?_⟩
    rcases List.mem_append.1 hx with hx | hx
    · exact h.2 x hx
    · rw [List.mem_singleton.1 hx]; exact he
  · refine ⟨fun l hl s hs x hx => ?_, h.2⟩
    rcases mem_modify hl with hl | ⟨l0, hl0, rfl⟩
    · exact h.1 l hl s hs x hx
    · rcases mem_modify hs with hs | ⟨s0, hs0, rfl⟩
      · exact h.1 l0 hl0 s hs x hx
      · rcases List.mem_append.1 hx with hx | hx
        · exact h.1 l0 hl0 s0 hs0 x hx
        · rw [List.mem_singleton.1 hx]; exact he
theorem WEnt.placeL : ∀ (l : List EntS) {w : WheelS}, WEnt P w → (∀ e ∈ l, P e) → WEnt P (w.placeL l)
  | [], _, h, _ => h
  | a :: l, w, h, hl => by
    show WEnt P ((w.place a).placeL l)
    exact WEnt.placeL l (h.place (hl a List.mem_cons_self)) fun e he => hl e (List.mem_cons_of_mem _ he)
theorem WEnt.slot (h : WEnt P w) (l k : Nat) : ∀ e ∈ w.slot l k, P e := by
  intro e he
  unfold WheelS.slot at he
  rw [List.getD_eq_getElem?_getD] at he
  cases h1 : (w.lv.getD l [])[k]? with
  | none => rw [h1] at he; cases he
  | some s =>
    rw [h1] at he
    have hs := List.mem_of_getElem? h1
    rw [List.getD_eq_getElem?_getD] at hs
    cases h2 : w.lv[l]? with
    | none => rw [h2] at hs; cases hs
    | some x => rw [h2] at hs; exact h.1 x (List.mem_of_getElem? h2) s hs e he
theorem WEnt.clear (h : WEnt P w) (l k : Nat) : WEnt P (w.clear l k) := by
  refine ⟨fun x hx s hs e he => ?_, h.2⟩
  rcases mem_modify hx with hx | ⟨l0, hl0, rfl⟩
  · exact h.1 x hx s hs e he
  · rcases List.mem_or_eq_of_mem_set hs with hs | rfl
    · exact h.1 l0 hl0 s hs e he
    · cases he
theorem WEnt.again (h : WEnt P w) (l : Nat) : WEnt P (w.again l) := WEnt.placeL _ (h.clear _ _) (h.slot _ _)
theorem WEnt.down : ∀ (n : Nat) {w : WheelS}, WEnt P w → WEnt P (w.down n)
  | 0, _, h => h
  | n + 1, _, h => WEnt.down n (h.again _)
theorem WEnt.adv (h : WEnt P w) : WEnt P w.adv.1 ∧ ∀ e ∈ w.adv.2, P e := by
  have h1 := WEnt.down (min (zerosT (w.now + 1)) 3) (show WEnt P { w with now := w.now + 1 } from h)
  exact ⟨h1.clear _ _, h1.slot _ _⟩
end
structure WheelN (N : Nat) (S : WheelS) : Prop where
  sh : S.Sh
  now : S.now ≤ N
  tot : totS S ≤ N
  ent : WEnt (fun e => TaskOk e.v) S
theorem WheelN.ok {N : Nat} {S : WheelS} (h : WheelN N S) (hN : N < 1000000) : WheelOk S := ⟨h.sh, by have := h.now; omega, by have := h.tot; omega⟩
theorem WheelN.mono {N M : Nat} {S : WheelS} (h : WheelN N S) (hm : N ≤ M) : WheelN M S := ⟨h.sh, by have := h.now; omega, by have := h.tot; omega, h.ent⟩
structure RestN (N : Nat) (x : CoreS) (ws : List WheelS) (p : PipeS) : Prop where
  now : 0 ≤ x.f.now ∧ x.f.now ≤ N
  busy : 0 ≤ x.f.busy ∧ x.f.busy ≤ N
  cap : x.f.cfg.cap = x.slab.recs.length
  wl : ws.length = x.shs.length
  wok : ∀ w ∈ ws, WheelN N w
  task : ∀ s ∈ x.shs, ∀ e ∈ s.ring.slots, TaskOk e.v
  turns : ∀ s ∈ x.shs, 0 ≤ s.turns ∧ s.turns ≤ N
  ch : p.ch.length ≤ p.room
  sp : p.sp.length ≤ N
structure ZN (N : Nat) (z : ZF) : Prop where
  core : CoreN N z.x
  rest : RestN N z.x z.ws z.p
  lg : z.lg.length ≤ N
theorem RestN.mono {N M : Nat} {x : CoreS} {ws : List WheelS} {p : PipeS} (h : RestN N x ws p) (hm : N ≤ M) : RestN M x ws p :=
  ⟨by have := h.now; omega, by have := h.busy; omega, h.cap, h.wl, fun w hw => (h.wok w hw).mono hm, h.task, fun s hs => by have := h.turns s hs; omega, h.ch, by have := h.sp; omega⟩
theorem ZN.mono {N M : Nat} {z : ZF} (h : ZN N z) (hm : N ≤ M) : ZN M z := ⟨h.core.mono hm, h.rest.mono hm, by have := h.lg; omega⟩
end Go.Proofs.YtblhfbcodbjgcaaGreat

namespace Go.Proofs.YtblhfbcodbjgcaaGreat
set_option linter.unusedVariables false
set_option linter.unusedSimpArgs false
open Go.RowKit Go.Shelf
set_option maxRecDepth 100000 in
theorem turnBegin_none (th no : Int) : DoesG Tryz.prog 29 #[.pointer none, .int .i64 th, .int .i64 no] [] fun e gs => e = .returned (.tuple #[.pointer none, .int .i64 6]) ∧ gs = [] := by
  intro w hw
  have T0 := TG.refl hw
  have HT := Lib.hid T0
  clear hw T0
  go_enter Tryz.func29, Tryz.ntmps29
  go_wp2
  go_ret2
  exact ⟨_, ⟨rfl, rfl⟩, HT.out⟩
set_option maxRecDepth 100000 in
theorem turnBegin_bad {L : Lay} (th no : Int) (h : th < 0) : DoesG Tryz.prog 29 #[ptr' L.fb, .int .i64 th, .int .i64 no] [] fun e gs => e = .returned (.tuple #[.pointer none, .int .i64 1]) ∧ gs = [] := by
  intro w hw
  have T0 := TG.refl hw
  have HT := Lib.hid T0
  clear hw T0
  go_enter Tryz.func29, Tryz.ntmps29
  go_wp2
  go_ret2
  exact ⟨_, ⟨rfl, rfl⟩, HT.out⟩
theorem turnMay_nil : ReadsG Tryz.prog 30 #[.pointer none] [] (.bool false) := by
  intro w hw
  clear hw
  go_enter Tryz.func30, Tryz.ntmps30
  go_wp2
  go_ret
  exact ⟨rfl, 0, rfl⟩
theorem turnStep_nil : ReadsG Tryz.prog 31 #[.pointer none] [] (.bool false) := by
  intro w hw
  clear hw
  go_enter Tryz.func31, Tryz.ntmps31
  go_wp2
  go_ret
  exact ⟨rfl, 0, rfl⟩
theorem turnDone_nil : ReadsG Tryz.prog 32 #[.pointer none] [] (.bool true) := by
  intro w hw
  clear hw
  go_enter Tryz.func32, Tryz.ntmps32
  go_wp2
  go_ret
  exact ⟨rfl, 0, rfl⟩
set_option maxRecDepth 100000 in
theorem turnAnswer_nil : DoesG Tryz.prog 28 #[.pointer none] [] fun e gs => e = .returned (.tuple #[.agg (ansS 0 false (.slice none 0 0)), .int .i64 6]) ∧ gs = [] := by
  intro w hw
  have T0 := TG.refl hw
  have HT := Lib.hid T0
  clear hw T0
  go_enter Tryz.func28, Tryz.ntmps28
  go_wp2
  exact bodyPost_ret (v := .tuple #[.agg (ansS 0 false (.slice none 0 0)), .int .i64 6]) (by simp [results, Tryz.results28, go_sem, ansS]) rfl ⟨_, ⟨rfl, rfl⟩, HT.out.alloc0 _⟩
end Go.Proofs.YtblhfbcodbjgcaaGreat
