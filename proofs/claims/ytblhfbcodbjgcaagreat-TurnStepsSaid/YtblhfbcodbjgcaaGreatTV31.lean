import Derived.Test.YtblhfbcodbjgcaaGreatTV30
import Derived.Deep.RegionHeld3
import Derived.Test.YtblhfbcodbjgcaaGreatTV23
namespace Go.Proofs.YtblhfbcodbjgcaaGreat
set_option linter.unusedVariables false
set_option linter.unusedSimpArgs false
open Go.RowKit Go.Shelf
section
variable {L : Lay} {x : CoreS} {ws : List WheelS} {p : PipeS} {e : ET} {g gC gK gF : List Blk} {kb : Nat} {pv sv : Value} {k : TurnS}
set_option maxRecDepth 100000 in
set_option maxHeartbeats 4000000 in
theorem tClaims (hz : repT L kb pv e ⟨k, x, ws, p⟩ gK gF) (hp : preT .claims ⟨k, x, ws, p⟩) :
    DoesG Tryz.prog 310 #[ptr' kb] [gK, gF] (MRT L kb pv e (runT .claims ⟨k, x, ws, p⟩).1 (runT .claims ⟨k, x, ws, p⟩).2) := by
  obtain ⟨ho, _⟩ := hp
  have HO := Lib.hid ho.core
  have HSW := Lib.hid (show 0 ≤ k.saw ∧ k.saw < 18446744073709551616 from ⟨ho.saw.1, ho.saw.2.1⟩)
  have HTR := Lib.hid (show x.tr.length ≤ 1000000 from ho.core.tr)
  clear ho
  cases hc : ((x.slab.try k.t.slot k.saw 4).2.2 == 0) with
  | false =>
    rw [show runT .claims ⟨k, x, ws, p⟩ = (.at none .looks, ⟨k, { x with slab := (x.slab.try k.t.slot k.saw 4).1 }, ws, p⟩) by simp [runT, tryTu, hc]]
    unfold MRT
    obtain ⟨gd, gC, gW, gP, hd, hx, hw, hpp, rfl, rfl⟩ := hz
    intro w hw
    have T0 := TG.refl hw
    have HT := Lib.hid T0
    clear hw T0
    have HT := Lib.hid (HT.out.sum (H' := [turnB kb L.fb pv (sVal L k) k, gd, e.1, gC, gW, gP]) (fun n ha h0 h1 h2 => by simp only [SU, ha, h0, h1, h2] <;> omega))
    have HX := Lib.hid hx
    have HD := Lib.hid hd
    have HW := Lib.hid hw
    have HPP := Lib.hid hpp
    clear hx hd hw hpp
    have hlk := turnTry (kb := kb) (pv := pv) (sv := sVal L k) HX.out HO.out HSW.out 4
    rw [hc] at hlk
    have HLK := Lib.hid hlk
    clear hlk hc
    generalize (x.slab.try k.t.slot k.saw 4).1 = sl at *
    go_enter Tryz.func310, Tryz.ntmps310
    go_wp2_with fail
    refine (DoesG.use (HLK.out) ((HT.out.alloc (k := w.heap.size) rfl 56 #[ptr' kb]).alloc (k := w.heap.size + 1) (by simp) 148 #[.nilFunc, .nilFunc]) [0, 3] rfl rfl).mono ?_
    rintro e w1 ⟨gs, ⟨rfl, g1, hx1, rfl⟩, Ta⟩
    simp only [PU] at Ta
    have HX := Lib.hid hx1
    clear hx1
    have HT := Lib.hid Ta
    clear Ta
    have b0 := HT.out.cell 6 0 rfl 0
    simp only [List.getElem?_nil, List.getElem?_toArray, List.getElem?_cons_zero, List.getElem?_cons_succ] at b0
    go_wp2_with fail
    refine (DoesG.use (at_g _ _ _) (HT.out) [] rfl rfl).mono ?_
    rintro e w1 ⟨gs, ⟨rfl, rfl⟩, Ta⟩
    simp only [PU] at Ta
    have HT := Lib.hid Ta
    clear Ta
    have r0 := HT.out.cell 7 0 rfl 0
    have fr0 := HT.out.free 7 0 rfl 0
    have r1 := HT.out.cell 7 0 rfl 1
    have fr1 := HT.out.free 7 0 rfl 1
    simp only [List.getElem?_nil, List.getElem?_toArray, List.getElem?_cons_zero, List.getElem?_cons_succ] at r0 r1
    go_wp2
    exact bodyPost_ret (v := .agg #[_, _]) (by simp [results, Tryz.results310, go_sem, r0, r1]) rfl ⟨_, ⟨e, leT.refl e, _, _, [], _, _, rfl, ⟨rfl, rfl, rfl⟩, ⟨gd, _, _, gP, HD.out, HX.out, HW.out, HPP.out, (rfl : turnB kb L.fb pv (sVal L k) k ++ (gd ++ e.1) = _), rfl⟩, rfl⟩, (((HT.out.set 7 0 rfl 0 _).set 7 0 rfl 1 _).pick [0, 1, 2, 3, 4, 5] rfl).sum2 (fun n ha h0 h1 h2 => by simp only [SU, ha, h0, h1, h2] <;> omega)⟩
  | true =>
    rw [show runT .claims ⟨k, x, ws, p⟩ = (.thn (.row1 (.put ⟨k.t.id, k.t.gen, k.t.dl, k.now⟩)) .claims2, ⟨k, { x with slab := (x.slab.try k.t.slot k.saw 4).1, tr := x.tr ++ [evT k { ev0 with kind := 5, id := k.t.id, gen := k.t.gen, dl := k.t.dl, tick := k.now }] }, ws, p⟩) from if_pos hc]
    have HNT := Lib.hid (show ∀ g, isCore L { x with slab := (x.slab.try k.t.slot k.saw 4).1 } g → _ from fun g hg => turnNote (kb := kb) (pv := pv) (sv := sVal L k) (k := k) (gC := g) hg { ev0 with kind := 5, id := k.t.id, gen := k.t.gen, dl := k.t.dl, tick := k.now } HTR.out)
    unfold MRT
    obtain ⟨gd, gC, gW, gP, hd, hx, hw, hpp, rfl, rfl⟩ := hz
    intro w hw
    have T0 := TG.refl hw
    have HT := Lib.hid T0
    clear hw T0
    have HT := Lib.hid (HT.out.sum (H' := [turnB kb L.fb pv (sVal L k) k, gd, e.1, gC, gW, gP]) (fun n ha h0 h1 h2 => by simp only [SU, ha, h0, h1, h2] <;> omega))
    have HX := Lib.hid hx
    have HD := Lib.hid hd
    have HW := Lib.hid hw
    have HPP := Lib.hid hpp
    clear hx hd hw hpp
    have hlk := turnTry (kb := kb) (pv := pv) (sv := sVal L k) HX.out HO.out HSW.out 4
    rw [hc] at hlk
    have HLK := Lib.hid hlk
    clear hlk hc
    generalize (x.slab.try k.t.slot k.saw 4).1 = sl at *
    go_enter Tryz.func310, Tryz.ntmps310
    go_wp2_with fail
    refine (DoesG.use (HLK.out) ((HT.out.alloc (k := w.heap.size) rfl 56 #[ptr' kb]).alloc (k := w.heap.size + 1) (by simp) 148 #[.nilFunc, .nilFunc]) [0, 3] rfl rfl).mono ?_
    rintro e w1 ⟨gs, ⟨rfl, g1, hx1, rfl⟩, Ta⟩
    simp only [PU] at Ta
    have HX := Lib.hid hx1
    clear hx1
    have HT := Lib.hid Ta
    clear Ta
    have b0 := HT.out.cell 6 0 rfl 0
    simp only [List.getElem?_nil, List.getElem?_toArray, List.getElem?_cons_zero, List.getElem?_cons_succ] at b0
    have k9 := HT.out.cell 0 0 rfl 9
    have k11 := HT.out.cell 0 0 rfl 11
    have k13 := HT.out.cell 0 0 rfl 13
    have k14 := HT.out.cell 0 0 rfl 14
    simp only [turnC, List.getElem?_toArray, List.getElem?_cons_zero, List.getElem?_cons_succ] at k9 k11 k13 k14
    have ltb := HT.out.lt 6 0 rfl
    have ltk := HT.out.lt 0 0 rfl
    simp only [] at ltb ltk
    obtain ⟨wz, rfl⟩ : ∃ wz, wz = w1 := ⟨_, rfl⟩
    go_wp2_with fail
    clear HO HSW HTR
    generalize w.heap.size = bb at *
    have hnt := HNT.out _ HX.out
    simp only [EvS.cells, ev0] at hnt
    have HNT := Lib.hid hnt
    clear hnt
    go_region_held3 (fun w' => w'.cell? ⟨bb, 0, none⟩ = some (ptr' kb) ∧ w'.cell? ⟨kb, 9, none⟩ = some (.int .u64 k.now) ∧ w'.cell? ⟨kb, 11, none⟩ = some (.int .u64 k.t.id) ∧ w'.cell? ⟨kb, 13, none⟩ = some (.int .u64 k.t.gen) ∧ w'.cell? ⟨kb, 14, none⟩ = some (.int .u64 k.t.dl))
      (first
      | exact ⟨b0, k9, k11, k13, k14⟩
      | exact ⟨(HT.out.drew.alloc (k := wz.heap.size) rfl 69 #[.int .u64 0, .int .u64 0, .int .u64 0, .int .u64 0]).cell 6 0 rfl 0, (HT.out.drew.alloc (k := wz.heap.size) rfl 69 #[.int .u64 0, .int .u64 0, .int .u64 0, .int .u64 0]).cell 0 0 rfl 9, (HT.out.drew.alloc (k := wz.heap.size) rfl 69 #[.int .u64 0, .int .u64 0, .int .u64 0, .int .u64 0]).cell 0 0 rfl 11, (HT.out.drew.alloc (k := wz.heap.size) rfl 69 #[.int .u64 0, .int .u64 0, .int .u64 0, .int .u64 0]).cell 0 0 rfl 13, (HT.out.drew.alloc (k := wz.heap.size) rfl 69 #[.int .u64 0, .int .u64 0, .int .u64 0, .int .u64 0]).cell 0 0 rfl 14⟩
      | (refine ⟨?_, ?_, ?_, ?_, ?_⟩ <;> simp [go_sem, b0, k9, k11, k13, k14, ltb, ltk, Nat.ne_of_lt ltb, Nat.ne_of_lt ltk, Nat.ne_of_gt ltb, Nat.ne_of_gt ltk]))
      (fail)
    have HT := Lib.hid (HT.out.alloc (k := wz.heap.size) rfl 69 #[.int .u64 k.t.id, .int .u64 k.t.gen, .int .u64 k.t.dl, .int .u64 k.now]).drew
    generalize World.drew (World.alloc wz _) = w2 at HT ⊢
    generalize wz.heap.size = fb at HT ⊢
    clear b0 k9 k11 k13 k14 ltb ltk
    have b0 := HT.out.cell 6 0 rfl 0
    simp only [List.getElem?_nil, List.getElem?_toArray, List.getElem?_cons_zero, List.getElem?_cons_succ] at b0
    have f0 := HT.out.cell 8 0 rfl 0
    have f1 := HT.out.cell 8 0 rfl 1
    have f2 := HT.out.cell 8 0 rfl 2
    have f3 := HT.out.cell 8 0 rfl 3
    simp only [List.getElem?_nil, List.getElem?_toArray, List.getElem?_cons_zero, List.getElem?_cons_succ] at f0 f1 f2 f3
    go_wp2_with fail
    refine (DoesG.use (HNT.out) (HT.out) [0, 3] rfl rfl).mono ?_
    rintro e w1 ⟨gs, ⟨rfl, g2, hx2, rfl⟩, Ta⟩
    simp only [PU] at Ta
    have HX := Lib.hid hx2
    clear hx2 b0 f0 f1 f2 f3
    have HT := Lib.hid Ta
    clear Ta
    obtain ⟨wy, rfl⟩ : ∃ wy, wy = w1 := ⟨_, rfl⟩
    go_wp2_with fail
    refine (DoesG.use (Cli.row_1 (b := wy.heap.size) (o := 0) (D := #[.func (.func 322) #[] #[ptr' bb, ptr' fb]]) rfl 1 (.inl rfl)) (HT.out.alloc (k := wy.heap.size) rfl _ _) [9] rfl rfl).mono ?_
    rintro e w1 ⟨gs, ⟨bf, bl, bi, rfl, rfl⟩, Ta⟩
    simp only [PU] at Ta
    have HT := Lib.hid Ta
    clear Ta
    generalize wy.heap.size = sb at *
    have hsv : (cliT L kb pv).SV (e.1 ++ [cl bb 56 #[ptr' kb], cl fb 69 #[.int .u64 k.t.id, .int .u64 k.t.gen, .int .u64 k.t.dl, .int .u64 k.now]], e.2) (.row1 (.put ⟨k.t.id, k.t.gen, k.t.dl, k.now⟩)) .nilFunc (.func (.func 188) #[] #[ptr' bf, ptr' bl, ptr' bi]) ([cl bf 1 #[.func (.func 322) #[] #[ptr' bb, ptr' fb]], cl bl 303 #[.slice (some ⟨sb, 0, none⟩) 1 1], cl bi 3 #[.int .i64 0], cl sb 1 #[.func (.func 322) #[] #[ptr' bb, ptr' fb]]] ++ []) :=
      ⟨rfl, bf, bl, bi, sb, 0, _, _, _, rfl, ⟨rfl, bb, fb, rfl, List.mem_append_right _ (List.mem_cons_self ..), List.mem_append_right _ (List.mem_cons_of_mem _ (List.mem_cons_self ..))⟩, rfl, rfl⟩
    have HSV := Lib.hid hsv
    clear hsv
    go_wp2_with fail
    refine (DoesG.use (Cli.prog_then_x (c := (cliT L kb pv).on (e.1 ++ [cl bb 56 #[ptr' kb], cl fb 69 #[.int .u64 k.t.id, .int .u64 k.t.gen, .int .u64 k.t.dl, .int .u64 k.now]], e.2)) (f := MT.claims2) (v := .func (.func 324) #[] #[ptr' bb]) (gm := []) (cliT_vals L kb pv _) rfl HSV.out ⟨rfl, bb, rfl, List.mem_append_right _ (List.mem_cons_self ..)⟩) (HT.out.sum2 (H' := [turnB kb L.fb pv (sVal L k) k, gd, e.1, g2, gW, gP, [cl bb 56 #[ptr' kb]], [cl (bb + 1) 148 #[.nilFunc, .nilFunc]], [cl fb 69 #[.int .u64 k.t.id, .int .u64 k.t.gen, .int .u64 k.t.dl, .int .u64 k.now]], [cl bf 1 #[.func (.func 322) #[] #[ptr' bb, ptr' fb]], cl bl 303 #[.slice (some ⟨sb, 0, none⟩) 1 1], cl bi 3 #[.int .i64 0], cl sb 1 #[.func (.func 322) #[] #[ptr' bb, ptr' fb]]] ++ [], []]) (fun n ha h0 h1 h2 => by simp only [SU, ha, h0, h1, h2] <;> omega)) [9, 10] rfl rfl).mono ?_
    rintro e w1 ⟨gs, ⟨bs, br, rfl, rfl⟩, Ta⟩
    simp only [PU] at Ta
    have HT := Lib.hid Ta
    clear Ta
    have r0 := HT.out.cell 7 0 rfl 0
    have fr0 := HT.out.free 7 0 rfl 0
    have r1 := HT.out.cell 7 0 rfl 1
    have fr1 := HT.out.free 7 0 rfl 1
    simp only [List.getElem?_nil, List.getElem?_toArray, List.getElem?_cons_zero, List.getElem?_cons_succ] at r0 r1
    go_wp2
    exact bodyPost_ret (v := .agg #[_, _]) (by simp [results, Tryz.results310, go_sem, r0, r1]) rfl ⟨_, ⟨(e.1 ++ [cl bb 56 #[ptr' kb], cl fb 69 #[.int .u64 k.t.id, .int .u64 k.t.gen, .int .u64 k.t.dl, .int .u64 k.now]], e.2), leT.app e _, _, _, _, _, _, rfl, ⟨bs, br, _, _, _, [], rfl, rfl, HSV.out, ⟨rfl, bb, rfl, List.mem_append_right _ (List.mem_cons_self ..)⟩, rfl⟩, ⟨gd, _, _, gP, HD.out, HX.out, HW.out, HPP.out, (rfl : turnB kb L.fb pv (sVal L k) k ++ (gd ++ (e.1 ++ [cl bb 56 #[ptr' kb], cl fb 69 #[.int .u64 k.t.id, .int .u64 k.t.gen, .int .u64 k.t.dl, .int .u64 k.now]])) = _), rfl⟩, rfl⟩, (((HT.out.set 7 0 rfl 0 _).set 7 0 rfl 1 _).pick [9, 0, 1, 2, 6, 8, 3, 4, 5] rfl).sum2 (fun n ha h0 h1 h2 => by simp only [SU, ha, h0, h1, h2] <;> omega)⟩
end
end Go.Proofs.YtblhfbcodbjgcaaGreat

namespace Go.Proofs.YtblhfbcodbjgcaaGreat
set_option linter.unusedVariables false
set_option linter.unusedSimpArgs false
open Go.RowKit Go.Shelf
section
variable {L : Lay} {x : CoreS} {ws : List WheelS} {p : PipeS} {e : ET} {g gC gK gF : List Blk} {kb : Nat} {pv sv : Value} {k : TurnS}
theorem MRT.of {s : ST} {z : ZT} {en : Ending} {gs : GH} (h : ∃ e', leT e e' ∧ ∃ m d g' gK' gF', en = .returned (.agg #[m, d]) ∧ (cliT L kb pv).SV e' s m d g' ∧ repT L kb pv e' z gK' gF' ∧ gs = [g', gK', gF']) : MRT L kb pv e s z en gs := h
theorem times_add_any (a b : Int) (ha : 0 ≤ a ∧ a < 18446744073709551616) (hb : 0 ≤ b ∧ b < 18446744073709551616) :
    ∃ nx er : Int, ReadsG Tryz.prog 132 #[.int .u64 a, .int .u64 b] [] (.tuple #[.int .u64 nx, .int .i64 er]) ∧ (er = 0 ↔ a + b < 18446744073709551616) ∧ (a + b < 18446744073709551616 → nx = a + b) := by
  by_cases h : a + b < 18446744073709551616
  · exact ⟨a + b, 0, times_add_r a b ha.1 hb.1 h, ⟨fun _ => h, fun _ => rfl⟩, fun _ => rfl⟩
  · exact ⟨0, 9, times_over_r a b ha.1 hb.1 ha.2 hb.2 (by omega), ⟨fun h' => by omega, fun h' => absurd h' h⟩, fun h' => absurd h' h⟩
set_option maxRecDepth 100000 in
set_option maxHeartbeats 4000000 in
theorem tBehind (hz : repT L kb pv e ⟨k, x, ws, p⟩ gK gF) (hp : preT .behind ⟨k, x, ws, p⟩) :
    DoesG Tryz.prog 325 #[ptr' kb] [gK, gF] (MRT L kb pv e (runT .behind ⟨k, x, ws, p⟩).1 (runT .behind ⟨k, x, ws, p⟩).2) := by
  obtain ⟨ho, _⟩ := hp
  have hcore : CoreOk x := ho.core
  have HWD := Lib.hid (show ∀ g', isCore L x g' → _ from fun g' hx' => coreWord (g := g') hx' hcore.slab.n1 k.t.slot)
  have HWB := Lib.hid (word_bd hcore.slab k.t.slot)
  obtain ⟨nx, er, had, her, hnx⟩ := times_add_any k.t.dl k.t.per ho.t.dl ho.t.per
  have HPE := Lib.hid (show 0 ≤ k.t.per ∧ k.t.per < 18446744073709551616 from ho.t.per)
  clear ho hcore
  simp only [runT]
  obtain ⟨wd, hwd⟩ : ∃ wd, wd = x.slab.word k.t.slot := ⟨_, rfl⟩
  rw [← hwd] at HWB HWD ⊢
  have HSW := Lib.hid (stateR wd HWB.out.1 HWB.out.2.1)
  have HGW := Lib.hid (genR wd HWB.out.1 HWB.out.2.1)
  have HLS := Lib.hid (lastR wd HWB.out.1 HWB.out.2.1)
  have HAD := Lib.hid had
  have HER := Lib.hid her
  have HNX := Lib.hid hnx
  generalize stW wd = sw at *
  generalize genW wd = gw at *
  generalize lastW wd = lw at *
  clear hwd HWB had her hnx
  obtain ⟨R, hR⟩ : ∃ R : ST × ZT, R = (if sw ≠ 4 ∨ gw ≠ k.t.gen then (.nil, ⟨{ k with saw := wd }, x, ws, p⟩) else if 0 < k.t.per ∧ lw = false ∧ k.t.dl + k.t.per < 18446744073709551616 then (.at none (.rearm1 (k.t.dl + k.t.per)), ⟨{ k with saw := wd }, x, ws, p⟩) else (.at none .finishes, ⟨{ k with saw := wd }, x, ws, p⟩)) := ⟨_, rfl⟩
  rw [← hR]
  have HR := Lib.hid hR
  clear hR
  obtain ⟨gd, gC, gW, gP, hd, hx, hw, hpp, rfl, rfl⟩ := hz
  intro w hw
  have T0 := TG.refl hw
  have HT := Lib.hid T0
  clear hw T0
  have HT := Lib.hid (HT.out.sum (H' := [turnB kb L.fb pv (sVal L k) k, gd, e.1, gC, gW, gP]) (fun n ha h0 h1 h2 => by simp only [SU, ha, h0, h1, h2] <;> omega))
  have HX := Lib.hid hx
  have HD := Lib.hid hd
  have HW := Lib.hid hw
  have HPP := Lib.hid hpp
  clear hx hd hw hpp
  go_enter Tryz.func325, Tryz.ntmps325
  go_wp2_with fail
  have HT := Lib.hid ((HT.out.alloc (k := w.heap.size) rfl 56 #[ptr' kb]).alloc (k := w.heap.size + 1) (by simp) 148 #[.nilFunc, .nilFunc])
  generalize World.alloc (World.alloc w _) _ = w1 at HT ⊢
  generalize w.heap.size = bb at *
  obtain ⟨ι, W, hW0, hend, hin⟩ : ∃ (ι : Type) (W : ι → World), (∃ i, World.drew w1 = W i) ∧ (∀ i, ∃ gx, isCore L x gx ∧ TG [turnB kb L.fb pv (sVal L k) k ++ (gd ++ e.1), gC ++ (gW ++ gP)] w [turnB kb L.fb pv (sVal L k) k, gd, e.1, gx, gW, gP, [cl bb 56 #[ptr' kb]], [cl (bb + 1) 148 #[.nilFunc, .nilFunc]]] (W i)) ∧ (∀ w', (∃ gx, isCore L x gx ∧ TG [turnB kb L.fb pv (sVal L k) k ++ (gd ++ e.1), gC ++ (gW ++ gP)] w [turnB kb L.fb pv (sVal L k) k, gd, e.1, gx, gW, gP, [cl bb 56 #[ptr' kb]], [cl (bb + 1) 148 #[.nilFunc, .nilFunc]]] w') → ∃ i, w' = W i) := ⟨{w' // ∃ gx, isCore L x gx ∧ TG [turnB kb L.fb pv (sVal L k) k ++ (gd ++ e.1), gC ++ (gW ++ gP)] w [turnB kb L.fb pv (sVal L k) k, gd, e.1, gx, gW, gP, [cl bb 56 #[ptr' kb]], [cl (bb + 1) 148 #[.nilFunc, .nilFunc]]] w'}, Subtype.val, ⟨⟨_, gC, HX.out, HT.out.drew⟩, rfl⟩, fun i => i.2, fun w' h => ⟨⟨w', h⟩, rfl⟩⟩
  have hne : Nonempty ι := hW0.elim fun i _ => ⟨i⟩
  have b0 : ∀ i, (W i).cell? ⟨bb, 0, none⟩ = some (ptr' kb) := fun i => by obtain ⟨_, _, T⟩ := hend i; exact T.cell 6 0 rfl 0
  have k0 : ∀ i, (W i).cell? ⟨kb, 0, none⟩ = some (ptr' L.fb) := fun i => by obtain ⟨_, _, T⟩ := hend i; exact T.cell 0 0 rfl 0
  have k12 : ∀ i, (W i).cell? ⟨kb, 12, none⟩ = some (.int .i64 k.t.slot) := fun i => by obtain ⟨_, _, T⟩ := hend i; exact T.cell 0 0 rfl 12
  have m1 : ∀ i, Calls Tryz.prog 22 #[ptr' L.fb] (W i) fun e w2 => e = .returned (ptr' L.p.sb) ∧ ∃ j, w2 = W j := fun i => by
    obtain ⟨_, hg, T⟩ := hend i
    refine (DoesG.use ((coreSlab_r hg).does) T [3] rfl rfl).mono ?_
    rintro e w2 ⟨gs, ⟨rfl, rfl⟩, T2⟩
    exact ⟨rfl, hin _ ⟨_, hg, T2⟩⟩
  have m2 : ∀ i, Calls Tryz.prog 46 #[ptr' L.p.sb, .int .i64 k.t.slot] (W i) fun e w2 => e = .returned (.tuple #[.int .u64 wd, .int .i64 (x.slab.werr k.t.slot)]) ∧ ∃ j, w2 = W j := fun i => by
    obtain ⟨_, hg, T⟩ := hend i
    refine (DoesG.use (HWD.out _ hg) T [3] rfl rfl).mono ?_
    rintro e w2 ⟨gs, ⟨rfl, g3, hg3, rfl⟩, T2⟩
    exact ⟨rfl, hin _ ⟨g3, hg3, T2⟩⟩
  refine wp_region_cls W (by kernel_rfl) (by kernel_rfl) hW0 ?_
  repeat (go_big_quiet_step ((first | (go_at_call 22; with_reducible exact m1 _) | (go_at_call 46; with_reducible exact m2 _))))
  refine wpQuiet_nil ?_
  intro _ hw
  obtain ⟨iq, hw2⟩ := hw
  subst hw2
  obtain ⟨g1, hx1, T⟩ := hend iq
  have HT := Lib.hid T
  generalize W iq = w1 at HT ⊢
  clear T hend hin hW0 hne
  have HX := Lib.hid hx1
  clear hx1 b0 k0 k12 m1 m2
  have b0 := HT.out.cell 6 0 rfl 0
  simp only [List.getElem?_nil, List.getElem?_toArray, List.getElem?_cons_zero, List.getElem?_cons_succ] at b0
  have k16 := HT.out.cell 0 0 rfl 16
  have fk16 := HT.out.free 0 0 rfl 16
  simp only [turnC, List.getElem?_toArray, List.getElem?_cons_zero, List.getElem?_cons_succ] at k16
  go_wp2_with fail
  have HT := Lib.hid ((HT.out.set 0 0 rfl 16 (.int .u64 wd)).eq (H' := [turnB kb L.fb pv (sVal L k) { k with saw := wd }, gd, e.1, g1, gW, gP, [cl bb 56 #[ptr' kb]], [cl (bb + 1) 148 #[.nilFunc, .nilFunc]]]) rfl)
  clear k16 fk16 b0
  generalize World.setCell _ _ _ = w5 at HT ⊢
  have b0 := HT.out.cell 6 0 rfl 0
  simp only [List.getElem?_nil, List.getElem?_toArray, List.getElem?_cons_zero, List.getElem?_cons_succ] at b0
  have k13 := HT.out.cell 0 0 rfl 13
  simp only [turnC, List.getElem?_toArray, List.getElem?_cons_zero, List.getElem?_cons_succ] at k13
  cases hb1 : (sw != 4) with
  | true =>
    have hR := HR.out
    rw [if_pos (.inl (by simpa using hb1))] at hR
    subst hR
    go_quiet ((first | (go_at_call 47; with_reducible exact ReadsG.quiet (HSW.out) HT.out _ [] rfl rfl) | (go_at_call 209; with_reducible exact ReadsG.quiet (HGW.out) HT.out _ [] rfl rfl)))
    have HT := Lib.hid (HT.out.drewN nq)
    have HT := Lib.hid HT.out
    generalize World.drewN _ _ = wq at HT ⊢
    clear b0 k13
    have r0 := HT.out.cell 7 0 rfl 0
    have fr0 := HT.out.free 7 0 rfl 0
    have r1 := HT.out.cell 7 0 rfl 1
    have fr1 := HT.out.free 7 0 rfl 1
    simp only [List.getElem?_nil, List.getElem?_toArray, List.getElem?_cons_zero, List.getElem?_cons_succ] at r0 r1
    go_wp2
    exact bodyPost_ret (v := .agg #[_, _]) (by simp [results, Tryz.results325, go_sem, r0, r1]) rfl ⟨_, MRT.of ⟨e, leT.refl e, _, _, [], _, _, rfl, ⟨rfl, rfl, rfl⟩, ⟨gd, _, _, gP, HD.out, HX.out, HW.out, HPP.out, (rfl : turnB kb L.fb pv (sVal L k) { k with saw := wd } ++ (gd ++ e.1) = _), rfl⟩, rfl⟩, (((HT.out.set 7 0 rfl 0 _).set 7 0 rfl 1 _).pick [0, 1, 2, 3, 4, 5] rfl).sum2 (fun n ha h0 h1 h2 => by simp only [SU, ha, h0, h1, h2] <;> omega)⟩
  | false =>
    cases hb2 : (gw != k.t.gen) with
    | true =>
      have hR := HR.out
      rw [if_pos (.inr (by simpa using hb2))] at hR
      subst hR
      go_quiet ((first | (go_at_call 47; with_reducible exact ReadsG.quiet (HSW.out) HT.out _ [] rfl rfl) | (go_at_call 209; with_reducible exact ReadsG.quiet (HGW.out) HT.out _ [] rfl rfl)))
      have HT := Lib.hid (HT.out.drewN nq)
      have HT := Lib.hid HT.out
      generalize World.drewN _ _ = wq at HT ⊢
      clear b0 k13
      have r0 := HT.out.cell 7 0 rfl 0
      have fr0 := HT.out.free 7 0 rfl 0
      have r1 := HT.out.cell 7 0 rfl 1
      have fr1 := HT.out.free 7 0 rfl 1
      simp only [List.getElem?_nil, List.getElem?_toArray, List.getElem?_cons_zero, List.getElem?_cons_succ] at r0 r1
      go_wp2
      exact bodyPost_ret (v := .agg #[_, _]) (by simp [results, Tryz.results325, go_sem, r0, r1]) rfl ⟨_, MRT.of ⟨e, leT.refl e, _, _, [], _, _, rfl, ⟨rfl, rfl, rfl⟩, ⟨gd, _, _, gP, HD.out, HX.out, HW.out, HPP.out, (rfl : turnB kb L.fb pv (sVal L k) { k with saw := wd } ++ (gd ++ e.1) = _), rfl⟩, rfl⟩, (((HT.out.set 7 0 rfl 0 _).set 7 0 rfl 1 _).pick [0, 1, 2, 3, 4, 5] rfl).sum2 (fun n ha h0 h1 h2 => by simp only [SU, ha, h0, h1, h2] <;> omega)⟩
    | false =>
      have hR := HR.out
      rw [if_neg (by simp only [bne_eq_false_iff_eq] at hb1 hb2; omega)] at hR
      have HR := Lib.hid hR
      go_quiet ((first | (go_at_call 47; with_reducible exact ReadsG.quiet (HSW.out) HT.out _ [] rfl rfl) | (go_at_call 209; with_reducible exact ReadsG.quiet (HGW.out) HT.out _ [] rfl rfl)))
      have HT := Lib.hid (HT.out.drewN nq)
      generalize World.drewN _ _ = wz at HT ⊢
      clear b0 k13 hR HSW HGW hb1 hb2 HWD
      have b0 := HT.out.cell 6 0 rfl 0
      simp only [List.getElem?_nil, List.getElem?_toArray, List.getElem?_cons_zero, List.getElem?_cons_succ] at b0
      have k14 := HT.out.cell 0 0 rfl 14
      have k15 := HT.out.cell 0 0 rfl 15
      simp only [turnC, List.getElem?_toArray, List.getElem?_cons_zero, List.getElem?_cons_succ] at k14 k15
      have ltb := HT.out.lt 6 0 rfl
      have ltk := HT.out.lt 0 0 rfl
      simp only [] at ltb ltk
      go_wp2_with fail
      apply use_key2 (A := fun (nb : Nat) w5 => TG [turnB kb L.fb pv (sVal L k) k ++ (gd ++ e.1), gC ++ (gW ++ gP)] w [turnB kb L.fb pv (sVal L k) { k with saw := wd }, gd, e.1, g1, gW, gP, [cl bb 56 #[ptr' kb]], [cl (bb + 1) 148 #[.nilFunc, .nilFunc]], [cl nb 36 #[.int .u64 nx]]] w5)
      case main =>
        intro key
        go_region_held3 (fun w' => w'.cell? ⟨bb, 0, none⟩ = some (ptr' kb) ∧ w'.cell? ⟨kb, 14, none⟩ = some (.int .u64 k.t.dl) ∧ w'.cell? ⟨kb, 15, none⟩ = some (.int .u64 k.t.per))
          (first
          | exact ⟨b0, k14, k15⟩
          | exact ⟨q1, q2, q3⟩
          | (refine ⟨?_, ?_, ?_⟩ <;> (simp [go_sem, b0, k14, k15, ltb, ltk, Nat.ne_of_lt ltb, Nat.ne_of_lt ltk, Nat.ne_of_gt ltb, Nat.ne_of_gt ltk]; done))
          | (refine ⟨?_, ?_, ?_⟩ <;> (simp [go_sem, q1, q2, q3, l1, l2, Nat.ne_of_lt l1, Nat.ne_of_lt l2, Nat.ne_of_gt l1, Nat.ne_of_gt l2]; done))
          | (refine ⟨?_, ?_, ?_⟩ <;> (simp [go_sem, q1, q2, q3, ltb, ltk, Nat.ne_of_lt ltb, Nat.ne_of_lt ltk, Nat.ne_of_gt ltb, Nat.ne_of_gt ltk]; done))
          | exact ⟨s1, s2, s3⟩
          | exact ⟨((HT7.out.set 8 0 rfl 0 (.int .u64 nx)).cell 6 0 rfl 0), ((HT7.out.set 8 0 rfl 0 (.int .u64 nx)).cell 0 0 rfl 14), ((HT7.out.set 8 0 rfl 0 (.int .u64 nx)).cell 0 0 rfl 15)⟩
          | exact ⟨((HT7.out.alloc (k := w7.heap.size) rfl 36 #[.int .u64 nx]).cell 6 0 rfl 0), ((HT7.out.alloc (k := w7.heap.size) rfl 36 #[.int .u64 nx]).cell 0 0 rfl 14), ((HT7.out.alloc (k := w7.heap.size) rfl 36 #[.int .u64 nx]).cell 0 0 rfl 15)⟩
          | exact ⟨(((HT7.out.alloc (k := w7.heap.size) rfl 36 #[.int .u64 0]).set 8 0 rfl 0 (.int .u64 nx)).cell 6 0 rfl 0), (((HT7.out.alloc (k := w7.heap.size) rfl 36 #[.int .u64 0]).set 8 0 rfl 0 (.int .u64 nx)).cell 0 0 rfl 14), (((HT7.out.alloc (k := w7.heap.size) rfl 36 #[.int .u64 0]).set 8 0 rfl 0 (.int .u64 nx)).cell 0 0 rfl 15)⟩)
          (first
          | (go_at_call 132
             refine (ReadsG.use HAD.out HT.out.drew [] rfl rfl).mono ?_
             rintro e w7 ⟨rfl, mq, rfl⟩
             have HT7 := Lib.hid (HT.out.drew.drewN mq)
             have q1 := HT7.out.cell 6 0 rfl 0
             have q2 := HT7.out.cell 0 0 rfl 14
             have q3 := HT7.out.cell 0 0 rfl 15
             have l1 := HT7.out.lt 6 0 rfl
             have l2 := HT7.out.lt 0 0 rfl
             simp only [turnC, List.getElem?_toArray, List.getElem?_cons_zero, List.getElem?_cons_succ] at q1 q2 q3 l1 l2
             generalize World.drewN _ _ = w7 at HT7 q1 q2 q3 l1 l2 ⊢)
          | (go_at_call 132
             refine (ReadsG.use HAD.out (HT.out.alloc (k := wz.heap.size) rfl 36 #[.int .u64 0]).drew [] rfl rfl).mono ?_
             rintro e w7 ⟨rfl, mq, rfl⟩
             have HT7 := Lib.hid ((HT.out.alloc (k := wz.heap.size) rfl 36 #[.int .u64 0]).drew.drewN mq)
             have c0 := HT7.out.cell 8 0 rfl 0
             have f0 := HT7.out.free 8 0 rfl 0
             simp only [List.getElem?_toArray, List.getElem?_cons_zero] at c0
             have q1 := HT7.out.cell 6 0 rfl 0
             have q2 := HT7.out.cell 0 0 rfl 14
             have q3 := HT7.out.cell 0 0 rfl 15
             have l1 := HT7.out.lt 6 0 rfl
             have l2 := HT7.out.lt 0 0 rfl
             simp only [turnC, List.getElem?_toArray, List.getElem?_cons_zero, List.getElem?_cons_succ] at q1 q2 q3 l1 l2
             generalize World.drewN _ _ = w7 at HT7 c0 f0 q1 q2 q3 l1 l2 ⊢
             have HT8 := HT7.out.set 8 0 rfl 0 (.int .u64 nx)
             have s1 := HT8.cell 6 0 rfl 0
             have s2 := HT8.cell 0 0 rfl 14
             have s3 := HT8.cell 0 0 rfl 15
             simp only [turnC, List.getElem?_toArray, List.getElem?_cons_zero, List.getElem?_cons_succ] at s1 s2 s3))
        · have T5 := (HT7.out.alloc (k := w7.heap.size) rfl 36 #[.int .u64 nx]).eq (H' := [turnB kb L.fb pv (sVal L k) { k with saw := wd }, gd, e.1, g1, gW, gP, [cl bb 56 #[ptr' kb]], [cl (bb + 1) 148 #[.nilFunc, .nilFunc]], [cl w7.heap.size 36 #[.int .u64 nx]]]) rfl
          clear HT7 q1 q2 q3 l1 l2
          generalize World.alloc w7 _ = w5 at T5 ⊢
          generalize w7.heap.size = nb at T5 ⊢
          exact key nb w5 T5
        · have T5 := (HT7.out.set 8 0 rfl 0 (.int .u64 nx)).eq (H' := [turnB kb L.fb pv (sVal L k) { k with saw := wd }, gd, e.1, g1, gW, gP, [cl bb 56 #[ptr' kb]], [cl (bb + 1) 148 #[.nilFunc, .nilFunc]], [cl wz.heap.size 36 #[.int .u64 nx]]]) rfl
          clear HT7 q1 q2 q3 l1 l2 c0 f0 s1 s2 s3 HT8
          generalize World.setCell w7 _ _ = w5 at T5 ⊢
          generalize wz.heap.size = nb at T5 ⊢
          exact key nb w5 T5
      case key =>
        rintro nb w5 T5
        have HT := Lib.hid T5
        clear T5 b0 k14 k15 ltb ltk
        have HNX := HNX.out
        have hper := HPE.out
        have b0 := HT.out.cell 6 0 rfl 0
        simp only [List.getElem?_nil, List.getElem?_toArray, List.getElem?_cons_zero, List.getElem?_cons_succ] at b0
        have k15 := HT.out.cell 0 0 rfl 15
        simp only [turnC, List.getElem?_toArray, List.getElem?_cons_zero, List.getElem?_cons_succ] at k15
        by_cases hp0 : 0 < k.t.per
        · cases lw with
          | false =>
            by_cases hov : k.t.dl + k.t.per < 18446744073709551616
            · have hR := HR.out
              rw [if_pos ⟨hp0, rfl, hov⟩] at hR
              subst hR
              have her := HER.out.2 hov
              subst her
              have hnx := HNX hov
              subst hnx
              clear HNX hper HER
              go_wp2_with fail
              refine (ReadsG.use (HLS.out) (HT.out) [] rfl rfl).mono ?_
              rintro e w1 ⟨rfl, mq, rfl⟩
              have HT := Lib.hid (HT.out.drewN mq)
              generalize World.drewN _ _ = wq at HT ⊢
              clear b0 k15
              go_wp2_with fail
              refine (DoesG.use (at_g _ _ _) (HT.out) [] rfl rfl).mono ?_
              rintro e w1 ⟨gs, ⟨rfl, rfl⟩, Ta⟩
              simp only [PU] at Ta
              have HT := Lib.hid Ta
              clear Ta
              have r0 := HT.out.cell 7 0 rfl 0
              have fr0 := HT.out.free 7 0 rfl 0
              have r1 := HT.out.cell 7 0 rfl 1
              have fr1 := HT.out.free 7 0 rfl 1
              simp only [List.getElem?_nil, List.getElem?_toArray, List.getElem?_cons_zero, List.getElem?_cons_succ] at r0 r1
              go_wp2
              exact bodyPost_ret (v := .agg #[_, _]) (by simp [results, Tryz.results325, go_sem, r0, r1]) rfl ⟨_, MRT.of ⟨(e.1 ++ [cl bb 56 #[ptr' kb], cl nb 36 #[.int .u64 (k.t.dl + k.t.per)]], e.2), leT.app e _, _, _, [], _, _, rfl, ⟨rfl, rfl, ⟨bb, nb, rfl, List.mem_append_right _ (List.mem_cons_self ..), List.mem_append_right _ (List.mem_cons_of_mem _ (List.mem_cons_self ..))⟩⟩, ⟨gd, _, _, gP, HD.out, HX.out, HW.out, HPP.out, (rfl : turnB kb L.fb pv (sVal L k) { k with saw := wd } ++ (gd ++ (e.1 ++ [cl bb 56 #[ptr' kb], cl nb 36 #[.int .u64 (k.t.dl + k.t.per)]])) = _), rfl⟩, rfl⟩, (((HT.out.set 7 0 rfl 0 _).set 7 0 rfl 1 _).pick [0, 1, 2, 6, 8, 3, 4, 5] rfl).sum2 (fun n ha h0 h1 h2 => by simp only [SU, ha, h0, h1, h2] <;> omega)⟩
            · have hR := HR.out
              rw [if_neg (fun h => hov h.2.2)] at hR
              subst hR
              have heb : (er == 0) = false := beq_eq_false_iff_ne.2 fun h => hov (HER.out.1 h)
              clear HNX hper HER hov
              go_wp2_with fail
              refine (ReadsG.use (HLS.out) (HT.out) [] rfl rfl).mono ?_
              rintro e w1 ⟨rfl, mq, rfl⟩
              have HT := Lib.hid (HT.out.drewN mq)
              generalize World.drewN _ _ = wq at HT ⊢
              clear b0 k15
              have b0 := HT.out.cell 6 0 rfl 0
              simp only [List.getElem?_nil, List.getElem?_toArray, List.getElem?_cons_zero, List.getElem?_cons_succ] at b0
              go_wp2_with fail
              refine (DoesG.use (at_g _ _ _) (HT.out) [] rfl rfl).mono ?_
              rintro e w1 ⟨gs, ⟨rfl, rfl⟩, Ta⟩
              simp only [PU] at Ta
              have HT := Lib.hid Ta
              clear Ta
              have r0 := HT.out.cell 7 0 rfl 0
              have fr0 := HT.out.free 7 0 rfl 0
              have r1 := HT.out.cell 7 0 rfl 1
              have fr1 := HT.out.free 7 0 rfl 1
              simp only [List.getElem?_nil, List.getElem?_toArray, List.getElem?_cons_zero, List.getElem?_cons_succ] at r0 r1
              go_wp2
              exact bodyPost_ret (v := .agg #[_, _]) (by simp [results, Tryz.results325, go_sem, r0, r1]) rfl ⟨_, MRT.of ⟨e, leT.refl e, _, _, [], _, _, rfl, ⟨rfl, rfl, rfl⟩, ⟨gd, _, _, gP, HD.out, HX.out, HW.out, HPP.out, (rfl : turnB kb L.fb pv (sVal L k) { k with saw := wd } ++ (gd ++ e.1) = _), rfl⟩, rfl⟩, (((HT.out.set 7 0 rfl 0 _).set 7 0 rfl 1 _).pick [0, 1, 2, 3, 4, 5] rfl).sum2 (fun n ha h0 h1 h2 => by simp only [SU, ha, h0, h1, h2] <;> omega)⟩
          | true =>
            have hR := HR.out
            rw [if_neg (fun h => by cases h.2.1)] at hR
            subst hR
            clear HNX hper HER
            go_wp2_with fail
            refine (ReadsG.use (HLS.out) (HT.out) [] rfl rfl).mono ?_
            rintro e w1 ⟨rfl, mq, rfl⟩
            have HT := Lib.hid (HT.out.drewN mq)
            generalize World.drewN _ _ = wq at HT ⊢
            clear b0 k15
            have b0 := HT.out.cell 6 0 rfl 0
            simp only [List.getElem?_nil, List.getElem?_toArray, List.getElem?_cons_zero, List.getElem?_cons_succ] at b0
            go_wp2_with fail
            refine (DoesG.use (at_g _ _ _) (HT.out) [] rfl rfl).mono ?_
            rintro e w1 ⟨gs, ⟨rfl, rfl⟩, Ta⟩
            simp only [PU] at Ta
            have HT := Lib.hid Ta
            clear Ta
            have r0 := HT.out.cell 7 0 rfl 0
            have fr0 := HT.out.free 7 0 rfl 0
            have r1 := HT.out.cell 7 0 rfl 1
            have fr1 := HT.out.free 7 0 rfl 1
            simp only [List.getElem?_nil, List.getElem?_toArray, List.getElem?_cons_zero, List.getElem?_cons_succ] at r0 r1
            go_wp2
            exact bodyPost_ret (v := .agg #[_, _]) (by simp [results, Tryz.results325, go_sem, r0, r1]) rfl ⟨_, MRT.of ⟨e, leT.refl e, _, _, [], _, _, rfl, ⟨rfl, rfl, rfl⟩, ⟨gd, _, _, gP, HD.out, HX.out, HW.out, HPP.out, (rfl : turnB kb L.fb pv (sVal L k) { k with saw := wd } ++ (gd ++ e.1) = _), rfl⟩, rfl⟩, (((HT.out.set 7 0 rfl 0 _).set 7 0 rfl 1 _).pick [0, 1, 2, 3, 4, 5] rfl).sum2 (fun n ha h0 h1 h2 => by simp only [SU, ha, h0, h1, h2] <;> omega)⟩
        · have hR := HR.out
          rw [if_neg (fun h => hp0 h.1)] at hR
          subst hR
          have hper0 : k.t.per = 0 := by omega
          rw [hper0] at k15
          clear HNX HER hper hp0 hper0 HAD HLS
          go_wp2_with fail
          refine (DoesG.use (at_g _ _ _) (HT.out) [] rfl rfl).mono ?_
          rintro e w1 ⟨gs, ⟨rfl, rfl⟩, Ta⟩
          simp only [PU] at Ta
          have HT := Lib.hid Ta
          clear Ta
          have r0 := HT.out.cell 7 0 rfl 0
          have fr0 := HT.out.free 7 0 rfl 0
          have r1 := HT.out.cell 7 0 rfl 1
          have fr1 := HT.out.free 7 0 rfl 1
          simp only [List.getElem?_nil, List.getElem?_toArray, List.getElem?_cons_zero, List.getElem?_cons_succ] at r0 r1
          go_wp2
          exact bodyPost_ret (v := .agg #[_, _]) (by simp [results, Tryz.results325, go_sem, r0, r1]) rfl ⟨_, MRT.of ⟨e, leT.refl e, _, _, [], _, _, rfl, ⟨rfl, rfl, rfl⟩, ⟨gd, _, _, gP, HD.out, HX.out, HW.out, HPP.out, (rfl : turnB kb L.fb pv (sVal L k) { k with saw := wd } ++ (gd ++ e.1) = _), rfl⟩, rfl⟩, (((HT.out.set 7 0 rfl 0 _).set 7 0 rfl 1 _).pick [0, 1, 2, 3, 4, 5] rfl).sum2 (fun n ha h0 h1 h2 => by simp only [SU, ha, h0, h1, h2] <;> omega)⟩
end
end Go.Proofs.YtblhfbcodbjgcaaGreat

namespace Go.Proofs.YtblhfbcodbjgcaaGreat
set_option linter.unusedVariables false
set_option linter.unusedSimpArgs false
open Go.RowKit Go.Shelf
section
variable {L : Lay} {x : CoreS} {ws : List WheelS} {p : PipeS} {e : ET} {g gC gK gF : List Blk} {kb : Nat} {pv sv : Value} {k : TurnS}
def YRT (L : Lay) (kb : Nat) (pv : Value) (e : ET) (y : YT) (z : ZT) (en : Ending) (gs : GH) : Prop :=
  ∃ gK' gF', en = .returned (.bool (mayT y z)) ∧ repT L kb pv e z gK' gF' ∧ gs = [gK', gF']
theorem ART.of {z : ZT} {en : Ending} {gs : GH} (h : ∃ e', leT e e' ∧ ∃ gK' gF', en = .returned (.tuple #[]) ∧ repT L kb pv e' z gK' gF' ∧ gs = [[], gK', gF']) : ART L kb pv e z en gs := h
theorem YRT.of {y : YT} {z : ZT} {en : Ending} {gs : GH} (h : ∃ gK' gF', en = .returned (.bool (mayT y z)) ∧ repT L kb pv e z gK' gF' ∧ gs = [gK', gF']) : YRT L kb pv e y z en gs := h
set_option maxRecDepth 100000 in
set_option maxHeartbeats 4000000 in
theorem tOne2 (d : Nat) (hz : repT L kb pv e ⟨k, x, ws, p⟩ gK gF) (hp : preT (.one2 d) ⟨k, x, ws, p⟩) (bk bd : Nat) (hb : kBox kb bk e) (hbd : e.2[d]? = some bd) :
    DoesG Tryz.prog 256 #[ptr' bk, ptr' bd] [gK, gF] (MRT L kb pv e (runT (.one2 d) ⟨k, x, ws, p⟩).1 (runT (.one2 d) ⟨k, x, ws, p⟩).2) := by
  obtain ⟨ho, hh, hc, hth1⟩ := hp
  obtain ⟨gd, gC, gW, gP, hd, hx, hw, hpp, rfl, rfl⟩ := hz
  obtain ⟨i, q, s, S, hki, hq, hs, hS, hsv, hsh, hss, hwh, hwo, hrb, ht0, ht1⟩ := turn_sh hx hw ho hh
  have hth : 0 ≤ k.th ∧ k.th ≤ 1000000 := ⟨ho.th, hth1⟩
  clear hth1
  rw [show runT (.one2 d) ⟨k, x, ws, p⟩ = (.at none (.one21 d), ⟨k, { x with shs := x.shs.set i { s with who := tryW s.who k.th, turns := tryN s.who s.turns } }, ws, p⟩) by
    simp only [runT, ZT.onSh, hss, hsh]]
  dsimp only
  have HLO := Lib.hid (fun (g : List Blk) (hg : isCore L x g) => coreLockOf_r hg hq hs)
  have HLT := Lib.hid (fun (g : List Blk) (hg : isCore L x g) => coreLockDo (v := .bool (s.who == 0)) hg hq hs fun g hl => lockTry_g k.th hl ⟨hth.1, by omega⟩ ⟨ht0, by omega⟩)
  clear hth ho hh hc hki hq hs hS hsh hss hwh hwo hrb ht0 ht1
  intro w hw
  have T0 := TG.refl hw
  have HT := Lib.hid T0
  clear hw T0
  have HT := Lib.hid (HT.out.sum (H' := [turnB kb L.fb pv (sVal L k) k, gd, e.1, gC, gW, gP]) (fun n ha h0 h1 h2 => by simp only [SU, ha, h0, h1, h2] <;> omega))
  have HX := Lib.hid hx
  have HD := Lib.hid hd
  have HW := Lib.hid hw
  have HPP := Lib.hid hpp
  have HSV := Lib.hid hsv
  clear hx hd hw hpp hsv
  have HBD := Lib.hid hbd
  clear hbd
  have HB := Lib.hid (show cl bk 56 #[ptr' kb] ∈ e.1 from hb)
  clear hb
  have ltb := HT.out.mem_lt 2 HB.out
  simp only [] at ltb
  go_enter Tryz.func256, Tryz.ntmps256
  go_wp2_with fail
  have HT := Lib.hid (HT.out.alloc (k := w.heap.size) rfl 148 #[.nilFunc, .nilFunc])
  generalize World.alloc w _ = w1 at HT ⊢
  generalize w.heap.size = bs at *
  obtain ⟨ι, W, hW0, hend, hin⟩ : ∃ (ι : Type) (W : ι → World), (∃ i, World.drew w1 = W i) ∧ (∀ i, ∃ gx, isCore L x gx ∧ TG [turnB kb L.fb pv (sVal L k) k ++ (gd ++ e.1), gC ++ (gW ++ gP)] w [turnB kb L.fb pv (sVal L k) k, gd, e.1, gx, gW, gP, [cl bs 148 #[.nilFunc, .nilFunc]]] (W i)) ∧ (∀ w', (∃ gx, isCore L x gx ∧ TG [turnB kb L.fb pv (sVal L k) k ++ (gd ++ e.1), gC ++ (gW ++ gP)] w [turnB kb L.fb pv (sVal L k) k, gd, e.1, gx, gW, gP, [cl bs 148 #[.nilFunc, .nilFunc]]] w') → ∃ i, w' = W i) := ⟨{w' // ∃ gx, isCore L x gx ∧ TG [turnB kb L.fb pv (sVal L k) k ++ (gd ++ e.1), gC ++ (gW ++ gP)] w [turnB kb L.fb pv (sVal L k) k, gd, e.1, gx, gW, gP, [cl bs 148 #[.nilFunc, .nilFunc]]] w'}, Subtype.val, ⟨⟨_, gC, HX.out, HT.out.drew⟩, rfl⟩, fun i => i.2, fun w' h => ⟨⟨w', h⟩, rfl⟩⟩
  have hne : Nonempty ι := hW0.elim fun i _ => ⟨i⟩
  have b0 : ∀ i, (W i).cell? ⟨bk, 0, none⟩ = some (ptr' kb) := fun i => by obtain ⟨_, _, T⟩ := hend i; exact T.mem_cell 2 HB.out 0
  have k10 : ∀ i, (W i).cell? ⟨kb, 10, none⟩ = some (ptr' q.b) := fun i => by obtain ⟨_, _, T⟩ := hend i; exact HSV.out ▸ T.cell 0 0 rfl 10
  have k1 : ∀ i, (W i).cell? ⟨kb, 1, none⟩ = some (.int .i64 k.th) := fun i => by obtain ⟨_, _, T⟩ := hend i; exact T.cell 0 0 rfl 1
  have m1 : ∀ i, Calls Tryz.prog 38 #[ptr' q.b] (W i) fun e w2 => e = .returned (ptr' q.lb) ∧ ∃ j, w2 = W j := fun i => by
    obtain ⟨_, hg, T⟩ := hend i
    refine (DoesG.use (HLO.out _ hg) T [3] rfl rfl).mono ?_
    rintro e w2 ⟨gs, ⟨rfl, g3, hg3, rfl⟩, T2⟩
    exact ⟨rfl, hin _ ⟨g3, hg3, T2⟩⟩
  refine wp_region_mix (fun w' => ∃ i, w' = W i) 9 (by kernel_rfl) (by kernel_rfl) hW0 ?_
  simp only [List.take_succ_cons, List.take_zero, List.drop_succ_cons, List.drop_zero]
  repeat (go_big_quiet_step ((first | (go_at_call 38; with_reducible exact m1 _))))
  refine wpQuiet_nil ?_
  intro _ hw'
  obtain ⟨iq, hw''⟩ := hw'
  subst hw''
  obtain ⟨g1, hx1, T⟩ := hend iq
  have HT := Lib.hid T
  generalize W iq = w1 at HT ⊢
  clear T hend hin hW0 hne
  have HX1 := Lib.hid hx1
  clear hx1 b0 k10 k1 m1
  go_wp2_with fail
  refine (DoesG.use (HLT.out _ HX1.out) (HT.out) [3] rfl rfl).mono ?_
  rintro e w1 ⟨gs, ⟨rfl, g2, hx2, rfl⟩, Ta⟩
  simp only [PU] at Ta
  have HX := Lib.hid hx2
  clear hx2
  have HT := Lib.hid Ta
  clear Ta
  go_wp2_with fail
  refine ⟨rfl, ?_⟩
  go_wp2_with fail
  refine (DoesG.use (at_g _ _ _) (HT.out) [] rfl rfl).mono ?_
  rintro e w1 ⟨gs, ⟨rfl, rfl⟩, Ta⟩
  simp only [PU] at Ta
  have HT := Lib.hid Ta
  clear Ta
  have r0 := HT.out.cell 6 0 rfl 0
  have fr0 := HT.out.free 6 0 rfl 0
  have r1 := HT.out.cell 6 0 rfl 1
  have fr1 := HT.out.free 6 0 rfl 1
  simp only [List.getElem?_nil, List.getElem?_toArray, List.getElem?_cons_zero, List.getElem?_cons_succ] at r0 r1
  go_wp2
  exact bodyPost_ret (v := .agg #[_, _]) (by simp [results, Tryz.results256, go_sem, r0, r1]) rfl ⟨_, MRT.of ⟨e, leT.refl e, _, _, [], _, _, rfl, ⟨rfl, rfl, ⟨bk, bd, rfl, HB.out, HBD.out⟩⟩, ⟨gd, _, _, gP, HD.out, HX.out, HW.out, HPP.out, (rfl : turnB kb L.fb pv (sVal L k) k ++ (gd ++ e.1) = _), rfl⟩, rfl⟩, (((HT.out.set 6 0 rfl 0 _).set 6 0 rfl 1 _).pick [0, 1, 2, 3, 4, 5] rfl).sum2 (fun n ha h0 h1 h2 => by simp only [SU, ha, h0, h1, h2] <;> omega)⟩
set_option maxRecDepth 100000 in
set_option maxHeartbeats 4000000 in
theorem yLock (hz : repT L kb pv e ⟨k, x, ws, p⟩ gK gF) (hp : preYT .lock ⟨k, x, ws, p⟩) (bk : Nat) (hb : kBox kb bk e) :
    DoesG Tryz.prog 254 #[ptr' bk] [gK, gF] (YRT L kb pv e .lock ⟨k, x, ws, p⟩) := by
  obtain ⟨ho, hh⟩ := hp
  obtain ⟨gd, gC, gW, gP, hd, hx, hw, hpp, rfl, rfl⟩ := hz
  obtain ⟨i, q, s, S, hki, hq, hs, hS, hsv, hsh, hss, hwh, hwo, hrb, ht0, ht1⟩ := turn_sh hx hw ho hh
  have hm : mayT .lock ⟨k, x, ws, p⟩ = (decide (0 ≤ k.th) && s.who == 0) := by simp only [mayT, hss]
  have HLO := Lib.hid (fun (g : List Blk) (hg : isCore L x g) => coreLockOf_r hg hq hs)
  have hlm : ∀ (g : List Blk) (hg : isCore L x g), _ := fun (g : List Blk) (hg : isCore L x g) => coreLockDo (v := .bool (decide (0 ≤ k.th) && s.who == 0)) hg hq hs fun g hl => lockMay_g k.th hl
  rw [← hm, core_shs_same hs] at hlm
  have HLM := Lib.hid hlm
  clear hm hlm ho hh hki hq hs hS hsh hss hwh hwo hrb ht0 ht1
  generalize hmv : mayT .lock ⟨k, x, ws, p⟩ = mv at *
  have HMV := Lib.hid hmv
  clear hmv
  intro w hw
  have T0 := TG.refl hw
  have HT := Lib.hid T0
  clear hw T0
  have HT := Lib.hid (HT.out.sum (H' := [turnB kb L.fb pv (sVal L k) k, gd, e.1, gC, gW, gP]) (fun n ha h0 h1 h2 => by simp only [SU, ha, h0, h1, h2] <;> omega))
  have HX := Lib.hid hx
  have HD := Lib.hid hd
  have HW := Lib.hid hw
  have HPP := Lib.hid hpp
  have HSV := Lib.hid hsv
  clear hx hd hw hpp hsv
  have HB := Lib.hid (show cl bk 56 #[ptr' kb] ∈ e.1 from hb)
  clear hb
  have ltb := HT.out.mem_lt 2 HB.out
  simp only [] at ltb
  go_enter Tryz.func254, Tryz.ntmps254
  go_wp2_with fail
  obtain ⟨ι, W, hW0, hend, hin⟩ : ∃ (ι : Type) (W : ι → World), (∃ i, World.drew w = W i) ∧ (∀ i, ∃ gx, isCore L x gx ∧ TG [turnB kb L.fb pv (sVal L k) k ++ (gd ++ e.1), gC ++ (gW ++ gP)] w [turnB kb L.fb pv (sVal L k) k, gd, e.1, gx, gW, gP] (W i)) ∧ (∀ w', (∃ gx, isCore L x gx ∧ TG [turnB kb L.fb pv (sVal L k) k ++ (gd ++ e.1), gC ++ (gW ++ gP)] w [turnB kb L.fb pv (sVal L k) k, gd, e.1, gx, gW, gP] w') → ∃ i, w' = W i) := ⟨{w' // ∃ gx, isCore L x gx ∧ TG [turnB kb L.fb pv (sVal L k) k ++ (gd ++ e.1), gC ++ (gW ++ gP)] w [turnB kb L.fb pv (sVal L k) k, gd, e.1, gx, gW, gP] w'}, Subtype.val, ⟨⟨_, gC, HX.out, HT.out.drew⟩, rfl⟩, fun i => i.2, fun w' h => ⟨⟨w', h⟩, rfl⟩⟩
  have hne : Nonempty ι := hW0.elim fun i _ => ⟨i⟩
  have b0 : ∀ i, (W i).cell? ⟨bk, 0, none⟩ = some (ptr' kb) := fun i => by obtain ⟨_, _, T⟩ := hend i; exact T.mem_cell 2 HB.out 0
  have k10 : ∀ i, (W i).cell? ⟨kb, 10, none⟩ = some (ptr' q.b) := fun i => by obtain ⟨_, _, T⟩ := hend i; exact HSV.out ▸ T.cell 0 0 rfl 10
  have k1 : ∀ i, (W i).cell? ⟨kb, 1, none⟩ = some (.int .i64 k.th) := fun i => by obtain ⟨_, _, T⟩ := hend i; exact T.cell 0 0 rfl 1
  have m1 : ∀ i, Calls Tryz.prog 38 #[ptr' q.b] (W i) fun e w2 => e = .returned (ptr' q.lb) ∧ ∃ j, w2 = W j := fun i => by
    obtain ⟨_, hg, T⟩ := hend i
    refine (DoesG.use (HLO.out _ hg) T [3] rfl rfl).mono ?_
    rintro e w2 ⟨gs, ⟨rfl, g3, hg3, rfl⟩, T2⟩
    exact ⟨rfl, hin _ ⟨g3, hg3, T2⟩⟩
  have m2 : ∀ i, Calls Tryz.prog 255 #[ptr' q.lb, .int .i64 k.th] (W i) fun e w2 => e = .returned (.bool mv) ∧ ∃ j, w2 = W j := fun i => by
    obtain ⟨_, hg, T⟩ := hend i
    refine (DoesG.use (HLM.out _ hg) T [3] rfl rfl).mono ?_
    rintro e w2 ⟨gs, ⟨rfl, g3, hg3, rfl⟩, T2⟩
    exact ⟨rfl, hin _ ⟨g3, hg3, T2⟩⟩
  refine wp_region_cls W (by kernel_rfl) (by kernel_rfl) hW0 ?_
  repeat (go_big_quiet_step ((first | (go_at_call 38; with_reducible exact m1 _) | (go_at_call 255; with_reducible exact m2 _))))
  refine wpQuiet_nil ?_
  intro _ hw
  obtain ⟨iq, hw2⟩ := hw
  subst hw2
  obtain ⟨g1, hx1, T⟩ := hend iq
  have HT := Lib.hid T
  generalize W iq = w1 at HT ⊢
  clear T hend hin hW0 hne
  have HX1 := Lib.hid hx1
  clear hx1 b0 k10 k1 m1 m2
  go_wp2
  go_ret
  exact ⟨_, YRT.of ⟨_, _, by rw [HMV.out]; rfl, ⟨gd, g1, gW, gP, HD.out, HX1.out, HW.out, HPP.out, rfl, rfl⟩, rfl⟩, HT.out.sum2 (fun n ha h0 h1 h2 => by simp only [SU, ha, h0, h1, h2] <;> omega)⟩
set_option maxRecDepth 100000 in
set_option maxHeartbeats 4000000 in
theorem aUnlock (hz : repT L kb pv e ⟨k, x, ws, p⟩ gK gF) (hp : preAT .unlock ⟨k, x, ws, p⟩) (bk : Nat) (hb : kBox kb bk e) :
    DoesG Tryz.prog 266 #[ptr' bk] [gK, gF] (ART L kb pv e (runAT .unlock ⟨k, x, ws, p⟩)) := by
  obtain ⟨ho, hh, hwho, hth1⟩ := hp
  obtain ⟨gd, gC, gW, gP, hd, hx, hw, hpp, rfl, rfl⟩ := hz
  obtain ⟨i, q, s, S, hki, hq, hs, hS, hsv, hsh, hss, hwh, hwo, hrb, ht0, ht1⟩ := turn_sh hx hw ho hh
  rw [hss] at hwho
  have hth : 0 ≤ k.th ∧ k.th ≤ 1000000 := ⟨ho.th, hth1⟩
  clear hth1
  have hwho : s.who = k.th + 1 := hwho
  rw [show runAT .unlock ⟨k, x, ws, p⟩ = ⟨k, { x with shs := x.shs.set i { s with who := 0, turns := s.turns } }, ws, p⟩ by
    simp only [runAT, ZT.onSh, hss, hsh]]
  have HLO := Lib.hid (fun (g : List Blk) (hg : isCore L x g) => coreLockOf_r hg hq hs)
  have HLT := Lib.hid (fun (g : List Blk) (hg : isCore L x g) => coreLockDo (v := .int .i64 0) hg hq hs fun g hl => lockLeave_g k.th (hwho ▸ hl) ⟨hth.1, by omega⟩)
  clear hth ho hh hki hq hs hS hsh hss hwh hwo hrb ht0 ht1 hwho
  intro w hw
  have T0 := TG.refl hw
  have HT := Lib.hid T0
  clear hw T0
  have HT := Lib.hid (HT.out.sum (H' := [turnB kb L.fb pv (sVal L k) k, gd, e.1, gC, gW, gP]) (fun n ha h0 h1 h2 => by simp only [SU, ha, h0, h1, h2] <;> omega))
  have HX := Lib.hid hx
  have HD := Lib.hid hd
  have HW := Lib.hid hw
  have HPP := Lib.hid hpp
  have HSV := Lib.hid hsv
  clear hx hd hw hpp hsv
  have HB := Lib.hid (show cl bk 56 #[ptr' kb] ∈ e.1 from hb)
  clear hb
  have ltb := HT.out.mem_lt 2 HB.out
  simp only [] at ltb
  go_enter Tryz.func266, Tryz.ntmps266
  go_wp2_with fail
  obtain ⟨ι, W, hW0, hend, hin⟩ : ∃ (ι : Type) (W : ι → World), (∃ i, World.drew w = W i) ∧ (∀ i, ∃ gx, isCore L x gx ∧ TG [turnB kb L.fb pv (sVal L k) k ++ (gd ++ e.1), gC ++ (gW ++ gP)] w [turnB kb L.fb pv (sVal L k) k, gd, e.1, gx, gW, gP] (W i)) ∧ (∀ w', (∃ gx, isCore L x gx ∧ TG [turnB kb L.fb pv (sVal L k) k ++ (gd ++ e.1), gC ++ (gW ++ gP)] w [turnB kb L.fb pv (sVal L k) k, gd, e.1, gx, gW, gP] w') → ∃ i, w' = W i) := ⟨{w' // ∃ gx, isCore L x gx ∧ TG [turnB kb L.fb pv (sVal L k) k ++ (gd ++ e.1), gC ++ (gW ++ gP)] w [turnB kb L.fb pv (sVal L k) k, gd, e.1, gx, gW, gP] w'}, Subtype.val, ⟨⟨_, gC, HX.out, HT.out.drew⟩, rfl⟩, fun i => i.2, fun w' h => ⟨⟨w', h⟩, rfl⟩⟩
  have hne : Nonempty ι := hW0.elim fun i _ => ⟨i⟩
  have b0 : ∀ i, (W i).cell? ⟨bk, 0, none⟩ = some (ptr' kb) := fun i => by obtain ⟨_, _, T⟩ := hend i; exact T.mem_cell 2 HB.out 0
  have k10 : ∀ i, (W i).cell? ⟨kb, 10, none⟩ = some (ptr' q.b) := fun i => by obtain ⟨_, _, T⟩ := hend i; exact HSV.out ▸ T.cell 0 0 rfl 10
  have k1 : ∀ i, (W i).cell? ⟨kb, 1, none⟩ = some (.int .i64 k.th) := fun i => by obtain ⟨_, _, T⟩ := hend i; exact T.cell 0 0 rfl 1
  have m1 : ∀ i, Calls Tryz.prog 38 #[ptr' q.b] (W i) fun e w2 => e = .returned (ptr' q.lb) ∧ ∃ j, w2 = W j := fun i => by
    obtain ⟨_, hg, T⟩ := hend i
    refine (DoesG.use (HLO.out _ hg) T [3] rfl rfl).mono ?_
    rintro e w2 ⟨gs, ⟨rfl, g3, hg3, rfl⟩, T2⟩
    exact ⟨rfl, hin _ ⟨g3, hg3, T2⟩⟩
  refine wp_region_mix (fun w' => ∃ i, w' = W i) 9 (by kernel_rfl) (by kernel_rfl) hW0 ?_
  simp only [List.take_succ_cons, List.take_zero, List.drop_succ_cons, List.drop_zero]
  repeat (go_big_quiet_step ((first | (go_at_call 38; with_reducible exact m1 _))))
  refine wpQuiet_nil ?_
  intro _ hw'
  obtain ⟨iq, hw''⟩ := hw'
  subst hw''
  obtain ⟨g1, hx1, T⟩ := hend iq
  have HT := Lib.hid T
  generalize W iq = w1 at HT ⊢
  clear T hend hin hW0 hne
  have HX1 := Lib.hid hx1
  clear hx1 b0 k10 k1 m1
  go_wp2_with fail
  refine (DoesG.use (HLT.out _ HX1.out) (HT.out) [3] rfl rfl).mono ?_
  rintro e w1 ⟨gs, ⟨rfl, g2, hx2, rfl⟩, Ta⟩
  simp only [PU] at Ta
  have HX := Lib.hid hx2
  clear hx2
  have HT := Lib.hid Ta
  clear Ta
  go_wp2_with fail
  refine ⟨rfl, ?_⟩
  go_wp2
  exact bodyPost_end (results_none rfl _ _ _) rfl ⟨_, ART.of ⟨e, leT.refl e, _, _, rfl, ⟨gd, _, gW, gP, HD.out, HX.out, HW.out, HPP.out, rfl, rfl⟩, rfl⟩, HT.out.sum2 (fun n ha h0 h1 h2 => by simp only [SU, ha, h0, h1, h2] <;> omega)⟩
end
end Go.Proofs.YtblhfbcodbjgcaaGreat

namespace Go.Proofs.YtblhfbcodbjgcaaGreat
set_option linter.unusedVariables false
set_option linter.unusedSimpArgs false
open Go.RowKit Go.Shelf
section
variable {L : Lay} {x : CoreS} {ws : List WheelS} {p : PipeS} {e : ET} {g gC gK gF : List Blk} {kb : Nat} {pv sv : Value} {k : TurnS}
set_option maxRecDepth 100000 in
theorem aLeave1 (hz : repT L kb pv e ⟨k, x, ws, p⟩ gK gF) (hp : preAT .leave1 ⟨k, x, ws, p⟩) (bk : Nat) (hb : kBox kb bk e) :
    DoesG Tryz.prog 240 #[ptr' bk] [gK, gF] (ART L kb pv e (runAT .leave1 ⟨k, x, ws, p⟩)) := by
  have hi0 := hp.1.core.i0
  have hi1 := hp.1.core.i1
  simp only at hi0 hi1
  clear hp
  simp only [runAT]
  obtain ⟨gd, gC, gW, gP, hd, hx, hw, hpp, rfl, rfl⟩ := hz
  intro w hw
  have T0 := TG.refl hw
  have HT := Lib.hid T0
  clear hw T0
  have HT := Lib.hid (HT.out.sum (H' := [turnB kb L.fb pv (sVal L k) k, gd, e.1, gC, gW, gP]) (fun n ha h0 h1 h2 => by simp only [SU, ha, h0, h1, h2] <;> omega))
  have HX := Lib.hid hx
  have HD := Lib.hid hd
  have HW := Lib.hid hw
  have HPP := Lib.hid hpp
  clear hx hd hw hpp
  have HLV := Lib.hid (coreLeave HX.out ⟨hi0, hi1⟩)
  clear hi0 hi1
  have HB := Lib.hid (show cl bk 56 #[ptr' kb] ∈ e.1 from hb)
  clear hb
  have b0 := HT.out.mem_cell 2 HB.out 0
  have ltb := HT.out.mem_lt 2 HB.out
  simp only [List.getElem?_toArray, List.getElem?_cons_zero] at b0 ltb
  have k0 := HT.out.cell 0 0 rfl 0
  simp only [turnC, List.getElem?_toArray, List.getElem?_cons_zero, List.getElem?_cons_succ] at k0
  go_enter Tryz.func240, Tryz.ntmps240
  go_wp2_with fail
  refine (DoesG.use (HLV.out) (HT.out) [3] rfl rfl).mono ?_
  rintro e w1 ⟨gs, ⟨rfl, g2, hx2, rfl⟩, Ta⟩
  simp only [PU] at Ta
  have HX := Lib.hid hx2
  clear hx2
  have HT := Lib.hid Ta
  clear Ta
  go_wp2
  exact bodyPost_end (results_none rfl _ _ _) rfl ⟨_, ART.of ⟨e, leT.refl e, _, _, rfl, ⟨gd, _, gW, gP, HD.out, HX.out, HW.out, HPP.out, rfl, rfl⟩, rfl⟩, HT.out.sum2 (fun n ha h0 h1 h2 => by simp only [SU, ha, h0, h1, h2] <;> omega)⟩
set_option maxRecDepth 100000 in
theorem aAnswer (hz : repT L kb pv e ⟨k, x, ws, p⟩ gK gF) (hp : preAT .answer ⟨k, x, ws, p⟩) (bk : Nat) (hb : kBox kb bk e) :
    DoesG Tryz.prog 241 #[ptr' bk] [gK, gF] (ART L kb pv e (runAT .answer ⟨k, x, ws, p⟩)) := by
  have HTR := Lib.hid (show x.tr.length ≤ 1000000 from hp.1.core.tr)
  clear hp
  rw [show runAT .answer ⟨k, x, ws, p⟩ = ⟨k, { x with tr := x.tr ++ [evT k { ev0 with kind := 2, err := k.err }] }, ws, p⟩ from rfl]
  obtain ⟨gd, gC, gW, gP, hd, hx, hw, hpp, rfl, rfl⟩ := hz
  intro w hw
  have T0 := TG.refl hw
  have HT := Lib.hid T0
  clear hw T0
  have HT := Lib.hid (HT.out.sum (H' := [turnB kb L.fb pv (sVal L k) k, gd, e.1, gC, gW, gP]) (fun n ha h0 h1 h2 => by simp only [SU, ha, h0, h1, h2] <;> omega))
  have HX := Lib.hid hx
  have HD := Lib.hid hd
  have HW := Lib.hid hw
  have HPP := Lib.hid hpp
  clear hx hd hw hpp
  have hnt := turnNote (kb := kb) (pv := pv) (sv := sVal L k) (k := k) HX.out { ev0 with kind := 2, err := k.err } HTR.out
  simp only [EvS.cells, ev0] at hnt
  have HNT := Lib.hid hnt
  clear hnt HTR
  have HB := Lib.hid (show cl bk 56 #[ptr' kb] ∈ e.1 from hb)
  clear hb
  have b0 := HT.out.mem_cell 2 HB.out 0
  have ltb := HT.out.mem_lt 2 HB.out
  simp only [List.getElem?_toArray, List.getElem?_cons_zero] at b0 ltb
  have k3 := HT.out.cell 0 0 rfl 3
  simp only [turnC, List.getElem?_toArray, List.getElem?_cons_zero, List.getElem?_cons_succ] at k3
  go_enter Tryz.func241, Tryz.ntmps241
  go_wp2_with fail
  refine wp_region_mix1 7 (by kernel_rfl) (by kernel_rfl) ?_
  simp only [List.take_succ_cons, List.take_zero, List.drop_succ_cons, List.drop_zero]
  repeat (go_big_quiet_step ((fail)))
  refine wpQuiet_nil ?_
  intro _ hw'
  obtain ⟨nq, hw''⟩ := hw'
  subst hw''
  have HT := Lib.hid (HT.out.drewN nq)
  go_wp2_with fail
  refine (DoesG.use (HNT.out) (HT.out) [0, 3] rfl rfl).mono ?_
  rintro e w1 ⟨gs, ⟨rfl, g2, hx2, rfl⟩, Ta⟩
  simp only [PU] at Ta
  have HX := Lib.hid hx2
  clear hx2
  have HT := Lib.hid Ta
  clear Ta
  go_wp2_with fail
  refine ⟨rfl, ?_⟩
  go_wp2
  exact bodyPost_end (results_none rfl _ _ _) rfl ⟨_, ART.of ⟨e, leT.refl e, _, _, rfl, ⟨gd, _, gW, gP, HD.out, HX.out, HW.out, HPP.out, rfl, rfl⟩, rfl⟩, HT.out.sum2 (fun n ha h0 h1 h2 => by simp only [SU, ha, h0, h1, h2] <;> omega)⟩
set_option maxRecDepth 100000 in
theorem aDropT (hz : repT L kb pv e ⟨k, x, ws, p⟩ gK gF) (hp : preAT .drop ⟨k, x, ws, p⟩) (bk : Nat) (hb : kBox kb bk e) :
    DoesG Tryz.prog 343 #[ptr' bk] [gK, gF] (ART L kb pv e (runAT .drop ⟨k, x, ws, p⟩)) := by
  have hcore : CoreOk x := hp.1.core
  clear hp
  simp only [runAT]
  obtain ⟨gd, gC, gW, gP, hd, hx, hw, hpp, rfl, rfl⟩ := hz
  intro w hw
  have T0 := TG.refl hw
  have HT := Lib.hid T0
  clear hw T0
  have HT := Lib.hid (HT.out.sum (H' := [turnB kb L.fb pv (sVal L k) k, gd, e.1, gC, gW, gP]) (fun n ha h0 h1 h2 => by simp only [SU, ha, h0, h1, h2] <;> omega))
  have HX := Lib.hid hx
  have HD := Lib.hid hd
  have HW := Lib.hid hw
  have HPP := Lib.hid hpp
  clear hx hd hw hpp
  have HDR := Lib.hid (fun (g : List Blk) (hx : isCore L x g) => coreDrop hx hcore.slab.c0 (by have := hcore.slab.c1; have := hcore.slab.n1; omega))
  clear hcore
  have HB := Lib.hid (show cl bk 56 #[ptr' kb] ∈ e.1 from hb)
  clear hb
  have b0 := HT.out.mem_cell 2 HB.out 0
  have ltb := HT.out.mem_lt 2 HB.out
  simp only [List.getElem?_toArray, List.getElem?_cons_zero] at b0 ltb
  have k0 := HT.out.cell 0 0 rfl 0
  simp only [turnC, List.getElem?_toArray, List.getElem?_cons_zero, List.getElem?_cons_succ] at k0
  go_enter Tryz.func343, Tryz.ntmps343
  go_wp2_with fail
  refine (ReadsG.use (coreSlab_r HX.out) (HT.out) [3] rfl rfl).mono ?_
  rintro e w1 ⟨rfl, mq, rfl⟩
  have HT := Lib.hid (HT.out.drewN mq)
  generalize World.drewN _ _ = wq at HT ⊢
  go_wp2_with fail
  refine (DoesG.use (HDR.out _ HX.out) (HT.out) [3] rfl rfl).mono ?_
  rintro e w1 ⟨gs, ⟨rfl, g2, hx2, rfl⟩, Ta⟩
  simp only [PU] at Ta
  have HX := Lib.hid hx2
  clear hx2
  have HT := Lib.hid Ta
  clear Ta
  go_wp2
  exact bodyPost_end (results_none rfl _ _ _) rfl ⟨_, ART.of ⟨e, leT.refl e, _, _, rfl, ⟨gd, _, gW, gP, HD.out, HX.out, HW.out, HPP.out, rfl, rfl⟩, rfl⟩, HT.out.sum2 (fun n ha h0 h1 h2 => by simp only [SU, ha, h0, h1, h2] <;> omega)⟩
set_option maxRecDepth 100000 in
set_option maxHeartbeats 4000000 in
theorem aPut (f : FireS) (hz : repT L kb pv e ⟨k, x, ws, p⟩ gK gF) (hp : preAT (.put f) ⟨k, x, ws, p⟩) (bk bf : Nat) (hb : kBox kb bk e) (hbf : cl bf 69 f.vals.toArray ∈ e.1) :
    DoesG Tryz.prog 322 #[ptr' bk, ptr' bf] [gK, gF] (ART L kb pv e (runAT (.put f) ⟨k, x, ws, p⟩)) := by
  have hpo : PipeOk p := hp.1.pipe
  clear hp
  simp only [runAT]
  obtain ⟨gd, gC, gW, gP, hd, hx, hw, hpp, rfl, rfl⟩ := hz
  intro w hw
  have T0 := TG.refl hw
  have HT := Lib.hid T0
  clear hw T0
  have HT := Lib.hid (HT.out.sum (H' := [turnB kb L.fb pv (sVal L k) k, gd, e.1, gC, gW, gP]) (fun n ha h0 h1 h2 => by simp only [SU, ha, h0, h1, h2] <;> omega))
  have HX := Lib.hid hx
  have HD := Lib.hid hd
  have HW := Lib.hid hw
  have HPP := Lib.hid hpp
  clear hx hd hw hpp
  have hput := pipePut_g HPP.out f hpo.sp
  simp only [FireS.vals] at hput hbf
  have HPU := Lib.hid hput
  clear hput hpo
  have f0 := HT.out.mem_cell 2 hbf 0
  have f1 := HT.out.mem_cell 2 hbf 1
  have f2 := HT.out.mem_cell 2 hbf 2
  have f3 := HT.out.mem_cell 2 hbf 3
  have ltf := HT.out.mem_lt 2 hbf
  simp only [List.getElem?_toArray, List.getElem?_cons_zero, List.getElem?_cons_succ] at f0 f1 f2 f3 ltf
  clear hbf
  have HB := Lib.hid (show cl bk 56 #[ptr' kb] ∈ e.1 from hb)
  clear hb
  have b0 := HT.out.mem_cell 2 HB.out 0
  have ltb := HT.out.mem_lt 2 HB.out
  simp only [List.getElem?_toArray, List.getElem?_cons_zero] at b0 ltb
  have k0 := HT.out.cell 0 0 rfl 0
  simp only [turnC, List.getElem?_toArray, List.getElem?_cons_zero, List.getElem?_cons_succ] at k0
  go_enter Tryz.func322, Tryz.ntmps322
  go_wp2_with fail
  refine wp_region_mix1 6 (by kernel_rfl) (by kernel_rfl) ?_
  simp only [List.take_succ_cons, List.take_zero, List.drop_succ_cons, List.drop_zero]
  repeat (go_big_quiet_step ((first | (go_at_call 40; with_reducible exact ReadsG.quiet (corePipe_r HX.out) HT.out _ [3] rfl rfl))))
  refine wpQuiet_nil ?_
  intro _ hw'
  obtain ⟨nq, hw''⟩ := hw'
  subst hw''
  have HT := Lib.hid (HT.out.drewN nq)
  go_wp2_with fail
  refine (DoesG.use (HPU.out) (HT.out) [5] rfl rfl).mono ?_
  rintro e w1 ⟨gs, ⟨rfl, g2, hp2, rfl⟩, Ta⟩
  simp only [PU] at Ta
  have HPP := Lib.hid hp2
  clear hp2
  have HT := Lib.hid Ta
  clear Ta
  go_wp2_with fail
  refine ⟨rfl, ?_⟩
  go_wp2
  exact bodyPost_end (results_none rfl _ _ _) rfl ⟨_, ART.of ⟨e, leT.refl e, _, _, rfl, ⟨gd, _, gW, _, HD.out, HX.out, HW.out, HPP.out, rfl, rfl⟩, rfl⟩, HT.out.sum2 (fun n ha h0 h1 h2 => by simp only [SU, ha, h0, h1, h2] <;> omega)⟩
set_option maxRecDepth 100000 in
set_option maxHeartbeats 4000000 in
theorem aRelT (hz : repT L kb pv e ⟨k, x, ws, p⟩ gK gF) (hp : preAT .rel ⟨k, x, ws, p⟩) (bk : Nat) (hb : kBox kb bk e) :
    DoesG Tryz.prog 342 #[ptr' bk] [gK, gF] (ART L kb pv e (runAT .rel ⟨k, x, ws, p⟩)) := by
  have hok : CoreOk x := hp.1.core
  obtain ⟨w0, w1, w2⟩ := word_bd hok.slab k.t.slot
  simp only [runAT]
  have HY := Lib.hid (show ∀ g', isCore L x g' → _ from fun g' hx' => coreTry (g := g') hx' hok.slab.n1 k.t.slot (x.slab.word k.t.slot) 10 w0 w1)
  have HWD := Lib.hid (show ∀ g', isCore L x g' → _ from fun g' hx' => coreWord (g := g') hx' hok.slab.n1 k.t.slot)
  clear w0 w1 w2 hok hp
  obtain ⟨gd, gC, gW, gP, hd, hx, hw, hpp, rfl, rfl⟩ := hz
  intro w hw
  have T0 := TG.refl hw
  have HT := Lib.hid T0
  clear hw T0
  have HT := Lib.hid (HT.out.sum (H' := [turnB kb L.fb pv (sVal L k) k, gd, e.1, gC, gW, gP]) (fun n ha h0 h1 h2 => by simp only [SU, ha, h0, h1, h2] <;> omega))
  have HX := Lib.hid hx
  have HD := Lib.hid hd
  have HW := Lib.hid hw
  have HPP := Lib.hid hpp
  clear hx hd hw hpp
  have HB := Lib.hid (show cl bk 56 #[ptr' kb] ∈ e.1 from hb)
  clear hb
  have b0 := HT.out.mem_cell 2 HB.out 0
  have ltb := HT.out.mem_lt 2 HB.out
  simp only [List.getElem?_toArray, List.getElem?_cons_zero] at b0 ltb
  have k0 := HT.out.cell 0 0 rfl 0
  have k12 := HT.out.cell 0 0 rfl 12
  simp only [turnC, List.getElem?_toArray, List.getElem?_cons_zero, List.getElem?_cons_succ] at k0 k12
  go_enter Tryz.func342, Tryz.ntmps342
  go_wp2_with fail
  refine wp_region_mix1 10 (by kernel_rfl) (by kernel_rfl) ?_
  simp only [List.take_succ_cons, List.take_zero, List.drop_succ_cons, List.drop_zero]
  repeat (go_big_quiet_step ((first | (go_at_call 22; with_reducible exact ReadsG.quiet (coreSlab_r HX.out) HT.out _ [3] rfl rfl))))
  refine wpQuiet_nil ?_
  intro _ hw'
  obtain ⟨nq, hw''⟩ := hw'
  subst hw''
  have HT := Lib.hid (HT.out.drewN nq)
  go_wp2_with fail
  refine (DoesG.use (HWD.out _ HX.out) (HT.out) [3] rfl rfl).mono ?_
  rintro e w1 ⟨gs, ⟨rfl, g1, hx1, rfl⟩, Ta⟩
  simp only [PU] at Ta
  have HX := Lib.hid hx1
  clear hx1 k0 k12 b0 ltb
  have HT := Lib.hid Ta
  clear Ta
  go_wp2_with fail
  refine ⟨rfl, ?_⟩
  have hb := HB.out
  have HB := Lib.hid (show cl bk 56 #[ptr' kb] ∈ e.1 from hb)
  clear hb
  have b0 := HT.out.mem_cell 2 HB.out 0
  have ltb := HT.out.mem_lt 2 HB.out
  simp only [List.getElem?_toArray, List.getElem?_cons_zero] at b0 ltb
  have k0 := HT.out.cell 0 0 rfl 0
  have k12 := HT.out.cell 0 0 rfl 12
  simp only [turnC, List.getElem?_toArray, List.getElem?_cons_zero, List.getElem?_cons_succ] at k0 k12
  go_wp2_with fail
  refine wp_region_mix1 11 (by kernel_rfl) (by kernel_rfl) ?_
  simp only [List.take_succ_cons, List.take_zero, List.drop_succ_cons, List.drop_zero]
  repeat (go_big_quiet_step ((first | (go_at_call 22; with_reducible exact ReadsG.quiet (coreSlab_r HX.out) HT.out _ [3] rfl rfl))))
  refine wpQuiet_nil ?_
  intro _ hw'
  obtain ⟨nq, hw''⟩ := hw'
  subst hw''
  have HT := Lib.hid (HT.out.drewN nq)
  go_wp2_with fail
  refine (DoesG.use (HY.out _ HX.out) (HT.out) [3] rfl rfl).mono ?_
  rintro e w1 ⟨gs, ⟨rfl, g2, hx2, rfl⟩, Ta⟩
  simp only [PU] at Ta
  have HX2 := Lib.hid hx2
  clear hx2 k0 k12 b0
  have HT := Lib.hid Ta
  clear Ta
  go_wp2_with fail
  refine ⟨rfl, ?_⟩
  go_wp2
  exact bodyPost_end (results_none rfl _ _ _) rfl ⟨_, ART.of ⟨e, leT.refl e, _, _, rfl, ⟨gd, _, gW, gP, HD.out, HX2.out, HW.out, HPP.out, rfl, rfl⟩, rfl⟩, HT.out.sum2 (fun n ha h0 h1 h2 => by simp only [SU, ha, h0, h1, h2] <;> omega)⟩
set_option maxRecDepth 100000 in
set_option maxHeartbeats 4000000 in
theorem aTurnA (d : Nat) (hz : repT L kb pv e ⟨k, x, ws, p⟩ gK gF) (hp : preAT (.turnA d) ⟨k, x, ws, p⟩) (bk bd : Nat) (hb : kBox kb bk e) (hbd : e.2[d]? = some bd) :
    DoesG Tryz.prog 261 #[ptr' bk, ptr' bd] [gK, gF] (ART L kb pv e (runAT (.turnA d) ⟨k, x, ws, p⟩)) := by
  obtain ⟨ho, hh, hc⟩ := hp
  have hc : k.nd = d + 1 := hc
  obtain ⟨gd, gC, gW, gP, hd, hx, hw, hpp, rfl, rfl⟩ := hz
  obtain ⟨i, q, s, S, hki, hq, hs, hS, hsv, hsh, hss, hwh, hwo, hrb, ht0, ht1⟩ := turn_sh hx hw ho hh
  obtain ⟨v0, gr, hr, rfl⟩ := due_cur hd hc hbd
  rw [show runAT (.turnA d) ⟨k, x, ws, p⟩ = ⟨{ k with due := S.adv.2.map EntS.v }, x, ws.set i S.adv.1, p⟩ by simp only [runAT, hsh, hwh]]
  have HTU := Lib.hid (coreTurnS hx hw hq hs hS hwo)
  have HL := Lib.hid (And.intro hd.1 (And.intro hc hbd))
  clear ho hh hc hd hr hki hq hs hS hsh hss hwh hwo hrb ht0 ht1 hbd
  intro w hw
  have T0 := TG.refl hw
  have HT := Lib.hid T0
  clear hw T0
  have HT := Lib.hid (HT.out.sum (H' := [turnB kb L.fb pv (sVal L k) k, [cl bd 343 #[v0]], e.1, gC, gW, gP, gr]) (fun n ha h0 h1 h2 => by simp only [SU, ha, h0, h1, h2] <;> omega))
  have HPP := Lib.hid hpp
  clear hx hw hpp
  have HB := Lib.hid (show cl bk 56 #[ptr' kb] ∈ e.1 from hb)
  clear hb
  have b0 := HT.out.mem_cell 2 HB.out 0
  have ltb := HT.out.mem_lt 2 HB.out
  simp only [List.getElem?_toArray, List.getElem?_cons_zero] at b0 ltb
  have k10 := HT.out.cell 0 0 rfl 10
  simp only [turnC, List.getElem?_toArray, List.getElem?_cons_zero, List.getElem?_cons_succ, hsv] at k10
  clear hsv
  go_enter Tryz.func261, Tryz.ntmps261
  go_wp2_with fail
  refine (DoesG.use (HTU.out) (HT.out) [3, 4] rfl rfl).mono ?_
  rintro e w1 ⟨gs, ⟨v, g5, rfl, hr, gC', gW', hx', hw', rfl⟩, Ta⟩
  simp only [PU] at Ta
  have HX := Lib.hid hx'
  have HW := Lib.hid hw'
  have HR := Lib.hid hr
  clear hx' hw' k10 b0 ltb
  have HT := Lib.hid Ta
  clear Ta
  obtain ⟨av, cap, rfl⟩ := hr.val
  clear hr
  have d0 := HT.out.cell 1 0 rfl 0
  have fd0 := HT.out.free 1 0 rfl 0
  simp only [List.getElem?_nil, List.getElem?_toArray, List.getElem?_cons_zero, List.getElem?_cons_succ] at d0
  go_wp2
  exact bodyPost_end (results_none rfl _ _ _) rfl ⟨_, ART.of ⟨e, leT.refl e, _, _, rfl, ⟨[cl bd 343 #[.slice av S.adv.2.length cap]] ++ g5, _, _, _, ⟨HL.out.1, .inr ⟨d, bd, _, g5, HL.out.2.1, HL.out.2.2, by rw [List.length_map]; exact HR.out, rfl⟩⟩, HX.out, HW.out, HPP.out, (rfl : turnB kb L.fb pv (sVal L k) { k with due := S.adv.2.map EntS.v } ++ (([cl bd 343 #[.slice av S.adv.2.length cap]] ++ g5) ++ e.1) = _), rfl⟩, rfl⟩, (((HT.out.set 1 0 rfl 0 (.slice av S.adv.2.length cap)).eq (H' := [turnB kb L.fb pv (sVal L k) { k with due := S.adv.2.map EntS.v }, [cl bd 343 #[.slice av S.adv.2.length cap]], e.1, gC', gW', gP, gr, g5]) rfl).pick [0, 1, 2, 3, 4, 5, 7] rfl).sum2 (fun n ha h0 h1 h2 => by simp only [SU, ha, h0, h1, h2] <;> omega)⟩
set_option maxRecDepth 100000 in
theorem yReady (i : Nat) (hz : repT L kb pv e ⟨k, x, ws, p⟩ gK gF) (hp : preYT (.ready i) ⟨k, x, ws, p⟩) {q : ShP} (hq : L.qs[i]? = some q) :
    DoesG Tryz.prog 280 #[ptr' q.b] [gK, gF] (YRT L kb pv e (.ready i) ⟨k, x, ws, p⟩) := by
  obtain ⟨ho, hi⟩ := hp
  have hi : i < x.shs.length := hi
  have hs : x.shs[i]? = some x.shs[i] := List.getElem?_eq_getElem hi
  have hrb : RingB x.shs[i].ring := ho.core.ring _ (List.getElem_mem hi)
  have hm : mayT (.ready i) ⟨k, x, ws, p⟩ = x.shs[i].ring.ready := by
    simp only [mayT, List.getD_eq_getElem?_getD, hs, Option.getD_some]
  obtain ⟨gd, gC, gW, gP, hd, hx, hw, hpp, rfl, rfl⟩ := hz
  intro w hw'
  have T := (TG.refl hw').sum (H' := [turnB kb L.fb pv (sVal L k) k, gd, e.1, gC, gW, gP]) (fun n ha h0 h1 h2 => by simp only [SU, ha, h0, h1, h2] <;> omega)
  refine (DoesG.use (coreReady hx hq hs hrb) T [3] rfl rfl).mono ?_
  rintro en w' ⟨gs, ⟨rfl, g', hx', rfl⟩, T'⟩
  simp only [PU] at T'
  exact ⟨_, YRT.of ⟨_, _, by rw [hm], ⟨gd, g', gW, gP, hd, hx', hw, hpp, rfl, rfl⟩, rfl⟩, T'.sum2 (fun n ha h0 h1 h2 => by simp only [SU, ha, h0, h1, h2] <;> omega)⟩
end
end Go.Proofs.YtblhfbcodbjgcaaGreat

namespace Go.Proofs.YtblhfbcodbjgcaaGreat
set_option linter.unusedVariables false
set_option linter.unusedSimpArgs false
open Go.RowKit Go.Shelf
section
variable {L : Lay} {x : CoreS} {ws : List WheelS} {p : PipeS} {e : ET} {g gC gK gF : List Blk} {kb : Nat} {pv sv : Value} {k : TurnS}
set_option maxRecDepth 100000 in
set_option maxHeartbeats 8000000 in
theorem tOne21 (d : Nat) (hz : repT L kb pv e ⟨k, x, ws, p⟩ gK gF) (hp : preT (.one21 d) ⟨k, x, ws, p⟩) (bk bd : Nat) (hb : kBox kb bk e) (hbd : e.2[d]? = some bd) :
    DoesG Tryz.prog 258 #[ptr' bk, ptr' bd] [gK, gF] (MRT L kb pv e (runT (.one21 d) ⟨k, x, ws, p⟩).1 (runT (.one21 d) ⟨k, x, ws, p⟩).2) := by
  obtain ⟨ho, hh, hc⟩ := hp
  obtain ⟨gd, gC, gW, gP, hd, hx, hw, hpp, rfl, rfl⟩ := hz
  obtain ⟨i, q, s, S, hki, hq, hs, hS, hsv, hsh, hss, hwh, hwo, hrb, ht0, ht1⟩ := turn_sh hx hw ho hh
  have hwt := coreWaiting hx hq hs hrb
  have hpo := sPops (kb := kb) (pv := pv) (k := k) hq (s.ring.tail - s.ring.head)
  have hon : ∀ (e' : ET) gK gF, repT L kb pv e' ⟨k, x, ws, p⟩ gK gF → kBox kb bk e' → e'.2[d]? = some bd → _ := fun e' gK gF hz h1 h2 => tOne211 d hz bk bd h1 h2
  simp only [runT, hss, popsT, hsh]
  generalize s.ring.tail - s.ring.head = n at *
  by_cases hn : n ≤ 0
  · rw [if_pos hn] at hpo ⊢
    obtain ⟨sq, hst⟩ : ∃ sq, one211T d ⟨k, x, ws, p⟩ = (sq, ⟨k, x, ws, p⟩) := ⟨_, rfl⟩
    rw [hst] at hon ⊢
    dsimp only at hon ⊢
    intro w hw
    have T0 := TG.refl hw
    have HT := Lib.hid T0
    clear hw T0
    have HT := Lib.hid (HT.out.sum (H' := [turnB kb L.fb pv (sVal L k) k, gd, e.1, gC, gW, gP]) (fun n ha h0 h1 h2 => by simp only [SU, ha, h0, h1, h2] <;> omega))
    have HD := Lib.hid hd
    have HW := Lib.hid hw
    have HPP := Lib.hid hpp
    have HWT := Lib.hid hwt
    rw [← hsv] at hpo
    have HPO := Lib.hid hpo
    have HON := Lib.hid hon
    have HSV := Lib.hid hsv
    have HB := Lib.hid (show cl bk 56 #[ptr' kb] ∈ e.1 from hb)
    have HBD := Lib.hid hbd
    clear ho hh hc hx hw hd hpp hki hq hs hS hsv hsh hss hwh hwo hrb ht0 ht1 hwt hpo hon hb hbd hn hst
    go_enter Tryz.func258, Tryz.ntmps258
    go_wp2_with fail
    have HT := Lib.hid (HT.out.alloc (k := w.heap.size) rfl 148 #[.nilFunc, .nilFunc])
    generalize World.alloc w _ = w1 at HT ⊢
    generalize w.heap.size = sb at *
    have b0 := HT.out.mem_cell 2 HB.out 0
    have k10 := HT.out.cell 0 0 rfl 10
    have ltb := HT.out.mem_lt 2 HB.out
    have ltk := HT.out.lt 0 0 rfl
    simp only [turnC, List.getElem?_toArray, List.getElem?_cons_zero, List.getElem?_cons_succ, HSV.out] at b0 k10 ltb ltk
    go_region_held3 (fun w' => w'.cell? ⟨bk, 0, none⟩ = some (ptr' kb) ∧ w'.cell? ⟨kb, 10, none⟩ = some (ptr' q.b))
      (first
      | exact ⟨b0, k10⟩
      | exact ⟨q1, q2⟩
      | exact ⟨r1, r2⟩
      | exact ⟨s1, s2⟩
      | exact ⟨t1, t2⟩)
      (first
      | (go_at_call 45
         refine (DoesG.use HWT.out HT.out.drew [3] rfl rfl).mono ?_
         rintro e w7 ⟨gs, ⟨rfl, g1, hx1, rfl⟩, Ta⟩
         simp only [PU] at Ta
         have HT7 := Lib.hid Ta
         have HX7 := Lib.hid hx1
         clear Ta hx1
         have q1 := HT7.out.mem_cell 2 HB.out 0
         have q2 := HT7.out.cell 0 0 rfl 10
         simp only [turnC, List.getElem?_toArray, List.getElem?_cons_zero, List.getElem?_cons_succ, HSV.out] at q1 q2)
      | (go_at_call 259
         refine (DoesG.use HPO.out HT7.out [0] rfl rfl).mono ?_
         rintro e w8 ⟨gs, ⟨g2, l2, ⟨m2, d2, rfl, hs2⟩, rfl⟩, Ta⟩
         simp only [PU] at Ta
         obtain ⟨rfl, rfl, rfl⟩ := hs2 (l2, []) (fun _ h => h)
         have HT8 := Lib.hid (Ta.sum2 (H' := [turnB kb L.fb pv (sVal L k) k, gd, e.1, g1, gW, gP, [cl sb 148 #[.nilFunc, .nilFunc]], l2]) (fun n ha h0 h1 h2 => by simp only [SU, ha, h0, h1, h2] <;> omega))
         clear Ta hs2
         have r1 := HT8.out.mem_cell 2 HB.out 0
         have r2 := HT8.out.cell 0 0 rfl 10
         simp only [turnC, List.getElem?_toArray, List.getElem?_cons_zero, List.getElem?_cons_succ, HSV.out] at r1 r2
         have hth := then_nil (first := #[]) (caps := #[ptr' bk, ptr' bd]) (enters_of Tryz.func260 (by kernel_rfl) rfl) (HON.out (e.1 ++ l2, e.2) (turnB kb L.fb pv (sVal L k) k ++ (gd ++ (e.1 ++ l2))) (g1 ++ (gW ++ gP)) ⟨gd, g1, gW, gP, HD.out, HX7.out, HW.out, HPP.out, rfl, rfl⟩ (List.mem_append_left _ HB.out) HBD.out) (fun _ _ h => MRT.fv h)
         have HTH := Lib.hid hth
         clear hth)
      | (go_at_call 191
         refine (DoesG.use HTH.out (HT8.out.sum2 (H' := [turnB kb L.fb pv (sVal L k) k ++ (gd ++ (e.1 ++ l2)), g1 ++ (gW ++ gP), [cl sb 148 #[.nilFunc, .nilFunc]]]) (fun n ha h0 h1 h2 => by simp only [SU, ha, h0, h1, h2] <;> omega)) [0, 1] rfl rfl).mono ?_
         rintro e w9 ⟨gs, ⟨e2, hl2, m3, d3, g3, gK3, gF3, rfl, hs3, hz3, rfl⟩, Ta⟩
         simp only [PU] at Ta
         have HT9 := Lib.hid Ta
         have HL2 := Lib.hid hl2
         have hbx : cl bk 56 #[ptr' kb] ∈ e2.1 := hl2.b _ (List.mem_append_left _ HB.out)
         obtain ⟨gd3, gC3, gW3, gP3, hd3, hx3, hw3, hpp3, rfl, rfl⟩ := hz3
         have HZ3 := Lib.hid (show repT L kb pv e2 ⟨k, x, ws, p⟩ _ _ from ⟨gd3, gC3, gW3, gP3, hd3, hx3, hw3, hpp3, rfl, rfl⟩)
         clear Ta hl2 hd3 hx3 hw3 hpp3
         have hbm : cl bk 56 #[ptr' kb] ∈ turnB kb L.fb pv (sVal L k) k ++ (gd3 ++ e2.1) := List.mem_append_right _ (List.mem_append_right _ hbx)
         have z0 := HT9.out.cell 2 0 rfl 0
         have fz0 := HT9.out.free 2 0 rfl 0
         have z1 := HT9.out.cell 2 0 rfl 1
         have fz1 := HT9.out.free 2 0 rfl 1
         have hv2 := (cliT_vals L kb pv _).vals hs3
         have HS := Lib.hid hs3
         have s1 := HT9.out.mem_cell 1 hbm 0
         have s2 := HT9.out.cell 1 0 rfl 10
         simp only [turnC, List.getElem?_toArray, List.getElem?_cons_zero, List.getElem?_cons_succ, HSV.out] at z0 z1 s1 s2
         obtain ⟨st1, st2⟩ := Cli.store_fv2 (P := Tryz.prog) hv2.1 hv2.2 z0 fz0 z1 fz1
         have HT10 := Lib.hid ((HT9.out.set 2 0 rfl 0 m3).set 2 0 rfl 1 d3)
         have t1 := HT10.out.mem_cell 1 hbm 0
         have t2 := HT10.out.cell 1 0 rfl 10
         simp only [turnC, List.getElem?_toArray, List.getElem?_cons_zero, List.getElem?_cons_succ, HSV.out] at t1 t2
         clear hv2 hs3 hbx hbm))
    all_goals
      have y0 := HT10.out.cell 2 0 rfl 0
      have y1 := HT10.out.cell 2 0 rfl 1
      simp only [Array.set!, List.setIfInBounds_toArray, List.set_cons_zero, List.set_cons_succ, List.getElem?_toArray, List.getElem?_cons_zero, List.getElem?_cons_succ] at y0 y1
      clear b0 k10 q1 q2 r1 r2 s1 s2 t1 t2 z0 z1 fz0 fz1 st1 st2 HT7 HT8 HT9
      generalize World.setCell (World.setCell w9 _ _) _ _ = w5 at HT10 y0 y1 ⊢
      go_wp2
      exact bodyPost_ret (v := .agg #[_, _]) (by simp [results, Tryz.results258, go_sem, y0, y1]) rfl ⟨_, MRT.of ⟨e2, (leT.app e l2).trans HL2.out, m3, d3, g3, _, _, rfl, HS.out, HZ3.out, rfl⟩, HT10.out.pick [0, 1, 3] rfl⟩
  · rw [if_neg hn] at hpo ⊢
    rw [if_neg hn]
    dsimp only
    intro w hw
    have T0 := TG.refl hw
    have HT := Lib.hid T0
    clear hw T0
    have HT := Lib.hid (HT.out.sum (H' := [turnB kb L.fb pv (sVal L k) k, gd, e.1, gC, gW, gP]) (fun n ha h0 h1 h2 => by simp only [SU, ha, h0, h1, h2] <;> omega))
    have HD := Lib.hid hd
    have HW := Lib.hid hw
    have HPP := Lib.hid hpp
    have HWT := Lib.hid hwt
    rw [← hsv] at hpo
    have HPO := Lib.hid hpo
    have HSV := Lib.hid hsv
    have HB := Lib.hid (show cl bk 56 #[ptr' kb] ∈ e.1 from hb)
    have HBD := Lib.hid hbd
    clear ho hh hc hx hw hd hpp hki hq hs hS hsv hsh hss hwh hwo hrb ht0 ht1 hwt hpo hon hb hbd hn
    go_enter Tryz.func258, Tryz.ntmps258
    go_wp2_with fail
    have HT := Lib.hid (HT.out.alloc (k := w.heap.size) rfl 148 #[.nilFunc, .nilFunc])
    generalize World.alloc w _ = w1 at HT ⊢
    generalize w.heap.size = sb at *
    have b0 := HT.out.mem_cell 2 HB.out 0
    have k10 := HT.out.cell 0 0 rfl 10
    have ltb := HT.out.mem_lt 2 HB.out
    have ltk := HT.out.lt 0 0 rfl
    simp only [turnC, List.getElem?_toArray, List.getElem?_cons_zero, List.getElem?_cons_succ, HSV.out] at b0 k10 ltb ltk
    go_region_held3 (fun w' => w'.cell? ⟨bk, 0, none⟩ = some (ptr' kb) ∧ w'.cell? ⟨kb, 10, none⟩ = some (ptr' q.b))
      (first
      | exact ⟨b0, k10⟩
      | exact ⟨q1, q2⟩
      | exact ⟨r1, r2⟩
      | exact ⟨s1, s2⟩
      | exact ⟨t1, t2⟩)
      (first
      | (go_at_call 45
         refine (DoesG.use HWT.out HT.out.drew [3] rfl rfl).mono ?_
         rintro e w7 ⟨gs, ⟨rfl, g1, hx1, rfl⟩, Ta⟩
         simp only [PU] at Ta
         have HT7 := Lib.hid Ta
         have HX7 := Lib.hid hx1
         clear Ta hx1
         have q1 := HT7.out.mem_cell 2 HB.out 0
         have q2 := HT7.out.cell 0 0 rfl 10
         simp only [turnC, List.getElem?_toArray, List.getElem?_cons_zero, List.getElem?_cons_succ, HSV.out] at q1 q2)
      | (go_at_call 259
         refine (DoesG.use HPO.out HT7.out [0] rfl rfl).mono ?_
         rintro e w8 ⟨gs, ⟨g2, l2, ⟨m2, d2, rfl, hs2⟩, rfl⟩, Ta⟩
         simp only [PU] at Ta
         have HT8 := Lib.hid (Ta.sum2 (H' := [turnB kb L.fb pv (sVal L k) k, gd, e.1, g1, gW, gP, [cl sb 148 #[.nilFunc, .nilFunc]], l2, g2, []]) (fun n ha h0 h1 h2 => by simp only [SU, ha, h0, h1, h2] <;> omega))
         have HS2 := Lib.hid hs2
         clear Ta hs2
         have r1 := HT8.out.mem_cell 2 HB.out 0
         have r2 := HT8.out.cell 0 0 rfl 10
         simp only [turnC, List.getElem?_toArray, List.getElem?_cons_zero, List.getElem?_cons_succ, HSV.out] at r1 r2)
      | (go_at_call 191
         refine (DoesG.use (Cli.prog_then_x (c := (cliT L kb pv).on (e.1 ++ l2, e.2)) (s := .at (some (.ready i)) (.pops1 n)) (f := MT.one211 d) (v := .func (.func 260) #[] #[ptr' bk, ptr' bd]) (gm := []) (cliT_vals L kb pv _) rfl (HS2.out (e.1 ++ l2, e.2) (fun b hb => List.mem_append_right _ hb)) ⟨rfl, bk, bd, rfl, List.mem_append_left _ HB.out, HBD.out⟩) HT8.out [8, 9] rfl rfl).mono ?_
         rintro e w9 ⟨gs, ⟨bs, br, rfl, rfl⟩, Ta⟩
         simp only [PU] at Ta
         have HT9 := Lib.hid Ta
         clear Ta
         have s1 := HT9.out.mem_cell 2 HB.out 0
         have s2 := HT9.out.cell 0 0 rfl 10
         have z0 := HT9.out.cell 6 0 rfl 0
         have fz0 := HT9.out.free 6 0 rfl 0
         have z1 := HT9.out.cell 6 0 rfl 1
         have fz1 := HT9.out.free 6 0 rfl 1
         have hv2 := (cliT_vals L kb pv _).vals (HS2.out (e.1 ++ l2, e.2) (fun b hb => List.mem_append_right _ hb))
         simp only [turnC, List.getElem?_toArray, List.getElem?_cons_zero, List.getElem?_cons_succ, HSV.out] at s1 s2 z0 z1
         obtain ⟨st1, st2⟩ := Cli.store_fv2 (P := Tryz.prog) (v' := .func (.func 226) #[] #[ptr' bs, ptr' br]) hv2.1 (Or.inr ⟨_, _, _, rfl⟩) z0 fz0 z1 fz1
         have HT10 := Lib.hid ((HT9.out.set 6 0 rfl 0 m2).set 6 0 rfl 1 (.func (.func 226) #[] #[ptr' bs, ptr' br]))
         have t1 := HT10.out.mem_cell 2 HB.out 0
         have t2 := HT10.out.cell 0 0 rfl 10
         simp only [turnC, List.getElem?_toArray, List.getElem?_cons_zero, List.getElem?_cons_succ, HSV.out] at t1 t2
         clear hv2))
    all_goals
      have HS := Lib.hid (HS2.out (e.1 ++ l2, e.2) (fun b hb => List.mem_append_right _ hb))
      have y0 := HT10.out.cell 6 0 rfl 0
      have y1 := HT10.out.cell 6 0 rfl 1
      simp only [Array.set!, List.setIfInBounds_toArray, List.set_cons_zero, List.set_cons_succ, List.getElem?_toArray, List.getElem?_cons_zero, List.getElem?_cons_succ] at y0 y1
      clear b0 k10 q1 q2 r1 r2 s1 s2 t1 t2 z0 z1 fz0 fz1 st1 st2 HT7 HT8 HT9
      generalize World.setCell (World.setCell w9 _ _) _ _ = w5 at HT10 y0 y1 ⊢
      go_wp2
      exact bodyPost_ret (v := .agg #[_, _]) (by simp [results, Tryz.results258, go_sem, y0, y1]) rfl ⟨_, MRT.of ⟨(e.1 ++ l2, e.2), leT.app e l2, _, _, _, _, _, rfl, ⟨bs, br, _, _, g2, [], rfl, rfl, HS.out, ⟨rfl, bk, bd, rfl, List.mem_append_left _ HB.out, HBD.out⟩, rfl⟩, ⟨gd, g1, gW, gP, HD.out, HX7.out, HW.out, HPP.out, (rfl : turnB kb L.fb pv (sVal L k) k ++ (gd ++ (e.1 ++ l2)) = _), rfl⟩, rfl⟩, (HT10.out.pick [8, 0, 1, 2, 7, 3, 4, 5] rfl).sum2 (fun n ha h0 h1 h2 => by simp only [SU, ha, h0, h1, h2] <;> omega)⟩
end
end Go.Proofs.YtblhfbcodbjgcaaGreat

namespace Go.Proofs.YtblhfbcodbjgcaaGreat
set_option linter.unusedVariables false
set_option linter.unusedSimpArgs false
open Go.RowKit Go.Shelf
set_option maxRecDepth 100000 in
set_option maxHeartbeats 4000000 in
theorem cliT_ok (L : Lay) (kb : Nat) (pv : Value) : (cliT L kb pv).Ok where
  refl := leT.refl
  trans h1 h2 := h1.trans h2
  mm hl h := VMT.le hl h
  ma hl h := VAT.le hl h
  v e := cliT_vals L kb pv e
  m {e f v g gK gF z} hv hz hp := by
    obtain ⟨k, x, ws, p⟩ := z
    obtain ⟨rfl, hv⟩ := hv
    cases f with
    | enter => subst hv; exact ⟨_, _, _, rfl, fun _ _ => rfl, (tEnter hz hp).pre rfl⟩
    | gate => subst hv; exact ⟨_, _, _, rfl, fun _ _ => rfl, (tGate hz hp).pre rfl⟩
    | tick => subst hv; exact ⟨_, _, _, rfl, fun _ _ => rfl, (tTick hz hp).pre rfl⟩
    | shards1 i => obtain ⟨bk, bi, rfl, hb, hbi⟩ := hv; exact ⟨_, _, _, rfl, fun _ _ => rfl, (tShards1 i hz hp bk bi hb hbi).pre rfl⟩
    | one2 d => obtain ⟨bk, bd, rfl, hb, hbd⟩ := hv; exact ⟨_, _, _, rfl, fun _ _ => rfl, (tOne2 d hz hp bk bd hb hbd).pre rfl⟩
    | one21 d => obtain ⟨bk, bd, rfl, hb, hbd⟩ := hv; exact ⟨_, _, _, rfl, fun _ _ => rfl, (tOne21 d hz hp bk bd hb hbd).pre rfl⟩
    | one211 d => obtain ⟨bk, bd, rfl, hb, hbd⟩ := hv; exact ⟨_, _, _, rfl, fun _ _ => rfl, (tOne211 d hz bk bd hb hbd).pre rfl⟩
    | one2112 d => obtain ⟨bk, bd, rfl, hb, hbd⟩ := hv; exact ⟨_, _, _, rfl, fun _ _ => rfl, (tOne2112 d hz hp bk bd hb hbd).pre rfl⟩
    | one21121 => obtain ⟨bk, rfl, hb⟩ := hv; exact ⟨_, _, _, rfl, fun _ _ => rfl, (tOne21121 hz bk hb).pre rfl⟩
    | pops1 n => obtain ⟨bk, bi, rfl, hb, hbi⟩ := hv; exact ⟨_, _, _, rfl, fun _ _ => rfl, (tPops1 n hz hp bk bi hb hbi).pre rfl⟩
    | pops11 n => obtain ⟨bk, bi, rfl, hb, hbi⟩ := hv; exact ⟨_, _, _, rfl, fun _ _ => rfl, (tPops11 n hz hp.1 hp.2.1 hp.2.2 bk bi hb hbi).pre rfl⟩
    | rec1 => obtain ⟨bk, rfl, hb⟩ := hv; exact ⟨_, _, _, rfl, fun _ _ => rfl, (tRec1 hz hp bk hb).pre rfl⟩
    | rec11 => obtain ⟨bk, rfl, hb⟩ := hv; exact ⟨_, _, _, rfl, fun _ _ => rfl, (tRec11 hz hp bk hb).pre rfl⟩
    | fires1 d i => obtain ⟨bk, bp, bi, bd, rfl, hb, hbd, hbp, hbi⟩ := hv; exact ⟨_, _, _, rfl, fun _ _ => rfl, (tFires1 d i hz hp bk bp bi bd hb hbd hbp hbi).pre rfl⟩
    | looks => subst hv; exact ⟨_, _, _, rfl, fun _ _ => rfl, (tLooks hz hp).pre rfl⟩
    | claims => subst hv; exact ⟨_, _, _, rfl, fun _ _ => rfl, (tClaims hz hp).pre rfl⟩
    | claims2 => obtain ⟨bk, rfl, hb⟩ := hv; exact ⟨_, _, _, rfl, fun _ _ => rfl, (tClaims2 hz bk hb).pre rfl⟩
    | behind => subst hv; exact ⟨_, _, _, rfl, fun _ _ => rfl, (tBehind hz hp).pre rfl⟩
    | rearm1 next => obtain ⟨bk, bn, rfl, hb, hbn⟩ := hv; exact ⟨_, _, _, rfl, fun _ _ => rfl, (tRearm1 next hz hp bk bn hb hbn).pre rfl⟩
    | finishes => subst hv; exact ⟨_, _, _, rfl, fun _ _ => rfl, (tFinishes hz hp).pre rfl⟩
  a {e f v g gK gF z} hv hz hp := by
    obtain ⟨k, x, ws, p⟩ := z
    obtain ⟨rfl, hv⟩ := hv
    cases f with
    | leave1 => obtain ⟨bk, rfl, hb⟩ := hv; exact ⟨_, _, _, rfl, fun _ _ => rfl, (aLeave1 hz hp bk hb).pre rfl⟩
    | answer => obtain ⟨bk, rfl, hb⟩ := hv; exact ⟨_, _, _, rfl, fun _ _ => rfl, (aAnswer hz hp bk hb).pre rfl⟩
    | turnA d => obtain ⟨bk, bd, rfl, hb, hbd⟩ := hv; exact ⟨_, _, _, rfl, fun _ _ => rfl, (aTurnA d hz hp bk bd hb hbd).pre rfl⟩
    | unlock => obtain ⟨bk, rfl, hb⟩ := hv; exact ⟨_, _, _, rfl, fun _ _ => rfl, (aUnlock hz hp bk hb).pre rfl⟩
    | put f => obtain ⟨bk, bf, rfl, hb, hbf⟩ := hv; exact ⟨_, _, _, rfl, fun _ _ => rfl, (aPut f hz hp bk bf hb hbf).pre rfl⟩
    | rel => obtain ⟨bk, rfl, hb⟩ := hv; exact ⟨_, _, _, rfl, fun _ _ => rfl, (aRelT hz hp bk hb).pre rfl⟩
    | drop => obtain ⟨bk, rfl, hb⟩ := hv; exact ⟨_, _, _, rfl, fun _ _ => rfl, (aDropT hz hp bk hb).pre rfl⟩
  y {e f v g gK gF z} hv hz hp := by
    obtain ⟨k, x, ws, p⟩ := z
    obtain ⟨rfl, hv⟩ := hv
    cases f with
    | lock => obtain ⟨bk, rfl, hb⟩ := hv; exact ⟨_, _, _, rfl, fun _ _ => rfl, ((yLock hz hp bk hb).pre rfl).post (by rintro e gs ⟨gK', gF', h1, h2, rfl⟩; exact ⟨_, ⟨gK', gF', h1, h2, rfl⟩, .refl _⟩)⟩
    | ready i => obtain ⟨q, hq, rfl⟩ := hv; exact ⟨_, _, _, rfl, fun _ _ => rfl, ((yReady i hz hp hq).pre rfl).post (by rintro e gs ⟨gK', gF', h1, h2, rfl⟩; exact ⟨_, ⟨gK', gF', h1, h2, rfl⟩, .refl _⟩)⟩
end Go.Proofs.YtblhfbcodbjgcaaGreat

namespace Go.Proofs.YtblhfbcodbjgcaaGreat
set_option linter.unusedVariables false
set_option linter.unusedSimpArgs false
open Go.RowKit Go.Shelf
def isTK (L : Lay) (kb : Nat) (pv : Value) (e : ET) (k : TurnS) (gK : List Blk) : Prop := ∃ gd, isDue e.2 k gd ∧ gK = turnB kb L.fb pv (sVal L k) k ++ (gd ++ e.1)
def isTF (L : Lay) (x : CoreS) (ws : List WheelS) (p : PipeS) (gF : List Blk) : Prop := ∃ gC gW gP, isCore L x gC ∧ isWheels L ws gW ∧ isPipe L.p.pb p gP ∧ gF = gC ++ (gW ++ gP)
theorem repT_iff {L : Lay} {kb : Nat} {pv : Value} {e : ET} {gK gF : List Blk} {z : ZT} : repT L kb pv e z gK gF ↔ isTK L kb pv e z.k gK ∧ isTF L z.x z.ws z.p gF :=
  ⟨fun ⟨gd, gC, gW, gP, a, b, c, d, h, i⟩ => ⟨⟨gd, a, h⟩, ⟨gC, gW, gP, b, c, d, i⟩⟩, fun ⟨⟨gd, a, h⟩, ⟨gC, gW, gP, b, c, d, i⟩⟩ => ⟨gd, gC, gW, gP, a, b, c, d, h, i⟩⟩
def isTurn (L : Lay) (kb : Nat) (s : ST) (n : Int) (k : TurnS) (g : List Blk) : Prop :=
  ∃ (pb : Nat) (e : ET) (m d : Value) (gst gK : List Blk), (cliT L kb (ptr' pb)).SV e s m d gst ∧ isTK L kb (ptr' pb) e k gK ∧ g = Cli.progB pb m d n ++ (gst ++ gK)
def stepTu (s : ST) (z : ZT) : ST × ZT := St.run runT runAT s z
def preST (s : ST) (z : ZT) : Prop := St.pre runT runAT preT preAT s z
def maySt (s : ST) (z : ZT) : Bool := s.may mayT z
def preYS' (s : ST) (z : ZT) : Prop := St.preY preYT s z
section
variable {L : Lay} {x : CoreS} {ws : List WheelS} {p : PipeS} {g gF : List Blk} {kb : Nat} {s : ST} {n : Int} {k : TurnS}
set_option maxRecDepth 100000 in
theorem turnStep (hc : isTurn L kb s n k g) (hx : isTF L x ws p gF) (hy : preYS' s ⟨k, x, ws, p⟩) (hm : maySt s ⟨k, x, ws, p⟩ = true) (hp : preST s ⟨k, x, ws, p⟩) (hb : 0 ≤ n ∧ n ≤ 1000000000) :
    DoesG Tryz.prog 31 #[ptr' kb] [g, gF] fun en gs => ∃ g' gF', en = .returned (.bool true) ∧ isTurn L kb (stepTu s ⟨k, x, ws, p⟩).1 (n + 1) (stepTu s ⟨k, x, ws, p⟩).2.k g' ∧ isTF L (stepTu s ⟨k, x, ws, p⟩).2.x (stepTu s ⟨k, x, ws, p⟩).2.ws (stepTu s ⟨k, x, ws, p⟩).2.p gF' ∧ gs = [g', gF'] := by
  obtain ⟨pb, e, m, d, gst, gK, hs, hk, rfl⟩ := hc
  have hd := CliE.prog_step (n := n) (cliT_ok L kb (ptr' pb)) hs (x := (⟨k, x, ws, p⟩ : ZT)) (repT_iff.2 ⟨hk, hx⟩) hy hp pb hb hm
  obtain ⟨gd, hl, rfl⟩ := hk
  intro w hw
  have T0 := TG.refl hw
  have HT := Lib.hid T0
  clear hw T0
  have T1 := HT.out.sum (H' := [turnB kb L.fb (ptr' pb) (sVal L k) k, Cli.progB pb m d n ++ (gst ++ (gd ++ e.1)), gF]) (fun n ha h0 h1 h2 => by simp only [SU, ha, h0, h1, h2] <;> omega)
  have k8 := T1.cell 0 0 rfl 8
  simp only [turnC, List.getElem?_toArray, List.getElem?_cons_zero, List.getElem?_cons_succ] at k8
  have lt := T1.lt 0 0 rfl
  simp only [] at lt
  have HD := Lib.hid hd
  have HT := Lib.hid (HT.out.sum (H' := [Cli.progB pb m d n, gst, turnB kb L.fb (ptr' pb) (sVal L k) k ++ (gd ++ e.1), gF]) (fun n ha h0 h1 h2 => by simp only [SU, ha, h0, h1, h2] <;> omega))
  clear hs hl hx hy hm hp hb hd T1
  go_enter Tryz.func31, Tryz.ntmps31
  go_wp2_with fail
  refine (DoesG.use (HD.out) (HT.out) [0, 1, 2, 3] rfl rfl).mono ?_
  rintro e w1 ⟨gs, ⟨e', hle, m', d', gst', gK', gF', rfl, hs', hx', rfl⟩, Ta⟩
  simp only [PU] at Ta
  have HS := Lib.hid hs'
  have HX := Lib.hid (repT_iff.1 hx')
  clear hs' hx' k8
  have HT := Lib.hid Ta
  clear Ta
  go_wp2
  go_ret
  exact ⟨_, ⟨_, gF', rfl, ⟨pb, e', m', d', gst', gK', HS.out, HX.out.1, rfl⟩, HX.out.2, rfl⟩, HT.out.sum (fun n ha h0 h1 h2 => by simp only [SU, ha, h0, h1, h2] <;> omega)⟩
set_option maxRecDepth 100000 in
theorem turnNo (hc : isTurn L kb s n k g) (hx : isTF L x ws p gF) (hy : preYS' s ⟨k, x, ws, p⟩) (hm : maySt s ⟨k, x, ws, p⟩ = false) :
    DoesG Tryz.prog 31 #[ptr' kb] [g, gF] fun en gs => en = .returned (.bool false) ∧ ∃ g' gF', isTurn L kb s n k g' ∧ isTF L x ws p gF' ∧ gs = [g', gF'] := by
  obtain ⟨pb, e, m, d, gst, gK, hs, hk, rfl⟩ := hc
  have hd := CliE.prog_step_no (n := n) (cliT_ok L kb (ptr' pb)) hs (x := (⟨k, x, ws, p⟩ : ZT)) (repT_iff.2 ⟨hk, hx⟩) hy pb hm
  obtain ⟨gd, hl, rfl⟩ := hk
  intro w hw
  have T0 := TG.refl hw
  have HT := Lib.hid T0
  clear hw T0
  have T1 := HT.out.sum (H' := [turnB kb L.fb (ptr' pb) (sVal L k) k, Cli.progB pb m d n ++ (gst ++ (gd ++ e.1)), gF]) (fun n ha h0 h1 h2 => by simp only [SU, ha, h0, h1, h2] <;> omega)
  have k8 := T1.cell 0 0 rfl 8
  simp only [turnC, List.getElem?_toArray, List.getElem?_cons_zero, List.getElem?_cons_succ] at k8
  have lt := T1.lt 0 0 rfl
  simp only [] at lt
  have HD := Lib.hid hd
  have HS := Lib.hid hs
  have HT := Lib.hid (HT.out.sum (H' := [Cli.progB pb m d n, gst, turnB kb L.fb (ptr' pb) (sVal L k) k ++ (gd ++ e.1), gF]) (fun n ha h0 h1 h2 => by simp only [SU, ha, h0, h1, h2] <;> omega))
  clear hs hl hx hy hm hd T1
  go_enter Tryz.func31, Tryz.ntmps31
  go_wp2_with fail
  refine (DoesG.use (HD.out) (HT.out) [0, 1, 2, 3] rfl rfl).mono ?_
  rintro e w1 ⟨gs, ⟨gK', gF', rfl, hx', rfl⟩, Ta⟩
  simp only [PU] at Ta
  have HX := Lib.hid (repT_iff.1 hx')
  clear hx' k8
  have HT := Lib.hid Ta
  clear Ta
  go_wp2
  go_ret
  exact ⟨_, ⟨rfl, _, gF', ⟨pb, e, m, d, gst, gK', HS.out, HX.out.1, rfl⟩, HX.out.2, rfl⟩, HT.out.sum (fun n ha h0 h1 h2 => by simp only [SU, ha, h0, h1, h2] <;> omega)⟩
set_option maxRecDepth 100000 in
theorem turnDone (hc : isTurn L kb s n k g) : ReadsG Tryz.prog 32 #[ptr' kb] [g] (.bool s.isNil) := by
  obtain ⟨pb, e, m, d, gst, gK, hs, hk, rfl⟩ := hc
  have hd := CliE.prog_done (cliT_ok L kb (ptr' pb)) hs pb n
  obtain ⟨gd, hl, rfl⟩ := hk
  intro w hw
  have T0 := TG.refl hw
  have HT := Lib.hid T0
  clear hw T0
  have T1 := HT.out.sum (H' := [turnB kb L.fb (ptr' pb) (sVal L k) k, Cli.progB pb m d n ++ (gst ++ (gd ++ e.1))]) (fun n ha h0 h1 h2 => by simp only [SU, ha, h0, h1, h2] <;> omega)
  have k8 := T1.cell 0 0 rfl 8
  simp only [turnC, List.getElem?_toArray, List.getElem?_cons_zero, List.getElem?_cons_succ] at k8
  have lt := T1.lt 0 0 rfl
  simp only [] at lt
  have HD := Lib.hid hd
  have HT := Lib.hid (HT.out.sum (H' := [Cli.progB pb m d n, gst, turnB kb L.fb (ptr' pb) (sVal L k) k ++ (gd ++ e.1)]) (fun n ha h0 h1 h2 => by simp only [SU, ha, h0, h1, h2] <;> omega))
  clear hs hl hd T1
  go_enter Tryz.func32, Tryz.ntmps32
  go_wp2_with fail
  refine (ReadsG.use (HD.out) (HT.out) [0] rfl rfl).mono ?_
  rintro e w1 ⟨rfl, mq, rfl⟩
  go_wp2
  go_ret
  exact ⟨rfl, _, rfl⟩
end
end Go.Proofs.YtblhfbcodbjgcaaGreat
