import Derived.Test.YtblhfbcodbjgcaaGreatTU22
import Derived.Deep.RegionHeld3
namespace Go.Proofs.YtblhfbcodbjgcaaGreat
set_option linter.unusedVariables false
set_option linter.unusedSimpArgs false
open Go.RowKit Go.Shelf
theorem firesT_eq (d i : Nat) (k : TurnS) (x : CoreS) (ws : List WheelS) (p : PipeS) :
    ∃ st k', firesT d i ⟨k, x, ws, p⟩ = (st, ⟨k', x, ws, p⟩) ∧ k'.s = k.s ∧ k'.nd = k.nd ∧ k'.due = k.due := by
  unfold firesT
  split
  · exact ⟨_, _, rfl, rfl, rfl, rfl⟩
  · exact ⟨_, _, rfl, rfl, rfl, rfl⟩
theorem isDue.of {ds : List Nat} {k k' : TurnS} {g : List Blk} (h : isDue ds k g) (h1 : k'.nd = k.nd) (h2 : k'.due = k.due) : isDue ds k' g := by
  unfold isDue at *
  rw [h1, h2]
  exact h
theorem sVal.of {L : Lay} {k k' : TurnS} (h : k'.s = k.s) : sVal L k' = sVal L k := by
  unfold sVal; rw [h]
section
variable {L : Lay} {x : CoreS} {ws : List WheelS} {p : PipeS} {e : ET} {g gC gK gF : List Blk} {kb : Nat} {pv sv : Value} {k : TurnS}
set_option maxRecDepth 100000 in
set_option maxHeartbeats 4000000 in
theorem tFires1 (d i : Nat) (hz : repT L kb pv e ⟨k, x, ws, p⟩ gK gF) (hp : preT (.fires1 d i) ⟨k, x, ws, p⟩) (bk bp bi bd : Nat) (hb : kBox kb bk e) (hbd : e.2[d]? = some bd)
    (hbp : cl bp 347 #[ptr' bd] ∈ e.1) (hbi : cl bi 3 #[.int .i64 i] ∈ e.1) :
    DoesG Tryz.prog 288 #[ptr' bk, ptr' bp, ptr' bi] [gK, gF] (MRT L kb pv e (runT (.fires1 d i) ⟨k, x, ws, p⟩).1 (runT (.fires1 d i) ⟨k, x, ws, p⟩).2) := by
  have hc : k.nd = d + 1 := hp.2.2.1
  have hi : i ≤ 1000000 := hp.2.2.2
  clear hp
  obtain ⟨gd, gC, gW, gP, hd, hx, hw, hpp, rfl, rfl⟩ := hz
  obtain ⟨v, gr, hr, rfl⟩ := due_cur hd hc hbd
  have hfi := sFires (L := L) (x := x) (ws := ws) (p := p) (kb := kb) (pv := pv) (sv := sVal L k) (k := k) d bd (i + 1) v gr hr (by omega)
  unfold FiR at hfi
  rw [show runT (.fires1 d i) ⟨k, x, ws, p⟩ = firesT d (i + 1) ⟨k, x, ws, p⟩ from rfl]
  obtain ⟨st, k', he, hks, hknd, hkdu⟩ := firesT_eq d (i + 1) k x ws p
  rw [he] at hfi ⊢
  dsimp only at hfi ⊢
  rw [show (((i + 1 : Nat) : Int)) = (i : Int) + 1 by omega, ← sVal.of (L := L) hks] at hfi
  have hd' := hd.of hknd hkdu
  unfold MRT
  rw [← sVal.of (L := L) hks]
  intro w hw
  have T0 := TG.refl hw
  have HT := Lib.hid T0
  clear hw T0
  have HFI := Lib.hid hfi
  have HT := Lib.hid (HT.out.sum (H' := [turnB kb L.fb pv (sVal L k') k, [cl bd 343 #[v]], gr, e.1, gC, gW, gP]) (fun n ha h0 h1 h2 => by simp only [SU, ha, h0, h1, h2] <;> omega))
  have HX := Lib.hid hx
  have HD := Lib.hid hd'
  have HW := Lib.hid hw
  have HPP := Lib.hid hpp
  have HBD := Lib.hid hbd
  have b0 := HT.out.mem_cell 3 hb 0
  have p0 := HT.out.mem_cell 3 hbp 0
  have i0 := HT.out.mem_cell 3 hbi 0
  have ltb := HT.out.mem_lt 3 hb
  have ltp := HT.out.mem_lt 3 hbp
  have lti := HT.out.mem_lt 3 hbi
  simp only [List.getElem?_toArray, List.getElem?_cons_zero] at b0 ltb p0 ltp i0 lti
  clear hx hd hw hpp hfi hr hc hb hbp hbi hbd hd' he hks hknd hkdu
  go_enter Tryz.func288, Tryz.ntmps288
  go_wp2_with fail
  refine (DoesG.use (HFI.out) (HT.out.alloc (k := w.heap.size) rfl _ _) [0, 1, 2] rfl rfl).mono ?_
  rintro e w1 ⟨gs, ⟨g2, l2, m2, d2, rfl, hs2, rfl⟩, Ta⟩
  simp only [PU] at Ta
  clear b0 ltb p0 ltp i0 lti
  have HT := Lib.hid Ta
  clear Ta
  have HS := Lib.hid (hs2 (e.1 ++ l2, e.2) (fun b hb => List.mem_append_right _ hb) HBD.out)
  have HT := Lib.hid (HT.out.sum2 (H' := [turnB kb L.fb pv (sVal L k') k', [cl bd 343 #[v]] ++ gr, e.1, gC, gW, gP, [cl w.heap.size 148 #[.nilFunc, .nilFunc]], l2, g2]) (fun n ha h0 h1 h2 => by simp only [SU, ha, h0, h1, h2] <;> omega))
  clear hs2
  have r0 := HT.out.cell 6 0 rfl 0
  have fr0 := HT.out.free 6 0 rfl 0
  have r1 := HT.out.cell 6 0 rfl 1
  have fr1 := HT.out.free 6 0 rfl 1
  simp only [List.getElem?_nil, List.getElem?_toArray, List.getElem?_cons_zero, List.getElem?_cons_succ] at r0 r1
  have hv2 := (cliT_vals L kb pv _).vals HS.out
  obtain ⟨st1, st2⟩ := Cli.store_fv2 (P := Tryz.prog) hv2.1 hv2.2 r0 fr0 r1 fr1
  clear hv2
  go_wp2
  exact bodyPost_ret (v := .agg #[_, _]) (by simp [results, Tryz.results288, go_sem, r0, r1]) rfl ⟨_, ⟨(e.1 ++ l2, e.2), leT.app e l2, _, _, g2, _, _, rfl, HS.out, ⟨_, gC, gW, gP, HD.out, HX.out, HW.out, HPP.out, rfl, rfl⟩, rfl⟩, (((HT.out.set 6 0 rfl 0 _).set 6 0 rfl 1 _).pick [8, 0, 1, 2, 7, 3, 4, 5] rfl).sum2 (fun n ha h0 h1 h2 => by simp only [SU, ha, h0, h1, h2] <;> omega)⟩
set_option maxRecDepth 100000 in
set_option maxHeartbeats 4000000 in
theorem sRearms (next : Int) (hz : repT L kb pv e ⟨k, x, ws, p⟩ gK gF) (hp : preT (.rearm1 next) ⟨k, x, ws, p⟩) :
    DoesG Tryz.prog 338 #[ptr' kb, .int .u64 next] [gK, gF] (MRT L kb pv e (runT (.rearm1 next) ⟨k, x, ws, p⟩).1 (runT (.rearm1 next) ⟨k, x, ws, p⟩).2) := by
  obtain ⟨ho, hh, hs0, hn0, hn1⟩ := hp
  have HO := Lib.hid ho.core
  have HSW := Lib.hid (show 0 ≤ k.saw ∧ k.saw < 18446744073709551616 from ⟨ho.saw.1, ho.saw.2.1⟩)
  have HTR := Lib.hid (show x.tr.length ≤ 1000000 from ho.core.tr)
  have HS0 := Lib.hid (show 0 ≤ k.t.slot from hs0)
  have HN := Lib.hid (And.intro hn0 hn1)
  have hg0 : 0 ≤ k.t.gen := ho.t.gen.1
  have hg1 : k.t.gen ≤ 4294967296 := ho.t.gen.2
  cases hc : ((x.slab.try k.t.slot k.saw 5).2.2 == 0) with
  | false =>
    rw [show runT (.rearm1 next) ⟨k, x, ws, p⟩ = (.at none .behind, ⟨k, { x with slab := (x.slab.try k.t.slot k.saw 5).1 }, ws, p⟩) by simp [runT, tryTu, hc]]
    unfold MRT
    clear ho hh hs0 hn0 hn1 hg0 hg1
    obtain ⟨gd, gC, gW, gP, hd, hx, hw, hpp, rfl, rfl⟩ := hz
    intro w hw
    have T0 := TG.refl hw
    have HT := Lib.hid T0
    clear hw T0
    have HT := Lib.hid (HT.out.sum (H' := [turnB kb L.fb pv (sVal L k) k, gd, e.1, gC, gW, gP]) (fun n ha h0 h1 h2 => by simp only [SU, ha, h0, h1, h2] <;> omega))
    have HX := Lib.hid hx
    have HD := Lib.hid hd
    have HW := Lib.hid hw
    have HPP := Lib.hid hpp
    clear hx hd hw hpp
    have hlk := turnTry (kb := kb) (pv := pv) (sv := sVal L k) HX.out HO.out HSW.out 5
    rw [hc] at hlk
    have HLK := Lib.hid hlk
    clear hlk hc
    go_enter Tryz.func338, Tryz.ntmps338
    go_wp2_with fail
    refine (DoesG.use (HLK.out) (HT.out.alloc (k := w.heap.size) rfl _ _) [0, 3] rfl rfl).mono ?_
    rintro e w1 ⟨gs, ⟨rfl, g1, hx1, rfl⟩, Ta⟩
    simp only [PU] at Ta
    have HX := Lib.hid hx1
    clear hx1
    have HT := Lib.hid Ta
    clear Ta
    go_wp2_with fail
    refine (DoesG.use (at_g _ _ _) (HT.out) [] rfl rfl).mono ?_
    rintro e w1 ⟨gs, ⟨rfl, rfl⟩, Ta⟩
    simp only [PU] at Ta
    have HT := Lib.hid Ta
    clear Ta
    have r0 := HT.out.cell 6 0 rfl 0
    have fr0 := HT.out.free 6 0 rfl 0
    have r1 := HT.out.cell 6 0 rfl 1
    have fr1 := HT.out.free 6 0 rfl 1
    simp only [List.getElem?_nil, List.getElem?_toArray, List.getElem?_cons_zero, List.getElem?_cons_succ] at r0 r1
    go_wp2
    exact bodyPost_ret (v := .agg #[_, _]) (by simp [results, Tryz.results338, go_sem, r0, r1]) rfl ⟨_, ⟨e, leT.refl e, _, _, [], _, _, rfl, ⟨rfl, rfl, rfl⟩, ⟨gd, _, _, gP, HD.out, HX.out, HW.out, HPP.out, (rfl : turnB kb L.fb pv (sVal L k) k ++ (gd ++ e.1) = _), rfl⟩, rfl⟩, (((HT.out.set 6 0 rfl 0 _).set 6 0 rfl 1 _).pick [0, 1, 2, 3, 4, 5] rfl).sum2 (fun n ha h0 h1 h2 => by simp only [SU, ha, h0, h1, h2] <;> omega)⟩
  | true =>
    obtain ⟨gd, gC, gW, gP, hd, hx, hw, hpp, hgK, hgF⟩ := hz
    obtain ⟨i, q, s, S, hki, hq, hs, hS, hsv, hsh, hss, hwh, hwo, hrb, ht0, ht1⟩ := turn_sh hx hw ho hh
    have hz2 : runT (.rearm1 next) ⟨k, x, ws, p⟩ = (.nil, ⟨{ k with t := { k.t with gen := k.t.gen + 1, dl := next } }, { x with slab := (x.slab.try k.t.slot k.saw 5).1, tr := x.tr ++ [evT k { ev0 with kind := 4, id := k.t.id, gen := k.t.gen + 1, dl := armD S { k.t with gen := k.t.gen + 1, dl := next } }] }, ws.set i (S.place (armE S { k.t with gen := k.t.gen + 1, dl := next })), p⟩) := by
      have h1 : (tryTu 5 ⟨k, x, ws, p⟩).2 = true := hc
      simp only [runT, h1, if_pos, armT, tryTu, ZT.note]
      rw [show ZT.sh ⟨{ k with t := { k.t with gen := k.t.gen + 1, dl := next } }, { x with slab := (x.slab.try k.t.slot k.saw 5).1 }, ws, p⟩ = i from hsh, show ZT.wh ⟨{ k with t := { k.t with gen := k.t.gen + 1, dl := next } }, { x with slab := (x.slab.try k.t.slot k.saw 5).1 }, ws, p⟩ = S from hwh]
      exact if_pos h1
    rw [hz2]
    have hz : repT L kb pv e ⟨k, x, ws, p⟩ gK gF := ⟨gd, gC, gW, gP, hd, hx, hw, hpp, hgK, hgF⟩
    clear hx hw hd hpp hgK hgF
    have har : ∀ gC gW, isCore L { x with slab := (x.slab.try k.t.slot k.saw 5).1 } gC → isWheels L ws gW → _ := fun gC gW hx hw => turnArm (kb := kb) (pv := pv) (k := { k with t := { k.t with gen := k.t.gen + 1, dl := next } }) hx hw hq hs hS hwo HS0.out HN.out HTR.out
    have HSV := Lib.hid hsv
    clear ho hh hs0 hz2 hki hq hs hS hsv hsh hss hwh hwo hrb ht0 ht1
    unfold MRT
    obtain ⟨gd, gC, gW, gP, hd, hx, hw, hpp, rfl, rfl⟩ := hz
    intro w hw
    have T0 := TG.refl hw
    have HT := Lib.hid T0
    clear hw T0
    have HT := Lib.hid (HT.out.sum (H' := [turnB kb L.fb pv (sVal L k) k, gd, e.1, gC, gW, gP]) (fun n ha h0 h1 h2 => by simp only [SU, ha, h0, h1, h2] <;> omega))
    have HX := Lib.hid hx
    have HD := Lib.hid hd
    have HW := Lib.hid hw
    have HPP := Lib.hid hpp
    clear hx hd hw hpp
    have HAR := Lib.hid har
    have hlk := turnTry (kb := kb) (pv := pv) (sv := sVal L k) HX.out HO.out HSW.out 5
    rw [hc] at hlk
    rw [HSV.out] at hlk
    have HTo := HT.out
    rw [HSV.out] at HTo
    have HT := Lib.hid HTo
    have HLK := Lib.hid hlk
    clear hlk hc har HTo
    generalize (x.slab.try k.t.slot k.saw 5).1 = sl at *
    generalize S.place (armE S { k.t with gen := k.t.gen + 1, dl := next }) = S1 at *
    generalize armD S { k.t with gen := k.t.gen + 1, dl := next } = dl1 at *
    go_enter Tryz.func338, Tryz.ntmps338
    go_wp2_with fail
    refine (DoesG.use (HLK.out) (HT.out.alloc (k := w.heap.size) rfl _ _) [0, 3] rfl rfl).mono ?_
    rintro e w1 ⟨gs, ⟨rfl, g1, hx1, rfl⟩, Ta⟩
    simp only [PU] at Ta
    have HX := Lib.hid hx1
    clear hx1
    have HT := Lib.hid Ta
    clear Ta
    have k13 := HT.out.cell 0 0 rfl 13
    have fk13 := HT.out.free 0 0 rfl 13
    have k14 := HT.out.cell 0 0 rfl 14
    have fk14 := HT.out.free 0 0 rfl 14
    simp only [turnC, List.getElem?_toArray, List.getElem?_cons_zero, List.getElem?_cons_succ] at k13 k14
    go_wp2_with fail
    refine (DoesG.use (HAR.out _ _ HX.out HW.out) (((HT.out.set 0 0 rfl 13 (.int .u64 (k.t.gen + 1))).set 0 0 rfl 14 (.int .u64 next)).eq (H' := [turnB kb L.fb pv (ptr' q.b) { k with t := { k.t with gen := k.t.gen + 1, dl := next } }, gd, e.1, g1, gW, gP, [cl w.heap.size 148 #[.nilFunc, .nilFunc]]]) rfl) [0, 3, 4] rfl rfl).mono ?_
    rintro e w1 ⟨gs, ⟨rfl, g2, gW2, hx2, hw2, rfl⟩, Ta⟩
    simp only [PU] at Ta
    have HX := Lib.hid hx2
    have HW := Lib.hid hw2
    clear hx2 hw2 k13 k14 fk13 fk14
    have HT := Lib.hid Ta
    clear Ta
    have r0 := HT.out.cell 6 0 rfl 0
    have fr0 := HT.out.free 6 0 rfl 0
    have r1 := HT.out.cell 6 0 rfl 1
    have fr1 := HT.out.free 6 0 rfl 1
    simp only [List.getElem?_nil, List.getElem?_toArray, List.getElem?_cons_zero, List.getElem?_cons_succ] at r0 r1
    go_wp2
    have HF := (((HT.out.set 6 0 rfl 0 .nilFunc).set 6 0 rfl 1 .nilFunc).pick [0, 1, 2, 3, 4, 5] rfl)
    rw [← HSV.out] at HF
    exact bodyPost_ret (v := .agg #[_, _]) (by simp [results, Tryz.results338, go_sem, r0, r1]) rfl ⟨_, ⟨e, leT.refl e, _, _, [], _, _, rfl, ⟨rfl, rfl, rfl⟩, ⟨gd, _, _, gP, HD.out, HX.out, HW.out, HPP.out, (rfl : turnB kb L.fb pv (sVal L k) { k with t := { k.t with gen := k.t.gen + 1, dl := next } } ++ (gd ++ e.1) = _), rfl⟩, rfl⟩, HF.sum2 (fun n ha h0 h1 h2 => by simp only [SU, ha, h0, h1, h2] <;> omega)⟩
set_option maxRecDepth 100000 in
set_option maxHeartbeats 4000000 in
theorem tRearm1 (next : Int) (hz : repT L kb pv e ⟨k, x, ws, p⟩ gK gF) (hp : preT (.rearm1 next) ⟨k, x, ws, p⟩) (bk bn : Nat) (hb : kBox kb bk e) (hbn : cl bn 36 #[.int .u64 next] ∈ e.1) :
    DoesG Tryz.prog 337 #[ptr' bk, ptr' bn] [gK, gF] (MRT L kb pv e (runT (.rearm1 next) ⟨k, x, ws, p⟩).1 (runT (.rearm1 next) ⟨k, x, ws, p⟩).2) := by
  have hre := sRearms next hz hp
  generalize (runT (.rearm1 next) ⟨k, x, ws, p⟩).1 = st at *
  generalize (runT (.rearm1 next) ⟨k, x, ws, p⟩).2 = z2 at *
  obtain ⟨gd, gC, gW, gP, hd, hx, hw, hpp, rfl, rfl⟩ := hz
  clear hd hx hw hpp hp
  unfold MRT at *
  intro w hw
  have T0 := TG.refl hw
  have HT := Lib.hid T0
  clear hw T0
  have HRE := Lib.hid hre
  have h1 : ∀ b, b ∈ e.1 → b ∈ turnB kb L.fb pv (sVal L k) k ++ (gd ++ e.1) := fun b hb => List.mem_append_right _ (List.mem_append_right _ hb)
  have b0 := HT.out.mem_cell 0 (h1 _ hb) 0
  have n0 := HT.out.mem_cell 0 (h1 _ hbn) 0
  have ltb := HT.out.mem_lt 0 (h1 _ hb)
  have ltn := HT.out.mem_lt 0 (h1 _ hbn)
  simp only [List.getElem?_toArray, List.getElem?_cons_zero] at b0 ltb n0 ltn
  clear hre h1 hb hbn
  go_enter Tryz.func337, Tryz.ntmps337
  go_wp2_with fail
  refine (DoesG.use (HRE.out) (HT.out.alloc (k := w.heap.size) rfl _ _) [0, 1] rfl rfl).mono ?_
  rintro e w1 ⟨gs, ⟨e2, hl2, m3, d3, g3, gK3, gF3, rfl, hs3, hz3, rfl⟩, Ta⟩
  simp only [PU] at Ta
  have HL2 := Lib.hid hl2
  have HZ3 := Lib.hid hz3
  clear hl2 hz3 b0 n0 ltb ltn
  have HT := Lib.hid Ta
  clear Ta
  have r0 := HT.out.cell 2 0 rfl 0
  have fr0 := HT.out.free 2 0 rfl 0
  have r1 := HT.out.cell 2 0 rfl 1
  have fr1 := HT.out.free 2 0 rfl 1
  simp only [List.getElem?_nil, List.getElem?_toArray, List.getElem?_cons_zero, List.getElem?_cons_succ] at r0 r1
  have hv2 := (cliT_vals L kb pv e2).vals hs3
  obtain ⟨st1, st2⟩ := Cli.store_fv2 (P := Tryz.prog) hv2.1 hv2.2 r0 fr0 r1 fr1
  have HS := Lib.hid hs3
  clear hv2 hs3
  go_wp2
  exact bodyPost_ret (v := .agg #[_, _]) (by simp [results, Tryz.results337, go_sem, r0, r1]) rfl ⟨_, ⟨e2, HL2.out, m3, d3, g3, gK3, gF3, rfl, HS.out, HZ3.out, rfl⟩, ((HT.out.set 2 0 rfl 0 _).set 2 0 rfl 1 _).pick [0, 1, 3] rfl⟩
end
end Go.Proofs.YtblhfbcodbjgcaaGreat

namespace Go.Proofs.YtblhfbcodbjgcaaGreat
set_option linter.unusedVariables false
set_option linter.unusedSimpArgs false
open Go.RowKit Go.Shelf
section
variable {L : Lay} {x : CoreS} {ws : List WheelS} {p : PipeS} {e : ET} {g gC gK gF : List Blk} {kb : Nat} {pv sv : Value} {k : TurnS}
set_option maxRecDepth 100000 in
set_option maxHeartbeats 4000000 in
theorem tFinishes (hz : repT L kb pv e ⟨k, x, ws, p⟩ gK gF) (hp : preT .finishes ⟨k, x, ws, p⟩) :
    DoesG Tryz.prog 339 #[ptr' kb] [gK, gF] (MRT L kb pv e (runT .finishes ⟨k, x, ws, p⟩).1 (runT .finishes ⟨k, x, ws, p⟩).2) := by
  obtain ⟨ho, _⟩ := hp
  have HO := Lib.hid ho.core
  have HSW := Lib.hid (show 0 ≤ k.saw ∧ k.saw < 18446744073709551616 from ⟨ho.saw.1, ho.saw.2.1⟩)
  have HTR := Lib.hid (show x.tr.length ≤ 1000000 from ho.core.tr)
  have HPE := Lib.hid (show 0 ≤ k.t.per ∧ k.t.per < 18446744073709551616 from ho.t.per)
  clear ho
  cases hc : ((x.slab.try k.t.slot k.saw 9).2.2 == 0) with
  | false =>
    rw [show runT .finishes ⟨k, x, ws, p⟩ = (.at none .behind, ⟨k, { x with slab := (x.slab.try k.t.slot k.saw 9).1 }, ws, p⟩) by simp [runT, tryTu, hc]]
    unfold MRT
    obtain ⟨gd, gC, gW, gP, hd, hx, hw, hpp, rfl, rfl⟩ := hz
    intro w hw
    have T0 := TG.refl hw
    have HT := Lib.hid T0
    clear hw T0
    have HT := Lib.hid (HT.out.sum (H' := [turnB kb L.fb pv (sVal L k) k, gd, e.1, gC, gW, gP]) (fun n ha h0 h1 h2 => by simp only [SU, ha, h0, h1, h2] <;> omega))
    have HX := Lib.hid hx
    have HD := Lib.hid hd
    have HW := Lib.hid hw
    have HPP := Lib.hid hpp
    clear hx hd hw hpp
    have hlk := turnTry (kb := kb) (pv := pv) (sv := sVal L k) HX.out HO.out HSW.out 9
    rw [hc] at hlk
    have HLK := Lib.hid hlk
    clear hlk hc
    generalize (x.slab.try k.t.slot k.saw 9).1 = sl at *
    go_enter Tryz.func339, Tryz.ntmps339
    go_wp2_with fail
    refine (DoesG.use (HLK.out) ((HT.out.alloc (k := w.heap.size) rfl 56 #[ptr' kb]).alloc (k := w.heap.size + 1) (by simp) 148 #[.nilFunc, .nilFunc]) [0, 3] rfl rfl).mono ?_
    rintro e w1 ⟨gs, ⟨rfl, g1, hx1, rfl⟩, Ta⟩
    simp only [PU] at Ta
    have HX := Lib.hid hx1
    clear hx1
    have HT := Lib.hid Ta
    clear Ta
    have b0 := HT.out.cell 6 0 rfl 0
    simp only [List.getElem?_nil, List.getElem?_toArray, List.getElem?_cons_zero, List.getElem?_cons_succ] at b0
    go_wp2_with fail
    refine (DoesG.use (at_g _ _ _) (HT.out) [] rfl rfl).mono ?_
    rintro e w1 ⟨gs, ⟨rfl, rfl⟩, Ta⟩
    simp only [PU] at Ta
    have HT := Lib.hid Ta
    clear Ta
    have r0 := HT.out.cell 7 0 rfl 0
    have fr0 := HT.out.free 7 0 rfl 0
    have r1 := HT.out.cell 7 0 rfl 1
    have fr1 := HT.out.free 7 0 rfl 1
    simp only [List.getElem?_nil, List.getElem?_toArray, List.getElem?_cons_zero, List.getElem?_cons_succ] at r0 r1
    go_wp2
    exact bodyPost_ret (v := .agg #[_, _]) (by simp [results, Tryz.results339, go_sem, r0, r1]) rfl ⟨_, ⟨e, leT.refl e, _, _, [], _, _, rfl, ⟨rfl, rfl, rfl⟩, ⟨gd, _, _, gP, HD.out, HX.out, HW.out, HPP.out, (rfl : turnB kb L.fb pv (sVal L k) k ++ (gd ++ e.1) = _), rfl⟩, rfl⟩, (((HT.out.set 7 0 rfl 0 _).set 7 0 rfl 1 _).pick [0, 1, 2, 3, 4, 5] rfl).sum2 (fun n ha h0 h1 h2 => by simp only [SU, ha, h0, h1, h2] <;> omega)⟩
  | true =>
    have hz2 : runT .finishes ⟨k, x, ws, p⟩ = (.row2 .rel .drop, if 0 < k.t.per ∧ lastW k.saw = false then ⟨k, { x with slab := (x.slab.try k.t.slot k.saw 9).1, tr := x.tr ++ [evT k { ev0 with kind := 14, id := k.t.id, gen := k.t.gen }] }, ws, p⟩ else ⟨k, { x with slab := (x.slab.try k.t.slot k.saw 9).1 }, ws, p⟩) := by
      have h1 : (tryTu 9 ⟨k, x, ws, p⟩).2 = true := hc
      simp only [runT, tryTu, ZT.note]
      exact if_pos h1
    rw [hz2]
    clear hz2
    have HLS := Lib.hid (lastR k.saw HSW.out.1 HSW.out.2)
    have HNT := Lib.hid (show ∀ g, isCore L { x with slab := (x.slab.try k.t.slot k.saw 9).1 } g → _ from fun g hg => turnNote (kb := kb) (pv := pv) (sv := sVal L k) (k := k) (gC := g) hg { ev0 with kind := 14, id := k.t.id, gen := k.t.gen } HTR.out)
    by_cases hper : 0 < k.t.per
    · cases hl : lastW k.saw with
      | false =>
        rw [if_pos ⟨hper, rfl⟩]
        rw [hl] at HLS
        clear hl HPE
        unfold MRT
        obtain ⟨gd, gC, gW, gP, hd, hx, hw, hpp, rfl, rfl⟩ := hz
        intro w hw
        have T0 := TG.refl hw
        have HT := Lib.hid T0
        clear hw T0
        have HT := Lib.hid (HT.out.sum (H' := [turnB kb L.fb pv (sVal L k) k, gd, e.1, gC, gW, gP]) (fun n ha h0 h1 h2 => by simp only [SU, ha, h0, h1, h2] <;> omega))
        have HX := Lib.hid hx
        have HD := Lib.hid hd
        have HW := Lib.hid hw
        have HPP := Lib.hid hpp
        clear hx hd hw hpp
        have hlk := turnTry (kb := kb) (pv := pv) (sv := sVal L k) HX.out HO.out HSW.out 9
        rw [hc] at hlk
        have HLK := Lib.hid hlk
        clear hlk hc
        generalize (x.slab.try k.t.slot k.saw 9).1 = sl at *
        go_enter Tryz.func339, Tryz.ntmps339
        go_wp2_with fail
        refine (DoesG.use (HLK.out) ((HT.out.alloc (k := w.heap.size) rfl 56 #[ptr' kb]).alloc (k := w.heap.size + 1) (by simp) 148 #[.nilFunc, .nilFunc]) [0, 3] rfl rfl).mono ?_
        rintro e w1 ⟨gs, ⟨rfl, g1, hx1, rfl⟩, Ta⟩
        simp only [PU] at Ta
        have HX := Lib.hid hx1
        clear hx1
        have HT := Lib.hid Ta
        clear Ta
        have b0 := HT.out.cell 6 0 rfl 0
        simp only [List.getElem?_nil, List.getElem?_toArray, List.getElem?_cons_zero, List.getElem?_cons_succ] at b0
        have k15 := HT.out.cell 0 0 rfl 15
        have k16 := HT.out.cell 0 0 rfl 16
        simp only [turnC, List.getElem?_toArray, List.getElem?_cons_zero, List.getElem?_cons_succ] at k15 k16
        go_wp2_with fail
        refine (ReadsG.use (HLS.out) (HT.out) [] rfl rfl).mono ?_
        rintro e w1 ⟨rfl, mq, rfl⟩
        have HT := Lib.hid (HT.out.drewN mq)
        generalize World.drewN _ _ = wq at HT ⊢
        clear b0 k15 k16 hper
        have b0 := HT.out.cell 6 0 rfl 0
        simp only [List.getElem?_nil, List.getElem?_toArray, List.getElem?_cons_zero, List.getElem?_cons_succ] at b0
        have k11 := HT.out.cell 0 0 rfl 11
        have k13 := HT.out.cell 0 0 rfl 13
        simp only [turnC, List.getElem?_toArray, List.getElem?_cons_zero, List.getElem?_cons_succ] at k11 k13
        go_wp2_with fail
        refine wp_region_mix1 12 (by kernel_rfl) (by kernel_rfl) ?_
        simp only [List.take_succ_cons, List.take_zero, List.drop_succ_cons, List.drop_zero]
        repeat (go_big_quiet_step ((fail)))
        refine wpQuiet_nil ?_
        intro _ hw'
        obtain ⟨nq, hw''⟩ := hw'
        subst hw''
        have HT := Lib.hid (HT.out.drewN nq)
        have hnt := HNT.out _ HX.out
        simp only [EvS.cells, ev0] at hnt
        go_wp2_with fail
        refine (DoesG.use (hnt) (HT.out) [0, 3] rfl rfl).mono ?_
        rintro e w1 ⟨gs, ⟨rfl, g2, hx2, rfl⟩, Ta⟩
        simp only [PU] at Ta
        have HX := Lib.hid hx2
        clear hx2 b0 k11 k13
        have HT := Lib.hid Ta
        clear Ta
        go_wp2_with fail
        refine ⟨rfl, ?_⟩
        obtain ⟨wz, rfl⟩ : ∃ wz, wz = w1 := ⟨_, rfl⟩
        go_wp2_with fail
        refine (DoesG.use (Cli.row_1 (b := wz.heap.size) (o := 0) (D := #[.func (.func 342) #[] #[ptr' w.heap.size], .func (.func 343) #[] #[ptr' w.heap.size]]) rfl 2 (.inr rfl)) (HT.out.alloc (k := wz.heap.size) rfl _ _) [8] rfl rfl).mono ?_
        rintro e w1 ⟨gs, ⟨bf, bl, bi, rfl, rfl⟩, Ta⟩
        simp only [PU] at Ta
        have HT := Lib.hid Ta
        clear Ta
        have r0 := HT.out.cell 7 0 rfl 0
        have fr0 := HT.out.free 7 0 rfl 0
        have r1 := HT.out.cell 7 0 rfl 1
        have fr1 := HT.out.free 7 0 rfl 1
        simp only [List.getElem?_nil, List.getElem?_toArray, List.getElem?_cons_zero, List.getElem?_cons_succ] at r0 r1
        go_wp2
        exact bodyPost_ret (v := .agg #[.nilFunc, _]) (by simp [results, Tryz.results339, go_sem, r0, r1]) rfl ⟨_, ⟨(e.1 ++ [cl w.heap.size 56 #[ptr' kb]], e.2), leT.app e _, _, _, _, _, _, rfl, ⟨rfl, bf, bl, bi, wz.heap.size, .func (.func 342) #[] #[ptr' w.heap.size], .func (.func 343) #[] #[ptr' w.heap.size], [], [], rfl, ⟨rfl, w.heap.size, rfl, List.mem_append_right _ (List.mem_cons_self ..)⟩, ⟨rfl, w.heap.size, rfl, List.mem_append_right _ (List.mem_cons_self ..)⟩, rfl⟩, ⟨gd, _, _, gP, HD.out, HX.out, HW.out, HPP.out, (rfl : turnB kb L.fb pv (sVal L k) k ++ (gd ++ (e.1 ++ [cl w.heap.size 56 #[ptr' kb]])) = _), rfl⟩, rfl⟩, (((HT.out.set 7 0 rfl 0 _).set 7 0 rfl 1 _).pick [9, 10, 11, 8, 0, 1, 2, 6, 3, 4, 5] rfl).sum2 (fun n ha h0 h1 h2 => by simp only [SU, ha, h0, h1, h2] <;> omega)⟩
      | true =>
        rw [if_neg (by simp)]
        rw [hl] at HLS
        clear hl HPE HNT
        unfold MRT
        obtain ⟨gd, gC, gW, gP, hd, hx, hw, hpp, rfl, rfl⟩ := hz
        intro w hw
        have T0 := TG.refl hw
        have HT := Lib.hid T0
        clear hw T0
        have HT := Lib.hid (HT.out.sum (H' := [turnB kb L.fb pv (sVal L k) k, gd, e.1, gC, gW, gP]) (fun n ha h0 h1 h2 => by simp only [SU, ha, h0, h1, h2] <;> omega))
        have HX := Lib.hid hx
        have HD := Lib.hid hd
        have HW := Lib.hid hw
        have HPP := Lib.hid hpp
        clear hx hd hw hpp
        have hlk := turnTry (kb := kb) (pv := pv) (sv := sVal L k) HX.out HO.out HSW.out 9
        rw [hc] at hlk
        have HLK := Lib.hid hlk
        clear hlk hc
        generalize (x.slab.try k.t.slot k.saw 9).1 = sl at *
        go_enter Tryz.func339, Tryz.ntmps339
        go_wp2_with fail
        refine (DoesG.use (HLK.out) ((HT.out.alloc (k := w.heap.size) rfl 56 #[ptr' kb]).alloc (k := w.heap.size + 1) (by simp) 148 #[.nilFunc, .nilFunc]) [0, 3] rfl rfl).mono ?_
        rintro e w1 ⟨gs, ⟨rfl, g1, hx1, rfl⟩, Ta⟩
        simp only [PU] at Ta
        have HX := Lib.hid hx1
        clear hx1
        have HT := Lib.hid Ta
        clear Ta
        have b0 := HT.out.cell 6 0 rfl 0
        simp only [List.getElem?_nil, List.getElem?_toArray, List.getElem?_cons_zero, List.getElem?_cons_succ] at b0
        have k15 := HT.out.cell 0 0 rfl 15
        have k16 := HT.out.cell 0 0 rfl 16
        simp only [turnC, List.getElem?_toArray, List.getElem?_cons_zero, List.getElem?_cons_succ] at k15 k16
        go_wp2_with fail
        refine (ReadsG.use (HLS.out) (HT.out) [] rfl rfl).mono ?_
        rintro e w1 ⟨rfl, mq, rfl⟩
        have HT := Lib.hid (HT.out.drewN mq)
        generalize World.drewN _ _ = wq at HT ⊢
        clear b0 k15 k16 hper
        go_wp2_with fail
        refine (DoesG.use (Cli.row_1 (b := wq.heap.size) (o := 0) (D := #[.func (.func 342) #[] #[ptr' w.heap.size], .func (.func 343) #[] #[ptr' w.heap.size]]) rfl 2 (.inr rfl)) (HT.out.alloc (k := wq.heap.size) rfl _ _) [8] rfl rfl).mono ?_
        rintro e w1 ⟨gs, ⟨bf, bl, bi, rfl, rfl⟩, Ta⟩
        simp only [PU] at Ta
        have HT := Lib.hid Ta
        clear Ta
        have r0 := HT.out.cell 7 0 rfl 0
        have fr0 := HT.out.free 7 0 rfl 0
        have r1 := HT.out.cell 7 0 rfl 1
        have fr1 := HT.out.free 7 0 rfl 1
        simp only [List.getElem?_nil, List.getElem?_toArray, List.getElem?_cons_zero, List.getElem?_cons_succ] at r0 r1
        go_wp2
        exact bodyPost_ret (v := .agg #[.nilFunc, _]) (by simp [results, Tryz.results339, go_sem, r0, r1]) rfl ⟨_, ⟨(e.1 ++ [cl w.heap.size 56 #[ptr' kb]], e.2), leT.app e _, _, _, _, _, _, rfl, ⟨rfl, bf, bl, bi, wq.heap.size, .func (.func 342) #[] #[ptr' w.heap.size], .func (.func 343) #[] #[ptr' w.heap.size], [], [], rfl, ⟨rfl, w.heap.size, rfl, List.mem_append_right _ (List.mem_cons_self ..)⟩, ⟨rfl, w.heap.size, rfl, List.mem_append_right _ (List.mem_cons_self ..)⟩, rfl⟩, ⟨gd, _, _, gP, HD.out, HX.out, HW.out, HPP.out, (rfl : turnB kb L.fb pv (sVal L k) k ++ (gd ++ (e.1 ++ [cl w.heap.size 56 #[ptr' kb]])) = _), rfl⟩, rfl⟩, (((HT.out.set 7 0 rfl 0 _).set 7 0 rfl 1 _).pick [9, 10, 11, 8, 0, 1, 2, 6, 3, 4, 5] rfl).sum2 (fun n ha h0 h1 h2 => by simp only [SU, ha, h0, h1, h2] <;> omega)⟩
    · rw [if_neg (fun h => hper h.1)]
      have hper0 : k.t.per = 0 := by have := HPE.out.1; omega
      clear HPE HNT HLS
      unfold MRT
      obtain ⟨gd, gC, gW, gP, hd, hx, hw, hpp, rfl, rfl⟩ := hz
      intro w hw
      have T0 := TG.refl hw
      have HT := Lib.hid T0
      clear hw T0
      have HT := Lib.hid (HT.out.sum (H' := [turnB kb L.fb pv (sVal L k) k, gd, e.1, gC, gW, gP]) (fun n ha h0 h1 h2 => by simp only [SU, ha, h0, h1, h2] <;> omega))
      have HX := Lib.hid hx
      have HD := Lib.hid hd
      have HW := Lib.hid hw
      have HPP := Lib.hid hpp
      clear hx hd hw hpp
      have hlk := turnTry (kb := kb) (pv := pv) (sv := sVal L k) HX.out HO.out HSW.out 9
      rw [hc] at hlk
      have HLK := Lib.hid hlk
      clear hlk hc
      generalize (x.slab.try k.t.slot k.saw 9).1 = sl at *
      go_enter Tryz.func339, Tryz.ntmps339
      go_wp2_with fail
      refine (DoesG.use (HLK.out) ((HT.out.alloc (k := w.heap.size) rfl 56 #[ptr' kb]).alloc (k := w.heap.size + 1) (by simp) 148 #[.nilFunc, .nilFunc]) [0, 3] rfl rfl).mono ?_
      rintro e w1 ⟨gs, ⟨rfl, g1, hx1, rfl⟩, Ta⟩
      simp only [PU] at Ta
      have HX := Lib.hid hx1
      clear hx1
      have HT := Lib.hid Ta
      clear Ta
      have b0 := HT.out.cell 6 0 rfl 0
      simp only [List.getElem?_nil, List.getElem?_toArray, List.getElem?_cons_zero, List.getElem?_cons_succ] at b0
      have k15 := HT.out.cell 0 0 rfl 15
      simp only [turnC, List.getElem?_toArray, List.getElem?_cons_zero, List.getElem?_cons_succ] at k15
      rw [hper0] at k15
      clear hper hper0
      obtain ⟨wz, rfl⟩ : ∃ wz, wz = w1 := ⟨_, rfl⟩
      go_wp2_with fail
      refine (DoesG.use (Cli.row_1 (b := wz.heap.size) (o := 0) (D := #[.func (.func 342) #[] #[ptr' w.heap.size], .func (.func 343) #[] #[ptr' w.heap.size]]) rfl 2 (.inr rfl)) (HT.out.alloc (k := wz.heap.size) rfl _ _) [8] rfl rfl).mono ?_
      rintro e w1 ⟨gs, ⟨bf, bl, bi, rfl, rfl⟩, Ta⟩
      simp only [PU] at Ta
      have HT := Lib.hid Ta
      clear Ta
      have r0 := HT.out.cell 7 0 rfl 0
      have fr0 := HT.out.free 7 0 rfl 0
      have r1 := HT.out.cell 7 0 rfl 1
      have fr1 := HT.out.free 7 0 rfl 1
      simp only [List.getElem?_nil, List.getElem?_toArray, List.getElem?_cons_zero, List.getElem?_cons_succ] at r0 r1
      go_wp2
      exact bodyPost_ret (v := .agg #[.nilFunc, _]) (by simp [results, Tryz.results339, go_sem, r0, r1]) rfl ⟨_, ⟨(e.1 ++ [cl w.heap.size 56 #[ptr' kb]], e.2), leT.app e _, _, _, _, _, _, rfl, ⟨rfl, bf, bl, bi, wz.heap.size, .func (.func 342) #[] #[ptr' w.heap.size], .func (.func 343) #[] #[ptr' w.heap.size], [], [], rfl, ⟨rfl, w.heap.size, rfl, List.mem_append_right _ (List.mem_cons_self ..)⟩, ⟨rfl, w.heap.size, rfl, List.mem_append_right _ (List.mem_cons_self ..)⟩, rfl⟩, ⟨gd, _, _, gP, HD.out, HX.out, HW.out, HPP.out, (rfl : turnB kb L.fb pv (sVal L k) k ++ (gd ++ (e.1 ++ [cl w.heap.size 56 #[ptr' kb]])) = _), rfl⟩, rfl⟩, (((HT.out.set 7 0 rfl 0 _).set 7 0 rfl 1 _).pick [9, 10, 11, 8, 0, 1, 2, 6, 3, 4, 5] rfl).sum2 (fun n ha h0 h1 h2 => by simp only [SU, ha, h0, h1, h2] <;> omega)⟩
end
end Go.Proofs.YtblhfbcodbjgcaaGreat

namespace Go.Proofs.YtblhfbcodbjgcaaGreat
set_option linter.unusedVariables false
set_option linter.unusedSimpArgs false
open Go.RowKit Go.Shelf
section
variable {L : Lay} {x : CoreS} {ws : List WheelS} {p : PipeS} {e : ET} {g gC gK gF : List Blk} {kb : Nat} {pv sv : Value} {k : TurnS}
set_option maxRecDepth 100000 in
set_option maxHeartbeats 4000000 in
theorem tClaims (hz : repT L kb pv e ⟨k, x, ws, p⟩ gK gF) (hp : preT .claims ⟨k, x, ws, p⟩) :
    DoesG Tryz.prog 310 #[ptr' kb] [gK, gF] (MRT L kb pv e (runT .claims ⟨k, x, ws, p⟩).1 (runT .claims ⟨k, x, ws, p⟩).2) := by
  obtain ⟨ho, _⟩ := hp
  have HO := Lib.hid ho.core
  have HSW := Lib.hid (show 0 ≤ k.saw ∧ k.saw < 18446744073709551616 from ⟨ho.saw.1, ho.saw.2.1⟩)
  have HTR := Lib.hid (show x.tr.length ≤ 1000000 from ho.core.tr)
  clear ho
  cases hc : ((x.slab.try k.t.slot k.saw 4).2.2 == 0) with
  | false =>
    rw [show runT .claims ⟨k, x, ws, p⟩ = (.at none .looks, ⟨k, { x with slab := (x.slab.try k.t.slot k.saw 4).1 }, ws, p⟩) by simp [runT, tryTu, hc]]
    unfold MRT
    obtain ⟨gd, gC, gW, gP, hd, hx, hw, hpp, rfl, rfl⟩ := hz
    intro w hw
    have T0 := TG.refl hw
    have HT := Lib.hid T0
    clear hw T0
    have HT := Lib.hid (HT.out.sum (H' := [turnB kb L.fb pv (sVal L k) k, gd, e.1, gC, gW, gP]) (fun n ha h0 h1 h2 => by simp only [SU, ha, h0, h1, h2] <;> omega))
    have HX := Lib.hid hx
    have HD := Lib.hid hd
    have HW := Lib.hid hw
    have HPP := Lib.hid hpp
    clear hx hd hw hpp
    have hlk := turnTry (kb := kb) (pv := pv) (sv := sVal L k) HX.out HO.out HSW.out 4
    rw [hc] at hlk
    have HLK := Lib.hid hlk
    clear hlk hc
    generalize (x.slab.try k.t.slot k.saw 4).1 = sl at *
    go_enter Tryz.func310, Tryz.ntmps310
    go_wp2_with fail
    refine (DoesG.use (HLK.out) ((HT.out.alloc (k := w.heap.size) rfl 56 #[ptr' kb]).alloc (k := w.heap.size + 1) (by simp) 148 #[.nilFunc, .nilFunc]) [0, 3] rfl rfl).mono ?_
    rintro e w1 ⟨gs, ⟨rfl, g1, hx1, rfl⟩, Ta⟩
    simp only [PU] at Ta
    have HX := Lib.hid hx1
    clear hx1
    have HT := Lib.hid Ta
    clear Ta
    have b0 := HT.out.cell 6 0 rfl 0
    simp only [List.getElem?_nil, List.getElem?_toArray, List.getElem?_cons_zero, List.getElem?_cons_succ] at b0
    go_wp2_with fail
    refine (DoesG.use (at_g _ _ _) (HT.out) [] rfl rfl).mono ?_
    rintro e w1 ⟨gs, ⟨rfl, rfl⟩, Ta⟩
    simp only [PU] at Ta
    have HT := Lib.hid Ta
    clear Ta
    have r0 := HT.out.cell 7 0 rfl 0
    have fr0 := HT.out.free 7 0 rfl 0
    have r1 := HT.out.cell 7 0 rfl 1
    have fr1 := HT.out.free 7 0 rfl 1
    simp only [List.getElem?_nil, List.getElem?_toArray, List.getElem?_cons_zero, List.getElem?_cons_succ] at r0 r1
    go_wp2
    exact bodyPost_ret (v := .agg #[_, _]) (by simp [results, Tryz.results310, go_sem, r0, r1]) rfl ⟨_, ⟨e, leT.refl e, _, _, [], _, _, rfl, ⟨rfl, rfl, rfl⟩, ⟨gd, _, _, gP, HD.out, HX.out, HW.out, HPP.out, (rfl : turnB kb L.fb pv (sVal L k) k ++ (gd ++ e.1) = _), rfl⟩, rfl⟩, (((HT.out.set 7 0 rfl 0 _).set 7 0 rfl 1 _).pick [0, 1, 2, 3, 4, 5] rfl).sum2 (fun n ha h0 h1 h2 => by simp only [SU, ha, h0, h1, h2] <;> omega)⟩
  | true =>
    rw [show runT .claims ⟨k, x, ws, p⟩ = (.thn (.row1 (.put ⟨k.t.id, k.t.gen, k.t.dl, k.now⟩)) .claims2, ⟨k, { x with slab := (x.slab.try k.t.slot k.saw 4).1, tr := x.tr ++ [evT k { ev0 with kind := 5, id := k.t.id, gen := k.t.gen, dl := k.t.dl, tick := k.now }] }, ws, p⟩) from if_pos hc]
    have HNT := Lib.hid (show ∀ g, isCore L { x with slab := (x.slab.try k.t.slot k.saw 4).1 } g → _ from fun g hg => turnNote (kb := kb) (pv := pv) (sv := sVal L k) (k := k) (gC := g) hg { ev0 with kind := 5, id := k.t.id, gen := k.t.gen, dl := k.t.dl, tick := k.now } HTR.out)
    unfold MRT
    obtain ⟨gd, gC, gW, gP, hd, hx, hw, hpp, rfl, rfl⟩ := hz
    intro w hw
    have T0 := TG.refl hw
    have HT := Lib.hid T0
    clear hw T0
    have HT := Lib.hid (HT.out.sum (H' := [turnB kb L.fb pv (sVal L k) k, gd, e.1, gC, gW, gP]) (fun n ha h0 h1 h2 => by simp only [SU, ha, h0, h1, h2] <;> omega))
    have HX := Lib.hid hx
    have HD := Lib.hid hd
    have HW := Lib.hid hw
    have HPP := Lib.hid hpp
    clear hx hd hw hpp
    have hlk := turnTry (kb := kb) (pv := pv) (sv := sVal L k) HX.out HO.out HSW.out 4
    rw [hc] at hlk
    have HLK := Lib.hid hlk
    clear hlk hc
    generalize (x.slab.try k.t.slot k.saw 4).1 = sl at *
    go_enter Tryz.func310, Tryz.ntmps310
    go_wp2_with fail
    refine (DoesG.use (HLK.out) ((HT.out.alloc (k := w.heap.size) rfl 56 #[ptr' kb]).alloc (k := w.heap.size + 1) (by simp) 148 #[.nilFunc, .nilFunc]) [0, 3] rfl rfl).mono ?_
    rintro e w1 ⟨gs, ⟨rfl, g1, hx1, rfl⟩, Ta⟩
    simp only [PU] at Ta
    have HX := Lib.hid hx1
    clear hx1
    have HT := Lib.hid Ta
    clear Ta
    have b0 := HT.out.cell 6 0 rfl 0
    simp only [List.getElem?_nil, List.getElem?_toArray, List.getElem?_cons_zero, List.getElem?_cons_succ] at b0
    have k9 := HT.out.cell 0 0 rfl 9
    have k11 := HT.out.cell 0 0 rfl 11
    have k13 := HT.out.cell 0 0 rfl 13
    have k14 := HT.out.cell 0 0 rfl 14
    simp only [turnC, List.getElem?_toArray, List.getElem?_cons_zero, List.getElem?_cons_succ] at k9 k11 k13 k14
    have ltb := HT.out.lt 6 0 rfl
    have ltk := HT.out.lt 0 0 rfl
    simp only [] at ltb ltk
    obtain ⟨wz, rfl⟩ : ∃ wz, wz = w1 := ⟨_, rfl⟩
    go_wp2_with fail
    clear HO HSW HTR
    generalize w.heap.size = bb at *
    have hnt := HNT.out _ HX.out
    simp only [EvS.cells, ev0] at hnt
    have HNT := Lib.hid hnt
    clear hnt
    go_region_held3 (fun w' => w'.cell? ⟨bb, 0, none⟩ = some (ptr' kb) ∧ w'.cell? ⟨kb, 9, none⟩ = some (.int .u64 k.now) ∧ w'.cell? ⟨kb, 11, none⟩ = some (.int .u64 k.t.id) ∧ w'.cell? ⟨kb, 13, none⟩ = some (.int .u64 k.t.gen) ∧ w'.cell? ⟨kb, 14, none⟩ = some (.int .u64 k.t.dl))
      (first
      | exact ⟨b0, k9, k11, k13, k14⟩
      | exact ⟨(HT.out.drew.alloc (k := wz.heap.size) rfl 69 #[.int .u64 0, .int .u64 0, .int .u64 0, .int .u64 0]).cell 6 0 rfl 0, (HT.out.drew.alloc (k := wz.heap.size) rfl 69 #[.int .u64 0, .int .u64 0, .int .u64 0, .int .u64 0]).cell 0 0 rfl 9, (HT.out.drew.alloc (k := wz.heap.size) rfl 69 #[.int .u64 0, .int .u64 0, .int .u64 0, .int .u64 0]).cell 0 0 rfl 11, (HT.out.drew.alloc (k := wz.heap.size) rfl 69 #[.int .u64 0, .int .u64 0, .int .u64 0, .int .u64 0]).cell 0 0 rfl 13, (HT.out.drew.alloc (k := wz.heap.size) rfl 69 #[.int .u64 0, .int .u64 0, .int .u64 0, .int .u64 0]).cell 0 0 rfl 14⟩
      | (refine ⟨?_, ?_, ?_, ?_, ?_⟩ <;> simp [go_sem, b0, k9, k11, k13, k14, ltb, ltk, Nat.ne_of_lt ltb, Nat.ne_of_lt ltk, Nat.ne_of_gt ltb, Nat.ne_of_gt ltk]))
      (fail)
    have HT := Lib.hid (HT.out.alloc (k := wz.heap.size) rfl 69 #[.int .u64 k.t.id, .int .u64 k.t.gen, .int .u64 k.t.dl, .int .u64 k.now]).drew
    generalize World.drew (World.alloc wz _) = w2 at HT ⊢
    generalize wz.heap.size = fb at HT ⊢
    clear b0 k9 k11 k13 k14 ltb ltk
    have b0 := HT.out.cell 6 0 rfl 0
    simp only [List.getElem?_nil, List.getElem?_toArray, List.getElem?_cons_zero, List.getElem?_cons_succ] at b0
    have f0 := HT.out.cell 8 0 rfl 0
    have f1 := HT.out.cell 8 0 rfl 1
    have f2 := HT.out.cell 8 0 rfl 2
    have f3 := HT.out.cell 8 0 rfl 3
    simp only [List.getElem?_nil, List.getElem?_toArray, List.getElem?_cons_zero, List.getElem?_cons_succ] at f0 f1 f2 f3
    go_wp2_with fail
    refine (DoesG.use (HNT.out) (HT.out) [0, 3] rfl rfl).mono ?_
    rintro e w1 ⟨gs, ⟨rfl, g2, hx2, rfl⟩, Ta⟩
    simp only [PU] at Ta
    have HX := Lib.hid hx2
    clear hx2 b0 f0 f1 f2 f3
    have HT := Lib.hid Ta
    clear Ta
    obtain ⟨wy, rfl⟩ : ∃ wy, wy = w1 := ⟨_, rfl⟩
    go_wp2_with fail
    refine (DoesG.use (Cli.row_1 (b := wy.heap.size) (o := 0) (D := #[.func (.func 322) #[] #[ptr' bb, ptr' fb]]) rfl 1 (.inl rfl)) (HT.out.alloc (k := wy.heap.size) rfl _ _) [9] rfl rfl).mono ?_
    rintro e w1 ⟨gs, ⟨bf, bl, bi, rfl, rfl⟩, Ta⟩
    simp only [PU] at Ta
    have HT := Lib.hid Ta
    clear Ta
    generalize wy.heap.size = sb at *
    have hsv : (cliT L kb pv).SV (e.1 ++ [cl bb 56 #[ptr' kb], cl fb 69 #[.int .u64 k.t.id, .int .u64 k.t.gen, .int .u64 k.t.dl, .int .u64 k.now]], e.2) (.row1 (.put ⟨k.t.id, k.t.gen, k.t.dl, k.now⟩)) .nilFunc (.func (.func 188) #[] #[ptr' bf, ptr' bl, ptr' bi]) ([cl bf 1 #[.func (.func 322) #[] #[ptr' bb, ptr' fb]], cl bl 303 #[.slice (some ⟨sb, 0, none⟩) 1 1], cl bi 3 #[.int .i64 0], cl sb 1 #[.func (.func 322) #[] #[ptr' bb, ptr' fb]]] ++ []) :=
      ⟨rfl, bf, bl, bi, sb, 0, _, _, _, rfl, ⟨rfl, bb, fb, rfl, List.mem_append_right _ (List.mem_cons_self ..), List.mem_append_right _ (List.mem_cons_of_mem _ (List.mem_cons_self ..))⟩, rfl, rfl⟩
    have HSV := Lib.hid hsv
    clear hsv
    go_wp2_with fail
    refine (DoesG.use (Cli.prog_then_x (c := (cliT L kb pv).on (e.1 ++ [cl bb 56 #[ptr' kb], cl fb 69 #[.int .u64 k.t.id, .int .u64 k.t.gen, .int .u64 k.t.dl, .int .u64 k.now]], e.2)) (f := MT.claims2) (v := .func (.func 324) #[] #[ptr' bb]) (gm := []) (cliT_vals L kb pv _) rfl HSV.out ⟨rfl, bb, rfl, List.mem_append_right _ (List.mem_cons_self ..)⟩) (HT.out.sum2 (H' := [turnB kb L.fb pv (sVal L k) k, gd, e.1, g2, gW, gP, [cl bb 56 #[ptr' kb]], [cl (bb + 1) 148 #[.nilFunc, .nilFunc]], [cl fb 69 #[.int .u64 k.t.id, .int .u64 k.t.gen, .int .u64 k.t.dl, .int .u64 k.now]], [cl bf 1 #[.func (.func 322) #[] #[ptr' bb, ptr' fb]], cl bl 303 #[.slice (some ⟨sb, 0, none⟩) 1 1], cl bi 3 #[.int .i64 0], cl sb 1 #[.func (.func 322) #[] #[ptr' bb, ptr' fb]]] ++ [], []]) (fun n ha h0 h1 h2 => by simp only [SU, ha, h0, h1, h2] <;> omega)) [9, 10] rfl rfl).mono ?_
    rintro e w1 ⟨gs, ⟨bs, br, rfl, rfl⟩, Ta⟩
    simp only [PU] at Ta
    have HT := Lib.hid Ta
    clear Ta
    have r0 := HT.out.cell 7 0 rfl 0
    have fr0 := HT.out.free 7 0 rfl 0
    have r1 := HT.out.cell 7 0 rfl 1
    have fr1 := HT.out.free 7 0 rfl 1
    simp only [List.getElem?_nil, List.getElem?_toArray, List.getElem?_cons_zero, List.getElem?_cons_succ] at r0 r1
    go_wp2
    exact bodyPost_ret (v := .agg #[_, _]) (by simp [results, Tryz.results310, go_sem, r0, r1]) rfl ⟨_, ⟨(e.1 ++ [cl bb 56 #[ptr' kb], cl fb 69 #[.int .u64 k.t.id, .int .u64 k.t.gen, .int .u64 k.t.dl, .int .u64 k.now]], e.2), leT.app e _, _, _, _, _, _, rfl, ⟨bs, br, _, _, _, [], rfl, rfl, HSV.out, ⟨rfl, bb, rfl, List.mem_append_right _ (List.mem_cons_self ..)⟩, rfl⟩, ⟨gd, _, _, gP, HD.out, HX.out, HW.out, HPP.out, (rfl : turnB kb L.fb pv (sVal L k) k ++ (gd ++ (e.1 ++ [cl bb 56 #[ptr' kb], cl fb 69 #[.int .u64 k.t.id, .int .u64 k.t.gen, .int .u64 k.t.dl, .int .u64 k.now]])) = _), rfl⟩, rfl⟩, (((HT.out.set 7 0 rfl 0 _).set 7 0 rfl 1 _).pick [9, 0, 1, 2, 6, 8, 3, 4, 5] rfl).sum2 (fun n ha h0 h1 h2 => by simp only [SU, ha, h0, h1, h2] <;> omega)⟩
end
end Go.Proofs.YtblhfbcodbjgcaaGreat
