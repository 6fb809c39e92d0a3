import Derived.Test.YtblhfbcodbjgcaaGreatTU9
import Derived.Test.YtblhfbcodbjgcaaGreatTU10
import Derived.Test.YtblhfbcodbjgcaaGreatTU11
namespace Go.Proofs.YtblhfbcodbjgcaaGreat
set_option linter.unusedVariables false
set_option linter.unusedSimpArgs false
open Go.RowKit Go.Shelf
section
variable {L : Lay} {x : CoreS} {gK gF : List Blk} {kb : Nat} {pv : Value} {k : WorkS}
set_option maxRecDepth 100000 in
theorem mSubmits (hz : rep2 L kb pv k x gK gF) (hp : preMC .submits (k, x)) : DoesG Tryz.prog 202 #[ptr' kb] [gK, gF] (MRz L kb pv (runC .submits (k, x))) := by
  have HEV := Lib.hid (show ∀ g rv tv, isCore L x g → _ from fun g rv tv hx => workEvent (kb := kb) (pv := pv) (rv := rv) (tv := tv) (k := k) (g := g) hx hp.1 2)
  have HLN := Lib.hid (show ({ x with slab := (eventS k.slot 2 x.slab).1 } : CoreS).tr.length ≤ 1000000 from hp.1.tr)
  have HZ := Lib.hid (show runC .submits (k, x) = (.at none .fills, (eventW 2 k x.slab, noteC (eventW 2 k x.slab) { ev0 with kind := 3, id := k.id, gen := (eventW 2 k x.slab).gen, dl := k.cdl, per := k.period } { x with slab := (eventS k.slot 2 x.slab).1 })) from rfl)
  rw [HZ.out]
  unfold MRz
  dsimp only
  obtain ⟨k2, hk2⟩ : ∃ k2, eventW 2 k x.slab = k2 := ⟨_, rfl⟩
  have HK := Lib.hid (show k2.id = k.id ∧ k2.cdl = k.cdl ∧ k2.period = k.period ∧ k2.rq = k.rq ∧ k2.tk = k.tk from by subst hk2; exact ⟨rfl, rfl, rfl, rfl, rfl⟩)
  rw [hk2] at HEV ⊢
  clear hp hk2 HZ
  obtain ⟨rv, tv, gq, gt, hr, ht, rfl, hx⟩ := hz
  intro w hw
  have T0 := TG.refl hw
  have HT := Lib.hid T0
  clear hw T0
  have HT := Lib.hid (HT.out.sum (H' := [workB kb L.fb pv rv tv k, gq, gt, gF]) (fun n ha h0 h1 h2 => by simp only [SU, ha, h0, h1, h2] <;> omega))
  have HX := Lib.hid hx
  have HR := Lib.hid hr
  have HTK := Lib.hid ht
  clear hx hr ht
  have HT := Lib.hid (HT.out.alloc (k := w.heap.size) rfl 148 #[.nilFunc, .nilFunc])
  go_enter Tryz.func202, Tryz.ntmps202
  go_wp2_with fail
  refine (DoesG.use (HEV.out _ _ _ HX.out) (HT.out) [0, 3] rfl rfl).mono ?_
  rintro e w1 ⟨gs, ⟨rfl, g1, hx1, rfl⟩, Ta⟩
  simp only [PU] at Ta
  have HX := Lib.hid hx1
  clear hx1
  have HT := Lib.hid Ta
  clear Ta
  have k5 := HT.out.cell 0 0 rfl 5
  have k15 := HT.out.cell 0 0 rfl 15
  have k18 := HT.out.cell 0 0 rfl 18
  simp only [workC, List.getElem?_toArray, List.getElem?_cons_zero, List.getElem?_cons_succ] at k5 k15 k18
  go_wp2
  refine wp_region_mix1 17 (by kernel_rfl) (by kernel_rfl) ?_
  simp only [List.take_succ_cons, List.take_zero, List.drop_succ_cons, List.drop_zero]
  repeat (go_big_quiet_step ((first | (go_at_call 139; with_reducible exact ReadsG.quiet (workPeriod_r (L := L)) HT.out _ [0] rfl rfl))))
  refine wpQuiet_nil ?_
  intro _ hw'
  obtain ⟨nq, hw''⟩ := hw'
  subst hw''
  have HT := Lib.hid (HT.out.drewN nq)
  go_wp2_with fail
  refine (DoesG.use (workNote HX.out { ev0 with kind := 3, id := k2.id, gen := k2.gen, dl := k2.cdl, per := k2.period } HLN.out) (HT.out) [0, 3] rfl rfl).mono ?_
  rintro e w1 ⟨gs, ⟨rfl, g2, hx2, rfl⟩, Ta⟩
  simp only [PU] at Ta
  have HX := Lib.hid hx2
  clear hx2 k5 k15 k18
  have HT := Lib.hid Ta
  clear Ta
  go_wp2_with fail
  refine ⟨rfl, ?_⟩
  rw [HK.out.1, HK.out.2.1, HK.out.2.2.1] at HX
  go_wp2_with fail
  refine (DoesG.use (callsAt) (HT.out) [] rfl rfl).mono ?_
  rintro e w1 ⟨gs, ⟨rfl, rfl⟩, Ta⟩
  simp only [PU] at Ta
  have HT := Lib.hid Ta
  clear Ta
  have e0 := HT.out.cell 4 0 rfl 0
  have fe0 := HT.out.free 4 0 rfl 0
  have e1 := HT.out.cell 4 0 rfl 1
  have fe1 := HT.out.free 4 0 rfl 1
  simp only [List.getElem?_nil, List.getElem?_toArray, List.getElem?_cons_zero, List.getElem?_cons_succ] at e0 e1
  go_wp2
  exact bodyPost_ret (v := .agg #[.nilFunc, .func (.func 210) #[ptr' kb] #[]]) (by simp [results, Tryz.results202, go_sem, e0, e1]) rfl ⟨_, ⟨_, _, [], _, _, rfl, ⟨rfl, rfl, rfl⟩, ⟨_, _, gq, gt, (HK.out.2.2.2.1 ▸ HR.out), (HK.out.2.2.2.2 ▸ HTK.out), rfl, HX.out⟩, rfl⟩, (((HT.out.set 4 0 rfl 0 _).set 4 0 rfl 1 _).pick [0, 1, 2, 3] rfl).sum (fun n ha h0 h1 h2 => by simp only [SU, ha, h0, h1, h2] <;> omega)⟩
set_option maxRecDepth 100000 in
theorem mFills (hz : rep2 L kb pv k x gK gF) (hp : preMC .fills (k, x)) : DoesG Tryz.prog 210 #[ptr' kb] [gK, gF] (MRz L kb pv (runC .fills (k, x))) := by
  obtain ⟨hok, hwk, hpr⟩ := hp
  simp only at hok hwk hpr
  obtain ⟨⟨i, t⟩, htke⟩ := Option.isSome_iff_exists.1 hpr
  obtain ⟨htb, hi⟩ := hwk.tk i t htke
  obtain ⟨s, hs⟩ : ∃ s, x.shs[i]? = some s := ⟨_, List.getElem?_eq_getElem hi⟩
  have hrb := hok.ring s (List.mem_of_getElem? hs)
  have hE : fillC (taskC (k, x)) (k, x) = ({ k with tk := some (i, (fillT s.ring t (taskC (k, x))).2.1) }, { x with shs := x.shs.set i { s with ring := (fillT s.ring t (taskC (k, x))).1 } }) := by
    unfold fillC
    simp only [htke, hs]
  have HZ : runC .fills (k, x) = (leavesC, (okC { k with tk := some (i, (fillT s.ring t (taskC (k, x))).2.1) }, { x with shs := x.shs.set i { s with ring := (fillT s.ring t (taskC (k, x))).1 } })) := by
    show (leavesC, (okC (fillC (taskC (k, x)) (k, x)).1, (fillC (taskC (k, x)) (k, x)).2)) = _
    rw [hE]
  rw [HZ]
  unfold MRz
  dsimp only [okC]
  obtain ⟨rv, tv, gq, gt, hr, ht, rfl, hx⟩ := hz
  rw [htke] at ht
  obtain ⟨tb, qs, hqs, rfl, rfl⟩ := ht
  have HFI := Lib.hid (coreFill hx hqs hs tb t hrb htb (taskC (k, x)))
  have HPE := Lib.hid (corePeriod_r hx hok.slab.n1 k.slot)
  have HTA := Lib.hid (show (taskC (k, x)).cells = #[.int .u64 k.id, .int .i64 k.slot, .int .u64 k.gen, .int .u64 k.cdl, .int .u64 (x.slab.period k.slot)] from rfl)
  rw [HTA.out] at HFI
  generalize fillT s.ring t (taskC (k, x)) = rt at *
  intro w hw
  have T0 := TG.refl hw
  have HT := Lib.hid T0
  clear hw T0
  have HT := Lib.hid (HT.out.sum (H' := [workB kb L.fb pv rv (ptr' tb) k, gq, tickG tb qs.rb t, gF]) (fun n ha h0 h1 h2 => by simp only [SU, ha, h0, h1, h2] <;> omega))
  have HX := Lib.hid hx
  have HR := Lib.hid hr
  have HQS := Lib.hid hqs
  clear hx hr hqs hs hrb htb hE HZ hok hwk hpr htke hi
  have k0 := HT.out.cell 0 0 rfl 0
  have k5 := HT.out.cell 0 0 rfl 5
  have k14 := HT.out.cell 0 0 rfl 14
  have k15 := HT.out.cell 0 0 rfl 15
  have k16 := HT.out.cell 0 0 rfl 16
  have k18 := HT.out.cell 0 0 rfl 18
  simp only [workC, List.getElem?_toArray, List.getElem?_cons_zero, List.getElem?_cons_succ] at k0 k5 k14 k15 k16 k18
  have lt := HT.out.lt 0 0 rfl
  simp only [] at lt
  go_enter Tryz.func210, Tryz.ntmps210
  go_wp2
  have HT := Lib.hid (HT.out.alloc (k := w.heap.size) rfl 148 #[.nilFunc, .nilFunc])
  refine wp_region_mix1 32 (by kernel_rfl) (by kernel_rfl) ?_
  simp only [List.take_succ_cons, List.take_zero, List.drop_succ_cons, List.drop_zero]
  repeat (go_big_quiet_step ((first | (go_at_call 22; with_reducible exact ReadsG.quiet (coreSlab_r HX.out) HT.out _ [3] rfl rfl) | (go_at_call 207; with_reducible exact ReadsG.quiet (HPE.out) HT.out _ [3] rfl rfl))))
  refine wpQuiet_nil ?_
  intro _ hw'
  obtain ⟨nq, hw''⟩ := hw'
  subst hw''
  have HT := Lib.hid (HT.out.drewN nq)
  go_wp2_with fail
  refine (DoesG.use (HFI.out) (HT.out) [2, 3] rfl rfl).mono ?_
  rintro e w1 ⟨gs, ⟨rfl, g1, hx1, rfl⟩, Ta⟩
  simp only [PU] at Ta
  have HX := Lib.hid hx1
  clear hx1 k0 k5 k14 k15 k16 k18 lt
  have HT := Lib.hid Ta
  clear Ta
  go_wp2_with fail
  refine ⟨rfl, ?_⟩
  have k15 := HT.out.cell 0 0 rfl 15
  have k18 := HT.out.cell 0 0 rfl 18
  have k7 := HT.out.cell 0 0 rfl 7
  have fk7 := HT.out.free 0 0 rfl 7
  have k8 := HT.out.cell 0 0 rfl 8
  have fk8 := HT.out.free 0 0 rfl 8
  have k9 := HT.out.cell 0 0 rfl 9
  have fk9 := HT.out.free 0 0 rfl 9
  have k10 := HT.out.cell 0 0 rfl 10
  have fk10 := HT.out.free 0 0 rfl 10
  have k11 := HT.out.cell 0 0 rfl 11
  have fk11 := HT.out.free 0 0 rfl 11
  simp only [workC, List.getElem?_toArray, List.getElem?_cons_zero, List.getElem?_cons_succ] at k15 k18 k7 k8 k9 k10 k11
  go_wp2
  refine wp_region_mix1 10 (by kernel_rfl) (by kernel_rfl) ?_
  simp only [List.take_succ_cons, List.take_zero, List.drop_succ_cons, List.drop_zero]
  repeat (go_big_quiet_step ((fail)))
  refine wpQuiet_nil ?_
  intro _ hw'
  obtain ⟨nq, hw''⟩ := hw'
  subst hw''
  have HT := Lib.hid (HT.out.drewN nq)
  go_wp2_with fail
  refine ⟨rfl, ?_⟩
  have HT := Lib.hid ((((((HT.out.set 0 0 rfl 7 (.int .i64 0)).set 0 0 rfl 8 (.bool true)).set 0 0 rfl 9 (.int .u64 k.id)).set 0 0 rfl 10 (.int .u64 k.gen)).set 0 0 rfl 11 (.slice none 0 0)).eq (H' := [workB kb L.fb pv rv (ptr' tb) { k with tk := some (i, rt.2.1), err := 0, ok := true, aid := k.id, agen := k.gen }, gq, tickG tb qs.rb rt.2.1, g1, [cl w.heap.size 148 #[.nilFunc, .nilFunc]]]) rfl)
  clear k15 k18 k7 k8 k9 k10 k11 fk7 fk8 fk9 fk10 fk11
  go_wp2_with fail
  refine (DoesG.use (sLeaves L kb pv) (HT.out) [] rfl rfl).mono ?_
  rintro e w1 ⟨gs, ⟨m2, d2, g2, rfl, hs2, rfl⟩, Ta⟩
  simp only [PU] at Ta
  have HT := Lib.hid Ta
  clear Ta
  have e0 := HT.out.cell 4 0 rfl 0
  have fe0 := HT.out.free 4 0 rfl 0
  have e1 := HT.out.cell 4 0 rfl 1
  have fe1 := HT.out.free 4 0 rfl 1
  simp only [List.getElem?_nil, List.getElem?_toArray, List.getElem?_cons_zero, List.getElem?_cons_succ] at e0 e1
  have hv2 := (cliC_vals L kb pv).vals hs2
  obtain ⟨st1, st2⟩ := Cli.store_fv2 (P := Tryz.prog) hv2.1 hv2.2 e0 fe0 e1 fe1
  have HS := Lib.hid hs2
  clear hv2 hs2
  go_wp2
  exact bodyPost_ret (v := .agg #[_, _]) (by simp [results, Tryz.results210, go_sem, e0, e1]) rfl ⟨_, ⟨m2, d2, g2, _, _, rfl, HS.out, ⟨_, _, gq, (tickG tb qs.rb rt.2.1), HR.out, ⟨tb, qs, HQS.out, rfl, rfl⟩, rfl, HX.out⟩, rfl⟩, (((HT.out.set 4 0 rfl 0 _).set 4 0 rfl 1 _).pick [0, 1, 2, 3, 5] rfl).sum (fun n ha h0 h1 h2 => by simp only [SU, ha, h0, h1, h2] <;> omega)⟩
end
end Go.Proofs.YtblhfbcodbjgcaaGreat

namespace Go.Proofs.YtblhfbcodbjgcaaGreat
set_option linter.unusedVariables false
set_option linter.unusedSimpArgs false
open Go.RowKit Go.Shelf
section
variable {L : Lay} {x : CoreS} {gK gF : List Blk} {kb : Nat} {pv : Value} {k : WorkS}
def AR (L : Lay) (kb : Nat) (pv : Value) (z : ZC) (e : Ending) (gs : GH) : Prop := ∃ gK' gF', e = .returned (.tuple #[]) ∧ rep2 L kb pv z.1 z.2 gK' gF' ∧ gs = [[], gK', gF']
set_option maxRecDepth 100000 in
theorem aEnds (hz : rep2 L kb pv k x gK gF) (hp : preAC .ends1 (k, x)) (bk : Nat) : DoesG Tryz.prog 165 #[ptr' bk] [[cl bk 33 #[ptr' kb]], gK, gF] (AR L kb pv (runA .ends1 (k, x))) := by
  have HLN := Lib.hid hp.1.tr
  simp only at HLN
  clear hp
  unfold AR
  dsimp only [runA, noteZ]
  obtain ⟨rv, tv, gq, gt, hr, ht, rfl, hx⟩ := hz
  intro w hw
  have T0 := TG.refl hw
  have HT := Lib.hid T0
  clear hw T0
  have HT := Lib.hid (HT.out.sum (H' := [workB kb L.fb pv rv tv k, gq, gt, gF, [cl bk 33 #[ptr' kb]]]) (fun n ha h0 h1 h2 => by simp only [SU, ha, h0, h1, h2] <;> omega))
  have HX := Lib.hid hx
  have HR := Lib.hid hr
  have HTK := Lib.hid ht
  clear hx hr ht
  have k7 := HT.out.cell 0 0 rfl 7
  have k9 := HT.out.cell 0 0 rfl 9
  have k10 := HT.out.cell 0 0 rfl 10
  simp only [workC, List.getElem?_toArray, List.getElem?_cons_zero, List.getElem?_cons_succ] at k7 k9 k10
  have b0 := HT.out.cell 4 0 rfl 0
  simp only [List.getElem?_nil, List.getElem?_toArray, List.getElem?_cons_zero, List.getElem?_cons_succ] at b0
  go_enter Tryz.func165, Tryz.ntmps165
  go_wp2_with fail
  refine wp_region_mix1 17 (by kernel_rfl) (by kernel_rfl) ?_
  simp only [List.take_succ_cons, List.take_zero, List.drop_succ_cons, List.drop_zero]
  repeat (go_big_quiet_step ((fail)))
  refine wpQuiet_nil ?_
  intro _ hw'
  obtain ⟨nq, hw''⟩ := hw'
  subst hw''
  have HT := Lib.hid (HT.out.drewN nq)
  go_wp2_with fail
  refine (DoesG.use (workNote HX.out { ev0 with kind := 2, id := k.aid, gen := k.agen, err := k.err } HLN.out) (HT.out) [0, 3] rfl rfl).mono ?_
  rintro e w1 ⟨gs, ⟨rfl, g2, hx2, rfl⟩, Ta⟩
  simp only [PU] at Ta
  have HX := Lib.hid hx2
  clear hx2 k7 k9 k10 b0
  have HT := Lib.hid Ta
  clear Ta
  go_wp2_with fail
  refine ⟨rfl, ?_⟩
  go_wp2
  exact bodyPost_end (results_none rfl _ _ _) rfl ⟨_, ⟨_, _, rfl, ⟨_, _, gq, gt, HR.out, HTK.out, rfl, HX.out⟩, rfl⟩, (HT.out.pick [0, 1, 2, 3] rfl).sum (fun n ha h0 h1 h2 => by simp only [SU, ha, h0, h1, h2] <;> omega)⟩
set_option maxRecDepth 100000 in
theorem aLeaves (hz : rep2 L kb pv k x gK gF) (hp : preAC .leaves1 (k, x)) (bk : Nat) : DoesG Tryz.prog 192 #[ptr' bk] [[cl bk 33 #[ptr' kb]], gK, gF] (AR L kb pv (runA .leaves1 (k, x))) := by
  have HI := Lib.hid (And.intro hp.1.i0 hp.1.i1)
  simp only at HI
  clear hp
  unfold AR
  dsimp only [runA]
  obtain ⟨rv, tv, gq, gt, hr, ht, rfl, hx⟩ := hz
  intro w hw
  have T0 := TG.refl hw
  have HT := Lib.hid T0
  clear hw T0
  have HT := Lib.hid (HT.out.sum (H' := [workB kb L.fb pv rv tv k, gq, gt, gF, [cl bk 33 #[ptr' kb]]]) (fun n ha h0 h1 h2 => by simp only [SU, ha, h0, h1, h2] <;> omega))
  have HX := Lib.hid hx
  have HR := Lib.hid hr
  have HTK := Lib.hid ht
  clear hx hr ht
  have k0 := HT.out.cell 0 0 rfl 0
  simp only [workC, List.getElem?_toArray, List.getElem?_cons_zero, List.getElem?_cons_succ] at k0
  have b0 := HT.out.cell 4 0 rfl 0
  simp only [List.getElem?_nil, List.getElem?_toArray, List.getElem?_cons_zero, List.getElem?_cons_succ] at b0
  go_enter Tryz.func192, Tryz.ntmps192
  go_wp2_with fail
  refine (DoesG.use (coreLeave HX.out HI.out) (HT.out) [3] rfl rfl).mono ?_
  rintro e w1 ⟨gs, ⟨rfl, g2, hx2, rfl⟩, Ta⟩
  simp only [PU] at Ta
  have HX := Lib.hid hx2
  clear hx2 k0 b0
  have HT := Lib.hid Ta
  clear Ta
  go_wp2
  exact bodyPost_end (results_none rfl _ _ _) rfl ⟨_, ⟨_, _, rfl, ⟨_, _, gq, gt, HR.out, HTK.out, rfl, HX.out⟩, rfl⟩, (HT.out.pick [0, 1, 2, 3] rfl).sum (fun n ha h0 h1 h2 => by simp only [SU, ha, h0, h1, h2] <;> omega)⟩
set_option maxRecDepth 100000 in
theorem aTries (hz : rep2 L kb pv k x gK gF) (hp : preAC .tries1 (k, x)) (bk : Nat) : DoesG Tryz.prog 211 #[ptr' bk] [[cl bk 33 #[ptr' kb]], gK, gF] (AR L kb pv (runA .tries1 (k, x))) := by
  have HOK := Lib.hid hp.1
  simp only at HOK
  clear hp
  unfold AR
  dsimp only [runA, eventC]
  obtain ⟨rv, tv, gq, gt, hr, ht, rfl, hx⟩ := hz
  intro w hw
  have T0 := TG.refl hw
  have HT := Lib.hid T0
  clear hw T0
  have HT := Lib.hid (HT.out.sum (H' := [workB kb L.fb pv rv tv k, gq, gt, gF, [cl bk 33 #[ptr' kb]]]) (fun n ha h0 h1 h2 => by simp only [SU, ha, h0, h1, h2] <;> omega))
  have HX := Lib.hid hx
  have HR := Lib.hid hr
  have HTK := Lib.hid ht
  clear hx hr ht
  have b0 := HT.out.cell 4 0 rfl 0
  simp only [List.getElem?_nil, List.getElem?_toArray, List.getElem?_cons_zero, List.getElem?_cons_succ] at b0
  go_enter Tryz.func211, Tryz.ntmps211
  go_wp2_with fail
  refine (DoesG.use (workEvent HX.out HOK.out 10) (HT.out) [0, 3] rfl rfl).mono ?_
  rintro e w1 ⟨gs, ⟨rfl, g2, hx2, rfl⟩, Ta⟩
  simp only [PU] at Ta
  have HX := Lib.hid hx2
  clear hx2 b0
  have HT := Lib.hid Ta
  clear Ta
  go_wp2
  exact bodyPost_end (results_none rfl _ _ _) rfl ⟨_, ⟨_, _, rfl, ⟨_, _, gq, gt, HR.out, HTK.out, rfl, HX.out⟩, rfl⟩, (HT.out.pick [0, 1, 2, 3] rfl).sum (fun n ha h0 h1 h2 => by simp only [SU, ha, h0, h1, h2] <;> omega)⟩
set_option maxRecDepth 100000 in
theorem aUndo (hz : rep2 L kb pv k x gK gF) (hp : preAC .undo (k, x)) : DoesG Tryz.prog 199 #[ptr' kb] [gK, gF] (AR L kb pv (runA .undo (k, x))) := by
  have HOK := Lib.hid hp.1
  simp only at HOK
  have HLN := Lib.hid (show ({ x with slab := (eventS k.slot 9 x.slab).1 } : CoreS).tr.length ≤ 1000000 from hp.1.tr)
  clear hp
  unfold AR
  dsimp only [runA, eventC, refuseC]
  obtain ⟨rv, tv, gq, gt, hr, ht, rfl, hx⟩ := hz
  intro w hw
  have T0 := TG.refl hw
  have HT := Lib.hid T0
  clear hw T0
  have HT := Lib.hid (HT.out.sum (H' := [workB kb L.fb pv rv tv k, gq, gt, gF, []]) (fun n ha h0 h1 h2 => by simp only [SU, ha, h0, h1, h2] <;> omega))
  have HX := Lib.hid hx
  have HR := Lib.hid hr
  have HTK := Lib.hid ht
  clear hx hr ht
  go_enter Tryz.func199, Tryz.ntmps199
  go_wp2_with fail
  refine (DoesG.use (workEvent HX.out HOK.out 9) (HT.out) [0, 3] rfl rfl).mono ?_
  rintro e w1 ⟨gs, ⟨rfl, g1, hx1, rfl⟩, Ta⟩
  simp only [PU] at Ta
  have HX := Lib.hid hx1
  clear hx1
  have HT := Lib.hid Ta
  clear Ta
  go_wp2_with fail
  refine (DoesG.use (workRefuse HX.out 2 HLN.out) (HT.out) [0, 3] rfl rfl).mono ?_
  rintro e w1 ⟨gs, ⟨rfl, g2, hx2, rfl⟩, Ta⟩
  simp only [PU] at Ta
  have HX := Lib.hid hx2
  clear hx2
  have HT := Lib.hid Ta
  clear Ta
  go_wp2
  exact bodyPost_end (results_none rfl _ _ _) rfl ⟨_, ⟨_, _, rfl, ⟨_, _, gq, gt, HR.out, HTK.out, rfl, HX.out⟩, rfl⟩, (HT.out.pick [0, 1, 2, 3] rfl).sum (fun n ha h0 h1 h2 => by simp only [SU, ha, h0, h1, h2] <;> omega)⟩
set_option maxRecDepth 100000 in
theorem aDrop (hz : rep2 L kb pv k x gK gF) (hp : preAC .drop (k, x)) : DoesG Tryz.prog 200 #[ptr' kb] [gK, gF] (AR L kb pv (runA .drop (k, x))) := by
  have HC := Lib.hid (And.intro hp.1.slab.c0 (show x.slab.count ≤ 64 by have := hp.1.slab.c1; have := hp.1.slab.n1; simp only at *; omega))
  simp only at HC
  clear hp
  unfold AR
  dsimp only [runA]
  obtain ⟨rv, tv, gq, gt, hr, ht, rfl, hx⟩ := hz
  intro w hw
  have T0 := TG.refl hw
  have HT := Lib.hid T0
  clear hw T0
  have HT := Lib.hid (HT.out.sum (H' := [workB kb L.fb pv rv tv k, gq, gt, gF, []]) (fun n ha h0 h1 h2 => by simp only [SU, ha, h0, h1, h2] <;> omega))
  have HX := Lib.hid hx
  have HR := Lib.hid hr
  have HTK := Lib.hid ht
  clear hx hr ht
  have k0 := HT.out.cell 0 0 rfl 0
  simp only [workC, List.getElem?_toArray, List.getElem?_cons_zero, List.getElem?_cons_succ] at k0
  go_enter Tryz.func200, Tryz.ntmps200
  go_wp2_with fail
  refine (ReadsG.use (coreSlab_r HX.out) (HT.out) [3] rfl rfl).mono ?_
  rintro e w1 ⟨rfl, mq, rfl⟩
  have HT := Lib.hid (HT.out.drewN mq)
  generalize World.drewN _ _ = wq at HT ⊢
  go_wp2_with fail
  refine (DoesG.use (coreDrop HX.out HC.out.1 HC.out.2) (HT.out) [3] rfl rfl).mono ?_
  rintro e w1 ⟨gs, ⟨rfl, g2, hx2, rfl⟩, Ta⟩
  simp only [PU] at Ta
  have HX := Lib.hid hx2
  clear hx2 k0
  have HT := Lib.hid Ta
  clear Ta
  go_wp2
  exact bodyPost_end (results_none rfl _ _ _) rfl ⟨_, ⟨_, _, rfl, ⟨_, _, gq, gt, HR.out, HTK.out, rfl, HX.out⟩, rfl⟩, (HT.out.pick [0, 1, 2, 3] rfl).sum (fun n ha h0 h1 h2 => by simp only [SU, ha, h0, h1, h2] <;> omega)⟩
set_option maxRecDepth 100000 in
theorem aAgain (hz : rep2 L kb pv k x gK gF) (hp : preAC .again1 (k, x)) (bk : Nat) : DoesG Tryz.prog 233 #[ptr' bk] [[cl bk 33 #[ptr' kb]], gK, gF] (AR L kb pv (runA .again1 (k, x))) := by
  obtain ⟨hok, hwk, hpr⟩ := hp
  simp only at hok hwk hpr
  obtain ⟨⟨i, t⟩, htke⟩ := Option.isSome_iff_exists.1 hpr
  obtain ⟨htb, hi⟩ := hwk.tk i t htke
  obtain ⟨s, hs⟩ : ∃ s, x.shs[i]? = some s := ⟨_, List.getElem?_eq_getElem hi⟩
  have hrb := hok.ring s (List.mem_of_getElem? hs)
  have hE : runA .again1 (k, x) = ({ k with tk := some (i, (fillT s.ring t { TaskS.zero with slot := -1 }).2.1) }, { x with shs := x.shs.set i { s with ring := (fillT s.ring t { TaskS.zero with slot := -1 }).1 } }) := by
    show fillC _ _ = _
    unfold fillC
    simp only [htke, hs]
  rw [hE]
  unfold AR
  dsimp only
  obtain ⟨rv, tv, gq, gt, hr, ht, rfl, hx⟩ := hz
  rw [htke] at ht
  obtain ⟨tb, qs, hqs, rfl, rfl⟩ := ht
  have HFI := Lib.hid (coreFill hx hqs hs tb t hrb htb { TaskS.zero with slot := -1 })
  have HTA := Lib.hid (show ({ TaskS.zero with slot := -1 } : TaskS).cells = #[.int .u64 0, .int .i64 (-1), .int .u64 0, .int .u64 0, .int .u64 0] from rfl)
  rw [HTA.out] at HFI
  generalize fillT s.ring t { TaskS.zero with slot := -1 } = rt at *
  intro w hw
  have T0 := TG.refl hw
  have HT := Lib.hid T0
  clear hw T0
  have HT := Lib.hid (HT.out.sum (H' := [workB kb L.fb pv rv (ptr' tb) k, gq, tickG tb qs.rb t, gF, [cl bk 33 #[ptr' kb]]]) (fun n ha h0 h1 h2 => by simp only [SU, ha, h0, h1, h2] <;> omega))
  have HX := Lib.hid hx
  have HR := Lib.hid hr
  have HQS := Lib.hid hqs
  clear hx hr hqs hs hrb htb hE hok hwk hpr htke hi
  have k14 := HT.out.cell 0 0 rfl 14
  simp only [workC, List.getElem?_toArray, List.getElem?_cons_zero, List.getElem?_cons_succ] at k14
  have b0 := HT.out.cell 4 0 rfl 0
  simp only [List.getElem?_nil, List.getElem?_toArray, List.getElem?_cons_zero, List.getElem?_cons_succ] at b0
  go_enter Tryz.func233, Tryz.ntmps233
  go_wp2_with fail
  refine (DoesG.use (HFI.out) (HT.out) [2, 3] rfl rfl).mono ?_
  rintro e w1 ⟨gs, ⟨rfl, g1, hx1, rfl⟩, Ta⟩
  simp only [PU] at Ta
  have HX := Lib.hid hx1
  clear hx1 k14 b0
  have HT := Lib.hid Ta
  clear Ta
  go_wp2
  exact bodyPost_end (results_none rfl _ _ _) rfl ⟨_, ⟨_, _, rfl, ⟨_, _, gq, tickG tb qs.rb rt.2.1, HR.out, ⟨tb, qs, HQS.out, rfl, rfl⟩, rfl, HX.out⟩, rfl⟩, ((HT.out.pick [0, 1, 2, 3] rfl).eq (H' := [workB kb L.fb pv rv (ptr' tb) { k with tk := some (i, rt.2.1) }, gq, tickG tb qs.rb rt.2.1, g1]) rfl).sum (fun n ha h0 h1 h2 => by simp only [SU, ha, h0, h1, h2] <;> omega)⟩
end
end Go.Proofs.YtblhfbcodbjgcaaGreat

namespace Go.Proofs.YtblhfbcodbjgcaaGreat
set_option linter.unusedVariables false
set_option linter.unusedSimpArgs false
open Go.RowKit Go.Shelf
section
variable {L : Lay} {x : CoreS} {g gK gF : List Blk} {kb : Nat} {pv : Value} {k : WorkS}
theorem sEnds_M (hz : rep2 L kb pv k x gK gF) : DoesG Tryz.prog 134 #[ptr' kb] [gK, gF] (MRz L kb pv (.row1 .ends1, (k, x))) := by
  intro w hw
  refine (DoesG.use (sEnds L kb pv) (TG.refl hw) [] rfl rfl).mono ?_
  rintro e w' ⟨gs, ⟨m, d, g', he, hs, rfl⟩, T⟩
  exact ⟨_, ⟨m, d, g', gK, gF, he, hs, hz, rfl⟩, T.pick [2, 0, 1] rfl⟩
theorem sLeaves_M (hz : rep2 L kb pv k x gK gF) : DoesG Tryz.prog 168 #[ptr' kb] [gK, gF] (MRz L kb pv (leavesC, (k, x))) := by
  intro w hw
  refine (DoesG.use (sLeaves L kb pv) (TG.refl hw) [] rfl rfl).mono ?_
  rintro e w' ⟨gs, ⟨m, d, g', he, hs, rfl⟩, T⟩
  exact ⟨_, ⟨m, d, g', gK, gF, he, hs, hz, rfl⟩, T.pick [2, 0, 1] rfl⟩
theorem mFn {fn : FuncId} {R : Ending → GH → Prop} (eg : ∀ args w, (callFunc fn args).run Tryz.prog w = .ok (.enter fn args) w) (h : DoesG Tryz.prog fn #[ptr' kb] [gK, gF] R) : FnG Tryz.prog (.func (.func fn) #[ptr' kb] #[]) [[], gK, gF] R :=
  ⟨fn, #[ptr' kb], #[], rfl, eg, DoesG.pre (by simpa using h) (by simp)⟩
theorem aFn {fn : FuncId} {bk : Nat} {gb : List Blk} {R : Ending → GH → Prop} (eg : ∀ args w, (callFunc fn args).run Tryz.prog w = .ok (.enter fn args) w) (h : DoesG Tryz.prog fn #[ptr' bk] [gb, gK, gF] R) : FnG Tryz.prog (.func (.func fn) #[] #[ptr' bk]) [gb, gK, gF] R :=
  ⟨fn, #[], #[ptr' bk], rfl, eg, by simpa using h⟩
theorem cliC_ok (L : Lay) (kb : Nat) (pv : Value) : (cliC L kb pv).Ok where
  v := cliC_vals L kb pv
  y h := h.elim
  m {f v g gK gF z} hv hz hp := by
    obtain ⟨k, x⟩ := z
    obtain ⟨rfl, rfl⟩ := hv
    cases f with
    | right => exact mFn (enters_of Tryz.func86 (by kernel_rfl) rfl) (mRight hz hp)
    | enter => exact mFn (enters_of Tryz.func87 (by kernel_rfl) rfl) (mEnter hz hp)
    | gate => exact mFn (enters_of Tryz.func88 (by kernel_rfl) rfl) (mGate hz hp)
    | asks => exact mFn (enters_of Tryz.func140 (by kernel_rfl) rfl) (mAsks hz hp)
    | queues => exact mFn (enters_of Tryz.func173 (by kernel_rfl) rfl) (mQueues hz hp)
    | submits => exact mFn (enters_of Tryz.func202 (by kernel_rfl) rfl) (mSubmits hz hp)
    | fills => exact mFn (enters_of Tryz.func210 (by kernel_rfl) rfl) (mFills hz hp)
    | looks => exact mFn (enters_of Tryz.func141 (by kernel_rfl) rfl) (mLooks hz hp)
    | again => exact mFn (enters_of Tryz.func201 (by kernel_rfl) rfl) (mAgain hz hp)
    | tries => exact mFn (enters_of Tryz.func175 (by kernel_rfl) rfl) (mTries hz hp)
    | ends => exact mFn (enters_of Tryz.func134 (by kernel_rfl) rfl) (sEnds_M hz)
    | leaves => exact mFn (enters_of Tryz.func168 (by kernel_rfl) rfl) (sLeaves_M hz)
  a {f v g gK gF z} hv hz hp := by
    obtain ⟨k, x⟩ := z
    cases f with
    | ends1 => obtain ⟨bk, rfl, rfl⟩ := hv; exact aFn (enters_of Tryz.func165 (by kernel_rfl) rfl) (aEnds hz hp bk)
    | leaves1 => obtain ⟨bk, rfl, rfl⟩ := hv; exact aFn (enters_of Tryz.func192 (by kernel_rfl) rfl) (aLeaves hz hp bk)
    | undo => obtain ⟨rfl, rfl⟩ := hv; exact mFn (enters_of Tryz.func199 (by kernel_rfl) rfl) (aUndo hz hp)
    | drop => obtain ⟨rfl, rfl⟩ := hv; exact mFn (enters_of Tryz.func200 (by kernel_rfl) rfl) (aDrop hz hp)
    | tries1 => obtain ⟨bk, rfl, rfl⟩ := hv; exact aFn (enters_of Tryz.func211 (by kernel_rfl) rfl) (aTries hz hp bk)
    | again1 => obtain ⟨bk, rfl, rfl⟩ := hv; exact aFn (enters_of Tryz.func233 (by kernel_rfl) rfl) (aAgain hz hp bk)
end
end Go.Proofs.YtblhfbcodbjgcaaGreat

namespace Go.Proofs.YtblhfbcodbjgcaaGreat
set_option linter.unusedVariables false
set_option linter.unusedSimpArgs false
open Go.RowKit Go.Shelf
def isWk (L : Lay) (kb : Nat) (pv : Value) (k : WorkS) (gK : List Blk) : Prop :=
  ∃ rv tv gq gt, optR L.p.sb k.rq rv gq ∧ optT L k.tk tv gt ∧ gK = workB kb L.fb pv rv tv k ++ (gq ++ gt)
theorem rep2_iff {L : Lay} {kb : Nat} {pv : Value} {k : WorkS} {x : CoreS} {gK gF : List Blk} : rep2 L kb pv k x gK gF ↔ isWk L kb pv k gK ∧ isCore L x gF :=
  ⟨fun ⟨rv, tv, gq, gt, a, b, c, d⟩ => ⟨⟨rv, tv, gq, gt, a, b, c⟩, d⟩, fun ⟨⟨rv, tv, gq, gt, a, b, c⟩, d⟩ => ⟨rv, tv, gq, gt, a, b, c, d⟩⟩
def isCall (L : Lay) (kb : Nat) (s : SC) (n : Int) (k : WorkS) (g : List Blk) : Prop :=
  ∃ pb m d gst gK, (cliC L kb (ptr' pb)).SV s m d gst ∧ isWk L kb (ptr' pb) k gK ∧ g = Cli.progB pb m d n ++ (gst ++ gK)
theorem preYC : ∀ (s : SC) (z : ZC), St.preY (fun (_ : Empty) (_ : ZC) => True) s z
  | .nil, _ => trivial
  | .at none _, _ => trivial
  | .at (some y) _, _ => y.elim
  | .row1 _, _ => trivial
  | .row2 _ _, _ => trivial
  | .thn s _, z => preYC s z
theorem SVC_may {L : Lay} {kb : Nat} {pv : Value} : ∀ {s : SC} {m d : Value} {g : List Blk}, (cliC L kb pv).SV s m d g → m = .nilFunc
  | .nil, _, _, _, h => h.1
  | .at none _, _, _, _, h => h.1
  | .at (some y) _, _, _, _, _ => y.elim
  | .row1 _, _, _, _, h => h.1
  | .row2 _ _, _, _, _, h => h.1
  | .thn s _, _, _, _, h => by obtain ⟨bs, br, ds, vm, gs, gm, _, _, hv, _⟩ := h; exact SVC_may hv
def preC (s : SC) (z : ZC) : Prop := St.pre runC runA preMC preAC s z
def stepC (s : SC) (z : ZC) : SC × ZC := St.run runC runA s z
structure CallC where
  kind : Int
  id : Int
  dl : Int
  per : Int
def CallC.cells (c : CallC) : Array Value := #[.int .i64 c.kind, .int .u64 c.id, .int .u64 c.dl, .int .u64 c.per]
def newW (th no : Int) (c : CallC) : WorkS := ⟨th, no, c.kind, c.id, c.dl, c.per, 0, false, 0, 0, c.id, 0, 0, 0, none, none⟩
def firstC (kind : Int) : SC := if kind = 1 ∨ kind = 2 then .at none .right else if kind = 3 then .at none .enter else .at none .gate
def ansC (err : Int) (ok : Bool) (id gen : Int) : Array Value := #[.int .i64 err, .bool ok, .int .u64 id, .int .u64 gen, .slice none 0 0]
section
variable {L : Lay} {x : CoreS} {g gF : List Blk} {kb : Nat} {s : SC} {n : Int} {k : WorkS}
set_option maxRecDepth 100000 in
theorem callStep (hc : isCall L kb s n k g) (hx : isCore L x gF) (hp : preC s (k, x)) (hn : s.isNil = false) (hb : 0 ≤ n ∧ n ≤ 1000000000) :
    DoesG Tryz.prog 19 #[ptr' kb] [g, gF] fun e gs => ∃ g' gF', e = .returned (.bool true) ∧ isCall L kb (stepC s (k, x)).1 (n + 1) (stepC s (k, x)).2.1 g' ∧ isCore L (stepC s (k, x)).2.2 gF' ∧ gs = [g', gF'] := by
  obtain ⟨pb, m, d, gst, gK, hs, ⟨rv, tv, gq, gt, hr, ht, rfl⟩, rfl⟩ := hc
  have hm0 := SVC_may hs
  subst hm0
  have hok := cliC_ok L kb (ptr' pb)
  have hm := Cli.may_nil (x := ((k, x) : ZC)) hok hn hs
  have hd := Cli.prog_step (n := n) hok hs (x := ((k, x) : ZC)) (gK := workB kb L.fb (ptr' pb) rv tv k ++ (gq ++ gt)) (gF := gF) ⟨rv, tv, gq, gt, hr, ht, rfl, hx⟩ (preYC s _) hp pb hb hm
  intro w hw
  have T0 := TG.refl hw
  have HT := Lib.hid T0
  clear hw T0
  have T1 := HT.out.sum (H' := [workB kb L.fb (ptr' pb) rv tv k, Cli.progB pb .nilFunc d n, gst, gq, gt, gF]) (fun n ha h0 h1 h2 => by simp only [SU, ha, h0, h1, h2] <;> omega)
  have k12 := T1.cell 0 0 rfl 12
  simp only [workC, List.getElem?_toArray, List.getElem?_cons_zero, List.getElem?_cons_succ] at k12
  have HD := Lib.hid hd
  have HT := Lib.hid (HT.out.sum (H' := [Cli.progB pb .nilFunc d n, gst, workB kb L.fb (ptr' pb) rv tv k ++ (gq ++ gt), gF]) (fun n ha h0 h1 h2 => by simp only [SU, ha, h0, h1, h2] <;> omega))
  clear hs hr ht hx hp hn hb hok hm hd T1
  go_enter Tryz.func19, Tryz.ntmps19
  go_wp2_with fail
  refine (DoesG.use (HD.out) (HT.out) [0, 1, 2, 3] rfl rfl).mono ?_
  rintro e w1 ⟨gs, ⟨m', d', gst', gK', gF', rfl, hs', hx', rfl⟩, Ta⟩
  simp only [PU] at Ta
  have HS := Lib.hid hs'
  have HX := Lib.hid (rep2_iff.1 hx')
  clear hs' hx' k12
  have HT := Lib.hid Ta
  clear Ta
  go_wp2
  go_ret
  exact ⟨_, ⟨_, gF', rfl, ⟨pb, m', d', gst', gK', HS.out, HX.out.1, rfl⟩, HX.out.2, rfl⟩, HT.out.sum (fun n ha h0 h1 h2 => by simp only [SU, ha, h0, h1, h2] <;> omega)⟩
set_option maxRecDepth 100000 in
theorem callStep_nil (hc : isCall L kb .nil n k g) (hx : isCore L x gF) :
    DoesG Tryz.prog 19 #[ptr' kb] [g, gF] fun e gs => e = .returned (.bool false) ∧ ∃ g' gF', isCall L kb .nil n k g' ∧ isCore L x gF' ∧ gs = [g', gF'] := by
  obtain ⟨pb, m, d, gst, gK, hs, ⟨rv, tv, gq, gt, hr, ht, rfl⟩, rfl⟩ := hc
  have hok := cliC_ok L kb (ptr' pb)
  have hd := Cli.prog_step_no (n := n) hok hs (x := ((k, x) : ZC)) (gK := workB kb L.fb (ptr' pb) rv tv k ++ (gq ++ gt)) (gF := gF) ⟨rv, tv, gq, gt, hr, ht, rfl, hx⟩ (preYC .nil _) pb rfl
  intro w hw
  have T0 := TG.refl hw
  have HT := Lib.hid T0
  clear hw T0
  have T1 := HT.out.sum (H' := [workB kb L.fb (ptr' pb) rv tv k, Cli.progB pb m d n, gst, gq, gt, gF]) (fun n ha h0 h1 h2 => by simp only [SU, ha, h0, h1, h2] <;> omega)
  have k12 := T1.cell 0 0 rfl 12
  simp only [workC, List.getElem?_toArray, List.getElem?_cons_zero, List.getElem?_cons_succ] at k12
  have HD := Lib.hid hd
  have HS := Lib.hid hs
  have HT := Lib.hid (HT.out.sum (H' := [Cli.progB pb m d n, gst, workB kb L.fb (ptr' pb) rv tv k ++ (gq ++ gt), gF]) (fun n ha h0 h1 h2 => by simp only [SU, ha, h0, h1, h2] <;> omega))
  clear hs hr ht hx hok hd T1
  go_enter Tryz.func19, Tryz.ntmps19
  go_wp2_with fail
  refine (DoesG.use (HD.out) (HT.out) [0, 1, 2, 3] rfl rfl).mono ?_
  rintro e w1 ⟨gs, ⟨gK', gF', rfl, hx', rfl⟩, Ta⟩
  simp only [PU] at Ta
  have HX := Lib.hid (rep2_iff.1 hx')
  clear hx' k12
  have HT := Lib.hid Ta
  clear Ta
  go_wp2
  go_ret
  exact ⟨_, ⟨rfl, _, gF', ⟨pb, m, d, gst, gK', HS.out, HX.out.1, rfl⟩, HX.out.2, rfl⟩, HT.out.sum (fun n ha h0 h1 h2 => by simp only [SU, ha, h0, h1, h2] <;> omega)⟩
set_option maxRecDepth 100000 in
theorem callDone (hc : isCall L kb s n k g) : ReadsG Tryz.prog 94 #[ptr' kb] [g] (.bool s.isNil) := by
  obtain ⟨pb, m, d, gst, gK, hs, ⟨rv, tv, gq, gt, hr, ht, rfl⟩, rfl⟩ := hc
  have hd := Cli.prog_done (cliC_ok L kb (ptr' pb)) hs pb n
  intro w hw
  have T0 := TG.refl hw
  have HT := Lib.hid T0
  clear hw T0
  have T1 := HT.out.sum (H' := [workB kb L.fb (ptr' pb) rv tv k, Cli.progB pb m d n, gst, gq, gt]) (fun n ha h0 h1 h2 => by simp only [SU, ha, h0, h1, h2] <;> omega)
  have k12 := T1.cell 0 0 rfl 12
  simp only [workC, List.getElem?_toArray, List.getElem?_cons_zero, List.getElem?_cons_succ] at k12
  have HD := Lib.hid hd
  have HT := Lib.hid T1
  clear hs hr ht hd T1
  go_enter Tryz.func94, Tryz.ntmps94
  go_wp2_with fail
  refine (ReadsG.use (HD.out) (HT.out) [1] rfl rfl).mono ?_
  rintro e w1 ⟨rfl, mq, rfl⟩
  go_wp2
  go_ret
  exact ⟨rfl, _, rfl⟩
set_option maxRecDepth 100000 in
theorem callAnswer (hc : isCall L kb s n k g) (hn : s.isNil = true) : DoesG Tryz.prog 24 #[ptr' kb] [g] fun e gs =>
    e = .returned (.tuple #[.agg (ansC k.err k.ok k.aid k.agen), .int .i64 0]) ∧ gs = [g] := by
  have hd := callDone hc
  rw [hn] at hd
  obtain ⟨pb, m, d, gst, gK, hs, ⟨rv, tv, gq, gt, hr, ht, rfl⟩, rfl⟩ := hc
  intro w hw
  have T0 := TG.refl hw
  have HT := Lib.hid T0
  clear hw T0
  have HT := Lib.hid (HT.out.sum (H' := [Cli.progB pb m d n ++ (gst ++ (workB kb L.fb (ptr' pb) rv tv k ++ (gq ++ gt)))]) (fun n ha h0 h1 h2 => by simp only [SU, ha, h0, h1, h2] <;> omega))
  have HD := Lib.hid hd
  have lt := (HT.out.sum (H' := [workB kb L.fb (ptr' pb) rv tv k, Cli.progB pb m d n, gst, gq, gt]) (fun n ha h0 h1 h2 => by simp only [SU, ha, h0, h1, h2] <;> omega)).lt 0 0 rfl
  have HT := Lib.hid (HT.out.alloc (k := w.heap.size) rfl 51 #[.int .i64 0, .bool false, .int .u64 0, .int .u64 0, .slice none 0 0])
  simp only [] at lt
  clear hs hr ht hd hn
  go_enter Tryz.func24, Tryz.ntmps24
  go_wp2_with fail
  refine (ReadsG.use (HD.out) (HT.out) [0] rfl rfl).mono ?_
  rintro e w1 ⟨rfl, mq, rfl⟩
  have HT := Lib.hid (HT.out.drewN mq)
  have HT := Lib.hid (HT.out.sum (H' := [workB kb L.fb (ptr' pb) rv tv k, Cli.progB pb m d n, gst, gq, gt, [cl w.heap.size 51 #[.int .i64 0, .bool false, .int .u64 0, .int .u64 0, .slice none 0 0]]]) (fun n ha h0 h1 h2 => by simp only [SU, ha, h0, h1, h2] <;> omega))
  generalize World.drewN _ _ = wq at HT ⊢
  have k7 := HT.out.cell 0 0 rfl 7
  have k8 := HT.out.cell 0 0 rfl 8
  have k9 := HT.out.cell 0 0 rfl 9
  have k10 := HT.out.cell 0 0 rfl 10
  have k11 := HT.out.cell 0 0 rfl 11
  simp only [workC, List.getElem?_toArray, List.getElem?_cons_zero, List.getElem?_cons_succ] at k7 k8 k9 k10 k11
  have e0 := HT.out.cell 5 0 rfl 0
  have fe0 := HT.out.free 5 0 rfl 0
  have e1 := HT.out.cell 5 0 rfl 1
  have fe1 := HT.out.free 5 0 rfl 1
  have e2 := HT.out.cell 5 0 rfl 2
  have fe2 := HT.out.free 5 0 rfl 2
  have e3 := HT.out.cell 5 0 rfl 3
  have fe3 := HT.out.free 5 0 rfl 3
  have e4 := HT.out.cell 5 0 rfl 4
  have fe4 := HT.out.free 5 0 rfl 4
  simp only [List.getElem?_nil, List.getElem?_toArray, List.getElem?_cons_zero, List.getElem?_cons_succ] at e0 e1 e2 e3 e4
  go_wp2
  exact bodyPost_ret (v := .tuple #[.agg (ansC k.err k.ok k.aid k.agen), .int .i64 0]) (by simp [results, Tryz.results24, go_sem, e0, e1, e2, e3, e4, ansC]) rfl ⟨_, ⟨rfl, rfl⟩, (((((((HT.out.set 5 0 rfl 0 _).set 5 0 rfl 1 _).set 5 0 rfl 2 _).set 5 0 rfl 3 _).set 5 0 rfl 4 _).pick [0, 1, 2, 3, 4] rfl).sum (fun n ha h0 h1 h2 => by simp only [SU, ha, h0, h1, h2] <;> omega))⟩
end
end Go.Proofs.YtblhfbcodbjgcaaGreat

namespace Go.Proofs.YtblhfbcodbjgcaaGreat
set_option linter.unusedVariables false
set_option linter.unusedSimpArgs false
open Go.RowKit Go.Shelf
structure RingN (N : Int) (r : RingS) : Prop where
  n0 : 1 ≤ r.slots.length
  n1 : r.slots.length ≤ 64
  t0 : 0 ≤ r.tail
  t1 : r.tail ≤ N
  h0 : 0 ≤ r.head
  h1 : r.head ≤ N
structure TickN (N : Int) (t : TickS) : Prop where
  p0 : 0 ≤ t.pos
  p1 : t.pos ≤ N
  nx : t.next = 0 ∨ t.next = 1 ∨ t.next = 2
  st : t.status = 0 ∨ t.status = 1 ∨ t.status = 2
structure CoreN (N : Nat) (x : CoreS) : Prop where
  slab : SlabOk x.slab
  i0 : 0 ≤ x.f.inside
  i1 : x.f.inside ≤ N
  tr : x.tr.length ≤ N
  sh : 1 ≤ x.shs.length
  ring : ∀ s ∈ x.shs, RingN N s.ring
structure WorkN (N : Nat) (k : WorkS) (x : CoreS) : Prop where
  c0 : 0 ≤ k.cdl ∧ k.cdl < 18446744073709551616
  c1 : 0 ≤ k.cper ∧ k.cper < 18446744073709551616
  id : 0 ≤ k.id ∧ k.id < 18446744073709551616
  slot : 0 ≤ k.slot
  saw : 0 ≤ k.saw ∧ k.saw < 18446744073709551616 ∧ okW k.saw = true
  rq : ∀ q, k.rq = some q → ReqOk x.slab.recs.length q
  tk : ∀ i t, k.tk = some (i, t) → TickN N t ∧ i < x.shs.length
def FitC : SC → WorkS → Prop
  | .nil, _ => True
  | .at none .right, _ => True
  | .at none .enter, _ => True
  | .at none .gate, _ => True
  | .at none .looks, _ => True
  | .at none .asks, k => k.rq.isSome = true ∧ ∀ q, k.rq = some q → q.st = 0
  | .at none .queues, k => k.tk.isSome = true
  | .at none .submits, k => k.tk.isSome = true
  | .at none .fills, k => k.tk.isSome = true
  | .at none .again, k => k.tk.isSome = true
  | .at none .tries, k => k.kind = 3 → k.tk.isSome = true
  | .row1 .ends1, _ => True
  | .thn (.row1 .leaves1) .ends, _ => True
  | .thn (.row2 .undo .drop) .leaves, _ => True
  | .thn (.row1 .drop) .leaves, _ => True
  | .thn (.row1 .again1) .leaves, k => k.tk.isSome = true
  | .thn (.row2 .tries1 .drop) .ends, _ => True
  | .thn (.row1 .drop) .ends, _ => True
  | _, _ => False
theorem RingN.mono {N M : Int} {r : RingS} (h : RingN N r) (hm : N ≤ M) : RingN M r := ⟨h.n0, h.n1, h.t0, by have := h.t1; omega, h.h0, by have := h.h1; omega⟩
theorem RingN.b {N : Int} {r : RingS} (h : RingN N r) (hm : N ≤ 1000000) : RingB r := ⟨h.n0, h.n1, h.t0, by have := h.t1; omega, h.h0, by have := h.h1; omega⟩
theorem TickN.mono {N M : Int} {t : TickS} (h : TickN N t) (hm : N ≤ M) : TickN M t := ⟨h.p0, by have := h.p1; omega, h.nx, h.st⟩
theorem TickN.b {N : Int} {t : TickS} (h : TickN N t) (hm : N ≤ 1000000) : TickB t := ⟨h.p0, by have := h.p1; omega, h.nx, h.st⟩
theorem CoreN.ok {N : Nat} {x : CoreS} (h : CoreN N x) (hN : N ≤ 1000000) : CoreOk x :=
  ⟨h.slab, h.i0, by have := h.i1; omega, by have := h.tr; omega, h.sh, fun s hs => (h.ring s hs).b (by omega)⟩
theorem CoreN.mono {N M : Nat} {x : CoreS} (h : CoreN N x) (hm : N ≤ M) : CoreN M x :=
  ⟨h.slab, h.i0, by have := h.i1; omega, by have := h.tr; omega, h.sh, fun s hs => (h.ring s hs).mono (by omega)⟩
theorem CoreN.rings {N M : Nat} {x : CoreS} (h : CoreN N x) (hm : N ≤ M) : ∀ s ∈ x.shs, RingN M s.ring := fun s hs => (h.ring s hs).mono (by omega)
theorem WorkN.ok {N : Nat} {k : WorkS} {x : CoreS} (h : WorkN N k x) (hN : N ≤ 1000000) : WorkOk k x :=
  ⟨h.c0, h.c1, h.id, h.slot, h.saw, h.rq, fun i t ht => ⟨(h.tk i t ht).1.b (by omega), (h.tk i t ht).2⟩⟩
theorem WorkN.mono {N M : Nat} {k : WorkS} {x : CoreS} (h : WorkN N k x) (hm : N ≤ M) : WorkN M k x :=
  ⟨h.c0, h.c1, h.id, h.slot, h.saw, h.rq, fun i t ht => ⟨(h.tk i t ht).1.mono (by omega), (h.tk i t ht).2⟩⟩
theorem WorkN.core {N : Nat} {k : WorkS} {x x' : CoreS} (h : WorkN N k x) (h1 : x'.slab.recs.length = x.slab.recs.length) (h2 : x'.shs.length = x.shs.length) : WorkN N k x' :=
  ⟨h.c0, h.c1, h.id, h.slot, h.saw, fun q hq => by rw [h1]; exact h.rq q hq, fun i t ht => ⟨(h.tk i t ht).1, by rw [h2]; exact (h.tk i t ht).2⟩⟩
theorem stepT_n {N : Int} {r : RingS} {t : TickS} (hr : RingN N r) (ht : TickN N t) : TickN N (stepT r t).2 ∧ RingN (N + 1) (stepT r t).1 := by
  have h1 := hr.t0; have h2 := hr.t1
  have ho : RingN (N + 1) r := hr.mono (by omega)
  unfold stepT lookT weighT takeT
  split
  · exact ⟨ht, ho⟩
  · split
    · exact ⟨⟨h1, h2, .inr (.inl rfl), ht.st⟩, ho⟩
    · split
      · split
        · exact ⟨⟨ht.p0, ht.p1, .inl rfl, ht.st⟩, ho⟩
        · split
          · exact ⟨⟨ht.p0, ht.p1, ht.nx, .inr (.inl rfl)⟩, ho⟩
          · exact ⟨⟨ht.p0, ht.p1, .inr (.inr rfl), ht.st⟩, ho⟩
      · split
        · exact ⟨⟨ht.p0, ht.p1, .inl rfl, .inr (.inr rfl)⟩, ⟨hr.n0, hr.n1, by have := ht.p0; simp only; omega, by have := ht.p1; simp only; omega, hr.h0, by have := hr.h1; simp only; omega⟩⟩
        · exact ⟨⟨ht.p0, ht.p1, .inl rfl, ht.st⟩, ho⟩
theorem fillT_n {N : Int} {r : RingS} {t : TickS} (v : TaskS) (hr : RingN N r) (ht : TickN N t) : TickN N (fillT r t v).2.1 ∧ RingN N (fillT r t v).1 := by
  unfold fillT
  split
  · exact ⟨⟨ht.p0, ht.p1, ht.nx, ht.st⟩, ⟨by simp only [List.length_set]; exact hr.n0, by simp only [List.length_set]; exact hr.n1, hr.t0, hr.t1, hr.h0, hr.h1⟩⟩
  · exact ⟨ht, hr⟩
theorem ring_set {N : Int} {l : List ShardS} {i : Nat} {s : ShardS} (h : ∀ s ∈ l, RingN N s.ring) (hs : RingN N s.ring) : ∀ a ∈ l.set i s, RingN N a.ring := by
  intro a ha
  rcases List.mem_or_eq_of_mem_set ha with h1 | h1
  · exact h a h1
  · exact h1 ▸ hs
section
variable {N : Nat} {k : WorkS} {x : CoreS}
theorem core_note (h : CoreN N x) (E : EvS) : CoreN (N + 1) (noteC k E x) :=
  ⟨h.slab, h.i0, by have := h.i1; show x.f.inside ≤ _; omega, by have := h.tr; show (x.tr ++ [_]).length ≤ _; rw [List.length_append]; simp; omega, h.sh, h.rings (by omega)⟩
theorem core_slab (h : CoreN N x) {s : SlabS} (hs : SlabOk s) : CoreN N { x with slab := s } := ⟨hs, h.i0, h.i1, h.tr, h.sh, h.ring⟩
theorem refuse_n (hc : CoreN N x) (hk : WorkN N k x) (e : Int) : CoreN (N + 1) (refuseC e (k, x)).2 ∧ WorkN (N + 1) (refuseC e (k, x)).1 (refuseC e (k, x)).2 :=
  ⟨core_note hc _, ((⟨hk.c0, hk.c1, hk.id, hk.slot, hk.saw, hk.rq, hk.tk⟩ : WorkN N (refuseW e k) x).mono (M := N + 1) (by omega)).core rfl rfl⟩
theorem event_n (hc : CoreN N x) (hk : WorkN N k x) (ev : Int) : CoreN N (eventC ev (k, x)).2 ∧ WorkN N (eventC ev (k, x)).1 (eventC ev (k, x)).2 := by
  obtain ⟨h1, h2⟩ := try_ok hc.slab k.slot (x.slab.word k.slot) ev
  exact ⟨core_slab hc h1, (⟨hk.c0, hk.c1, hk.id, hk.slot, hk.saw, hk.rq, hk.tk⟩ : WorkN N (eventW ev k x.slab) x).core h2 rfl⟩
theorem fill_n (hc : CoreN N x) (hk : WorkN N k x) (v : TaskS) : CoreN N (fillC v (k, x)).2 ∧ WorkN N (fillC v (k, x)).1 (fillC v (k, x)).2 := by
  unfold fillC
  simp only
  split
  · exact ⟨hc, hk⟩
  · rename_i i t ht
    split
    · exact ⟨hc, hk⟩
    · rename_i s hs
      obtain ⟨htn, hi⟩ := hk.tk i t ht
      have hrn := hc.ring s (List.mem_of_getElem? hs)
      obtain ⟨a, b⟩ := fillT_n v hrn htn
      refine ⟨⟨hc.slab, hc.i0, hc.i1, hc.tr, by simpa using hc.sh, ring_set hc.ring b⟩, ⟨hk.c0, hk.c1, hk.id, hk.slot, hk.saw, hk.rq, fun i' t' h' => ?_⟩⟩
      cases h'
      exact ⟨a, by simpa using hi⟩
theorem act_n (hc : CoreN N x) (hk : WorkN N k x) (a : AC) : CoreN (N + 1) (runA a (k, x)).2 ∧ WorkN (N + 1) (runA a (k, x)).1 (runA a (k, x)).2 := by
  cases a with
  | ends1 => exact ⟨core_note hc _, (hk.mono (M := N + 1) (by omega)).core rfl rfl⟩
  | leaves1 =>
    have h1 : 0 ≤ lessN x.f.inside ∧ lessN x.f.inside ≤ N := by have := hc.i0; have := hc.i1; unfold lessN; split <;> omega
    exact ⟨⟨hc.slab, h1.1, by have := h1.2; show lessN x.f.inside ≤ _; omega, by have := hc.tr; show x.tr.length ≤ _; omega, hc.sh, hc.rings (by omega)⟩, (hk.mono (M := N + 1) (by omega)).core rfl rfl⟩
  | undo =>
    obtain ⟨h1, h2⟩ := event_n hc hk 9
    exact refuse_n h1 h2 2
  | drop =>
    obtain ⟨h1, h2⟩ := drop_ok hc.slab
    exact ⟨(core_slab hc h1).mono (M := N + 1) (by omega), (hk.mono (M := N + 1) (by omega)).core h2 rfl⟩
  | tries1 =>
    obtain ⟨h1, h2⟩ := event_n hc hk 10
    exact ⟨h1.mono (M := N + 1) (by omega), h2.mono (M := N + 1) (by omega)⟩
  | again1 =>
    obtain ⟨h1, h2⟩ := fill_n hc hk { TaskS.zero with slot := -1 }
    exact ⟨h1.mono (M := N + 1) (by omega), h2.mono (M := N + 1) (by omega)⟩
structure JC (N : Nat) (s : SC) (z : ZC) : Prop where
  core : CoreN N z.2
  work : WorkN N z.1 z.2
  fit : FitC s z.1
theorem JC.pre {s : SC} {z : ZC} (h : JC N s z) (hN : N < 1000000) : preC s z := by
  obtain ⟨k, x⟩ := z
  obtain ⟨hc, hk, hf⟩ := h
  simp only at hc hk hf
  have ho := hc.ok (by omega)
  have hw := hk.ok (by omega)
  have hact : ∀ a, CoreOk (runA a (k, x)).2 ∧ WorkOk (runA a (k, x)).1 (runA a (k, x)).2 := fun a => ⟨(act_n hc hk a).1.ok (by omega), (act_n hc hk a).2.ok (by omega)⟩
  match s, hf with
  | .nil, _ => trivial
  | .at none .right, _ => exact ⟨ho, hw, trivial⟩
  | .at none .enter, _ => exact ⟨ho, hw, trivial⟩
  | .at none .gate, _ => exact ⟨ho, hw, trivial⟩
  | .at none .looks, _ => exact ⟨ho, hw, trivial⟩
  | .at none .asks, hf => exact ⟨ho, hw, hf⟩
  | .at none .queues, hf => exact ⟨ho, hw, hf⟩
  | .at none .submits, _ => exact ⟨ho, hw, trivial⟩
  | .at none .fills, hf => exact ⟨ho, hw, hf⟩
  | .at none .again, _ => exact ⟨ho, hw, trivial⟩
  | .at none .tries, _ => exact ⟨ho, hw, trivial⟩
  | .row1 .ends1, _ => exact ⟨ho, hw, trivial⟩
  | .thn (.row1 .leaves1) .ends, _ => exact ⟨⟨ho, hw, trivial⟩, fun _ => ⟨(hact .leaves1).1, (hact .leaves1).2, trivial⟩⟩
  | .thn (.row2 .undo .drop) .leaves, _ => exact ⟨⟨ho, hw, trivial⟩, fun h => by cases h⟩
  | .thn (.row1 .drop) .leaves, _ => exact ⟨⟨ho, hw, trivial⟩, fun _ => ⟨(hact .drop).1, (hact .drop).2, trivial⟩⟩
  | .thn (.row1 .again1) .leaves, hf => exact ⟨⟨ho, hw, hf⟩, fun _ => ⟨(hact .again1).1, (hact .again1).2, trivial⟩⟩
  | .thn (.row2 .tries1 .drop) .ends, _ => exact ⟨⟨ho, hw, trivial⟩, fun h => by cases h⟩
  | .thn (.row1 .drop) .ends, _ => exact ⟨⟨ho, hw, trivial⟩, fun _ => ⟨(hact .drop).1, (hact .drop).2, trivial⟩⟩
theorem overC_fit (k k2 : WorkS) : FitC (overC k) k2 := by
  unfold overC leavesC
  split <;> trivial
theorem stepR_st {s : SlabS} {q : Req} (h : q.st = 0) : (stepR s q).2.st = 0 ∨ (stepR s q).2.st = 1 ∨ (stepR s q).2.st = 2 := by
  unfold stepR
  rw [if_neg (by omega)]
  split
  · unfold lookR; split <;> simp [h]
  · split
    · unfold moreR; split <;> simp [h]
    · unfold seekR; simp only; split <;> simp [h]
theorem look_n (hc : CoreN N x) (hk : WorkN N k x) : WorkN N (lookW k x.slab).1 x := by
  have hs : 0 ≤ x.slab.slot k.id := by have := hk.id.1; unfold SlabS.slot; split <;> omega
  have hw := word_bd hc.slab (x.slab.slot k.id)
  unfold lookW
  split
  · exact hk
  · split
    · exact ⟨hk.c0, hk.c1, hk.id, hs, hw, hk.rq, hk.tk⟩
    · exact ⟨hk.c0, hk.c1, hk.id, hs, hw, hk.rq, hk.tk⟩
theorem home_n (hc : CoreN N x) {slot : Int} (h : 0 ≤ slot) : homeC slot x < x.shs.length := by
  have hn := hc.sh
  have a : 0 ≤ slot % (x.shs.length : Int) := Int.emod_nonneg _ (by omega)
  have b : slot % (x.shs.length : Int) < x.shs.length := Int.emod_lt_of_pos _ (by omega)
  unfold homeC; omega
theorem newTick_n : TickN N newTick := ⟨by decide, by show (0 : Int) ≤ N; omega, .inl rfl, .inl rfl⟩
theorem meth_n (hc : CoreN N x) (hk : WorkN N k x) (m : MC) (hf : FitC (.at none m) k) : JC (N + 1) (runC m (k, x)).1 (runC m (k, x)).2 := by
  have hc' := hc.mono (M := N + 1) (by omega)
  have hk' := hk.mono (M := N + 1) (by omega)
  have hre : ∀ e s, FitC s (refuseW e k) → JC (N + 1) s (refuseC e (k, x)) := fun e s hs => ⟨(refuse_n hc hk e).1, (refuse_n hc hk e).2, hs⟩
  cases m with
  | ends => exact hf.elim
  | leaves => exact hf.elim
  | right =>
    show JC (N + 1) (if badC k then _ else _ : SC × ZC).1 (if badC k then _ else _ : SC × ZC).2
    split
    · exact hre 1 _ trivial
    · exact ⟨hc', hk', trivial⟩
  | enter => exact ⟨⟨hc.slab, by have := hc.i0; show 0 ≤ x.f.inside + 1; omega, by have := hc.i1; show x.f.inside + 1 ≤ _; omega, hc'.tr, hc.sh, hc'.ring⟩, hk'.core rfl rfl, trivial⟩
  | gate =>
    show JC (N + 1) (if x.f.closed = true then _ else _ : SC × ZC).1 (if x.f.closed = true then _ else _ : SC × ZC).2
    split
    · exact hre 3 _ (overC_fit _ _)
    · split
      · refine ⟨hc', ⟨hk'.c0, hk'.c1, hk'.id, hk'.slot, hk'.saw, fun q hq => ?_, hk'.tk⟩, rfl, fun q hq => ?_⟩
        · cases hq
          have h1 := hk.c1
          have h2 := hc.slab.n0
          refine ⟨?_, ?_, by simp, by simp; omega, .inl rfl⟩
          · show 0 ≤ k.period; unfold WorkS.period; split <;> omega
          · show k.period < _; unfold WorkS.period; split <;> omega
        · cases hq; rfl
      · exact ⟨hc', hk', trivial⟩
  | asks =>
    obtain ⟨hr, hq0⟩ := hf
    obtain ⟨q, hq⟩ := Option.isSome_iff_exists.1 hr
    have hE : runC .asks (k, x) = asksC (k, x) q := by show (match k.rq with | none => _ | some q => _) = _; rw [hq]
    rw [hE]
    have hst := hq0 q hq
    obtain ⟨h1, h2, h3⟩ := stepR_ok hc.slab (hk.rq q hq)
    have hid := stepR_id hc.slab (hk.rq q hq) hst
    have h4 := stepR_st (s := x.slab) hst
    unfold asksC
    simp only
    generalize stepR x.slab q = r at *
    have cx : CoreN N { x with slab := r.1 } := core_slab hc h1
    have wk : WorkN N { k with rq := some r.2 } { x with slab := r.1 } := ⟨hk.c0, hk.c1, hk.id, hk.slot, hk.saw, fun q' h' => by cases h'; show ReqOk r.1.recs.length r.2; rw [h3]; exact h2, hk.tk⟩
    split
    · exact ⟨(refuse_n cx wk 2).1, (refuse_n cx wk 2).2, trivial⟩
    · split
      · next h5 =>
        obtain ⟨i0, i1⟩ := hid h5
        refine ⟨cx.mono (M := N + 1) (by omega), ⟨wk.c0, wk.c1, ⟨i0, i1⟩, by show 0 ≤ r.2.id % 64; omega, wk.saw, wk.rq, fun i t ht => ?_⟩, rfl⟩
        cases ht
        exact ⟨newTick_n, home_n hc (by omega)⟩
      · next h6 h5 =>
        exact ⟨cx.mono (M := N + 1) (by omega), wk.mono (M := N + 1) (by omega), rfl, fun q' h' => by cases h'; omega⟩
  | queues =>
    obtain ⟨⟨i, t⟩, htk⟩ := Option.isSome_iff_exists.1 hf
    obtain ⟨htn, hi⟩ := hk.tk i t htk
    obtain ⟨s, hs⟩ : ∃ s, x.shs[i]? = some s := ⟨_, List.getElem?_eq_getElem hi⟩
    have hE : runC .queues (k, x) = queuesC (k, x) i t s := by
      show (match k.tk with | none => _ | some (i, t) => _) = _
      rw [htk]
      show (match x.shs[i]? with | none => _ | some s => _) = _
      rw [hs]
    rw [hE]
    obtain ⟨a, b⟩ := stepT_n (hc.ring s (List.mem_of_getElem? hs)) htn
    unfold queuesC
    simp only
    generalize stepT s.ring t = r at *
    have cx : CoreN (N + 1) { x with shs := x.shs.set i { s with ring := r.1 } } := ⟨hc.slab, hc'.i0, hc'.i1, hc'.tr, by simpa using hc.sh, ring_set hc'.ring (by simpa using b)⟩
    have wk : WorkN (N + 1) { k with tk := some (i, r.2) } { x with shs := x.shs.set i { s with ring := r.1 } } := ⟨hk.c0, hk.c1, hk.id, hk.slot, hk.saw, hk.rq, fun i' t' h' => by cases h'; exact ⟨a.mono (by omega), by simpa using hi⟩⟩
    split
    · exact ⟨cx, wk, rfl⟩
    · split
      · refine ⟨⟨cx.slab, cx.i0, cx.i1, ?_, cx.sh, cx.ring⟩, (⟨wk.c0, wk.c1, wk.id, wk.slot, wk.saw, wk.rq, wk.tk⟩ : WorkN (N + 1) (refuseW 2 { k with tk := some (i, r.2) }) { x with shs := x.shs.set i { s with ring := r.1 } }).core rfl rfl, trivial⟩
        have := hc.tr
        show (x.tr ++ [_]).length ≤ _
        rw [List.length_append]; simp; omega
      · split
        · exact ⟨cx, wk, trivial⟩
        · split
          · exact ⟨cx, wk, rfl⟩
          · exact ⟨cx, wk, rfl⟩
  | submits =>
    obtain ⟨h1, h2⟩ := event_n hc hk 2
    exact ⟨core_note h1 _, (h2.mono (M := N + 1) (by omega)).core rfl rfl, hf⟩
  | fills =>
    obtain ⟨h1, h2⟩ := fill_n hc hk (taskC (k, x))
    refine ⟨h1.mono (M := N + 1) (by omega), ?_, trivial⟩
    have h3 := h2.mono (M := N + 1) (by omega)
    exact ⟨h3.c0, h3.c1, h3.id, h3.slot, h3.saw, h3.rq, h3.tk⟩
  | looks =>
    have wk := look_n hc hk
    obtain ⟨e1, e2, e3, e4⟩ := look_keeps k x.slab hk.slot hk.id.1
    show JC (N + 1) (if (lookW k x.slab).2 = 0 then _ else _ : SC × ZC).1 (if (lookW k x.slab).2 = 0 then _ else _ : SC × ZC).2
    split
    · show JC (N + 1) (if k.kind = 3 then _ else _ : SC × ZC).1 (if k.kind = 3 then _ else _ : SC × ZC).2
      split
      · refine ⟨hc', ⟨wk.c0, wk.c1, wk.id, wk.slot, wk.saw, wk.rq, fun i t ht => ?_⟩, rfl⟩
        cases ht
        exact ⟨newTick_n, home_n hc e4⟩
      · next h3 => exact ⟨hc', wk.mono (M := N + 1) (by omega), fun h => absurd (e1.symm.trans h) h3⟩
    · show JC (N + 1) (if (lookW k x.slab).2 = 1 then _ else _ : SC × ZC).1 (if (lookW k x.slab).2 = 1 then _ else _ : SC × ZC).2
      split
      · exact ⟨(refuse_n hc wk 1).1, (refuse_n hc wk 1).2, overC_fit _ _⟩
      · exact ⟨(refuse_n hc wk 0).1, (refuse_n hc wk 0).2, overC_fit _ _⟩
  | again =>
    have wk := look_n hc hk
    obtain ⟨e1, e2, e3, e4⟩ := look_keeps k x.slab hk.slot hk.id.1
    have hf' : (lookW k x.slab).1.tk.isSome = true := by rw [e3]; exact hf
    show JC (N + 1) (if (lookW k x.slab).2 = 0 then _ else _ : SC × ZC).1 (if (lookW k x.slab).2 = 0 then _ else _ : SC × ZC).2
    split
    · exact ⟨hc', wk.mono (M := N + 1) (by omega), fun _ => hf'⟩
    · exact ⟨(refuse_n hc wk 0).1, (refuse_n hc wk 0).2, hf'⟩
  | tries =>
    obtain ⟨h1, h2⟩ := try_ok hc.slab k.slot k.saw k.event
    have cx : CoreN N (tryC (k, x)).1.2 := core_slab hc h1
    have wk : WorkN N (tryC (k, x)).1.1 (tryC (k, x)).1.2 := (⟨hk.c0, hk.c1, hk.id, hk.slot, hk.saw, hk.rq, hk.tk⟩ : WorkN N (tryC (k, x)).1.1 x).core h2 rfl
    have wo : WorkN N (okC (tryC (k, x)).1.1) (tryC (k, x)).1.2 := ⟨wk.c0, wk.c1, wk.id, wk.slot, wk.saw, wk.rq, wk.tk⟩
    show JC (N + 1) (if (tryC (k, x)).2 ≠ 0 then _ else _ : SC × ZC).1 (if (tryC (k, x)).2 ≠ 0 then _ else _ : SC × ZC).2
    split
    · show JC (N + 1) (if k.kind = 3 then _ else _ : SC × ZC).1 (if k.kind = 3 then _ else _ : SC × ZC).2
      split
      · next h3 => exact ⟨cx.mono (M := N + 1) (by omega), wk.mono (M := N + 1) (by omega), hf h3⟩
      · exact ⟨cx.mono (M := N + 1) (by omega), wk.mono (M := N + 1) (by omega), trivial⟩
    · show JC (N + 1) (if k.kind = 3 then _ else _ : SC × ZC).1 (if k.kind = 3 then _ else _ : SC × ZC).2
      split
      · next h3 => exact ⟨core_note cx _, (wo.mono (M := N + 1) (by omega)).core rfl rfl, hf h3⟩
      · show JC (N + 1) (if k.kind = 5 then _ else _ : SC × ZC).1 (if k.kind = 5 then _ else _ : SC × ZC).2
        split
        · exact ⟨core_note cx _, (wo.mono (M := N + 1) (by omega)).core rfl rfl, trivial⟩
        · exact ⟨core_note cx _, (wo.mono (M := N + 1) (by omega)).core rfl rfl, trivial⟩
theorem JC.step {s : SC} {z : ZC} (h : JC N s z) : JC (N + 1) (stepC s z).1 (stepC s z).2 := by
  obtain ⟨k, x⟩ := z
  obtain ⟨hc, hk, hf⟩ := h
  simp only at hc hk hf
  have ha := fun a => act_n hc hk a
  match s, hf with
  | .nil, _ => exact ⟨hc.mono (M := N + 1) (by omega), hk.mono (M := N + 1) (by omega), trivial⟩
  | .at none m, hf => exact meth_n hc hk m hf
  | .row1 .ends1, _ => exact ⟨(ha .ends1).1, (ha .ends1).2, trivial⟩
  | .thn (.row1 .leaves1) .ends, _ => exact ⟨(ha .leaves1).1, (ha .leaves1).2, trivial⟩
  | .thn (.row2 .undo .drop) .leaves, _ => exact ⟨(ha .undo).1, (ha .undo).2, trivial⟩
  | .thn (.row1 .drop) .leaves, _ => exact ⟨(ha .drop).1, (ha .drop).2, trivial⟩
  | .thn (.row1 .again1) .leaves, _ => exact ⟨(ha .again1).1, (ha .again1).2, trivial⟩
  | .thn (.row2 .tries1 .drop) .ends, _ => exact ⟨(ha .tries1).1, (ha .tries1).2, trivial⟩
  | .thn (.row1 .drop) .ends, _ => exact ⟨(ha .drop).1, (ha .drop).2, trivial⟩
def itC : Nat → SC → ZC → SC × ZC
  | 0, s, z => (s, z)
  | n + 1, s, z => itC n (stepC s z).1 (stepC s z).2
theorem JC.it {N : Nat} : ∀ (n : Nat) {N : Nat} {s : SC} {z : ZC}, JC N s z → JC (N + n) (itC n s z).1 (itC n s z).2
  | 0, _, _, _, h => h
  | n + 1, N, s, z, h => by
    have := JC.it (N := N) n h.step
    rwa [show N + 1 + n = N + (n + 1) by omega] at this
end
end Go.Proofs.YtblhfbcodbjgcaaGreat
