import Derived.Test.YthbjaoinklhikaaGreatShutNoneM11
import Derived.Test.YthbjaoinklhikaaGreatShutNoneM12
import Derived.Test.YthbjaoinklhikaaGreatShutNoneM13
namespace Go.Proofs.YthbjaoinklhikaaGreat
set_option linter.unusedVariables false
set_option linter.unusedSimpArgs false
open Go.RowKit Go.Shelf
section
variable {L : Lay} {x : CoreS} {gK gF : List Blk} {kb : Nat} {pv : Value} {k : WorkS}

set_option maxRecDepth 100000 in
theorem mSubmits (hz : rep2 L kb pv k x gK gF) (hp : preMC .submits (k, x)) : DoesG Tryz.prog 164 #[ptr' kb] [gK, gF] (MRz L kb pv (runC .submits (k, x))) := by
  have HEV := Lib.hid (show ∀ g rv tv, isCore L x g → _ from fun g rv tv hx => workEvent (kb := kb) (pv := pv) (rv := rv) (tv := tv) (k := k) (g := g) hx hp.1 2)
  have HLN := Lib.hid (show ({ x with slab := (eventS k.slot 2 x.slab).1 } : CoreS).tr.length ≤ 1000000 from hp.1.tr)
  have HZ := Lib.hid (show runC .submits (k, x) = (.at none .fills, (eventW 2 k x.slab, noteC (eventW 2 k x.slab) { ev0 with kind := 3, id := k.id, gen := (eventW 2 k x.slab).gen, dl := k.cdl, per := k.period } { x with slab := (eventS k.slot 2 x.slab).1 })) from rfl)
  rw [HZ.out]
  unfold MRz
  dsimp only
  obtain ⟨k2, hk2⟩ : ∃ k2, eventW 2 k x.slab = k2 := ⟨_, rfl⟩
  have HK := Lib.hid (show k2.id = k.id ∧ k2.cdl = k.cdl ∧ k2.period = k.period ∧ k2.rq = k.rq ∧ k2.tk = k.tk from by subst hk2; exact ⟨rfl, rfl, rfl, rfl, rfl⟩)
  rw [hk2] at HEV ⊢
  clear hp hk2 HZ
  obtain ⟨rv, tv, gq, gt, hr, ht, rfl, hx⟩ := hz
  intro w hw
  have T0 := TG.refl hw
  have HT := Lib.hid T0
  clear hw T0
  have HT := Lib.hid (HT.out.sum (H' := [workB kb L.fb pv rv tv k, gq, gt, gF]) (fun n ha h0 h1 h2 => by simp only [pickG, List.map_cons, List.map_nil, List.getD_cons_succ, List.getD_cons_zero, List.set_cons_succ, List.set_cons_zero, List.cons_append, List.flatten_append, List.flatten_cons, List.flatten_nil, List.append_nil, List.nil_append, ha, h0, h1, h2] <;> omega))
  have HX := Lib.hid hx
  have HR := Lib.hid hr
  have HTK := Lib.hid ht
  clear hx hr ht
  have HT := Lib.hid (HT.out.alloc (k := w.heap.size) rfl 106 #[.nilFunc, .nilFunc])
  go_enter Tryz.func164, Tryz.ntmps164
  go_wp2_with fail
  refine (DoesG.use (HEV.out _ _ _ HX.out) (HT.out) [0, 3] rfl rfl).mono ?_
  rintro e w1 ⟨gs, ⟨rfl, g1, hx1, rfl⟩, Ta⟩
  simp only [putG, List.set_cons_zero, List.set_cons_succ, List.cons_append, List.nil_append, List.append_nil] at Ta
  have HX := Lib.hid hx1
  clear hx1
  have HT := Lib.hid Ta
  clear Ta
  have k5 := HT.out.cell 0 0 rfl 5
  have k15 := HT.out.cell 0 0 rfl 15
  have k18 := HT.out.cell 0 0 rfl 18
  simp only [workC, List.getElem?_toArray, List.getElem?_cons_zero, List.getElem?_cons_succ] at k5 k15 k18
  go_wp2
  refine wp_region_mix1 17 (by kernel_rfl) (by kernel_rfl) ?_
  simp only [List.take_succ_cons, List.take_zero, List.drop_succ_cons, List.drop_zero]
  repeat (go_big_quiet_step ((first | (go_at_call 105; with_reducible exact ReadsG.quiet (workPeriod_r (L := L)) HT.out _ [0] rfl rfl))))
  refine wpQuiet_nil ?_
  intro _ hw'
  obtain ⟨nq, hw''⟩ := hw'
  subst hw''
  have HT := Lib.hid (HT.out.drewN nq)
  go_wp2_with fail
  refine (DoesG.use (workNote HX.out { ev0 with kind := 3, id := k2.id, gen := k2.gen, dl := k2.cdl, per := k2.period } HLN.out) (HT.out) [0, 3] rfl rfl).mono ?_
  rintro e w1 ⟨gs, ⟨rfl, g2, hx2, rfl⟩, Ta⟩
  simp only [putG, List.set_cons_zero, List.set_cons_succ, List.cons_append, List.nil_append, List.append_nil] at Ta
  have HX := Lib.hid hx2
  clear hx2 k5 k15 k18
  have HT := Lib.hid Ta
  clear Ta
  go_wp2_with fail
  refine ⟨rfl, ?_⟩
  rw [HK.out.1, HK.out.2.1, HK.out.2.2.1] at HX
  go_wp2_with fail
  refine (DoesG.use (callsAt) (HT.out) [] rfl rfl).mono ?_
  rintro e w1 ⟨gs, ⟨rfl, rfl⟩, Ta⟩
  simp only [putG, List.set_cons_zero, List.set_cons_succ, List.cons_append, List.nil_append, List.append_nil] at Ta
  have HT := Lib.hid Ta
  clear Ta
  have e0 := HT.out.cell 4 0 rfl 0
  have fe0 := HT.out.free 4 0 rfl 0
  have e1 := HT.out.cell 4 0 rfl 1
  have fe1 := HT.out.free 4 0 rfl 1
  simp only [List.getElem?_nil, List.getElem?_toArray, List.getElem?_cons_zero, List.getElem?_cons_succ] at e0 e1
  go_wp2
  exact bodyPost_ret (v := .agg #[.nilFunc, .func (.func 172) #[ptr' kb] #[]]) (by simp [results, Tryz.results164, go_sem, e0, e1]) rfl ⟨_, ⟨_, _, [], _, _, rfl, ⟨rfl, rfl, rfl⟩, ⟨_, _, gq, gt, (HK.out.2.2.2.1 ▸ HR.out), (HK.out.2.2.2.2 ▸ HTK.out), rfl, HX.out⟩, rfl⟩, (((HT.out.set 4 0 rfl 0 _).set 4 0 rfl 1 _).pick [0, 1, 2, 3] rfl).sum (fun n ha h0 h1 h2 => by simp only [pickG, List.map_cons, List.map_nil, List.getD_cons_succ, List.getD_cons_zero, List.set_cons_succ, List.set_cons_zero, List.cons_append, List.flatten_append, List.flatten_cons, List.flatten_nil, List.append_nil, List.nil_append, ha, h0, h1, h2] <;> omega)⟩
set_option maxRecDepth 100000 in
theorem mFills (hz : rep2 L kb pv k x gK gF) (hp : preMC .fills (k, x)) : DoesG Tryz.prog 172 #[ptr' kb] [gK, gF] (MRz L kb pv (runC .fills (k, x))) := by
  obtain ⟨hok, hwk, hpr⟩ := hp
  simp only at hok hwk hpr
  obtain ⟨⟨i, t⟩, htke⟩ := Option.isSome_iff_exists.1 hpr
  obtain ⟨htb, hi⟩ := hwk.tk i t htke
  obtain ⟨s, hs⟩ : ∃ s, x.shs[i]? = some s := ⟨_, List.getElem?_eq_getElem hi⟩
  have hrb := hok.ring s (List.mem_of_getElem? hs)
  have hE : fillC (taskC (k, x)) (k, x) = ({ k with tk := some (i, (fillT s.ring t (taskC (k, x))).2.1) }, { x with shs := x.shs.set i { s with ring := (fillT s.ring t (taskC (k, x))).1 } }) := by
    unfold fillC
    simp only [htke, hs]
  have HZ : runC .fills (k, x) = (leavesC, (okC { k with tk := some (i, (fillT s.ring t (taskC (k, x))).2.1) }, { x with shs := x.shs.set i { s with ring := (fillT s.ring t (taskC (k, x))).1 } })) := by
    show (leavesC, (okC (fillC (taskC (k, x)) (k, x)).1, (fillC (taskC (k, x)) (k, x)).2)) = _
    rw [hE]
  rw [HZ]
  unfold MRz
  dsimp only [okC]
  obtain ⟨rv, tv, gq, gt, hr, ht, rfl, hx⟩ := hz
  rw [htke] at ht
  obtain ⟨tb, qs, hqs, rfl, rfl⟩ := ht
  have HFI := Lib.hid (coreFill hx hqs hs tb t hrb htb (taskC (k, x)))
  have HPE := Lib.hid (corePeriod_r hx hok.slab.n1 k.slot)
  have HTA := Lib.hid (show (taskC (k, x)).cells = #[.int .u64 k.id, .int .i64 k.slot, .int .u64 k.gen, .int .u64 k.cdl, .int .u64 (x.slab.period k.slot)] from rfl)
  rw [HTA.out] at HFI
  generalize fillT s.ring t (taskC (k, x)) = rt at *
  intro w hw
  have T0 := TG.refl hw
  have HT := Lib.hid T0
  clear hw T0
  have HT := Lib.hid (HT.out.sum (H' := [workB kb L.fb pv rv (ptr' tb) k, gq, tickG tb qs.rb t, gF]) (fun n ha h0 h1 h2 => by simp only [pickG, List.map_cons, List.map_nil, List.getD_cons_succ, List.getD_cons_zero, List.set_cons_succ, List.set_cons_zero, List.cons_append, List.flatten_append, List.flatten_cons, List.flatten_nil, List.append_nil, List.nil_append, ha, h0, h1, h2] <;> omega))
  have HX := Lib.hid hx
  have HR := Lib.hid hr
  have HQS := Lib.hid hqs
  clear hx hr hqs hs hrb htb hE HZ hok hwk hpr htke hi
  have k0 := HT.out.cell 0 0 rfl 0
  have k5 := HT.out.cell 0 0 rfl 5
  have k14 := HT.out.cell 0 0 rfl 14
  have k15 := HT.out.cell 0 0 rfl 15
  have k16 := HT.out.cell 0 0 rfl 16
  have k18 := HT.out.cell 0 0 rfl 18
  simp only [workC, List.getElem?_toArray, List.getElem?_cons_zero, List.getElem?_cons_succ] at k0 k5 k14 k15 k16 k18
  have lt := HT.out.lt 0 0 rfl
  simp only [] at lt
  go_enter Tryz.func172, Tryz.ntmps172
  go_wp2
  have HT := Lib.hid (HT.out.alloc (k := w.heap.size) rfl 106 #[.nilFunc, .nilFunc])
  refine wp_region_mix1 32 (by kernel_rfl) (by kernel_rfl) ?_
  simp only [List.take_succ_cons, List.take_zero, List.drop_succ_cons, List.drop_zero]
  repeat (go_big_quiet_step ((first | (go_at_call 26; with_reducible exact ReadsG.quiet (coreSlab_r HX.out) HT.out _ [3] rfl rfl) | (go_at_call 169; with_reducible exact ReadsG.quiet (HPE.out) HT.out _ [3] rfl rfl))))
  refine wpQuiet_nil ?_
  intro _ hw'
  obtain ⟨nq, hw''⟩ := hw'
  subst hw''
  have HT := Lib.hid (HT.out.drewN nq)
  go_wp2_with fail
  refine (DoesG.use (HFI.out) (HT.out) [2, 3] rfl rfl).mono ?_
  rintro e w1 ⟨gs, ⟨rfl, g1, hx1, rfl⟩, Ta⟩
  simp only [putG, List.set_cons_zero, List.set_cons_succ, List.cons_append, List.nil_append, List.append_nil] at Ta
  have HX := Lib.hid hx1
  clear hx1 k0 k5 k14 k15 k16 k18 lt
  have HT := Lib.hid Ta
  clear Ta
  go_wp2_with fail
  refine ⟨rfl, ?_⟩
  have k15 := HT.out.cell 0 0 rfl 15
  have k18 := HT.out.cell 0 0 rfl 18
  have k7 := HT.out.cell 0 0 rfl 7
  have fk7 := HT.out.free 0 0 rfl 7
  have k8 := HT.out.cell 0 0 rfl 8
  have fk8 := HT.out.free 0 0 rfl 8
  have k9 := HT.out.cell 0 0 rfl 9
  have fk9 := HT.out.free 0 0 rfl 9
  have k10 := HT.out.cell 0 0 rfl 10
  have fk10 := HT.out.free 0 0 rfl 10
  have k11 := HT.out.cell 0 0 rfl 11
  have fk11 := HT.out.free 0 0 rfl 11
  simp only [workC, List.getElem?_toArray, List.getElem?_cons_zero, List.getElem?_cons_succ] at k15 k18 k7 k8 k9 k10 k11
  go_wp2
  refine wp_region_mix1 10 (by kernel_rfl) (by kernel_rfl) ?_
  simp only [List.take_succ_cons, List.take_zero, List.drop_succ_cons, List.drop_zero]
  repeat (go_big_quiet_step ((fail)))
  refine wpQuiet_nil ?_
  intro _ hw'
  obtain ⟨nq, hw''⟩ := hw'
  subst hw''
  have HT := Lib.hid (HT.out.drewN nq)
  go_wp2_with fail
  refine ⟨rfl, ?_⟩
  have HT := Lib.hid ((((((HT.out.set 0 0 rfl 7 (.int .i64 0)).set 0 0 rfl 8 (.bool true)).set 0 0 rfl 9 (.int .u64 k.id)).set 0 0 rfl 10 (.int .u64 k.gen)).set 0 0 rfl 11 (.slice none 0 0)).eq (H' := [workB kb L.fb pv rv (ptr' tb) { k with tk := some (i, rt.2.1), err := 0, ok := true, aid := k.id, agen := k.gen }, gq, tickG tb qs.rb rt.2.1, g1, [cl w.heap.size 106 #[.nilFunc, .nilFunc]]]) rfl)
  clear k15 k18 k7 k8 k9 k10 k11 fk7 fk8 fk9 fk10 fk11
  go_wp2_with fail
  refine (DoesG.use (sLeaves L kb pv) (HT.out) [] rfl rfl).mono ?_
  rintro e w1 ⟨gs, ⟨m2, d2, g2, rfl, hs2, rfl⟩, Ta⟩
  simp only [putG, List.set_cons_zero, List.set_cons_succ, List.cons_append, List.nil_append, List.append_nil] at Ta
  have HT := Lib.hid Ta
  clear Ta
  have e0 := HT.out.cell 4 0 rfl 0
  have fe0 := HT.out.free 4 0 rfl 0
  have e1 := HT.out.cell 4 0 rfl 1
  have fe1 := HT.out.free 4 0 rfl 1
  simp only [List.getElem?_nil, List.getElem?_toArray, List.getElem?_cons_zero, List.getElem?_cons_succ] at e0 e1
  have hv2 := (cliC_vals L kb pv).vals hs2
  obtain ⟨st1, st2⟩ := Cli.store_fv2 (P := Tryz.prog) hv2.1 hv2.2 e0 fe0 e1 fe1
  have HS := Lib.hid hs2
  clear hv2 hs2
  go_wp2
  exact bodyPost_ret (v := .agg #[_, _]) (by simp [results, Tryz.results172, go_sem, e0, e1]) rfl ⟨_, ⟨m2, d2, g2, _, _, rfl, HS.out, ⟨_, _, gq, (tickG tb qs.rb rt.2.1), HR.out, ⟨tb, qs, HQS.out, rfl, rfl⟩, rfl, HX.out⟩, rfl⟩, (((HT.out.set 4 0 rfl 0 _).set 4 0 rfl 1 _).pick [0, 1, 2, 3, 5] rfl).sum (fun n ha h0 h1 h2 => by simp only [pickG, List.map_cons, List.map_nil, List.getD_cons_succ, List.getD_cons_zero, List.set_cons_succ, List.set_cons_zero, List.cons_append, List.flatten_append, List.flatten_cons, List.flatten_nil, List.append_nil, List.nil_append, ha, h0, h1, h2] <;> omega)⟩
end
end Go.Proofs.YthbjaoinklhikaaGreat

namespace Go.Proofs.YthbjaoinklhikaaGreat
set_option linter.unusedVariables false
set_option linter.unusedSimpArgs false
open Go.RowKit Go.Shelf
section
variable {L : Lay} {x : CoreS} {gK gF : List Blk} {kb : Nat} {pv : Value} {k : WorkS}

/-- what an act leaves -/
def AR (L : Lay) (kb : Nat) (pv : Value) (z : ZC) (e : Ending) (gs : GH) : Prop := ∃ gK' gF', e = .returned (.tuple #[]) ∧ rep2 L kb pv z.1 z.2 gK' gF' ∧ gs = [[], gK', gF']
set_option maxRecDepth 100000 in
theorem aEnds (hz : rep2 L kb pv k x gK gF) (hp : preAC .ends1 (k, x)) (bk : Nat) : DoesG Tryz.prog 128 #[ptr' bk] [[cl bk 26 #[ptr' kb]], gK, gF] (AR L kb pv (runA .ends1 (k, x))) := by
  have HLN := Lib.hid hp.1.tr
  simp only at HLN
  clear hp
  unfold AR
  dsimp only [runA, noteZ]
  obtain ⟨rv, tv, gq, gt, hr, ht, rfl, hx⟩ := hz
  intro w hw
  have T0 := TG.refl hw
  have HT := Lib.hid T0
  clear hw T0
  have HT := Lib.hid (HT.out.sum (H' := [workB kb L.fb pv rv tv k, gq, gt, gF, [cl bk 26 #[ptr' kb]]]) (fun n ha h0 h1 h2 => by simp only [pickG, List.map_cons, List.map_nil, List.getD_cons_succ, List.getD_cons_zero, List.set_cons_succ, List.set_cons_zero, List.cons_append, List.flatten_append, List.flatten_cons, List.flatten_nil, List.append_nil, List.nil_append, ha, h0, h1, h2] <;> omega))
  have HX := Lib.hid hx
  have HR := Lib.hid hr
  have HTK := Lib.hid ht
  clear hx hr ht
  have k7 := HT.out.cell 0 0 rfl 7
  have k9 := HT.out.cell 0 0 rfl 9
  have k10 := HT.out.cell 0 0 rfl 10
  simp only [workC, List.getElem?_toArray, List.getElem?_cons_zero, List.getElem?_cons_succ] at k7 k9 k10
  have b0 := HT.out.cell 4 0 rfl 0
  simp only [List.getElem?_nil, List.getElem?_toArray, List.getElem?_cons_zero, List.getElem?_cons_succ] at b0
  go_enter Tryz.func128, Tryz.ntmps128
  go_wp2_with fail
  refine wp_region_mix1 17 (by kernel_rfl) (by kernel_rfl) ?_
  simp only [List.take_succ_cons, List.take_zero, List.drop_succ_cons, List.drop_zero]
  repeat (go_big_quiet_step ((fail)))
  refine wpQuiet_nil ?_
  intro _ hw'
  obtain ⟨nq, hw''⟩ := hw'
  subst hw''
  have HT := Lib.hid (HT.out.drewN nq)
  go_wp2_with fail
  refine (DoesG.use (workNote HX.out { ev0 with kind := 2, id := k.aid, gen := k.agen, err := k.err } HLN.out) (HT.out) [0, 3] rfl rfl).mono ?_
  rintro e w1 ⟨gs, ⟨rfl, g2, hx2, rfl⟩, Ta⟩
  simp only [putG, List.set_cons_zero, List.set_cons_succ, List.cons_append, List.nil_append, List.append_nil] at Ta
  have HX := Lib.hid hx2
  clear hx2 k7 k9 k10 b0
  have HT := Lib.hid Ta
  clear Ta
  go_wp2_with fail
  refine ⟨rfl, ?_⟩
  go_wp2
  exact bodyPost_end (results_none rfl _ _ _) rfl ⟨_, ⟨_, _, rfl, ⟨_, _, gq, gt, HR.out, HTK.out, rfl, HX.out⟩, rfl⟩, (HT.out.pick [0, 1, 2, 3] rfl).sum (fun n ha h0 h1 h2 => by simp only [pickG, List.map_cons, List.map_nil, List.getD_cons_succ, List.getD_cons_zero, List.set_cons_succ, List.set_cons_zero, List.cons_append, List.flatten_append, List.flatten_cons, List.flatten_nil, List.append_nil, List.nil_append, ha, h0, h1, h2] <;> omega)⟩
set_option maxRecDepth 100000 in
theorem aLeaves (hz : rep2 L kb pv k x gK gF) (hp : preAC .leaves1 (k, x)) (bk : Nat) : DoesG Tryz.prog 155 #[ptr' bk] [[cl bk 26 #[ptr' kb]], gK, gF] (AR L kb pv (runA .leaves1 (k, x))) := by
  have HI := Lib.hid (And.intro hp.1.i0 hp.1.i1)
  simp only at HI
  clear hp
  unfold AR
  dsimp only [runA]
  obtain ⟨rv, tv, gq, gt, hr, ht, rfl, hx⟩ := hz
  intro w hw
  have T0 := TG.refl hw
  have HT := Lib.hid T0
  clear hw T0
  have HT := Lib.hid (HT.out.sum (H' := [workB kb L.fb pv rv tv k, gq, gt, gF, [cl bk 26 #[ptr' kb]]]) (fun n ha h0 h1 h2 => by simp only [pickG, List.map_cons, List.map_nil, List.getD_cons_succ, List.getD_cons_zero, List.set_cons_succ, List.set_cons_zero, List.cons_append, List.flatten_append, List.flatten_cons, List.flatten_nil, List.append_nil, List.nil_append, ha, h0, h1, h2] <;> omega))
  have HX := Lib.hid hx
  have HR := Lib.hid hr
  have HTK := Lib.hid ht
  clear hx hr ht
  have k0 := HT.out.cell 0 0 rfl 0
  simp only [workC, List.getElem?_toArray, List.getElem?_cons_zero, List.getElem?_cons_succ] at k0
  have b0 := HT.out.cell 4 0 rfl 0
  simp only [List.getElem?_nil, List.getElem?_toArray, List.getElem?_cons_zero, List.getElem?_cons_succ] at b0
  go_enter Tryz.func155, Tryz.ntmps155
  go_wp2_with fail
  refine (DoesG.use (coreLeave HX.out HI.out) (HT.out) [3] rfl rfl).mono ?_
  rintro e w1 ⟨gs, ⟨rfl, g2, hx2, rfl⟩, Ta⟩
  simp only [putG, List.set_cons_zero, List.set_cons_succ, List.cons_append, List.nil_append, List.append_nil] at Ta
  have HX := Lib.hid hx2
  clear hx2 k0 b0
  have HT := Lib.hid Ta
  clear Ta
  go_wp2
  exact bodyPost_end (results_none rfl _ _ _) rfl ⟨_, ⟨_, _, rfl, ⟨_, _, gq, gt, HR.out, HTK.out, rfl, HX.out⟩, rfl⟩, (HT.out.pick [0, 1, 2, 3] rfl).sum (fun n ha h0 h1 h2 => by simp only [pickG, List.map_cons, List.map_nil, List.getD_cons_succ, List.getD_cons_zero, List.set_cons_succ, List.set_cons_zero, List.cons_append, List.flatten_append, List.flatten_cons, List.flatten_nil, List.append_nil, List.nil_append, ha, h0, h1, h2] <;> omega)⟩
set_option maxRecDepth 100000 in
theorem aTries (hz : rep2 L kb pv k x gK gF) (hp : preAC .tries1 (k, x)) (bk : Nat) : DoesG Tryz.prog 173 #[ptr' bk] [[cl bk 26 #[ptr' kb]], gK, gF] (AR L kb pv (runA .tries1 (k, x))) := by
  have HOK := Lib.hid hp.1
  simp only at HOK
  clear hp
  unfold AR
  dsimp only [runA, eventC]
  obtain ⟨rv, tv, gq, gt, hr, ht, rfl, hx⟩ := hz
  intro w hw
  have T0 := TG.refl hw
  have HT := Lib.hid T0
  clear hw T0
  have HT := Lib.hid (HT.out.sum (H' := [workB kb L.fb pv rv tv k, gq, gt, gF, [cl bk 26 #[ptr' kb]]]) (fun n ha h0 h1 h2 => by simp only [pickG, List.map_cons, List.map_nil, List.getD_cons_succ, List.getD_cons_zero, List.set_cons_succ, List.set_cons_zero, List.cons_append, List.flatten_append, List.flatten_cons, List.flatten_nil, List.append_nil, List.nil_append, ha, h0, h1, h2] <;> omega))
  have HX := Lib.hid hx
  have HR := Lib.hid hr
  have HTK := Lib.hid ht
  clear hx hr ht
  have b0 := HT.out.cell 4 0 rfl 0
  simp only [List.getElem?_nil, List.getElem?_toArray, List.getElem?_cons_zero, List.getElem?_cons_succ] at b0
  go_enter Tryz.func173, Tryz.ntmps173
  go_wp2_with fail
  refine (DoesG.use (workEvent HX.out HOK.out 10) (HT.out) [0, 3] rfl rfl).mono ?_
  rintro e w1 ⟨gs, ⟨rfl, g2, hx2, rfl⟩, Ta⟩
  simp only [putG, List.set_cons_zero, List.set_cons_succ, List.cons_append, List.nil_append, List.append_nil] at Ta
  have HX := Lib.hid hx2
  clear hx2 b0
  have HT := Lib.hid Ta
  clear Ta
  go_wp2
  exact bodyPost_end (results_none rfl _ _ _) rfl ⟨_, ⟨_, _, rfl, ⟨_, _, gq, gt, HR.out, HTK.out, rfl, HX.out⟩, rfl⟩, (HT.out.pick [0, 1, 2, 3] rfl).sum (fun n ha h0 h1 h2 => by simp only [pickG, List.map_cons, List.map_nil, List.getD_cons_succ, List.getD_cons_zero, List.set_cons_succ, List.set_cons_zero, List.cons_append, List.flatten_append, List.flatten_cons, List.flatten_nil, List.append_nil, List.nil_append, ha, h0, h1, h2] <;> omega)⟩
set_option maxRecDepth 100000 in
theorem aUndo (hz : rep2 L kb pv k x gK gF) (hp : preAC .undo (k, x)) : DoesG Tryz.prog 161 #[ptr' kb] [gK, gF] (AR L kb pv (runA .undo (k, x))) := by
  have HOK := Lib.hid hp.1
  simp only at HOK
  have HLN := Lib.hid (show ({ x with slab := (eventS k.slot 9 x.slab).1 } : CoreS).tr.length ≤ 1000000 from hp.1.tr)
  clear hp
  unfold AR
  dsimp only [runA, eventC, refuseC]
  obtain ⟨rv, tv, gq, gt, hr, ht, rfl, hx⟩ := hz
  intro w hw
  have T0 := TG.refl hw
  have HT := Lib.hid T0
  clear hw T0
  have HT := Lib.hid (HT.out.sum (H' := [workB kb L.fb pv rv tv k, gq, gt, gF, []]) (fun n ha h0 h1 h2 => by simp only [pickG, List.map_cons, List.map_nil, List.getD_cons_succ, List.getD_cons_zero, List.set_cons_succ, List.set_cons_zero, List.cons_append, List.flatten_append, List.flatten_cons, List.flatten_nil, List.append_nil, List.nil_append, ha, h0, h1, h2] <;> omega))
  have HX := Lib.hid hx
  have HR := Lib.hid hr
  have HTK := Lib.hid ht
  clear hx hr ht
  go_enter Tryz.func161, Tryz.ntmps161
  go_wp2_with fail
  refine (DoesG.use (workEvent HX.out HOK.out 9) (HT.out) [0, 3] rfl rfl).mono ?_
  rintro e w1 ⟨gs, ⟨rfl, g1, hx1, rfl⟩, Ta⟩
  simp only [putG, List.set_cons_zero, List.set_cons_succ, List.cons_append, List.nil_append, List.append_nil] at Ta
  have HX := Lib.hid hx1
  clear hx1
  have HT := Lib.hid Ta
  clear Ta
  go_wp2_with fail
  refine (DoesG.use (workRefuse HX.out 2 HLN.out) (HT.out) [0, 3] rfl rfl).mono ?_
  rintro e w1 ⟨gs, ⟨rfl, g2, hx2, rfl⟩, Ta⟩
  simp only [putG, List.set_cons_zero, List.set_cons_succ, List.cons_append, List.nil_append, List.append_nil] at Ta
  have HX := Lib.hid hx2
  clear hx2
  have HT := Lib.hid Ta
  clear Ta
  go_wp2
  exact bodyPost_end (results_none rfl _ _ _) rfl ⟨_, ⟨_, _, rfl, ⟨_, _, gq, gt, HR.out, HTK.out, rfl, HX.out⟩, rfl⟩, (HT.out.pick [0, 1, 2, 3] rfl).sum (fun n ha h0 h1 h2 => by simp only [pickG, List.map_cons, List.map_nil, List.getD_cons_succ, List.getD_cons_zero, List.set_cons_succ, List.set_cons_zero, List.cons_append, List.flatten_append, List.flatten_cons, List.flatten_nil, List.append_nil, List.nil_append, ha, h0, h1, h2] <;> omega)⟩
set_option maxRecDepth 100000 in
theorem aDrop (hz : rep2 L kb pv k x gK gF) (hp : preAC .drop (k, x)) : DoesG Tryz.prog 162 #[ptr' kb] [gK, gF] (AR L kb pv (runA .drop (k, x))) := by
  have HC := Lib.hid (And.intro hp.1.slab.c0 (show x.slab.count ≤ 64 by have := hp.1.slab.c1; have := hp.1.slab.n1; simp only at *; omega))
  simp only at HC
  clear hp
  unfold AR
  dsimp only [runA]
  obtain ⟨rv, tv, gq, gt, hr, ht, rfl, hx⟩ := hz
  intro w hw
  have T0 := TG.refl hw
  have HT := Lib.hid T0
  clear hw T0
  have HT := Lib.hid (HT.out.sum (H' := [workB kb L.fb pv rv tv k, gq, gt, gF, []]) (fun n ha h0 h1 h2 => by simp only [pickG, List.map_cons, List.map_nil, List.getD_cons_succ, List.getD_cons_zero, List.set_cons_succ, List.set_cons_zero, List.cons_append, List.flatten_append, List.flatten_cons, List.flatten_nil, List.append_nil, List.nil_append, ha, h0, h1, h2] <;> omega))
  have HX := Lib.hid hx
  have HR := Lib.hid hr
  have HTK := Lib.hid ht
  clear hx hr ht
  have k0 := HT.out.cell 0 0 rfl 0
  simp only [workC, List.getElem?_toArray, List.getElem?_cons_zero, List.getElem?_cons_succ] at k0
  go_enter Tryz.func162, Tryz.ntmps162
  go_wp2_with fail
  refine (ReadsG.use (coreSlab_r HX.out) (HT.out) [3] rfl rfl).mono ?_
  rintro e w1 ⟨rfl, mq, rfl⟩
  have HT := Lib.hid (HT.out.drewN mq)
  generalize World.drewN _ _ = wq at HT ⊢
  go_wp2_with fail
  refine (DoesG.use (coreDrop HX.out HC.out.1 HC.out.2) (HT.out) [3] rfl rfl).mono ?_
  rintro e w1 ⟨gs, ⟨rfl, g2, hx2, rfl⟩, Ta⟩
  simp only [putG, List.set_cons_zero, List.set_cons_succ, List.cons_append, List.nil_append, List.append_nil] at Ta
  have HX := Lib.hid hx2
  clear hx2 k0
  have HT := Lib.hid Ta
  clear Ta
  go_wp2
  exact bodyPost_end (results_none rfl _ _ _) rfl ⟨_, ⟨_, _, rfl, ⟨_, _, gq, gt, HR.out, HTK.out, rfl, HX.out⟩, rfl⟩, (HT.out.pick [0, 1, 2, 3] rfl).sum (fun n ha h0 h1 h2 => by simp only [pickG, List.map_cons, List.map_nil, List.getD_cons_succ, List.getD_cons_zero, List.set_cons_succ, List.set_cons_zero, List.cons_append, List.flatten_append, List.flatten_cons, List.flatten_nil, List.append_nil, List.nil_append, ha, h0, h1, h2] <;> omega)⟩
set_option maxRecDepth 100000 in
theorem aAgain (hz : rep2 L kb pv k x gK gF) (hp : preAC .again1 (k, x)) (bk : Nat) : DoesG Tryz.prog 193 #[ptr' bk] [[cl bk 26 #[ptr' kb]], gK, gF] (AR L kb pv (runA .again1 (k, x))) := by
  obtain ⟨hok, hwk, hpr⟩ := hp
  simp only at hok hwk hpr
  obtain ⟨⟨i, t⟩, htke⟩ := Option.isSome_iff_exists.1 hpr
  obtain ⟨htb, hi⟩ := hwk.tk i t htke
  obtain ⟨s, hs⟩ : ∃ s, x.shs[i]? = some s := ⟨_, List.getElem?_eq_getElem hi⟩
  have hrb := hok.ring s (List.mem_of_getElem? hs)
  have hE : runA .again1 (k, x) = ({ k with tk := some (i, (fillT s.ring t { TaskS.zero with slot := -1 }).2.1) }, { x with shs := x.shs.set i { s with ring := (fillT s.ring t { TaskS.zero with slot := -1 }).1 } }) := by
    show fillC _ _ = _
    unfold fillC
    simp only [htke, hs]
  rw [hE]
  unfold AR
  dsimp only
  obtain ⟨rv, tv, gq, gt, hr, ht, rfl, hx⟩ := hz
  rw [htke] at ht
  obtain ⟨tb, qs, hqs, rfl, rfl⟩ := ht
  have HFI := Lib.hid (coreFill hx hqs hs tb t hrb htb { TaskS.zero with slot := -1 })
  have HTA := Lib.hid (show ({ TaskS.zero with slot := -1 } : TaskS).cells = #[.int .u64 0, .int .i64 (-1), .int .u64 0, .int .u64 0, .int .u64 0] from rfl)
  rw [HTA.out] at HFI
  generalize fillT s.ring t { TaskS.zero with slot := -1 } = rt at *
  intro w hw
  have T0 := TG.refl hw
  have HT := Lib.hid T0
  clear hw T0
  have HT := Lib.hid (HT.out.sum (H' := [workB kb L.fb pv rv (ptr' tb) k, gq, tickG tb qs.rb t, gF, [cl bk 26 #[ptr' kb]]]) (fun n ha h0 h1 h2 => by simp only [pickG, List.map_cons, List.map_nil, List.getD_cons_succ, List.getD_cons_zero, List.set_cons_succ, List.set_cons_zero, List.cons_append, List.flatten_append, List.flatten_cons, List.flatten_nil, List.append_nil, List.nil_append, ha, h0, h1, h2] <;> omega))
  have HX := Lib.hid hx
  have HR := Lib.hid hr
  have HQS := Lib.hid hqs
  clear hx hr hqs hs hrb htb hE hok hwk hpr htke hi
  have k14 := HT.out.cell 0 0 rfl 14
  simp only [workC, List.getElem?_toArray, List.getElem?_cons_zero, List.getElem?_cons_succ] at k14
  have b0 := HT.out.cell 4 0 rfl 0
  simp only [List.getElem?_nil, List.getElem?_toArray, List.getElem?_cons_zero, List.getElem?_cons_succ] at b0
  go_enter Tryz.func193, Tryz.ntmps193
  go_wp2_with fail
  refine (DoesG.use (HFI.out) (HT.out) [2, 3] rfl rfl).mono ?_
  rintro e w1 ⟨gs, ⟨rfl, g1, hx1, rfl⟩, Ta⟩
  simp only [putG, List.set_cons_zero, List.set_cons_succ, List.cons_append, List.nil_append, List.append_nil] at Ta
  have HX := Lib.hid hx1
  clear hx1 k14 b0
  have HT := Lib.hid Ta
  clear Ta
  go_wp2
  exact bodyPost_end (results_none rfl _ _ _) rfl ⟨_, ⟨_, _, rfl, ⟨_, _, gq, tickG tb qs.rb rt.2.1, HR.out, ⟨tb, qs, HQS.out, rfl, rfl⟩, rfl, HX.out⟩, rfl⟩, ((HT.out.pick [0, 1, 2, 3] rfl).eq (H' := [workB kb L.fb pv rv (ptr' tb) { k with tk := some (i, rt.2.1) }, gq, tickG tb qs.rb rt.2.1, g1]) rfl).sum (fun n ha h0 h1 h2 => by simp only [pickG, List.map_cons, List.map_nil, List.getD_cons_succ, List.getD_cons_zero, List.set_cons_succ, List.set_cons_zero, List.cons_append, List.flatten_append, List.flatten_cons, List.flatten_nil, List.append_nil, List.nil_append, ha, h0, h1, h2] <;> omega)⟩
end
end Go.Proofs.YthbjaoinklhikaaGreat

namespace Go.Proofs.YthbjaoinklhikaaGreat
set_option linter.unusedVariables false
set_option linter.unusedSimpArgs false
open Go.RowKit Go.Shelf
section
variable {L : Lay} {x : CoreS} {g gK gF : List Blk} {kb : Nat} {pv : Value} {k : WorkS}
theorem sEnds_M (hz : rep2 L kb pv k x gK gF) : DoesG Tryz.prog 101 #[ptr' kb] [gK, gF] (MRz L kb pv (.row1 .ends1, (k, x))) := by
  intro w hw
  refine (DoesG.use (sEnds L kb pv) (TG.refl hw) [] rfl rfl).mono ?_
  rintro e w' ⟨gs, ⟨m, d, g', he, hs, rfl⟩, T⟩
  exact ⟨_, ⟨m, d, g', gK, gF, he, hs, hz, rfl⟩, T.pick [2, 0, 1] rfl⟩
theorem sLeaves_M (hz : rep2 L kb pv k x gK gF) : DoesG Tryz.prog 130 #[ptr' kb] [gK, gF] (MRz L kb pv (leavesC, (k, x))) := by
  intro w hw
  refine (DoesG.use (sLeaves L kb pv) (TG.refl hw) [] rfl rfl).mono ?_
  rintro e w' ⟨gs, ⟨m, d, g', he, hs, rfl⟩, T⟩
  exact ⟨_, ⟨m, d, g', gK, gF, he, hs, hz, rfl⟩, T.pick [2, 0, 1] rfl⟩
theorem mFn {fn : FuncId} {R : Ending → GH → Prop} (eg : ∀ args w, (callFunc fn args).run Tryz.prog w = .ok (.enter fn args) w) (h : DoesG Tryz.prog fn #[ptr' kb] [gK, gF] R) : FnG Tryz.prog (.func (.func fn) #[ptr' kb] #[]) [[], gK, gF] R :=
  ⟨fn, #[ptr' kb], #[], rfl, eg, DoesG.pre (by simpa using h) (by simp)⟩
theorem aFn {fn : FuncId} {bk : Nat} {gb : List Blk} {R : Ending → GH → Prop} (eg : ∀ args w, (callFunc fn args).run Tryz.prog w = .ok (.enter fn args) w) (h : DoesG Tryz.prog fn #[ptr' bk] [gb, gK, gF] R) : FnG Tryz.prog (.func (.func fn) #[] #[ptr' bk]) [gb, gK, gF] R :=
  ⟨fn, #[], #[ptr' bk], rfl, eg, by simpa using h⟩
theorem cliC_ok (L : Lay) (kb : Nat) (pv : Value) : (cliC L kb pv).Ok where
  v := cliC_vals L kb pv
  y h := h.elim
  m {f v g gK gF z} hv hz hp := by
    obtain ⟨k, x⟩ := z
    obtain ⟨rfl, rfl⟩ := hv
    cases f with
    | right => exact mFn (enters_of Tryz.func62 (by kernel_rfl) rfl) (mRight hz hp)
    | enter => exact mFn (enters_of Tryz.func63 (by kernel_rfl) rfl) (mEnter hz hp)
    | gate => exact mFn (enters_of Tryz.func64 (by kernel_rfl) rfl) (mGate hz hp)
    | asks => exact mFn (enters_of Tryz.func106 (by kernel_rfl) rfl) (mAsks hz hp)
    | queues => exact mFn (enters_of Tryz.func135 (by kernel_rfl) rfl) (mQueues hz hp)
    | submits => exact mFn (enters_of Tryz.func164 (by kernel_rfl) rfl) (mSubmits hz hp)
    | fills => exact mFn (enters_of Tryz.func172 (by kernel_rfl) rfl) (mFills hz hp)
    | looks => exact mFn (enters_of Tryz.func107 (by kernel_rfl) rfl) (mLooks hz hp)
    | again => exact mFn (enters_of Tryz.func163 (by kernel_rfl) rfl) (mAgain hz hp)
    | tries => exact mFn (enters_of Tryz.func137 (by kernel_rfl) rfl) (mTries hz hp)
    | ends => exact mFn (enters_of Tryz.func101 (by kernel_rfl) rfl) (sEnds_M hz)
    | leaves => exact mFn (enters_of Tryz.func130 (by kernel_rfl) rfl) (sLeaves_M hz)
  a {f v g gK gF z} hv hz hp := by
    obtain ⟨k, x⟩ := z
    cases f with
    | ends1 => obtain ⟨bk, rfl, rfl⟩ := hv; exact aFn (enters_of Tryz.func128 (by kernel_rfl) rfl) (aEnds hz hp bk)
    | leaves1 => obtain ⟨bk, rfl, rfl⟩ := hv; exact aFn (enters_of Tryz.func155 (by kernel_rfl) rfl) (aLeaves hz hp bk)
    | undo => obtain ⟨rfl, rfl⟩ := hv; exact mFn (enters_of Tryz.func161 (by kernel_rfl) rfl) (aUndo hz hp)
    | drop => obtain ⟨rfl, rfl⟩ := hv; exact mFn (enters_of Tryz.func162 (by kernel_rfl) rfl) (aDrop hz hp)
    | tries1 => obtain ⟨bk, rfl, rfl⟩ := hv; exact aFn (enters_of Tryz.func173 (by kernel_rfl) rfl) (aTries hz hp bk)
    | again1 => obtain ⟨bk, rfl, rfl⟩ := hv; exact aFn (enters_of Tryz.func193 (by kernel_rfl) rfl) (aAgain hz hp bk)
end
end Go.Proofs.YthbjaoinklhikaaGreat

namespace Go.Proofs.YthbjaoinklhikaaGreat
set_option linter.unusedVariables false
set_option linter.unusedSimpArgs false
open Go.RowKit Go.Shelf

/-! ## A call's work, whole: Begin, Step, May, Done, Answer, Call -/
def isWk (L : Lay) (kb : Nat) (pv : Value) (k : WorkS) (gK : List Blk) : Prop :=
  ∃ rv tv gq gt, optR L.p.sb k.rq rv gq ∧ optT L k.tk tv gt ∧ gK = workB kb L.fb pv rv tv k ++ (gq ++ gt)
theorem rep2_iff {L : Lay} {kb : Nat} {pv : Value} {k : WorkS} {x : CoreS} {gK gF : List Blk} : rep2 L kb pv k x gK gF ↔ isWk L kb pv k gK ∧ isCore L x gF :=
  ⟨fun ⟨rv, tv, gq, gt, a, b, c, d⟩ => ⟨⟨rv, tv, gq, gt, a, b, c⟩, d⟩, fun ⟨⟨rv, tv, gq, gt, a, b, c⟩, d⟩ => ⟨rv, tv, gq, gt, a, b, c, d⟩⟩
/-- a call's work at a stage, behind n steps -/
def isCall (L : Lay) (kb : Nat) (s : SC) (n : Int) (k : WorkS) (g : List Blk) : Prop :=
  ∃ pb m d gst gK, (cliC L kb (ptr' pb)).SV s m d gst ∧ isWk L kb (ptr' pb) k gK ∧ g = Cli.progB pb m d n ++ (gst ++ gK)
theorem preYC : ∀ (s : SC) (z : ZC), St.preY (fun (_ : Empty) (_ : ZC) => True) s z
  | .nil, _ => trivial
  | .at none _, _ => trivial
  | .at (some y) _, _ => y.elim
  | .row1 _, _ => trivial
  | .row2 _ _, _ => trivial
  | .thn s _, z => preYC s z
theorem SVC_may {L : Lay} {kb : Nat} {pv : Value} : ∀ {s : SC} {m d : Value} {g : List Blk}, (cliC L kb pv).SV s m d g → m = .nilFunc
  | .nil, _, _, _, h => h.1
  | .at none _, _, _, _, h => h.1
  | .at (some y) _, _, _, _, _ => y.elim
  | .row1 _, _, _, _, h => h.1
  | .row2 _ _, _, _, _, h => h.1
  | .thn s _, _, _, _, h => by obtain ⟨bs, br, ds, vm, gs, gm, _, _, hv, _⟩ := h; exact SVC_may hv
def preC (s : SC) (z : ZC) : Prop := St.pre runC runA preMC preAC s z
def stepC (s : SC) (z : ZC) : SC × ZC := St.run runC runA s z
structure CallC where
  kind : Int
  id : Int
  dl : Int
  per : Int
def CallC.cells (c : CallC) : Array Value := #[.int .i64 c.kind, .int .u64 c.id, .int .u64 c.dl, .int .u64 c.per]
def newW (th no : Int) (c : CallC) : WorkS := ⟨th, no, c.kind, c.id, c.dl, c.per, 0, false, 0, 0, c.id, 0, 0, 0, none, none⟩
def firstC (kind : Int) : SC := if kind = 1 ∨ kind = 2 then .at none .right else if kind = 3 then .at none .enter else .at none .gate
def ansC (err : Int) (ok : Bool) (id gen : Int) : Array Value := #[.int .i64 err, .bool ok, .int .u64 id, .int .u64 gen, .slice none 0 0]
section
variable {L : Lay} {x : CoreS} {g gF : List Blk} {kb : Nat} {s : SC} {n : Int} {k : WorkS}
set_option maxRecDepth 100000 in
theorem callStep (hc : isCall L kb s n k g) (hx : isCore L x gF) (hp : preC s (k, x)) (hn : s.isNil = false) (hb : 0 ≤ n ∧ n ≤ 1000000000) :
    DoesG Tryz.prog 16 #[ptr' kb] [g, gF] fun e gs => ∃ g' gF', e = .returned (.bool true) ∧ isCall L kb (stepC s (k, x)).1 (n + 1) (stepC s (k, x)).2.1 g' ∧ isCore L (stepC s (k, x)).2.2 gF' ∧ gs = [g', gF'] := by
  obtain ⟨pb, m, d, gst, gK, hs, ⟨rv, tv, gq, gt, hr, ht, rfl⟩, rfl⟩ := hc
  have hm0 := SVC_may hs
  subst hm0
  have hok := cliC_ok L kb (ptr' pb)
  have hm := Cli.may_nil (x := ((k, x) : ZC)) hok hn hs
  have hd := Cli.prog_step (n := n) hok hs (x := ((k, x) : ZC)) (gK := workB kb L.fb (ptr' pb) rv tv k ++ (gq ++ gt)) (gF := gF) ⟨rv, tv, gq, gt, hr, ht, rfl, hx⟩ (preYC s _) hp pb hb hm
  intro w hw
  have T0 := TG.refl hw
  have HT := Lib.hid T0
  clear hw T0
  have T1 := HT.out.sum (H' := [workB kb L.fb (ptr' pb) rv tv k, Cli.progB pb .nilFunc d n, gst, gq, gt, gF]) (fun n ha h0 h1 h2 => by simp only [pickG, List.map_cons, List.map_nil, List.getD_cons_succ, List.getD_cons_zero, List.set_cons_succ, List.set_cons_zero, List.cons_append, List.flatten_append, List.flatten_cons, List.flatten_nil, List.append_nil, List.nil_append, ha, h0, h1, h2] <;> omega)
  have k12 := T1.cell 0 0 rfl 12
  simp only [workC, List.getElem?_toArray, List.getElem?_cons_zero, List.getElem?_cons_succ] at k12
  have HD := Lib.hid hd
  have HT := Lib.hid (HT.out.sum (H' := [Cli.progB pb .nilFunc d n, gst, workB kb L.fb (ptr' pb) rv tv k ++ (gq ++ gt), gF]) (fun n ha h0 h1 h2 => by simp only [pickG, List.map_cons, List.map_nil, List.getD_cons_succ, List.getD_cons_zero, List.set_cons_succ, List.set_cons_zero, List.cons_append, List.flatten_append, List.flatten_cons, List.flatten_nil, List.append_nil, List.nil_append, ha, h0, h1, h2] <;> omega))
  clear hs hr ht hx hp hn hb hok hm hd T1
  go_enter Tryz.func16, Tryz.ntmps16
  go_wp2_with fail
  refine (DoesG.use (HD.out) (HT.out) [0, 1, 2, 3] rfl rfl).mono ?_
  rintro e w1 ⟨gs, ⟨m', d', gst', gK', gF', rfl, hs', hx', rfl⟩, Ta⟩
  simp only [putG, List.set_cons_zero, List.set_cons_succ, List.cons_append, List.nil_append, List.append_nil] at Ta
  have HS := Lib.hid hs'
  have HX := Lib.hid (rep2_iff.1 hx')
  clear hs' hx' k12
  have HT := Lib.hid Ta
  clear Ta
  go_wp2
  go_ret
  exact ⟨_, ⟨_, gF', rfl, ⟨pb, m', d', gst', gK', HS.out, HX.out.1, rfl⟩, HX.out.2, rfl⟩, HT.out.sum (fun n ha h0 h1 h2 => by simp only [pickG, List.map_cons, List.map_nil, List.getD_cons_succ, List.getD_cons_zero, List.set_cons_succ, List.set_cons_zero, List.cons_append, List.flatten_append, List.flatten_cons, List.flatten_nil, List.append_nil, List.nil_append, ha, h0, h1, h2] <;> omega)⟩
set_option maxRecDepth 100000 in
theorem callStep_nil (hc : isCall L kb .nil n k g) (hx : isCore L x gF) :
    DoesG Tryz.prog 16 #[ptr' kb] [g, gF] fun e gs => e = .returned (.bool false) ∧ ∃ g' gF', isCall L kb .nil n k g' ∧ isCore L x gF' ∧ gs = [g', gF'] := by
  obtain ⟨pb, m, d, gst, gK, hs, ⟨rv, tv, gq, gt, hr, ht, rfl⟩, rfl⟩ := hc
  have hok := cliC_ok L kb (ptr' pb)
  have hd := Cli.prog_step_no (n := n) hok hs (x := ((k, x) : ZC)) (gK := workB kb L.fb (ptr' pb) rv tv k ++ (gq ++ gt)) (gF := gF) ⟨rv, tv, gq, gt, hr, ht, rfl, hx⟩ (preYC .nil _) pb rfl
  intro w hw
  have T0 := TG.refl hw
  have HT := Lib.hid T0
  clear hw T0
  have T1 := HT.out.sum (H' := [workB kb L.fb (ptr' pb) rv tv k, Cli.progB pb m d n, gst, gq, gt, gF]) (fun n ha h0 h1 h2 => by simp only [pickG, List.map_cons, List.map_nil, List.getD_cons_succ, List.getD_cons_zero, List.set_cons_succ, List.set_cons_zero, List.cons_append, List.flatten_append, List.flatten_cons, List.flatten_nil, List.append_nil, List.nil_append, ha, h0, h1, h2] <;> omega)
  have k12 := T1.cell 0 0 rfl 12
  simp only [workC, List.getElem?_toArray, List.getElem?_cons_zero, List.getElem?_cons_succ] at k12
  have HD := Lib.hid hd
  have HS := Lib.hid hs
  have HT := Lib.hid (HT.out.sum (H' := [Cli.progB pb m d n, gst, workB kb L.fb (ptr' pb) rv tv k ++ (gq ++ gt), gF]) (fun n ha h0 h1 h2 => by simp only [pickG, List.map_cons, List.map_nil, List.getD_cons_succ, List.getD_cons_zero, List.set_cons_succ, List.set_cons_zero, List.cons_append, List.flatten_append, List.flatten_cons, List.flatten_nil, List.append_nil, List.nil_append, ha, h0, h1, h2] <;> omega))
  clear hs hr ht hx hok hd T1
  go_enter Tryz.func16, Tryz.ntmps16
  go_wp2_with fail
  refine (DoesG.use (HD.out) (HT.out) [0, 1, 2, 3] rfl rfl).mono ?_
  rintro e w1 ⟨gs, ⟨gK', gF', rfl, hx', rfl⟩, Ta⟩
  simp only [putG, List.set_cons_zero, List.set_cons_succ, List.cons_append, List.nil_append, List.append_nil] at Ta
  have HX := Lib.hid (rep2_iff.1 hx')
  clear hx' k12
  have HT := Lib.hid Ta
  clear Ta
  go_wp2
  go_ret
  exact ⟨_, ⟨rfl, _, gF', ⟨pb, m, d, gst, gK', HS.out, HX.out.1, rfl⟩, HX.out.2, rfl⟩, HT.out.sum (fun n ha h0 h1 h2 => by simp only [pickG, List.map_cons, List.map_nil, List.getD_cons_succ, List.getD_cons_zero, List.set_cons_succ, List.set_cons_zero, List.cons_append, List.flatten_append, List.flatten_cons, List.flatten_nil, List.append_nil, List.nil_append, ha, h0, h1, h2] <;> omega)⟩
set_option maxRecDepth 100000 in
theorem callDone (hc : isCall L kb s n k g) : ReadsG Tryz.prog 17 #[ptr' kb] [g] (.bool s.isNil) := by
  obtain ⟨pb, m, d, gst, gK, hs, ⟨rv, tv, gq, gt, hr, ht, rfl⟩, rfl⟩ := hc
  have hd := Cli.prog_done (cliC_ok L kb (ptr' pb)) hs pb n
  intro w hw
  have T0 := TG.refl hw
  have HT := Lib.hid T0
  clear hw T0
  have T1 := HT.out.sum (H' := [workB kb L.fb (ptr' pb) rv tv k, Cli.progB pb m d n, gst, gq, gt]) (fun n ha h0 h1 h2 => by simp only [pickG, List.map_cons, List.map_nil, List.getD_cons_succ, List.getD_cons_zero, List.set_cons_succ, List.set_cons_zero, List.cons_append, List.flatten_append, List.flatten_cons, List.flatten_nil, List.append_nil, List.nil_append, ha, h0, h1, h2] <;> omega)
  have k12 := T1.cell 0 0 rfl 12
  simp only [workC, List.getElem?_toArray, List.getElem?_cons_zero, List.getElem?_cons_succ] at k12
  have HD := Lib.hid hd
  have HT := Lib.hid T1
  clear hs hr ht hd T1
  go_enter Tryz.func17, Tryz.ntmps17
  go_wp2_with fail
  refine (ReadsG.use (HD.out) (HT.out) [1] rfl rfl).mono ?_
  rintro e w1 ⟨rfl, mq, rfl⟩
  go_wp2
  go_ret
  exact ⟨rfl, _, rfl⟩
set_option maxRecDepth 100000 in
theorem callMay (hc : isCall L kb s n k g) (hx : isCore L x gF) :
    DoesG Tryz.prog 15 #[ptr' kb] [g, gF] fun e gs => e = .returned (.bool (!s.isNil)) ∧ ∃ g' gF', isCall L kb s n k g' ∧ isCore L x gF' ∧ gs = [g', gF'] := by
  obtain ⟨pb, m, d, gst, gK, hs, ⟨rv, tv, gq, gt, hr, ht, rfl⟩, rfl⟩ := hc
  have hm0 := SVC_may hs
  subst hm0
  have hok := cliC_ok L kb (ptr' pb)
  have hm : St.may (M := (cliC L kb (ptr' pb)).M) (A := (cliC L kb (ptr' pb)).A) (Y := (cliC L kb (ptr' pb)).Y) (α := (cliC L kb (ptr' pb)).α) (cliC L kb (ptr' pb)).mayY s ((k, x) : ZC) = !s.isNil := by
    cases hn : s.isNil
    · exact Cli.may_nil (x := ((k, x) : ZC)) hok hn hs
    · cases s <;> first | rfl | cases hn
  have hd := Cli.prog_may (n := n) hok hs (x := ((k, x) : ZC)) (gK := workB kb L.fb (ptr' pb) rv tv k ++ (gq ++ gt)) (gF := gF) ⟨rv, tv, gq, gt, hr, ht, rfl, hx⟩ (preYC s _) pb
  rw [hm] at hd
  intro w hw
  have T0 := TG.refl hw
  have HT := Lib.hid T0
  clear hw T0
  have T1 := HT.out.sum (H' := [workB kb L.fb (ptr' pb) rv tv k, Cli.progB pb .nilFunc d n, gst, gq, gt, gF]) (fun n ha h0 h1 h2 => by simp only [pickG, List.map_cons, List.map_nil, List.getD_cons_succ, List.getD_cons_zero, List.set_cons_succ, List.set_cons_zero, List.cons_append, List.flatten_append, List.flatten_cons, List.flatten_nil, List.append_nil, List.nil_append, ha, h0, h1, h2] <;> omega)
  have k12 := T1.cell 0 0 rfl 12
  simp only [workC, List.getElem?_toArray, List.getElem?_cons_zero, List.getElem?_cons_succ] at k12
  have HD := Lib.hid hd
  have HS := Lib.hid hs
  have HT := Lib.hid (HT.out.sum (H' := [Cli.progB pb .nilFunc d n, gst, workB kb L.fb (ptr' pb) rv tv k ++ (gq ++ gt), gF]) (fun n ha h0 h1 h2 => by simp only [pickG, List.map_cons, List.map_nil, List.getD_cons_succ, List.getD_cons_zero, List.set_cons_succ, List.set_cons_zero, List.cons_append, List.flatten_append, List.flatten_cons, List.flatten_nil, List.append_nil, List.nil_append, ha, h0, h1, h2] <;> omega))
  clear hs hr ht hx hok hd T1 hm
  go_enter Tryz.func15, Tryz.ntmps15
  go_wp2_with fail
  refine (DoesG.use (HD.out) (HT.out) [0, 1, 2, 3] rfl rfl).mono ?_
  rintro e w1 ⟨gs, ⟨gK', gF', rfl, hx', rfl⟩, Ta⟩
  simp only [putG, List.set_cons_zero, List.set_cons_succ, List.cons_append, List.nil_append, List.append_nil] at Ta
  have HX := Lib.hid (rep2_iff.1 hx')
  clear hx' k12
  have HT := Lib.hid Ta
  clear Ta
  go_wp2
  go_ret
  exact ⟨_, ⟨rfl, _, gF', ⟨pb, .nilFunc, d, gst, gK', HS.out, HX.out.1, rfl⟩, HX.out.2, rfl⟩, HT.out.sum (fun n ha h0 h1 h2 => by simp only [pickG, List.map_cons, List.map_nil, List.getD_cons_succ, List.getD_cons_zero, List.set_cons_succ, List.set_cons_zero, List.cons_append, List.flatten_append, List.flatten_cons, List.flatten_nil, List.append_nil, List.nil_append, ha, h0, h1, h2] <;> omega)⟩
set_option maxRecDepth 100000 in
theorem callAnswer (hc : isCall L kb s n k g) (hn : s.isNil = true) : DoesG Tryz.prog 13 #[ptr' kb] [g] fun e gs =>
    e = .returned (.tuple #[.agg (ansC k.err k.ok k.aid k.agen), .int .i64 0]) ∧ gs = [g] := by
  have hd := callDone hc
  rw [hn] at hd
  obtain ⟨pb, m, d, gst, gK, hs, ⟨rv, tv, gq, gt, hr, ht, rfl⟩, rfl⟩ := hc
  intro w hw
  have T0 := TG.refl hw
  have HT := Lib.hid T0
  clear hw T0
  have HT := Lib.hid (HT.out.sum (H' := [Cli.progB pb m d n ++ (gst ++ (workB kb L.fb (ptr' pb) rv tv k ++ (gq ++ gt)))]) (fun n ha h0 h1 h2 => by simp only [pickG, List.map_cons, List.map_nil, List.getD_cons_succ, List.getD_cons_zero, List.set_cons_succ, List.set_cons_zero, List.cons_append, List.flatten_append, List.flatten_cons, List.flatten_nil, List.append_nil, List.nil_append, ha, h0, h1, h2] <;> omega))
  have HD := Lib.hid hd
  have lt := (HT.out.sum (H' := [workB kb L.fb (ptr' pb) rv tv k, Cli.progB pb m d n, gst, gq, gt]) (fun n ha h0 h1 h2 => by simp only [pickG, List.map_cons, List.map_nil, List.getD_cons_succ, List.getD_cons_zero, List.set_cons_succ, List.set_cons_zero, List.cons_append, List.flatten_append, List.flatten_cons, List.flatten_nil, List.append_nil, List.nil_append, ha, h0, h1, h2] <;> omega)).lt 0 0 rfl
  have HT := Lib.hid (HT.out.alloc (k := w.heap.size) rfl 30 #[.int .i64 0, .bool false, .int .u64 0, .int .u64 0, .slice none 0 0])
  simp only [] at lt
  clear hs hr ht hd hn
  go_enter Tryz.func13, Tryz.ntmps13
  go_wp2_with fail
  refine (ReadsG.use (HD.out) (HT.out) [0] rfl rfl).mono ?_
  rintro e w1 ⟨rfl, mq, rfl⟩
  have HT := Lib.hid (HT.out.drewN mq)
  have HT := Lib.hid (HT.out.sum (H' := [workB kb L.fb (ptr' pb) rv tv k, Cli.progB pb m d n, gst, gq, gt, [cl w.heap.size 30 #[.int .i64 0, .bool false, .int .u64 0, .int .u64 0, .slice none 0 0]]]) (fun n ha h0 h1 h2 => by simp only [pickG, List.map_cons, List.map_nil, List.getD_cons_succ, List.getD_cons_zero, List.set_cons_succ, List.set_cons_zero, List.cons_append, List.flatten_append, List.flatten_cons, List.flatten_nil, List.append_nil, List.nil_append, ha, h0, h1, h2] <;> omega))
  generalize World.drewN _ _ = wq at HT ⊢
  have k7 := HT.out.cell 0 0 rfl 7
  have k8 := HT.out.cell 0 0 rfl 8
  have k9 := HT.out.cell 0 0 rfl 9
  have k10 := HT.out.cell 0 0 rfl 10
  have k11 := HT.out.cell 0 0 rfl 11
  simp only [workC, List.getElem?_toArray, List.getElem?_cons_zero, List.getElem?_cons_succ] at k7 k8 k9 k10 k11
  have e0 := HT.out.cell 5 0 rfl 0
  have fe0 := HT.out.free 5 0 rfl 0
  have e1 := HT.out.cell 5 0 rfl 1
  have fe1 := HT.out.free 5 0 rfl 1
  have e2 := HT.out.cell 5 0 rfl 2
  have fe2 := HT.out.free 5 0 rfl 2
  have e3 := HT.out.cell 5 0 rfl 3
  have fe3 := HT.out.free 5 0 rfl 3
  have e4 := HT.out.cell 5 0 rfl 4
  have fe4 := HT.out.free 5 0 rfl 4
  simp only [List.getElem?_nil, List.getElem?_toArray, List.getElem?_cons_zero, List.getElem?_cons_succ] at e0 e1 e2 e3 e4
  go_wp2
  exact bodyPost_ret (v := .tuple #[.agg (ansC k.err k.ok k.aid k.agen), .int .i64 0]) (by simp [results, Tryz.results13, go_sem, e0, e1, e2, e3, e4, ansC]) rfl ⟨_, ⟨rfl, rfl⟩, (((((((HT.out.set 5 0 rfl 0 _).set 5 0 rfl 1 _).set 5 0 rfl 2 _).set 5 0 rfl 3 _).set 5 0 rfl 4 _).pick [0, 1, 2, 3, 4] rfl).sum (fun n ha h0 h1 h2 => by simp only [pickG, List.map_cons, List.map_nil, List.getD_cons_succ, List.getD_cons_zero, List.set_cons_succ, List.set_cons_zero, List.cons_append, List.flatten_append, List.flatten_cons, List.flatten_nil, List.append_nil, List.nil_append, ha, h0, h1, h2] <;> omega))⟩
set_option maxRecDepth 100000 in
theorem callBusy (hc : isCall L kb s n k g) (hn : s.isNil = false) : DoesG Tryz.prog 13 #[ptr' kb] [g] fun e gs =>
    e = .returned (.tuple #[.agg (ansC 0 false 0 0), .int .i64 10]) ∧ gs = [g] := by
  have hd := callDone hc
  rw [hn] at hd
  obtain ⟨pb, m, d, gst, gK, hs, ⟨rv, tv, gq, gt, hr, ht, rfl⟩, rfl⟩ := hc
  intro w hw
  have T0 := TG.refl hw
  have HT := Lib.hid T0
  clear hw T0
  have HT := Lib.hid (HT.out.sum (H' := [Cli.progB pb m d n ++ (gst ++ (workB kb L.fb (ptr' pb) rv tv k ++ (gq ++ gt)))]) (fun n ha h0 h1 h2 => by simp only [pickG, List.map_cons, List.map_nil, List.getD_cons_succ, List.getD_cons_zero, List.set_cons_succ, List.set_cons_zero, List.cons_append, List.flatten_append, List.flatten_cons, List.flatten_nil, List.append_nil, List.nil_append, ha, h0, h1, h2] <;> omega))
  have HD := Lib.hid hd
  have lt := (HT.out.sum (H' := [workB kb L.fb (ptr' pb) rv tv k, Cli.progB pb m d n, gst, gq, gt]) (fun n ha h0 h1 h2 => by simp only [pickG, List.map_cons, List.map_nil, List.getD_cons_succ, List.getD_cons_zero, List.set_cons_succ, List.set_cons_zero, List.cons_append, List.flatten_append, List.flatten_cons, List.flatten_nil, List.append_nil, List.nil_append, ha, h0, h1, h2] <;> omega)).lt 0 0 rfl
  have HT := Lib.hid (HT.out.alloc (k := w.heap.size) rfl 30 #[.int .i64 0, .bool false, .int .u64 0, .int .u64 0, .slice none 0 0])
  simp only [] at lt
  clear hs hr ht hd hn
  go_enter Tryz.func13, Tryz.ntmps13
  go_wp2_with fail
  refine (ReadsG.use (HD.out) (HT.out) [0] rfl rfl).mono ?_
  rintro e w1 ⟨rfl, mq, rfl⟩
  have HT := Lib.hid (HT.out.drewN mq)
  have HT := Lib.hid (HT.out.sum (H' := [workB kb L.fb (ptr' pb) rv tv k, Cli.progB pb m d n, gst, gq, gt, [cl w.heap.size 30 #[.int .i64 0, .bool false, .int .u64 0, .int .u64 0, .slice none 0 0]]]) (fun n ha h0 h1 h2 => by simp only [pickG, List.map_cons, List.map_nil, List.getD_cons_succ, List.getD_cons_zero, List.set_cons_succ, List.set_cons_zero, List.cons_append, List.flatten_append, List.flatten_cons, List.flatten_nil, List.append_nil, List.nil_append, ha, h0, h1, h2] <;> omega))
  generalize World.drewN _ _ = wq at HT ⊢
  have k7 := HT.out.cell 0 0 rfl 7
  have k8 := HT.out.cell 0 0 rfl 8
  have k9 := HT.out.cell 0 0 rfl 9
  have k10 := HT.out.cell 0 0 rfl 10
  have k11 := HT.out.cell 0 0 rfl 11
  simp only [workC, List.getElem?_toArray, List.getElem?_cons_zero, List.getElem?_cons_succ] at k7 k8 k9 k10 k11
  have e0 := HT.out.cell 5 0 rfl 0
  have fe0 := HT.out.free 5 0 rfl 0
  have e1 := HT.out.cell 5 0 rfl 1
  have fe1 := HT.out.free 5 0 rfl 1
  have e2 := HT.out.cell 5 0 rfl 2
  have fe2 := HT.out.free 5 0 rfl 2
  have e3 := HT.out.cell 5 0 rfl 3
  have fe3 := HT.out.free 5 0 rfl 3
  have e4 := HT.out.cell 5 0 rfl 4
  have fe4 := HT.out.free 5 0 rfl 4
  simp only [List.getElem?_nil, List.getElem?_toArray, List.getElem?_cons_zero, List.getElem?_cons_succ] at e0 e1 e2 e3 e4
  go_wp2
  exact bodyPost_ret (v := .tuple #[.agg (ansC 0 false 0 0), .int .i64 10]) (by simp [results, Tryz.results13, go_sem, e0, e1, e2, e3, e4, ansC]) rfl ⟨_, ⟨rfl, rfl⟩, (((((((HT.out.set 5 0 rfl 0 _).set 5 0 rfl 1 _).set 5 0 rfl 2 _).set 5 0 rfl 3 _).set 5 0 rfl 4 _).pick [0, 1, 2, 3, 4] rfl).sum (fun n ha h0 h1 h2 => by simp only [pickG, List.map_cons, List.map_nil, List.getD_cons_succ, List.getD_cons_zero, List.set_cons_succ, List.set_cons_zero, List.cons_append, List.flatten_append, List.flatten_cons, List.flatten_nil, List.append_nil, List.nil_append, ha, h0, h1, h2] <;> omega))⟩
end
end Go.Proofs.YthbjaoinklhikaaGreat
