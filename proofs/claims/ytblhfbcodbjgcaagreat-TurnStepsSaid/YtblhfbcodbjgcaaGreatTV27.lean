import Derived.Test.YtblhfbcodbjgcaaGreatTV26
import Derived.Test.YtblhfbcodbjgcaaGreatTV15
import Derived.Test.YtblhfbcodbjgcaaGreatTV23
namespace Go.Proofs.YtblhfbcodbjgcaaGreat
set_option linter.unusedVariables false
set_option linter.unusedSimpArgs false
open Go.RowKit Go.Shelf
attribute [local go_sem] Oper.semAt_some
theorem HasG.right {H K : GH} {w : World} (h : HasG (H ++ K) w) : HasG K w := by
  have hh : Has (ex H.flatten ++ ex K.flatten) w := by
    have : Has (ex (H ++ K).flatten) w := h
    rwa [List.flatten_append, ex_append] at this
  exact hh.right
def taskV (a : EntA) : Array Value := a.e.v.cells
set_option maxRecDepth 100000 in
set_option maxHeartbeats 4000000 in
theorem tasks_iter (tb : Nat) (l : List EntA) (v home : Value) (gr ge : List Blk) (hr : rowG 271 1 v l.length (l.map fun a => ptr' a.eb) gr) (he : FamP (entP home) l ge) (hn : l.length ≤ 1000000) :
    IterY Tryz.prog 309 #[ptr' tb] (itList (l.map taskV) [[cl tb 351 #[v]], gr, ge]) (0 : Nat) := by
  intro ly J Jx hT hY H0 O0 W hJ0 hO hH
  have hO' : O0 = [[cl tb 351 #[v]], gr, ge] := hO
  subst hO'
  have T0 := TG.refl hH
  have c0 := (TG.refl hH.right).cell 0 0 rfl 0
  simp only [List.getElem?_toArray, List.getElem?_cons_zero] at c0
  obtain ⟨av, cap, hv⟩ := rowG.val hr
  subst hv
  have HR := Lib.hid hr
  have HE := Lib.hid he
  have HH := Lib.hid (And.intro hJ0 T0)
  have HY := Lib.hid hY
  clear hr he hO hH hY hT hJ0 T0
  refine (callsIn_wide (n := 9)).1 (callsIn_of_wp Tryz.func309 rfl trivial ?_ rfl)
  simp only [Tryz.ntmps309, List.size_toArray, List.length_cons, List.length_nil, Nat.reduceAdd, Nat.reduceSub, Array.replicate_succ, Array.replicate_zero, List.push_toArray, List.append_toArray, List.nil_append, List.cons_append]
  gi_wp2
  gi_loopw [4, 7] (fun _ i wr => ∃ (k : Nat) (H : GH), k ≤ l.length ∧ i = .int .i64 k ∧ J k H ∧ TG (H0 ++ [[cl tb 351 #[.slice av l.length cap]], gr, ge]) W (H ++ [[cl tb 351 #[.slice av l.length cap]], gr, ge]) wr) (fun _ i _ => l.length + 1 - (intOf i).toNat)
  case atStart => exact ⟨0, H0, by omega, rfl, HH.out.1, HH.out.2⟩
  case round =>
    obtain ⟨k, H, hk, rfl, hj, T⟩ := hrel
    clear HH c0
    by_cases hlt : k < l.length
    · obtain ⟨a, ha⟩ : ∃ a, l[k]? = some a := ⟨_, List.getElem?_eq_getElem hlt⟩
      have hla : (l.map taskV).length = l.length := List.length_map _
      have hat : (l.map taskV)[k]? = some (taskV a) := by rw [List.getElem?_map, ha]; rfl
      have hy0 := HY.out k #[.agg (taskV a)] [] (k + 1) H wr hj ⟨⟨_, hat, rfl⟩, rfl, rfl⟩ (by rw [List.append_nil]; exact T.has.left)
      obtain ⟨fn, tmps, assign, body, hy, hR⟩ := yield_any (n := 8) hy0
      clear hy0
      have TO := TG.refl T.has.right
      obtain ⟨u, y, ⟨hdue, elv, esl, eno, rfl⟩, hp, _⟩ := HE.out.out ha
      have TE := ((TO.permAt 2 rfl hp).sum (H' := [[cl tb 351 #[.slice av l.length cap]], gr, entB a.eb home a.e elv esl (.pointer eno), y]) (fun n ha h0 h1 h2 => by simp only [SU, ha, h0, h1, h2] <;> omega))
      obtain ⟨rb, cap', cur, hv, rfl, _, _, _, hcur⟩ := HR.out.open (by omega)
      cases hv
      have hcj := hcur k (by omega)
      rw [List.getElem?_map, ha] at hcj
      have r0 := (TE.cell 1 0 rfl k).trans hcj
      have e1 := TE.cell 2 0 rfl 1
      have e2 := TE.cell 2 0 rfl 2
      have e3 := TE.cell 2 0 rfl 3
      have e4 := TE.cell 2 0 rfl 4
      have e5 := TE.cell 2 0 rfl 5
      simp only [entC, List.getElem?_toArray, List.getElem?_cons_zero, List.getElem?_cons_succ, Option.map_some] at r0 e1 e2 e3 e4 e5
      simp only [taskV, TaskS.cells] at hy
      have HTT := Lib.hid T
      have HRR := Lib.hid hR
      clear hR T TO TE hcur hcj hj hp hat hla hdue
      gi_wp2
      refine HRR.out.mono ?_
      rintro e W' ⟨H', hT', hj'⟩
      have T2 := HTT.out.trans ((hT'.app (a' := H) (by simp)).frame HTT.out.has)
      have HT2 := Lib.hid T2
      have HJ := Lib.hid hj'
      clear hT' hj' T2 hy r0 e1 e2 e3 e4 e5
      rcases HJ.out with ⟨rfl, hj'⟩ | ⟨rfl, hj'⟩
      · have HJ2 := Lib.hid hj'
        clear hj' HJ
        gi_wp2
        go_roundw
        case rel => exact ⟨k + 1, H', by omega, by go_num, HJ2.out, HT2.out⟩
        case measure => simp [intOf]; omega
      · have HJ2 := Lib.hid hj'
        clear hj' HJ
        gi_wp2
        refine bodyPost_ret (results_none rfl _ _ _) rfl ?_
        exact ⟨⟨_, rfl⟩, k + 1, H', _, HT2.out, .inr HJ2.out⟩
    · have : k = l.length := by omega
      subst this
      gi_wp2
      go_end0
      exact ⟨⟨_, rfl⟩, l.length, H, _, T, .inl ⟨(List.length_map _).symm, hj, rfl⟩⟩
end Go.Proofs.YtblhfbcodbjgcaaGreat

namespace Go.Proofs.YtblhfbcodbjgcaaGreat
set_option linter.unusedVariables false
set_option linter.unusedSimpArgs false
open Go.RowKit Go.Shelf
def isWheel (wb : Nat) (S : WheelS) (g : List Blk) : Prop := ∃ w : WheelA, w.s = S ∧ isWheelA wb w (totW w) g
structure WheelOk (S : WheelS) : Prop where
  sh : S.Sh
  now : S.now < 16000000
  tot : totS S ≤ 999999
theorem adv_facts {S : WheelS} (h : S.Sh) : S.adv.1.Sh ∧ S.adv.1.now = S.now + 1 ∧ totS S.adv.1 + S.adv.2.length = totS S := by
  have h0 : ({ S with now := S.now + 1 } : WheelS).Sh := ⟨h.l4, h.l64⟩
  have h1 := WheelS.down_sh (min (zerosT (S.now + 1)) 3) h0
  have h2 := WheelS.down_now (min (zerosT (S.now + 1)) 3) { S with now := S.now + 1 }
  refine ⟨WheelS.clear_sh h1 _ _, h2, ?_⟩
  have h3 := totS_clear h1 (l := 0) (by decide) (dig_lt (WheelS.down (min (zerosT (S.now + 1)) 3) { S with now := S.now + 1 }).now 0)
  have h4 := totS_down (min (zerosT (S.now + 1)) 3) h0 (by omega)
  show totS (WheelS.clear _ _ _) + (WheelS.slot _ _ _).length = _
  rw [h3, h4]; rfl
section
variable {wb : Nat} {S : WheelS} {g : List Blk}
theorem wheelNow_r (hg : isWheel wb S g) : ReadsG Tryz.prog 106 #[ptr' wb] [g] (.int .u64 S.now) := by
  obtain ⟨W0, rfl, hg⟩ := hg
  obtain ⟨C, vs, bb, gR, hC, hvl, rfl, hback⟩ := hg.open
  intro w hw
  have T0 := TG.refl hw
  have HT := Lib.hid T0
  clear hw T0
  have c0 := ((HT.out.sum (H' := [[cl wb 244 C], gR]) (fun n ha h0 h1 h2 => by simp only [SU, ha, h0, h1, h2] <;> omega)).cell 0 0 rfl 0).trans hC.now
  have hs : W0.s.now = W0.now := rfl
  rw [hs]
  clear hC hback hg hvl
  go_enter Tryz.func106, Tryz.ntmps106
  go_wp2
  go_ret
  exact ⟨rfl, 0, rfl⟩
def armD (S : WheelS) (t : TaskS) : Nat := max t.dl.toNat (S.now + 1)
def armE (S : WheelS) (t : TaskS) : EntS := ⟨armD S t, { t with dl := armD S t }, armD S t⟩
set_option maxRecDepth 100000 in
set_option maxHeartbeats 4000000 in
theorem shardArm_g (b rb lb : Nat) (hg : isWheel wb S g) (ho : WheelOk S) (t : TaskS) (hs : 0 ≤ t.slot) (hd : 0 ≤ t.dl ∧ t.dl < 18446744073709551616) :
    DoesG Tryz.prog 312 #[ptr' b, .agg t.cells] [shardB b rb lb wb, g] fun e gs => e = .returned (.tuple #[.int .u64 (armD S t), .int .i64 0]) ∧ ∃ g', isWheel wb (S.place (armE S t)) g' ∧ gs = [shardB b rb lb wb, g'] := by
  have HNW := Lib.hid (wheelNow_r hg)
  have hl := timesLater_g t.dl S.now (by omega) (by have := ho.now; omega) hd.1 hd.2
  have hmax : max t.dl ((S.now : Int) + 1) = (armD S t : Int) := by
    unfold armD; have := hd.1; omega
  rw [hmax] at hl
  have HLT := Lib.hid hl
  have hlt : S.now < armD S t := by unfold armD; omega
  have hdn : armD S t < 18446744073709551616 := by unfold armD; have := hd.2; have := ho.now; omega
  have hI : DoesG Tryz.prog 328 #[ptr' wb, .int .u64 (armD S t), .agg ({ t with dl := armD S t } : TaskS).cells] [g] fun e gs => ∃ eb, e = .returned (.tuple #[ptr' eb, .int .i64 0]) ∧ ∃ g', isWheel wb (S.place (armE S t)) g' ∧ gs = [g'] := by
    obtain ⟨W0, rfl, hg⟩ := hg
    refine (insert_g hg ho.sh ⟨by have := ho.now; have e : W0.s.now = W0.now := rfl; omega, by rw [totW_s]; exact ho.tot⟩ (armD W0.s t) hdn hlt { t with dl := armD W0.s t }).mono ?_
    rintro e gs ⟨eb, he, w', g', h1, h2, rfl⟩
    exact ⟨eb, he, g', ⟨w', h2, h1⟩, rfl⟩
  have HI := Lib.hid hI
  generalize S.place (armE S t) = S1 at *
  generalize armD S t = d at *
  clear hl hmax hlt hdn hI ho hg
  have hsn : ¬ t.slot < 0 := by omega
  intro w hw
  have T0 := TG.refl hw
  have HT := Lib.hid T0
  clear hw T0
  have hf := fun w => (inner_field (ptr' rb) (ptr' lb) (ptr' wb) w).2.2
  simp only [TaskS.cells] at HI ⊢
  go_enter Tryz.func312, Tryz.ntmps312
  go_wp2_with fail
  refine (DoesG.use (shardParts_g b rb lb wb) (HT.out.alloc (k := w.heap.size) rfl 40 #[.int .u64 t.id, .int .i64 t.slot, .int .u64 t.gen, .int .u64 t.dl, .int .u64 t.per]) [0] rfl rfl).mono ?_
  rintro e w1 ⟨gs, ⟨rfl, rfl⟩, Ta⟩
  simp only [PU] at Ta
  have HT := Lib.hid Ta
  clear Ta
  have a0 := HT.out.cell 2 0 rfl 0
  have a1 := HT.out.cell 2 0 rfl 1
  have a2 := HT.out.cell 2 0 rfl 2
  have a3 := HT.out.cell 2 0 rfl 3
  have fa3 := HT.out.free 2 0 rfl 3
  have a4 := HT.out.cell 2 0 rfl 4
  simp only [List.getElem?_nil, List.getElem?_toArray, List.getElem?_cons_zero, List.getElem?_cons_succ] at a0 a1 a2 a3 a4
  go_wp2_with fail
  refine wp_region_mix1 4 (by kernel_rfl) (by kernel_rfl) ?_
  simp only [List.take_succ_cons, List.take_zero, List.drop_succ_cons, List.drop_zero]
  repeat (go_big_quiet_step ((first | (go_at_call 106; with_reducible exact ReadsG.quiet (HNW.out) HT.out _ [1] rfl rfl))))
  refine wpQuiet_nil ?_
  intro _ hw'
  obtain ⟨nq, hw''⟩ := hw'
  subst hw''
  have HT := Lib.hid (HT.out.drewN nq)
  go_wp2_with fail
  refine (DoesG.use (HLT.out) (HT.out) [] rfl rfl).mono ?_
  rintro e w1 ⟨gs, ⟨rfl, rfl⟩, Ta⟩
  simp only [PU] at Ta
  clear a0 a1 a2 a3 a4 fa3
  have HT := Lib.hid Ta
  clear Ta
  go_wp2_with fail
  refine ⟨rfl, ?_⟩
  have a0 := HT.out.cell 2 0 rfl 0
  have a1 := HT.out.cell 2 0 rfl 1
  have a2 := HT.out.cell 2 0 rfl 2
  have a3 := HT.out.cell 2 0 rfl 3
  have fa3 := HT.out.free 2 0 rfl 3
  have a4 := HT.out.cell 2 0 rfl 4
  simp only [List.getElem?_nil, List.getElem?_toArray, List.getElem?_cons_zero, List.getElem?_cons_succ] at a0 a1 a2 a3 a4
  go_wp2_with fail
  refine (DoesG.use (HI.out) (HT.out.set 2 0 rfl 3 (.int .u64 d)) [1] rfl rfl).mono ?_
  rintro e w1 ⟨gs, ⟨eb, rfl, g1, hg1, rfl⟩, Ta⟩
  simp only [PU] at Ta
  have HG := Lib.hid hg1
  clear hg1 a0 a1 a2 a3 a4 fa3
  have HT := Lib.hid Ta
  clear Ta
  go_wp2
  go_ret2
  exact ⟨_, ⟨rfl, g1, HG.out, rfl⟩, HT.out.pick [0, 1] rfl⟩
theorem tasks_g (v : Value) (hv : ∃ a n c, v = .slice a n c) : DoesG Tryz.prog 286 #[v] [] fun e gs => ∃ tb, e = .returned (.func (.func 309) #[] #[ptr' tb]) ∧ gs = [[cl tb 351 #[v]]] := by
  obtain ⟨a, n, c, rfl⟩ := hv
  intro w hw
  have T0 := TG.refl hw
  have HT := Lib.hid T0
  clear hw T0
  go_enter Tryz.func286, Tryz.ntmps286
  go_wp2
  go_ret
  exact ⟨_, ⟨_, rfl, rfl⟩, HT.out.alloc rfl _ _⟩
def tasksV (l : List TaskS) : List Value := flatV (l.map TaskS.cells)
set_option maxRecDepth 100000 in
set_option maxHeartbeats 4000000 in
theorem shardTurn_g (b rb lb : Nat) (hg : isWheel wb S g) (ho : WheelOk S) :
    DoesG Tryz.prog 262 #[ptr' b] [shardB b rb lb wb, g] fun e gs => ∃ v g' gr, e = .returned (.tuple #[v, .int .i64 0]) ∧ isWheel wb S.adv.1 g' ∧ rowG 40 5 v S.adv.2.length (tasksV (S.adv.2.map EntS.v)) gr ∧ gs = [shardB b rb lb wb, g', gr] := by
  have hfa := adv_facts ho.sh
  have hA : DoesG Tryz.prog 284 #[ptr' wb] [g] fun e gs => ∃ (v : Value) (l : List EntA) (gr ge : List Blk) (g' : List Blk), e = .returned (.tuple #[v, .int .i64 0]) ∧ l.map EntA.e = S.adv.2 ∧ rowG 271 1 v l.length (l.map fun a => ptr' a.eb) gr ∧ FamP (entP (.pointer none)) l ge ∧ isWheel wb S.adv.1 g' ∧ gs = [g', gr, ge] := by
    obtain ⟨W0, rfl, hg⟩ := hg
    refine (advance_g hg ho.sh ho.now (by rw [totW_s]; exact ho.tot)).mono ?_
    rintro e gs ⟨v, l, gr, ge, w', g', h1, h2, h3, h4, h5, h6, rfl⟩
    exact ⟨v, l, gr, ge, g', h1, h2, h3, h4, ⟨w', h6, h5⟩, rfl⟩
  have HA := Lib.hid hA
  have hlen : S.adv.2.length ≤ 1000000 := by have := ho.tot; omega
  have HLE := Lib.hid hlen
  generalize S.adv = R at *
  obtain ⟨S1, es⟩ := R
  simp only at HA HLE ⊢
  clear hfa hA hlen ho hg
  intro w hw
  have T0 := TG.refl hw
  have HT := Lib.hid T0
  clear hw T0
  have hf := fun w => (inner_field (ptr' rb) (ptr' lb) (ptr' wb) w).2.2
  go_enter Tryz.func262, Tryz.ntmps262
  go_wp2_with fail
  refine (DoesG.use (shardParts_g b rb lb wb) (HT.out) [0] rfl rfl).mono ?_
  rintro e w1 ⟨gs, ⟨rfl, rfl⟩, Ta⟩
  simp only [PU] at Ta
  have HT := Lib.hid Ta
  clear Ta
  go_wp2_with fail
  refine (DoesG.use (HA.out) (HT.out) [1] rfl rfl).mono ?_
  rintro e w1 ⟨gs, ⟨v, l, gr, ge, g1, rfl, hl, hr, he, hg1, rfl⟩, Ta⟩
  simp only [PU] at Ta
  have HG := Lib.hid hg1
  have HR := Lib.hid hr
  have HE := Lib.hid he
  clear hg1 hr he
  have HT := Lib.hid Ta
  clear Ta
  have hll : l.length = es.length := by rw [← hl, List.length_map]
  have hn : l.length ≤ 1000000 := by rw [hll]; exact HLE.out
  have htv : l.map taskV = (es.map EntS.v).map TaskS.cells := by rw [← hl]; simp [List.map_map, Function.comp_def, taskV]
  obtain ⟨av, cap, hv⟩ := rowG.val HR.out
  subst hv
  have HC := Lib.hid (show ∀ tb, _ from fun tb => collectT_g (enters_of Tryz.func309 (by kernel_rfl) rfl) (tasks_iter tb l (.slice av l.length cap) (.pointer none) gr ge HR.out HE.out hn) (fun c hc => by
    obtain ⟨a, _, rfl⟩ := List.mem_map.1 hc
    exact ⟨_, _, _, _, _, rfl⟩) (by rw [List.length_map]; exact hn))
  have HTV := Lib.hid (And.intro hll htv)
  clear hll htv hn
  go_wp2_with fail
  refine (DoesG.use (tasks_g _ ⟨_, _, _, rfl⟩) (HT.out) [] rfl rfl).mono ?_
  rintro e w1 ⟨gs, ⟨tb, rfl, rfl⟩, Ta⟩
  simp only [PU] at Ta
  have HT := Lib.hid Ta
  clear Ta
  go_wp2_with fail
  refine (DoesG.use (HC.out tb) (HT.out) [4, 2, 3] rfl rfl).mono ?_
  rintro e w1 ⟨gs, ⟨v2, g2, rfl, hr2, rfl⟩, Ta⟩
  simp only [PU] at Ta
  have HR2 := Lib.hid hr2
  clear hr2
  have HT := Lib.hid Ta
  clear Ta
  have hrf : rowG 40 5 v2 es.length (tasksV (es.map EntS.v)) g2 := by
    have := HR2.out
    rw [List.length_map, HTV.out.1, HTV.out.2] at this
    exact this
  obtain ⟨a2, cap2, hv⟩ := rowG.val hrf
  subst hv
  have HRF := Lib.hid hrf
  clear hrf hl
  go_wp2
  go_ret2
  exact ⟨_, ⟨_, g1, g2, rfl, HG.out, HRF.out, rfl⟩, HT.out.pick [0, 1, 5] rfl⟩
end
end Go.Proofs.YtblhfbcodbjgcaaGreat
