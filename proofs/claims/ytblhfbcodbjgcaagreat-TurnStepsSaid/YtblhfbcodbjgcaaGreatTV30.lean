import Derived.Test.YtblhfbcodbjgcaaGreatTV29
import Derived.Test.YtblhfbcodbjgcaaGreatTV15
namespace Go.Proofs.YtblhfbcodbjgcaaGreat
set_option linter.unusedVariables false
set_option linter.unusedSimpArgs false
open Go.RowKit Go.Shelf
set_option maxRecDepth 100000 in
theorem then_nil {fn : FuncId} {first caps : Array Value} {gs : GH} {R : Ending → GH → Prop} (eg : ∀ args w, (callFunc fn args).run Tryz.prog w = .ok (.enter fn args) w) (hd : DoesG Tryz.prog fn (first ++ caps) gs R)
    (hR : ∀ en gs', R en gs' → ∃ m d, en = .returned (.agg #[m, d]) ∧ Cli.isFv m ∧ Cli.isFv d) : DoesG Tryz.prog 191 #[.agg #[.nilFunc, .nilFunc], .func (.func fn) first caps] gs R := by
  intro w hw
  have T0 := TG.refl hw
  have HT := Lib.hid T0
  clear hw T0
  have HD := Lib.hid hd
  have HR := Lib.hid hR
  have q1 := fun w => fun_nil_M w
  clear hd hR
  go_enter Tryz.func191, Tryz.ntmps191
  go_wp2_with fail
  have T1 := (((HT.out.alloc (k := w.heap.size) rfl 148 #[.nilFunc, .nilFunc]).alloc (k := w.heap.size + 1) (by simp) 146 #[.func (.func fn) first caps]).alloc (k := w.heap.size + 1 + 1) (by simp) 148 #[.nilFunc, .nilFunc]).eq (H' := gs ++ ([[cl w.heap.size 148 #[.nilFunc, .nilFunc]], [cl (w.heap.size + 1) 146 #[.func (.func fn) first caps]]] ++ [[cl (w.heap.size + 1 + 1) 148 #[.nilFunc, .nilFunc]]])) (by simp)
  refine (HD.out _ T1.has.left).mono ?_
  rintro en w1 ⟨gs', hr, T2⟩
  have T3 := (T1.trans (T2.frame T1.has)).eq (H' := (gs' ++ [[cl w.heap.size 148 #[.nilFunc, .nilFunc]], [cl (w.heap.size + 1) 146 #[.func (.func fn) first caps]]]) ++ [[cl (w.heap.size + 1 + 1) 148 #[.nilFunc, .nilFunc]]]) (by simp)
  obtain ⟨m', d', rfl, v1, v2⟩ := HR.out _ _ hr
  have c0 := T3.cellLast 0
  have c1 := T3.cellLast 1
  have f0 := T3.freeLast 0
  have f1 := T3.freeLast 1
  simp only [List.getElem?_toArray, List.getElem?_cons_zero, List.getElem?_cons_succ] at c0 c1
  have HT := Lib.hid T3
  have HRR := Lib.hid hr
  clear T1 T2 T3 hr HR
  rcases v1 with rfl | ⟨fn1, first1, caps1, rfl⟩ <;> rcases v2 with rfl | ⟨fn2, first2, caps2, rfl⟩
  all_goals
    go_wp2
    exact bodyPost_ret (v := .agg #[_, _]) (by simp [results, Tryz.results191, go_sem, c0, c1]) rfl ⟨gs', HRR.out, (((((HT.out.setLast 0 _).setLast 1 _).dropLast).eq (H' := (gs' ++ [[cl w.heap.size 148 #[.nilFunc, .nilFunc]]]) ++ [[cl (w.heap.size + 1) 146 #[.func (.func fn) first caps]]]) (by simp)).dropLast.dropLast)⟩
theorem MRT.fv {L : Lay} {kb : Nat} {pv : Value} {e : ET} {s : ST} {z : ZT} {en : Ending} {gs : GH} (h : MRT L kb pv e s z en gs) : ∃ m d, en = .returned (.agg #[m, d]) ∧ Cli.isFv m ∧ Cli.isFv d := by
  obtain ⟨e', _, m, d, g', gK, gF, he, hs, _⟩ := h
  obtain ⟨h1, h2⟩ := (cliT_vals L kb pv e').vals hs
  exact ⟨m, d, he, h1, h2⟩
theorem MRT.le {L : Lay} {kb : Nat} {pv : Value} {e e' : ET} {s : ST} {z : ZT} {en : Ending} {gs : GH} (h : MRT L kb pv e' s z en gs) (hl : leT e e') : MRT L kb pv e s z en gs := by
  obtain ⟨e2, h2, r⟩ := h; exact ⟨e2, hl.trans h2, r⟩
theorem turn_sh {L : Lay} {x : CoreS} {ws : List WheelS} {p : PipeS} {k : TurnS} {gC gW : List Blk} (hx : isCore L x gC) (hw : isWheels L ws gW) (ho : TurnOk ⟨k, x, ws, p⟩) (h : HasSh ⟨k, x, ws, p⟩) :
    ∃ i q s S, k.s = some i ∧ L.qs[i]? = some q ∧ x.shs[i]? = some s ∧ ws[i]? = some S ∧ sVal L k = ptr' q.b ∧ ZT.sh ⟨k, x, ws, p⟩ = i ∧ ZT.shS ⟨k, x, ws, p⟩ = s ∧ ZT.wh ⟨k, x, ws, p⟩ = S ∧ WheelOk S ∧ RingB s.ring ∧ 0 ≤ s.turns ∧ s.turns ≤ 1000000 := by
  obtain ⟨i, hi⟩ := h
  simp only at hi
  have hlt := ho.sh i hi
  simp only at hlt
  have hq : ∃ q, L.qs[i]? = some q := by
    obtain ⟨q, hq, _⟩ := core_q hx hlt
    exact ⟨q, hq⟩
  obtain ⟨q, hq⟩ := hq
  obtain ⟨s, hs⟩ : ∃ s, x.shs[i]? = some s := ⟨_, List.getElem?_eq_getElem hlt⟩
  have hwl : i < ws.length := by have := ho.ws; simp only at this; omega
  obtain ⟨S, hS⟩ : ∃ S, ws[i]? = some S := ⟨_, List.getElem?_eq_getElem hwl⟩
  have e1 : ZT.sh ⟨k, x, ws, p⟩ = i := by simp [ZT.sh, hi]
  refine ⟨i, q, s, S, hi, hq, hs, hS, by simp [sVal, hi, hq], e1, ?_, ?_, ho.wok S (List.mem_of_getElem? hS), ho.core.ring s (List.mem_of_getElem? hs), (ho.turns s (List.mem_of_getElem? hs)).1, (ho.turns s (List.mem_of_getElem? hs)).2⟩
  · unfold ZT.shS; rw [e1]; simp [List.getD_eq_getElem?_getD, hs]
  · unfold ZT.wh; rw [e1]; simp [List.getD_eq_getElem?_getD, hS]
section
variable {L : Lay} {x : CoreS} {ws : List WheelS} {p : PipeS} {e : ET} {g gC gK gF : List Blk} {kb : Nat} {pv sv : Value} {k : TurnS}
set_option maxRecDepth 100000 in
set_option maxHeartbeats 4000000 in
theorem tOne211 (d : Nat) (hz : repT L kb pv e ⟨k, x, ws, p⟩ gK gF) (bk bd : Nat) (hb : kBox kb bk e) (hbd : e.2[d]? = some bd) :
    DoesG Tryz.prog 260 #[ptr' bk, ptr' bd] [gK, gF] (MRT L kb pv e (one211T d ⟨k, x, ws, p⟩).1 (one211T d ⟨k, x, ws, p⟩).2) := by
  unfold MRT one211T
  dsimp only
  have HB := Lib.hid hb
  have HBD := Lib.hid hbd
  obtain ⟨gd, gC, gW, gP, hd, hx, hw, hpp, rfl, rfl⟩ := hz
  intro w hw
  have T0 := TG.refl hw
  have HT := Lib.hid T0
  clear hw T0
  have HT := Lib.hid (HT.out.sum (H' := [turnB kb L.fb pv (sVal L k) k, gd, e.1, gC, gW, gP]) (fun n ha h0 h1 h2 => by simp only [SU, ha, h0, h1, h2] <;> omega))
  have HX := Lib.hid hx
  have HD := Lib.hid hd
  have HW := Lib.hid hw
  have HPP := Lib.hid hpp
  clear hx hd hw hpp
  clear hb hbd
  go_enter Tryz.func260, Tryz.ntmps260
  go_wp2_with fail
  refine (DoesG.use (Cli.row_1 (b := w.heap.size + 1) (o := 0) (D := #[.func (.func 261) #[] #[ptr' bk, ptr' bd]]) rfl 1 (.inl rfl)) ((HT.out.alloc (k := w.heap.size) rfl 148 #[.nilFunc, .nilFunc]).alloc (k := w.heap.size + 1) (by simp) _ _) [7] rfl rfl).mono ?_
  rintro e w1 ⟨gs, ⟨bf, bl, bi, rfl, rfl⟩, Ta⟩
  simp only [PU] at Ta
  have HT := Lib.hid Ta
  clear Ta
  have hsv : (cliT L kb pv).SV e (.row1 (.turnA d)) .nilFunc (.func (.func 188) #[] #[ptr' bf, ptr' bl, ptr' bi]) ([cl bf 1 #[.func (.func 261) #[] #[ptr' bk, ptr' bd]], cl bl 303 #[.slice (some ⟨w.heap.size + 1, 0, none⟩) 1 1], cl bi 3 #[.int .i64 0], cl (w.heap.size + 1) 1 #[.func (.func 261) #[] #[ptr' bk, ptr' bd]]] ++ []) :=
    ⟨rfl, bf, bl, bi, w.heap.size + 1, 0, _, _, _, rfl, ⟨rfl, bk, bd, rfl, HB.out, HBD.out⟩, rfl, rfl⟩
  have HSV := Lib.hid hsv
  clear hsv
  go_wp2_with fail
  refine (DoesG.use (Cli.prog_then_x (c := (cliT L kb pv).on e) (f := MT.one2112 d) (v := .func (.func 263) #[] #[ptr' bk, ptr' bd]) (gm := []) (cliT_vals L kb pv _) rfl HSV.out ⟨rfl, bk, bd, rfl, HB.out, HBD.out⟩) (HT.out.sum (H' := [turnB kb L.fb pv (sVal L k) k, gd, e.1, gC, gW, gP, [cl w.heap.size 148 #[.nilFunc, .nilFunc]], [cl bf 1 #[.func (.func 261) #[] #[ptr' bk, ptr' bd]], cl bl 303 #[.slice (some ⟨w.heap.size + 1, 0, none⟩) 1 1], cl bi 3 #[.int .i64 0], cl (w.heap.size + 1) 1 #[.func (.func 261) #[] #[ptr' bk, ptr' bd]]] ++ [], []]) (fun n ha h0 h1 h2 => by simp only [SU, ha, h0, h1, h2] <;> omega)) [7, 8] rfl rfl).mono ?_
  rintro e w1 ⟨gs, ⟨bs, br, rfl, rfl⟩, Ta⟩
  simp only [PU] at Ta
  have HT := Lib.hid Ta
  clear Ta
  have r0 := HT.out.cell 6 0 rfl 0
  have fr0 := HT.out.free 6 0 rfl 0
  have r1 := HT.out.cell 6 0 rfl 1
  have fr1 := HT.out.free 6 0 rfl 1
  simp only [List.getElem?_nil, List.getElem?_toArray, List.getElem?_cons_zero, List.getElem?_cons_succ] at r0 r1
  go_wp2
  exact bodyPost_ret (v := .agg #[_, _]) (by simp [results, Tryz.results260, go_sem, r0, r1]) rfl ⟨_, ⟨e, leT.refl e, _, _, _, _, _, rfl, ⟨bs, br, _, _, _, [], rfl, rfl, HSV.out, ⟨rfl, bk, bd, rfl, HB.out, HBD.out⟩, rfl⟩, ⟨gd, gC, gW, gP, HD.out, HX.out, HW.out, HPP.out, rfl, rfl⟩, rfl⟩, (((HT.out.set 6 0 rfl 0 _).set 6 0 rfl 1 _).pick [7, 0, 1, 2, 3, 4, 5] rfl).sum (fun n ha h0 h1 h2 => by simp only [SU, ha, h0, h1, h2] <;> omega)⟩
set_option maxRecDepth 100000 in
theorem tOne21121 (hz : repT L kb pv e ⟨k, x, ws, p⟩ gK gF) (bk : Nat) (hb : kBox kb bk e) :
    DoesG Tryz.prog 265 #[ptr' bk] [gK, gF] (MRT L kb pv e (.row1 .unlock) ⟨k, x, ws, p⟩) := by
  unfold MRT
  have HB := Lib.hid hb
  obtain ⟨gd, gC, gW, gP, hd, hx, hw, hpp, rfl, rfl⟩ := hz
  intro w hw
  have T0 := TG.refl hw
  have HT := Lib.hid T0
  clear hw T0
  have HT := Lib.hid (HT.out.sum (H' := [turnB kb L.fb pv (sVal L k) k, gd, e.1, gC, gW, gP]) (fun n ha h0 h1 h2 => by simp only [SU, ha, h0, h1, h2] <;> omega))
  have HX := Lib.hid hx
  have HD := Lib.hid hd
  have HW := Lib.hid hw
  have HPP := Lib.hid hpp
  clear hx hd hw hpp
  clear hb
  go_enter Tryz.func265, Tryz.ntmps265
  go_wp2_with fail
  refine (DoesG.use (Cli.row_1 (b := w.heap.size + 1) (o := 0) (D := #[.func (.func 266) #[] #[ptr' bk]]) rfl 1 (.inl rfl)) ((HT.out.alloc (k := w.heap.size) rfl 148 #[.nilFunc, .nilFunc]).alloc (k := w.heap.size + 1) (by simp) _ _) [7] rfl rfl).mono ?_
  rintro e w1 ⟨gs, ⟨bf, bl, bi, rfl, rfl⟩, Ta⟩
  simp only [PU] at Ta
  have HT := Lib.hid Ta
  clear Ta
  have r0 := HT.out.cell 6 0 rfl 0
  have fr0 := HT.out.free 6 0 rfl 0
  have r1 := HT.out.cell 6 0 rfl 1
  have fr1 := HT.out.free 6 0 rfl 1
  simp only [List.getElem?_nil, List.getElem?_toArray, List.getElem?_cons_zero, List.getElem?_cons_succ] at r0 r1
  go_wp2
  exact bodyPost_ret (v := .agg #[_, _]) (by simp [results, Tryz.results265, go_sem, r0, r1]) rfl ⟨_, ⟨e, leT.refl e, _, _, _, _, _, rfl, ⟨rfl, bf, bl, bi, w.heap.size + 1, 0, #[.func (.func 266) #[] #[ptr' bk]], _, [], rfl, ⟨rfl, bk, rfl, HB.out⟩, rfl, rfl⟩, ⟨gd, gC, gW, gP, HD.out, HX.out, HW.out, HPP.out, rfl, rfl⟩, rfl⟩, (((HT.out.set 6 0 rfl 0 _).set 6 0 rfl 1 _).pick [8, 9, 10, 7, 0, 1, 2, 3, 4, 5] rfl).sum (fun n ha h0 h1 h2 => by simp only [SU, ha, h0, h1, h2] <;> omega)⟩
end
end Go.Proofs.YtblhfbcodbjgcaaGreat

namespace Go.Proofs.YtblhfbcodbjgcaaGreat
set_option linter.unusedVariables false
set_option linter.unusedSimpArgs false
open Go.RowKit Go.Shelf
theorem use_key2 {G : Prop} {α : Type} {P A : α → World → Prop} (main : (∀ a w2, A a w2 → P a w2) → G) (key : ∀ a w2, A a w2 → P a w2) : G := main key
section
variable {L : Lay} {x : CoreS} {ws : List WheelS} {p : PipeS} {e : ET} {g gC gK gF : List Blk} {kb : Nat} {pv sv : Value} {k : TurnS}
set_option maxRecDepth 100000 in
set_option maxHeartbeats 4000000 in
theorem tPops11 (n : Int) (hz : repT L kb pv e ⟨k, x, ws, p⟩ gK gF) (ho : TurnOk ⟨k, x, ws, p⟩) (hh : HasSh ⟨k, x, ws, p⟩) (hn : 0 ≤ n ∧ n ≤ 1000000) (bk bi : Nat) (hb : kBox kb bk e) (hbi : cl bi 3 #[.int .i64 n] ∈ e.1) :
    DoesG Tryz.prog 283 #[ptr' bk, ptr' bi] [gK, gF] (MRT L kb pv e (popsT (n - 1) ⟨k, x, ws, p⟩) ⟨k, x, ws, p⟩) := by
  unfold MRT
  obtain ⟨gd, gC, gW, gP, hd, hx, hw, hpp, rfl, rfl⟩ := hz
  obtain ⟨i, q, s, S, hki, hq, hs, hS, hsv, hsh, hss, hwh, hwo, hrb, ht0, ht1⟩ := turn_sh hx hw ho hh
  have hpo := sPops (kb := kb) (pv := pv) (k := k) hq (n - 1)
  rw [← hsv, ← hsh] at hpo
  have hpo : DoesG Tryz.prog 259 #[ptr' kb, .int .i64 (n - 1)] [turnB kb L.fb pv (sVal L k) k] fun en gs => ∃ g' l, SRT L kb pv (popsT (n - 1) ⟨k, x, ws, p⟩) en g' l ∧ gs = [g', l, turnB kb L.fb pv (sVal L k) k] := hpo
  generalize popsT (n - 1) ⟨k, x, ws, p⟩ = st at *
  intro w hw
  have T0 := TG.refl hw
  have HT := Lib.hid T0
  clear hw T0
  have HPO := Lib.hid hpo
  have HT := Lib.hid (HT.out.sum (H' := [turnB kb L.fb pv (sVal L k) k, gd, e.1, gC, gW, gP]) (fun n ha h0 h1 h2 => by simp only [SU, ha, h0, h1, h2] <;> omega))
  have HX := Lib.hid hx
  have HD := Lib.hid hd
  have HW := Lib.hid hw
  have HPP := Lib.hid hpp
  obtain ⟨hn0, hn1⟩ := hn
  clear hx hd hw hpp hpo hq hs hS hki hsv hsh hss hwh hwo hrb ht0 ht1 ho hh
  have HB := Lib.hid (show cl bk 56 #[ptr' kb] ∈ e.1 from hb)
  clear hb
  have b0 := HT.out.mem_cell 2 HB.out 0
  have ltb := HT.out.mem_lt 2 HB.out
  simp only [List.getElem?_toArray, List.getElem?_cons_zero] at b0 ltb
  have HBI := Lib.hid (show cl bi 3 #[.int .i64 n] ∈ e.1 from hbi)
  clear hbi
  have i0 := HT.out.mem_cell 2 HBI.out 0
  have lti := HT.out.mem_lt 2 HBI.out
  simp only [List.getElem?_toArray, List.getElem?_cons_zero] at i0 lti
  go_enter Tryz.func283, Tryz.ntmps283
  go_wp2_with fail
  refine (DoesG.use (HPO.out) (HT.out.alloc (k := w.heap.size) rfl _ _) [0] rfl rfl).mono ?_
  rintro e w1 ⟨gs, ⟨g2, l2, ⟨m2, d2, rfl, hs2⟩, rfl⟩, Ta⟩
  simp only [PU] at Ta
  clear b0 i0 ltb lti
  have HT := Lib.hid Ta
  clear Ta
  have r0 := HT.out.cell 6 0 rfl 0
  have fr0 := HT.out.free 6 0 rfl 0
  have r1 := HT.out.cell 6 0 rfl 1
  have fr1 := HT.out.free 6 0 rfl 1
  simp only [List.getElem?_nil, List.getElem?_toArray, List.getElem?_cons_zero, List.getElem?_cons_succ] at r0 r1
  have hv2 := (cliT_vals L kb pv (l2, [])).vals (hs2 (l2, []) (fun _ h => h))
  obtain ⟨st1, st2⟩ := Cli.store_fv2 (P := Tryz.prog) hv2.1 hv2.2 r0 fr0 r1 fr1
  have HS := Lib.hid hs2
  clear hv2 hs2
  go_wp2
  exact bodyPost_ret (v := .agg #[_, _]) (by simp [results, Tryz.results283, go_sem, r0, r1]) rfl ⟨_, ⟨(e.1 ++ l2, e.2), leT.app e l2, m2, d2, g2, _, _, rfl, HS.out _ (fun b hb => List.mem_append_right _ hb), ⟨gd, gC, gW, gP, HD.out, HX.out, HW.out, HPP.out, rfl, rfl⟩, rfl⟩, (((HT.out.set 6 0 rfl 0 _).set 6 0 rfl 1 _).pick [0, 8, 1, 2, 7, 3, 4, 5] rfl).sum (fun n ha h0 h1 h2 => by simp only [SU, ha, h0, h1, h2] <;> omega)⟩
set_option maxRecDepth 100000 in
set_option maxHeartbeats 4000000 in
theorem tPops1 (n : Int) (hz : repT L kb pv e ⟨k, x, ws, p⟩ gK gF) (hp : preT (.pops1 n) ⟨k, x, ws, p⟩) (bk bi : Nat) (hb : kBox kb bk e) (hbi : cl bi 3 #[.int .i64 n] ∈ e.1) :
    DoesG Tryz.prog 281 #[ptr' bk, ptr' bi] [gK, gF] (MRT L kb pv e (runT (.pops1 n) ⟨k, x, ws, p⟩).1 (runT (.pops1 n) ⟨k, x, ws, p⟩).2) := by
  obtain ⟨ho, hh, hn0, hn1, hok2⟩ := hp
  have hn := And.intro hn0 hn1
  clear hn0 hn1
  obtain ⟨gd, gC, gW, gP, hd, hx, hw, hpp, rfl, rfl⟩ := hz
  obtain ⟨i, q, s, S, hki, hq, hs, hS, hsv, hsh, hss, hwh, hwo, hrb, ht0, ht1⟩ := turn_sh hx hw ho hh
  have hpop := corePop hx hq hs hrb
  have hz2 : runT (.pops1 n) ⟨k, x, ws, p⟩ = (if (popR s.ring).2.1.slot < 0 then popsT (n - 1) ⟨{ k with t := (popR s.ring).2.1 }, { x with shs := x.shs.set i { s with ring := (popR s.ring).1 } }, ws, p⟩ else .thn (.at none .rec1) (.pops11 n), ⟨{ k with t := (popR s.ring).2.1 }, { x with shs := x.shs.set i { s with ring := (popR s.ring).1 } }, ws, p⟩) := by
    simp only [runT, ZT.onSh, hss, hsh]
    split <;> rfl
  rw [hz2] at hok2 ⊢
  dsimp only at hok2 ⊢
  generalize popR s.ring = pr at *
  obtain ⟨r1, t1, pe⟩ := pr
  simp only at hpop hok2 ⊢
  have hrc := sReceives (L := L) (kb := kb) (pv := pv) (sv := sVal L k) (k := { k with t := t1 })
  have hh2 : HasSh ⟨{ k with t := t1 }, { x with shs := x.shs.set i { s with ring := r1 } }, ws, p⟩ := ⟨i, hki⟩
  obtain ⟨st, hst⟩ : ∃ st : ST, st = ((if t1.slot < 0 then popsT (n - 1) ⟨{ k with t := t1 }, { x with shs := x.shs.set i { s with ring := r1 } }, ws, p⟩ else .thn (.at none .rec1) (.pops11 n)) : ST) := ⟨_, rfl⟩
  rw [← hst]
  have HST := Lib.hid hst
  clear hst
  have hp11 : ∀ (e' : ET) gK gF, repT L kb pv e' ⟨{ k with t := t1 }, { x with shs := x.shs.set i { s with ring := r1 } }, ws, p⟩ gK gF → kBox kb bk e' → cl bi 3 #[.int .i64 n] ∈ e'.1 → _ := fun e' gK gF hz h1 h2 => tPops11 n hz hok2 hh2 hn bk bi h1 h2
  intro w hw
  have T0 := TG.refl hw
  have HT := Lib.hid T0
  clear hw T0
  have HPOP := Lib.hid hpop
  have HRC := Lib.hid hrc
  have HP11 := Lib.hid hp11
  have HSV := Lib.hid hsv
  have HT := Lib.hid (HT.out.sum (H' := [turnB kb L.fb pv (sVal L k) k, gd, e.1, gC, gW, gP]) (fun n ha h0 h1 h2 => by simp only [SU, ha, h0, h1, h2] <;> omega))
  have HX := Lib.hid hx
  have HD := Lib.hid hd
  have HW := Lib.hid hw
  have HPP := Lib.hid hpp
  have k10 := HT.out.cell 0 0 rfl 10
  simp only [turnC, List.getElem?_toArray, List.getElem?_cons_zero, List.getElem?_cons_succ, hsv] at k10
  clear hx hd hw hpp hpop hrc hp11 hq hs hS hki hsv hsh hss hwh hwo hrb ht0 ht1 ho hh hok2 hh2 hz2 hn
  have HB := Lib.hid (show cl bk 56 #[ptr' kb] ∈ e.1 from hb)
  clear hb
  have b0 := HT.out.mem_cell 2 HB.out 0
  have ltb := HT.out.mem_lt 2 HB.out
  simp only [List.getElem?_toArray, List.getElem?_cons_zero] at b0 ltb
  have HBI := Lib.hid (show cl bi 3 #[.int .i64 n] ∈ e.1 from hbi)
  clear hbi
  have i0 := HT.out.mem_cell 2 HBI.out 0
  have lti := HT.out.mem_lt 2 HBI.out
  simp only [List.getElem?_toArray, List.getElem?_cons_zero] at i0 lti
  go_enter Tryz.func281, Tryz.ntmps281
  go_wp2_with fail
  have HT := Lib.hid (HT.out.alloc (k := w.heap.size) rfl 148 #[.nilFunc, .nilFunc])
  clear b0 i0 ltb lti k10
  generalize World.alloc w _ = w1 at HT ⊢
  have b0 := HT.out.mem_cell 2 HB.out 0
  have k10 := HT.out.cell 0 0 rfl 10
  simp only [turnC, List.getElem?_toArray, List.getElem?_cons_zero, List.getElem?_cons_succ, HSV.out] at b0 k10
  apply use_key2 (A := fun (g1 : List Blk) w5 => isCore L { x with shs := x.shs.set i { s with ring := r1 } } g1 ∧ TG [turnB kb L.fb pv (sVal L k) k ++ (gd ++ e.1), gC ++ (gW ++ gP)] w [turnB kb L.fb pv (sVal L k) { k with t := t1 }, gd, e.1, g1, gW, gP, [cl w.heap.size 148 #[.nilFunc, .nilFunc]]] w5)
  case main =>
    intro key
    go_region_with (
      go_at_call 21
      refine (DoesG.use HPOP.out HT.out.drew [3] rfl rfl).mono ?_
      rintro en w2 ⟨gs, ⟨rfl, g1, hx1, rfl⟩, Ta⟩
      simp only [PU] at Ta
      have b1 := Ta.mem_cell 2 HB.out 0
      simp only [List.getElem?_toArray, List.getElem?_cons_zero] at b1
      have c11 := Ta.cell 0 0 rfl 11
      have c12 := Ta.cell 0 0 rfl 12
      have c13 := Ta.cell 0 0 rfl 13
      have c14 := Ta.cell 0 0 rfl 14
      have c15 := Ta.cell 0 0 rfl 15
      simp only [turnC, List.getElem?_toArray, List.getElem?_cons_zero, List.getElem?_cons_succ] at c11 c12 c13 c14 c15
      have f11 := Ta.free 0 0 rfl 11
      have f12 := Ta.free 0 0 rfl 12
      have f13 := Ta.free 0 0 rfl 13
      have f14 := Ta.free 0 0 rfl 14
      have f15 := Ta.free 0 0 rfl 15
      simp only [TaskS.cells]
      have HX1 := Lib.hid hx1
      have HT1 := Lib.hid Ta
      clear Ta hx1)
    all_goals
      have T5 := (((((HT1.out.set 0 0 rfl 11 (.int .u64 t1.id)).set 0 0 rfl 12 (.int .i64 t1.slot)).set 0 0 rfl 13 (.int .u64 t1.gen)).set 0 0 rfl 14 (.int .u64 t1.dl)).set 0 0 rfl 15 (.int .u64 t1.per)).eq (H' := [turnB kb L.fb pv (sVal L k) { k with t := t1 }, gd, e.1, g1, gW, gP, [cl w.heap.size 148 #[.nilFunc, .nilFunc]]]) rfl
      generalize World.setCell _ _ _ = w5 at T5 ⊢
      exact key g1 w5 ⟨HX1.out, T5⟩
  case key =>
    rintro g1 w5 ⟨hx5, T5⟩
    have HX5 := Lib.hid hx5
    have HT := Lib.hid T5
    clear hx5 T5 b0 k10 HX
    have b0 := HT.out.mem_cell 2 HB.out 0
    have i0 := HT.out.mem_cell 2 HBI.out 0
    simp only [List.getElem?_toArray, List.getElem?_cons_zero] at b0 i0
    have hrc := HRC.out
    by_cases hsl : t1.slot < 0
    · rw [if_pos hsl] at hrc
      have hst := HST.out
      clear HST
      rw [if_pos hsl] at hst
      subst hst
      have HRC := Lib.hid hrc
      clear hrc hsl
      go_wp2_with fail
      refine (DoesG.use (HRC.out) (HT.out) [0] rfl rfl).mono ?_
      rintro e w1 ⟨gs, ⟨g2, l2, ⟨m2, d2, rfl, hs2⟩, rfl⟩, Ta⟩
      simp only [PU] at Ta
      clear b0
      have HT := Lib.hid Ta
      clear Ta
      obtain ⟨rfl, rfl, rfl⟩ := hs2 (l2, []) (fun _ h => h)
      clear hs2
      have hth := then_nil (first := #[]) (caps := #[ptr' bk, ptr' bi]) (enters_of Tryz.func283 (by kernel_rfl) rfl) (HP11.out (e.1 ++ l2, e.2) (turnB kb L.fb pv (sVal L k) { k with t := t1 } ++ (gd ++ (e.1 ++ l2))) (g1 ++ (gW ++ gP)) ⟨gd, g1, gW, gP, HD.out, HX5.out, HW.out, HPP.out, rfl, rfl⟩ (List.mem_append_left _ HB.out) (List.mem_append_left _ HBI.out)) (fun _ _ h => MRT.fv h)
      obtain ⟨gT, hgT⟩ : ∃ gT, gT = turnB kb L.fb pv (sVal L k) { k with t := t1 } := ⟨_, rfl⟩
      have HTo := HT.out
      rw [← hgT] at hth HTo
      have HTH := Lib.hid hth
      have HT := Lib.hid HTo
      clear hth HTo hgT
      go_wp2_with fail
      refine (DoesG.use (HTH.out) (HT.out.sum (H' := [gT ++ (gd ++ (e.1 ++ l2)), g1 ++ (gW ++ gP), [cl w.heap.size 148 #[.nilFunc, .nilFunc]]]) (fun n ha h0 h1 h2 => by simp only [SU, ha, h0, h1, h2] <;> omega)) [0, 1] rfl rfl).mono ?_
      rintro e w1 ⟨gs, ⟨e2, hl2, m3, d3, g3, gK3, gF3, rfl, hs3, hz3, rfl⟩, Ta⟩
      simp only [PU] at Ta
      have HL2 := Lib.hid hl2
      have HZ3 := Lib.hid hz3
      clear hl2 hz3 i0
      have HT := Lib.hid Ta
      clear Ta
      have r0 := HT.out.cell 2 0 rfl 0
      have fr0 := HT.out.free 2 0 rfl 0
      have r1 := HT.out.cell 2 0 rfl 1
      have fr1 := HT.out.free 2 0 rfl 1
      simp only [List.getElem?_nil, List.getElem?_toArray, List.getElem?_cons_zero, List.getElem?_cons_succ] at r0 r1
      have hv2 := (cliT_vals L kb pv e2).vals hs3
      obtain ⟨st1, st2⟩ := Cli.store_fv2 (P := Tryz.prog) hv2.1 hv2.2 r0 fr0 r1 fr1
      have HS := Lib.hid hs3
      clear hv2 hs3
      go_wp2
      exact bodyPost_ret (v := .agg #[_, _]) (by simp [results, Tryz.results281, go_sem, r0, r1]) rfl ⟨_, ⟨e2, (leT.app e l2).trans HL2.out, m3, d3, g3, gK3, gF3, rfl, HS.out, HZ3.out, rfl⟩, ((HT.out.set 2 0 rfl 0 _).set 2 0 rfl 1 _).pick [0, 1, 3] rfl⟩
    · rw [if_neg hsl] at hrc
      have hst := HST.out
      clear HST
      rw [if_neg hsl] at hst
      subst hst
      have HRC := Lib.hid hrc
      clear hrc hsl HP11
      obtain ⟨gT, hgT⟩ : ∃ gT, gT = turnB kb L.fb pv (sVal L k) { k with t := t1 } := ⟨_, rfl⟩
      go_wp2_with fail
      refine (DoesG.use (HRC.out) (HT.out) [0] rfl rfl).mono ?_
      rintro e w1 ⟨gs, ⟨g2, l2, ⟨m2, d2, rfl, hs2⟩, rfl⟩, Ta⟩
      simp only [PU] at Ta
      clear b0
      have HT := Lib.hid Ta
      clear Ta
      have HTo := HT.out
      rw [← hgT] at HTo
      have HT := Lib.hid HTo
      have HGT := Lib.hid hgT
      have HS := Lib.hid hs2
      clear HTo hgT hs2
      go_wp2_with fail
      refine (DoesG.use (Cli.prog_then_x (c := (cliT L kb pv).on (e.1 ++ l2, e.2)) (s := .at none .rec1) (f := MT.pops11 n) (v := .func (.func 283) #[] #[ptr' bk, ptr' bi]) (gm := []) (cliT_vals L kb pv _) rfl (HS.out (e.1 ++ l2, e.2) (fun b hb => List.mem_append_right _ hb)) ⟨rfl, bk, bi, rfl, List.mem_append_left _ HB.out, List.mem_append_left _ HBI.out⟩) (HT.out.sum (H' := [gT, gd, e.1, g1, gW, gP, [cl w.heap.size 148 #[.nilFunc, .nilFunc]], l2, g2, []]) (fun n ha h0 h1 h2 => by simp only [SU, ha, h0, h1, h2] <;> omega)) [8, 9] rfl rfl).mono ?_
      rintro e w1 ⟨gs, ⟨bs, br, rfl, rfl⟩, Ta⟩
      simp only [PU] at Ta
      clear i0
      have HT := Lib.hid Ta
      clear Ta
      have r0 := HT.out.cell 6 0 rfl 0
      have fr0 := HT.out.free 6 0 rfl 0
      have r1 := HT.out.cell 6 0 rfl 1
      have fr1 := HT.out.free 6 0 rfl 1
      simp only [List.getElem?_nil, List.getElem?_toArray, List.getElem?_cons_zero, List.getElem?_cons_succ] at r0 r1
      have hv2 := (cliT_vals L kb pv _).vals (HS.out (e.1 ++ l2, e.2) (fun b hb => List.mem_append_right _ hb))
      obtain ⟨st1, st2⟩ := Cli.store_fv2 (P := Tryz.prog) (v' := .func (.func 226) #[] #[ptr' bs, ptr' br]) hv2.1 (Or.inr ⟨_, _, _, rfl⟩) r0 fr0 r1 fr1
      clear hv2
      go_wp2
      have HF := (((HT.out.set 6 0 rfl 0 m2).set 6 0 rfl 1 (.func (.func 226) #[] #[ptr' bs, ptr' br])).pick [8, 0, 1, 2, 7, 3, 4, 5] rfl).sum (H' := [[cl bs 148 #[m2, d2], cl br 146 #[.func (.func 283) #[] #[ptr' bk, ptr' bi]]] ++ g2 ++ [], gT ++ (gd ++ (e.1 ++ l2)), g1 ++ (gW ++ gP)]) (fun n ha h0 h1 h2 => by simp only [SU, ha, h0, h1, h2] <;> omega)
      rw [HGT.out] at HF
      exact bodyPost_ret (v := .agg #[_, _]) (by simp [results, Tryz.results281, go_sem, r0, r1]) rfl ⟨_, ⟨(e.1 ++ l2, e.2), leT.app e l2, _, _, _, _, _, rfl, ⟨bs, br, _, _, g2, [], rfl, rfl, HS.out (e.1 ++ l2, e.2) (fun b hb => List.mem_append_right _ hb), ⟨rfl, bk, bi, rfl, List.mem_append_left _ HB.out, List.mem_append_left _ HBI.out⟩, rfl⟩, ⟨gd, g1, gW, gP, HD.out, HX5.out, HW.out, HPP.out, rfl, rfl⟩, rfl⟩, HF⟩
end
end Go.Proofs.YtblhfbcodbjgcaaGreat

namespace Go.Proofs.YtblhfbcodbjgcaaGreat
set_option linter.unusedVariables false
set_option linter.unusedSimpArgs false
open Go.RowKit Go.Shelf
def one1 (n : List Blk → Nat) (a : Blk) : Nat := n [a]
theorem TG.sum2 {h H H' : GH} {w w' : World} (T : TG h w H w')
    (hs : ∀ n : List Blk → Nat, (∀ x y, n (x ++ y) = n x + n y) → n [] = 0 → (∀ a l, n (a :: l) = one1 n a + n l) → n [] = 0 → n H.flatten = n H'.flatten) : TG h w H' w' :=
  T.sum fun n ha h0 _ _ => hs n ha h0 (fun a l => by show n ([a] ++ l) = _; rw [ha]; rfl) h0
theorem due_cur {ds : List Nat} {k : TurnS} {gd : List Blk} {d bd : Nat} (h : isDue ds k gd) (hc : k.nd = d + 1) (hb : ds[d]? = some bd) :
    ∃ v gr, rowG 40 5 v k.due.length (tasksV k.due) gr ∧ gd = [cl bd 343 #[v]] ++ gr := by
  obtain ⟨h0, ⟨h1, _⟩ | ⟨m, bd', v, gr, h1, h2, h3, h4⟩⟩ := h
  · omega
  · have : m = d := by omega
    subst this
    rw [hb] at h2
    cases h2
    exact ⟨v, gr, h3, h4⟩
section
variable {L : Lay} {x : CoreS} {ws : List WheelS} {p : PipeS} {e : ET} {g gC gK gF : List Blk} {kb : Nat} {pv sv : Value} {k : TurnS}
set_option maxRecDepth 100000 in
set_option maxHeartbeats 4000000 in
theorem tOne2112 (d : Nat) (hz : repT L kb pv e ⟨k, x, ws, p⟩ gK gF) (hp : preT (.one2112 d) ⟨k, x, ws, p⟩) (bk bd : Nat) (hb : kBox kb bk e) (hbd : e.2[d]? = some bd) :
    DoesG Tryz.prog 263 #[ptr' bk, ptr' bd] [gK, gF] (MRT L kb pv e (runT (.one2112 d) ⟨k, x, ws, p⟩).1 (runT (.one2112 d) ⟨k, x, ws, p⟩).2) := by
  have hc : k.nd = d + 1 := hp.2.2
  clear hp
  obtain ⟨gd, gC, gW, gP, hd, hx, hw, hpp, rfl, rfl⟩ := hz
  obtain ⟨v, gr, hr, rfl⟩ := due_cur hd hc hbd
  have hfi := sFires (L := L) (x := x) (ws := ws) (p := p) (kb := kb) (pv := pv) (sv := sVal L k) (k := k) d bd 0 v gr hr (by decide)
  unfold FiR at hfi
  cases hq : k.due[0]? with
  | none =>
    rw [show runT (.one2112 d) ⟨k, x, ws, p⟩ = (.row1 .unlock, ⟨k, x, ws, p⟩) by simp only [runT, hq]]
    rw [show firesT d 0 ⟨k, x, ws, p⟩ = (.nil, ⟨k, x, ws, p⟩) by simp only [firesT, hq]] at hfi
    dsimp only at hfi ⊢
    have hcl : ∀ (e' : ET) gK gF, repT L kb pv e' ⟨k, x, ws, p⟩ gK gF → kBox kb bk e' → _ := fun e' gK gF hz h1 => tOne21121 hz bk h1
    unfold MRT at *
    intro w hw
    have T0 := TG.refl hw
    have HT := Lib.hid T0
    clear hw T0
    have HFI := Lib.hid hfi
    have HCL := Lib.hid hcl
    have HT := Lib.hid (HT.out.sum2 (H' := [turnB kb L.fb pv (sVal L k) k, [cl bd 343 #[v]], gr, e.1, gC, gW, gP]) (fun n ha h0 h1 h2 => by simp only [SU, ha, h0, h1, h2] <;> omega))
    have HX := Lib.hid hx
    have HD := Lib.hid hd
    have HW := Lib.hid hw
    have HPP := Lib.hid hpp
    have HBD := Lib.hid hbd
    clear hx hd hw hpp hfi hcl hq hbd hr hc
    have HB := Lib.hid (show cl bk 56 #[ptr' kb] ∈ e.1 from hb)
    clear hb
    have b0 := HT.out.mem_cell 3 HB.out 0
    have ltb := HT.out.mem_lt 3 HB.out
    simp only [List.getElem?_toArray, List.getElem?_cons_zero] at b0 ltb
    go_enter Tryz.func263, Tryz.ntmps263
    go_wp2_with fail
    refine (DoesG.use (HFI.out) (HT.out.alloc (k := w.heap.size) rfl _ _) [0, 1, 2] rfl rfl).mono ?_
    rintro e w1 ⟨gs, ⟨g2, l2, m2, d2, rfl, hs2, rfl⟩, Ta⟩
    simp only [PU] at Ta
    clear b0 ltb
    have HT := Lib.hid Ta
    clear Ta
    obtain ⟨rfl, rfl, rfl⟩ := hs2 (l2, e.2) (fun _ h => h) HBD.out
    clear hs2
    have hth := then_nil (first := #[]) (caps := #[ptr' bk]) (enters_of Tryz.func265 (by kernel_rfl) rfl) (HCL.out (e.1 ++ l2, e.2) (turnB kb L.fb pv (sVal L k) k ++ (([cl bd 343 #[v]] ++ gr) ++ (e.1 ++ l2))) (gC ++ (gW ++ gP)) ⟨[cl bd 343 #[v]] ++ gr, gC, gW, gP, HD.out, HX.out, HW.out, HPP.out, rfl, rfl⟩ (List.mem_append_left _ HB.out)) (fun _ _ h => MRT.fv h)
    obtain ⟨gT, hgT⟩ : ∃ gT, gT = turnB kb L.fb pv (sVal L k) k := ⟨_, rfl⟩
    obtain ⟨gD, hgD⟩ : ∃ gD, gD = [cl bd 343 #[v]] ++ gr := ⟨_, rfl⟩
    have HTo := HT.out
    rw [← hgT] at hth HTo
    have HTo := HTo.sum2 (H' := [gT, [cl bd 343 #[v]] ++ gr, e.1, gC, gW, gP, [cl w.heap.size 148 #[.nilFunc, .nilFunc]], l2]) (fun n ha h0 h1 h2 => by simp only [SU, ha, h0, h1, h2] <;> omega)
    rw [← hgD] at hth HTo
    have HTH := Lib.hid hth
    have HT := Lib.hid HTo
    clear hth HTo hgT hgD
    go_wp2_with fail
    refine (DoesG.use (HTH.out) (HT.out.sum2 (H' := [gT ++ (gD ++ (e.1 ++ l2)), gC ++ (gW ++ gP), [cl w.heap.size 148 #[.nilFunc, .nilFunc]]]) (fun n ha h0 h1 h2 => by simp only [SU, ha, h0, h1, h2] <;> omega)) [0, 1] rfl rfl).mono ?_
    rintro e w1 ⟨gs, ⟨e2, hl2, m3, d3, g3, gK3, gF3, rfl, hs3, hz3, rfl⟩, Ta⟩
    simp only [PU] at Ta
    have HL2 := Lib.hid hl2
    have HZ3 := Lib.hid hz3
    clear hl2 hz3
    have HT := Lib.hid Ta
    clear Ta
    have r0 := HT.out.cell 2 0 rfl 0
    have fr0 := HT.out.free 2 0 rfl 0
    have r1 := HT.out.cell 2 0 rfl 1
    have fr1 := HT.out.free 2 0 rfl 1
    simp only [List.getElem?_nil, List.getElem?_toArray, List.getElem?_cons_zero, List.getElem?_cons_succ] at r0 r1
    have hv2 := (cliT_vals L kb pv e2).vals hs3
    obtain ⟨st1, st2⟩ := Cli.store_fv2 (P := Tryz.prog) hv2.1 hv2.2 r0 fr0 r1 fr1
    have HS := Lib.hid hs3
    clear hv2 hs3
    go_wp2
    exact bodyPost_ret (v := .agg #[_, _]) (by simp [results, Tryz.results263, go_sem, r0, r1]) rfl ⟨_, ⟨e2, (leT.app e l2).trans HL2.out, m3, d3, g3, gK3, gF3, rfl, HS.out, HZ3.out, rfl⟩, ((HT.out.set 2 0 rfl 0 _).set 2 0 rfl 1 _).pick [0, 1, 3] rfl⟩
  | some t =>
    rw [show runT (.one2112 d) ⟨k, x, ws, p⟩ = (.thn (firesT d 0 ⟨k, x, ws, p⟩).1 .one21121, (firesT d 0 ⟨k, x, ws, p⟩).2) by simp only [runT, hq]]
    rw [show firesT d 0 ⟨k, x, ws, p⟩ = (.thn (.at none .looks) (.fires1 d 0), ⟨{ k with t := t }, x, ws, p⟩) by simp only [firesT, hq]] at hfi ⊢
    dsimp only at hfi ⊢
    unfold MRT
    intro w hw
    have T0 := TG.refl hw
    have HT := Lib.hid T0
    clear hw T0
    have HFI := Lib.hid hfi
    have HT := Lib.hid (HT.out.sum2 (H' := [turnB kb L.fb pv (sVal L k) k, [cl bd 343 #[v]], gr, e.1, gC, gW, gP]) (fun n ha h0 h1 h2 => by simp only [SU, ha, h0, h1, h2] <;> omega))
    have HX := Lib.hid hx
    have HD := Lib.hid hd
    have HW := Lib.hid hw
    have HPP := Lib.hid hpp
    have HBD := Lib.hid hbd
    clear hx hd hw hpp hfi hq hbd hr hc
    have HB := Lib.hid (show cl bk 56 #[ptr' kb] ∈ e.1 from hb)
    clear hb
    have b0 := HT.out.mem_cell 3 HB.out 0
    have ltb := HT.out.mem_lt 3 HB.out
    simp only [List.getElem?_toArray, List.getElem?_cons_zero] at b0 ltb
    go_enter Tryz.func263, Tryz.ntmps263
    obtain ⟨gT, hgT⟩ : ∃ gT, gT = turnB kb L.fb pv (sVal L k) { k with t := t } := ⟨_, rfl⟩
    go_wp2_with fail
    refine (DoesG.use (HFI.out) (HT.out.alloc (k := w.heap.size) rfl _ _) [0, 1, 2] rfl rfl).mono ?_
    rintro e w1 ⟨gs, ⟨g2, l2, m2, d2, rfl, hs2, rfl⟩, Ta⟩
    simp only [PU] at Ta
    clear b0 ltb
    have HT := Lib.hid Ta
    clear Ta
    have HTo := HT.out
    rw [← hgT] at HTo
    obtain ⟨gD, hgD⟩ : ∃ gD, gD = [cl bd 343 #[v]] ++ gr := ⟨_, rfl⟩
    have HTo := HTo.sum2 (H' := [gT, [cl bd 343 #[v]] ++ gr, e.1, gC, gW, gP, [cl w.heap.size 148 #[.nilFunc, .nilFunc]], l2, g2, []]) (fun n ha h0 h1 h2 => by simp only [SU, ha, h0, h1, h2] <;> omega)
    rw [← hgD] at HTo
    have HT := Lib.hid HTo
    have HGT := Lib.hid hgT
    have HGD := Lib.hid hgD
    clear hgD
    have HS := Lib.hid (hs2 (e.1 ++ l2, e.2) (fun b hb => List.mem_append_right _ hb) HBD.out)
    clear HTo hgT hs2
    go_wp2_with fail
    refine (DoesG.use (Cli.prog_then_x (c := (cliT L kb pv).on (e.1 ++ l2, e.2)) (s := .thn (.at none .looks) (.fires1 d 0)) (f := MT.one21121) (v := .func (.func 265) #[] #[ptr' bk]) (gm := []) (cliT_vals L kb pv _) rfl HS.out ⟨rfl, bk, rfl, List.mem_append_left _ HB.out⟩) (HT.out) [8, 9] rfl rfl).mono ?_
    rintro e w1 ⟨gs, ⟨bs, br, rfl, rfl⟩, Ta⟩
    simp only [PU] at Ta
    have HT := Lib.hid Ta
    clear Ta
    have r0 := HT.out.cell 6 0 rfl 0
    have fr0 := HT.out.free 6 0 rfl 0
    have r1 := HT.out.cell 6 0 rfl 1
    have fr1 := HT.out.free 6 0 rfl 1
    simp only [List.getElem?_nil, List.getElem?_toArray, List.getElem?_cons_zero, List.getElem?_cons_succ] at r0 r1
    have hv2 := (cliT_vals L kb pv _).vals HS.out
    obtain ⟨st1, st2⟩ := Cli.store_fv2 (P := Tryz.prog) (v' := .func (.func 226) #[] #[ptr' bs, ptr' br]) hv2.1 (Or.inr ⟨_, _, _, rfl⟩) r0 fr0 r1 fr1
    clear hv2
    go_wp2
    have HF := (((HT.out.set 6 0 rfl 0 m2).set 6 0 rfl 1 (.func (.func 226) #[] #[ptr' bs, ptr' br])).pick [8, 0, 1, 2, 7, 3, 4, 5] rfl).sum2 (H' := [[cl bs 148 #[m2, d2], cl br 146 #[.func (.func 265) #[] #[ptr' bk]]] ++ g2 ++ [], gT ++ (gD ++ (e.1 ++ l2)), gC ++ (gW ++ gP)]) (fun n ha h0 h1 h2 => by simp only [SU, ha, h0, h1, h2] <;> omega)
    rw [HGT.out, HGD.out] at HF
    exact bodyPost_ret (v := .agg #[_, _]) (by simp [results, Tryz.results263, go_sem, r0, r1]) rfl ⟨_, ⟨(e.1 ++ l2, e.2), leT.app e l2, _, _, _, _, _, rfl, ⟨bs, br, _, _, g2, [], rfl, rfl, HS.out, ⟨rfl, bk, rfl, List.mem_append_left _ HB.out⟩, rfl⟩, ⟨_, gC, gW, gP, HD.out, HX.out, HW.out, HPP.out, rfl, rfl⟩, rfl⟩, HF⟩
end
end Go.Proofs.YtblhfbcodbjgcaaGreat

namespace Go.Proofs.YtblhfbcodbjgcaaGreat
set_option linter.unusedVariables false
set_option linter.unusedSimpArgs false
open Go.RowKit Go.Shelf
section
variable {L : Lay} {x : CoreS} {ws : List WheelS} {p : PipeS} {e : ET} {g gC gK gF : List Blk} {kb : Nat} {pv sv : Value} {k : TurnS}
set_option maxRecDepth 100000 in
theorem tRec1 (hz : repT L kb pv e ⟨k, x, ws, p⟩ gK gF) (hp : preT .rec1 ⟨k, x, ws, p⟩) (bk : Nat) (hb : kBox kb bk e) :
    DoesG Tryz.prog 297 #[ptr' bk] [gK, gF] (MRT L kb pv e (runT .rec1 ⟨k, x, ws, p⟩).1 (runT .rec1 ⟨k, x, ws, p⟩).2) := by
  have HO := Lib.hid hp.1.core
  have HTO := Lib.hid hp.1.t
  have HB := Lib.hid (show cl bk 56 #[ptr' kb] ∈ e.1 from hb)
  clear hp hb
  cases hc : (stW (x.slab.word k.t.slot) == 2 && genW (x.slab.word k.t.slot) == k.t.gen && x.slab.mine k.t.id) with
  | false =>
    rw [show runT .rec1 ⟨k, x, ws, p⟩ = (.nil, ⟨{ k with saw := x.slab.word k.t.slot }, x, ws, p⟩) by simp [runT, lookTu, hc]]
    unfold MRT
    obtain ⟨gd, gC, gW, gP, hd, hx, hw, hpp, rfl, rfl⟩ := hz
    intro w hw
    have T0 := TG.refl hw
    have HT := Lib.hid T0
    clear hw T0
    have HT := Lib.hid (HT.out.sum (H' := [turnB kb L.fb pv (sVal L k) k, gd, e.1, gC, gW, gP]) (fun n ha h0 h1 h2 => by simp only [SU, ha, h0, h1, h2] <;> omega))
    have HX := Lib.hid hx
    have HD := Lib.hid hd
    have HW := Lib.hid hw
    have HPP := Lib.hid hpp
    clear hx hd hw hpp
    have hlk := turnLook (kb := kb) (pv := pv) (sv := sVal L k) HX.out HO.out HTO.out 2
    rw [hc] at hlk
    have HLK := Lib.hid hlk
    clear hlk hc
    have b0 := HT.out.mem_cell 2 HB.out 0
    have ltb := HT.out.mem_lt 2 HB.out
    simp only [List.getElem?_toArray, List.getElem?_cons_zero] at b0 ltb
    go_enter Tryz.func297, Tryz.ntmps297
    go_wp2_with fail
    refine (DoesG.use (HLK.out) (HT.out.alloc (k := w.heap.size) rfl _ _) [0, 3] rfl rfl).mono ?_
    rintro e w1 ⟨gs, ⟨rfl, g1, hx1, rfl⟩, Ta⟩
    simp only [PU] at Ta
    have HX := Lib.hid hx1
    clear hx1 b0 ltb
    have HT := Lib.hid Ta
    clear Ta
    have r0 := HT.out.cell 6 0 rfl 0
    have fr0 := HT.out.free 6 0 rfl 0
    have r1 := HT.out.cell 6 0 rfl 1
    have fr1 := HT.out.free 6 0 rfl 1
    simp only [List.getElem?_nil, List.getElem?_toArray, List.getElem?_cons_zero, List.getElem?_cons_succ] at r0 r1
    go_wp2
    exact bodyPost_ret (v := .agg #[_, _]) (by simp [results, Tryz.results297, go_sem, r0, r1]) rfl ⟨_, ⟨e, leT.refl e, _, _, [], _, _, rfl, ⟨rfl, rfl, rfl⟩, ⟨gd, _, _, gP, HD.out, HX.out, HW.out, HPP.out, (rfl : turnB kb L.fb pv (sVal L k) { k with saw := x.slab.word k.t.slot } ++ (gd ++ e.1) = _), rfl⟩, rfl⟩, (((HT.out.set 6 0 rfl 0 _).set 6 0 rfl 1 _).pick [0, 1, 2, 3, 4, 5] rfl).sum2 (fun n ha h0 h1 h2 => by simp only [SU, ha, h0, h1, h2] <;> omega)⟩
  | true =>
    rw [show runT .rec1 ⟨k, x, ws, p⟩ = (.at none .rec11, ⟨{ k with saw := x.slab.word k.t.slot }, x, ws, p⟩) by simp [runT, lookTu, hc]]
    unfold MRT
    obtain ⟨gd, gC, gW, gP, hd, hx, hw, hpp, rfl, rfl⟩ := hz
    intro w hw
    have T0 := TG.refl hw
    have HT := Lib.hid T0
    clear hw T0
    have HT := Lib.hid (HT.out.sum (H' := [turnB kb L.fb pv (sVal L k) k, gd, e.1, gC, gW, gP]) (fun n ha h0 h1 h2 => by simp only [SU, ha, h0, h1, h2] <;> omega))
    have HX := Lib.hid hx
    have HD := Lib.hid hd
    have HW := Lib.hid hw
    have HPP := Lib.hid hpp
    clear hx hd hw hpp
    have hlk := turnLook (kb := kb) (pv := pv) (sv := sVal L k) HX.out HO.out HTO.out 2
    rw [hc] at hlk
    have HLK := Lib.hid hlk
    clear hlk hc
    have b0 := HT.out.mem_cell 2 HB.out 0
    have ltb := HT.out.mem_lt 2 HB.out
    simp only [List.getElem?_toArray, List.getElem?_cons_zero] at b0 ltb
    go_enter Tryz.func297, Tryz.ntmps297
    go_wp2_with fail
    refine (DoesG.use (HLK.out) (HT.out.alloc (k := w.heap.size) rfl _ _) [0, 3] rfl rfl).mono ?_
    rintro e w1 ⟨gs, ⟨rfl, g1, hx1, rfl⟩, Ta⟩
    simp only [PU] at Ta
    have HX := Lib.hid hx1
    clear hx1 b0 ltb
    have HT := Lib.hid Ta
    clear Ta
    go_wp2_with fail
    refine (DoesG.use (at_g _ _ _) (HT.out) [] rfl rfl).mono ?_
    rintro e w1 ⟨gs, ⟨rfl, rfl⟩, Ta⟩
    simp only [PU] at Ta
    have HT := Lib.hid Ta
    clear Ta
    have r0 := HT.out.cell 6 0 rfl 0
    have fr0 := HT.out.free 6 0 rfl 0
    have r1 := HT.out.cell 6 0 rfl 1
    have fr1 := HT.out.free 6 0 rfl 1
    simp only [List.getElem?_nil, List.getElem?_toArray, List.getElem?_cons_zero, List.getElem?_cons_succ] at r0 r1
    go_wp2
    exact bodyPost_ret (v := .agg #[_, _]) (by simp [results, Tryz.results297, go_sem, r0, r1]) rfl ⟨_, ⟨e, leT.refl e, _, _, [], _, _, rfl, ⟨rfl, rfl, ⟨bk, rfl, HB.out⟩⟩, ⟨gd, _, _, gP, HD.out, HX.out, HW.out, HPP.out, (rfl : turnB kb L.fb pv (sVal L k) { k with saw := x.slab.word k.t.slot } ++ (gd ++ e.1) = _), rfl⟩, rfl⟩, (((HT.out.set 6 0 rfl 0 _).set 6 0 rfl 1 _).pick [0, 1, 2, 3, 4, 5] rfl).sum2 (fun n ha h0 h1 h2 => by simp only [SU, ha, h0, h1, h2] <;> omega)⟩
set_option maxRecDepth 100000 in
theorem tLooks (hz : repT L kb pv e ⟨k, x, ws, p⟩ gK gF) (hp : preT .looks ⟨k, x, ws, p⟩) :
    DoesG Tryz.prog 287 #[ptr' kb] [gK, gF] (MRT L kb pv e (runT .looks ⟨k, x, ws, p⟩).1 (runT .looks ⟨k, x, ws, p⟩).2) := by
  have HO := Lib.hid hp.1.core
  have HTO := Lib.hid hp.1.t
  clear hp
  cases hc : (stW (x.slab.word k.t.slot) == 3 && genW (x.slab.word k.t.slot) == k.t.gen && x.slab.mine k.t.id) with
  | false =>
    rw [show runT .looks ⟨k, x, ws, p⟩ = (.nil, ⟨{ k with saw := x.slab.word k.t.slot }, x, ws, p⟩) by simp [runT, lookTu, hc]]
    unfold MRT
    obtain ⟨gd, gC, gW, gP, hd, hx, hw, hpp, rfl, rfl⟩ := hz
    intro w hw
    have T0 := TG.refl hw
    have HT := Lib.hid T0
    clear hw T0
    have HT := Lib.hid (HT.out.sum (H' := [turnB kb L.fb pv (sVal L k) k, gd, e.1, gC, gW, gP]) (fun n ha h0 h1 h2 => by simp only [SU, ha, h0, h1, h2] <;> omega))
    have HX := Lib.hid hx
    have HD := Lib.hid hd
    have HW := Lib.hid hw
    have HPP := Lib.hid hpp
    clear hx hd hw hpp
    have hlk := turnLook (kb := kb) (pv := pv) (sv := sVal L k) HX.out HO.out HTO.out 3
    rw [hc] at hlk
    have HLK := Lib.hid hlk
    clear hlk hc
    go_enter Tryz.func287, Tryz.ntmps287
    go_wp2_with fail
    refine (DoesG.use (HLK.out) (HT.out.alloc (k := w.heap.size) rfl _ _) [0, 3] rfl rfl).mono ?_
    rintro e w1 ⟨gs, ⟨rfl, g1, hx1, rfl⟩, Ta⟩
    simp only [PU] at Ta
    have HX := Lib.hid hx1
    clear hx1
    have HT := Lib.hid Ta
    clear Ta
    have r0 := HT.out.cell 6 0 rfl 0
    have fr0 := HT.out.free 6 0 rfl 0
    have r1 := HT.out.cell 6 0 rfl 1
    have fr1 := HT.out.free 6 0 rfl 1
    simp only [List.getElem?_nil, List.getElem?_toArray, List.getElem?_cons_zero, List.getElem?_cons_succ] at r0 r1
    go_wp2
    exact bodyPost_ret (v := .agg #[_, _]) (by simp [results, Tryz.results287, go_sem, r0, r1]) rfl ⟨_, ⟨e, leT.refl e, _, _, [], _, _, rfl, ⟨rfl, rfl, rfl⟩, ⟨gd, _, _, gP, HD.out, HX.out, HW.out, HPP.out, (rfl : turnB kb L.fb pv (sVal L k) { k with saw := x.slab.word k.t.slot } ++ (gd ++ e.1) = _), rfl⟩, rfl⟩, (((HT.out.set 6 0 rfl 0 _).set 6 0 rfl 1 _).pick [0, 1, 2, 3, 4, 5] rfl).sum2 (fun n ha h0 h1 h2 => by simp only [SU, ha, h0, h1, h2] <;> omega)⟩
  | true =>
    rw [show runT .looks ⟨k, x, ws, p⟩ = (.at none .claims, ⟨{ k with saw := x.slab.word k.t.slot }, x, ws, p⟩) by simp [runT, lookTu, hc]]
    unfold MRT
    obtain ⟨gd, gC, gW, gP, hd, hx, hw, hpp, rfl, rfl⟩ := hz
    intro w hw
    have T0 := TG.refl hw
    have HT := Lib.hid T0
    clear hw T0
    have HT := Lib.hid (HT.out.sum (H' := [turnB kb L.fb pv (sVal L k) k, gd, e.1, gC, gW, gP]) (fun n ha h0 h1 h2 => by simp only [SU, ha, h0, h1, h2] <;> omega))
    have HX := Lib.hid hx
    have HD := Lib.hid hd
    have HW := Lib.hid hw
    have HPP := Lib.hid hpp
    clear hx hd hw hpp
    have hlk := turnLook (kb := kb) (pv := pv) (sv := sVal L k) HX.out HO.out HTO.out 3
    rw [hc] at hlk
    have HLK := Lib.hid hlk
    clear hlk hc
    go_enter Tryz.func287, Tryz.ntmps287
    go_wp2_with fail
    refine (DoesG.use (HLK.out) (HT.out.alloc (k := w.heap.size) rfl _ _) [0, 3] rfl rfl).mono ?_
    rintro e w1 ⟨gs, ⟨rfl, g1, hx1, rfl⟩, Ta⟩
    simp only [PU] at Ta
    have HX := Lib.hid hx1
    clear hx1
    have HT := Lib.hid Ta
    clear Ta
    go_wp2_with fail
    refine (DoesG.use (at_g _ _ _) (HT.out) [] rfl rfl).mono ?_
    rintro e w1 ⟨gs, ⟨rfl, rfl⟩, Ta⟩
    simp only [PU] at Ta
    have HT := Lib.hid Ta
    clear Ta
    have r0 := HT.out.cell 6 0 rfl 0
    have fr0 := HT.out.free 6 0 rfl 0
    have r1 := HT.out.cell 6 0 rfl 1
    have fr1 := HT.out.free 6 0 rfl 1
    simp only [List.getElem?_nil, List.getElem?_toArray, List.getElem?_cons_zero, List.getElem?_cons_succ] at r0 r1
    go_wp2
    exact bodyPost_ret (v := .agg #[_, _]) (by simp [results, Tryz.results287, go_sem, r0, r1]) rfl ⟨_, ⟨e, leT.refl e, _, _, [], _, _, rfl, ⟨rfl, rfl, rfl⟩, ⟨gd, _, _, gP, HD.out, HX.out, HW.out, HPP.out, (rfl : turnB kb L.fb pv (sVal L k) { k with saw := x.slab.word k.t.slot } ++ (gd ++ e.1) = _), rfl⟩, rfl⟩, (((HT.out.set 6 0 rfl 0 _).set 6 0 rfl 1 _).pick [0, 1, 2, 3, 4, 5] rfl).sum2 (fun n ha h0 h1 h2 => by simp only [SU, ha, h0, h1, h2] <;> omega)⟩
set_option maxRecDepth 100000 in
theorem tClaims2 (hz : repT L kb pv e ⟨k, x, ws, p⟩ gK gF) (bk : Nat) (hb : kBox kb bk e) :
    DoesG Tryz.prog 324 #[ptr' bk] [gK, gF] (MRT L kb pv e (runT .claims2 ⟨k, x, ws, p⟩).1 (runT .claims2 ⟨k, x, ws, p⟩).2) := by
  have HB := Lib.hid (show cl bk 56 #[ptr' kb] ∈ e.1 from hb)
  clear hb
  rw [show runT .claims2 ⟨k, x, ws, p⟩ = (.at none .behind, ⟨k, x, ws, p⟩) from rfl]
  unfold MRT
  obtain ⟨gd, gC, gW, gP, hd, hx, hw, hpp, rfl, rfl⟩ := hz
  intro w hw
  have T0 := TG.refl hw
  have HT := Lib.hid T0
  clear hw T0
  have HT := Lib.hid (HT.out.sum (H' := [turnB kb L.fb pv (sVal L k) k, gd, e.1, gC, gW, gP]) (fun n ha h0 h1 h2 => by simp only [SU, ha, h0, h1, h2] <;> omega))
  have HX := Lib.hid hx
  have HD := Lib.hid hd
  have HW := Lib.hid hw
  have HPP := Lib.hid hpp
  clear hx hd hw hpp
  have b0 := HT.out.mem_cell 2 HB.out 0
  have ltb := HT.out.mem_lt 2 HB.out
  simp only [List.getElem?_toArray, List.getElem?_cons_zero] at b0 ltb
  go_enter Tryz.func324, Tryz.ntmps324
  go_wp2_with fail
  refine (DoesG.use (at_g _ _ _) (HT.out.alloc (k := w.heap.size) rfl _ _) [] rfl rfl).mono ?_
  rintro e w1 ⟨gs, ⟨rfl, rfl⟩, Ta⟩
  simp only [PU] at Ta
  have HT := Lib.hid Ta
  clear Ta
  have r0 := HT.out.cell 6 0 rfl 0
  have fr0 := HT.out.free 6 0 rfl 0
  have r1 := HT.out.cell 6 0 rfl 1
  have fr1 := HT.out.free 6 0 rfl 1
  simp only [List.getElem?_nil, List.getElem?_toArray, List.getElem?_cons_zero, List.getElem?_cons_succ] at r0 r1
  go_wp2
  exact bodyPost_ret (v := .agg #[_, _]) (by simp [results, Tryz.results324, go_sem, r0, r1]) rfl ⟨_, ⟨e, leT.refl e, _, _, [], _, _, rfl, ⟨rfl, rfl, rfl⟩, ⟨gd, _, _, gP, HD.out, HX.out, HW.out, HPP.out, rfl, rfl⟩, rfl⟩, (((HT.out.set 6 0 rfl 0 _).set 6 0 rfl 1 _).pick [0, 1, 2, 3, 4, 5] rfl).sum2 (fun n ha h0 h1 h2 => by simp only [SU, ha, h0, h1, h2] <;> omega)⟩
set_option maxRecDepth 100000 in
set_option maxHeartbeats 4000000 in
theorem tRec11 (hz : repT L kb pv e ⟨k, x, ws, p⟩ gK gF) (hp : preT .rec11 ⟨k, x, ws, p⟩) (bk : Nat) (hb : kBox kb bk e) :
    DoesG Tryz.prog 299 #[ptr' bk] [gK, gF] (MRT L kb pv e (runT .rec11 ⟨k, x, ws, p⟩).1 (runT .rec11 ⟨k, x, ws, p⟩).2) := by
  obtain ⟨ho, hh, hs0⟩ := hp
  have HO := Lib.hid ho.core
  have HSW := Lib.hid (show 0 ≤ k.saw ∧ k.saw < 18446744073709551616 from ⟨ho.saw.1, ho.saw.2.1⟩)
  have HTR := Lib.hid (show x.tr.length ≤ 1000000 from ho.core.tr)
  have HDL := Lib.hid (show 0 ≤ k.t.dl ∧ k.t.dl < 18446744073709551616 from ho.t.dl)
  have HS0 := Lib.hid (show 0 ≤ k.t.slot from hs0)
  have HB := Lib.hid (show cl bk 56 #[ptr' kb] ∈ e.1 from hb)
  cases hc : ((x.slab.try k.t.slot k.saw 3).2.2 == 0) with
  | false =>
    rw [show runT .rec11 ⟨k, x, ws, p⟩ = (receivesT ⟨k, x, ws, p⟩, ⟨k, { x with slab := (x.slab.try k.t.slot k.saw 3).1 }, ws, p⟩) by simp [runT, tryTu, hc, receivesT]]
    unfold MRT
    clear ho hh hs0 hb
    have hrc := sReceives (L := L) (kb := kb) (pv := pv) (sv := sVal L k) (k := k)
    rw [show (if k.t.slot < 0 then St.nil else St.at none MT.rec1) = receivesT ⟨k, x, ws, p⟩ from rfl] at hrc
    generalize receivesT ⟨k, x, ws, p⟩ = st at *
    obtain ⟨gd, gC, gW, gP, hd, hx, hw, hpp, rfl, rfl⟩ := hz
    intro w hw
    have T0 := TG.refl hw
    have HT := Lib.hid T0
    clear hw T0
    have HT := Lib.hid (HT.out.sum (H' := [turnB kb L.fb pv (sVal L k) k, gd, e.1, gC, gW, gP]) (fun n ha h0 h1 h2 => by simp only [SU, ha, h0, h1, h2] <;> omega))
    have HX := Lib.hid hx
    have HD := Lib.hid hd
    have HW := Lib.hid hw
    have HPP := Lib.hid hpp
    clear hx hd hw hpp
    have HRC := Lib.hid hrc
    have hlk := turnTry (kb := kb) (pv := pv) (sv := sVal L k) HX.out HO.out HSW.out 3
    rw [hc] at hlk
    have HLK := Lib.hid hlk
    clear hlk hc hrc
    have b0 := HT.out.mem_cell 2 HB.out 0
    have ltb := HT.out.mem_lt 2 HB.out
    simp only [List.getElem?_toArray, List.getElem?_cons_zero] at b0 ltb
    go_enter Tryz.func299, Tryz.ntmps299
    go_wp2_with fail
    refine (DoesG.use (HLK.out) (HT.out.alloc (k := w.heap.size) rfl _ _) [0, 3] rfl rfl).mono ?_
    rintro e w1 ⟨gs, ⟨rfl, g1, hx1, rfl⟩, Ta⟩
    simp only [PU] at Ta
    have HX := Lib.hid hx1
    clear hx1 b0 ltb
    have HT := Lib.hid Ta
    clear Ta
    have b0 := HT.out.mem_cell 2 HB.out 0
    simp only [List.getElem?_toArray, List.getElem?_cons_zero] at b0
    go_wp2_with fail
    refine (DoesG.use (HRC.out) (HT.out) [0] rfl rfl).mono ?_
    rintro e w1 ⟨gs, ⟨g2, l2, ⟨m2, d2, rfl, hs2⟩, rfl⟩, Ta⟩
    simp only [PU] at Ta
    clear b0
    have HT := Lib.hid Ta
    clear Ta
    have r0 := HT.out.cell 6 0 rfl 0
    have fr0 := HT.out.free 6 0 rfl 0
    have r1 := HT.out.cell 6 0 rfl 1
    have fr1 := HT.out.free 6 0 rfl 1
    simp only [List.getElem?_nil, List.getElem?_toArray, List.getElem?_cons_zero, List.getElem?_cons_succ] at r0 r1
    have hv2 := (cliT_vals L kb pv (l2, [])).vals (hs2 (l2, []) (fun _ h => h))
    obtain ⟨st1, st2⟩ := Cli.store_fv2 (P := Tryz.prog) hv2.1 hv2.2 r0 fr0 r1 fr1
    have HS := Lib.hid hs2
    clear hv2 hs2
    go_wp2
    exact bodyPost_ret (v := .agg #[_, _]) (by simp [results, Tryz.results299, go_sem, r0, r1]) rfl ⟨_, ⟨(e.1 ++ l2, e.2), leT.app e l2, m2, d2, g2, _, _, rfl, HS.out _ (fun b hb => List.mem_append_right _ hb), ⟨gd, _, gW, gP, HD.out, HX.out, HW.out, HPP.out, rfl, rfl⟩, rfl⟩, (((HT.out.set 6 0 rfl 0 _).set 6 0 rfl 1 _).pick [0, 8, 1, 2, 7, 3, 4, 5] rfl).sum2 (fun n ha h0 h1 h2 => by simp only [SU, ha, h0, h1, h2] <;> omega)⟩
  | true =>
    obtain ⟨gd, gC, gW, gP, hd, hx, hw, hpp, hgK, hgF⟩ := hz
    obtain ⟨i, q, s, S, hki, hq, hs, hS, hsv, hsh, hss, hwh, hwo, hrb, ht0, ht1⟩ := turn_sh hx hw ho hh
    have hz2 : runT .rec11 ⟨k, x, ws, p⟩ = (.nil, ⟨k, { x with slab := (x.slab.try k.t.slot k.saw 3).1, tr := x.tr ++ [evT k { ev0 with kind := 4, id := k.t.id, gen := k.t.gen, dl := armD S k.t }] }, ws.set i (S.place (armE S k.t)), p⟩) := by
      have h1 : (tryTu 3 ⟨k, x, ws, p⟩).2 = true := hc
      simp only [runT, h1, if_pos, armT, tryTu, ZT.note]
      rw [show ZT.sh ⟨k, { x with slab := (x.slab.try k.t.slot k.saw 3).1 }, ws, p⟩ = i from hsh, show ZT.wh ⟨k, { x with slab := (x.slab.try k.t.slot k.saw 3).1 }, ws, p⟩ = S from hwh]
      exact if_pos h1
    rw [hz2]
    have hz : repT L kb pv e ⟨k, x, ws, p⟩ gK gF := ⟨gd, gC, gW, gP, hd, hx, hw, hpp, hgK, hgF⟩
    clear hx hw hd hpp hgK hgF
    have har : ∀ gC gW, isCore L { x with slab := (x.slab.try k.t.slot k.saw 3).1 } gC → isWheels L ws gW → _ := fun gC gW hx hw => turnArm (kb := kb) (pv := pv) (k := k) hx hw hq hs hS hwo HS0.out HDL.out HTR.out
    have HSV := Lib.hid hsv
    clear ho hh hs0 hb hz2 hki hq hs hS hsv hsh hss hwh hwo hrb ht0 ht1
    unfold MRT
    obtain ⟨gd, gC, gW, gP, hd, hx, hw, hpp, rfl, rfl⟩ := hz
    intro w hw
    have T0 := TG.refl hw
    have HT := Lib.hid T0
    clear hw T0
    have HT := Lib.hid (HT.out.sum (H' := [turnB kb L.fb pv (sVal L k) k, gd, e.1, gC, gW, gP]) (fun n ha h0 h1 h2 => by simp only [SU, ha, h0, h1, h2] <;> omega))
    have HX := Lib.hid hx
    have HD := Lib.hid hd
    have HW := Lib.hid hw
    have HPP := Lib.hid hpp
    clear hx hd hw hpp
    have HAR := Lib.hid har
    have hlk := turnTry (kb := kb) (pv := pv) (sv := sVal L k) HX.out HO.out HSW.out 3
    rw [hc] at hlk
    rw [HSV.out] at hlk
    have HTo := HT.out
    rw [HSV.out] at HTo
    have HT := Lib.hid HTo
    have HLK := Lib.hid hlk
    clear hlk hc har HTo
    generalize (x.slab.try k.t.slot k.saw 3).1 = sl at *
    generalize S.place (armE S k.t) = S1 at *
    generalize armD S k.t = dl1 at *
    have b0 := HT.out.mem_cell 2 HB.out 0
    have ltb := HT.out.mem_lt 2 HB.out
    simp only [List.getElem?_toArray, List.getElem?_cons_zero] at b0 ltb
    go_enter Tryz.func299, Tryz.ntmps299
    go_wp2_with fail
    refine (DoesG.use (HLK.out) (HT.out.alloc (k := w.heap.size) rfl _ _) [0, 3] rfl rfl).mono ?_
    rintro e w1 ⟨gs, ⟨rfl, g1, hx1, rfl⟩, Ta⟩
    simp only [PU] at Ta
    have HX := Lib.hid hx1
    clear hx1 b0 ltb
    have HT := Lib.hid Ta
    clear Ta
    have b0 := HT.out.mem_cell 2 HB.out 0
    simp only [List.getElem?_toArray, List.getElem?_cons_zero] at b0
    go_wp2_with fail
    refine (DoesG.use (HAR.out _ _ HX.out HW.out) (HT.out) [0, 3, 4] rfl rfl).mono ?_
    rintro e w1 ⟨gs, ⟨rfl, g2, gW2, hx2, hw2, rfl⟩, Ta⟩
    simp only [PU] at Ta
    have HX := Lib.hid hx2
    have HW := Lib.hid hw2
    clear hx2 hw2 b0
    have HT := Lib.hid Ta
    clear Ta
    have r0 := HT.out.cell 6 0 rfl 0
    have fr0 := HT.out.free 6 0 rfl 0
    have r1 := HT.out.cell 6 0 rfl 1
    have fr1 := HT.out.free 6 0 rfl 1
    simp only [List.getElem?_nil, List.getElem?_toArray, List.getElem?_cons_zero, List.getElem?_cons_succ] at r0 r1
    go_wp2
    have HF := (((HT.out.set 6 0 rfl 0 .nilFunc).set 6 0 rfl 1 .nilFunc).pick [0, 1, 2, 3, 4, 5] rfl)
    rw [← HSV.out] at HF
    exact bodyPost_ret (v := .agg #[_, _]) (by simp [results, Tryz.results299, go_sem, r0, r1]) rfl ⟨_, ⟨e, leT.refl e, _, _, [], _, _, rfl, ⟨rfl, rfl, rfl⟩, ⟨gd, _, _, gP, HD.out, HX.out, HW.out, HPP.out, rfl, rfl⟩, rfl⟩, HF.sum2 (fun n ha h0 h1 h2 => by simp only [SU, ha, h0, h1, h2] <;> omega)⟩
end
end Go.Proofs.YtblhfbcodbjgcaaGreat

namespace Go.Proofs.YtblhfbcodbjgcaaGreat
set_option linter.unusedVariables false
set_option linter.unusedSimpArgs false
open Go.RowKit Go.Shelf
theorem firesT_eq (d i : Nat) (k : TurnS) (x : CoreS) (ws : List WheelS) (p : PipeS) :
    ∃ st k', firesT d i ⟨k, x, ws, p⟩ = (st, ⟨k', x, ws, p⟩) ∧ k'.s = k.s ∧ k'.nd = k.nd ∧ k'.due = k.due := by
  unfold firesT
  split
  · exact ⟨_, _, rfl, rfl, rfl, rfl⟩
  · exact ⟨_, _, rfl, rfl, rfl, rfl⟩
theorem isDue.of {ds : List Nat} {k k' : TurnS} {g : List Blk} (h : isDue ds k g) (h1 : k'.nd = k.nd) (h2 : k'.due = k.due) : isDue ds k' g := by
  unfold isDue at *
  rw [h1, h2]
  exact h
theorem sVal.of {L : Lay} {k k' : TurnS} (h : k'.s = k.s) : sVal L k' = sVal L k := by
  unfold sVal; rw [h]
section
variable {L : Lay} {x : CoreS} {ws : List WheelS} {p : PipeS} {e : ET} {g gC gK gF : List Blk} {kb : Nat} {pv sv : Value} {k : TurnS}
set_option maxRecDepth 100000 in
set_option maxHeartbeats 4000000 in
theorem tFires1 (d i : Nat) (hz : repT L kb pv e ⟨k, x, ws, p⟩ gK gF) (hp : preT (.fires1 d i) ⟨k, x, ws, p⟩) (bk bp bi bd : Nat) (hb : kBox kb bk e) (hbd : e.2[d]? = some bd)
    (hbp : cl bp 347 #[ptr' bd] ∈ e.1) (hbi : cl bi 3 #[.int .i64 i] ∈ e.1) :
    DoesG Tryz.prog 288 #[ptr' bk, ptr' bp, ptr' bi] [gK, gF] (MRT L kb pv e (runT (.fires1 d i) ⟨k, x, ws, p⟩).1 (runT (.fires1 d i) ⟨k, x, ws, p⟩).2) := by
  have hc : k.nd = d + 1 := hp.2.2.1
  have hi : i ≤ 1000000 := hp.2.2.2
  clear hp
  obtain ⟨gd, gC, gW, gP, hd, hx, hw, hpp, rfl, rfl⟩ := hz
  obtain ⟨v, gr, hr, rfl⟩ := due_cur hd hc hbd
  have hfi := sFires (L := L) (x := x) (ws := ws) (p := p) (kb := kb) (pv := pv) (sv := sVal L k) (k := k) d bd (i + 1) v gr hr (by omega)
  unfold FiR at hfi
  rw [show runT (.fires1 d i) ⟨k, x, ws, p⟩ = firesT d (i + 1) ⟨k, x, ws, p⟩ from rfl]
  obtain ⟨st, k', he, hks, hknd, hkdu⟩ := firesT_eq d (i + 1) k x ws p
  rw [he] at hfi ⊢
  dsimp only at hfi ⊢
  rw [show (((i + 1 : Nat) : Int)) = (i : Int) + 1 by omega, ← sVal.of (L := L) hks] at hfi
  have hd' := hd.of hknd hkdu
  unfold MRT
  rw [← sVal.of (L := L) hks]
  intro w hw
  have T0 := TG.refl hw
  have HT := Lib.hid T0
  clear hw T0
  have HFI := Lib.hid hfi
  have HT := Lib.hid (HT.out.sum (H' := [turnB kb L.fb pv (sVal L k') k, [cl bd 343 #[v]], gr, e.1, gC, gW, gP]) (fun n ha h0 h1 h2 => by simp only [SU, ha, h0, h1, h2] <;> omega))
  have HX := Lib.hid hx
  have HD := Lib.hid hd'
  have HW := Lib.hid hw
  have HPP := Lib.hid hpp
  have HBD := Lib.hid hbd
  have b0 := HT.out.mem_cell 3 hb 0
  have p0 := HT.out.mem_cell 3 hbp 0
  have i0 := HT.out.mem_cell 3 hbi 0
  have ltb := HT.out.mem_lt 3 hb
  have ltp := HT.out.mem_lt 3 hbp
  have lti := HT.out.mem_lt 3 hbi
  simp only [List.getElem?_toArray, List.getElem?_cons_zero] at b0 ltb p0 ltp i0 lti
  clear hx hd hw hpp hfi hr hc hb hbp hbi hbd hd' he hks hknd hkdu
  go_enter Tryz.func288, Tryz.ntmps288
  go_wp2_with fail
  refine (DoesG.use (HFI.out) (HT.out.alloc (k := w.heap.size) rfl _ _) [0, 1, 2] rfl rfl).mono ?_
  rintro e w1 ⟨gs, ⟨g2, l2, m2, d2, rfl, hs2, rfl⟩, Ta⟩
  simp only [PU] at Ta
  clear b0 ltb p0 ltp i0 lti
  have HT := Lib.hid Ta
  clear Ta
  have HS := Lib.hid (hs2 (e.1 ++ l2, e.2) (fun b hb => List.mem_append_right _ hb) HBD.out)
  have HT := Lib.hid (HT.out.sum2 (H' := [turnB kb L.fb pv (sVal L k') k', [cl bd 343 #[v]] ++ gr, e.1, gC, gW, gP, [cl w.heap.size 148 #[.nilFunc, .nilFunc]], l2, g2]) (fun n ha h0 h1 h2 => by simp only [SU, ha, h0, h1, h2] <;> omega))
  clear hs2
  have r0 := HT.out.cell 6 0 rfl 0
  have fr0 := HT.out.free 6 0 rfl 0
  have r1 := HT.out.cell 6 0 rfl 1
  have fr1 := HT.out.free 6 0 rfl 1
  simp only [List.getElem?_nil, List.getElem?_toArray, List.getElem?_cons_zero, List.getElem?_cons_succ] at r0 r1
  have hv2 := (cliT_vals L kb pv _).vals HS.out
  obtain ⟨st1, st2⟩ := Cli.store_fv2 (P := Tryz.prog) hv2.1 hv2.2 r0 fr0 r1 fr1
  clear hv2
  go_wp2
  exact bodyPost_ret (v := .agg #[_, _]) (by simp [results, Tryz.results288, go_sem, r0, r1]) rfl ⟨_, ⟨(e.1 ++ l2, e.2), leT.app e l2, _, _, g2, _, _, rfl, HS.out, ⟨_, gC, gW, gP, HD.out, HX.out, HW.out, HPP.out, rfl, rfl⟩, rfl⟩, (((HT.out.set 6 0 rfl 0 _).set 6 0 rfl 1 _).pick [8, 0, 1, 2, 7, 3, 4, 5] rfl).sum2 (fun n ha h0 h1 h2 => by simp only [SU, ha, h0, h1, h2] <;> omega)⟩
set_option maxRecDepth 100000 in
set_option maxHeartbeats 4000000 in
theorem sRearms (next : Int) (hz : repT L kb pv e ⟨k, x, ws, p⟩ gK gF) (hp : preT (.rearm1 next) ⟨k, x, ws, p⟩) :
    DoesG Tryz.prog 338 #[ptr' kb, .int .u64 next] [gK, gF] (MRT L kb pv e (runT (.rearm1 next) ⟨k, x, ws, p⟩).1 (runT (.rearm1 next) ⟨k, x, ws, p⟩).2) := by
  obtain ⟨ho, hh, hs0, hn0, hn1⟩ := hp
  have HO := Lib.hid ho.core
  have HSW := Lib.hid (show 0 ≤ k.saw ∧ k.saw < 18446744073709551616 from ⟨ho.saw.1, ho.saw.2.1⟩)
  have HTR := Lib.hid (show x.tr.length ≤ 1000000 from ho.core.tr)
  have HS0 := Lib.hid (show 0 ≤ k.t.slot from hs0)
  have HN := Lib.hid (And.intro hn0 hn1)
  have hg0 : 0 ≤ k.t.gen := ho.t.gen.1
  have hg1 : k.t.gen ≤ 4294967296 := ho.t.gen.2
  cases hc : ((x.slab.try k.t.slot k.saw 5).2.2 == 0) with
  | false =>
    rw [show runT (.rearm1 next) ⟨k, x, ws, p⟩ = (.at none .behind, ⟨k, { x with slab := (x.slab.try k.t.slot k.saw 5).1 }, ws, p⟩) by simp [runT, tryTu, hc]]
    unfold MRT
    clear ho hh hs0 hn0 hn1 hg0 hg1
    obtain ⟨gd, gC, gW, gP, hd, hx, hw, hpp, rfl, rfl⟩ := hz
    intro w hw
    have T0 := TG.refl hw
    have HT := Lib.hid T0
    clear hw T0
    have HT := Lib.hid (HT.out.sum (H' := [turnB kb L.fb pv (sVal L k) k, gd, e.1, gC, gW, gP]) (fun n ha h0 h1 h2 => by simp only [SU, ha, h0, h1, h2] <;> omega))
    have HX := Lib.hid hx
    have HD := Lib.hid hd
    have HW := Lib.hid hw
    have HPP := Lib.hid hpp
    clear hx hd hw hpp
    have hlk := turnTry (kb := kb) (pv := pv) (sv := sVal L k) HX.out HO.out HSW.out 5
    rw [hc] at hlk
    have HLK := Lib.hid hlk
    clear hlk hc
    go_enter Tryz.func338, Tryz.ntmps338
    go_wp2_with fail
    refine (DoesG.use (HLK.out) (HT.out.alloc (k := w.heap.size) rfl _ _) [0, 3] rfl rfl).mono ?_
    rintro e w1 ⟨gs, ⟨rfl, g1, hx1, rfl⟩, Ta⟩
    simp only [PU] at Ta
    have HX := Lib.hid hx1
    clear hx1
    have HT := Lib.hid Ta
    clear Ta
    go_wp2_with fail
    refine (DoesG.use (at_g _ _ _) (HT.out) [] rfl rfl).mono ?_
    rintro e w1 ⟨gs, ⟨rfl, rfl⟩, Ta⟩
    simp only [PU] at Ta
    have HT := Lib.hid Ta
    clear Ta
    have r0 := HT.out.cell 6 0 rfl 0
    have fr0 := HT.out.free 6 0 rfl 0
    have r1 := HT.out.cell 6 0 rfl 1
    have fr1 := HT.out.free 6 0 rfl 1
    simp only [List.getElem?_nil, List.getElem?_toArray, List.getElem?_cons_zero, List.getElem?_cons_succ] at r0 r1
    go_wp2
    exact bodyPost_ret (v := .agg #[_, _]) (by simp [results, Tryz.results338, go_sem, r0, r1]) rfl ⟨_, ⟨e, leT.refl e, _, _, [], _, _, rfl, ⟨rfl, rfl, rfl⟩, ⟨gd, _, _, gP, HD.out, HX.out, HW.out, HPP.out, (rfl : turnB kb L.fb pv (sVal L k) k ++ (gd ++ e.1) = _), rfl⟩, rfl⟩, (((HT.out.set 6 0 rfl 0 _).set 6 0 rfl 1 _).pick [0, 1, 2, 3, 4, 5] rfl).sum2 (fun n ha h0 h1 h2 => by simp only [SU, ha, h0, h1, h2] <;> omega)⟩
  | true =>
    obtain ⟨gd, gC, gW, gP, hd, hx, hw, hpp, hgK, hgF⟩ := hz
    obtain ⟨i, q, s, S, hki, hq, hs, hS, hsv, hsh, hss, hwh, hwo, hrb, ht0, ht1⟩ := turn_sh hx hw ho hh
    have hz2 : runT (.rearm1 next) ⟨k, x, ws, p⟩ = (.nil, ⟨{ k with t := { k.t with gen := k.t.gen + 1, dl := next } }, { x with slab := (x.slab.try k.t.slot k.saw 5).1, tr := x.tr ++ [evT k { ev0 with kind := 4, id := k.t.id, gen := k.t.gen + 1, dl := armD S { k.t with gen := k.t.gen + 1, dl := next } }] }, ws.set i (S.place (armE S { k.t with gen := k.t.gen + 1, dl := next })), p⟩) := by
      have h1 : (tryTu 5 ⟨k, x, ws, p⟩).2 = true := hc
      simp only [runT, h1, if_pos, armT, tryTu, ZT.note]
      rw [show ZT.sh ⟨{ k with t := { k.t with gen := k.t.gen + 1, dl := next } }, { x with slab := (x.slab.try k.t.slot k.saw 5).1 }, ws, p⟩ = i from hsh, show ZT.wh ⟨{ k with t := { k.t with gen := k.t.gen + 1, dl := next } }, { x with slab := (x.slab.try k.t.slot k.saw 5).1 }, ws, p⟩ = S from hwh]
      exact if_pos h1
    rw [hz2]
    have hz : repT L kb pv e ⟨k, x, ws, p⟩ gK gF := ⟨gd, gC, gW, gP, hd, hx, hw, hpp, hgK, hgF⟩
    clear hx hw hd hpp hgK hgF
    have har : ∀ gC gW, isCore L { x with slab := (x.slab.try k.t.slot k.saw 5).1 } gC → isWheels L ws gW → _ := fun gC gW hx hw => turnArm (kb := kb) (pv := pv) (k := { k with t := { k.t with gen := k.t.gen + 1, dl := next } }) hx hw hq hs hS hwo HS0.out HN.out HTR.out
    have HSV := Lib.hid hsv
    clear ho hh hs0 hz2 hki hq hs hS hsv hsh hss hwh hwo hrb ht0 ht1
    unfold MRT
    obtain ⟨gd, gC, gW, gP, hd, hx, hw, hpp, rfl, rfl⟩ := hz
    intro w hw
    have T0 := TG.refl hw
    have HT := Lib.hid T0
    clear hw T0
    have HT := Lib.hid (HT.out.sum (H' := [turnB kb L.fb pv (sVal L k) k, gd, e.1, gC, gW, gP]) (fun n ha h0 h1 h2 => by simp only [SU, ha, h0, h1, h2] <;> omega))
    have HX := Lib.hid hx
    have HD := Lib.hid hd
    have HW := Lib.hid hw
    have HPP := Lib.hid hpp
    clear hx hd hw hpp
    have HAR := Lib.hid har
    have hlk := turnTry (kb := kb) (pv := pv) (sv := sVal L k) HX.out HO.out HSW.out 5
    rw [hc] at hlk
    rw [HSV.out] at hlk
    have HTo := HT.out
    rw [HSV.out] at HTo
    have HT := Lib.hid HTo
    have HLK := Lib.hid hlk
    clear hlk hc har HTo
    generalize (x.slab.try k.t.slot k.saw 5).1 = sl at *
    generalize S.place (armE S { k.t with gen := k.t.gen + 1, dl := next }) = S1 at *
    generalize armD S { k.t with gen := k.t.gen + 1, dl := next } = dl1 at *
    go_enter Tryz.func338, Tryz.ntmps338
    go_wp2_with fail
    refine (DoesG.use (HLK.out) (HT.out.alloc (k := w.heap.size) rfl _ _) [0, 3] rfl rfl).mono ?_
    rintro e w1 ⟨gs, ⟨rfl, g1, hx1, rfl⟩, Ta⟩
    simp only [PU] at Ta
    have HX := Lib.hid hx1
    clear hx1
    have HT := Lib.hid Ta
    clear Ta
    have k13 := HT.out.cell 0 0 rfl 13
    have fk13 := HT.out.free 0 0 rfl 13
    have k14 := HT.out.cell 0 0 rfl 14
    have fk14 := HT.out.free 0 0 rfl 14
    simp only [turnC, List.getElem?_toArray, List.getElem?_cons_zero, List.getElem?_cons_succ] at k13 k14
    go_wp2_with fail
    refine (DoesG.use (HAR.out _ _ HX.out HW.out) (((HT.out.set 0 0 rfl 13 (.int .u64 (k.t.gen + 1))).set 0 0 rfl 14 (.int .u64 next)).eq (H' := [turnB kb L.fb pv (ptr' q.b) { k with t := { k.t with gen := k.t.gen + 1, dl := next } }, gd, e.1, g1, gW, gP, [cl w.heap.size 148 #[.nilFunc, .nilFunc]]]) rfl) [0, 3, 4] rfl rfl).mono ?_
    rintro e w1 ⟨gs, ⟨rfl, g2, gW2, hx2, hw2, rfl⟩, Ta⟩
    simp only [PU] at Ta
    have HX := Lib.hid hx2
    have HW := Lib.hid hw2
    clear hx2 hw2 k13 k14 fk13 fk14
    have HT := Lib.hid Ta
    clear Ta
    have r0 := HT.out.cell 6 0 rfl 0
    have fr0 := HT.out.free 6 0 rfl 0
    have r1 := HT.out.cell 6 0 rfl 1
    have fr1 := HT.out.free 6 0 rfl 1
    simp only [List.getElem?_nil, List.getElem?_toArray, List.getElem?_cons_zero, List.getElem?_cons_succ] at r0 r1
    go_wp2
    have HF := (((HT.out.set 6 0 rfl 0 .nilFunc).set 6 0 rfl 1 .nilFunc).pick [0, 1, 2, 3, 4, 5] rfl)
    rw [← HSV.out] at HF
    exact bodyPost_ret (v := .agg #[_, _]) (by simp [results, Tryz.results338, go_sem, r0, r1]) rfl ⟨_, ⟨e, leT.refl e, _, _, [], _, _, rfl, ⟨rfl, rfl, rfl⟩, ⟨gd, _, _, gP, HD.out, HX.out, HW.out, HPP.out, (rfl : turnB kb L.fb pv (sVal L k) { k with t := { k.t with gen := k.t.gen + 1, dl := next } } ++ (gd ++ e.1) = _), rfl⟩, rfl⟩, HF.sum2 (fun n ha h0 h1 h2 => by simp only [SU, ha, h0, h1, h2] <;> omega)⟩
set_option maxRecDepth 100000 in
set_option maxHeartbeats 4000000 in
theorem tRearm1 (next : Int) (hz : repT L kb pv e ⟨k, x, ws, p⟩ gK gF) (hp : preT (.rearm1 next) ⟨k, x, ws, p⟩) (bk bn : Nat) (hb : kBox kb bk e) (hbn : cl bn 36 #[.int .u64 next] ∈ e.1) :
    DoesG Tryz.prog 337 #[ptr' bk, ptr' bn] [gK, gF] (MRT L kb pv e (runT (.rearm1 next) ⟨k, x, ws, p⟩).1 (runT (.rearm1 next) ⟨k, x, ws, p⟩).2) := by
  have hre := sRearms next hz hp
  generalize (runT (.rearm1 next) ⟨k, x, ws, p⟩).1 = st at *
  generalize (runT (.rearm1 next) ⟨k, x, ws, p⟩).2 = z2 at *
  obtain ⟨gd, gC, gW, gP, hd, hx, hw, hpp, rfl, rfl⟩ := hz
  clear hd hx hw hpp hp
  unfold MRT at *
  intro w hw
  have T0 := TG.refl hw
  have HT := Lib.hid T0
  clear hw T0
  have HRE := Lib.hid hre
  have h1 : ∀ b, b ∈ e.1 → b ∈ turnB kb L.fb pv (sVal L k) k ++ (gd ++ e.1) := fun b hb => List.mem_append_right _ (List.mem_append_right _ hb)
  have b0 := HT.out.mem_cell 0 (h1 _ hb) 0
  have n0 := HT.out.mem_cell 0 (h1 _ hbn) 0
  have ltb := HT.out.mem_lt 0 (h1 _ hb)
  have ltn := HT.out.mem_lt 0 (h1 _ hbn)
  simp only [List.getElem?_toArray, List.getElem?_cons_zero] at b0 ltb n0 ltn
  clear hre h1 hb hbn
  go_enter Tryz.func337, Tryz.ntmps337
  go_wp2_with fail
  refine (DoesG.use (HRE.out) (HT.out.alloc (k := w.heap.size) rfl _ _) [0, 1] rfl rfl).mono ?_
  rintro e w1 ⟨gs, ⟨e2, hl2, m3, d3, g3, gK3, gF3, rfl, hs3, hz3, rfl⟩, Ta⟩
  simp only [PU] at Ta
  have HL2 := Lib.hid hl2
  have HZ3 := Lib.hid hz3
  clear hl2 hz3 b0 n0 ltb ltn
  have HT := Lib.hid Ta
  clear Ta
  have r0 := HT.out.cell 2 0 rfl 0
  have fr0 := HT.out.free 2 0 rfl 0
  have r1 := HT.out.cell 2 0 rfl 1
  have fr1 := HT.out.free 2 0 rfl 1
  simp only [List.getElem?_nil, List.getElem?_toArray, List.getElem?_cons_zero, List.getElem?_cons_succ] at r0 r1
  have hv2 := (cliT_vals L kb pv e2).vals hs3
  obtain ⟨st1, st2⟩ := Cli.store_fv2 (P := Tryz.prog) hv2.1 hv2.2 r0 fr0 r1 fr1
  have HS := Lib.hid hs3
  clear hv2 hs3
  go_wp2
  exact bodyPost_ret (v := .agg #[_, _]) (by simp [results, Tryz.results337, go_sem, r0, r1]) rfl ⟨_, ⟨e2, HL2.out, m3, d3, g3, gK3, gF3, rfl, HS.out, HZ3.out, rfl⟩, ((HT.out.set 2 0 rfl 0 _).set 2 0 rfl 1 _).pick [0, 1, 3] rfl⟩
end
end Go.Proofs.YtblhfbcodbjgcaaGreat

namespace Go.Proofs.YtblhfbcodbjgcaaGreat
set_option linter.unusedVariables false
set_option linter.unusedSimpArgs false
open Go.RowKit Go.Shelf
section
variable {L : Lay} {x : CoreS} {ws : List WheelS} {p : PipeS} {e : ET} {g gC gK gF : List Blk} {kb : Nat} {pv sv : Value} {k : TurnS}
set_option maxRecDepth 100000 in
set_option maxHeartbeats 4000000 in
theorem tFinishes (hz : repT L kb pv e ⟨k, x, ws, p⟩ gK gF) (hp : preT .finishes ⟨k, x, ws, p⟩) :
    DoesG Tryz.prog 339 #[ptr' kb] [gK, gF] (MRT L kb pv e (runT .finishes ⟨k, x, ws, p⟩).1 (runT .finishes ⟨k, x, ws, p⟩).2) := by
  obtain ⟨ho, _⟩ := hp
  have HO := Lib.hid ho.core
  have HSW := Lib.hid (show 0 ≤ k.saw ∧ k.saw < 18446744073709551616 from ⟨ho.saw.1, ho.saw.2.1⟩)
  have HTR := Lib.hid (show x.tr.length ≤ 1000000 from ho.core.tr)
  have HPE := Lib.hid (show 0 ≤ k.t.per ∧ k.t.per < 18446744073709551616 from ho.t.per)
  clear ho
  cases hc : ((x.slab.try k.t.slot k.saw 9).2.2 == 0) with
  | false =>
    rw [show runT .finishes ⟨k, x, ws, p⟩ = (.at none .behind, ⟨k, { x with slab := (x.slab.try k.t.slot k.saw 9).1 }, ws, p⟩) by simp [runT, tryTu, hc]]
    unfold MRT
    obtain ⟨gd, gC, gW, gP, hd, hx, hw, hpp, rfl, rfl⟩ := hz
    intro w hw
    have T0 := TG.refl hw
    have HT := Lib.hid T0
    clear hw T0
    have HT := Lib.hid (HT.out.sum (H' := [turnB kb L.fb pv (sVal L k) k, gd, e.1, gC, gW, gP]) (fun n ha h0 h1 h2 => by simp only [SU, ha, h0, h1, h2] <;> omega))
    have HX := Lib.hid hx
    have HD := Lib.hid hd
    have HW := Lib.hid hw
    have HPP := Lib.hid hpp
    clear hx hd hw hpp
    have hlk := turnTry (kb := kb) (pv := pv) (sv := sVal L k) HX.out HO.out HSW.out 9
    rw [hc] at hlk
    have HLK := Lib.hid hlk
    clear hlk hc
    generalize (x.slab.try k.t.slot k.saw 9).1 = sl at *
    go_enter Tryz.func339, Tryz.ntmps339
    go_wp2_with fail
    refine (DoesG.use (HLK.out) ((HT.out.alloc (k := w.heap.size) rfl 56 #[ptr' kb]).alloc (k := w.heap.size + 1) (by simp) 148 #[.nilFunc, .nilFunc]) [0, 3] rfl rfl).mono ?_
    rintro e w1 ⟨gs, ⟨rfl, g1, hx1, rfl⟩, Ta⟩
    simp only [PU] at Ta
    have HX := Lib.hid hx1
    clear hx1
    have HT := Lib.hid Ta
    clear Ta
    have b0 := HT.out.cell 6 0 rfl 0
    simp only [List.getElem?_nil, List.getElem?_toArray, List.getElem?_cons_zero, List.getElem?_cons_succ] at b0
    go_wp2_with fail
    refine (DoesG.use (at_g _ _ _) (HT.out) [] rfl rfl).mono ?_
    rintro e w1 ⟨gs, ⟨rfl, rfl⟩, Ta⟩
    simp only [PU] at Ta
    have HT := Lib.hid Ta
    clear Ta
    have r0 := HT.out.cell 7 0 rfl 0
    have fr0 := HT.out.free 7 0 rfl 0
    have r1 := HT.out.cell 7 0 rfl 1
    have fr1 := HT.out.free 7 0 rfl 1
    simp only [List.getElem?_nil, List.getElem?_toArray, List.getElem?_cons_zero, List.getElem?_cons_succ] at r0 r1
    go_wp2
    exact bodyPost_ret (v := .agg #[_, _]) (by simp [results, Tryz.results339, go_sem, r0, r1]) rfl ⟨_, ⟨e, leT.refl e, _, _, [], _, _, rfl, ⟨rfl, rfl, rfl⟩, ⟨gd, _, _, gP, HD.out, HX.out, HW.out, HPP.out, (rfl : turnB kb L.fb pv (sVal L k) k ++ (gd ++ e.1) = _), rfl⟩, rfl⟩, (((HT.out.set 7 0 rfl 0 _).set 7 0 rfl 1 _).pick [0, 1, 2, 3, 4, 5] rfl).sum2 (fun n ha h0 h1 h2 => by simp only [SU, ha, h0, h1, h2] <;> omega)⟩
  | true =>
    have hz2 : runT .finishes ⟨k, x, ws, p⟩ = (.row2 .rel .drop, if 0 < k.t.per ∧ lastW k.saw = false then ⟨k, { x with slab := (x.slab.try k.t.slot k.saw 9).1, tr := x.tr ++ [evT k { ev0 with kind := 14, id := k.t.id, gen := k.t.gen }] }, ws, p⟩ else ⟨k, { x with slab := (x.slab.try k.t.slot k.saw 9).1 }, ws, p⟩) := by
      have h1 : (tryTu 9 ⟨k, x, ws, p⟩).2 = true := hc
      simp only [runT, tryTu, ZT.note]
      exact if_pos h1
    rw [hz2]
    clear hz2
    have HLS := Lib.hid (lastR k.saw HSW.out.1 HSW.out.2)
    have HNT := Lib.hid (show ∀ g, isCore L { x with slab := (x.slab.try k.t.slot k.saw 9).1 } g → _ from fun g hg => turnNote (kb := kb) (pv := pv) (sv := sVal L k) (k := k) (gC := g) hg { ev0 with kind := 14, id := k.t.id, gen := k.t.gen } HTR.out)
    by_cases hper : 0 < k.t.per
    · cases hl : lastW k.saw with
      | false =>
        rw [if_pos ⟨hper, rfl⟩]
        rw [hl] at HLS
        clear hl HPE
        unfold MRT
        obtain ⟨gd, gC, gW, gP, hd, hx, hw, hpp, rfl, rfl⟩ := hz
        intro w hw
        have T0 := TG.refl hw
        have HT := Lib.hid T0
        clear hw T0
        have HT := Lib.hid (HT.out.sum (H' := [turnB kb L.fb pv (sVal L k) k, gd, e.1, gC, gW, gP]) (fun n ha h0 h1 h2 => by simp only [SU, ha, h0, h1, h2] <;> omega))
        have HX := Lib.hid hx
        have HD := Lib.hid hd
        have HW := Lib.hid hw
        have HPP := Lib.hid hpp
        clear hx hd hw hpp
        have hlk := turnTry (kb := kb) (pv := pv) (sv := sVal L k) HX.out HO.out HSW.out 9
        rw [hc] at hlk
        have HLK := Lib.hid hlk
        clear hlk hc
        generalize (x.slab.try k.t.slot k.saw 9).1 = sl at *
        go_enter Tryz.func339, Tryz.ntmps339
        go_wp2_with fail
        refine (DoesG.use (HLK.out) ((HT.out.alloc (k := w.heap.size) rfl 56 #[ptr' kb]).alloc (k := w.heap.size + 1) (by simp) 148 #[.nilFunc, .nilFunc]) [0, 3] rfl rfl).mono ?_
        rintro e w1 ⟨gs, ⟨rfl, g1, hx1, rfl⟩, Ta⟩
        simp only [PU] at Ta
        have HX := Lib.hid hx1
        clear hx1
        have HT := Lib.hid Ta
        clear Ta
        have b0 := HT.out.cell 6 0 rfl 0
        simp only [List.getElem?_nil, List.getElem?_toArray, List.getElem?_cons_zero, List.getElem?_cons_succ] at b0
        have k15 := HT.out.cell 0 0 rfl 15
        have k16 := HT.out.cell 0 0 rfl 16
        simp only [turnC, List.getElem?_toArray, List.getElem?_cons_zero, List.getElem?_cons_succ] at k15 k16
        go_wp2_with fail
        refine (ReadsG.use (HLS.out) (HT.out) [] rfl rfl).mono ?_
        rintro e w1 ⟨rfl, mq, rfl⟩
        have HT := Lib.hid (HT.out.drewN mq)
        generalize World.drewN _ _ = wq at HT ⊢
        clear b0 k15 k16 hper
        have b0 := HT.out.cell 6 0 rfl 0
        simp only [List.getElem?_nil, List.getElem?_toArray, List.getElem?_cons_zero, List.getElem?_cons_succ] at b0
        have k11 := HT.out.cell 0 0 rfl 11
        have k13 := HT.out.cell 0 0 rfl 13
        simp only [turnC, List.getElem?_toArray, List.getElem?_cons_zero, List.getElem?_cons_succ] at k11 k13
        go_wp2_with fail
        refine wp_region_mix1 12 (by kernel_rfl) (by kernel_rfl) ?_
        simp only [List.take_succ_cons, List.take_zero, List.drop_succ_cons, List.drop_zero]
        repeat (go_big_quiet_step ((fail)))
        refine wpQuiet_nil ?_
        intro _ hw'
        obtain ⟨nq, hw''⟩ := hw'
        subst hw''
        have HT := Lib.hid (HT.out.drewN nq)
        have hnt := HNT.out _ HX.out
        simp only [EvS.cells, ev0] at hnt
        go_wp2_with fail
        refine (DoesG.use (hnt) (HT.out) [0, 3] rfl rfl).mono ?_
        rintro e w1 ⟨gs, ⟨rfl, g2, hx2, rfl⟩, Ta⟩
        simp only [PU] at Ta
        have HX := Lib.hid hx2
        clear hx2 b0 k11 k13
        have HT := Lib.hid Ta
        clear Ta
        go_wp2_with fail
        refine ⟨rfl, ?_⟩
        obtain ⟨wz, rfl⟩ : ∃ wz, wz = w1 := ⟨_, rfl⟩
        go_wp2_with fail
        refine (DoesG.use (Cli.row_1 (b := wz.heap.size) (o := 0) (D := #[.func (.func 342) #[] #[ptr' w.heap.size], .func (.func 343) #[] #[ptr' w.heap.size]]) rfl 2 (.inr rfl)) (HT.out.alloc (k := wz.heap.size) rfl _ _) [8] rfl rfl).mono ?_
        rintro e w1 ⟨gs, ⟨bf, bl, bi, rfl, rfl⟩, Ta⟩
        simp only [PU] at Ta
        have HT := Lib.hid Ta
        clear Ta
        have r0 := HT.out.cell 7 0 rfl 0
        have fr0 := HT.out.free 7 0 rfl 0
        have r1 := HT.out.cell 7 0 rfl 1
        have fr1 := HT.out.free 7 0 rfl 1
        simp only [List.getElem?_nil, List.getElem?_toArray, List.getElem?_cons_zero, List.getElem?_cons_succ] at r0 r1
        go_wp2
        exact bodyPost_ret (v := .agg #[.nilFunc, _]) (by simp [results, Tryz.results339, go_sem, r0, r1]) rfl ⟨_, ⟨(e.1 ++ [cl w.heap.size 56 #[ptr' kb]], e.2), leT.app e _, _, _, _, _, _, rfl, ⟨rfl, bf, bl, bi, wz.heap.size, .func (.func 342) #[] #[ptr' w.heap.size], .func (.func 343) #[] #[ptr' w.heap.size], [], [], rfl, ⟨rfl, w.heap.size, rfl, List.mem_append_right _ (List.mem_cons_self ..)⟩, ⟨rfl, w.heap.size, rfl, List.mem_append_right _ (List.mem_cons_self ..)⟩, rfl⟩, ⟨gd, _, _, gP, HD.out, HX.out, HW.out, HPP.out, (rfl : turnB kb L.fb pv (sVal L k) k ++ (gd ++ (e.1 ++ [cl w.heap.size 56 #[ptr' kb]])) = _), rfl⟩, rfl⟩, (((HT.out.set 7 0 rfl 0 _).set 7 0 rfl 1 _).pick [9, 10, 11, 8, 0, 1, 2, 6, 3, 4, 5] rfl).sum2 (fun n ha h0 h1 h2 => by simp only [SU, ha, h0, h1, h2] <;> omega)⟩
      | true =>
        rw [if_neg (by simp)]
        rw [hl] at HLS
        clear hl HPE HNT
        unfold MRT
        obtain ⟨gd, gC, gW, gP, hd, hx, hw, hpp, rfl, rfl⟩ := hz
        intro w hw
        have T0 := TG.refl hw
        have HT := Lib.hid T0
        clear hw T0
        have HT := Lib.hid (HT.out.sum (H' := [turnB kb L.fb pv (sVal L k) k, gd, e.1, gC, gW, gP]) (fun n ha h0 h1 h2 => by simp only [SU, ha, h0, h1, h2] <;> omega))
        have HX := Lib.hid hx
        have HD := Lib.hid hd
        have HW := Lib.hid hw
        have HPP := Lib.hid hpp
        clear hx hd hw hpp
        have hlk := turnTry (kb := kb) (pv := pv) (sv := sVal L k) HX.out HO.out HSW.out 9
        rw [hc] at hlk
        have HLK := Lib.hid hlk
        clear hlk hc
        generalize (x.slab.try k.t.slot k.saw 9).1 = sl at *
        go_enter Tryz.func339, Tryz.ntmps339
        go_wp2_with fail
        refine (DoesG.use (HLK.out) ((HT.out.alloc (k := w.heap.size) rfl 56 #[ptr' kb]).alloc (k := w.heap.size + 1) (by simp) 148 #[.nilFunc, .nilFunc]) [0, 3] rfl rfl).mono ?_
        rintro e w1 ⟨gs, ⟨rfl, g1, hx1, rfl⟩, Ta⟩
        simp only [PU] at Ta
        have HX := Lib.hid hx1
        clear hx1
        have HT := Lib.hid Ta
        clear Ta
        have b0 := HT.out.cell 6 0 rfl 0
        simp only [List.getElem?_nil, List.getElem?_toArray, List.getElem?_cons_zero, List.getElem?_cons_succ] at b0
        have k15 := HT.out.cell 0 0 rfl 15
        have k16 := HT.out.cell 0 0 rfl 16
        simp only [turnC, List.getElem?_toArray, List.getElem?_cons_zero, List.getElem?_cons_succ] at k15 k16
        go_wp2_with fail
        refine (ReadsG.use (HLS.out) (HT.out) [] rfl rfl).mono ?_
        rintro e w1 ⟨rfl, mq, rfl⟩
        have HT := Lib.hid (HT.out.drewN mq)
        generalize World.drewN _ _ = wq at HT ⊢
        clear b0 k15 k16 hper
        go_wp2_with fail
        refine (DoesG.use (Cli.row_1 (b := wq.heap.size) (o := 0) (D := #[.func (.func 342) #[] #[ptr' w.heap.size], .func (.func 343) #[] #[ptr' w.heap.size]]) rfl 2 (.inr rfl)) (HT.out.alloc (k := wq.heap.size) rfl _ _) [8] rfl rfl).mono ?_
        rintro e w1 ⟨gs, ⟨bf, bl, bi, rfl, rfl⟩, Ta⟩
        simp only [PU] at Ta
        have HT := Lib.hid Ta
        clear Ta
        have r0 := HT.out.cell 7 0 rfl 0
        have fr0 := HT.out.free 7 0 rfl 0
        have r1 := HT.out.cell 7 0 rfl 1
        have fr1 := HT.out.free 7 0 rfl 1
        simp only [List.getElem?_nil, List.getElem?_toArray, List.getElem?_cons_zero, List.getElem?_cons_succ] at r0 r1
        go_wp2
        exact bodyPost_ret (v := .agg #[.nilFunc, _]) (by simp [results, Tryz.results339, go_sem, r0, r1]) rfl ⟨_, ⟨(e.1 ++ [cl w.heap.size 56 #[ptr' kb]], e.2), leT.app e _, _, _, _, _, _, rfl, ⟨rfl, bf, bl, bi, wq.heap.size, .func (.func 342) #[] #[ptr' w.heap.size], .func (.func 343) #[] #[ptr' w.heap.size], [], [], rfl, ⟨rfl, w.heap.size, rfl, List.mem_append_right _ (List.mem_cons_self ..)⟩, ⟨rfl, w.heap.size, rfl, List.mem_append_right _ (List.mem_cons_self ..)⟩, rfl⟩, ⟨gd, _, _, gP, HD.out, HX.out, HW.out, HPP.out, (rfl : turnB kb L.fb pv (sVal L k) k ++ (gd ++ (e.1 ++ [cl w.heap.size 56 #[ptr' kb]])) = _), rfl⟩, rfl⟩, (((HT.out.set 7 0 rfl 0 _).set 7 0 rfl 1 _).pick [9, 10, 11, 8, 0, 1, 2, 6, 3, 4, 5] rfl).sum2 (fun n ha h0 h1 h2 => by simp only [SU, ha, h0, h1, h2] <;> omega)⟩
    · rw [if_neg (fun h => hper h.1)]
      have hper0 : k.t.per = 0 := by have := HPE.out.1; omega
      clear HPE HNT HLS
      unfold MRT
      obtain ⟨gd, gC, gW, gP, hd, hx, hw, hpp, rfl, rfl⟩ := hz
      intro w hw
      have T0 := TG.refl hw
      have HT := Lib.hid T0
      clear hw T0
      have HT := Lib.hid (HT.out.sum (H' := [turnB kb L.fb pv (sVal L k) k, gd, e.1, gC, gW, gP]) (fun n ha h0 h1 h2 => by simp only [SU, ha, h0, h1, h2] <;> omega))
      have HX := Lib.hid hx
      have HD := Lib.hid hd
      have HW := Lib.hid hw
      have HPP := Lib.hid hpp
      clear hx hd hw hpp
      have hlk := turnTry (kb := kb) (pv := pv) (sv := sVal L k) HX.out HO.out HSW.out 9
      rw [hc] at hlk
      have HLK := Lib.hid hlk
      clear hlk hc
      generalize (x.slab.try k.t.slot k.saw 9).1 = sl at *
      go_enter Tryz.func339, Tryz.ntmps339
      go_wp2_with fail
      refine (DoesG.use (HLK.out) ((HT.out.alloc (k := w.heap.size) rfl 56 #[ptr' kb]).alloc (k := w.heap.size + 1) (by simp) 148 #[.nilFunc, .nilFunc]) [0, 3] rfl rfl).mono ?_
      rintro e w1 ⟨gs, ⟨rfl, g1, hx1, rfl⟩, Ta⟩
      simp only [PU] at Ta
      have HX := Lib.hid hx1
      clear hx1
      have HT := Lib.hid Ta
      clear Ta
      have b0 := HT.out.cell 6 0 rfl 0
      simp only [List.getElem?_nil, List.getElem?_toArray, List.getElem?_cons_zero, List.getElem?_cons_succ] at b0
      have k15 := HT.out.cell 0 0 rfl 15
      simp only [turnC, List.getElem?_toArray, List.getElem?_cons_zero, List.getElem?_cons_succ] at k15
      rw [hper0] at k15
      clear hper hper0
      obtain ⟨wz, rfl⟩ : ∃ wz, wz = w1 := ⟨_, rfl⟩
      go_wp2_with fail
      refine (DoesG.use (Cli.row_1 (b := wz.heap.size) (o := 0) (D := #[.func (.func 342) #[] #[ptr' w.heap.size], .func (.func 343) #[] #[ptr' w.heap.size]]) rfl 2 (.inr rfl)) (HT.out.alloc (k := wz.heap.size) rfl _ _) [8] rfl rfl).mono ?_
      rintro e w1 ⟨gs, ⟨bf, bl, bi, rfl, rfl⟩, Ta⟩
      simp only [PU] at Ta
      have HT := Lib.hid Ta
      clear Ta
      have r0 := HT.out.cell 7 0 rfl 0
      have fr0 := HT.out.free 7 0 rfl 0
      have r1 := HT.out.cell 7 0 rfl 1
      have fr1 := HT.out.free 7 0 rfl 1
      simp only [List.getElem?_nil, List.getElem?_toArray, List.getElem?_cons_zero, List.getElem?_cons_succ] at r0 r1
      go_wp2
      exact bodyPost_ret (v := .agg #[.nilFunc, _]) (by simp [results, Tryz.results339, go_sem, r0, r1]) rfl ⟨_, ⟨(e.1 ++ [cl w.heap.size 56 #[ptr' kb]], e.2), leT.app e _, _, _, _, _, _, rfl, ⟨rfl, bf, bl, bi, wz.heap.size, .func (.func 342) #[] #[ptr' w.heap.size], .func (.func 343) #[] #[ptr' w.heap.size], [], [], rfl, ⟨rfl, w.heap.size, rfl, List.mem_append_right _ (List.mem_cons_self ..)⟩, ⟨rfl, w.heap.size, rfl, List.mem_append_right _ (List.mem_cons_self ..)⟩, rfl⟩, ⟨gd, _, _, gP, HD.out, HX.out, HW.out, HPP.out, (rfl : turnB kb L.fb pv (sVal L k) k ++ (gd ++ (e.1 ++ [cl w.heap.size 56 #[ptr' kb]])) = _), rfl⟩, rfl⟩, (((HT.out.set 7 0 rfl 0 _).set 7 0 rfl 1 _).pick [9, 10, 11, 8, 0, 1, 2, 6, 3, 4, 5] rfl).sum2 (fun n ha h0 h1 h2 => by simp only [SU, ha, h0, h1, h2] <;> omega)⟩
end
end Go.Proofs.YtblhfbcodbjgcaaGreat
