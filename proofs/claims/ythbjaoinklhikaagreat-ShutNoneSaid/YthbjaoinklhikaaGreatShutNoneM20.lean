import Derived.Test.YthbjaoinklhikaaGreatShutNoneM19
import Derived.Test.YthbjaoinklhikaaGreatShutNoneM9
import Derived.Test.YthbjaoinklhikaaGreatShutNoneM15
namespace Go.Proofs.YthbjaoinklhikaaGreat
set_option linter.unusedVariables false
set_option linter.unusedSimpArgs false
open Go.RowKit Go.Shelf
set_option maxRecDepth 100000 in
theorem Cli.prog_new_v {c : Cli} (h : c.Vals) {s : c.S} {m d : Value} {g : List Blk} (hs : c.SV s m d g) : DoesG Tryz.prog 60 #[.agg #[m, d]] [g] fun e gs => ∃ pb, e = .returned (ptr' pb) ∧ gs = [g, Cli.progB pb m d 0] := by
  obtain ⟨v1, v2⟩ := h.vals hs
  intro w hw
  have T0 := TG.refl hw
  have HT := Lib.hid T0
  clear hw T0
  clear hs h
  rcases v1 with rfl | ⟨fn1, first1, caps1, rfl⟩ <;> rcases v2 with rfl | ⟨fn2, first2, caps2, rfl⟩
  all_goals
    go_enter Tryz.func60, Tryz.ntmps60
    go_wp2
    go_ret
    exact ⟨_, ⟨_, rfl, rfl⟩, (HT.out.alloc0 _).alloc (k := w.heap.size + 1) (by simp) _ _⟩
theorem u64s_one (l : List Int) : ∀ u ∈ u64s l, u.oneCell' = true := by
  intro u hu
  obtain ⟨n, _, rfl⟩ := List.mem_map.1 hu
  rfl
theorem u64s_length (l : List Int) : (u64s l).length = l.length := List.length_map _
set_option maxRecDepth 100000 in
theorem cloneU_g {tr : Value} {l : List Int} {gT : List Blk} (hr : rowG 22 1 tr l.length (u64s l) gT) (hn : l.length ≤ 1000000000) :
    DoesG Tryz.prog 85 #[tr] [gT] fun e gs => ∃ v g', e = .returned v ∧ rowG 22 1 v l.length (u64s l) g' ∧ gs = [gT, g'] := by
  have hr' := hr
  obtain ⟨hl, (⟨rfl, h0, rfl⟩ | ⟨b, cap, cur, rfl, rfl, h1, h2, h3, h4⟩)⟩ := hr
  · have he : l = [] := List.eq_nil_of_length_eq_zero h0
    subst he
    clear hr' h0 hl hn
    intro w hw
    have T0 := TG.refl hw
    have HT := Lib.hid T0
    clear hw T0
    have hn := fun (w : World) => Lib.run_eql_slice_nil (P := Tryz.prog) w 28 22 none 0 0 0 0 Tryz.underlying28
    go_enter Tryz.func85, Tryz.ntmps85
    go_wp2
    go_ret
    exact ⟨[[], []], ⟨_, [], rfl, rowG_nil _ _, rfl⟩, HT.out.eq (by simp)⟩
  · intro w hw
    have T0 := TG.refl hw
    have HT := Lib.hid T0
    clear hw T0
    have HN := Lib.hid (show ∀ j u, (u64s l)[j]? = some u → (w.alloc (.cells #[] 22)).cell? ((⟨b, 0, none⟩ : Addr).add j) = some u from ((HT.out.alloc (k := w.heap.size) rfl 22 #[]).owns 0 rfl hr').cells (g := b) rfl)
    have HL := Lib.hid hl
    have HC := Lib.hid (u64s_one l)
    clear hr' hl h4 h3
    have hn := fun (w : World) => Lib.run_eql_slice_nil (P := Tryz.prog) w 28 22 (some ⟨b, 0, none⟩) l.length cap 0 0 Tryz.underlying28
    go_enter Tryz.func85, Tryz.ntmps85
    go_wp2_with (
      at_builtin
      (with_reducible refine wpList_append_G rfl (.tmp 5) (.tmp 6) 28 rfl 22 1 8 _ Tryz.underlying28 Tryz.infoU64 rfl (by decide) (HT.out.alloc rfl _ _) 1 rfl rfl (rowG_lit _ 1 _ 0 0 #[] (Nat.le_refl _) (by decide) rfl) rfl ⟨b, 0, none⟩ l.length cap (u64s l) rfl HL.out HN.out HC.out (by unfold maxLen; omega) (by omega) ?_)
      intro v w2 g2 r T
      simp only [List.set_cons_zero, List.set_cons_succ, List.cons_append, List.nil_append] at T
      have T := Lib.hid T
      have r := Lib.hid r)
    go_ret
    have hv : rowG 22 1 v l.length (u64s l) g2 := by simpa using r.out
    exact ⟨_, ⟨_, rfl, _, hv, rfl⟩, T.out⟩
def newS (th no : Int) : ShutS := ⟨th, no, 0, false, false, [], 0⟩
def firstS : SS := .at none .shuts
def ansS (err : Int) (ok : Bool) (v : Value) : Array Value := #[.int .i64 err, .bool ok, .int .u64 0, .int .u64 0, v]
section
variable {L : Lay} {x : CoreS} {p : PipeS} {g gF : List Blk} {kb : Nat} {s : SS} {n : Int} {k : ShutS}
set_option maxRecDepth 100000 in
theorem cloBegin (hx : isCP L x p gF) (hn : x.tr.length ≤ 1000000) (th no : Int) : DoesG Tryz.prog 36 #[ptr' L.fb, .int .i64 th, .int .i64 no] [gF] fun en gs =>
    ∃ kb g gF', en = .returned (.tuple #[ptr' kb, .int .i64 0]) ∧ isClo L kb firstS 0 (newS th no) g ∧ isCP L { x with tr := x.tr ++ [evS (newS th no) { ev0 with kind := 1 }] } p gF' ∧ gs = [g, gF'] := by
  obtain ⟨gC, gP, hx, hpp, rfl⟩ := hx
  have HS := Lib.hid (show ∀ kb pv, ((cliS L kb pv).on []).SV (.at none .shuts) .nilFunc (.func (.func 86) #[ptr' kb] #[]) [] from fun kb pv => ⟨rfl, rfl, rfl⟩)
  have HNW := Lib.hid (show ∀ kb, _ from fun kb => Cli.prog_new_v (cliS_vals L kb (.pointer none) []) (HS.out kb (.pointer none)))
  intro w hw
  have T0 := TG.refl hw
  have HT := Lib.hid T0
  clear hw T0
  have HX := Lib.hid hx
  have HPP := Lib.hid hpp
  have HLN := Lib.hid hn
  clear hx hn hpp
  go_enter Tryz.func36, Tryz.ntmps36
  go_wp2_with fail
  refine (DoesG.use (HNW.out w.heap.size) ((HT.out.alloc (k := w.heap.size) rfl 148 (shutC L.fb (.pointer none) (.slice none 0 0) (.slice none 0 0) (newS th no))).sum (H' := [gC, gP, [], [cl w.heap.size 148 (shutC L.fb (.pointer none) (.slice none 0 0) (.slice none 0 0) (newS th no))]]) (fun n ha h0 h1 h2 => by simp only [pickG, List.map_cons, List.map_nil, List.getD_cons_succ, List.getD_cons_zero, List.set_cons_succ, List.set_cons_zero, List.cons_append, List.flatten_append, List.flatten_cons, List.flatten_nil, List.append_nil, List.nil_append, ha, h0, h1, h2] <;> omega)) [2] rfl rfl).mono ?_
  rintro e w1 ⟨gs, ⟨pb, rfl, rfl⟩, Ta⟩
  simp only [putG, List.set_cons_zero, List.set_cons_succ, List.cons_append, List.nil_append, List.append_nil] at Ta
  have HT := Lib.hid Ta
  clear Ta
  have k8 := HT.out.cell 3 0 rfl 8
  have fk8 := HT.out.free 3 0 rfl 8
  simp only [shutC, List.getElem?_toArray, List.getElem?_cons_zero, List.getElem?_cons_succ] at k8
  go_wp2_with fail
  refine (DoesG.use (shutNote (pv := ptr' pb) HX.out { ev0 with kind := 1 } HLN.out) ((HT.out.set 3 0 rfl 8 (ptr' pb)).eq (H' := [gC, gP, [], shutB w.heap.size L.fb (ptr' pb) (.slice none 0 0) (.slice none 0 0) (newS th no), Cli.progB pb .nilFunc (.func (.func 86) #[ptr' w.heap.size] #[]) 0]) rfl) [3, 0] rfl rfl).mono ?_
  rintro e w1 ⟨gs, ⟨rfl, g1, hx1, rfl⟩, Ta⟩
  simp only [putG, List.set_cons_zero, List.set_cons_succ, List.cons_append, List.nil_append, List.append_nil] at Ta
  have HX := Lib.hid hx1
  clear hx1 k8 fk8
  have HT := Lib.hid Ta
  clear Ta
  go_wp2
  go_ret2
  exact ⟨_, ⟨_, _, _, rfl, ⟨pb, [], _, _, [], [cl w.heap.size 148 (shutC L.fb (ptr' pb) (.slice none 0 0) (.slice none 0 0) (newS th no))], HS.out _ _, ⟨_, _, [], ⟨rowG_nil _ _, rfl⟩, rfl⟩, rfl⟩, ⟨g1, gP, HX.out, HPP.out, rfl⟩, rfl⟩, ((HT.out.pick [4, 3, 0, 1] rfl).eq (H' := [Cli.progB pb .nilFunc (.func (.func 86) #[ptr' w.heap.size] #[]) 0, [cl w.heap.size 148 (shutC L.fb (ptr' pb) (.slice none 0 0) (.slice none 0 0) (newS th no))], g1, gP]) rfl).sum (fun n ha h0 h1 h2 => by simp only [pickG, List.map_cons, List.map_nil, List.getD_cons_succ, List.getD_cons_zero, List.set_cons_succ, List.set_cons_zero, List.cons_append, List.flatten_append, List.flatten_cons, List.flatten_nil, List.append_nil, List.nil_append, ha, h0, h1, h2] <;> omega)⟩
set_option maxRecDepth 100000 in
theorem cloBusy (hc : isClo L kb s n k g) (hn : s.isNil = false) : DoesG Tryz.prog 35 #[ptr' kb] [g] fun en gs =>
    en = .returned (.tuple #[.agg (ansS 0 false (.slice none 0 0)), .int .i64 10]) ∧ gs = [g] := by
  have hd := cloDone hc
  rw [hn] at hd
  intro w hw
  have T0 := TG.refl hw
  have HT := Lib.hid T0
  clear hw T0
  have HD := Lib.hid hd
  clear hd hc
  go_enter Tryz.func35, Tryz.ntmps35
  go_wp2_with fail
  have HT := Lib.hid (HT.out.alloc (k := w.heap.size) rfl 30 #[.int .i64 0, .bool false, .int .u64 0, .int .u64 0, .slice none 0 0])
  go_wp2_with fail
  refine (ReadsG.use (HD.out) (HT.out) [0] rfl rfl).mono ?_
  rintro e w1 ⟨rfl, mq, rfl⟩
  have HT := Lib.hid (HT.out.drewN mq)
  generalize World.drewN _ _ = wq at HT ⊢
  have e0 := HT.out.cell 1 0 rfl 0
  have fe0 := HT.out.free 1 0 rfl 0
  have e1 := HT.out.cell 1 0 rfl 1
  have fe1 := HT.out.free 1 0 rfl 1
  have e2 := HT.out.cell 1 0 rfl 2
  have fe2 := HT.out.free 1 0 rfl 2
  have e3 := HT.out.cell 1 0 rfl 3
  have fe3 := HT.out.free 1 0 rfl 3
  have e4 := HT.out.cell 1 0 rfl 4
  have fe4 := HT.out.free 1 0 rfl 4
  simp only [List.getElem?_nil, List.getElem?_toArray, List.getElem?_cons_zero, List.getElem?_cons_succ] at e0 e1 e2 e3 e4
  go_wp2
  exact bodyPost_ret (v := .tuple #[.agg (ansS 0 false (.slice none 0 0)), .int .i64 10]) (by simp [results, Tryz.results35, go_sem, e0, e1, e2, e3, e4, ansS]) rfl ⟨_, ⟨rfl, rfl⟩, (((((HT.out.set 1 0 rfl 0 _).set 1 0 rfl 1 _).set 1 0 rfl 2 _).set 1 0 rfl 3 _).set 1 0 rfl 4 _).pick [0] rfl⟩
/-- what is left, as far as it is told -/
def ShutS.told (k : ShutS) : List Int := if k.aset then k.left else []
set_option maxRecDepth 100000 in
theorem cloAnswer (hc : isClo L kb s n k g) (hn : s.isNil = true) (hl : k.left.length ≤ 1000000) : DoesG Tryz.prog 35 #[ptr' kb] [g] fun en gs =>
    ∃ v gv, en = .returned (.tuple #[.agg (ansS k.err k.ok v), .int .i64 0]) ∧ rowG 22 1 v k.told.length (u64s k.told) gv ∧ gs = [g, gv] := by
  have hd := cloDone hc
  rw [hn] at hd
  obtain ⟨pb, e, m, d, gst, gK, hs, ⟨vl, al, gl, ⟨hr, hal⟩, rfl⟩, rfl⟩ := hc
  obtain ⟨av, cap, rfl⟩ := hr.val
  have hta : (al = .slice none 0 0 ∧ k.told = []) ∨ (al = .slice av k.left.length cap ∧ k.told = k.left) := by
    unfold ShutS.told
    cases hh : k.aset <;> rw [hh] at hal <;> simp at hal <;> simp [hal]
  clear hal
  rcases hta with ⟨rfl, ht⟩ | ⟨rfl, ht⟩
  · rw [ht]
    have HC := Lib.hid (cloneU_g (tr := .slice none 0 0) (l := []) (rowG_nil _ _) (by simp))
    intro w hw
    have T0 := TG.refl hw
    have HT := Lib.hid T0
    clear hw T0
    have HD := Lib.hid hd
    clear hd hs hr
    go_enter Tryz.func35, Tryz.ntmps35
    go_wp2_with fail
    have HT := Lib.hid (HT.out.alloc (k := w.heap.size) rfl 30 #[.int .i64 0, .bool false, .int .u64 0, .int .u64 0, .slice none 0 0])
    go_wp2_with fail
    refine (ReadsG.use (HD.out) (HT.out) [0] rfl rfl).mono ?_
    rintro e w1 ⟨rfl, mq, rfl⟩
    have HT := Lib.hid (HT.out.drewN mq)
    generalize World.drewN _ _ = wq at HT ⊢
    have HT := Lib.hid (HT.out.sum (H' := [shutB kb L.fb (ptr' pb) (.slice av k.left.length cap) (.slice none 0 0) k, gl, Cli.progB pb m d n ++ gst ++ e, [cl w.heap.size 30 #[.int .i64 0, .bool false, .int .u64 0, .int .u64 0, .slice none 0 0]], []]) (fun n ha h0 h1 h2 => by simp only [pickG, List.map_cons, List.map_nil, List.getD_cons_succ, List.getD_cons_zero, List.set_cons_succ, List.set_cons_zero, List.cons_append, List.flatten_append, List.flatten_cons, List.flatten_nil, List.append_nil, List.nil_append, ha, h0, h1, h2] <;> omega))
    have k3 := HT.out.cell 0 0 rfl 3
    have k4 := HT.out.cell 0 0 rfl 4
    have k5 := HT.out.cell 0 0 rfl 5
    have k6 := HT.out.cell 0 0 rfl 6
    have k7 := HT.out.cell 0 0 rfl 7
    simp only [shutC, List.getElem?_toArray, List.getElem?_cons_zero, List.getElem?_cons_succ] at k3 k4 k5 k6 k7
    have lt := HT.out.lt 0 0 rfl
    have ltr := HT.out.lt 3 0 rfl
    simp only [] at lt ltr
    go_wp2_with fail
    refine (DoesG.use (HC.out) (HT.out.alloc (k := wq.heap.size) rfl 30 #[.int .i64 k.err, .bool k.ok, .int .u64 0, .int .u64 0, .slice none 0 0]) [4] rfl rfl).mono ?_
    rintro e w1 ⟨gs, ⟨v, g2, rfl, hv, rfl⟩, Ta⟩
    simp only [putG, List.set_cons_zero, List.set_cons_succ, List.cons_append, List.nil_append, List.append_nil] at Ta
    have HT := Lib.hid Ta
    clear Ta
    obtain ⟨av2, cap2, rfl⟩ := rowG.val hv
    have HV := Lib.hid hv
    clear hv k3 k4 k5 k6 k7
    have a0 := HT.out.cell 5 0 rfl 0
    have a1 := HT.out.cell 5 0 rfl 1
    have a2 := HT.out.cell 5 0 rfl 2
    have a3 := HT.out.cell 5 0 rfl 3
    have a4 := HT.out.cell 5 0 rfl 4
    have fa4 := HT.out.free 5 0 rfl 4
    simp only [List.getElem?_nil, List.getElem?_toArray, List.getElem?_cons_zero, List.getElem?_cons_succ] at a0 a1 a2 a3 a4
    have r0 := HT.out.cell 3 0 rfl 0
    have fr0 := HT.out.free 3 0 rfl 0
    have r1 := HT.out.cell 3 0 rfl 1
    have fr1 := HT.out.free 3 0 rfl 1
    have r2 := HT.out.cell 3 0 rfl 2
    have fr2 := HT.out.free 3 0 rfl 2
    have r3 := HT.out.cell 3 0 rfl 3
    have fr3 := HT.out.free 3 0 rfl 3
    have r4 := HT.out.cell 3 0 rfl 4
    have fr4 := HT.out.free 3 0 rfl 4
    simp only [List.getElem?_nil, List.getElem?_toArray, List.getElem?_cons_zero, List.getElem?_cons_succ] at r0 r1 r2 r3 r4
    have ne1 := HT.out.ne 5 0 3 0 (by decide) rfl rfl
    simp only [] at ne1
    have ne2 := Ne.symm ne1
    go_wp2
    exact bodyPost_ret (v := .tuple #[.agg (ansS k.err k.ok (.slice av2 ([] : List Int).length cap2)), .int .i64 0]) (by simp [results, Tryz.results35, go_sem, r0, r1, r2, r3, r4, ansS, ne1, ne2]) rfl ⟨_, ⟨_, g2, rfl, HV.out, rfl⟩, (((((((HT.out.set 5 0 rfl 4 _).set 3 0 rfl 0 _).set 3 0 rfl 1 _).set 3 0 rfl 2 _).set 3 0 rfl 3 _).set 3 0 rfl 4 _).pick [0, 1, 2, 6] rfl).sum (fun n ha h0 h1 h2 => by simp only [pickG, List.map_cons, List.map_nil, List.getD_cons_succ, List.getD_cons_zero, List.set_cons_succ, List.set_cons_zero, List.cons_append, List.flatten_append, List.flatten_cons, List.flatten_nil, List.append_nil, List.nil_append, ha, h0, h1, h2] <;> omega)⟩
  · rw [ht]
    have HC := Lib.hid (cloneU_g (tr := .slice av k.left.length cap) hr (by omega))
    intro w hw
    have T0 := TG.refl hw
    have HT := Lib.hid T0
    clear hw T0
    have HD := Lib.hid hd
    clear hd hs hr
    go_enter Tryz.func35, Tryz.ntmps35
    go_wp2_with fail
    have HT := Lib.hid (HT.out.alloc (k := w.heap.size) rfl 30 #[.int .i64 0, .bool false, .int .u64 0, .int .u64 0, .slice none 0 0])
    go_wp2_with fail
    refine (ReadsG.use (HD.out) (HT.out) [0] rfl rfl).mono ?_
    rintro e w1 ⟨rfl, mq, rfl⟩
    have HT := Lib.hid (HT.out.drewN mq)
    generalize World.drewN _ _ = wq at HT ⊢
    have HT := Lib.hid (HT.out.sum (H' := [shutB kb L.fb (ptr' pb) (.slice av k.left.length cap) (.slice av k.left.length cap) k, gl, Cli.progB pb m d n ++ gst ++ e, [cl w.heap.size 30 #[.int .i64 0, .bool false, .int .u64 0, .int .u64 0, .slice none 0 0]], []]) (fun n ha h0 h1 h2 => by simp only [pickG, List.map_cons, List.map_nil, List.getD_cons_succ, List.getD_cons_zero, List.set_cons_succ, List.set_cons_zero, List.cons_append, List.flatten_append, List.flatten_cons, List.flatten_nil, List.append_nil, List.nil_append, ha, h0, h1, h2] <;> omega))
    have k3 := HT.out.cell 0 0 rfl 3
    have k4 := HT.out.cell 0 0 rfl 4
    have k5 := HT.out.cell 0 0 rfl 5
    have k6 := HT.out.cell 0 0 rfl 6
    have k7 := HT.out.cell 0 0 rfl 7
    simp only [shutC, List.getElem?_toArray, List.getElem?_cons_zero, List.getElem?_cons_succ] at k3 k4 k5 k6 k7
    have lt := HT.out.lt 0 0 rfl
    have ltr := HT.out.lt 3 0 rfl
    simp only [] at lt ltr
    go_wp2_with fail
    refine (DoesG.use (HC.out) (HT.out.alloc (k := wq.heap.size) rfl 30 #[.int .i64 k.err, .bool k.ok, .int .u64 0, .int .u64 0, .slice av k.left.length cap]) [1] rfl rfl).mono ?_
    rintro e w1 ⟨gs, ⟨v, g2, rfl, hv, rfl⟩, Ta⟩
    simp only [putG, List.set_cons_zero, List.set_cons_succ, List.cons_append, List.nil_append, List.append_nil] at Ta
    have HT := Lib.hid Ta
    clear Ta
    obtain ⟨av2, cap2, rfl⟩ := rowG.val hv
    have HV := Lib.hid hv
    clear hv k3 k4 k5 k6 k7
    have a0 := HT.out.cell 5 0 rfl 0
    have a1 := HT.out.cell 5 0 rfl 1
    have a2 := HT.out.cell 5 0 rfl 2
    have a3 := HT.out.cell 5 0 rfl 3
    have a4 := HT.out.cell 5 0 rfl 4
    have fa4 := HT.out.free 5 0 rfl 4
    simp only [List.getElem?_nil, List.getElem?_toArray, List.getElem?_cons_zero, List.getElem?_cons_succ] at a0 a1 a2 a3 a4
    have r0 := HT.out.cell 3 0 rfl 0
    have fr0 := HT.out.free 3 0 rfl 0
    have r1 := HT.out.cell 3 0 rfl 1
    have fr1 := HT.out.free 3 0 rfl 1
    have r2 := HT.out.cell 3 0 rfl 2
    have fr2 := HT.out.free 3 0 rfl 2
    have r3 := HT.out.cell 3 0 rfl 3
    have fr3 := HT.out.free 3 0 rfl 3
    have r4 := HT.out.cell 3 0 rfl 4
    have fr4 := HT.out.free 3 0 rfl 4
    simp only [List.getElem?_nil, List.getElem?_toArray, List.getElem?_cons_zero, List.getElem?_cons_succ] at r0 r1 r2 r3 r4
    have ne1 := HT.out.ne 5 0 3 0 (by decide) rfl rfl
    simp only [] at ne1
    have ne2 := Ne.symm ne1
    go_wp2
    exact bodyPost_ret (v := .tuple #[.agg (ansS k.err k.ok (.slice av2 k.left.length cap2)), .int .i64 0]) (by simp [results, Tryz.results35, go_sem, r0, r1, r2, r3, r4, ansS, ne1, ne2]) rfl ⟨_, ⟨_, g2, rfl, HV.out, rfl⟩, (((((((HT.out.set 5 0 rfl 4 _).set 3 0 rfl 0 _).set 3 0 rfl 1 _).set 3 0 rfl 2 _).set 3 0 rfl 3 _).set 3 0 rfl 4 _).pick [0, 1, 2, 6] rfl).sum (fun n ha h0 h1 h2 => by simp only [pickG, List.map_cons, List.map_nil, List.getD_cons_succ, List.getD_cons_zero, List.set_cons_succ, List.set_cons_zero, List.cons_append, List.flatten_append, List.flatten_cons, List.flatten_nil, List.append_nil, List.nil_append, ha, h0, h1, h2] <;> omega)⟩
end
end Go.Proofs.YthbjaoinklhikaaGreat

namespace Go.Proofs.YthbjaoinklhikaaGreat
set_option linter.unusedVariables false
set_option linter.unusedSimpArgs false
open Go.RowKit Go.Shelf

/-! ## What holds along a closing's steps -/
def FitS : SS → ShutS → Prop
  | .nil, _ => True
  | .at none .shuts, k => k.aset = false
  | .at (some .inside) .slots0, k => k.aset = false
  | .at (some .idle) .waits2, _ => True
  | .row1 .ends1, _ => True
  | .thn (.row1 .pshut) .waits, k => k.aset = false
  | .thn (.at none (.looks1 i)) (.slots2 j), k => k.aset = false ∧ i = j ∧ 0 ≤ i ∧ i < 64
  | .thn (.at none (.leaves0 i)) (.slots2 j), k => k.aset = false ∧ i = j ∧ 0 ≤ i ∧ i < 64
  | .thn (.row2 (.release _) .drop) (.slots2 j), k => k.aset = false ∧ 0 ≤ j ∧ j < 64
  | .thn (.row1 .drop) (.slots2 j), k => k.aset = false ∧ 0 ≤ j ∧ j < 64
  | _, _ => False
structure JB (N : Nat) (z : ZS) : Prop where
  core : CoreN N z.x
  cap : z.x.f.cfg.cap = z.x.slab.recs.length
  busy : 0 ≤ z.x.f.busy ∧ z.x.f.busy ≤ N
  saw : 0 ≤ z.k.saw ∧ z.k.saw < 18446744073709551616 ∧ okW z.k.saw = true
  left : z.k.left.length ≤ N
structure JS (N : Nat) (s : SS) (z : ZS) : Prop where
  b : JB N z
  fit : FitS s z.k
theorem JB.mono {N M : Nat} {z : ZS} (h : JB N z) (hm : N ≤ M) : JB M z :=
  ⟨h.core.mono hm, h.cap, by have := h.busy; omega, h.saw, by have := h.left; omega⟩
theorem JB.ok {N : Nat} {z : ZS} (h : JB N z) (hN : N ≤ 1000000) : ShutOk z :=
  ⟨h.core.ok hN, h.cap, by have := h.busy; omega, h.saw, by have := h.left; omega⟩
section
variable {N : Nat} {z : ZS}
theorem noteN {x : CoreS} (h : CoreN N x) (E : EvS) : CoreN (N + 1) { x with tr := x.tr ++ [E] } :=
  ⟨h.slab, h.i0, by have := h.i1; show x.f.inside ≤ _; omega, by have := h.tr; show (x.tr ++ [_]).length ≤ _; rw [List.length_append]; simp; omega, h.sh, h.rings (by omega)⟩
theorem JB.note (h : JB N z) (E : EvS) : JB (N + 1) (z.note E) :=
  ⟨noteN h.core _, h.cap, by have := h.busy; show 0 ≤ z.x.f.busy ∧ z.x.f.busy ≤ _; omega, h.saw, by have := h.left; show z.k.left.length ≤ _; omega⟩
theorem JB.slab (h : JB N z) {s : SlabS} (hs : SlabOk s) (hl : s.recs.length = z.x.slab.recs.length) : JB N { z with x := { z.x with slab := s } } :=
  ⟨core_slab h.core hs, by show z.x.f.cfg.cap = s.recs.length; rw [hl]; exact h.cap, h.busy, h.saw, h.left⟩
theorem actS_n (h : JB N z) (a : AS) : JB (N + 1) (runAS a z) := by
  cases a with
  | ends1 => exact h.note _
  | pshut => exact (⟨h.core, h.cap, h.busy, h.saw, h.left⟩ : JB N { z with p := { z.p with shut := true } }).mono (by omega)
  | release i =>
    obtain ⟨a, b⟩ := try_ok h.core.slab i (z.x.slab.word i) 10
    exact (h.slab a b).mono (by omega)
  | drop =>
    obtain ⟨a, b⟩ := drop_ok h.core.slab
    exact (h.slab a b).mono (by omega)
theorem actS_k (a : AS) (z : ZS) : (runAS a z).k = z.k := by cases a <;> rfl
theorem slotsS_fit {k : ShutS} (h : k.aset = false) {i : Int} (h0 : 0 ≤ i) (hc : z.x.f.cfg.cap ≤ 64) : FitS (slotsS i z) k := by
  unfold slotsS looksS
  split
  · exact h
  · exact ⟨h, rfl, h0, by omega⟩
theorem JB.c64 (h : JB N z) : z.x.f.cfg.cap ≤ 64 := by have := h.cap; have := h.core.slab.n1; omega
theorem JS.pre {s : SS} (h : JS N s z) (hN : N < 1000000) : preSS s z := by
  obtain ⟨hb, hf⟩ := h
  have ho := hb.ok (by omega)
  have ha := fun a => (actS_n hb a).ok (by omega)
  match s, hf with
  | .nil, _ => trivial
  | .at none .shuts, hf => exact ⟨ho, trivial⟩
  | .at (some .inside) .slots0, _ => exact ⟨ho, trivial⟩
  | .at (some .idle) .waits2, _ => exact ⟨ho, trivial⟩
  | .row1 .ends1, _ => exact ho
  | .thn (.row1 .pshut) .waits, _ => exact ⟨ho, fun _ => ⟨ha .pshut, trivial⟩⟩
  | .thn (.at none (.looks1 i)) (.slots2 j), hf =>
    obtain ⟨h1, rfl, h3, h4⟩ := hf
    refine ⟨⟨ho, h3, by omega⟩, fun _ => ?_⟩
    have e : (St.run runS runAS (.at none (.looks1 i)) z).2 = wordZ i z := by
      show (runS (.looks1 i) z).2 = _
      dsimp only [runS]
      split <;> rfl
    rw [e]
    exact ⟨⟨ho.core, ho.cap, ho.busy, word_bd ho.core.slab i, ho.left⟩, h3, by omega⟩
  | .thn (.at none (.leaves0 i)) (.slots2 j), hf =>
    obtain ⟨h1, rfl, h3, h4⟩ := hf
    refine ⟨⟨ho, ⟨h3, by omega⟩, h1⟩, fun hn => ?_⟩
    have : (St.run runS runAS (.at none (.leaves0 i)) z).1.isNil = true := hn
    change (runS (.leaves0 i) z).1.isNil = true at this
    dsimp only [runS] at this
    split at this <;> cases this
  | .thn (.row2 (.release i) .drop) (.slots2 j), hf => exact ⟨ho, fun h => by cases h⟩
  | .thn (.row1 .drop) (.slots2 j), hf => exact ⟨ho, fun _ => ⟨ha .drop, hf.2.1, by have := hf.2.2; omega⟩⟩
theorem JS.step {s : SS} (h : JS N s z) : JS (N + 1) (stepS s z).1 (stepS s z).2 := by
  obtain ⟨hb, hf⟩ := h
  have ha := fun a => actS_n hb a
  have hc := hb.c64
  match s, hf with
  | .nil, _ => exact ⟨hb.mono (by omega), trivial⟩
  | .at none .shuts, hf =>
    show JS (N + 1) (runS .shuts z).1 (runS .shuts z).2
    dsimp only [runS]
    split
    · have := hb.note { ev0 with kind := 9, err := 3 }
      exact ⟨⟨this.core, this.cap, this.busy, this.saw, this.left⟩, trivial⟩
    · exact ⟨JB.note (z := { z with x := { z.x with f := { z.x.f with closed := true } } }) ⟨⟨hb.core.slab, hb.core.i0, hb.core.i1, hb.core.tr, hb.core.sh, hb.core.ring⟩, hb.cap, hb.busy, hb.saw, hb.left⟩ _, hf⟩
  | .at (some .inside) .slots0, hf => exact ⟨hb.mono (by omega), slotsS_fit hf (by decide) hc⟩
  | .at (some .idle) .waits2, _ =>
    have := hb.note { ev0 with kind := 13 }
    exact ⟨⟨this.core, this.cap, this.busy, this.saw, this.left⟩, trivial⟩
  | .row1 .ends1, _ => exact ⟨ha .ends1, trivial⟩
  | .thn (.row1 .pshut) .waits, _ => exact ⟨ha .pshut, trivial⟩
  | .thn (.at none (.looks1 i)) (.slots2 j), hf =>
    obtain ⟨h1, rfl, h3, h4⟩ := hf
    have hw : JB N (wordZ i z) := ⟨hb.core, hb.cap, hb.busy, word_bd hb.core.slab i, hb.left⟩
    show JS (N + 1) (thenSt runS (runS (.looks1 i) z).1 (.slots2 i) (runS (.looks1 i) z).2).1 (thenSt runS (runS (.looks1 i) z).1 (.slots2 i) (runS (.looks1 i) z).2).2
    dsimp only [runS]
    split
    · exact ⟨hw.mono (by omega), h1, rfl, h3, h4⟩
    · exact ⟨hw.mono (by omega), slotsS_fit (z := wordZ i z) (k := (wordZ i z).k) (i := i + 1) h1 (by omega) hc⟩
  | .thn (.at none (.leaves0 i)) (.slots2 j), hf =>
    obtain ⟨h1, rfl, h3, h4⟩ := hf
    obtain ⟨a, b⟩ := try_ok hb.core.slab i z.k.saw 6
    have hs := hb.slab a b
    show JS (N + 1) (thenSt runS (runS (.leaves0 i) z).1 (.slots2 i) (runS (.leaves0 i) z).2).1 (thenSt runS (runS (.leaves0 i) z).1 (.slots2 i) (runS (.leaves0 i) z).2).2
    dsimp only [runS]
    split
    · exact ⟨hs.mono (by omega), h1, rfl, h3, h4⟩
    · have hn := noteN hs.core (evS { z.k with left := z.k.left ++ [(numV (z.x.slab.try i z.k.saw 6).1 i).1] } { ev0 with kind := 12, id := (numV (z.x.slab.try i z.k.saw 6).1 i).1, gen := genW (z.x.slab.try i z.k.saw 6).2.1 })
      refine ⟨⟨hn, hs.cap, ?_, hs.saw, ?_⟩, h1, h3, h4⟩
      · have := hb.busy; exact ⟨this.1, by show z.x.f.busy ≤ _; omega⟩
      · have := hb.left; show (z.k.left ++ [_]).length ≤ _; rw [List.length_append]; simp; omega
  | .thn (.row2 (.release i) .drop) (.slots2 j), hf => exact ⟨ha (.release i), hf⟩
  | .thn (.row1 .drop) (.slots2 j), hf => exact ⟨ha .drop, slotsS_fit (z := runAS .drop z) (i := j + 1) hf.1 (by have := hf.2.1; omega) hc⟩
end
/-- so many steps -/
def itS : Nat → SS → ZS → SS × ZS
  | 0, s, z => (s, z)
  | n + 1, s, z => itS n (stepS s z).1 (stepS s z).2
theorem itS_next : ∀ (j : Nat) (s : SS) (z : ZS), itS (j + 1) s z = stepS (itS j s z).1 (itS j s z).2
  | 0, _, _ => rfl
  | j + 1, s, z => by rw [itS, itS_next j]; rfl
theorem JS.it : ∀ (n : Nat) {N : Nat} {s : SS} {z : ZS}, JS N s z → JS (N + n) (itS n s z).1 (itS n s z).2
  | 0, _, _, _, h => h
  | n + 1, N, s, z, h => by
    have := JS.it n h.step
    rwa [show N + 1 + n = N + (n + 1) by omega] at this
end Go.Proofs.YthbjaoinklhikaaGreat

namespace Go.Proofs.YthbjaoinklhikaaGreat
set_option linter.unusedVariables false
set_option linter.unusedSimpArgs false
open Go.RowKit Go.Shelf

/-! ## Of no work; the law's helpers -/
set_option maxRecDepth 100000 in
theorem callAnswer_nil : DoesG Tryz.prog 13 #[.pointer none] [] fun e gs => e = .returned (.tuple #[.agg (ansC 0 false 0 0), .int .i64 6]) ∧ gs = [] := by
  intro w hw
  have T0 := TG.refl hw
  have HT := Lib.hid T0
  clear hw T0
  go_enter Tryz.func13, Tryz.ntmps13
  go_wp2
  exact bodyPost_ret (v := .tuple #[.agg (ansC 0 false 0 0), .int .i64 6]) (by simp [results, Tryz.results13, go_sem, ansC]) rfl ⟨_, ⟨rfl, rfl⟩, HT.out.alloc0 _⟩
theorem callMay_nil : DoesG Tryz.prog 15 #[.pointer none] [] fun e gs => e = .returned (.bool false) ∧ gs = [] := by
  intro w hw
  have HT := Lib.hid (TG.refl hw)
  clear hw
  go_enter Tryz.func15, Tryz.ntmps15
  go_wp2
  go_ret
  exact ⟨_, ⟨rfl, rfl⟩, HT.out⟩
theorem callStepNone : DoesG Tryz.prog 16 #[.pointer none] [] fun e gs => e = .returned (.bool false) ∧ gs = [] := by
  intro w hw
  have HT := Lib.hid (TG.refl hw)
  clear hw
  go_enter Tryz.func16, Tryz.ntmps16
  go_wp2
  go_ret
  exact ⟨_, ⟨rfl, rfl⟩, HT.out⟩
theorem callDone_nil : DoesG Tryz.prog 17 #[.pointer none] [] fun e gs => e = .returned (.bool true) ∧ gs = [] := by
  intro w hw
  have HT := Lib.hid (TG.refl hw)
  clear hw
  go_enter Tryz.func17, Tryz.ntmps17
  go_wp2
  go_ret
  exact ⟨_, ⟨rfl, rfl⟩, HT.out⟩
set_option maxRecDepth 100000 in
theorem callCall_nil : DoesG Tryz.prog 19 #[.pointer none] [] fun e gs => e = .returned (.agg #[.int .i64 0, .int .u64 0, .int .u64 0, .int .u64 0]) ∧ gs = [] := by
  intro w hw
  have T0 := TG.refl hw
  have HT := Lib.hid T0
  clear hw T0
  go_enter Tryz.func19, Tryz.ntmps19
  go_wp2
  exact bodyPost_ret (v := .agg #[.int .i64 0, .int .u64 0, .int .u64 0, .int .u64 0]) (by simp [results, Tryz.results19, go_sem]) rfl ⟨_, ⟨rfl, rfl⟩, HT.out.alloc0 _⟩
def plain16 (room ring : Int) : Cfg := ⟨2, room, ring, 4, 1, 8⟩
set_option maxRecDepth 100000 in
theorem plain16_g (room ring : Int) : DoesG Tryz.prog 21 #[.int .i64 room, .int .i64 ring] [] fun e gs => e = .returned (.agg (plain16 room ring).cells) ∧ gs = [] := by
  intro w hw
  have T0 := TG.refl hw
  have HT := Lib.hid T0
  clear hw T0
  go_enter Tryz.func21, Tryz.ntmps21
  go_wp2
  exact bodyPost_ret (v := .agg (plain16 room ring).cells) (by simp [results, Tryz.results21, go_sem, plain16, Cfg.cells]) rfl ⟨_, ⟨rfl, rfl⟩, HT.out.alloc0 _⟩
set_option maxRecDepth 100000 in
theorem answers_zero : DoesG Tryz.prog 18 #[.agg (ansC 0 false 0 0), .agg (ansC 0 false 0 0)] [] fun e gs => e = .returned (.bool true) ∧ gs = [] := by
  intro w hw
  have T0 := TG.refl hw
  have HT := Lib.hid T0
  clear hw T0
  simp only [ansC]
  go_enter Tryz.func18, Tryz.ntmps18
  go_wp2
  go_ret
  exact ⟨_, ⟨rfl, rfl⟩, (HT.out.alloc0 _).alloc0 _⟩

/-! ### Where a run begins -/
theorem newRing_n {n : Nat} (h1 : 1 ≤ n) (h2 : n ≤ 64) : RingN 0 (newRing n) := by
  refine ⟨?_, ?_, Int.le_refl 0, Int.le_refl 0, Int.le_refl 0, Int.le_refl 0⟩ <;> simp [newRing] <;> omega
theorem core0_n {c : Cfg} (h : c.ok = true) : CoreN 0 (core0 c) := by
  obtain ⟨h1, h2, h3, _⟩ := Cfg.bd h
  refine ⟨newSlab_ok (by omega) (by omega), by show (0 : Int) ≤ 0; omega, by show (0 : Int) ≤ 0; omega, by show ([] : List EvS).length ≤ 0; simp, ?_, ?_⟩
  · show 1 ≤ (List.replicate _ _).length
    rw [List.length_replicate]; omega
  · intro s hs
    obtain ⟨_, rfl⟩ := List.mem_replicate.1 hs
    exact newRing_n (by omega) (by omega)
structure CallC.wf (c : CallC) : Prop where
  id : 0 ≤ c.id ∧ c.id < 18446744073709551616
  dl : 0 ≤ c.dl ∧ c.dl < 18446744073709551616
  per : 0 ≤ c.per ∧ c.per < 18446744073709551616
theorem newW_n {N : Nat} {c : CallC} (h : c.wf) (th no : Int) (x : CoreS) : WorkN N (newW th no c) x :=
  ⟨h.dl, h.per, h.id, by show (0 : Int) ≤ 0; omega, ⟨by show (0 : Int) ≤ 0; omega, by show (0 : Int) < _; omega, by show okW 0 = true; decide⟩, fun q hq => (by cases hq), fun i t ht => (by cases ht)⟩
theorem first_fit (kd : Int) (k : WorkS) : FitC (firstC kd) k := by
  unfold firstC
  split
  · trivial
  · split <;> trivial
theorem JC.first {N : Nat} {x : CoreS} (hc : CoreN N x) {c : CallC} (h : c.wf) (th no : Int) :
    JC (N + 1) (firstC c.kind) (newW th no c, noteC (newW th no c) { ev0 with kind := 1, id := c.id, dl := c.dl, per := c.per } x) :=
  ⟨core_note hc _, newW_n h th no _, first_fit _ _⟩
def cfg1 : Cfg := ⟨1, 1, 1, 1, 1, 1⟩
def call5 : CallC := ⟨1, 0, 5, 0⟩
def z5 : ZC := (newW 0 1 call5, noteC (newW 0 1 call5) { ev0 with kind := 1, id := call5.id, dl := call5.dl, per := call5.per } (core0 cfg1))
theorem runs5 : Runs 13 (firstC 1) z5 := by
  refine ⟨fun j hj => ?_, by decide⟩
  have : j = 0 ∨ j = 1 ∨ j = 2 ∨ j = 3 ∨ j = 4 ∨ j = 5 ∨ j = 6 ∨ j = 7 ∨ j = 8 ∨ j = 9 ∨ j = 10 ∨ j = 11 ∨ j = 12 := by omega
  rcases this with rfl | rfl | rfl | rfl | rfl | rfl | rfl | rfl | rfl | rfl | rfl | rfl | rfl <;> decide
theorem end5 : (itC 13 (firstC 1) z5).2.1.ok = true ∧ (itC 13 (firstC 1) z5).2.1.aid = 64 ∧ (itC 13 (firstC 1) z5).2.1.agen = 1 ∧ (itC 13 (firstC 1) z5).2.1.err = 0 := by decide
end Go.Proofs.YthbjaoinklhikaaGreat

namespace Go.Proofs.YthbjaoinklhikaaGreat
set_option linter.unusedVariables false
set_option linter.unusedSimpArgs false
open Go.RowKit Go.Shelf

theorem call5_wf : call5.wf := ⟨⟨by decide, by decide⟩, ⟨by decide, by decide⟩, ⟨by decide, by decide⟩⟩
theorem cfg1_ok : cfg1.ok = true := by decide
set_option maxRecDepth 100000 in
theorem alive16_g : DoesG Tryz.prog 12 #[] [] fun e gs => e = .returned (.bool true) ∧ gs = [] := by
  have hrun : ∀ (L : Lay) (gF : List Blk), isCore L (core0 cfg1) gF → DoesG Tryz.prog 24 #[ptr' L.fb, .agg #[.int .i64 1, .int .u64 0, .int .u64 5, .int .u64 0]] [gF] fun e gs =>
      e = .returned (.tuple #[.agg #[.int .i64 0, .bool true, .int .u64 64, .int .u64 1, .slice none 0 0], .int .i64 13, .bool true]) ∧ ∃ gF', isCore L (itC 13 (firstC 1) z5).2.2 gF' ∧ gs = [gF'] := by
    intro L gF hx
    have h := lawRun hx call5 (by decide) (by decide) 13 1 (firstC 1) z5 rfl rfl (JC.first (core0_n cfg1_ok) call5_wf 0 1) (by decide) (by decide) runs5
    rw [end5.1, end5.2.1, end5.2.2.1, end5.2.2.2] at h
    exact h
  have HR := Lib.hid hrun
  have HN := Lib.hid (newCore cfg1 cfg1_ok)
  clear hrun
  intro w hw
  have T0 := TG.refl hw
  have HT := Lib.hid T0
  clear hw T0
  go_enter Tryz.func12, Tryz.ntmps12
  go_wp2_with fail
  refine (DoesG.use (HN.out) (HT.out) [] rfl rfl).mono ?_
  rintro e w1 ⟨gs, ⟨L, gF, gP, gL, rfl, hx, hp, rfl, rfl⟩, Ta⟩
  simp only [putG, List.set_cons_zero, List.set_cons_succ, List.cons_append, List.nil_append, List.append_nil] at Ta
  have HX := Lib.hid hx
  clear hx hp
  have HT := Lib.hid Ta
  clear Ta
  go_wp2_with fail
  refine (DoesG.use (HR.out _ _ HX.out) (HT.out) [0] rfl rfl).mono ?_
  rintro e w1 ⟨gs, ⟨rfl, gF', hx', rfl⟩, Ta⟩
  simp only [putG, List.set_cons_zero, List.set_cons_succ, List.cons_append, List.nil_append, List.append_nil] at Ta
  clear hx'
  have HT := Lib.hid Ta
  clear Ta
  go_wp2
  go_ret
  exact ⟨[], ⟨rfl, rfl⟩, (HT.out.alloc0 _).pick [] rfl⟩
end Go.Proofs.YthbjaoinklhikaaGreat

namespace Go.Proofs.YthbjaoinklhikaaGreat
set_option linter.unusedVariables false
set_option linter.unusedSimpArgs false
open Go.RowKit Go.Shelf

/-! ## A call alone; the document's example of layer 18 -/
section
variable {L : Lay} {x : CoreS} {gF : List Blk}
set_option maxRecDepth 100000 in
theorem lawAlone18 (hx : isCore L x gF) (c : CallC) (h1 : 1 ≤ c.kind) (h5 : c.kind ≤ 5) (n N : Nat) (s0 : SC) (z0 : ZC) (hs0 : s0 = firstC c.kind) (hz0 : z0 = (newW 0 1 c, noteC (newW 0 1 c) { ev0 with kind := 1, id := c.id, dl := c.dl, per := c.per } x))
    (hJ : JC N s0 z0) (hN : N + n < 1000000) (hn : n ≤ 499) (hr : Runs n s0 z0) :
    DoesG Tryz.prog 83 #[ptr' L.fb, .agg c.cells] [gF] fun e gs =>
      e = .returned (.agg (ansC (itC n s0 z0).2.1.err (itC n s0 z0).2.1.ok (itC n s0 z0).2.1.aid (itC n s0 z0).2.1.agen)) ∧ ∃ gF', isCore L (itC n s0 z0).2.2 gF' ∧ gs = [gF'] := by
  have hb := callBegin hx (by have := hJ.core.tr; rw [hz0] at this; simp only [noteC] at this; rw [List.length_append] at this; simp at this; omega) 0 1 c h1 h5
  unfold BeginR at hb
  rw [← hs0] at hb
  have HB := Lib.hid hb
  have HJ := Lib.hid hJ
  have HRN := Lib.hid hr
  have HZ := Lib.hid hz0
  intro w hw
  have T0 := TG.refl hw
  have HT := Lib.hid T0
  clear hw T0
  clear hx hJ hr hz0 hs0 h1 h5 hb
  simp only [CallC.cells] at HB ⊢
  go_enter Tryz.func83, Tryz.ntmps83
  go_wp2_with fail
  have HT := Lib.hid ((HT.out.alloc (k := w.heap.size) rfl 24 #[.int .i64 c.kind, .int .u64 c.id, .int .u64 c.dl, .int .u64 c.per]).alloc (k := w.heap.size + 1) (by simp) 30 #[.int .i64 0, .bool false, .int .u64 0, .int .u64 0, .slice none 0 0])
  go_wp2_with fail
  refine (DoesG.use (HB.out) (HT.out) [0] rfl rfl).mono ?_
  rintro e w1 ⟨gs, ⟨kb, g, gF1, rfl, hc, hx1, rfl⟩, Ta⟩
  simp only [putG, List.set_cons_zero, List.set_cons_succ, List.cons_append, List.nil_append, List.append_nil] at Ta
  have HT := Lib.hid Ta
  clear Ta
  have HT := Lib.hid (HT.out.pick [3, 2, 0] rfl)
  go_wp2
  have T1 := HT.out
  have HC := Lib.hid hc
  have HX1 := Lib.hid hx1
  clear hc hx1
  go_loopw [7] (fun i wr => ∃ j : Nat, j ≤ n ∧ i = .int .i64 j ∧ ∃ g gF2, isCall L kb (itC j s0 z0).1 j (itC j s0 z0).2.1 g ∧ isCore L (itC j s0 z0).2.2 gF2 ∧ TG [gF] w [gF2, [cl (w.heap.size + 1) 30 #[.int .i64 0, .bool false, .int .u64 0, .int .u64 0, .slice none 0 0]], g] wr) (fun i _ => 500 - (intOf i).toNat)
  case atStart => exact ⟨0, Nat.zero_le _, rfl, g, gF1, by rw [HZ.out]; exact HC.out, by rw [HZ.out]; exact HX1.out, T1⟩
  case round =>
    obtain ⟨j, hj, rfl, g2, gF2, hc2, hx2, T2⟩ := hrel
    have HC2 := Lib.hid hc2
    have HX2 := Lib.hid hx2
    have HT := Lib.hid T2
    have hjb : j ≤ 499 := by omega
    clear T1 T2 hc2 hx2
    by_cases hlt : j < n
    · have hni := HRN.out.1 j hlt
      have hpre := (HJ.out.it (N := N) j).pre (by omega)
      have hst := callStep HC2.out HX2.out hpre hni ⟨by omega, by omega⟩
      rw [← itC_next] at hst
      have HST := Lib.hid hst
      clear hst hpre hni
      go_wp2_with fail
      refine (DoesG.use HST.out HT.out [2, 0] rfl rfl).mono ?_
      rintro e w4 ⟨gs, ⟨g3, gF3, rfl, hc3, hx3, rfl⟩, Ta⟩
      simp only [putG, List.set_cons_zero, List.set_cons_succ, List.cons_append, List.nil_append, List.append_nil] at Ta
      have HC3 := Lib.hid hc3
      have HX3 := Lib.hid hx3
      have HT := Lib.hid Ta
      clear Ta hc3 hx3
      go_wp2
      first
      | (go_roundw
         case rel => exact ⟨j + 1, by omega, by go_num, g3, gF3, by have := HC3.out; rwa [show ((j : Int) + 1) = ((j + 1 : Nat) : Int) by omega] at this, HX3.out, HT.out⟩
         case measure => simp [intOf]; omega)
      | exact ⟨⟨j + 1, by omega, by go_num, g3, gF3, by have := HC3.out; rwa [show ((j : Int) + 1) = ((j + 1 : Nat) : Int) by omega] at this, HX3.out, HT.out⟩, by simp [intOf]; omega⟩
      | ((repeat apply Exists.intro); exact ⟨⟨⟨j + 1, by omega, by go_num, g3, gF3, by have := HC3.out; rwa [show ((j : Int) + 1) = ((j + 1 : Nat) : Int) by omega] at this, HX3.out, HT.out⟩, rfl⟩, by simp [intOf]; omega⟩)
    · have hjn : j = n := by omega
      subst hjn
      have hnil := HRN.out.2
      have hs : (itC j s0 z0).1 = .nil := by
        revert hnil
        cases (itC j s0 z0).1 <;> intro h <;> first | rfl | cases h
      have hc4 := HC2.out
      rw [hs] at hc4
      have hst := callStep_nil hc4 HX2.out
      have HST := Lib.hid hst
      clear hst hnil hs hc4
      go_wp2_with fail
      refine (DoesG.use HST.out HT.out [2, 0] rfl rfl).mono ?_
      rintro e w4 ⟨gs, ⟨rfl, g3, gF3, hc3, hx3, rfl⟩, Ta⟩
      simp only [putG, List.set_cons_zero, List.set_cons_succ, List.cons_append, List.nil_append, List.append_nil] at Ta
      have hA := callAnswer hc3 rfl
      obtain ⟨k2, hk2⟩ : ∃ k2, (itC j s0 z0).2.1 = k2 := ⟨_, rfl⟩
      rw [hk2] at hA
      have HA := Lib.hid hA
      have HK := Lib.hid hk2
      clear hA hk2
      have HX3 := Lib.hid hx3
      have HT := Lib.hid Ta
      clear Ta hc3 hx3
      go_wp2_with fail
      refine (DoesG.use (HA.out) (HT.out) [2] rfl rfl).mono ?_
      rintro e w1 ⟨gs, ⟨rfl, rfl⟩, Ta⟩
      simp only [putG, List.set_cons_zero, List.set_cons_succ, List.cons_append, List.nil_append, List.append_nil] at Ta
      have HT := Lib.hid Ta
      clear Ta
      have e0 := HT.out.cell 1 0 rfl 0
      have fe0 := HT.out.free 1 0 rfl 0
      have e1 := HT.out.cell 1 0 rfl 1
      have fe1 := HT.out.free 1 0 rfl 1
      have e2 := HT.out.cell 1 0 rfl 2
      have fe2 := HT.out.free 1 0 rfl 2
      have e3 := HT.out.cell 1 0 rfl 3
      have fe3 := HT.out.free 1 0 rfl 3
      have e4 := HT.out.cell 1 0 rfl 4
      have fe4 := HT.out.free 1 0 rfl 4
      simp only [List.getElem?_nil, List.getElem?_toArray, List.getElem?_cons_zero, List.getElem?_cons_succ] at e0 e1 e2 e3 e4
      have lte := HT.out.lt 1 0 rfl
      simp only [] at lte
      simp only [ansC]
      go_wp2
      exact bodyPost_ret (v := .agg (ansC k2.err k2.ok k2.aid k2.agen)) (by simp [results, Tryz.results83, go_sem, e0, e1, e2, e3, e4, ansC, lte]) rfl ⟨_, ⟨by rw [HK.out], gF3, HX3.out, rfl⟩, (((((((HT.out.set 1 0 rfl 0 _).set 1 0 rfl 1 _).set 1 0 rfl 2 _).set 1 0 rfl 3 _).set 1 0 rfl 4 _).alloc0 _).pick [0] rfl)⟩
end
theorem u64s_at (l : List Int) (i : Nat) (hi : i < l.length) : (u64s l)[i]? = some (.int .u64 (l.getD i 0)) := by
  unfold u64s
  rw [List.getElem?_map, List.getElem?_eq_getElem hi, List.getD_eq_getElem?_getD, List.getElem?_eq_getElem hi]
  rfl
theorem rowU_cell {h H : GH} {w w' : World} (T : TG h w H w') (i : Nat) {v : Value} {l : List Int} {g : List Blk} (hi : H.getD i [] = g) (r : rowG 22 1 v l.length (u64s l) g) {k : Nat} (hk : k < l.length) :
    ∃ b cap, v = .slice (some ⟨b, 0, none⟩) l.length cap ∧ l.length ≤ cap ∧ cap ≤ maxLen ∧ w'.cell? ⟨b, k, none⟩ = some (.int .u64 (l.getD k 0)) := by
  obtain ⟨b, cap, cur, rfl, rfl, h1, h2, h3, h4⟩ := rowG.open r (by omega)
  exact ⟨b, cap, rfl, h1, h2, (T.cell (b := b) i 0 (by rw [hi]; rfl) k).trans ((h4 k (by omega)).trans (u64s_at l k hk))⟩
set_option maxRecDepth 100000 in
theorem uints_r {a b : Value} {l : List Int} {gA gB : List Blk} (ha : rowG 22 1 a l.length (u64s l) gA) (hb : rowG 22 1 b l.length (u64s l) gB) (hn : l.length ≤ 1000000000) : ReadsG Tryz.prog 84 #[a, b] [gA, gB] (.bool true) := by
  obtain ⟨xa, ca, rfl⟩ := rowG.val ha
  obtain ⟨xb, cb, rfl⟩ := rowG.val hb
  intro w hw
  have HT := Lib.hid (TG.refl hw)
  have HA := Lib.hid ha
  have HB := Lib.hid hb
  generalize hll : l.length = n at *
  have HL := Lib.hid hll
  clear hw ha hb hll
  go_enter Tryz.func84, Tryz.ntmps84
  go_wp2
  go_loopw [5] (fun i wr => ∃ k m : Nat, k ≤ n ∧ i = .int .i64 k ∧ wr = w.drewN m) (fun i _ => n - (intOf i).toNat)
  case atStart => exact ⟨0, 0, Nat.zero_le _, rfl, rfl⟩
  case round =>
    obtain ⟨k, m, hk, rfl, rfl⟩ := hrel
    by_cases hlt : k < n
    · obtain ⟨ba, da, ea, a1, a2, c0⟩ := rowU_cell HT.out 0 rfl (by rw [HL.out]; exact HA.out) (k := k) (by rw [HL.out]; exact hlt)
      obtain ⟨bb, db, eb, b1, b2, d0⟩ := rowU_cell HT.out 1 rfl (by rw [HL.out]; exact HB.out) (k := k) (by rw [HL.out]; exact hlt)
      rw [HL.out] at ea eb a1 b1
      cases ea
      cases eb
      go_wp2
      go_quiet (fail)
      go_wp2
      go_roundw
      case rel => exact ⟨k + 1, _, by omega, by go_num, rfl⟩
      case measure => simp [intOf]; omega
    · go_wp2
      go_ret
      exact ⟨rfl, m, rfl⟩
def plain18 (sh : Int) : Cfg := ⟨sh, 12, 16, 2, 1, 8⟩
set_option maxRecDepth 100000 in
theorem plain18_g (sh : Int) : DoesG Tryz.prog 40 #[.int .i64 sh] [] fun e gs => e = .returned (.agg (plain18 sh).cells) ∧ gs = [] := by
  intro w hw
  have T0 := TG.refl hw
  have HT := Lib.hid T0
  clear hw T0
  go_enter Tryz.func40, Tryz.ntmps40
  go_wp2
  exact bodyPost_ret (v := .agg (plain18 sh).cells) (by simp [results, Tryz.results40, go_sem, plain18, Cfg.cells]) rfl ⟨_, ⟨rfl, rfl⟩, HT.out.alloc0 _⟩
end Go.Proofs.YthbjaoinklhikaaGreat

namespace Go.Proofs.YthbjaoinklhikaaGreat
set_option linter.unusedVariables false
set_option linter.unusedSimpArgs false
open Go.RowKit Go.Shelf
def RunsS (n : Nat) (s : SS) (z : ZS) : Prop := (∀ j, j < n → mayS' (itS j s z).1 (itS j s z).2 = true) ∧ mayS' (itS n s z).1 (itS n s z).2 = false
def runsB : Nat → SS → ZS → Bool
  | 0, s, z => !mayS' s z
  | n + 1, s, z => mayS' s z && runsB n (stepS s z).1 (stepS s z).2
theorem runsB_is : ∀ {n : Nat} {s : SS} {z : ZS}, runsB n s z = true → RunsS n s z
  | 0, s, z, h => ⟨fun j hj => by omega, by simpa [runsB, itS] using h⟩
  | n + 1, s, z, h => by
    simp only [runsB, Bool.and_eq_true] at h
    obtain ⟨h1, h2⟩ := runsB_is h.2
    refine ⟨fun j hj => ?_, h2⟩
    cases j with
    | zero => exact h.1
    | succ j => exact h1 j (by omega)
def call1 : CallC := ⟨1, 0, 1, 0⟩
def z18 : ZC := (newW 0 1 call1, noteC (newW 0 1 call1) { ev0 with kind := 1, id := call1.id, dl := call1.dl, per := call1.per } (core0 (plain18 1)))
theorem runs18 : Runs 13 (firstC 1) z18 := by
  refine ⟨fun j hj => ?_, by decide⟩
  have : j = 0 ∨ j = 1 ∨ j = 2 ∨ j = 3 ∨ j = 4 ∨ j = 5 ∨ j = 6 ∨ j = 7 ∨ j = 8 ∨ j = 9 ∨ j = 10 ∨ j = 11 ∨ j = 12 := by omega
  rcases this with rfl | rfl | rfl | rfl | rfl | rfl | rfl | rfl | rfl | rfl | rfl | rfl | rfl <;> decide
theorem end18 : (itC 13 (firstC 1) z18).2.1.ok = true ∧ (itC 13 (firstC 1) z18).2.1.aid = 64 ∧ (itC 13 (firstC 1) z18).2.1.agen = 1 ∧ (itC 13 (firstC 1) z18).2.1.err = 0 := by decide
def begS (no : Int) (x : CoreS) (p : PipeS) : ZS := ⟨newS 0 no, { x with tr := x.tr ++ [evS (newS 0 no) { ev0 with kind := 1 }] }, p⟩
def x18 : CoreS := (itC 13 (firstC 1) z18).2.2
def y18 (n : Nat) : ZS := begS 2 x18 (newPipe n)
def v18 (n : Nat) : ZS := begS 3 (itS 20 firstS (y18 n)).2.x (itS 20 firstS (y18 n)).2.p
theorem runs18a (n : Nat) : RunsS 20 firstS (y18 n) := runsB_is (by kernel_rfl)
theorem runs18b (n : Nat) : RunsS 2 firstS (v18 n) := runsB_is (by kernel_rfl)
theorem end18a (n : Nat) : (itS 20 firstS (y18 n)).1.isNil = true ∧ (itS 20 firstS (y18 n)).2.k.err = 0 ∧ (itS 20 firstS (y18 n)).2.k.ok = true ∧ (itS 20 firstS (y18 n)).2.k.told = [64] ∧ (itS 20 firstS (y18 n)).2.k.left = [64] := ⟨by kernel_rfl, by kernel_rfl, by kernel_rfl, by kernel_rfl, by kernel_rfl⟩
theorem end18b (n : Nat) : (itS 2 firstS (v18 n)).1.isNil = true ∧ (itS 2 firstS (v18 n)).2.k.err = 3 ∧ (itS 2 firstS (v18 n)).2.k.ok = false ∧ (itS 2 firstS (v18 n)).2.k.told = [] ∧ (itS 2 firstS (v18 n)).2.k.left = [] := ⟨by kernel_rfl, by kernel_rfl, by kernel_rfl, by kernel_rfl, by kernel_rfl⟩
theorem newW_left (th no : Int) : (newS th no).left = [] := rfl
theorem JS.first {N : Nat} {x : CoreS} (hc : CoreN N x) (h1 : x.f.cfg.cap = x.slab.recs.length) (h2 : 0 ≤ x.f.busy ∧ x.f.busy ≤ N) (p : PipeS) (no : Int) : JS (N + 1) firstS (begS no x p) :=
  ⟨⟨noteN hc _, h1, ⟨h2.1, by have := h2.2; show x.f.busy ≤ _; omega⟩, ⟨by show (0 : Int) ≤ 0; omega, by show (0 : Int) < _; omega, by show okW 0 = true; decide⟩, Nat.zero_le _⟩, rfl⟩
end Go.Proofs.YthbjaoinklhikaaGreat

namespace Go.Proofs.YthbjaoinklhikaaGreat
set_option linter.unusedVariables false
set_option linter.unusedSimpArgs false
open Go.RowKit Go.Shelf

theorem ans_field2 (a b c d e : Value) (w : World) : (Instr.field 30 (.agg #[a, b, c, d, e]) 2).run Tryz.prog w = .ok c w := by kernel_rfl
theorem jc18 : JC 1 (firstC 1) z18 := JC.first (N := 0) (core0_n (c := plain18 1) (by decide)) (c := call1) ⟨⟨by decide, by decide⟩, ⟨by decide, by decide⟩, ⟨by decide, by decide⟩⟩ 0 1
theorem js18a (n : Nat) : JS 15 firstS (y18 n) := JS.first (N := 14) (JC.it (N := 0) 13 jc18).core rfl ⟨by decide, by decide⟩ _ _
theorem js18b (n : Nat) : JS 36 firstS (v18 n) := by
  have h := ((js18a n).it 20).b
  exact JS.first h.core h.cap h.busy _ _
/-- what a closing has come to -/
structure EndS (r : SS × ZS) (err : Int) (ok : Bool) (told left : List Int) : Prop where
  nil : r.1.isNil = true
  len : r.2.x.tr.length ≤ 1000000
  err : r.2.k.err = err
  ok : r.2.k.ok = ok
  told : r.2.k.told = told
  left : r.2.k.left = left
theorem two18 : ∃ x : CoreS, x.tr.length ≤ 1000000 ∧ (∀ (L : Lay) (gF : List Blk), isCore L (core0 (plain18 1)) gF → DoesG Tryz.prog 83 #[ptr' L.fb, .agg #[.int .i64 1, .int .u64 0, .int .u64 1, .int .u64 0]] [gF] fun e gs =>
      e = .returned (.agg #[.int .i64 0, .bool true, .int .u64 64, .int .u64 1, .slice none 0 0]) ∧ ∃ gF', isCore L x gF' ∧ gs = [gF']) ∧
    ∀ n, ∃ y v : ZS, y = begS 2 x (newPipe n) ∧ v = begS 3 (itS 20 firstS y).2.x (itS 20 firstS y).2.p ∧ JS 15 firstS y ∧ RunsS 20 firstS y ∧ EndS (itS 20 firstS y) 0 true [64] [64] ∧
      JS 36 firstS v ∧ RunsS 2 firstS v ∧ EndS (itS 2 firstS v) 3 false [] [] := by
  refine ⟨x18, by decide, ?_, fun n => ⟨y18 n, v18 n, rfl, rfl, js18a n, runs18a n, ⟨(end18a n).1, ?_, (end18a n).2.1, (end18a n).2.2.1, (end18a n).2.2.2.1, (end18a n).2.2.2.2⟩, js18b n, runs18b n, ⟨(end18b n).1, ?_, (end18b n).2.1, (end18b n).2.2.1, (end18b n).2.2.2.1, (end18b n).2.2.2.2⟩⟩⟩
  · intro L gF hx
    have h := lawAlone18 hx call1 (by decide) (by decide) 13 1 (firstC 1) z18 rfl rfl jc18 (by decide) (by decide) runs18
    rw [end18.1, end18.2.1, end18.2.2.1, end18.2.2.2] at h
    exact h
  · have := ((js18a n).it 20).b.core.tr
    omega
  · have := ((js18b n).it 2).b.core.tr
    omega
set_option maxRecDepth 100000 in
set_option maxHeartbeats 1000000 in
theorem alive18_g : DoesG Tryz.prog 34 #[] [] fun e gs => e = .returned (.bool true) ∧ gs = [] := by
  obtain ⟨x18, hxl, hrun, hall⟩ := two18
  have HR := Lib.hid hrun
  have HN := Lib.hid (newCore (plain18 1) (by decide))
  have hf2 := fun w => ans_field2 (.int .i64 0) (.bool true) (.int .u64 64) (.int .u64 1) (.slice none 0 0) w
  clear hrun
  intro w hw
  have T0 := TG.refl hw
  have HT := Lib.hid T0
  clear hw T0
  go_enter Tryz.func34, Tryz.ntmps34
  go_wp2_with fail
  refine (DoesG.use (plain18_g 1) (HT.out) [] rfl rfl).mono ?_
  rintro e w1 ⟨gs, ⟨rfl, rfl⟩, Ta⟩
  simp only [putG, List.set_cons_zero, List.set_cons_succ, List.cons_append, List.nil_append, List.append_nil] at Ta
  have HT := Lib.hid Ta
  clear Ta
  go_wp2_with fail
  refine (DoesG.use (HN.out) (HT.out) [] rfl rfl).mono ?_
  rintro e w1 ⟨gs, ⟨L, gF, gP, gL, rfl, hx, hp, rfl, rfl⟩, Ta⟩
  simp only [putG, List.set_cons_zero, List.set_cons_succ, List.cons_append, List.nil_append, List.append_nil] at Ta
  have HX := Lib.hid hx
  have HP := Lib.hid (pipe_empty hp)
  clear hx hp
  have HT := Lib.hid Ta
  clear Ta
  obtain ⟨nr, hpp⟩ := HP.out
  go_wp2_with fail
  refine (DoesG.use (HR.out _ _ HX.out) (HT.out) [0] rfl rfl).mono ?_
  rintro e w1 ⟨gs, ⟨rfl, gF', hx', rfl⟩, Ta⟩
  simp only [putG, List.set_cons_zero, List.set_cons_succ, List.cons_append, List.nil_append, List.append_nil] at Ta
  have HX := Lib.hid (show isCP L x18 (newPipe nr) (gF' ++ gP) from ⟨gF', gP, hx', hpp, rfl⟩)
  clear hx' hpp
  have HT := Lib.hid Ta
  clear Ta
  have HT := Lib.hid (HT.out.sum (H' := [gF' ++ gP, [cl L.p.lb 174 #[.slice none 0 0]]]) (fun n ha h0 h1 h2 => by simp only [pickG, List.map_cons, List.map_nil, List.getD_cons_succ, List.getD_cons_zero, List.set_cons_succ, List.set_cons_zero, List.cons_append, List.flatten_append, List.flatten_cons, List.flatten_nil, List.append_nil, List.nil_append, ha, h0, h1, h2] <;> omega))
  have HBG := Lib.hid (cloBegin HX.out hxl 0 2)
  go_wp2_with fail
  refine (DoesG.use (HBG.out) (HT.out) [0] rfl rfl).mono ?_
  rintro e w1 ⟨gs, ⟨kb, g, gF1, rfl, hc, hx1, rfl⟩, Ta⟩
  simp only [putG, List.set_cons_zero, List.set_cons_succ, List.cons_append, List.nil_append, List.append_nil] at Ta
  have HT := Lib.hid Ta
  clear Ta
  obtain ⟨y, v, hy, hv, HJy, HRy, HEy, HJv, HRv, HEv⟩ := hall nr
  have HC := Lib.hid (show isClo L kb firstS 0 y.k g from by rw [hy]; exact hc)
  have HX := Lib.hid (show isCP L y.x y.p gF1 from by rw [hy]; exact hx1)
  have HJY := Lib.hid HJy
  have HRY := Lib.hid HRy
  have HEY := Lib.hid HEy
  have HJV := Lib.hid HJv
  have HRV := Lib.hid HRv
  have HEV := Lib.hid HEv
  have HV := Lib.hid hv
  clear HJy HRy HEy HJv HRv HEv hc hx1 hy hall hxl hv
  have HT := Lib.hid (HT.out.pick [2, 0] rfl)
  go_wp2
  go_loopw [5] (fun i wr => ∃ j : Nat, j ≤ 20 ∧ i = .int .i64 j ∧ ∃ g gF2, isClo L kb (itS j firstS y).1 j (itS j firstS y).2.k g ∧ isCP L (itS j firstS y).2.x (itS j firstS y).2.p gF2 ∧ TG [] w ([gF2, g]) wr) (fun i _ => 100 - (intOf i).toNat)
  case atStart => exact ⟨0, Nat.zero_le _, rfl, _, _, HC.out, HX.out, HT.out⟩
  case round =>
    obtain ⟨j, hj, rfl, g2, gF2, hc2, hx2, T2⟩ := hrel
    have HC2 := Lib.hid hc2
    have HX2 := Lib.hid hx2
    have HT := Lib.hid T2
    clear T2 hc2 hx2
    have hjb : j ≤ 99 := by omega
    by_cases hlt : j < 20
    · have hst := cloStep HC2.out HX2.out ((HJY.out.it j).b.ok (by omega)) (HRY.out.1 j hlt) ((HJY.out.it j).pre (by omega)) ⟨by omega, by omega⟩
      rw [← itS_next] at hst
      have HST := Lib.hid hst
      clear hst
      go_wp2_with fail
      refine (DoesG.use HST.out HT.out [1, 0] rfl rfl).mono ?_
      rintro e w4 ⟨gs, ⟨g3, gF3, rfl, hc3, hx3, rfl⟩, Ta⟩
      simp only [putG, List.set_cons_zero, List.set_cons_succ, List.cons_append, List.nil_append, List.append_nil] at Ta
      have HC3 := Lib.hid hc3
      have HX3 := Lib.hid hx3
      have HT := Lib.hid Ta
      clear Ta hc3 hx3
      go_wp2
      first
      | (go_roundw
         case rel => exact ⟨j + 1, by omega, by go_num, g3, gF3, by have := HC3.out; rwa [show ((j : Int) + 1) = ((j + 1 : Nat) : Int) by omega] at this, HX3.out, HT.out⟩
         case measure => simp [intOf]; omega)
      | exact ⟨⟨j + 1, by omega, by go_num, g3, gF3, by have := HC3.out; rwa [show ((j : Int) + 1) = ((j + 1 : Nat) : Int) by omega] at this, HX3.out, HT.out⟩, by simp [intOf]; omega⟩
      | ((repeat apply Exists.intro); exact ⟨⟨⟨j + 1, by omega, by go_num, g3, gF3, by have := HC3.out; rwa [show ((j : Int) + 1) = ((j + 1 : Nat) : Int) by omega] at this, HX3.out, HT.out⟩, rfl⟩, by simp [intOf]; omega⟩)
    · have hjn : j = 20 := by omega
      have hr2 := HRY.out.2
      have hee := HEY.out
      rw [← hjn] at hr2 hee
      clear hlt hj hjb
      have hst := cloNo HC2.out HX2.out ((HJY.out.it j).b.ok (by omega)) hr2
      clear hr2
      have HST := Lib.hid hst
      clear hst
      go_wp2_with fail
      refine (DoesG.use HST.out HT.out [1, 0] rfl rfl).mono ?_
      rintro e w4 ⟨gs, ⟨rfl, g3, gF3, hc3, hx3, rfl⟩, Ta⟩
      simp only [putG, List.set_cons_zero, List.set_cons_succ, List.cons_append, List.nil_append, List.append_nil] at Ta
      have hA := cloAnswer hc3 hee.nil (by rw [hee.left]; decide)
      rw [hee.err, hee.ok, hee.told] at hA
      have HA := Lib.hid hA
      have HX := Lib.hid hx3
      have HT := Lib.hid Ta
      clear Ta hc3 hx3 hA
      go_wp2_with fail
      refine (DoesG.use (HA.out) (HT.out) [1] rfl rfl).mono ?_
      rintro e w1 ⟨gs, ⟨va, ga, rfl, hra, rfl⟩, Ta⟩
      simp only [putG, List.set_cons_zero, List.set_cons_succ, List.cons_append, List.nil_append, List.append_nil] at Ta
      have HRA := Lib.hid hra
      clear hra
      have HT := Lib.hid Ta
      clear Ta
      obtain ⟨ava, capa, hva⟩ := rowG.val HRA.out
      subst hva
      have e1 : ([64] : List Int).length = 1 := rfl
      simp only [e1] at HRA ⊢
      simp only [ansS]
      have hv := HV.out
      rw [← hjn] at hv
      have HBG := Lib.hid (cloBegin HX.out hee.len 0 3)
      clear hee e1
      generalize w1 = wa at HT ⊢
      go_wp2_with fail
      refine (DoesG.use (HBG.out) (HT.out.alloc (k := wa.heap.size) rfl 30 #[.int .i64 0, .bool true, .int .u64 0, .int .u64 0, .slice ava 1 capa]) [0] rfl rfl).mono ?_
      rintro e w1 ⟨gs, ⟨kb2, g4, gF4, rfl, hc4, hx4, rfl⟩, Ta⟩
      simp only [putG, List.set_cons_zero, List.set_cons_succ, List.cons_append, List.nil_append, List.append_nil] at Ta
      have HT := Lib.hid Ta
      clear Ta
      have HC := Lib.hid (show isClo L kb2 firstS 0 v.k g4 from by rw [hv]; exact hc4)
      have HX := Lib.hid (show isCP L v.x v.p gF4 from by rw [hv]; exact hx4)
      clear hv hc4 hx4 hjn
      have HT := Lib.hid (HT.out.pick [4, 0, 2, 3] rfl)
      go_wp2
      go_loopw [10] (fun i wr => ∃ j : Nat, j ≤ 2 ∧ i = .int .i64 j ∧ ∃ g gF2, isClo L kb2 (itS j firstS v).1 j (itS j firstS v).2.k g ∧ isCP L (itS j firstS v).2.x (itS j firstS v).2.p gF2 ∧ TG [] w ([gF2, g] ++ [ga, [cl wa.heap.size 30 #[.int .i64 0, .bool true, .int .u64 0, .int .u64 0, .slice ava 1 capa]]] ) wr) (fun i _ => 100 - (intOf i).toNat)
      case atStart => exact ⟨0, Nat.zero_le _, rfl, _, _, HC.out, HX.out, HT.out⟩
      case round =>
        obtain ⟨j, hj, rfl, g2, gF2, hc2, hx2, T2⟩ := hrel
        have HC2 := Lib.hid hc2
        have HX2 := Lib.hid hx2
        have HT := Lib.hid T2
        clear T2 hc2 hx2
        have hjb : j ≤ 99 := by omega
        by_cases hlt : j < 2
        · have hst := cloStep HC2.out HX2.out ((HJV.out.it j).b.ok (by omega)) (HRV.out.1 j hlt) ((HJV.out.it j).pre (by omega)) ⟨by omega, by omega⟩
          rw [← itS_next] at hst
          have HST := Lib.hid hst
          clear hst
          go_wp2_with fail
          refine (DoesG.use HST.out HT.out [1, 0] rfl rfl).mono ?_
          rintro e w4 ⟨gs, ⟨g3, gF3, rfl, hc3, hx3, rfl⟩, Ta⟩
          simp only [putG, List.set_cons_zero, List.set_cons_succ, List.cons_append, List.nil_append, List.append_nil] at Ta
          have HC3 := Lib.hid hc3
          have HX3 := Lib.hid hx3
          have HT := Lib.hid Ta
          clear Ta hc3 hx3
          go_wp2
          first
          | (go_roundw
             case rel => exact ⟨j + 1, by omega, by go_num, g3, gF3, by have := HC3.out; rwa [show ((j : Int) + 1) = ((j + 1 : Nat) : Int) by omega] at this, HX3.out, HT.out⟩
             case measure => simp [intOf]; omega)
          | exact ⟨⟨j + 1, by omega, by go_num, g3, gF3, by have := HC3.out; rwa [show ((j : Int) + 1) = ((j + 1 : Nat) : Int) by omega] at this, HX3.out, HT.out⟩, by simp [intOf]; omega⟩
          | ((repeat apply Exists.intro); exact ⟨⟨⟨j + 1, by omega, by go_num, g3, gF3, by have := HC3.out; rwa [show ((j : Int) + 1) = ((j + 1 : Nat) : Int) by omega] at this, HX3.out, HT.out⟩, rfl⟩, by simp [intOf]; omega⟩)
        · have hjn : j = 2 := by omega
          have hr2 := HRV.out.2
          have hee := HEV.out
          rw [← hjn] at hr2 hee
          clear hlt hj hjb
          have hst := cloNo HC2.out HX2.out ((HJV.out.it j).b.ok (by omega)) hr2
          clear hr2
          have HST := Lib.hid hst
          clear hst
          go_wp2_with fail
          refine (DoesG.use HST.out HT.out [1, 0] rfl rfl).mono ?_
          rintro e w4 ⟨gs, ⟨rfl, g3, gF3, hc3, hx3, rfl⟩, Ta⟩
          simp only [putG, List.set_cons_zero, List.set_cons_succ, List.cons_append, List.nil_append, List.append_nil] at Ta
          have hA := cloAnswer hc3 hee.nil (by rw [hee.left]; decide)
          rw [hee.err, hee.ok, hee.told] at hA
          have HA := Lib.hid hA
          have HX := Lib.hid hx3
          have HT := Lib.hid Ta
          clear Ta hc3 hx3 hA
          go_wp2_with fail
          refine (DoesG.use (HA.out) (HT.out) [1] rfl rfl).mono ?_
          rintro e w1 ⟨gs, ⟨vb, gb, rfl, hrb, rfl⟩, Ta⟩
          simp only [putG, List.set_cons_zero, List.set_cons_succ, List.cons_append, List.nil_append, List.append_nil] at Ta
          have HT := Lib.hid Ta
          clear Ta
          obtain ⟨avb, capb, hvb⟩ := rowG.val hrb
          subst hvb
          clear hee hrb hjn
          generalize w1 = wb at HT ⊢
          have lt1 := HT.out.lt 3 0 rfl
          simp only [] at lt1
          have a1 := HT.out.cell 3 0 rfl 1
          have a4 := HT.out.cell 3 0 rfl 4
          simp only [List.getElem?_nil, List.getElem?_toArray, List.getElem?_cons_zero, List.getElem?_cons_succ] at a1 a4
          simp only [ansS]
          go_wp2_with fail
          have HT := Lib.hid ((HT.out.alloc (k := wb.heap.size) rfl 30 #[.int .i64 3, .bool false, .int .u64 0, .int .u64 0, .slice avb 0 capb]).alloc (k := wb.heap.size + 1) (by simp) 22 #[.int .u64 64])
          have hlit := rowG_lit 22 1 (wb.heap.size + 1) 1 1 #[.int .u64 64] (Nat.le_refl _) (by decide) rfl
          refine (ReadsG.use (uints_r (l := [64]) HRA.out hlit (by decide)) HT.out [2, 6] rfl rfl).mono ?_
          rintro e w2 ⟨rfl, mq, rfl⟩
          have HT := Lib.hid (HT.out.drewN mq)
          generalize World.drewN _ _ = wq at HT ⊢
          have b0 := HT.out.cell 5 0 rfl 0
          have b1 := HT.out.cell 5 0 rfl 1
          simp only [List.getElem?_nil, List.getElem?_toArray, List.getElem?_cons_zero, List.getElem?_cons_succ] at b0 b1
          go_wp2
          go_ret
          exact ⟨[], ⟨rfl, rfl⟩, HT.out.pick [] rfl⟩
end Go.Proofs.YthbjaoinklhikaaGreat
