import Derived.Test.YtblhfbcodbjgcaaGreatTU12
import Derived.Test.YtblhfbcodbjgcaaGreatTU4
namespace Go.Proofs.YtblhfbcodbjgcaaGreat
set_option linter.unusedVariables false
set_option linter.unusedSimpArgs false
open Go.RowKit Go.Shelf
section
variable {L : Lay} {x : CoreS} {gF : List Blk}
def BeginR (L : Lay) (x : CoreS) (th no : Int) (c : CallC) (e : Ending) (gs : GH) : Prop :=
  ∃ kb g gF', e = .returned (.tuple #[ptr' kb, .int .i64 0]) ∧ isCall L kb (firstC c.kind) 0 (newW th no c) g ∧ isCore L (noteC (newW th no c) { ev0 with kind := 1, id := c.id, dl := c.dl, per := c.per } x) gF' ∧ gs = [g, gF']
set_option maxRecDepth 100000 in
theorem callBegin_1 (hx : isCore L x gF) (hn : x.tr.length ≤ 1000000) (th no : Int) (c : CallC) : DoesG Tryz.prog 18 #[ptr' L.fb, .int .i64 th, .int .i64 no, .agg { c with kind := 1 }.cells] [gF] (BeginR L x th no { c with kind := 1 }) := by
  unfold BeginR
  have HS := Lib.hid (show ∀ kb pv, (cliC L kb pv).SV (.at none .right) .nilFunc (.func (.func 86) #[ptr' kb] #[]) [] from fun kb pv => ⟨rfl, rfl, rfl⟩)
  have HNW := Lib.hid (show ∀ kb, _ from fun kb => Cli.prog_new (cliC_ok L kb (.pointer none)) (HS.out kb (.pointer none)))
  have HF1 := Lib.hid (show firstC 1 = .at none .right from by simp [firstC])
  intro w hw
  have T0 := TG.refl hw
  have HT := Lib.hid T0
  clear hw T0
  have HX := Lib.hid hx
  have HLN := Lib.hid hn
  clear hx hn
  simp only [CallC.cells]
  go_enter Tryz.func18, Tryz.ntmps18
  go_wp2_with fail
  have HT := Lib.hid ((HT.out.alloc (k := w.heap.size) rfl 38 #[.int .i64 1, .int .u64 c.id, .int .u64 c.dl, .int .u64 c.per]).alloc (k := w.heap.size + 1) (by simp) 144 (workC L.fb (.pointer none) (.pointer none) (.pointer none) (newW th no { c with kind := 1 })))
  simp only [List.cons_append, List.nil_append] at HT
  refine (DoesG.use callsAt HT.out [] rfl rfl).mono ?_
  rintro e w1 ⟨gs, ⟨rfl, rfl⟩, Ta⟩
  simp only [putG, List.set_cons_zero, List.set_cons_succ, List.cons_append, List.nil_append, List.append_nil] at Ta
  have HT := Lib.hid (Ta.sum (H' := [gF, [cl w.heap.size 38 #[.int .i64 1, .int .u64 c.id, .int .u64 c.dl, .int .u64 c.per]], workB (w.heap.size + 1) L.fb (.pointer none) (.pointer none) (.pointer none) (newW th no { c with kind := 1 }), []]) (fun n ha h0 h1 h2 => by simp only [SU, ha, h0, h1, h2] <;> omega))
  clear Ta
  go_wp2_with fail
  refine (DoesG.use (HNW.out _) (HT.out) [3] rfl rfl).mono ?_
  rintro e w1 ⟨gs, ⟨pb, rfl, rfl⟩, Ta⟩
  simp only [PU] at Ta
  have HT := Lib.hid Ta
  clear Ta
  have k12 := HT.out.cell 2 0 rfl 12
  have fk12 := HT.out.free 2 0 rfl 12
  simp only [workC, List.getElem?_toArray, List.getElem?_cons_zero, List.getElem?_cons_succ] at k12
  have b0 := HT.out.cell 1 0 rfl 0
  have b1 := HT.out.cell 1 0 rfl 1
  have b2 := HT.out.cell 1 0 rfl 2
  have b3 := HT.out.cell 1 0 rfl 3
  simp only [List.getElem?_nil, List.getElem?_toArray, List.getElem?_cons_zero, List.getElem?_cons_succ] at b0 b1 b2 b3
  go_wp2_with fail
  have HT := Lib.hid ((HT.out.set 2 0 rfl 12 (ptr' pb)).eq (H' := [gF, [cl w.heap.size 38 #[.int .i64 1, .int .u64 c.id, .int .u64 c.dl, .int .u64 c.per]], workB (w.heap.size + 1) L.fb (ptr' pb) (.pointer none) (.pointer none) (newW th no { c with kind := 1 }), [], Cli.progB pb .nilFunc (.func (.func 86) #[ptr' (w.heap.size + 1)] #[]) 0]) rfl)
  go_wp2_with fail
  refine (DoesG.use (workNote HX.out { ev0 with kind := 1, id := c.id, dl := c.dl, per := c.per } HLN.out) (HT.out) [2, 0] rfl rfl).mono ?_
  rintro e w1 ⟨gs, ⟨rfl, g1, hx1, rfl⟩, Ta⟩
  simp only [PU] at Ta
  have HX := Lib.hid hx1
  clear hx1 k12 fk12 b0 b1 b2 b3
  have HT := Lib.hid Ta
  clear Ta
  go_wp2
  go_ret2
  exact ⟨_, ⟨_, _, g1, rfl, by rw [HF1.out]; exact ⟨pb, _, _, [], _, HS.out _ _, ⟨_, _, [], [], ⟨rfl, rfl⟩, ⟨rfl, rfl⟩, rfl⟩, rfl⟩, HX.out, rfl⟩, ((HT.out.pick [2, 0, 4] rfl).eq (H' := [[cl (w.heap.size + 1) 144 (workC L.fb (ptr' pb) (.pointer none) (.pointer none) (newW th no { c with kind := 1 }))], g1, Cli.progB pb .nilFunc (.func (.func 86) #[ptr' (w.heap.size + 1)] #[]) 0]) rfl).sum (H' := [Cli.progB pb .nilFunc (.func (.func 86) #[ptr' (w.heap.size + 1)] #[]) 0 ++ ([] ++ ([cl (w.heap.size + 1) 144 (workC L.fb (ptr' pb) (.pointer none) (.pointer none) (newW th no { c with kind := 1 }))] ++ ([] ++ []))), g1]) (fun n ha h0 h1 h2 => by simp only [SU, ha, h0, h1, h2] <;> omega)⟩
set_option maxRecDepth 100000 in
theorem callBegin_2 (hx : isCore L x gF) (hn : x.tr.length ≤ 1000000) (th no : Int) (c : CallC) : DoesG Tryz.prog 18 #[ptr' L.fb, .int .i64 th, .int .i64 no, .agg { c with kind := 2 }.cells] [gF] (BeginR L x th no { c with kind := 2 }) := by
  unfold BeginR
  have HS := Lib.hid (show ∀ kb pv, (cliC L kb pv).SV (.at none .right) .nilFunc (.func (.func 86) #[ptr' kb] #[]) [] from fun kb pv => ⟨rfl, rfl, rfl⟩)
  have HNW := Lib.hid (show ∀ kb, _ from fun kb => Cli.prog_new (cliC_ok L kb (.pointer none)) (HS.out kb (.pointer none)))
  have HF1 := Lib.hid (show firstC 2 = .at none .right from by simp [firstC])
  intro w hw
  have T0 := TG.refl hw
  have HT := Lib.hid T0
  clear hw T0
  have HX := Lib.hid hx
  have HLN := Lib.hid hn
  clear hx hn
  simp only [CallC.cells]
  go_enter Tryz.func18, Tryz.ntmps18
  go_wp2_with fail
  have HT := Lib.hid ((HT.out.alloc (k := w.heap.size) rfl 38 #[.int .i64 2, .int .u64 c.id, .int .u64 c.dl, .int .u64 c.per]).alloc (k := w.heap.size + 1) (by simp) 144 (workC L.fb (.pointer none) (.pointer none) (.pointer none) (newW th no { c with kind := 2 })))
  simp only [List.cons_append, List.nil_append] at HT
  refine (DoesG.use callsAt HT.out [] rfl rfl).mono ?_
  rintro e w1 ⟨gs, ⟨rfl, rfl⟩, Ta⟩
  simp only [putG, List.set_cons_zero, List.set_cons_succ, List.cons_append, List.nil_append, List.append_nil] at Ta
  have HT := Lib.hid (Ta.sum (H' := [gF, [cl w.heap.size 38 #[.int .i64 2, .int .u64 c.id, .int .u64 c.dl, .int .u64 c.per]], workB (w.heap.size + 1) L.fb (.pointer none) (.pointer none) (.pointer none) (newW th no { c with kind := 2 }), []]) (fun n ha h0 h1 h2 => by simp only [SU, ha, h0, h1, h2] <;> omega))
  clear Ta
  go_wp2_with fail
  refine (DoesG.use (HNW.out _) (HT.out) [3] rfl rfl).mono ?_
  rintro e w1 ⟨gs, ⟨pb, rfl, rfl⟩, Ta⟩
  simp only [PU] at Ta
  have HT := Lib.hid Ta
  clear Ta
  have k12 := HT.out.cell 2 0 rfl 12
  have fk12 := HT.out.free 2 0 rfl 12
  simp only [workC, List.getElem?_toArray, List.getElem?_cons_zero, List.getElem?_cons_succ] at k12
  have b0 := HT.out.cell 1 0 rfl 0
  have b1 := HT.out.cell 1 0 rfl 1
  have b2 := HT.out.cell 1 0 rfl 2
  have b3 := HT.out.cell 1 0 rfl 3
  simp only [List.getElem?_nil, List.getElem?_toArray, List.getElem?_cons_zero, List.getElem?_cons_succ] at b0 b1 b2 b3
  go_wp2_with fail
  have HT := Lib.hid ((HT.out.set 2 0 rfl 12 (ptr' pb)).eq (H' := [gF, [cl w.heap.size 38 #[.int .i64 2, .int .u64 c.id, .int .u64 c.dl, .int .u64 c.per]], workB (w.heap.size + 1) L.fb (ptr' pb) (.pointer none) (.pointer none) (newW th no { c with kind := 2 }), [], Cli.progB pb .nilFunc (.func (.func 86) #[ptr' (w.heap.size + 1)] #[]) 0]) rfl)
  go_wp2_with fail
  refine (DoesG.use (workNote HX.out { ev0 with kind := 1, id := c.id, dl := c.dl, per := c.per } HLN.out) (HT.out) [2, 0] rfl rfl).mono ?_
  rintro e w1 ⟨gs, ⟨rfl, g1, hx1, rfl⟩, Ta⟩
  simp only [PU] at Ta
  have HX := Lib.hid hx1
  clear hx1 k12 fk12 b0 b1 b2 b3
  have HT := Lib.hid Ta
  clear Ta
  go_wp2
  go_ret2
  exact ⟨_, ⟨_, _, g1, rfl, by rw [HF1.out]; exact ⟨pb, _, _, [], _, HS.out _ _, ⟨_, _, [], [], ⟨rfl, rfl⟩, ⟨rfl, rfl⟩, rfl⟩, rfl⟩, HX.out, rfl⟩, ((HT.out.pick [2, 0, 4] rfl).eq (H' := [[cl (w.heap.size + 1) 144 (workC L.fb (ptr' pb) (.pointer none) (.pointer none) (newW th no { c with kind := 2 }))], g1, Cli.progB pb .nilFunc (.func (.func 86) #[ptr' (w.heap.size + 1)] #[]) 0]) rfl).sum (H' := [Cli.progB pb .nilFunc (.func (.func 86) #[ptr' (w.heap.size + 1)] #[]) 0 ++ ([] ++ ([cl (w.heap.size + 1) 144 (workC L.fb (ptr' pb) (.pointer none) (.pointer none) (newW th no { c with kind := 2 }))] ++ ([] ++ []))), g1]) (fun n ha h0 h1 h2 => by simp only [SU, ha, h0, h1, h2] <;> omega)⟩
set_option maxRecDepth 100000 in
theorem callBegin_3 (hx : isCore L x gF) (hn : x.tr.length ≤ 1000000) (th no : Int) (c : CallC) : DoesG Tryz.prog 18 #[ptr' L.fb, .int .i64 th, .int .i64 no, .agg { c with kind := 3 }.cells] [gF] (BeginR L x th no { c with kind := 3 }) := by
  unfold BeginR
  have HS := Lib.hid (show ∀ kb pv, (cliC L kb pv).SV (.at none .enter) .nilFunc (.func (.func 87) #[ptr' kb] #[]) [] from fun kb pv => ⟨rfl, rfl, rfl⟩)
  have HNW := Lib.hid (show ∀ kb, _ from fun kb => Cli.prog_new (cliC_ok L kb (.pointer none)) (HS.out kb (.pointer none)))
  have HF1 := Lib.hid (show firstC 3 = .at none .enter from by simp [firstC])
  intro w hw
  have T0 := TG.refl hw
  have HT := Lib.hid T0
  clear hw T0
  have HX := Lib.hid hx
  have HLN := Lib.hid hn
  clear hx hn
  simp only [CallC.cells]
  go_enter Tryz.func18, Tryz.ntmps18
  go_wp2_with fail
  have HT := Lib.hid ((HT.out.alloc (k := w.heap.size) rfl 38 #[.int .i64 3, .int .u64 c.id, .int .u64 c.dl, .int .u64 c.per]).alloc (k := w.heap.size + 1) (by simp) 144 (workC L.fb (.pointer none) (.pointer none) (.pointer none) (newW th no { c with kind := 3 })))
  simp only [List.cons_append, List.nil_append] at HT
  refine (DoesG.use callsAt HT.out [] rfl rfl).mono ?_
  rintro e w1 ⟨gs, ⟨rfl, rfl⟩, Ta⟩
  simp only [putG, List.set_cons_zero, List.set_cons_succ, List.cons_append, List.nil_append, List.append_nil] at Ta
  have HT := Lib.hid (Ta.sum (H' := [gF, [cl w.heap.size 38 #[.int .i64 3, .int .u64 c.id, .int .u64 c.dl, .int .u64 c.per]], workB (w.heap.size + 1) L.fb (.pointer none) (.pointer none) (.pointer none) (newW th no { c with kind := 3 }), []]) (fun n ha h0 h1 h2 => by simp only [SU, ha, h0, h1, h2] <;> omega))
  clear Ta
  go_wp2_with fail
  refine (DoesG.use (HNW.out _) (HT.out) [3] rfl rfl).mono ?_
  rintro e w1 ⟨gs, ⟨pb, rfl, rfl⟩, Ta⟩
  simp only [PU] at Ta
  have HT := Lib.hid Ta
  clear Ta
  have k12 := HT.out.cell 2 0 rfl 12
  have fk12 := HT.out.free 2 0 rfl 12
  simp only [workC, List.getElem?_toArray, List.getElem?_cons_zero, List.getElem?_cons_succ] at k12
  have b0 := HT.out.cell 1 0 rfl 0
  have b1 := HT.out.cell 1 0 rfl 1
  have b2 := HT.out.cell 1 0 rfl 2
  have b3 := HT.out.cell 1 0 rfl 3
  simp only [List.getElem?_nil, List.getElem?_toArray, List.getElem?_cons_zero, List.getElem?_cons_succ] at b0 b1 b2 b3
  go_wp2_with fail
  have HT := Lib.hid ((HT.out.set 2 0 rfl 12 (ptr' pb)).eq (H' := [gF, [cl w.heap.size 38 #[.int .i64 3, .int .u64 c.id, .int .u64 c.dl, .int .u64 c.per]], workB (w.heap.size + 1) L.fb (ptr' pb) (.pointer none) (.pointer none) (newW th no { c with kind := 3 }), [], Cli.progB pb .nilFunc (.func (.func 87) #[ptr' (w.heap.size + 1)] #[]) 0]) rfl)
  go_wp2_with fail
  refine (DoesG.use (workNote HX.out { ev0 with kind := 1, id := c.id, dl := c.dl, per := c.per } HLN.out) (HT.out) [2, 0] rfl rfl).mono ?_
  rintro e w1 ⟨gs, ⟨rfl, g1, hx1, rfl⟩, Ta⟩
  simp only [PU] at Ta
  have HX := Lib.hid hx1
  clear hx1 k12 fk12 b0 b1 b2 b3
  have HT := Lib.hid Ta
  clear Ta
  go_wp2
  go_ret2
  exact ⟨_, ⟨_, _, g1, rfl, by rw [HF1.out]; exact ⟨pb, _, _, [], _, HS.out _ _, ⟨_, _, [], [], ⟨rfl, rfl⟩, ⟨rfl, rfl⟩, rfl⟩, rfl⟩, HX.out, rfl⟩, ((HT.out.pick [2, 0, 4] rfl).eq (H' := [[cl (w.heap.size + 1) 144 (workC L.fb (ptr' pb) (.pointer none) (.pointer none) (newW th no { c with kind := 3 }))], g1, Cli.progB pb .nilFunc (.func (.func 87) #[ptr' (w.heap.size + 1)] #[]) 0]) rfl).sum (H' := [Cli.progB pb .nilFunc (.func (.func 87) #[ptr' (w.heap.size + 1)] #[]) 0 ++ ([] ++ ([cl (w.heap.size + 1) 144 (workC L.fb (ptr' pb) (.pointer none) (.pointer none) (newW th no { c with kind := 3 }))] ++ ([] ++ []))), g1]) (fun n ha h0 h1 h2 => by simp only [SU, ha, h0, h1, h2] <;> omega)⟩
set_option maxRecDepth 100000 in
theorem callBegin_4 (hx : isCore L x gF) (hn : x.tr.length ≤ 1000000) (th no : Int) (c : CallC) : DoesG Tryz.prog 18 #[ptr' L.fb, .int .i64 th, .int .i64 no, .agg { c with kind := 4 }.cells] [gF] (BeginR L x th no { c with kind := 4 }) := by
  unfold BeginR
  have HS := Lib.hid (show ∀ kb pv, (cliC L kb pv).SV (.at none .gate) .nilFunc (.func (.func 88) #[ptr' kb] #[]) [] from fun kb pv => ⟨rfl, rfl, rfl⟩)
  have HNW := Lib.hid (show ∀ kb, _ from fun kb => Cli.prog_new (cliC_ok L kb (.pointer none)) (HS.out kb (.pointer none)))
  have HF1 := Lib.hid (show firstC 4 = .at none .gate from by simp [firstC])
  intro w hw
  have T0 := TG.refl hw
  have HT := Lib.hid T0
  clear hw T0
  have HX := Lib.hid hx
  have HLN := Lib.hid hn
  clear hx hn
  simp only [CallC.cells]
  go_enter Tryz.func18, Tryz.ntmps18
  go_wp2_with fail
  have HT := Lib.hid ((HT.out.alloc (k := w.heap.size) rfl 38 #[.int .i64 4, .int .u64 c.id, .int .u64 c.dl, .int .u64 c.per]).alloc (k := w.heap.size + 1) (by simp) 144 (workC L.fb (.pointer none) (.pointer none) (.pointer none) (newW th no { c with kind := 4 })))
  simp only [List.cons_append, List.nil_append] at HT
  refine (DoesG.use callsAt HT.out [] rfl rfl).mono ?_
  rintro e w1 ⟨gs, ⟨rfl, rfl⟩, Ta⟩
  simp only [putG, List.set_cons_zero, List.set_cons_succ, List.cons_append, List.nil_append, List.append_nil] at Ta
  have HT := Lib.hid (Ta.sum (H' := [gF, [cl w.heap.size 38 #[.int .i64 4, .int .u64 c.id, .int .u64 c.dl, .int .u64 c.per]], workB (w.heap.size + 1) L.fb (.pointer none) (.pointer none) (.pointer none) (newW th no { c with kind := 4 }), []]) (fun n ha h0 h1 h2 => by simp only [SU, ha, h0, h1, h2] <;> omega))
  clear Ta
  go_wp2_with fail
  refine (DoesG.use (HNW.out _) (HT.out) [3] rfl rfl).mono ?_
  rintro e w1 ⟨gs, ⟨pb, rfl, rfl⟩, Ta⟩
  simp only [PU] at Ta
  have HT := Lib.hid Ta
  clear Ta
  have k12 := HT.out.cell 2 0 rfl 12
  have fk12 := HT.out.free 2 0 rfl 12
  simp only [workC, List.getElem?_toArray, List.getElem?_cons_zero, List.getElem?_cons_succ] at k12
  have b0 := HT.out.cell 1 0 rfl 0
  have b1 := HT.out.cell 1 0 rfl 1
  have b2 := HT.out.cell 1 0 rfl 2
  have b3 := HT.out.cell 1 0 rfl 3
  simp only [List.getElem?_nil, List.getElem?_toArray, List.getElem?_cons_zero, List.getElem?_cons_succ] at b0 b1 b2 b3
  go_wp2_with fail
  have HT := Lib.hid ((HT.out.set 2 0 rfl 12 (ptr' pb)).eq (H' := [gF, [cl w.heap.size 38 #[.int .i64 4, .int .u64 c.id, .int .u64 c.dl, .int .u64 c.per]], workB (w.heap.size + 1) L.fb (ptr' pb) (.pointer none) (.pointer none) (newW th no { c with kind := 4 }), [], Cli.progB pb .nilFunc (.func (.func 88) #[ptr' (w.heap.size + 1)] #[]) 0]) rfl)
  go_wp2_with fail
  refine (DoesG.use (workNote HX.out { ev0 with kind := 1, id := c.id, dl := c.dl, per := c.per } HLN.out) (HT.out) [2, 0] rfl rfl).mono ?_
  rintro e w1 ⟨gs, ⟨rfl, g1, hx1, rfl⟩, Ta⟩
  simp only [PU] at Ta
  have HX := Lib.hid hx1
  clear hx1 k12 fk12 b0 b1 b2 b3
  have HT := Lib.hid Ta
  clear Ta
  go_wp2
  go_ret2
  exact ⟨_, ⟨_, _, g1, rfl, by rw [HF1.out]; exact ⟨pb, _, _, [], _, HS.out _ _, ⟨_, _, [], [], ⟨rfl, rfl⟩, ⟨rfl, rfl⟩, rfl⟩, rfl⟩, HX.out, rfl⟩, ((HT.out.pick [2, 0, 4] rfl).eq (H' := [[cl (w.heap.size + 1) 144 (workC L.fb (ptr' pb) (.pointer none) (.pointer none) (newW th no { c with kind := 4 }))], g1, Cli.progB pb .nilFunc (.func (.func 88) #[ptr' (w.heap.size + 1)] #[]) 0]) rfl).sum (H' := [Cli.progB pb .nilFunc (.func (.func 88) #[ptr' (w.heap.size + 1)] #[]) 0 ++ ([] ++ ([cl (w.heap.size + 1) 144 (workC L.fb (ptr' pb) (.pointer none) (.pointer none) (newW th no { c with kind := 4 }))] ++ ([] ++ []))), g1]) (fun n ha h0 h1 h2 => by simp only [SU, ha, h0, h1, h2] <;> omega)⟩
set_option maxRecDepth 100000 in
theorem callBegin_5 (hx : isCore L x gF) (hn : x.tr.length ≤ 1000000) (th no : Int) (c : CallC) : DoesG Tryz.prog 18 #[ptr' L.fb, .int .i64 th, .int .i64 no, .agg { c with kind := 5 }.cells] [gF] (BeginR L x th no { c with kind := 5 }) := by
  unfold BeginR
  have HS := Lib.hid (show ∀ kb pv, (cliC L kb pv).SV (.at none .gate) .nilFunc (.func (.func 88) #[ptr' kb] #[]) [] from fun kb pv => ⟨rfl, rfl, rfl⟩)
  have HNW := Lib.hid (show ∀ kb, _ from fun kb => Cli.prog_new (cliC_ok L kb (.pointer none)) (HS.out kb (.pointer none)))
  have HF1 := Lib.hid (show firstC 5 = .at none .gate from by simp [firstC])
  intro w hw
  have T0 := TG.refl hw
  have HT := Lib.hid T0
  clear hw T0
  have HX := Lib.hid hx
  have HLN := Lib.hid hn
  clear hx hn
  simp only [CallC.cells]
  go_enter Tryz.func18, Tryz.ntmps18
  go_wp2_with fail
  have HT := Lib.hid ((HT.out.alloc (k := w.heap.size) rfl 38 #[.int .i64 5, .int .u64 c.id, .int .u64 c.dl, .int .u64 c.per]).alloc (k := w.heap.size + 1) (by simp) 144 (workC L.fb (.pointer none) (.pointer none) (.pointer none) (newW th no { c with kind := 5 })))
  simp only [List.cons_append, List.nil_append] at HT
  refine (DoesG.use callsAt HT.out [] rfl rfl).mono ?_
  rintro e w1 ⟨gs, ⟨rfl, rfl⟩, Ta⟩
  simp only [putG, List.set_cons_zero, List.set_cons_succ, List.cons_append, List.nil_append, List.append_nil] at Ta
  have HT := Lib.hid (Ta.sum (H' := [gF, [cl w.heap.size 38 #[.int .i64 5, .int .u64 c.id, .int .u64 c.dl, .int .u64 c.per]], workB (w.heap.size + 1) L.fb (.pointer none) (.pointer none) (.pointer none) (newW th no { c with kind := 5 }), []]) (fun n ha h0 h1 h2 => by simp only [SU, ha, h0, h1, h2] <;> omega))
  clear Ta
  go_wp2_with fail
  refine (DoesG.use (HNW.out _) (HT.out) [3] rfl rfl).mono ?_
  rintro e w1 ⟨gs, ⟨pb, rfl, rfl⟩, Ta⟩
  simp only [PU] at Ta
  have HT := Lib.hid Ta
  clear Ta
  have k12 := HT.out.cell 2 0 rfl 12
  have fk12 := HT.out.free 2 0 rfl 12
  simp only [workC, List.getElem?_toArray, List.getElem?_cons_zero, List.getElem?_cons_succ] at k12
  have b0 := HT.out.cell 1 0 rfl 0
  have b1 := HT.out.cell 1 0 rfl 1
  have b2 := HT.out.cell 1 0 rfl 2
  have b3 := HT.out.cell 1 0 rfl 3
  simp only [List.getElem?_nil, List.getElem?_toArray, List.getElem?_cons_zero, List.getElem?_cons_succ] at b0 b1 b2 b3
  go_wp2_with fail
  have HT := Lib.hid ((HT.out.set 2 0 rfl 12 (ptr' pb)).eq (H' := [gF, [cl w.heap.size 38 #[.int .i64 5, .int .u64 c.id, .int .u64 c.dl, .int .u64 c.per]], workB (w.heap.size + 1) L.fb (ptr' pb) (.pointer none) (.pointer none) (newW th no { c with kind := 5 }), [], Cli.progB pb .nilFunc (.func (.func 88) #[ptr' (w.heap.size + 1)] #[]) 0]) rfl)
  go_wp2_with fail
  refine (DoesG.use (workNote HX.out { ev0 with kind := 1, id := c.id, dl := c.dl, per := c.per } HLN.out) (HT.out) [2, 0] rfl rfl).mono ?_
  rintro e w1 ⟨gs, ⟨rfl, g1, hx1, rfl⟩, Ta⟩
  simp only [PU] at Ta
  have HX := Lib.hid hx1
  clear hx1 k12 fk12 b0 b1 b2 b3
  have HT := Lib.hid Ta
  clear Ta
  go_wp2
  go_ret2
  exact ⟨_, ⟨_, _, g1, rfl, by rw [HF1.out]; exact ⟨pb, _, _, [], _, HS.out _ _, ⟨_, _, [], [], ⟨rfl, rfl⟩, ⟨rfl, rfl⟩, rfl⟩, rfl⟩, HX.out, rfl⟩, ((HT.out.pick [2, 0, 4] rfl).eq (H' := [[cl (w.heap.size + 1) 144 (workC L.fb (ptr' pb) (.pointer none) (.pointer none) (newW th no { c with kind := 5 }))], g1, Cli.progB pb .nilFunc (.func (.func 88) #[ptr' (w.heap.size + 1)] #[]) 0]) rfl).sum (H' := [Cli.progB pb .nilFunc (.func (.func 88) #[ptr' (w.heap.size + 1)] #[]) 0 ++ ([] ++ ([cl (w.heap.size + 1) 144 (workC L.fb (ptr' pb) (.pointer none) (.pointer none) (newW th no { c with kind := 5 }))] ++ ([] ++ []))), g1]) (fun n ha h0 h1 h2 => by simp only [SU, ha, h0, h1, h2] <;> omega)⟩
theorem callBegin (hx : isCore L x gF) (hn : x.tr.length ≤ 1000000) (th no : Int) (c : CallC) (h1 : 1 ≤ c.kind) (h5 : c.kind ≤ 5) : DoesG Tryz.prog 18 #[ptr' L.fb, .int .i64 th, .int .i64 no, .agg c.cells] [gF] (BeginR L x th no c) := by
  obtain ⟨kd, id, dl, per⟩ := c
  simp only at h1 h5
  have h : kd = 1 ∨ kd = 2 ∨ kd = 3 ∨ kd = 4 ∨ kd = 5 := by omega
  rcases h with rfl | rfl | rfl | rfl | rfl
  · exact callBegin_1 hx hn th no ⟨1, id, dl, per⟩
  · exact callBegin_2 hx hn th no ⟨2, id, dl, per⟩
  · exact callBegin_3 hx hn th no ⟨3, id, dl, per⟩
  · exact callBegin_4 hx hn th no ⟨4, id, dl, per⟩
  · exact callBegin_5 hx hn th no ⟨5, id, dl, per⟩
end
end Go.Proofs.YtblhfbcodbjgcaaGreat

namespace Go.Proofs.YtblhfbcodbjgcaaGreat
set_option linter.unusedVariables false
set_option linter.unusedSimpArgs false
open Go.RowKit Go.Shelf
def core0 (c : Cfg) : CoreS := ⟨⟨c, false, 0, 0, 0⟩, newSlab c.cap.toNat, [], List.replicate c.sh.toNat (newShard c.ring.toNat)⟩
def Runs (n : Nat) (s : SC) (z : ZC) : Prop := (∀ j, j < n → (itC j s z).1.isNil = false) ∧ (itC n s z).1.isNil = true
theorem itC_next : ∀ (j : Nat) (s : SC) (z : ZC), itC (j + 1) s z = stepC (itC j s z).1 (itC j s z).2
  | 0, _, _ => rfl
  | j + 1, s, z => by rw [itC, itC_next j]; rfl
section
variable {L : Lay} {x : CoreS} {gF : List Blk}
end
end Go.Proofs.YtblhfbcodbjgcaaGreat

namespace Go.Proofs.YtblhfbcodbjgcaaGreat
set_option linter.unusedVariables false
set_option linter.unusedSimpArgs false
open Go.RowKit Go.Shelf
structure Nd where
  b : Nat
  v : List Value
def nxV (q : Value) : List Nd → Value
  | [] => q
  | a :: _ => ptr' a.b
def lsV (p : Value) : List Nd → Value
  | [] => p
  | a :: l => lsV (ptr' a.b) l
def nodesB (T : TypeId) (hb : Nat) : Value → Value → List Nd → List Blk
  | _, _, [] => []
  | p, q, a :: l => cl a.b T (a.v ++ [p, nxV q l, ptr' hb]).toArray :: nodesB T hb (ptr' a.b) q l
@[simp] theorem nxV_nil (q : Value) : nxV q [] = q := rfl
@[simp] theorem nxV_cons (q : Value) (a : Nd) (l : List Nd) : nxV q (a :: l) = ptr' a.b := rfl
theorem nxV_append (q : Value) (l m : List Nd) : nxV q (l ++ m) = nxV (nxV q m) l := by cases l <;> rfl
theorem lsV_append (p : Value) (l m : List Nd) : lsV p (l ++ m) = lsV (lsV p l) m := by
  induction l generalizing p with
  | nil => rfl
  | cons a l ih => exact ih _
theorem nodesB_append (T : TypeId) (hb : Nat) (p q : Value) (l m : List Nd) : nodesB T hb p q (l ++ m) = nodesB T hb p (nxV q m) l ++ nodesB T hb (lsV p l) q m := by
  induction l generalizing p with
  | nil => rfl
  | cons a l ih =>
    simp only [List.cons_append, nodesB, lsV]
    rw [ih, nxV_append]
theorem lsV_snoc (p : Value) (l : List Nd) (y : Nd) : lsV p (l ++ [y]) = ptr' y.b := by rw [lsV_append]; rfl
theorem nd_snoc (l : List Nd) : l = [] ∨ ∃ m y, l = m ++ [y] := by
  rcases List.eq_nil_or_concat l with h | ⟨m, y, h⟩
  · exact .inl h
  · exact .inr ⟨m, y, by rw [h, List.concat_eq_append]⟩
def isListT (LT NT : TypeId) (K : Nat) (lb hb : Nat) (l : List Nd) (g : List Blk) : Prop :=
  (∀ a ∈ l, a.v.length = K) ∧ g = cl lb LT #[nxV (.pointer none) l, lsV (.pointer none) l, .int .i64 l.length, ptr' hb] :: cl hb 269 #[.pointer none] :: nodesB NT hb (.pointer none) (.pointer none) l
set_option maxRecDepth 100000 in
theorem homeAt_r (hb : Nat) : ReadsG Tryz.prog 326 #[ptr' hb] [[cl hb 269 #[.pointer none]]] (ptr' hb) := by
  intro w hw
  have T0 := TG.refl hw
  have HT := Lib.hid T0
  clear hw T0
  have c0 := HT.out.cell 0 0 rfl 0
  simp only [List.getElem?_toArray, List.getElem?_cons_zero] at c0
  go_enter Tryz.func326, Tryz.ntmps326
  go_wp2
  go_loopw [0] (fun v wr => v = ptr' hb ∧ wr = w) (fun _ _ => 0)
  case atStart => exact ⟨rfl, rfl⟩
  case round =>
    obtain ⟨rfl, rfl⟩ := hrel
    go_wp2
    go_ret
    exact ⟨rfl, 0, rfl⟩
def isListE (lb hb : Nat) (l : List Nd) (g : List Blk) : Prop := isListT 298 372 1 lb hb l g
theorem listNewE_g : DoesG Tryz.prog 161 #[] [] fun e gs => ∃ lb hb g, e = .returned (ptr' lb) ∧ isListE lb hb [] g ∧ gs = [g] := by
  intro w hw
  have T0 := TG.refl hw
  have HT := Lib.hid T0
  clear hw T0
  go_enter Tryz.func161, Tryz.ntmps161
  go_wp2
  go_ret
  exact ⟨_, ⟨_, _, _, rfl, ⟨(by intro a h; cases h), rfl⟩, rfl⟩, ((HT.out.alloc rfl _ _).alloc rfl _ _).re (by simp [nodesB, nxV, lsV]; exact List.Perm.swap _ _ _)⟩
section
variable {lb hb : Nat} {l : List Nd} {g : List Blk}
theorem listLenE_r (hg : isListE lb hb l g) : ReadsG Tryz.prog 334 #[ptr' lb] [g] (.int .i64 l.length) := by
  obtain ⟨_, rfl⟩ := hg
  intro w hw
  have T0 := TG.refl hw
  have HT := Lib.hid T0
  clear hw T0
  have c2 := HT.out.cell 0 0 rfl 2
  simp only [List.getElem?_toArray, List.getElem?_cons_zero, List.getElem?_cons_succ] at c2
  go_enter Tryz.func334, Tryz.ntmps334
  go_wp2
  go_ret
  exact ⟨rfl, 0, rfl⟩
theorem listFirstE_r (hg : isListE lb hb l g) : ReadsG Tryz.prog 320 #[ptr' lb] [g] (nxV (.pointer none) l) := by
  obtain ⟨_, rfl⟩ := hg
  obtain ⟨v, hv⟩ : ∃ v, nxV (.pointer none) l = v := ⟨_, rfl⟩
  rw [hv]
  have hp : ∃ o, v = .pointer o := by subst hv; cases l <;> exact ⟨_, rfl⟩
  obtain ⟨o, rfl⟩ := hp
  intro w hw
  have T0 := TG.refl hw
  have HT := Lib.hid T0
  clear hw T0
  have c0 := HT.out.cell 0 0 rfl 0
  simp only [List.getElem?_toArray, List.getElem?_cons_zero, List.getElem?_cons_succ] at c0
  clear hv
  go_enter Tryz.func320, Tryz.ntmps320
  go_wp2
  go_ret
  exact ⟨rfl, 0, rfl⟩
set_option maxRecDepth 100000 in
theorem listPutE_g (hg : isListE lb hb l g) (hn : l.length ≤ 1000000000) (nb : Nat) (ve p0 q0 : Value) :
    DoesG Tryz.prog 317 #[ptr' lb, ptr' nb] [g, [cl nb 372 #[ve, p0, q0, .pointer none]]] fun e gs => e = .returned (.int .i64 0) ∧ ∃ g', isListE lb hb (l ++ [⟨nb, [ve]⟩]) g' ∧ gs = [g'] := by
  obtain ⟨hk, rfl⟩ := hg
  rcases nd_snoc l with rfl | ⟨m, y, rfl⟩
  · intro w hw
    have T0 := TG.refl hw
    have HT := Lib.hid T0
    clear hw T0
    have c0 := HT.out.cell 0 0 rfl 0
    have fc0 := HT.out.free 0 0 rfl 0
    have c1 := HT.out.cell 0 0 rfl 1
    have fc1 := HT.out.free 0 0 rfl 1
    have c2 := HT.out.cell 0 0 rfl 2
    have fc2 := HT.out.free 0 0 rfl 2
    have c3 := HT.out.cell 0 0 rfl 3
    have fc3 := HT.out.free 0 0 rfl 3
    simp only [nxV, lsV, List.length_nil, List.getElem?_toArray, List.getElem?_cons_zero, List.getElem?_cons_succ] at c0 c1 c2 c3
    have d1 := HT.out.cell 1 0 rfl 1
    have fd1 := HT.out.free 1 0 rfl 1
    have d2 := HT.out.cell 1 0 rfl 2
    have fd2 := HT.out.free 1 0 rfl 2
    have d3 := HT.out.cell 1 0 rfl 3
    have fd3 := HT.out.free 1 0 rfl 3
    simp only [nxV, List.getElem?_toArray, List.getElem?_cons_zero, List.getElem?_cons_succ] at d1 d2 d3
    go_enter Tryz.func317, Tryz.ntmps317
    go_wp2
    go_region
    have HT := Lib.hid ((((HT.out.set 1 0 rfl 3 (ptr' hb)).set 1 0 rfl 1 (.pointer none)).set 1 0 rfl 2 (.pointer none)).drew)
    clear c0 c1 c2 c3 fc0 fc1 fc2 fc3 d1 d2 d3 fd1 fd2 fd3
    generalize World.drew _ = w1 at HT ⊢
    have c0 := HT.out.cell 0 0 rfl 0
    have fc0 := HT.out.free 0 0 rfl 0
    have c1 := HT.out.cell 0 0 rfl 1
    have fc1 := HT.out.free 0 0 rfl 1
    have c2 := HT.out.cell 0 0 rfl 2
    have fc2 := HT.out.free 0 0 rfl 2
    simp only [nxV, lsV, List.length_nil, List.getElem?_toArray, List.getElem?_cons_zero, List.getElem?_cons_succ] at c0 c1 c2
    go_wp2
    go_ret
    exact ⟨_, ⟨rfl, _, ⟨(by intro a h; simp only [List.nil_append, List.mem_singleton] at h; subst h; rfl), rfl⟩, rfl⟩, (((HT.out.set 0 0 rfl 0 _).set 0 0 rfl 1 _).set 0 0 rfl 2 _).eq rfl⟩
  · obtain ⟨b, v⟩ := y
    have hv : v.length = 1 := hk ⟨b, v⟩ (by simp)
    obtain ⟨y0, rfl⟩ : ∃ y0, v = [y0] := by
      match v, hv with
      | [y0], _ => exact ⟨y0, rfl⟩
    have hk2 : ∀ a ∈ (m ++ [(⟨b, [y0]⟩ : Nd)]) ++ [⟨nb, [ve]⟩], a.v.length = 1 := by
      intro a h
      rcases List.mem_append.1 h with h | h
      · exact hk a h
      · simp only [List.mem_singleton] at h; subst h; rfl
    have HK := Lib.hid hk2
    clear hk2
    intro w hw
    have T0 := TG.refl hw
    have HT := Lib.hid T0
    clear hw T0
    have HL := Lib.hid hn
    have T1 := HT.out.sum (H' := [[cl lb 298 #[nxV (.pointer none) (m ++ [⟨b, [y0]⟩]), ptr' b, (.int .i64 ((m.length + 1 : Nat) : Int)), ptr' hb]], [cl hb 269 #[.pointer none]], nodesB 372 hb (.pointer none) (ptr' b) m, [cl b 372 #[y0, lsV (.pointer none) m, .pointer none, ptr' hb]], [cl nb 372 #[ve, p0, q0, .pointer none]]]) (fun n ha h0 h1 h2 => by rw [nodesB_append]; simp only [List.length_append, List.length_cons, List.length_nil, Nat.zero_add, lsV_snoc, nodesB, nxV_nil, nxV_cons, List.cons_append, List.nil_append, List.flatten_cons, List.flatten_nil, List.append_nil, ha, h0, h1, h2] <;> omega)
    have HT := Lib.hid T1
    clear hk hn hv T1
    have c0 := HT.out.cell 0 0 rfl 0
    have c1 := HT.out.cell 0 0 rfl 1
    have fc1 := HT.out.free 0 0 rfl 1
    have c2 := HT.out.cell 0 0 rfl 2
    have fc2 := HT.out.free 0 0 rfl 2
    have c3 := HT.out.cell 0 0 rfl 3
    simp only [nxV, List.getElem?_toArray, List.getElem?_cons_zero, List.getElem?_cons_succ] at c0 c1 c2 c3
    have d1 := HT.out.cell 4 0 rfl 1
    have fd1 := HT.out.free 4 0 rfl 1
    have d2 := HT.out.cell 4 0 rfl 2
    have fd2 := HT.out.free 4 0 rfl 2
    have d3 := HT.out.cell 4 0 rfl 3
    have fd3 := HT.out.free 4 0 rfl 3
    simp only [nxV, List.getElem?_toArray, List.getElem?_cons_zero, List.getElem?_cons_succ] at d1 d2 d3
    have e2 := HT.out.cell 3 0 rfl 2
    have fe2 := HT.out.free 3 0 rfl 2
    simp only [nxV, List.getElem?_toArray, List.getElem?_cons_zero, List.getElem?_cons_succ] at e2
    have hlb : m.length + 1 ≤ 1000000000 := by have := HL.out; simpa using this
    go_enter Tryz.func317, Tryz.ntmps317
    go_wp2
    go_region
    have HT := Lib.hid ((((HT.out.set 4 0 rfl 3 (ptr' hb)).set 4 0 rfl 1 (ptr' b)).set 4 0 rfl 2 (.pointer none)).drew)
    clear c0 c1 c2 c3 fc1 fc2 d1 d2 d3 fd1 fd2 fd3
    generalize World.drew _ = w1 at HT ⊢
    have c1 := HT.out.cell 0 0 rfl 1
    have fc1 := HT.out.free 0 0 rfl 1
    have c2 := HT.out.cell 0 0 rfl 2
    have fc2 := HT.out.free 0 0 rfl 2
    simp only [nxV, List.getElem?_toArray, List.getElem?_cons_zero, List.getElem?_cons_succ] at c1 c2
    have e2 := HT.out.cell 3 0 rfl 2
    have fe2 := HT.out.free 3 0 rfl 2
    simp only [nxV, List.getElem?_toArray, List.getElem?_cons_zero, List.getElem?_cons_succ] at e2
    have ne1 := HT.out.ne 0 0 3 0 (by decide) rfl rfl
    simp only [] at ne1
    have ne2 := Ne.symm ne1
    go_wp2
    go_ret
    exact ⟨_, ⟨rfl, _, ⟨HK.out, rfl⟩, rfl⟩, ((((HT.out.set 3 0 rfl 2 _).set 0 0 rfl 1 _).set 0 0 rfl 2 _).eq (H' := [[cl lb 298 #[nxV (.pointer none) (m ++ [⟨b, [y0]⟩]), ptr' nb, (.int .i64 ((m.length + 1 + 1 : Nat) : Int)), ptr' hb]], [cl hb 269 #[.pointer none]], nodesB 372 hb (.pointer none) (ptr' b) m, [cl b 372 #[y0, lsV (.pointer none) m, ptr' nb, ptr' hb]], [cl nb 372 #[ve, ptr' b, .pointer none, ptr' hb]]]) rfl).sum (fun n ha h0 h1 h2 => by rw [nodesB_append, nodesB_append, show nxV (.pointer none) (m ++ [⟨b, [y0]⟩] ++ [⟨nb, [ve]⟩]) = nxV (.pointer none) (m ++ [⟨b, [y0]⟩]) from by cases m <;> rfl]; simp only [List.length_append, List.length_cons, List.length_nil, Nat.zero_add, lsV_snoc, lsV_append, lsV, nodesB, nxV_nil, nxV_cons, List.cons_append, List.nil_append, List.flatten_cons, List.flatten_nil, List.append_nil, ha, h0, h1, h2] <;> omega)⟩
end
def isListF (lb hb : Nat) (l : List Nd) (g : List Blk) : Prop := isListT 248 320 4 lb hb l g
section
variable {lb hb : Nat} {l : List Nd} {g : List Blk}
theorem listLenF_r (hg : isListF lb hb l g) : ReadsG Tryz.prog 107 #[ptr' lb] [g] (.int .i64 l.length) := by
  obtain ⟨_, rfl⟩ := hg
  intro w hw
  have T0 := TG.refl hw
  have HT := Lib.hid T0
  clear hw T0
  have c2 := HT.out.cell 0 0 rfl 2
  simp only [List.getElem?_toArray, List.getElem?_cons_zero, List.getElem?_cons_succ] at c2
  go_enter Tryz.func107, Tryz.ntmps107
  go_wp2
  go_ret
  exact ⟨rfl, 0, rfl⟩
set_option maxRecDepth 100000 in
theorem listPutF_g (hg : isListF lb hb l g) (hn : l.length ≤ 1000000000) (nb : Nat) (va vb vc vd p0 q0 : Value) :
    DoesG Tryz.prog 341 #[ptr' lb, ptr' nb] [g, [cl nb 320 #[va, vb, vc, vd, p0, q0, .pointer none]]] fun e gs => e = .returned (.int .i64 0) ∧ ∃ g', isListF lb hb (l ++ [⟨nb, [va, vb, vc, vd]⟩]) g' ∧ gs = [g'] := by
  obtain ⟨hk, rfl⟩ := hg
  rcases nd_snoc l with rfl | ⟨m, y, rfl⟩
  · intro w hw
    have T0 := TG.refl hw
    have HT := Lib.hid T0
    clear hw T0
    have c0 := HT.out.cell 0 0 rfl 0
    have fc0 := HT.out.free 0 0 rfl 0
    have c1 := HT.out.cell 0 0 rfl 1
    have fc1 := HT.out.free 0 0 rfl 1
    have c2 := HT.out.cell 0 0 rfl 2
    have fc2 := HT.out.free 0 0 rfl 2
    have c3 := HT.out.cell 0 0 rfl 3
    have fc3 := HT.out.free 0 0 rfl 3
    simp only [nxV, lsV, List.length_nil, List.getElem?_toArray, List.getElem?_cons_zero, List.getElem?_cons_succ] at c0 c1 c2 c3
    have d4 := HT.out.cell 1 0 rfl 4
    have fd4 := HT.out.free 1 0 rfl 4
    have d5 := HT.out.cell 1 0 rfl 5
    have fd5 := HT.out.free 1 0 rfl 5
    have d6 := HT.out.cell 1 0 rfl 6
    have fd6 := HT.out.free 1 0 rfl 6
    simp only [nxV, List.getElem?_toArray, List.getElem?_cons_zero, List.getElem?_cons_succ] at d4 d5 d6
    go_enter Tryz.func341, Tryz.ntmps341
    go_wp2
    go_region
    have HT := Lib.hid ((((HT.out.set 1 0 rfl 6 (ptr' hb)).set 1 0 rfl 4 (.pointer none)).set 1 0 rfl 5 (.pointer none)).drew)
    clear c0 c1 c2 c3 fc0 fc1 fc2 fc3 d4 d5 d6 fd4 fd5 fd6
    generalize World.drew _ = w1 at HT ⊢
    have c0 := HT.out.cell 0 0 rfl 0
    have fc0 := HT.out.free 0 0 rfl 0
    have c1 := HT.out.cell 0 0 rfl 1
    have fc1 := HT.out.free 0 0 rfl 1
    have c2 := HT.out.cell 0 0 rfl 2
    have fc2 := HT.out.free 0 0 rfl 2
    simp only [nxV, lsV, List.length_nil, List.getElem?_toArray, List.getElem?_cons_zero, List.getElem?_cons_succ] at c0 c1 c2
    go_wp2
    go_ret
    exact ⟨_, ⟨rfl, _, ⟨(by intro a h; simp only [List.nil_append, List.mem_singleton] at h; subst h; rfl), rfl⟩, rfl⟩, (((HT.out.set 0 0 rfl 0 _).set 0 0 rfl 1 _).set 0 0 rfl 2 _).eq rfl⟩
  · obtain ⟨b, v⟩ := y
    have hv : v.length = 4 := hk ⟨b, v⟩ (by simp)
    obtain ⟨y0, y1, y2, y3, rfl⟩ : ∃ y0 y1 y2 y3, v = [y0, y1, y2, y3] := by
      match v, hv with
      | [y0, y1, y2, y3], _ => exact ⟨y0, y1, y2, y3, rfl⟩
    have hk2 : ∀ a ∈ (m ++ [(⟨b, [y0, y1, y2, y3]⟩ : Nd)]) ++ [⟨nb, [va, vb, vc, vd]⟩], a.v.length = 4 := by
      intro a h
      rcases List.mem_append.1 h with h | h
      · exact hk a h
      · simp only [List.mem_singleton] at h; subst h; rfl
    have HK := Lib.hid hk2
    clear hk2
    intro w hw
    have T0 := TG.refl hw
    have HT := Lib.hid T0
    clear hw T0
    have HL := Lib.hid hn
    have T1 := HT.out.sum (H' := [[cl lb 248 #[nxV (.pointer none) (m ++ [⟨b, [y0, y1, y2, y3]⟩]), ptr' b, (.int .i64 ((m.length + 1 : Nat) : Int)), ptr' hb]], [cl hb 269 #[.pointer none]], nodesB 320 hb (.pointer none) (ptr' b) m, [cl b 320 #[y0, y1, y2, y3, lsV (.pointer none) m, .pointer none, ptr' hb]], [cl nb 320 #[va, vb, vc, vd, p0, q0, .pointer none]]]) (fun n ha h0 h1 h2 => by rw [nodesB_append]; simp only [List.length_append, List.length_cons, List.length_nil, Nat.zero_add, lsV_snoc, nodesB, nxV_nil, nxV_cons, List.cons_append, List.nil_append, List.flatten_cons, List.flatten_nil, List.append_nil, ha, h0, h1, h2] <;> omega)
    have HT := Lib.hid T1
    clear hk hn hv T1
    have c0 := HT.out.cell 0 0 rfl 0
    have c1 := HT.out.cell 0 0 rfl 1
    have fc1 := HT.out.free 0 0 rfl 1
    have c2 := HT.out.cell 0 0 rfl 2
    have fc2 := HT.out.free 0 0 rfl 2
    have c3 := HT.out.cell 0 0 rfl 3
    simp only [nxV, List.getElem?_toArray, List.getElem?_cons_zero, List.getElem?_cons_succ] at c0 c1 c2 c3
    have d4 := HT.out.cell 4 0 rfl 4
    have fd4 := HT.out.free 4 0 rfl 4
    have d5 := HT.out.cell 4 0 rfl 5
    have fd5 := HT.out.free 4 0 rfl 5
    have d6 := HT.out.cell 4 0 rfl 6
    have fd6 := HT.out.free 4 0 rfl 6
    simp only [nxV, List.getElem?_toArray, List.getElem?_cons_zero, List.getElem?_cons_succ] at d4 d5 d6
    have e5 := HT.out.cell 3 0 rfl 5
    have fe5 := HT.out.free 3 0 rfl 5
    simp only [nxV, List.getElem?_toArray, List.getElem?_cons_zero, List.getElem?_cons_succ] at e5
    have hlb : m.length + 1 ≤ 1000000000 := by have := HL.out; simpa using this
    go_enter Tryz.func341, Tryz.ntmps341
    go_wp2
    go_region
    have HT := Lib.hid ((((HT.out.set 4 0 rfl 6 (ptr' hb)).set 4 0 rfl 4 (ptr' b)).set 4 0 rfl 5 (.pointer none)).drew)
    clear c0 c1 c2 c3 fc1 fc2 d4 d5 d6 fd4 fd5 fd6
    generalize World.drew _ = w1 at HT ⊢
    have c1 := HT.out.cell 0 0 rfl 1
    have fc1 := HT.out.free 0 0 rfl 1
    have c2 := HT.out.cell 0 0 rfl 2
    have fc2 := HT.out.free 0 0 rfl 2
    simp only [nxV, List.getElem?_toArray, List.getElem?_cons_zero, List.getElem?_cons_succ] at c1 c2
    have e5 := HT.out.cell 3 0 rfl 5
    have fe5 := HT.out.free 3 0 rfl 5
    simp only [nxV, List.getElem?_toArray, List.getElem?_cons_zero, List.getElem?_cons_succ] at e5
    have ne1 := HT.out.ne 0 0 3 0 (by decide) rfl rfl
    simp only [] at ne1
    have ne2 := Ne.symm ne1
    go_wp2
    go_ret
    exact ⟨_, ⟨rfl, _, ⟨HK.out, rfl⟩, rfl⟩, ((((HT.out.set 3 0 rfl 5 _).set 0 0 rfl 1 _).set 0 0 rfl 2 _).eq (H' := [[cl lb 248 #[nxV (.pointer none) (m ++ [⟨b, [y0, y1, y2, y3]⟩]), ptr' nb, (.int .i64 ((m.length + 1 + 1 : Nat) : Int)), ptr' hb]], [cl hb 269 #[.pointer none]], nodesB 320 hb (.pointer none) (ptr' b) m, [cl b 320 #[y0, y1, y2, y3, lsV (.pointer none) m, ptr' nb, ptr' hb]], [cl nb 320 #[va, vb, vc, vd, ptr' b, .pointer none, ptr' hb]]]) rfl).sum (fun n ha h0 h1 h2 => by rw [nodesB_append, nodesB_append, show nxV (.pointer none) (m ++ [⟨b, [y0, y1, y2, y3]⟩] ++ [⟨nb, [va, vb, vc, vd]⟩]) = nxV (.pointer none) (m ++ [⟨b, [y0, y1, y2, y3]⟩]) from by cases m <;> rfl]; simp only [List.length_append, List.length_cons, List.length_nil, Nat.zero_add, lsV_snoc, lsV_append, lsV, nodesB, nxV_nil, nxV_cons, List.cons_append, List.nil_append, List.flatten_cons, List.flatten_nil, List.append_nil, ha, h0, h1, h2] <;> omega)⟩
end
end Go.Proofs.YtblhfbcodbjgcaaGreat

namespace Go.Proofs.YtblhfbcodbjgcaaGreat
set_option linter.unusedVariables false
set_option linter.unusedSimpArgs false
open Go.RowKit Go.Shelf
structure FireS where
  id : Int
  gen : Int
  dl : Int
  tick : Int
def FireS.vals (f : FireS) : List Value := [.int .u64 f.id, .int .u64 f.gen, .int .u64 f.dl, .int .u64 f.tick]
structure PipeS where
  room : Nat
  ch : List FireS
  sp : List FireS
  most : Int
  shut : Bool
def newPipe (n : Nat) : PipeS := ⟨n, [], [], 0, false⟩
abbrev pipeB (pb cb lb : Nat) (p : PipeS) : List Blk := [cl pb 172 #[.chan (some cb), ptr' lb, .int .i64 p.most, .bool p.shut]]
def isPipe (pb : Nat) (p : PipeS) (g : List Blk) : Prop := ∃ (cb lb hb a b : Nat) (l : List Nd) (gl : List Blk), isListF lb hb l gl ∧ l.map Nd.v = p.sp.map FireS.vals ∧
  g = pipeB pb cb lb p ++ ([(cb, .chan p.room (p.ch.map fun f => Value.agg f.vals.toArray).toArray false a b false)] ++ gl)
theorem len_chan (cb n : Nat) (buf : Array Value) (cz : Bool) (a b : Nat) (w : World) (h : w.heap[cb]? = some (.chan n buf cz a b false)) :
    (Builtin.len_ #[169] 3 #[.chan (some cb)]).run Tryz.prog w = .ok (.int .i64 buf.size) w := by
  have hg : (getObj cb).run Tryz.prog w = .ok (.chan n buf cz a b false) w := by simp [getObj, Sem.run, h]
  simp [Builtin.len_, run_underlying Tryz.underlying169, hg, goInt]
section
variable {pb : Nat} {p : PipeS} {g : List Blk}
end
end Go.Proofs.YtblhfbcodbjgcaaGreat
