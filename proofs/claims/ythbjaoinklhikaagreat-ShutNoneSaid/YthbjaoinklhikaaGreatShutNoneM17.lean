import Derived.Test.YthbjaoinklhikaaGreatShutNoneM8
import Derived.Test.YthbjaoinklhikaaGreatShutNoneM2
import Derived.Test.YthbjaoinklhikaaGreatShutNoneM5
import Derived.Test.YthbjaoinklhikaaGreatShutNoneM9
import Derived.Test.YthbjaoinklhikaaGreatShutNoneM7
import Derived.Test.YthbjaoinklhikaaGreatShutNoneM10
import Derived.Test.YthbjaoinklhikaaGreatShutNoneM16
import Derived.Test.YthbjaoinklhikaaGreatShutNoneM12
namespace Go.Proofs.YthbjaoinklhikaaGreat
set_option linter.unusedVariables false
set_option linter.unusedSimpArgs false
open Go.RowKit Go.Shelf

/-! ## A ring's other end: Ready, Pop, Len -/
section
variable {rb sb : Nat} {r : RingS} {C D : Array Value} {g : List Blk}
set_option maxRecDepth 100000 in
theorem ringReady_g (hg : isRing rb r g) (hr : RingB r) : DoesG Tryz.prog 114 #[ptr' rb] [g] fun e gs => e = .returned (.bool r.ready) ∧ ∃ g', isRing rb r g' ∧ gs = [g'] := by
  obtain ⟨sb, C, D, rfl, hC, hD⟩ := hg.open
  obtain ⟨ha, hal, hav⟩ := ring_at hr.n0 r.head
  intro w hw
  have T0 := TG.refl hw
  have HT := Lib.hid T0
  clear hw T0
  have HT := Lib.hid (HT.out.eq (H' := [[cl rb 185 C], [cl sb 189 D]]) rfl)
  have HA := Lib.hid (show ∀ C', ringC sb r C' → _ from fun C' hC' => (ringAt_r (rb := rb) hC' hr r.head hr.h0 hr.h1).does)
  have HS := Lib.hid (show ∀ D', slotsD r.slots D' → cellAt D' (r.at r.head * 9) (.int .i64 (r.slot r.head).seq) from fun D' h => (h.at_ _ _ ha).1)
  have HK := Lib.hid ha
  have h0 := hr.h0
  have h1 := hr.h1
  have HR := Lib.hid (show r.ready = ((r.slot r.head).seq == 2 * r.head + 1) from rfl)
  have HC := Lib.hid hC
  have HD := Lib.hid hD
  clear hg hr hC hD ha hal hav
  go_enter Tryz.func114, Tryz.ntmps114
  go_wp2_with fail
  obtain ⟨ι, W, hW0, hend, hin⟩ : ∃ (ι : Type) (W : ι → World), (∃ i, World.drew _ = W i) ∧ (∀ i, ∃ Cx Dx, (ringC sb r Cx ∧ slotsD r.slots Dx) ∧ TG [[cl rb 185 C, cl sb 189 D]] w [[cl rb 185 Cx], [cl sb 189 Dx]] (W i)) ∧ (∀ w', (∃ Cx Dx, (ringC sb r Cx ∧ slotsD r.slots Dx) ∧ TG [[cl rb 185 C, cl sb 189 D]] w [[cl rb 185 Cx], [cl sb 189 Dx]] w') → ∃ i, w' = W i) := ⟨{w' // ∃ Cx Dx, (ringC sb r Cx ∧ slotsD r.slots Dx) ∧ TG [[cl rb 185 C, cl sb 189 D]] w [[cl rb 185 Cx], [cl sb 189 Dx]] w'}, Subtype.val, ⟨⟨_, C, D, ⟨HC.out, HD.out⟩, HT.out.drew⟩, rfl⟩, fun i => i.2, fun w' h => ⟨⟨w', h⟩, rfl⟩⟩
  have hne : Nonempty ι := hW0.elim fun i _ => ⟨i⟩
  have q5 : ∀ i, (W i).cell? ⟨rb, 5, none⟩ = some (.int .i64 r.head) := fun i => by obtain ⟨_, _, h, T⟩ := hend i; exact (T.cell 0 0 rfl 5).trans h.1.head
  have m1 : ∀ i, Calls Tryz.prog 115 #[ptr' rb, .int .i64 r.head] (W i) fun e w2 => e = .returned (.pointer (some ⟨sb, r.at r.head * 9, none⟩)) ∧ ∃ j, w2 = W j := fun i => by
    obtain ⟨Cx, Dx, h, T⟩ := hend i
    refine (DoesG.use (HA.out _ h.1) T [0] rfl rfl).mono ?_
    rintro e w2 ⟨gs, ⟨rfl, rfl⟩, T2⟩
    exact ⟨rfl, hin _ ⟨Cx, Dx, h, T2⟩⟩
  have m2 : ∀ i, Calls Tryz.prog 78 #[.pointer (some ⟨sb, r.at r.head * 9, none⟩)] (W i) fun e w2 => e = .returned (.int .i64 (r.slot r.head).seq) ∧ ∃ j, w2 = W j := fun i => by
    obtain ⟨Cx, Dx, h, T⟩ := hend i
    refine (DoesG.use (cellG (loadI_does sb (r.at r.head * 9) _ Dx _ (HS.out _ h.2))) T [1] rfl rfl).mono ?_
    rintro e w2 ⟨gs, ⟨rfl, D1, hr1, rfl⟩, T2⟩
    exact ⟨rfl, hin _ ⟨Cx, D1, ⟨h.1, h.2.same HK.out hr1⟩, T2⟩⟩
  refine wp_region_cls W (by kernel_rfl) (by kernel_rfl) hW0 ?_
  repeat (go_big_quiet_step ((first | (go_at_call 115; with_reducible exact m1 _) | (go_at_call 78; with_reducible exact m2 _))))
  refine wpQuiet_nil ?_
  intro _ hw
  obtain ⟨iq, hw2⟩ := hw
  subst hw2
  obtain ⟨Cx, Dx, h, T⟩ := hend iq
  have HT := Lib.hid T
  generalize W iq = w1 at HT ⊢
  clear T hend hin hW0 hne
  have HH := Lib.hid h
  clear h
  go_wp2
  go_ret
  exact ⟨_, ⟨by rw [HR.out]; rfl, _, isRing.mk' HH.out.1 HH.out.2, rfl⟩, HT.out.eq rfl⟩
set_option maxRecDepth 100000 in
theorem ringLen_g (hg : isRing rb r g) (hr : RingB r) : DoesG Tryz.prog 80 #[ptr' rb] [g] fun e gs => e = .returned (.int .i64 (r.tail - r.head)) ∧ ∃ g', isRing rb r g' ∧ gs = [g'] := by
  obtain ⟨sb, C, D, rfl, hC, hD⟩ := hg.open
  intro w hw
  have T0 := TG.refl hw
  have HT := Lib.hid T0
  clear hw T0
  have HT := Lib.hid (HT.out.eq (H' := [[cl rb 185 C], [cl sb 189 D]]) rfl)
  have h0 := hr.h0
  have h1 := hr.h1
  have h2 := hr.t0
  have h3 := hr.t1
  have HC := Lib.hid hC
  have HD := Lib.hid hD
  clear hg hr hC hD
  go_enter Tryz.func80, Tryz.ntmps80
  go_wp2_with fail
  obtain ⟨ι, W, hW0, hend, hin⟩ : ∃ (ι : Type) (W : ι → World), (∃ i, World.drew _ = W i) ∧ (∀ i, ∃ Cx, (ringC sb r Cx) ∧ TG [[cl rb 185 C, cl sb 189 D]] w [[cl rb 185 Cx], [cl sb 189 D]] (W i)) ∧ (∀ w', (∃ Cx, (ringC sb r Cx) ∧ TG [[cl rb 185 C, cl sb 189 D]] w [[cl rb 185 Cx], [cl sb 189 D]] w') → ∃ i, w' = W i) := ⟨{w' // ∃ Cx, (ringC sb r Cx) ∧ TG [[cl rb 185 C, cl sb 189 D]] w [[cl rb 185 Cx], [cl sb 189 D]] w'}, Subtype.val, ⟨⟨_, C, HC.out, HT.out.drew⟩, rfl⟩, fun i => i.2, fun w' h => ⟨⟨w', h⟩, rfl⟩⟩
  have hne : Nonempty ι := hW0.elim fun i _ => ⟨i⟩
  have q5 : ∀ i, (W i).cell? ⟨rb, 5, none⟩ = some (.int .i64 r.head) := fun i => by obtain ⟨_, h, T⟩ := hend i; exact (T.cell 0 0 rfl 5).trans h.head
  have m2 : ∀ i, Calls Tryz.prog 78 #[.pointer (some ⟨rb, 1, none⟩)] (W i) fun e w2 => e = .returned (.int .i64 r.tail) ∧ ∃ j, w2 = W j := fun i => by
    obtain ⟨Cx, h, T⟩ := hend i
    refine (DoesG.use (cellG (loadI_does rb 1 _ Cx _ h.tail)) T [0] rfl rfl).mono ?_
    rintro e w2 ⟨gs, ⟨rfl, C1, hr1, rfl⟩, T2⟩
    exact ⟨rfl, hin _ ⟨C1, h.tailR hr1, T2⟩⟩
  refine wp_region_cls W (by kernel_rfl) (by kernel_rfl) hW0 ?_
  repeat (go_big_quiet_step ((first | (go_at_call 78; with_reducible exact m2 _))))
  refine wpQuiet_nil ?_
  intro _ hw
  obtain ⟨iq, hw2⟩ := hw
  subst hw2
  obtain ⟨Cx, h, T⟩ := hend iq
  have HT := Lib.hid T
  generalize W iq = w1 at HT ⊢
  clear T hend hin hW0 hne
  have HH := Lib.hid h
  clear h
  go_wp2
  go_ret
  exact ⟨_, ⟨by rfl, _, isRing.mk' HH.out HD.out, rfl⟩, HT.out.eq rfl⟩
set_option maxRecDepth 100000 in
theorem ringPop_g (hg : isRing rb r g) (hr : RingB r) : DoesG Tryz.prog 82 #[ptr' rb] [g] fun e gs => e = .returned (.tuple #[.agg (popR r).2.1.cells, .int .i64 (popR r).2.2]) ∧ ∃ g', isRing rb (popR r).1 g' ∧ gs = [g'] := by
  have hrd := ringReady_g hg hr
  cases hb : r.ready with
  | false =>
    have HE := Lib.hid (show popR r = (r, TaskS.zero, 6) from if_neg (by rw [hb]; decide))
    rw [hb] at hrd
    intro w hw
    have T0 := TG.refl hw
    have HT := Lib.hid T0
    clear hw T0
    have HR := Lib.hid hrd
    clear hg hr hrd hb
    go_enter Tryz.func82, Tryz.ntmps82
    go_wp2_with fail
    have HT := Lib.hid ((HT.out.alloc (k := w.heap.size) rfl 67 TaskS.zero.cells).alloc (k := w.heap.size + 1) (by simp) 67 TaskS.zero.cells)
    go_wp2_with fail
    refine (DoesG.use (HR.out) (HT.out) [0] rfl rfl).mono ?_
    rintro e w1 ⟨gs, ⟨rfl, g1, hg1, rfl⟩, Ta⟩
    simp only [putG, List.set_cons_zero, List.set_cons_succ, List.cons_append, List.nil_append, List.append_nil] at Ta
    have HG := Lib.hid hg1
    clear hg1
    have HT := Lib.hid Ta
    clear Ta
    have a0 := HT.out.cell 1 0 rfl 0
    have fa0 := HT.out.free 1 0 rfl 0
    have a1 := HT.out.cell 1 0 rfl 1
    have fa1 := HT.out.free 1 0 rfl 1
    have a2 := HT.out.cell 1 0 rfl 2
    have fa2 := HT.out.free 1 0 rfl 2
    have a3 := HT.out.cell 1 0 rfl 3
    have fa3 := HT.out.free 1 0 rfl 3
    have a4 := HT.out.cell 1 0 rfl 4
    have fa4 := HT.out.free 1 0 rfl 4
    simp only [TaskS.cells, TaskS.zero, List.getElem?_toArray, List.getElem?_cons_zero, List.getElem?_cons_succ] at a0 a1 a2 a3 a4
    have b0 := HT.out.cell 2 0 rfl 0
    have fb0 := HT.out.free 2 0 rfl 0
    have b1 := HT.out.cell 2 0 rfl 1
    have fb1 := HT.out.free 2 0 rfl 1
    have b2 := HT.out.cell 2 0 rfl 2
    have fb2 := HT.out.free 2 0 rfl 2
    have b3 := HT.out.cell 2 0 rfl 3
    have fb3 := HT.out.free 2 0 rfl 3
    have b4 := HT.out.cell 2 0 rfl 4
    have fb4 := HT.out.free 2 0 rfl 4
    simp only [TaskS.cells, TaskS.zero, List.getElem?_toArray, List.getElem?_cons_zero, List.getElem?_cons_succ] at b0 b1 b2 b3 b4
    go_wp2
    exact bodyPost_ret (v := .tuple #[.agg TaskS.zero.cells, .int .i64 6]) (by simp [results, Tryz.results82, go_sem, a0, a1, a2, a3, a4, TaskS.cells, TaskS.zero]) rfl ⟨_, ⟨by rw [HE.out], g1, by rw [HE.out]; exact HG.out, rfl⟩, ((((((HT.out.set 1 0 rfl 0 _).set 1 0 rfl 1 _).set 1 0 rfl 2 _).set 1 0 rfl 3 _).set 1 0 rfl 4 _).pick [0] rfl)⟩
  | true =>
    have HE := Lib.hid (show popR r = ({ r with slots := r.slots.set (r.at r.head) ⟨2 * (r.head + r.slots.length), TaskS.zero⟩, head := r.head + 1 }, (r.slot r.head).v, 0) from if_pos hb)
    rw [hb] at hrd
    intro w hw
    have T0 := TG.refl hw
    have HT := Lib.hid T0
    clear hw T0
    have HR := Lib.hid hrd
    have HRB := Lib.hid hr
    clear hg hr hrd hb
    go_enter Tryz.func82, Tryz.ntmps82
    go_wp2_with fail
    have HT := Lib.hid ((HT.out.alloc (k := w.heap.size) rfl 67 TaskS.zero.cells).alloc (k := w.heap.size + 1) (by simp) 67 TaskS.zero.cells)
    go_wp2_with fail
    refine (DoesG.use (HR.out) (HT.out) [0] rfl rfl).mono ?_
    rintro e w1 ⟨gs, ⟨rfl, g1, hg1, rfl⟩, Ta⟩
    simp only [putG, List.set_cons_zero, List.set_cons_succ, List.cons_append, List.nil_append, List.append_nil] at Ta
    have HT := Lib.hid Ta
    clear Ta
    obtain ⟨sb, C, D, rfl, hC, hD⟩ := hg1.open
    have HT := Lib.hid (HT.out.sum (H' := [[cl rb 185 C], [cl sb 189 D], [cl w.heap.size 67 TaskS.zero.cells], [cl (w.heap.size + 1) 67 TaskS.zero.cells]]) (fun n ha h0 h1 h2 => by simp only [pickG, List.map_cons, List.map_nil, List.getD_cons_succ, List.getD_cons_zero, List.set_cons_succ, List.set_cons_zero, List.cons_append, List.flatten_append, List.flatten_cons, List.flatten_nil, List.append_nil, List.nil_append, ha, h0, h1, h2] <;> omega))
    obtain ⟨ha, hal, hav⟩ := ring_at HRB.out.n0 r.head
    have h0 := HRB.out.h0
    have h1 := HRB.out.h1
    have hn0 := HRB.out.n0
    have hn1 := HRB.out.n1
    have HC := Lib.hid hC
    have HD := Lib.hid hD
    have HA := Lib.hid (ringAt_r (rb := rb) hC HRB.out r.head h0 h1)
    have HV := Lib.hid (hD.fill ha TaskS.zero (2 * (r.head + r.slots.length)))
    have HCS := Lib.hid ((hC.withSlots (l := r.slots.set (r.at r.head) ⟨2 * (r.head + r.slots.length), TaskS.zero⟩) (List.length_set ..)).headR (r.head + 1))
    have hcell := (hD.at_ _ _ ha).1
    obtain ⟨e0, e1, e2, e3, e4⟩ := (hD.at_ _ _ ha).2
    generalize r.slot r.head = s at *
    generalize r.at r.head = k at *
    have HP := Lib.hid (show cellAt (putTask D (k * 9 + 4) TaskS.zero) (k * 9) (.int .i64 s.seq) from by
      obtain ⟨a0, l0, t0, u0, a1, a2, a3⟩ := hcell
      exact ⟨(putTask_ne (by omega)).trans a0, l0, t0, u0, (putTask_ne (by omega)).trans a1, (putTask_ne (by omega)).trans a2, (putTask_ne (by omega)).trans a3⟩)
    have HEE := Lib.hid (And.intro e0 (And.intro e1 (And.intro e2 (And.intro e3 e4))))
    have c5 := (HT.out.cell 0 0 rfl 5).trans hC.head
    clear hg1 hC hD ha hal hav e0 e1 e2 e3 e4 hcell
    go_wp2_with fail
    refine (ReadsG.use (HA.out) (HT.out) [0] rfl rfl).mono ?_
    rintro e w1 ⟨rfl, mq, rfl⟩
    have HT := Lib.hid (HT.out.drewN mq)
    generalize World.drewN _ _ = wq at HT ⊢
    clear c5
    have z0 := HT.out.cell 3 0 rfl 0
    have z1 := HT.out.cell 3 0 rfl 1
    have z2 := HT.out.cell 3 0 rfl 2
    have z3 := HT.out.cell 3 0 rfl 3
    have z4 := HT.out.cell 3 0 rfl 4
    simp only [TaskS.cells, TaskS.zero, List.getElem?_toArray, List.getElem?_cons_zero, List.getElem?_cons_succ] at z0 z1 z2 z3 z4
    have d0 := (HT.out.cell 1 0 rfl (k * 9 + 4)).trans HEE.out.1
    have d1 := (HT.out.cell 1 0 rfl (k * 9 + 4 + 1)).trans HEE.out.2.1
    have d2 := (HT.out.cell 1 0 rfl (k * 9 + 4 + 2)).trans HEE.out.2.2.1
    have d3 := (HT.out.cell 1 0 rfl (k * 9 + 4 + 3)).trans HEE.out.2.2.2.1
    have d4 := (HT.out.cell 1 0 rfl (k * 9 + 4 + 4)).trans HEE.out.2.2.2.2
    have g0 := HT.out.free 1 0 rfl (k * 9 + 4)
    have g1 := HT.out.free 1 0 rfl (k * 9 + 4 + 1)
    have g2 := HT.out.free 1 0 rfl (k * 9 + 4 + 2)
    have g3 := HT.out.free 1 0 rfl (k * 9 + 4 + 3)
    have g4 := HT.out.free 1 0 rfl (k * 9 + 4 + 4)
    have lt1 := HT.out.lt 1 0 rfl
    have lt3 := HT.out.lt 3 0 rfl
    simp only [] at lt1 lt3
    go_wp2
    have HT := Lib.hid (((((((HT.out.set 1 0 rfl (k * 9 + 4) (.int .u64 0)).set 1 0 rfl (k * 9 + 4 + 1) (.int .i64 0)).set 1 0 rfl (k * 9 + 4 + 2) (.int .u64 0)).set 1 0 rfl (k * 9 + 4 + 3) (.int .u64 0)).set 1 0 rfl (k * 9 + 4 + 4) (.int .u64 0)).alloc (k := wq.heap.size) (by simp) 67 s.v.cells).eq (H' := [[cl rb 185 C], [cl sb 189 (putTask D (k * 9 + 4) TaskS.zero)], [cl w.heap.size 67 TaskS.zero.cells], [cl (w.heap.size + 1) 67 TaskS.zero.cells], [cl wq.heap.size 67 s.v.cells]]) rfl)
    simp only [TaskS.cells] at HT
    clear z0 z1 z2 z3 z4 d0 d1 d2 d3 d4 g0 g1 g2 g3 g4 lt1 lt3
    generalize World.alloc _ _ = w2 at HT ⊢
    have c5 := (HT.out.cell 0 0 rfl 5).trans HC.out.head
    have c0 := (HT.out.cell 0 0 rfl 0).trans HC.out.sl
    refine wp_region_mix1 14 (by kernel_rfl) (by kernel_rfl) ?_
    simp only [List.take_succ_cons, List.take_zero, List.drop_succ_cons, List.drop_zero]
    repeat (go_big_quiet_step ((fail)))
    refine wpQuiet_nil ?_
    intro _ hw'
    obtain ⟨nq, hw''⟩ := hw'
    subst hw''
    have HT := Lib.hid (HT.out.drewN nq)
    go_wp2_with fail
    refine (DoesG.use (storeC_g _ _ _ _ _ _ HP.out) (HT.out) [1] rfl rfl).mono ?_
    rintro e w1 ⟨gs, ⟨rfl, rfl⟩, Ta⟩
    simp only [putG, List.set_cons_zero, List.set_cons_succ, List.cons_append, List.nil_append, List.append_nil] at Ta
    have HT := Lib.hid Ta
    clear Ta
    go_wp2_with fail
    refine ⟨rfl, ?_⟩
    have HT := Lib.hid (HT.out.eq (H' := [[cl rb 185 C], [cl sb 189 ((putTask D (k * 9 + 4) TaskS.zero).setIfInBounds (k * 9) (.int .i64 (2 * (r.head + r.slots.length))))], [cl w.heap.size 67 TaskS.zero.cells], [cl (w.heap.size + 1) 67 TaskS.zero.cells], [cl wq.heap.size 67 s.v.cells]]) rfl)
    clear c5 c0
    have c5 := (HT.out.cell 0 0 rfl 5).trans HC.out.head
    have f5 := HT.out.free 0 0 rfl 5
    have a0 := HT.out.cell 2 0 rfl 0
    have fa0 := HT.out.free 2 0 rfl 0
    have a1 := HT.out.cell 2 0 rfl 1
    have fa1 := HT.out.free 2 0 rfl 1
    have a2 := HT.out.cell 2 0 rfl 2
    have fa2 := HT.out.free 2 0 rfl 2
    have a3 := HT.out.cell 2 0 rfl 3
    have fa3 := HT.out.free 2 0 rfl 3
    have a4 := HT.out.cell 2 0 rfl 4
    have fa4 := HT.out.free 2 0 rfl 4
    simp only [TaskS.cells, TaskS.zero, List.getElem?_toArray, List.getElem?_cons_zero, List.getElem?_cons_succ] at a0 a1 a2 a3 a4
    have b0 := HT.out.cell 4 0 rfl 0
    have b1 := HT.out.cell 4 0 rfl 1
    have b2 := HT.out.cell 4 0 rfl 2
    have b3 := HT.out.cell 4 0 rfl 3
    have b4 := HT.out.cell 4 0 rfl 4
    simp only [TaskS.cells, List.getElem?_toArray, List.getElem?_cons_zero, List.getElem?_cons_succ] at b0 b1 b2 b3 b4
    have n1 := HT.out.ne 0 0 2 0 (by decide) rfl rfl
    have n2 := HT.out.ne 0 0 4 0 (by decide) rfl rfl
    have n3 := HT.out.ne 2 0 4 0 (by decide) rfl rfl
    simp only [] at n1 n2 n3
    go_wp2
    exact bodyPost_ret (v := .tuple #[.agg s.v.cells, .int .i64 0]) (by simp [results, Tryz.results82, go_sem, a0, a1, a2, a3, a4, TaskS.cells, n1]) rfl ⟨_, ⟨by rw [HE.out], _, by rw [HE.out]; exact isRing.mk' HCS.out HV.out, rfl⟩, (((((((HT.out.set 0 0 rfl 5 _).set 2 0 rfl 0 _).set 2 0 rfl 1 _).set 2 0 rfl 2 _).set 2 0 rfl 3 _).set 2 0 rfl 4 _).pick [0, 1] rfl).eq rfl⟩
end
end Go.Proofs.YthbjaoinklhikaaGreat

namespace Go.Proofs.YthbjaoinklhikaaGreat
set_option linter.unusedVariables false
set_option linter.unusedSimpArgs false
open Go.RowKit Go.Shelf

/-! ## What waits in a shard -/
section
variable {q : ShP} {s : ShardS} {g : List Blk}
set_option maxRecDepth 100000 in
theorem shardPop_g (hg : isSh q s g) (hr : RingB s.ring) : DoesG Tryz.prog 33 #[ptr' q.b] [g] fun e gs =>
    e = .returned (.tuple #[.agg (popR s.ring).2.1.cells, .int .i64 (popR s.ring).2.2]) ∧ ∃ g', isSh q { s with ring := (popR s.ring).1 } g' ∧ gs = [g'] := by
  obtain ⟨gr, gl, h1, h2, rfl⟩ := hg
  have hp := ringPop_g h1 hr
  generalize popR s.ring = p at *
  intro w hw
  have T0 := TG.refl hw
  have HT := Lib.hid T0
  clear hw T0
  have HT := Lib.hid (HT.out.sum (H' := [shardB q.b q.rb q.lb q.wb, gr, gl]) (fun n ha h0 h1 h2 => by simp only [pickG, List.map_cons, List.map_nil, List.getD_cons_succ, List.getD_cons_zero, List.set_cons_succ, List.set_cons_zero, List.cons_append, List.flatten_append, List.flatten_cons, List.flatten_nil, List.append_nil, List.nil_append, ha, h0, h1, h2] <;> omega))
  have HP := Lib.hid hp
  have HL := Lib.hid h2
  clear h1 h2 hp hr
  go_enter Tryz.func33, Tryz.ntmps33
  go_wp2_with fail
  refine (DoesG.use (shardParts_g q.b q.rb q.lb q.wb) (HT.out.alloc (k := w.heap.size) rfl 67 TaskS.zero.cells) [0] rfl rfl).mono ?_
  rintro e w1 ⟨gs, ⟨rfl, rfl⟩, Ta⟩
  simp only [putG, List.set_cons_zero, List.set_cons_succ, List.cons_append, List.nil_append, List.append_nil] at Ta
  have HT := Lib.hid Ta
  clear Ta
  have hf := fun w => (inner_field (ptr' q.rb) (ptr' q.lb) (ptr' q.wb) w).1
  go_wp2_with fail
  refine (DoesG.use (HP.out) (HT.out) [1] rfl rfl).mono ?_
  rintro e w1 ⟨gs, ⟨rfl, g1, hg1, rfl⟩, Ta⟩
  simp only [putG, List.set_cons_zero, List.set_cons_succ, List.cons_append, List.nil_append, List.append_nil] at Ta
  have HG := Lib.hid hg1
  clear hg1
  have HT := Lib.hid Ta
  clear Ta
  have a0 := HT.out.cell 3 0 rfl 0
  have fa0 := HT.out.free 3 0 rfl 0
  have a1 := HT.out.cell 3 0 rfl 1
  have fa1 := HT.out.free 3 0 rfl 1
  have a2 := HT.out.cell 3 0 rfl 2
  have fa2 := HT.out.free 3 0 rfl 2
  have a3 := HT.out.cell 3 0 rfl 3
  have fa3 := HT.out.free 3 0 rfl 3
  have a4 := HT.out.cell 3 0 rfl 4
  have fa4 := HT.out.free 3 0 rfl 4
  simp only [TaskS.cells, TaskS.zero, List.getElem?_toArray, List.getElem?_cons_zero, List.getElem?_cons_succ] at a0 a1 a2 a3 a4
  simp only [TaskS.cells]
  go_wp2
  exact bodyPost_ret (v := .tuple #[.agg p.2.1.cells, .int .i64 p.2.2]) (by simp [results, Tryz.results33, go_sem, a0, a1, a2, a3, a4, TaskS.cells]) rfl ⟨_, ⟨rfl, _, ⟨g1, gl, HG.out, HL.out, rfl⟩, rfl⟩, ((((((HT.out.set 3 0 rfl 0 _).set 3 0 rfl 1 _).set 3 0 rfl 2 _).set 3 0 rfl 3 _).set 3 0 rfl 4 _).pick [0, 1, 2] rfl).sum (fun n ha h0 h1 h2 => by simp only [pickG, List.map_cons, List.map_nil, List.getD_cons_succ, List.getD_cons_zero, List.set_cons_succ, List.set_cons_zero, List.cons_append, List.flatten_append, List.flatten_cons, List.flatten_nil, List.append_nil, List.nil_append, ha, h0, h1, h2] <;> omega)⟩
set_option maxRecDepth 100000 in
theorem shardWaiting_g (hg : isSh q s g) (hr : RingB s.ring) : DoesG Tryz.prog 30 #[ptr' q.b] [g] fun e gs => e = .returned (.int .i64 (s.ring.tail - s.ring.head)) ∧ ∃ g', isSh q s g' ∧ gs = [g'] := by
  obtain ⟨gr, gl, h1, h2, rfl⟩ := hg
  have hp := ringLen_g h1 hr
  intro w hw
  have T0 := TG.refl hw
  have HT := Lib.hid T0
  clear hw T0
  have HT := Lib.hid (HT.out.sum (H' := [shardB q.b q.rb q.lb q.wb, gr, gl]) (fun n ha h0 h1 h2 => by simp only [pickG, List.map_cons, List.map_nil, List.getD_cons_succ, List.getD_cons_zero, List.set_cons_succ, List.set_cons_zero, List.cons_append, List.flatten_append, List.flatten_cons, List.flatten_nil, List.append_nil, List.nil_append, ha, h0, h1, h2] <;> omega))
  have HP := Lib.hid hp
  have HL := Lib.hid h2
  clear h1 h2 hp hr
  go_enter Tryz.func30, Tryz.ntmps30
  go_wp2_with fail
  refine (DoesG.use (shardParts_g q.b q.rb q.lb q.wb) (HT.out) [0] rfl rfl).mono ?_
  rintro e w1 ⟨gs, ⟨rfl, rfl⟩, Ta⟩
  simp only [putG, List.set_cons_zero, List.set_cons_succ, List.cons_append, List.nil_append, List.append_nil] at Ta
  have HT := Lib.hid Ta
  clear Ta
  have hf := fun w => (inner_field (ptr' q.rb) (ptr' q.lb) (ptr' q.wb) w).1
  go_wp2_with fail
  refine (DoesG.use (HP.out) (HT.out) [1] rfl rfl).mono ?_
  rintro e w1 ⟨gs, ⟨rfl, g1, hg1, rfl⟩, Ta⟩
  simp only [putG, List.set_cons_zero, List.set_cons_succ, List.cons_append, List.nil_append, List.append_nil] at Ta
  have HG := Lib.hid hg1
  clear hg1
  have HT := Lib.hid Ta
  clear Ta
  go_wp2
  go_ret
  exact ⟨_, ⟨rfl, _, ⟨g1, gl, HG.out, HL.out, rfl⟩, rfl⟩, HT.out.sum (fun n ha h0 h1 h2 => by simp only [pickG, List.map_cons, List.map_nil, List.getD_cons_succ, List.getD_cons_zero, List.set_cons_succ, List.set_cons_zero, List.cons_append, List.flatten_append, List.flatten_cons, List.flatten_nil, List.append_nil, List.nil_append, ha, h0, h1, h2] <;> omega)⟩
set_option maxRecDepth 100000 in
theorem shardReady_g (hg : isSh q s g) (hr : RingB s.ring) : DoesG Tryz.prog 225 #[ptr' q.b] [g] fun e gs => e = .returned (.bool s.ring.ready) ∧ ∃ g', isSh q s g' ∧ gs = [g'] := by
  obtain ⟨gr, gl, h1, h2, rfl⟩ := hg
  have hp := ringReady_g h1 hr
  intro w hw
  have T0 := TG.refl hw
  have HT := Lib.hid T0
  clear hw T0
  have HT := Lib.hid (HT.out.sum (H' := [shardB q.b q.rb q.lb q.wb, gr, gl]) (fun n ha h0 h1 h2 => by simp only [pickG, List.map_cons, List.map_nil, List.getD_cons_succ, List.getD_cons_zero, List.set_cons_succ, List.set_cons_zero, List.cons_append, List.flatten_append, List.flatten_cons, List.flatten_nil, List.append_nil, List.nil_append, ha, h0, h1, h2] <;> omega))
  have HP := Lib.hid hp
  have HL := Lib.hid h2
  clear h1 h2 hp hr
  go_enter Tryz.func225, Tryz.ntmps225
  go_wp2_with fail
  refine (DoesG.use (shardParts_g q.b q.rb q.lb q.wb) (HT.out) [0] rfl rfl).mono ?_
  rintro e w1 ⟨gs, ⟨rfl, rfl⟩, Ta⟩
  simp only [putG, List.set_cons_zero, List.set_cons_succ, List.cons_append, List.nil_append, List.append_nil] at Ta
  have HT := Lib.hid Ta
  clear Ta
  have hf := fun w => (inner_field (ptr' q.rb) (ptr' q.lb) (ptr' q.wb) w).1
  go_wp2_with fail
  refine (DoesG.use (HP.out) (HT.out) [1] rfl rfl).mono ?_
  rintro e w1 ⟨gs, ⟨rfl, g1, hg1, rfl⟩, Ta⟩
  simp only [putG, List.set_cons_zero, List.set_cons_succ, List.cons_append, List.nil_append, List.append_nil] at Ta
  have HG := Lib.hid hg1
  clear hg1
  have HT := Lib.hid Ta
  clear Ta
  go_wp2
  go_ret
  exact ⟨_, ⟨rfl, _, ⟨g1, gl, HG.out, HL.out, rfl⟩, rfl⟩, HT.out.sum (fun n ha h0 h1 h2 => by simp only [pickG, List.map_cons, List.map_nil, List.getD_cons_succ, List.getD_cons_zero, List.set_cons_succ, List.set_cons_zero, List.cons_append, List.flatten_append, List.flatten_cons, List.flatten_nil, List.append_nil, List.nil_append, ha, h0, h1, h2] <;> omega)⟩
end
section
variable {L : Lay} {x : CoreS} {g : List Blk}
/-- of one shard of a core -/
theorem coreShard {F : Nat} {args : Array Value} {i : Nat} {q : ShP} {s s' : ShardS} {v : Value} (hx : isCore L x g) (hq : L.qs[i]? = some q) (hs : x.shs[i]? = some s)
    (hd : ∀ g, isSh q s g → DoesG Tryz.prog F args [g] fun e gs => e = .returned v ∧ ∃ g', isSh q s' g' ∧ gs = [g']) :
    DoesG Tryz.prog F args [g] fun e gs => e = .returned v ∧ ∃ g', isCore L { x with shs := x.shs.set i s' } g' ∧ gs = [g'] := by
  obtain ⟨tr, gF, gS, gR, gH, gT, h1, h2, h3, h4, h5, h6, rfl⟩ := hx
  have hz : (L.qs.zip x.shs)[i]? = some (q, s) := zip_at hq hs
  obtain ⟨u, y, hu, hp, hback⟩ := h5.out hz
  intro w hw
  have T := (((TG.refl hw).sum (H' := [gF ++ (gS ++ (gR ++ gT)), gH]) (fun n ha h0 h1 h2 => by simp only [pickG, List.map_cons, List.map_nil, List.getD_cons_succ, List.getD_cons_zero, List.set_cons_succ, List.set_cons_zero, List.cons_append, List.flatten_append, List.flatten_cons, List.flatten_nil, List.append_nil, List.nil_append, ha, h0, h1, h2] <;> omega)).permAt 1 rfl hp).sum (H' := [gF ++ (gS ++ (gR ++ gT)), u, y]) (fun n ha h0 h1 h2 => by simp only [pickG, List.map_cons, List.map_nil, List.getD_cons_succ, List.getD_cons_zero, List.set_cons_succ, List.set_cons_zero, List.cons_append, List.flatten_append, List.flatten_cons, List.flatten_nil, List.append_nil, List.nil_append, ha, h0, h1, h2] <;> omega)
  refine (DoesG.use (hd u hu) T [1] rfl rfl).mono ?_
  rintro e w' ⟨gs, ⟨he, g1, hn1, rfl⟩, T'⟩
  obtain ⟨gH', hf, hp'⟩ := hback (q, s') g1 hn1
  rw [zip_set i hq] at hf
  refine ⟨_, ⟨he, _, ⟨tr, gF, gS, gR, gH', gT, h1, h2, h3, by simpa using h4, hf, h6, rfl⟩, rfl⟩, ?_⟩
  exact ((TG.sum (H := [gF ++ (gS ++ (gR ++ gT)), g1, y]) (H' := [gF ++ (gS ++ (gR ++ gT)), g1 ++ y]) T' (fun n ha h0 h1 h2 => by simp only [pickG, List.map_cons, List.map_nil, List.getD_cons_succ, List.getD_cons_zero, List.set_cons_succ, List.set_cons_zero, List.cons_append, List.flatten_append, List.flatten_cons, List.flatten_nil, List.append_nil, List.nil_append, ha, h0, h1, h2] <;> omega)).permAt 1 rfl hp').sum (fun n ha h0 h1 h2 => by simp only [pickG, List.map_cons, List.map_nil, List.getD_cons_succ, List.getD_cons_zero, List.set_cons_succ, List.set_cons_zero, List.cons_append, List.flatten_append, List.flatten_cons, List.flatten_nil, List.append_nil, List.nil_append, ha, h0, h1, h2] <;> omega)
theorem core_shs_same {x : CoreS} {i : Nat} {s : ShardS} (hs : x.shs[i]? = some s) : ({ x with shs := x.shs.set i s } : CoreS) = x := by
  have : x.shs.set i s = x.shs := fam_set_same hs
  rw [this]
theorem corePop (hx : isCore L x g) {i : Nat} {q : ShP} {s : ShardS} (hq : L.qs[i]? = some q) (hs : x.shs[i]? = some s) (hr : RingB s.ring) : DoesG Tryz.prog 33 #[ptr' q.b] [g] fun e gs =>
    e = .returned (.tuple #[.agg (popR s.ring).2.1.cells, .int .i64 (popR s.ring).2.2]) ∧ ∃ g', isCore L { x with shs := x.shs.set i { s with ring := (popR s.ring).1 } } g' ∧ gs = [g'] :=
  coreShard hx hq hs fun g hg => shardPop_g hg hr
theorem coreWaiting (hx : isCore L x g) {i : Nat} {q : ShP} {s : ShardS} (hq : L.qs[i]? = some q) (hs : x.shs[i]? = some s) (hr : RingB s.ring) : DoesG Tryz.prog 30 #[ptr' q.b] [g] fun e gs =>
    e = .returned (.int .i64 (s.ring.tail - s.ring.head)) ∧ ∃ g', isCore L x g' ∧ gs = [g'] := by
  have := coreShard hx hq hs fun g hg => shardWaiting_g hg hr
  rwa [core_shs_same hs] at this
theorem coreReady (hx : isCore L x g) {i : Nat} {q : ShP} {s : ShardS} (hq : L.qs[i]? = some q) (hs : x.shs[i]? = some s) (hr : RingB s.ring) : DoesG Tryz.prog 225 #[ptr' q.b] [g] fun e gs =>
    e = .returned (.bool s.ring.ready) ∧ ∃ g', isCore L x g' ∧ gs = [g'] := by
  have := coreShard hx hq hs fun g hg => shardReady_g hg hr
  rwa [core_shs_same hs] at this
theorem coreShardAt_r (hx : isCore L x g) (i : Int) : ReadsG Tryz.prog 29 #[ptr' L.fb, .int .i64 i] [g] (shardV (L.qs.map ShP.b) i) := by
  obtain ⟨tr, gF, gS, gR, gH, gT, h1, h2, h3, h4, h5, h6, rfl⟩ := hx
  intro w hw
  have T := (TG.refl hw).sum (H' := [gF, gS, gR, gH, gT]) (fun n ha h0 h1 h2 => by simp only [pickG, List.map_cons, List.map_nil, List.getD_cons_succ, List.getD_cons_zero, List.set_cons_succ, List.set_cons_zero, List.cons_append, List.flatten_append, List.flatten_cons, List.flatten_nil, List.append_nil, List.nil_append, ha, h0, h1, h2] <;> omega)
  exact (floorShard_r h1 h3 i).use T [0, 2] rfl rfl
end
theorem core_q {L : Lay} {x : CoreS} {g : List Blk} (hx : isCore L x g) {i : Nat} (hi : i < x.shs.length) : ∃ q, L.qs[i]? = some q ∧ shardV (L.qs.map ShP.b) i = ptr' q.b := by
  obtain ⟨tr, gF, gS, gR, gH, gT, h1, h2, h3, h4, h5, h6, rfl⟩ := hx
  have hl : i < L.qs.length := by omega
  refine ⟨L.qs[i], List.getElem?_eq_getElem hl, ?_⟩
  unfold shardV
  rw [if_pos (by simp; omega)]
  simp [hl]
end Go.Proofs.YthbjaoinklhikaaGreat

namespace Go.Proofs.YthbjaoinklhikaaGreat
set_option linter.unusedVariables false
set_option linter.unusedSimpArgs false
open Go.RowKit Go.Shelf

/-! ## The greatest number that was given of a slot -/
theorem known_next {s : SlabS} {j k : Nat} {r : Rec} (hj : j < s.recs.length) (hn : s.recs.length ≤ 64) (hr : s.recs.getD j Rec.zero = r) : s.known ((k : Int) * 64 + j + 64) ↔ (k : Int) + 1 ≤ r.g := by
  have e1 : ((k : Int) * 64 + j + 64) % 64 = j := by omega
  have e2 : ((k : Int) * 64 + j + 64) / 64 = k + 1 := by omega
  unfold SlabS.known
  rw [e1, e2, Int.toNat_natCast, hr]
  constructor
  · exact fun h => h.2.2
  · exact fun h => ⟨by omega, by omega, h⟩
def numV (s : SlabS) (i : Int) : Int × Int :=
  if 0 ≤ i ∧ i < s.recs.length then let g := (s.recs.getD i.toNat Rec.zero).g; if g < 1 then (0, 6) else (g * 64 + i, 0) else (0, 4)
set_option maxRecDepth 100000 in
set_option maxHeartbeats 2000000 in
theorem floorNumber_g {fb : Nat} {p : FPtr} {f : FloorS} {tr : Value} {gF gS : List Blk} {s : SlabS} (hg : isFloor fb p f tr gF) (hS : isSlab p.sb s gS) (hc : f.cfg.cap = s.recs.length) (hn : s.recs.length ≤ 64) (hG : ∀ r ∈ s.recs, 0 ≤ r.g ∧ r.g ≤ 4294967295) (i : Int) :
    DoesG Tryz.prog 199 #[ptr' fb, .int .i64 i] [gF, gS] fun e gs => e = .returned (.tuple #[.int .u64 (numV s i).1, .int .i64 (numV s i).2]) ∧ ∃ gS', isSlab p.sb s gS' ∧ gs = [gF, gS'] := by
  obtain ⟨C, rfl, hC⟩ := hg
  intro w hw
  have T0 := TG.refl hw
  have HT := Lib.hid T0
  clear hw T0
  have c1 := (HT.out.cell 0 0 rfl 1).trans (hC.cfg 1 (by decide))
  have c6 := (HT.out.cell 0 0 rfl 6).trans hC.slab
  simp only [Cfg.cells, hc, List.getElem?_toArray, List.getElem?_cons_zero, List.getElem?_cons_succ] at c1
  have HS := Lib.hid hS
  have HN := Lib.hid hn
  have HC6 := Lib.hid hC.slab
  clear hS hC hc
  by_cases h0 : i < 0
  · have HV := Lib.hid (show numV s i = (0, 4) from if_neg (by omega))
    go_enter Tryz.func199, Tryz.ntmps199
    go_wp2
    go_ret2
    exact ⟨_, ⟨by rw [HV.out]; rfl, gS, HS.out, rfl⟩, HT.out⟩
  by_cases h1 : (s.recs.length : Int) ≤ i
  · have HV := Lib.hid (show numV s i = (0, 4) from if_neg (by omega))
    go_enter Tryz.func199, Tryz.ntmps199
    go_wp2
    go_ret2
    exact ⟨_, ⟨by rw [HV.out]; rfl, gS, HS.out, rfl⟩, HT.out⟩
  obtain ⟨j, rfl⟩ := Int.eq_ofNat_of_zero_le (show 0 ≤ i by omega)
  have hj : j < s.recs.length := by omega
  obtain ⟨r, hr⟩ : ∃ r, s.recs.getD j Rec.zero = r := ⟨_, rfl⟩
  have hmem : r ∈ s.recs := by rw [← hr, List.getD_eq_getElem?_getD, List.getElem?_eq_getElem hj]; exact List.getElem_mem hj
  obtain ⟨g0, g1⟩ := hG r hmem
  obtain ⟨gn, hgn⟩ := Int.eq_ofNat_of_zero_le g0
  have HV := Lib.hid (show numV s j = if r.g < 1 then (0, 6) else (r.g * 64 + j, 0) by unfold numV; rw [if_pos ⟨by omega, by omega⟩, Int.toNat_natCast, hr])
  have HK := Lib.hid (fun k : Nat => known_next (k := k) hj hn hr)
  rw [hgn] at HV HK
  have hgb : gn ≤ 4294967295 := by omega
  have hj64 : j < 64 := by omega
  clear hr hmem hgn hG h0 hn g0 g1
  go_enter Tryz.func199, Tryz.ntmps199
  go_wp2_with fail
  go_loopw [6] (fun v wr => ∃ k : Nat, k ≤ gn ∧ v = .int .u64 ((k : Int) * 64 + j) ∧ ∃ gS', isSlab p.sb s gS' ∧ TG [[cl fb 120 C], gS] w [[cl fb 120 C], gS'] wr) (fun v _ => gn * 64 + j - (intOf v).toNat)
  case atStart => exact ⟨0, Nat.zero_le _, by simp, gS, HS.out, HT.out⟩
  case round =>
    obtain ⟨k, hk, rfl, gS1, hS1, T⟩ := hrel
    have HT := Lib.hid T
    have c6 := (HT.out.cell 0 0 rfl 6).trans HC6.out
    clear T
    have b0 : (0 : Int) ≤ (k : Int) * 64 + j + 64 := by omega
    have b1 : (k : Int) * 64 + j + 64 < 18446744073709551616 := by omega
    by_cases hlt : k < gn
    · have HX := Lib.hid (show s.serr ((k : Int) * 64 + j + 64) = 0 from if_pos ((HK.out k).2 (by omega)))
      obtain ⟨y, hy⟩ : ∃ y, s.slot ((k : Int) * 64 + j + 64) = y := ⟨_, rfl⟩
      have HY := Lib.hid hy
      clear hy
      go_wp2_with fail
      refine (DoesG.use (slabSlot_c HY.out HX.out hS1 HN.out b0 b1) (HT.out) [1] rfl rfl).mono ?_
      rintro e w1 ⟨gs, ⟨rfl, gS2, hS2, rfl⟩, Ta⟩
      simp only [putG, List.set_cons_zero, List.set_cons_succ, List.cons_append, List.nil_append, List.append_nil] at Ta
      have HT := Lib.hid Ta
      clear Ta
      go_wp2
      go_roundw
      case rel => exact ⟨k + 1, by omega, congrArg (Value.int .u64) (by omega), gS2, hS2, HT.out⟩
      case measure => simp [intOf]; omega
    · obtain rfl : k = gn := by omega
      have HX := Lib.hid (show s.serr ((k : Int) * 64 + j + 64) = 1 from if_neg (fun h => by have := (HK.out k).1 h; omega))
      obtain ⟨y, hy⟩ : ∃ y, s.slot ((k : Int) * 64 + j + 64) = y := ⟨_, rfl⟩
      have HY := Lib.hid hy
      clear hy
      by_cases hz : k = 0
      · subst hz
        have e0 : (((0 : Nat) : Int) * 64 + j + 64) = (j : Int) + 64 := by omega
        rw [e0] at HX HY b0 b1
        clear e0
        go_wp2_with fail
        refine (DoesG.use (slabSlot_c HY.out HX.out hS1 HN.out b0 b1) (HT.out) [1] rfl rfl).mono ?_
        rintro e w1 ⟨gs, ⟨rfl, gS2, hS2, rfl⟩, Ta⟩
        simp only [putG, List.set_cons_zero, List.set_cons_succ, List.cons_append, List.nil_append, List.append_nil] at Ta
        have HT := Lib.hid Ta
        clear Ta
        have z : (j : Int) < 64 := by omega
        go_wp2
        go_ret2
        exact ⟨_, ⟨by rw [HV.out]; rfl, gS2, hS2, rfl⟩, HT.out⟩
      · go_wp2_with fail
        refine (DoesG.use (slabSlot_c HY.out HX.out hS1 HN.out b0 b1) (HT.out) [1] rfl rfl).mono ?_
        rintro e w1 ⟨gs, ⟨rfl, gS2, hS2, rfl⟩, Ta⟩
        simp only [putG, List.set_cons_zero, List.set_cons_succ, List.cons_append, List.nil_append, List.append_nil] at Ta
        have HT := Lib.hid Ta
        clear Ta
        have HV2 := Lib.hid (HV.out.trans (if_neg (by omega)))
        have z : ¬ ((k : Int) * 64 + j) < 64 := by omega
        clear b0 b1 hz hlt hk
        go_wp2
        go_ret2
        exact ⟨_, ⟨by rw [HV2.out]; rfl, gS2, hS2, rfl⟩, HT.out⟩
end Go.Proofs.YthbjaoinklhikaaGreat

namespace Go.Proofs.YthbjaoinklhikaaGreat
set_option linter.unusedVariables false
set_option linter.unusedSimpArgs false
open Go.RowKit Go.Shelf

/-! ## What a core tells besides -/
section
variable {L : Lay} {x : CoreS} {g : List Blk}
theorem coreBusy (hx : isCore L x g) : DoesG Tryz.prog 178 #[ptr' L.fb] [g] fun e gs => e = .returned (.int .i64 x.f.busy) ∧ ∃ g', isCore L x g' ∧ gs = [g'] := by
  obtain ⟨tr, gF, gS, gR, gH, gT, h1, h2, h3, h4, h5, h6, rfl⟩ := hx
  intro w hw
  have T := (TG.refl hw).sum (H' := [gF, gS, gR, gH, gT]) (fun n ha h0 h1 h2 => by simp only [pickG, List.map_cons, List.map_nil, List.getD_cons_succ, List.getD_cons_zero, List.set_cons_succ, List.set_cons_zero, List.cons_append, List.flatten_append, List.flatten_cons, List.flatten_nil, List.append_nil, List.nil_append, ha, h0, h1, h2] <;> omega)
  refine (DoesG.use (floorBusy_g h1) T [0] rfl rfl).mono ?_
  rintro e w' ⟨gs, ⟨he, g1, hn1, rfl⟩, T'⟩
  exact ⟨_, ⟨he, _, ⟨tr, g1, gS, gR, gH, gT, hn1, h2, h3, h4, h5, h6, rfl⟩, rfl⟩, TG.sum (H := [g1, gS, gR, gH, gT]) T' (fun n ha h0 h1 h2 => by simp only [pickG, List.map_cons, List.map_nil, List.getD_cons_succ, List.getD_cons_zero, List.set_cons_succ, List.set_cons_zero, List.cons_append, List.flatten_append, List.flatten_cons, List.flatten_nil, List.append_nil, List.nil_append, ha, h0, h1, h2] <;> omega)⟩
theorem coreWork (hx : isCore L x g) (h : 0 ≤ x.f.busy ∧ x.f.busy ≤ 1000000) : DoesG Tryz.prog 42 #[ptr' L.fb, .bool true] [g] fun e gs => e = .returned (.int .i64 0) ∧ ∃ g', isCore L { x with f := { x.f with busy := x.f.busy + 1 } } g' ∧ gs = [g'] := by
  obtain ⟨tr, gF, gS, gR, gH, gT, h1, h2, h3, h4, h5, h6, rfl⟩ := hx
  intro w hw
  have T := (TG.refl hw).sum (H' := [gF, gS, gR, gH, gT]) (fun n ha h0 h1 h2 => by simp only [pickG, List.map_cons, List.map_nil, List.getD_cons_succ, List.getD_cons_zero, List.set_cons_succ, List.set_cons_zero, List.cons_append, List.flatten_append, List.flatten_cons, List.flatten_nil, List.append_nil, List.nil_append, ha, h0, h1, h2] <;> omega)
  refine (DoesG.use (floorWork_g h1 h) T [0] rfl rfl).mono ?_
  rintro e w' ⟨gs, ⟨he, g1, hn1, rfl⟩, T'⟩
  exact ⟨_, ⟨he, _, ⟨tr, g1, gS, gR, gH, gT, hn1, h2, h3, h4, h5, h6, rfl⟩, rfl⟩, TG.sum (H := [g1, gS, gR, gH, gT]) T' (fun n ha h0 h1 h2 => by simp only [pickG, List.map_cons, List.map_nil, List.getD_cons_succ, List.getD_cons_zero, List.set_cons_succ, List.set_cons_zero, List.cons_append, List.flatten_append, List.flatten_cons, List.flatten_nil, List.append_nil, List.nil_append, ha, h0, h1, h2] <;> omega)⟩
theorem coreRest (hx : isCore L x g) (h : 0 ≤ x.f.busy ∧ x.f.busy ≤ 1000000) : DoesG Tryz.prog 42 #[ptr' L.fb, .bool false] [g] fun e gs => e = .returned (.int .i64 (lessE x.f.busy)) ∧ ∃ g', isCore L { x with f := { x.f with busy := lessN x.f.busy } } g' ∧ gs = [g'] := by
  obtain ⟨tr, gF, gS, gR, gH, gT, h1, h2, h3, h4, h5, h6, rfl⟩ := hx
  intro w hw
  have T := (TG.refl hw).sum (H' := [gF, gS, gR, gH, gT]) (fun n ha h0 h1 h2 => by simp only [pickG, List.map_cons, List.map_nil, List.getD_cons_succ, List.getD_cons_zero, List.set_cons_succ, List.set_cons_zero, List.cons_append, List.flatten_append, List.flatten_cons, List.flatten_nil, List.append_nil, List.nil_append, ha, h0, h1, h2] <;> omega)
  refine (DoesG.use (floorRest_g h1 h) T [0] rfl rfl).mono ?_
  rintro e w' ⟨gs, ⟨he, g1, hn1, rfl⟩, T'⟩
  exact ⟨_, ⟨he, _, ⟨tr, g1, gS, gR, gH, gT, hn1, h2, h3, h4, h5, h6, rfl⟩, rfl⟩, TG.sum (H := [g1, gS, gR, gH, gT]) T' (fun n ha h0 h1 h2 => by simp only [pickG, List.map_cons, List.map_nil, List.getD_cons_succ, List.getD_cons_zero, List.set_cons_succ, List.set_cons_zero, List.cons_append, List.flatten_append, List.flatten_cons, List.flatten_nil, List.append_nil, List.nil_append, ha, h0, h1, h2] <;> omega)⟩
theorem coreTurn (hx : isCore L x g) (h : 0 ≤ x.f.now ∧ x.f.now < 9223372036854775807) : DoesG Tryz.prog 185 #[ptr' L.fb] [g] fun e gs => e = .returned (.tuple #[.int .u64 (x.f.now + 1), .int .i64 0]) ∧ ∃ g', isCore L { x with f := { x.f with now := x.f.now + 1 } } g' ∧ gs = [g'] := by
  obtain ⟨tr, gF, gS, gR, gH, gT, h1, h2, h3, h4, h5, h6, rfl⟩ := hx
  intro w hw
  have T := (TG.refl hw).sum (H' := [gF, gS, gR, gH, gT]) (fun n ha h0 h1 h2 => by simp only [pickG, List.map_cons, List.map_nil, List.getD_cons_succ, List.getD_cons_zero, List.set_cons_succ, List.set_cons_zero, List.cons_append, List.flatten_append, List.flatten_cons, List.flatten_nil, List.append_nil, List.nil_append, ha, h0, h1, h2] <;> omega)
  refine (DoesG.use (floorTurn_g h1 h) T [0] rfl rfl).mono ?_
  rintro e w' ⟨gs, ⟨he, g1, hn1, rfl⟩, T'⟩
  exact ⟨_, ⟨he, _, ⟨tr, g1, gS, gR, gH, gT, hn1, h2, h3, h4, h5, h6, rfl⟩, rfl⟩, TG.sum (H := [g1, gS, gR, gH, gT]) T' (fun n ha h0 h1 h2 => by simp only [pickG, List.map_cons, List.map_nil, List.getD_cons_succ, List.getD_cons_zero, List.set_cons_succ, List.set_cons_zero, List.cons_append, List.flatten_append, List.flatten_cons, List.flatten_nil, List.append_nil, List.nil_append, ha, h0, h1, h2] <;> omega)⟩
theorem coreNow (hx : isCore L x g) : DoesG Tryz.prog 51 #[ptr' L.fb] [g] fun e gs => e = .returned (.int .u64 x.f.now) ∧ ∃ g', isCore L x g' ∧ gs = [g'] := by
  obtain ⟨tr, gF, gS, gR, gH, gT, h1, h2, h3, h4, h5, h6, rfl⟩ := hx
  intro w hw
  have T := (TG.refl hw).sum (H' := [gF, gS, gR, gH, gT]) (fun n ha h0 h1 h2 => by simp only [pickG, List.map_cons, List.map_nil, List.getD_cons_succ, List.getD_cons_zero, List.set_cons_succ, List.set_cons_zero, List.cons_append, List.flatten_append, List.flatten_cons, List.flatten_nil, List.append_nil, List.nil_append, ha, h0, h1, h2] <;> omega)
  refine (DoesG.use (floorNow_g h1) T [0] rfl rfl).mono ?_
  rintro e w' ⟨gs, ⟨he, g1, hn1, rfl⟩, T'⟩
  exact ⟨_, ⟨he, _, ⟨tr, g1, gS, gR, gH, gT, hn1, h2, h3, h4, h5, h6, rfl⟩, rfl⟩, TG.sum (H := [g1, gS, gR, gH, gT]) T' (fun n ha h0 h1 h2 => by simp only [pickG, List.map_cons, List.map_nil, List.getD_cons_succ, List.getD_cons_zero, List.set_cons_succ, List.set_cons_zero, List.cons_append, List.flatten_append, List.flatten_cons, List.flatten_nil, List.append_nil, List.nil_append, ha, h0, h1, h2] <;> omega)⟩
theorem corePipe_r (hx : isCore L x g) : ReadsG Tryz.prog 55 #[ptr' L.fb] [g] (ptr' L.p.pb) := by
  obtain ⟨tr, gF, gS, gR, gH, gT, ⟨C, rfl, hc⟩, h2, h3, h4, h5, h6, rfl⟩ := hx
  intro w hw
  have T0 := TG.refl hw
  have HT := Lib.hid T0
  clear hw T0
  have c0 := ((HT.out.sum (H' := [[cl L.fb 120 C], gS, gR, gH, gT]) (fun n ha h0 h1 h2 => by simp only [pickG, List.map_cons, List.map_nil, List.getD_cons_succ, List.getD_cons_zero, List.set_cons_succ, List.set_cons_zero, List.cons_append, List.flatten_append, List.flatten_cons, List.flatten_nil, List.append_nil, List.nil_append, ha, h0, h1, h2] <;> omega)).cell 0 0 rfl 8).trans hc.pipe
  clear hc h2 h3 h4 h5 h6
  go_enter Tryz.func55, Tryz.ntmps55
  go_wp2
  go_ret
  exact ⟨rfl, 0, rfl⟩
theorem coreConfig (hx : isCore L x g) : DoesG Tryz.prog 142 #[ptr' L.fb] [g] fun e gs => e = .returned (.agg x.f.cfg.cells) ∧ gs = [g] := by
  obtain ⟨tr, gF, gS, gR, gH, gT, ⟨C, rfl, hc⟩, h2, h3, h4, h5, h6, rfl⟩ := hx
  have hcf := hc.cfg
  intro w hw
  have T0 := TG.refl hw
  have HT := Lib.hid T0
  clear hw T0
  have HT1 := Lib.hid (HT.out.sum (H' := [[cl L.fb 120 C], gS, gR, gH, gT]) (fun n ha h0 h1 h2 => by simp only [pickG, List.map_cons, List.map_nil, List.getD_cons_succ, List.getD_cons_zero, List.set_cons_succ, List.set_cons_zero, List.cons_append, List.flatten_append, List.flatten_cons, List.flatten_nil, List.append_nil, List.nil_append, ha, h0, h1, h2] <;> omega))
  have k0 := (HT1.out.cell 0 0 rfl 0).trans (hcf 0 (by decide))
  have k1 := (HT1.out.cell 0 0 rfl 1).trans (hcf 1 (by decide))
  have k2 := (HT1.out.cell 0 0 rfl 2).trans (hcf 2 (by decide))
  have k3 := (HT1.out.cell 0 0 rfl 3).trans (hcf 3 (by decide))
  have k4 := (HT1.out.cell 0 0 rfl 4).trans (hcf 4 (by decide))
  have k5 := (HT1.out.cell 0 0 rfl 5).trans (hcf 5 (by decide))
  simp only [Cfg.cells, List.getElem?_toArray, List.getElem?_cons_zero, List.getElem?_cons_succ] at k0 k1 k2 k3 k4 k5
  have hlt := HT1.out.lt 0 0 rfl
  simp only [] at hlt
  clear hcf hc h2 h3 h4 h5 h6 HT1
  go_enter Tryz.func142, Tryz.ntmps142
  go_wp2
  exact bodyPost_ret (v := .agg x.f.cfg.cells) (by simp [results, Tryz.results142, go_sem, Cfg.cells]) rfl ⟨_, ⟨rfl, rfl⟩, HT.out.alloc0 _⟩
theorem coreNumber (hx : isCore L x g) (hc : x.f.cfg.cap = x.slab.recs.length) (hs : SlabOk x.slab) (i : Int) : DoesG Tryz.prog 199 #[ptr' L.fb, .int .i64 i] [g] fun e gs => e = .returned (.tuple #[.int .u64 (numV x.slab i).1, .int .i64 (numV x.slab i).2]) ∧ ∃ g', isCore L x g' ∧ gs = [g'] := by
  obtain ⟨tr, gF, gS, gR, gH, gT, h1, h2, h3, h4, h5, h6, rfl⟩ := hx
  intro w hw
  have T := (TG.refl hw).sum (H' := [gF, gS, gR, gH, gT]) (fun n ha h0 h1 h2 => by simp only [pickG, List.map_cons, List.map_nil, List.getD_cons_succ, List.getD_cons_zero, List.set_cons_succ, List.set_cons_zero, List.cons_append, List.flatten_append, List.flatten_cons, List.flatten_nil, List.append_nil, List.nil_append, ha, h0, h1, h2] <;> omega)
  refine (DoesG.use (floorNumber_g h1 h2 hc hs.n1 (fun r hr => ⟨(hs.recs r hr).g0, by
    have h := (hs.recs r hr).g1
    unfold genW at h
    split at h
    · next ho =>
      unfold okW at ho
      simp only [Bool.and_eq_true, decide_eq_true_eq] at ho
      omega
    · omega⟩) i) T [0, 1] rfl rfl).mono ?_
  rintro e w' ⟨gs, ⟨he, g1, hn1, rfl⟩, T'⟩
  exact ⟨_, ⟨he, _, ⟨tr, gF, g1, gR, gH, gT, h1, hn1, h3, h4, h5, h6, rfl⟩, rfl⟩, TG.sum (H := [gF, g1, gR, gH, gT]) T' (fun n ha h0 h1 h2 => by simp only [pickG, List.map_cons, List.map_nil, List.getD_cons_succ, List.getD_cons_zero, List.set_cons_succ, List.set_cons_zero, List.cons_append, List.flatten_append, List.flatten_cons, List.flatten_nil, List.append_nil, List.nil_append, ha, h0, h1, h2] <;> omega)⟩
end
/-- a block's cells, of a group that has it -/
theorem TG.mem_at {h H : GH} {w w' : World} (T : TG h w H w') (i : Nat) {p : Blk} (hm : p ∈ H.getD i []) : w'.heap[p.1]? = some p.2 := by
  obtain ⟨j, hj⟩ := List.mem_iff_getElem?.1 hm
  exact T.obj i j hj
theorem TG.mem_cell {h H : GH} {w w' : World} (T : TG h w H w') (i : Nat) {b : Nat} {t : TypeId} {C : Array Value} (hm : cl b t C ∈ H.getD i []) (o : Nat) : w'.cell? ⟨b, o, none⟩ = C[o]? := blk_cell (T.mem_at i hm) o
theorem TG.mem_lt {h H : GH} {w w' : World} (T : TG h w H w') (i : Nat) {p : Blk} (hm : p ∈ H.getD i []) : p.1 < w'.heap.size := (Array.getElem?_eq_some_iff.1 (T.mem_at i hm)).1
end Go.Proofs.YthbjaoinklhikaaGreat

namespace Go.Proofs.YthbjaoinklhikaaGreat
set_option linter.unusedVariables false
set_option linter.unusedSimpArgs false
open Go.RowKit Go.Shelf

/-! ## A closing's work: its steps, plain -/
structure ShutS where
  th : Int
  no : Int
  err : Int
  ok : Bool
  aset : Bool
  left : List Int
  saw : Int
inductive MS where
  | shuts | slots0 | slots2 (i : Int) | waits | looks1 (i : Int) | leaves0 (i : Int) | waits2
inductive AS where
  | ends1 | pshut | release (i : Int) | drop
inductive YS where
  | inside | idle
abbrev SS : Type := St MS AS YS
structure ZS where
  k : ShutS
  x : CoreS
  p : PipeS
def evS (k : ShutS) (E : EvS) : EvS := { E with thread := k.th, call := k.no, what := 6 }
def ZS.note (E : EvS) (z : ZS) : ZS := { z with x := { z.x with tr := z.x.tr ++ [evS z.k E] } }
def looksS (i : Int) : SS := .at none (.looks1 i)
def slotsS (i : Int) (z : ZS) : SS := if z.x.f.cfg.cap ≤ i then .thn (.row1 .pshut) .waits else .thn (looksS i) (.slots2 i)
def wordZ (i : Int) (z : ZS) : ZS := { z with k := { z.k with saw := z.x.slab.word i } }
def runS : MS → ZS → SS × ZS
  | .shuts, z => if z.x.f.closed = true then (.row1 .ends1, { (z.note { ev0 with kind := 9, err := 3 }) with k := { z.k with err := 3, ok := false, aset := false } })
      else (.at (some .inside) .slots0, ({ z with x := { z.x with f := { z.x.f with closed := true } } } : ZS).note { ev0 with kind := 10 })
  | .slots0, z => (slotsS 0 z, z)
  | .slots2 i, z => (slotsS (i + 1) z, z)
  | .waits, z => (.at (some .idle) .waits2, z)
  | .looks1 i, z => if stW (z.x.slab.word i) = 2 ∨ stW (z.x.slab.word i) = 3 then (.at none (.leaves0 i), wordZ i z) else (.nil, wordZ i z)
  | .leaves0 i, z =>
    let r := z.x.slab.try i z.k.saw 6
    if r.2.2 ≠ 0 then (looksS i, { z with x := { z.x with slab := r.1 } })
    else (.row2 (.release i) .drop, ({ z with x := { z.x with slab := r.1 }, k := { z.k with left := z.k.left ++ [(numV r.1 i).1] } } : ZS).note { ev0 with kind := 12, id := (numV r.1 i).1, gen := genW r.2.1 })
  | .waits2, z => (.row1 .ends1, { (z.note { ev0 with kind := 13 }) with k := { z.k with err := 0, ok := true, aset := true } })
def runAS : AS → ZS → ZS
  | .ends1, z => z.note { ev0 with kind := 2, err := z.k.err }
  | .pshut, z => { z with p := { z.p with shut := true } }
  | .release i, z => { z with x := { z.x with slab := (z.x.slab.try i (z.x.slab.word i) 10).1 } }
  | .drop, z => { z with x := { z.x with slab := z.x.slab.drop.1 } }
def mayS : YS → ZS → Bool
  | .inside, z => z.x.f.inside == 0
  | .idle, z => z.p.shut && decide (z.p.ch = []) && (z.x.f.busy == 0)
structure ShutOk (z : ZS) : Prop where
  core : CoreOk z.x
  cap : z.x.f.cfg.cap = z.x.slab.recs.length
  busy : 0 ≤ z.x.f.busy ∧ z.x.f.busy ≤ 1000000
  saw : 0 ≤ z.k.saw ∧ z.k.saw < 18446744073709551616 ∧ okW z.k.saw = true
  left : z.k.left.length ≤ 1000000
def MS.fit : MS → ZS → Prop
  | .slots2 i, _ => 0 ≤ i ∧ i ≤ 64
  | .looks1 i, _ => 0 ≤ i ∧ i ≤ 64
  | .leaves0 i, z => (0 ≤ i ∧ i ≤ 64) ∧ z.k.aset = false
  | _, _ => True
def preS (f : MS) (z : ZS) : Prop := ShutOk z ∧ f.fit z
def preAS (_ : AS) (z : ZS) : Prop := ShutOk z

/-! ### In the heap -/
def shutC (fb : Nat) (pv vl al : Value) (k : ShutS) : Array Value := #[ptr' fb, .int .i64 k.th, .int .i64 k.no, .int .i64 k.err, .bool k.ok, .int .u64 0, .int .u64 0, al, pv, vl, .int .u64 k.saw]
abbrev shutB (kb fb : Nat) (pv vl al : Value) (k : ShutS) : List Blk := [cl kb 148 (shutC fb pv vl al k)]
def u64s (l : List Int) : List Value := l.map fun n => .int .u64 n
def isLeft (k : ShutS) (vl al : Value) (g : List Blk) : Prop := rowG 22 1 vl k.left.length (u64s k.left) g ∧ (if k.aset then al = vl else al = .slice none 0 0)
def repS (L : Lay) (kb : Nat) (pv : Value) (e : List Blk) (z : ZS) (gK gF : List Blk) : Prop :=
  ∃ vl al gl gC gP, isLeft z.k vl al gl ∧ isCore L z.x gC ∧ isPipe L.p.pb z.p gP ∧ gK = shutB kb L.fb pv vl al z.k ++ (gl ++ e) ∧ gF = gC ++ gP
def cloK (kb : Nat) (e : List Blk) (fn : FuncId) (v : Value) : Prop := ∃ bk, v = .func (.func fn) #[] #[ptr' bk] ∧ cl bk 75 #[ptr' kb] ∈ e
def cloI (kb : Nat) (e : List Blk) (fn : FuncId) (i : Int) (v : Value) : Prop := ∃ bk bi, v = .func (.func fn) #[] #[ptr' bk, ptr' bi] ∧ cl bk 75 #[ptr' kb] ∈ e ∧ cl bi 3 #[.int .i64 i] ∈ e
def VMS (kb : Nat) (e : List Blk) (f : MS) (v : Value) (g : List Blk) : Prop := g = [] ∧ match f with
  | .shuts => v = .func (.func 86) #[ptr' kb] #[]
  | .slots0 => cloK kb e 120 v
  | .slots2 i => cloI kb e 148 i v
  | .waits => v = .func (.func 146) #[ptr' kb] #[]
  | .looks1 i => cloI kb e 180 i v
  | .leaves0 i => cloI kb e 181 i v
  | .waits2 => cloK kb e 179 v
def VAS (kb : Nat) (e : List Blk) (f : AS) (v : Value) (g : List Blk) : Prop := g = [] ∧ match f with
  | .ends1 => cloK kb e 141 v
  | .pshut => cloK kb e 144 v
  | .release i => cloI kb e 200 i v
  | .drop => cloK kb e 201 v
def VYS (kb : Nat) (e : List Blk) (f : YS) (v : Value) (g : List Blk) : Prop := g = [] ∧ match f with
  | .inside => cloK kb e 119 v
  | .idle => cloK kb e 176 v
def leE (e e' : List Blk) : Prop := ∀ b ∈ e, b ∈ e'
def cliS (L : Lay) (kb : Nat) (pv : Value) : CliE :=
  ⟨MS, AS, YS, ZS, List Blk, leE, repS L kb pv, VMS kb, VAS kb, VYS kb, runS, runAS, mayS, preS, preAS, fun _ z => ShutOk z⟩
theorem cloK.le {kb : Nat} {e e' : List Blk} {fn : FuncId} {v : Value} (h : cloK kb e fn v) (hl : leE e e') : cloK kb e' fn v := by
  obtain ⟨bk, h1, h2⟩ := h; exact ⟨bk, h1, hl _ h2⟩
theorem cloI.le {kb : Nat} {e e' : List Blk} {fn : FuncId} {i : Int} {v : Value} (h : cloI kb e fn i v) (hl : leE e e') : cloI kb e' fn i v := by
  obtain ⟨bk, bi, h1, h2, h3⟩ := h; exact ⟨bk, bi, h1, hl _ h2, hl _ h3⟩
theorem cloK.is {kb : Nat} {e : List Blk} {fn : FuncId} {v : Value} (h : cloK kb e fn v) : ∃ fn first caps, v = .func (.func fn) first caps := by
  obtain ⟨bk, h1, h2⟩ := h; exact ⟨_, _, _, h1⟩
theorem cloI.is {kb : Nat} {e : List Blk} {fn : FuncId} {i : Int} {v : Value} (h : cloI kb e fn i v) : ∃ fn first caps, v = .func (.func fn) first caps := by
  obtain ⟨bk, bi, h1, h2, h3⟩ := h; exact ⟨_, _, _, h1⟩
theorem VMS.le {kb : Nat} {e e' : List Blk} {f : MS} {v : Value} {g : List Blk} (hl : leE e e') (h : VMS kb e f v g) : VMS kb e' f v g := by
  refine ⟨h.1, ?_⟩
  have := h.2
  cases f <;> first | exact this | exact cloK.le this hl | exact cloI.le this hl
theorem VAS.le {kb : Nat} {e e' : List Blk} {f : AS} {v : Value} {g : List Blk} (hl : leE e e') (h : VAS kb e f v g) : VAS kb e' f v g := by
  refine ⟨h.1, ?_⟩
  have := h.2
  cases f <;> first | exact cloK.le this hl | exact cloI.le this hl
theorem cliS_vals (L : Lay) (kb : Nat) (pv : Value) (e : List Blk) : ((cliS L kb pv).on e).Vals where
  vm {f v g} h := by
    have := h.2
    cases f <;> first | exact ⟨_, _, _, this⟩ | exact cloK.is this | exact cloI.is this
  va {f v g} h := by
    have := h.2
    cases f <;> first | exact cloK.is this | exact cloI.is this
  vy {f v g} h := by
    have := h.2
    cases f <;> exact cloK.is this
theorem leE.refl (e : List Blk) : leE e e := fun _ h => h
theorem leE.app (e l : List Blk) : leE e (e ++ l) := fun _ h => List.mem_append_left _ h
/-- what a step leaves -/
def MRS (L : Lay) (kb : Nat) (pv : Value) (e : List Blk) (s : SS) (z : ZS) (en : Ending) (gs : GH) : Prop :=
  ∃ e', leE e e' ∧ ∃ m d g' gK' gF', en = .returned (.agg #[m, d]) ∧ (cliS L kb pv).SV e' s m d g' ∧ repS L kb pv e' z gK' gF' ∧ gs = [g', gK', gF']
def ARS (L : Lay) (kb : Nat) (pv : Value) (e : List Blk) (z : ZS) (en : Ending) (gs : GH) : Prop :=
  ∃ e', leE e e' ∧ ∃ gK' gF', en = .returned (.tuple #[]) ∧ repS L kb pv e' z gK' gF' ∧ gs = [[], gK', gF']
end Go.Proofs.YthbjaoinklhikaaGreat

namespace Go.Proofs.YthbjaoinklhikaaGreat
set_option linter.unusedVariables false
set_option linter.unusedSimpArgs false
open Go.RowKit Go.Shelf
/-- a stage that is made, with boxes of its own -/
def SRS (L : Lay) (kb : Nat) (pv : Value) (s : SS) (en : Ending) (g' l : List Blk) : Prop :=
  ∃ m d, en = .returned (.agg #[m, d]) ∧ ∀ e, leE l e → (cliS L kb pv).SV e s m d g'
set_option maxRecDepth 100000 in
theorem until_g (f1 f2 : FuncId) (a1 a2 c1 c2 : Array Value) : DoesG Tryz.prog 118 #[.func (.func f1) a1 c1, .func (.func f2) a2 c2] [] fun en gs => en = .returned (.agg #[.func (.func f1) a1 c1, .func (.func f2) a2 c2]) ∧ gs = [] := by
  intro w hw
  have T0 := TG.refl hw
  have HT := Lib.hid T0
  clear hw T0
  go_enter Tryz.func118, Tryz.ntmps118
  go_wp2
  exact bodyPost_ret (v := .agg #[_, _]) (by simp [results, Tryz.results118, go_sem]) rfl ⟨_, ⟨rfl, rfl⟩, HT.out.alloc0 _⟩
section
variable {L : Lay} {x : CoreS} {g gK gF : List Blk} {kb : Nat} {pv vl al : Value} {k : ShutS}
set_option maxRecDepth 100000 in
theorem shutNote (hx : isCore L x g) (E : EvS) (hn : x.tr.length ≤ 1000000) : DoesG Tryz.prog 87 #[ptr' kb, .agg E.cells] [shutB kb L.fb pv vl al k, g] fun e gs =>
    e = .returned (.tuple #[]) ∧ ∃ g', isCore L { x with tr := x.tr ++ [evS k E] } g' ∧ gs = [shutB kb L.fb pv vl al k, g'] := by
  intro w hw
  have T0 := TG.refl hw
  have HT := Lib.hid T0
  clear hw T0
  have HN := Lib.hid (coreNote hx (evS k E) hn)
  have lt := HT.out.lt 0 0 rfl
  simp only [] at lt
  have k0 := HT.out.cell 0 0 rfl 0
  have k1 := HT.out.cell 0 0 rfl 1
  have k2 := HT.out.cell 0 0 rfl 2
  simp only [shutC, List.getElem?_toArray, List.getElem?_cons_zero, List.getElem?_cons_succ] at k0 k1 k2
  clear hx hn
  simp only [EvS.cells]
  go_enter Tryz.func87, Tryz.ntmps87
  go_wp2
  go_region
  go_wp2
  have HT := Lib.hid (HT.out.alloc (k := w.heap.size) rfl 46 (evS k E).cells).drew
  simp only [List.cons_append, List.nil_append] at HT
  simp only [EvS.cells, evS] at HT
  clear lt k1 k2 k0
  generalize World.drew _ = w1 at HT ⊢
  have k0 := HT.out.cell 0 0 rfl 0
  simp only [shutC, List.getElem?_toArray, List.getElem?_cons_zero, List.getElem?_cons_succ] at k0
  have b0 := HT.out.cell 2 0 rfl 0
  have b1 := HT.out.cell 2 0 rfl 1
  have b2 := HT.out.cell 2 0 rfl 2
  have b3 := HT.out.cell 2 0 rfl 3
  have b4 := HT.out.cell 2 0 rfl 4
  have b5 := HT.out.cell 2 0 rfl 5
  have b6 := HT.out.cell 2 0 rfl 6
  have b7 := HT.out.cell 2 0 rfl 7
  have b8 := HT.out.cell 2 0 rfl 8
  have b9 := HT.out.cell 2 0 rfl 9
  simp only [List.getElem?_nil, List.getElem?_toArray, List.getElem?_cons_zero, List.getElem?_cons_succ] at b0 b1 b2 b3 b4 b5 b6 b7 b8 b9
  refine wp_region_mix1 5 (by kernel_rfl) (by kernel_rfl) ?_
  simp only [List.take_succ_cons, List.take_zero, List.drop_succ_cons, List.drop_zero]
  repeat (go_big_quiet_step ((fail)))
  refine wpQuiet_nil ?_
  intro _ hw'
  obtain ⟨nq, hw''⟩ := hw'
  subst hw''
  have HT := Lib.hid (HT.out.drewN nq)
  go_wp2_with fail
  refine (DoesG.use (HN.out) (HT.out) [1] rfl rfl).mono ?_
  rintro e w1 ⟨gs, ⟨rfl, g', hx', rfl⟩, Ta⟩
  simp only [putG, List.set_cons_zero, List.set_cons_succ, List.cons_append, List.nil_append, List.append_nil] at Ta
  have HX := Lib.hid hx'
  clear hx'
  have HT := Lib.hid Ta
  clear Ta
  go_wp2_with fail
  refine ⟨rfl, ?_⟩
  go_wp2
  exact bodyPost_end (results_none rfl _ _ _) rfl ⟨_, ⟨rfl, g', HX.out, rfl⟩, HT.out.pick [0, 1] rfl⟩
set_option maxRecDepth 100000 in
theorem sEndsS (L : Lay) (kb : Nat) (pv : Value) : DoesG Tryz.prog 117 #[ptr' kb] [] fun en gs => ∃ g' l, SRS L kb pv (.row1 .ends1) en g' l ∧ gs = [g', l] := by
  intro w hw
  have T0 := TG.refl hw
  have HT := Lib.hid T0
  clear hw T0
  go_enter Tryz.func117, Tryz.ntmps117
  go_wp2_with fail
  refine (DoesG.use (Cli.row_1 (b := w.heap.size + 1 + 1) (o := 0) (D := #[.func (.func 141) #[] #[ptr' w.heap.size]]) rfl 1 (.inl rfl)) (((HT.out.alloc (k := w.heap.size) rfl _ _).alloc (k := w.heap.size + 1) (by simp) _ _).alloc (k := w.heap.size + 1 + 1) (by simp) _ _) [2] rfl rfl).mono ?_
  rintro e w1 ⟨gs, ⟨bf, bl, bi, rfl, rfl⟩, Ta⟩
  simp only [putG, List.set_cons_zero, List.set_cons_succ, List.cons_append, List.nil_append, List.append_nil] at Ta
  have HT := Lib.hid Ta
  clear Ta
  have e0 := HT.out.cell 1 0 rfl 0
  have fe0 := HT.out.free 1 0 rfl 0
  have e1 := HT.out.cell 1 0 rfl 1
  have fe1 := HT.out.free 1 0 rfl 1
  simp only [List.getElem?_nil, List.getElem?_toArray, List.getElem?_cons_zero, List.getElem?_cons_succ] at e0 e1
  go_wp2
  exact bodyPost_ret (v := .agg #[.nilFunc, _]) (by simp [results, Tryz.results117, go_sem, e0, e1]) rfl ⟨_, ⟨_, [cl w.heap.size 75 #[ptr' kb]], ⟨_, _, rfl, fun e he => ⟨rfl, bf, bl, bi, w.heap.size + 1 + 1, 0, #[.func (.func 141) #[] #[ptr' w.heap.size]], _, [], rfl, ⟨rfl, w.heap.size, rfl, he _ (by simp)⟩, rfl, rfl⟩⟩, rfl⟩, (((HT.out.set 1 0 rfl 0 _).set 1 0 rfl 1 _).pick [2, 3, 4, 5, 0] rfl).sum (fun n ha h0 h1 h2 => by simp only [pickG, List.map_cons, List.map_nil, List.getD_cons_succ, List.getD_cons_zero, List.set_cons_succ, List.set_cons_zero, List.cons_append, List.flatten_append, List.flatten_cons, List.flatten_nil, List.append_nil, List.nil_append, ha, h0, h1, h2] <;> omega)⟩
set_option maxRecDepth 100000 in
theorem sLooksS (L : Lay) (kb : Nat) (pv : Value) (i : Int) : DoesG Tryz.prog 147 #[ptr' kb, .int .i64 i] [] fun en gs => ∃ g' l, SRS L kb pv (looksS i) en g' l ∧ gs = [g', l] := by
  intro w hw
  have T0 := TG.refl hw
  have HT := Lib.hid T0
  clear hw T0
  go_enter Tryz.func147, Tryz.ntmps147
  go_wp2
  exact bodyPost_ret (v := .agg #[.nilFunc, _]) (by simp [results, Tryz.results147, go_sem]) rfl ⟨_, ⟨[], [cl w.heap.size 75 #[ptr' kb], cl (w.heap.size + 1) 3 #[.int .i64 i]], ⟨_, _, rfl, fun e he => ⟨rfl, rfl, w.heap.size, w.heap.size + 1, rfl, he _ (by simp), he _ (by simp)⟩⟩, rfl⟩, (((HT.out.alloc (k := w.heap.size) rfl _ _).alloc (k := w.heap.size + 1) (by simp) _ _).alloc0 _).sum (fun n ha h0 h1 h2 => by simp only [pickG, List.map_cons, List.map_nil, List.getD_cons_succ, List.getD_cons_zero, List.set_cons_succ, List.set_cons_zero, List.cons_append, List.flatten_append, List.flatten_cons, List.flatten_nil, List.append_nil, List.nil_append, ha, h0, h1, h2] <;> omega)⟩
end
end Go.Proofs.YthbjaoinklhikaaGreat
