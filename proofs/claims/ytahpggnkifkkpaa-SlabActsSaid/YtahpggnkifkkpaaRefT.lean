import Derived.Test.YtahpggnkifkkpaaRefS
import Derived.Test.YtahpggnkifkkpaaSlabL
import Derived.Test.YtahpggnkifkkpaaQuiet
import Derived.Deep.DeepCutAuto
namespace Go.Proofs.Ytahpggnkifkkpaa
set_option linter.unusedVariables false
set_option linter.unusedSimpArgs false
open Go.RowKit Go.Shelf

/-! ## same: a slab and the document's -/
theorem refSlot_c {vb : Nat} {s : SlabS} {qs : List Req} {gV gL gQ : List Blk} {id v : Int} (E : s.rslot id = v) (h : RefS vb s qs gV gL gQ) (hn : s.recs.length ≤ 64) (h0 : 0 ≤ id) (h1 : id < 18446744073709551616) :
    DoesG Try.prog 40 #[ptr vb, .int .u64 id] [gV, gL] fun e gs => e = .returned (.int .i64 v) ∧ gs = [gV, gL] := by
  have := (refSlot_r h hn id h0 h1).does; rwa [E] at this
theorem slabPeriod_c {sb : Nat} {s : SlabS} {g : List Blk} {v k : Int} (E : s.period k = v) (hg : isSlab sb s g) (hn : s.recs.length ≤ 64) : DoesG Try.prog 27 #[ptr sb, .int .i64 k] [g] fun e gs => e = .returned (.int .u64 v) ∧ ∃ g', isSlab sb s g' ∧ gs = [g'] := by
  have := slabPeriod_g hg hn k; rwa [E] at this
theorem rec_c {h H : GH} {w w' : World} (T : TG h w H w') (i : Nat) {lb : Nat} {rs : List Rec} (hi : H.getD i [] = [cl lb 66 (rs.flatMap recV).toArray]) {k : Nat} (hk : k < rs.length) {r : Rec} (hr : rs.getD k Rec.zero = r) :
    w'.cell? ⟨lb, k * 3, none⟩ = some (.int .u64 r.w) ∧ w'.cell? ⟨lb, k * 3 + 1, none⟩ = some (.int .u64 r.g) ∧ w'.cell? ⟨lb, k * 3 + 2, none⟩ = some (.int .u64 r.p) := by
  obtain ⟨r', hr', h⟩ := rec_at T i hi hk
  rw [hr] at hr'
  subst hr'
  exact h
def SameCut (sb vb : Nat) (s : SlabS) (w : World) (g gV gL : List Blk) (t : Value) (w' : World) : Prop := t = .bool false ∧ ∃ g', isSlab sb s g' ∧ TG [g, gV, gL] w [g', gV, gL] w'
set_option maxRecDepth 100000 in
set_option maxHeartbeats 8000000 in
theorem same_g {sb vb : Nat} {s : SlabS} {qs : List Req} {g gV gL gQ : List Blk} (hS : isSlab sb s g) (hV : RefS vb s qs gV gL gQ) (hs : SlabOk s) (id : Int) (h0 : 0 ≤ id) (h1 : id < 18446744073709551616) (slot : Int) :
    DoesG Try.prog 26 #[ptr sb, ptr vb, .int .u64 id, .int .i64 slot] [g, gV, gL] fun e gs => e = .returned (.bool true) ∧ ∃ g', isSlab sb s g' ∧ gs = [g', gV, gL] := by
  have hn := hs.n1
  have hn0 := hs.n0
  obtain ⟨lb, rv, hgv, hgl⟩ := hV.recs
  subst hgv hgl
  intro w hw
  have T0 := TG.refl hw
  have HT := Lib.hid T0
  clear hw T0
  have HV := Lib.hid hV
  have HS := Lib.hid hS
  have HN := Lib.hid hn
  clear hV hs hS
  -- the first test
  obtain ⟨x, hx⟩ : ∃ x, s.slot id = x := ⟨_, rfl⟩
  obtain ⟨y, hy⟩ : ∃ y, s.serr id = y := ⟨_, rfl⟩
  obtain ⟨z, hz⟩ : ∃ z, s.rslot id = z := ⟨_, rfl⟩
  have hxyz : (s.known id ∧ x = id % 64 ∧ y = 0 ∧ z = id % 64) ∨ (¬ s.known id ∧ x = 0 ∧ y = 1 ∧ z = -1) := by
    by_cases hk : s.known id
    · exact .inl ⟨hk, hx.symm.trans (if_pos hk), hy.symm.trans (if_pos hk), hz.symm.trans (if_pos hk)⟩
    · exact .inr ⟨hk, hx.symm.trans (if_neg hk), hy.symm.trans (if_neg hk), hz.symm.trans (if_neg hk)⟩
  have HXYZ := Lib.hid hxyz
  have HX := Lib.hid hx
  have HY := Lib.hid hy
  have HZ := Lib.hid hz
  clear hx hy hz hxyz
  go_enter Try.func26, Try.ntmps26
  go_wp2_with fail
  refine (DoesG.use (slabSlot_c HX.out HY.out HS.out HN.out h0 h1) (HT.out) [0] rfl rfl).mono ?_
  rintro e w1 ⟨gs, ⟨rfl, g1, hg1, rfl⟩, Ta⟩
  simp only [putG, List.set_cons_zero, List.set_cons_succ, List.cons_append, List.nil_append, List.append_nil] at Ta
  have HT := Lib.hid Ta
  clear Ta
  go_wp2_with fail
  refine (DoesG.use (refSlot_c HZ.out HV.out HN.out h0 h1) (HT.out) [1, 2] rfl rfl).mono ?_
  rintro e w1 ⟨gs, ⟨rfl, rfl⟩, Ta⟩
  simp only [putG, List.set_cons_zero, List.set_cons_succ, List.cons_append, List.nil_append, List.append_nil] at Ta
  have HT := Lib.hid Ta
  clear Ta
  go_upto_region 3 with fail
  go_cut [82] (fun t w' => SameCut sb vb s w g [cl vb 61 #[.slice (some ⟨lb, 0, none⟩) s.recs.length s.recs.length, .int .i64 s.count, rv]] [cl lb 66 (s.recs.flatMap recV).toArray] t w')
  case first =>
    rcases HXYZ.out with ⟨hk, h1, h2, h3⟩ | ⟨hk, h1, h2, h3⟩
    · obtain ⟨j, hj⟩ : ∃ j : Nat, id % 64 = j := Int.eq_ofNat_of_zero_le (by omega)
      have hjn : j < s.recs.length := by have := hk.1; omega
      rw [hj] at h1 h3
      subst h1 h2 h3
      obtain ⟨r, hr⟩ : ∃ r, s.recs.getD j Rec.zero = r := ⟨_, rfl⟩
      have HR := Lib.hid hr
      have hd0 : (0 : Int) ≤ id / 64 := by omega
      have j0 : max (j : Int) 0 = j := by omega
      have j1 : decide ((0 : Int) ≤ j) = true := decide_eq_true (by omega)
      have j2 : (0 : Int) ≤ j := by omega
      by_cases hm : r.g = id / 64
      · have HM := Lib.hid (show s.mine id = true by unfold SlabS.mine; simp only [hj, Int.toNat_natCast, hr, hk, hm, decide_true, Bool.and_self])
        have mb : (r.g == id / 64) = true := beq_iff_eq.2 hm
        clear hk hj hm hr
        obtain ⟨ι, W, hW0, hend, hin⟩ : ∃ (ι : Type) (W : ι → World), (∃ i, World.drew _ = W i) ∧ (∀ i, ∃ gx, isSlab sb s gx ∧ TG [g, [cl vb 61 #[.slice (some ⟨lb, 0, none⟩) s.recs.length s.recs.length, .int .i64 s.count, rv]], [cl lb 66 (s.recs.flatMap recV).toArray]] w [gx, [cl vb 61 #[.slice (some ⟨lb, 0, none⟩) s.recs.length s.recs.length, .int .i64 s.count, rv]], [cl lb 66 (s.recs.flatMap recV).toArray]] (W i)) ∧ (∀ w', (∃ gx, isSlab sb s gx ∧ TG [g, [cl vb 61 #[.slice (some ⟨lb, 0, none⟩) s.recs.length s.recs.length, .int .i64 s.count, rv]], [cl lb 66 (s.recs.flatMap recV).toArray]] w [gx, [cl vb 61 #[.slice (some ⟨lb, 0, none⟩) s.recs.length s.recs.length, .int .i64 s.count, rv]], [cl lb 66 (s.recs.flatMap recV).toArray]] w') → ∃ i, w' = W i) := ⟨{w' // ∃ gx, isSlab sb s gx ∧ TG [g, [cl vb 61 #[.slice (some ⟨lb, 0, none⟩) s.recs.length s.recs.length, .int .i64 s.count, rv]], [cl lb 66 (s.recs.flatMap recV).toArray]] w [gx, [cl vb 61 #[.slice (some ⟨lb, 0, none⟩) s.recs.length s.recs.length, .int .i64 s.count, rv]], [cl lb 66 (s.recs.flatMap recV).toArray]] w'}, Subtype.val, ⟨⟨_, g1, hg1, HT.out.drew⟩, rfl⟩, fun i => i.2, fun w' h => ⟨⟨w', h⟩, rfl⟩⟩
        have hne : Nonempty ι := hW0.elim fun i _ => ⟨i⟩
        have q0 : ∀ i, (W i).cell? ⟨vb, 0, none⟩ = some (.slice (some ⟨lb, 0, none⟩) s.recs.length s.recs.length) := fun i => by obtain ⟨_, _, T⟩ := hend i; exact T.cell 1 0 rfl 0
        have q1 : ∀ i, (W i).cell? ⟨vb, 1, none⟩ = some (.int .i64 s.count) := fun i => by obtain ⟨_, _, T⟩ := hend i; exact T.cell 1 0 rfl 1
        have m1 : ∀ i, Calls Try.prog 16 #[ptr sb, .int .u64 id] (W i) fun e w2 => e = .returned (.bool true) ∧ ∃ j, w2 = W j := fun i => by
          obtain ⟨_, hg, T⟩ := hend i
          refine (DoesG.use (slabMine_c HM.out hg HN.out h0 h1) T [0] rfl rfl).mono ?_
          rintro e w2 ⟨gs, ⟨rfl, g3, hg3, rfl⟩, T2⟩
          exact ⟨rfl, hin _ ⟨g3, hg3, T2⟩⟩
        have m2 : ∀ i, Calls Try.prog 12 #[ptr sb] (W i) fun e w2 => e = .returned (.int .i64 s.count) ∧ ∃ j, w2 = W j := fun i => by
          obtain ⟨_, hg, T⟩ := hend i
          refine (DoesG.use (slabCount_g hg) T [0] rfl rfl).mono ?_
          rintro e w2 ⟨gs, ⟨rfl, g3, hg3, rfl⟩, T2⟩
          exact ⟨rfl, hin _ ⟨g3, hg3, T2⟩⟩
        have q2 : ∀ i, (W i).cell? ⟨lb, j * 3 + 1, none⟩ = some (.int .u64 r.g) := fun i => by obtain ⟨_, _, T⟩ := hend i; exact (rec_c T 2 rfl hjn HR.out).2.1
        refine wp_region_cls W (by kernel_rfl) (by kernel_rfl) hW0 ?_
        repeat (go_big_quiet_step ((first | (go_at_call 16; with_reducible exact m1 _) | (go_at_call 12; with_reducible exact m2 _))))
        refine wpQuiet_nil ?_
        intro _ hw
        obtain ⟨iq, hw2⟩ := hw
        subst hw2
        obtain ⟨g4, hg4, T⟩ := hend iq
        have HT := Lib.hid T
        generalize W iq = w1 at HT ⊢
        clear T hend hin hW0 hne
        go_wp2_with fail
        go_meet
        exact ⟨rfl, g4, hg4, HT.out⟩
      · have HM := Lib.hid (show s.mine id = false by unfold SlabS.mine; simp only [hj, Int.toNat_natCast, hr, hk, hm, decide_true, decide_false, Bool.and_false])
        have mb : (r.g == id / 64) = false := beq_eq_false_iff_ne.2 hm
        clear hk hj hm hr
        obtain ⟨ι, W, hW0, hend, hin⟩ : ∃ (ι : Type) (W : ι → World), (∃ i, World.drew _ = W i) ∧ (∀ i, ∃ gx, isSlab sb s gx ∧ TG [g, [cl vb 61 #[.slice (some ⟨lb, 0, none⟩) s.recs.length s.recs.length, .int .i64 s.count, rv]], [cl lb 66 (s.recs.flatMap recV).toArray]] w [gx, [cl vb 61 #[.slice (some ⟨lb, 0, none⟩) s.recs.length s.recs.length, .int .i64 s.count, rv]], [cl lb 66 (s.recs.flatMap recV).toArray]] (W i)) ∧ (∀ w', (∃ gx, isSlab sb s gx ∧ TG [g, [cl vb 61 #[.slice (some ⟨lb, 0, none⟩) s.recs.length s.recs.length, .int .i64 s.count, rv]], [cl lb 66 (s.recs.flatMap recV).toArray]] w [gx, [cl vb 61 #[.slice (some ⟨lb, 0, none⟩) s.recs.length s.recs.length, .int .i64 s.count, rv]], [cl lb 66 (s.recs.flatMap recV).toArray]] w') → ∃ i, w' = W i) := ⟨{w' // ∃ gx, isSlab sb s gx ∧ TG [g, [cl vb 61 #[.slice (some ⟨lb, 0, none⟩) s.recs.length s.recs.length, .int .i64 s.count, rv]], [cl lb 66 (s.recs.flatMap recV).toArray]] w [gx, [cl vb 61 #[.slice (some ⟨lb, 0, none⟩) s.recs.length s.recs.length, .int .i64 s.count, rv]], [cl lb 66 (s.recs.flatMap recV).toArray]] w'}, Subtype.val, ⟨⟨_, g1, hg1, HT.out.drew⟩, rfl⟩, fun i => i.2, fun w' h => ⟨⟨w', h⟩, rfl⟩⟩
        have hne : Nonempty ι := hW0.elim fun i _ => ⟨i⟩
        have q0 : ∀ i, (W i).cell? ⟨vb, 0, none⟩ = some (.slice (some ⟨lb, 0, none⟩) s.recs.length s.recs.length) := fun i => by obtain ⟨_, _, T⟩ := hend i; exact T.cell 1 0 rfl 0
        have q1 : ∀ i, (W i).cell? ⟨vb, 1, none⟩ = some (.int .i64 s.count) := fun i => by obtain ⟨_, _, T⟩ := hend i; exact T.cell 1 0 rfl 1
        have m1 : ∀ i, Calls Try.prog 16 #[ptr sb, .int .u64 id] (W i) fun e w2 => e = .returned (.bool false) ∧ ∃ j, w2 = W j := fun i => by
          obtain ⟨_, hg, T⟩ := hend i
          refine (DoesG.use (slabMine_c HM.out hg HN.out h0 h1) T [0] rfl rfl).mono ?_
          rintro e w2 ⟨gs, ⟨rfl, g3, hg3, rfl⟩, T2⟩
          exact ⟨rfl, hin _ ⟨g3, hg3, T2⟩⟩
        have m2 : ∀ i, Calls Try.prog 12 #[ptr sb] (W i) fun e w2 => e = .returned (.int .i64 s.count) ∧ ∃ j, w2 = W j := fun i => by
          obtain ⟨_, hg, T⟩ := hend i
          refine (DoesG.use (slabCount_g hg) T [0] rfl rfl).mono ?_
          rintro e w2 ⟨gs, ⟨rfl, g3, hg3, rfl⟩, T2⟩
          exact ⟨rfl, hin _ ⟨g3, hg3, T2⟩⟩
        have q2 : ∀ i, (W i).cell? ⟨lb, j * 3 + 1, none⟩ = some (.int .u64 r.g) := fun i => by obtain ⟨_, _, T⟩ := hend i; exact (rec_c T 2 rfl hjn HR.out).2.1
        refine wp_region_cls W (by kernel_rfl) (by kernel_rfl) hW0 ?_
        repeat (go_big_quiet_step ((first | (go_at_call 16; with_reducible exact m1 _) | (go_at_call 12; with_reducible exact m2 _))))
        refine wpQuiet_nil ?_
        intro _ hw
        obtain ⟨iq, hw2⟩ := hw
        subst hw2
        obtain ⟨g4, hg4, T⟩ := hend iq
        have HT := Lib.hid T
        generalize W iq = w1 at HT ⊢
        clear T hend hin hW0 hne
        go_wp2_with fail
        go_meet
        exact ⟨rfl, g4, hg4, HT.out⟩
    · subst h1 h2 h3
      have HM := Lib.hid (show s.mine id = false by unfold SlabS.mine; rw [decide_eq_false hk, Bool.false_and])
      clear hk
      obtain ⟨ι, W, hW0, hend, hin⟩ : ∃ (ι : Type) (W : ι → World), (∃ i, World.drew _ = W i) ∧ (∀ i, ∃ gx, isSlab sb s gx ∧ TG [g, [cl vb 61 #[.slice (some ⟨lb, 0, none⟩) s.recs.length s.recs.length, .int .i64 s.count, rv]], [cl lb 66 (s.recs.flatMap recV).toArray]] w [gx, [cl vb 61 #[.slice (some ⟨lb, 0, none⟩) s.recs.length s.recs.length, .int .i64 s.count, rv]], [cl lb 66 (s.recs.flatMap recV).toArray]] (W i)) ∧ (∀ w', (∃ gx, isSlab sb s gx ∧ TG [g, [cl vb 61 #[.slice (some ⟨lb, 0, none⟩) s.recs.length s.recs.length, .int .i64 s.count, rv]], [cl lb 66 (s.recs.flatMap recV).toArray]] w [gx, [cl vb 61 #[.slice (some ⟨lb, 0, none⟩) s.recs.length s.recs.length, .int .i64 s.count, rv]], [cl lb 66 (s.recs.flatMap recV).toArray]] w') → ∃ i, w' = W i) := ⟨{w' // ∃ gx, isSlab sb s gx ∧ TG [g, [cl vb 61 #[.slice (some ⟨lb, 0, none⟩) s.recs.length s.recs.length, .int .i64 s.count, rv]], [cl lb 66 (s.recs.flatMap recV).toArray]] w [gx, [cl vb 61 #[.slice (some ⟨lb, 0, none⟩) s.recs.length s.recs.length, .int .i64 s.count, rv]], [cl lb 66 (s.recs.flatMap recV).toArray]] w'}, Subtype.val, ⟨⟨_, g1, hg1, HT.out.drew⟩, rfl⟩, fun i => i.2, fun w' h => ⟨⟨w', h⟩, rfl⟩⟩
      have hne : Nonempty ι := hW0.elim fun i _ => ⟨i⟩
      have q0 : ∀ i, (W i).cell? ⟨vb, 0, none⟩ = some (.slice (some ⟨lb, 0, none⟩) s.recs.length s.recs.length) := fun i => by obtain ⟨_, _, T⟩ := hend i; exact T.cell 1 0 rfl 0
      have q1 : ∀ i, (W i).cell? ⟨vb, 1, none⟩ = some (.int .i64 s.count) := fun i => by obtain ⟨_, _, T⟩ := hend i; exact T.cell 1 0 rfl 1
      have m1 : ∀ i, Calls Try.prog 16 #[ptr sb, .int .u64 id] (W i) fun e w2 => e = .returned (.bool false) ∧ ∃ j, w2 = W j := fun i => by
        obtain ⟨_, hg, T⟩ := hend i
        refine (DoesG.use (slabMine_c HM.out hg HN.out h0 h1) T [0] rfl rfl).mono ?_
        rintro e w2 ⟨gs, ⟨rfl, g3, hg3, rfl⟩, T2⟩
        exact ⟨rfl, hin _ ⟨g3, hg3, T2⟩⟩
      have m2 : ∀ i, Calls Try.prog 12 #[ptr sb] (W i) fun e w2 => e = .returned (.int .i64 s.count) ∧ ∃ j, w2 = W j := fun i => by
        obtain ⟨_, hg, T⟩ := hend i
        refine (DoesG.use (slabCount_g hg) T [0] rfl rfl).mono ?_
        rintro e w2 ⟨gs, ⟨rfl, g3, hg3, rfl⟩, T2⟩
        exact ⟨rfl, hin _ ⟨g3, hg3, T2⟩⟩
      refine wp_region_cls W (by kernel_rfl) (by kernel_rfl) hW0 ?_
      repeat (go_big_quiet_step ((first | (go_at_call 16; with_reducible exact m1 _) | (go_at_call 12; with_reducible exact m2 _))))
      refine wpQuiet_nil ?_
      intro _ hw
      obtain ⟨iq, hw2⟩ := hw
      subst hw2
      obtain ⟨g4, hg4, T⟩ := hend iq
      have HT := Lib.hid T
      generalize W iq = w1 at HT ⊢
      clear T hend hin hW0 hne
      go_wp2_with fail
      go_meet
      exact ⟨rfl, g4, hg4, HT.out⟩
  case rest =>
    obtain ⟨rfl, g2, hg2, T⟩ := hcut
    have HR := Lib.hid (show ∃ g', isSlab sb s g' ∧ TG [g, [cl vb 61 #[.slice (some ⟨lb, 0, none⟩) s.recs.length s.recs.length, .int .i64 s.count, rv]], [cl lb 66 (s.recs.flatMap recV).toArray]] w [g', [cl vb 61 #[.slice (some ⟨lb, 0, none⟩) s.recs.length s.recs.length, .int .i64 s.count, rv]], [cl lb 66 (s.recs.flatMap recV).toArray]] wc from ⟨g2, hg2, T⟩)
    have q1 := T.cell 1 0 rfl
    clear hg1 hg2 T
    go_wp2
    go_loopw [12] (fun i wr => ∃ k : Nat, k ≤ s.recs.length ∧ i = .int .i64 k ∧ ∃ g', isSlab sb s g' ∧ TG [g, [cl vb 61 #[.slice (some ⟨lb, 0, none⟩) s.recs.length s.recs.length, .int .i64 s.count, rv]], [cl lb 66 (s.recs.flatMap recV).toArray]] w [g', [cl vb 61 #[.slice (some ⟨lb, 0, none⟩) s.recs.length s.recs.length, .int .i64 s.count, rv]], [cl lb 66 (s.recs.flatMap recV).toArray]] wr) (fun i _ => s.recs.length - (intOf i).toNat)
    case atStart => exact ⟨0, Nat.zero_le _, rfl, HR.out⟩
    case round =>
      obtain ⟨k, hk, rfl, g3, hg3, T⟩ := hrel
      have HT := Lib.hid T
      have q1 := T.cell 1 0 rfl
      clear T
      by_cases hlt : k < s.recs.length
      · obtain ⟨r, hr⟩ : ∃ r, s.recs.getD k Rec.zero = r := ⟨_, rfl⟩
        have HRR := Lib.hid hr
        have hh : s.has k := ⟨by omega, by omega⟩
        have H1 := Lib.hid (show s.word k = r.w by unfold SlabS.word; rw [if_pos hh, Int.toNat_natCast, hr])
        have H2 := Lib.hid (show s.werr k = 0 from if_pos hh)
        have H3 := Lib.hid (show s.period k = r.p by unfold SlabS.period; rw [if_pos hh, Int.toNat_natCast, hr])
        clear hr hh
        go_wp2_with fail
        refine (DoesG.use (slabWord_c H1.out H2.out hg3 HN.out) (HT.out) [0] rfl rfl).mono ?_
        rintro e w1 ⟨gs, ⟨rfl, g4, hg4, rfl⟩, Ta⟩
        simp only [putG, List.set_cons_zero, List.set_cons_succ, List.cons_append, List.nil_append, List.append_nil] at Ta
        have HT := Lib.hid Ta
        clear Ta
        clear q1
        go_upto_region 9 with fail
        obtain ⟨ι, W, hW0, hend, hin⟩ : ∃ (ι : Type) (W : ι → World), (∃ i, World.drew _ = W i) ∧ (∀ i, ∃ gx, isSlab sb s gx ∧ TG [g, [cl vb 61 #[.slice (some ⟨lb, 0, none⟩) s.recs.length s.recs.length, .int .i64 s.count, rv]], [cl lb 66 (s.recs.flatMap recV).toArray]] w [gx, [cl vb 61 #[.slice (some ⟨lb, 0, none⟩) s.recs.length s.recs.length, .int .i64 s.count, rv]], [cl lb 66 (s.recs.flatMap recV).toArray]] (W i)) ∧ (∀ w', (∃ gx, isSlab sb s gx ∧ TG [g, [cl vb 61 #[.slice (some ⟨lb, 0, none⟩) s.recs.length s.recs.length, .int .i64 s.count, rv]], [cl lb 66 (s.recs.flatMap recV).toArray]] w [gx, [cl vb 61 #[.slice (some ⟨lb, 0, none⟩) s.recs.length s.recs.length, .int .i64 s.count, rv]], [cl lb 66 (s.recs.flatMap recV).toArray]] w') → ∃ i, w' = W i) := ⟨{w' // ∃ gx, isSlab sb s gx ∧ TG [g, [cl vb 61 #[.slice (some ⟨lb, 0, none⟩) s.recs.length s.recs.length, .int .i64 s.count, rv]], [cl lb 66 (s.recs.flatMap recV).toArray]] w [gx, [cl vb 61 #[.slice (some ⟨lb, 0, none⟩) s.recs.length s.recs.length, .int .i64 s.count, rv]], [cl lb 66 (s.recs.flatMap recV).toArray]] w'}, Subtype.val, ⟨⟨_, g4, hg4, HT.out.drew⟩, rfl⟩, fun i => i.2, fun w' h => ⟨⟨w', h⟩, rfl⟩⟩
        have hne : Nonempty ι := hW0.elim fun i _ => ⟨i⟩
        have q0 : ∀ i, (W i).cell? ⟨vb, 0, none⟩ = some (.slice (some ⟨lb, 0, none⟩) s.recs.length s.recs.length) := fun i => by obtain ⟨_, _, T⟩ := hend i; exact T.cell 1 0 rfl 0
        have q2 : ∀ i, (W i).cell? ⟨lb, k * 3, none⟩ = some (.int .u64 r.w) := fun i => by obtain ⟨_, _, T⟩ := hend i; exact (rec_c T 2 rfl hlt HRR.out).1
        have q3 : ∀ i, (W i).cell? ⟨lb, k * 3 + 2, none⟩ = some (.int .u64 r.p) := fun i => by obtain ⟨_, _, T⟩ := hend i; exact (rec_c T 2 rfl hlt HRR.out).2.2
        have m1 : ∀ i, Calls Try.prog 27 #[ptr sb, .int .i64 k] (W i) fun e w2 => e = .returned (.int .u64 r.p) ∧ ∃ j, w2 = W j := fun i => by
          obtain ⟨_, hg, T⟩ := hend i
          refine (DoesG.use (slabPeriod_c H3.out hg HN.out) T [0] rfl rfl).mono ?_
          rintro e w2 ⟨gs, ⟨rfl, g5, hg5, rfl⟩, T2⟩
          exact ⟨rfl, hin _ ⟨g5, hg5, T2⟩⟩
        refine wp_region_cls W (by kernel_rfl) (by kernel_rfl) hW0 ?_
        repeat (go_big_quiet_step ((first | (go_at_call 27; with_reducible exact m1 _))))
        refine wpQuiet_nil ?_
        intro _ hw
        obtain ⟨iq, hw2⟩ := hw
        subst hw2
        obtain ⟨g6, hg6, T⟩ := hend iq
        have HT := Lib.hid T
        generalize W iq = w1 at HT ⊢
        clear T hend hin hW0 hne
        go_wp2
        go_roundw
        case rel => exact ⟨k + 1, by omega, by go_num, g6, hg6, HT.out⟩
        case measure => simp [intOf]; omega
      · by_cases hs1 : 0 ≤ slot
        · by_cases hs2 : slot < s.recs.length
          · have d0 : decide (0 ≤ slot) = true := decide_eq_true hs1
            have d1 : decide (slot < (s.recs.length : Int)) = true := decide_eq_true hs2
            go_wp2
            go_ret
            exact ⟨_, ⟨rfl, g3, hg3, rfl⟩, HT.out⟩
          · have hh : ¬ s.has slot := fun h => hs2 h.2
            have H1 := Lib.hid (show s.word slot = 0 from if_neg hh)
            have H2 := Lib.hid (show s.werr slot = 4 from if_neg hh)
            have H3 := Lib.hid (show s.period slot = 0 from if_neg hh)
            have d0 : decide (0 ≤ slot) = true := decide_eq_true hs1
            have d1 : decide (slot < (s.recs.length : Int)) = false := decide_eq_false hs2
            clear hh
            go_wp2_with fail
            refine (DoesG.use (slabWord_c H1.out H2.out hg3 HN.out) (HT.out) [0] rfl rfl).mono ?_
            rintro e w1 ⟨gs, ⟨rfl, g4, hg4, rfl⟩, Ta⟩
            simp only [putG, List.set_cons_zero, List.set_cons_succ, List.cons_append, List.nil_append, List.append_nil] at Ta
            have HT := Lib.hid Ta
            clear Ta
            go_wp2_with fail
            refine (DoesG.use (slabPeriod_c H3.out hg4 HN.out) (HT.out) [0] rfl rfl).mono ?_
            rintro e w1 ⟨gs, ⟨rfl, g5, hg5, rfl⟩, Ta⟩
            simp only [putG, List.set_cons_zero, List.set_cons_succ, List.cons_append, List.nil_append, List.append_nil] at Ta
            have HT := Lib.hid Ta
            clear Ta
            go_wp2
            go_ret
            exact ⟨_, ⟨rfl, g5, hg5, rfl⟩, HT.out⟩
        · have hh : ¬ s.has slot := fun h => hs1 h.1
          have H1 := Lib.hid (show s.word slot = 0 from if_neg hh)
          have H2 := Lib.hid (show s.werr slot = 4 from if_neg hh)
          have H3 := Lib.hid (show s.period slot = 0 from if_neg hh)
          have d0 : decide (0 ≤ slot) = false := decide_eq_false hs1
          clear hh
          go_wp2_with fail
          refine (DoesG.use (slabWord_c H1.out H2.out hg3 HN.out) (HT.out) [0] rfl rfl).mono ?_
          rintro e w1 ⟨gs, ⟨rfl, g4, hg4, rfl⟩, Ta⟩
          simp only [putG, List.set_cons_zero, List.set_cons_succ, List.cons_append, List.nil_append, List.append_nil] at Ta
          have HT := Lib.hid Ta
          clear Ta
          go_wp2_with fail
          refine (DoesG.use (slabPeriod_c H3.out hg4 HN.out) (HT.out) [0] rfl rfl).mono ?_
          rintro e w1 ⟨gs, ⟨rfl, g5, hg5, rfl⟩, Ta⟩
          simp only [putG, List.set_cons_zero, List.set_cons_succ, List.cons_append, List.nil_append, List.append_nil] at Ta
          have HT := Lib.hid Ta
          clear Ta
          go_wp2
          go_ret
          exact ⟨_, ⟨rfl, g5, hg5, rfl⟩, HT.out⟩
end Go.Proofs.Ytahpggnkifkkpaa
