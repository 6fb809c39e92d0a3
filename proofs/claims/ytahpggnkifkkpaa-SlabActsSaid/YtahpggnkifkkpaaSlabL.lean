import Derived.Test.YtahpggnkifkkpaaSlabX
namespace Go.Proofs.Ytahpggnkifkkpaa
set_option linter.unusedVariables false
set_option linter.unusedSimpArgs false
open Go.RowKit

/-! ## Contracts at known states; the example of the document -/
def recOkB (r : Rec) : Bool := decide (0 ≤ r.w) && decide (r.w < 18446744073709551616) && okW r.w && decide (0 ≤ r.g) && decide (r.g ≤ genW r.w) && decide (0 ≤ r.p) && decide (r.p < 18446744073709551616)
def slabOkB (s : SlabS) : Bool := decide (1 ≤ s.recs.length) && decide (s.recs.length ≤ 64) && decide (0 ≤ s.count) && decide (s.count ≤ s.recs.length) && s.recs.all recOkB
theorem SlabOk.of {s : SlabS} (h : slabOkB s = true) : SlabOk s := by
  simp only [slabOkB, recOkB, Bool.and_eq_true, decide_eq_true_eq, List.all_eq_true] at h
  obtain ⟨⟨⟨⟨a, b⟩, c⟩, d⟩, e⟩ := h
  refine ⟨a, b, c, d, fun r hr => ?_⟩
  obtain ⟨⟨⟨⟨⟨⟨h1, h2⟩, h3⟩, h4⟩, h5⟩, h6⟩, h7⟩ := e r hr
  exact ⟨h1, h2, h3, h4, h5, h6, h7⟩
def reqOkB (n : Nat) (q : Req) : Bool := decide (0 ≤ q.p) && decide (q.p < 18446744073709551616) && decide (0 ≤ q.slot) && decide (q.slot < n) && (decide (q.next = 0) || (decide (q.next = 1) && decide (0 ≤ q.saw) && decide (q.saw < n)) || decide (q.next = 2))
theorem ReqOk.of {n : Nat} {q : Req} (h : reqOkB n q = true) : ReqOk n q := by
  simp only [reqOkB, Bool.and_eq_true, Bool.or_eq_true, decide_eq_true_eq] at h
  obtain ⟨⟨⟨⟨a, b⟩, c⟩, d⟩, (e | ⟨⟨e, f⟩, k⟩) | e⟩ := h
  · exact ⟨a, b, c, d, .inl e⟩
  · exact ⟨a, b, c, d, .inr (.inl ⟨e, f, k⟩)⟩
  · exact ⟨a, b, c, d, .inr (.inr e)⟩
section
variable {sb : Nat} {s s' : SlabS} {g : List Blk}
theorem reqStep_c {qb : Nat} {q : Req} (q' : Req) (E : stepR s q = (s', q')) (hg : isSlab sb s g) (hs : SlabOk s) (hq : ReqOk s.recs.length q) :
    DoesG Try.prog 14 #[ptr qb] [reqG qb sb q, g] fun e gs => e = .returned (.int .i64 q'.st) ∧ ∃ g', isSlab sb s' g' ∧ gs = [reqG qb sb q', g'] := by
  have := reqStep_g qb q hg hs hq
  rwa [E] at this
theorem reqId_held (qb sb : Nat) (q : Req) (h : q.st = 2) : DoesG Try.prog 15 #[ptr qb] [reqG qb sb q] fun e gs => e = .returned (.tuple #[.int .u64 q.id, .int .i64 0]) ∧ gs = [reqG qb sb q] := by
  have := reqId_g qb sb q; rwa [if_pos h, if_pos h] at this
theorem reqId_c {v : Int} (qb sb : Nat) (q : Req) (h : q.st = 2) (e1 : q.id = v) : DoesG Try.prog 15 #[ptr qb] [reqG qb sb q] fun e gs => e = .returned (.tuple #[.int .u64 v, .int .i64 0]) ∧ gs = [reqG qb sb q] := by
  have := reqId_held qb sb q h; rwa [e1] at this
theorem reqId_not (qb sb : Nat) (q : Req) (h : q.st ≠ 2) : DoesG Try.prog 15 #[ptr qb] [reqG qb sb q] fun e gs => e = .returned (.tuple #[.int .u64 0, .int .i64 7]) ∧ gs = [reqG qb sb q] := by
  have := reqId_g qb sb q; rwa [if_neg h, if_neg h] at this
theorem slabWord_c {v x : Int} {k : Int} (e1 : s.word k = v) (e2 : s.werr k = x) (hg : isSlab sb s g) (hn : s.recs.length ≤ 64) : DoesG Try.prog 17 #[ptr sb, .int .i64 k] [g] fun e gs => e = .returned (.tuple #[.int .u64 v, .int .i64 x]) ∧ ∃ g', isSlab sb s g' ∧ gs = [g'] := by
  have := slabWord_g hg hn k; rwa [e1, e2] at this
theorem slabMine_c {v : Bool} {id : Int} (E : s.mine id = v) (hg : isSlab sb s g) (hn : s.recs.length ≤ 64) (h0 : 0 ≤ id) (h1 : id < 18446744073709551616) : DoesG Try.prog 16 #[ptr sb, .int .u64 id] [g] fun e gs => e = .returned (.bool v) ∧ ∃ g', isSlab sb s g' ∧ gs = [g'] := by
  have := slabMine_g hg hn id h0 h1; rwa [E] at this
theorem slabSlot_c {v x : Int} {id : Int} (e1 : s.slot id = v) (e2 : s.serr id = x) (hg : isSlab sb s g) (hn : s.recs.length ≤ 64) (h0 : 0 ≤ id) (h1 : id < 18446744073709551616) : DoesG Try.prog 20 #[ptr sb, .int .u64 id] [g] fun e gs => e = .returned (.tuple #[.int .i64 v, .int .i64 x]) ∧ ∃ g', isSlab sb s g' ∧ gs = [g'] := by
  have := slabSlot_g hg hn id h0 h1; rwa [e1, e2] at this
theorem slabTry_c {v x : Int} {k old ev : Int} (E : s.try k old ev = (s', v, x)) (hg : isSlab sb s g) (hn : s.recs.length ≤ 64) (h0 : 0 ≤ old) (h1 : old < 18446744073709551616) :
    DoesG Try.prog 19 #[ptr sb, .int .i64 k, .int .u64 old, .int .i64 ev] [g] fun e gs => e = .returned (.tuple #[.int .u64 v, .int .i64 x]) ∧ ∃ g', isSlab sb s' g' ∧ gs = [g'] := by
  have := slabTry_g hg hn k old ev h0 h1
  rwa [E] at this
theorem slabDrop_c {x : Int} (E : s.drop = (s', x)) (hg : isSlab sb s g) (h0 : 0 ≤ s.count) (h1 : s.count ≤ 64) : DoesG Try.prog 24 #[ptr sb] [g] fun e gs => e = .returned (.int .i64 x) ∧ ∃ g', isSlab sb s' g' ∧ gs = [g'] := by
  have := slabDrop_g hg h0 h1
  rwa [E] at this
end

set_option maxRecDepth 100000 in
set_option maxHeartbeats 2000000 in
theorem alive_g : DoesG Try.prog 9 #[] [] fun e gs => e = .returned (.bool true) ∧ gs = [] := by
  intro w hw
  have T0 := TG.refl hw
  have HT := Lib.hid T0
  clear hw T0
  go_enter Try.func9, Try.ntmps9
  go_wp2_with fail
  refine (DoesG.use (slabNew_at 1 (by decide) (by decide)) (HT.out) [] rfl rfl).mono ?_
  rintro e w1 ⟨gs, ⟨sb, g0, rfl, hg0, rfl⟩, Ta⟩
  simp only [putG, List.set_cons_zero, List.set_cons_succ, List.cons_append, List.nil_append, List.append_nil] at Ta
  have HT := Lib.hid Ta
  clear Ta
  go_wp2_with fail
  refine (DoesG.use (slabBegin_g sb 0) (HT.out) [] rfl rfl).mono ?_
  rintro e w1 ⟨gs, ⟨qa, rfl, rfl⟩, Ta⟩
  simp only [putG, List.set_cons_zero, List.set_cons_succ, List.cons_append, List.nil_append, List.append_nil] at Ta
  have HT := Lib.hid Ta
  clear Ta
  go_wp2_with fail
  refine (DoesG.use (slabBegin_g sb 0) (HT.out) [] rfl rfl).mono ?_
  rintro e w1 ⟨gs, ⟨qb, rfl, rfl⟩, Ta⟩
  simp only [putG, List.set_cons_zero, List.set_cons_succ, List.cons_append, List.nil_append, List.append_nil] at Ta
  have HT := Lib.hid Ta
  clear Ta
  go_wp2_with fail
  refine (DoesG.use (reqStep_c ⟨0, 1, 0, 0, 0, 0⟩ (s' := ⟨[Rec.zero], 0⟩) rfl hg0 (.of (by decide)) ⟨by decide, by decide, by decide, by decide, .inl rfl⟩) (HT.out) [1, 0] rfl rfl).mono ?_
  rintro e w1 ⟨gs, ⟨rfl, g1, hg1, rfl⟩, Ta⟩
  simp only [putG, List.set_cons_zero, List.set_cons_succ, List.cons_append, List.nil_append, List.append_nil] at Ta
  have HT := Lib.hid Ta
  clear Ta
  go_wp2_with fail
  refine (DoesG.use (reqStep_c ⟨0, 2, 0, 0, 0, 0⟩ (s' := ⟨[Rec.zero], 1⟩) rfl hg1 (.of (by decide)) ⟨by decide, by decide, by decide, by decide, .inr (.inl (by decide))⟩) (HT.out) [1, 0] rfl rfl).mono ?_
  rintro e w1 ⟨gs, ⟨rfl, g2, hg2, rfl⟩, Ta⟩
  simp only [putG, List.set_cons_zero, List.set_cons_succ, List.cons_append, List.nil_append, List.append_nil] at Ta
  have HT := Lib.hid Ta
  clear Ta
  go_wp2_with fail
  refine (DoesG.use (reqStep_c ⟨0, 2, 0, 0, 64, 2⟩ (s' := ⟨[⟨257, 1, 0⟩], 1⟩) rfl hg2 (.of (by decide)) ⟨by decide, by decide, by decide, by decide, .inr (.inr rfl)⟩) (HT.out) [1, 0] rfl rfl).mono ?_
  rintro e w1 ⟨gs, ⟨rfl, g3, hg3, rfl⟩, Ta⟩
  simp only [putG, List.set_cons_zero, List.set_cons_succ, List.cons_append, List.nil_append, List.append_nil] at Ta
  have HT := Lib.hid Ta
  clear Ta
  go_wp2_with fail
  refine (DoesG.use (reqStep_c ⟨0, 0, 1, 0, 0, 1⟩ (s' := ⟨[⟨257, 1, 0⟩], 1⟩) rfl hg3 (.of (by decide)) ⟨by decide, by decide, by decide, by decide, .inl rfl⟩) (HT.out) [2, 0] rfl rfl).mono ?_
  rintro e w1 ⟨gs, ⟨rfl, g4, hg4, rfl⟩, Ta⟩
  simp only [putG, List.set_cons_zero, List.set_cons_succ, List.cons_append, List.nil_append, List.append_nil] at Ta
  have HT := Lib.hid Ta
  clear Ta
  go_wp2_with fail
  refine (DoesG.use (reqId_g qa sb ⟨0, 2, 0, 0, 64, 2⟩) (HT.out) [1] rfl rfl).mono ?_
  rintro e w1 ⟨gs, ⟨rfl, rfl⟩, Ta⟩
  simp only [putG, List.set_cons_zero, List.set_cons_succ, List.cons_append, List.nil_append, List.append_nil] at Ta
  have HT := Lib.hid Ta
  clear Ta
  go_wp2_with fail
  refine (DoesG.use (slabWord_g hg4 (by decide) 0) (HT.out) [0] rfl rfl).mono ?_
  rintro e w1 ⟨gs, ⟨rfl, g5, hg5, rfl⟩, Ta⟩
  simp only [putG, List.set_cons_zero, List.set_cons_succ, List.cons_append, List.nil_append, List.append_nil] at Ta
  have HT := Lib.hid Ta
  clear Ta
  go_wp2_with fail
  refine (DoesG.use (slabTry_c (k := 0) (old := 257) (ev := 9) (s' := ⟨[⟨256, 1, 0⟩], 1⟩) (v := 256) (x := 0) rfl hg5 (by decide) (by decide) (by decide)) (HT.out) [0] rfl rfl).mono ?_
  rintro e w1 ⟨gs, ⟨rfl, g6, hg6, rfl⟩, Ta⟩
  simp only [putG, List.set_cons_zero, List.set_cons_succ, List.cons_append, List.nil_append, List.append_nil] at Ta
  have HT := Lib.hid Ta
  clear Ta
  go_wp2_with fail
  refine (state_calls 256 _ (by decide) (by decide)).mono ?_
  rintro e w' ⟨rfl, rfl⟩
  go_wp2_with fail
  refine (DoesG.use (slabDrop_c (s' := ⟨[⟨256, 1, 0⟩], 0⟩) (x := 0) rfl hg6 (by decide) (by decide)) (HT.out) [0] rfl rfl).mono ?_
  rintro e w1 ⟨gs, ⟨rfl, g7, hg7, rfl⟩, Ta⟩
  simp only [putG, List.set_cons_zero, List.set_cons_succ, List.cons_append, List.nil_append, List.append_nil] at Ta
  have HT := Lib.hid Ta
  clear Ta
  go_wp2_with fail
  refine (DoesG.use (slabCount_g hg7) (HT.out) [0] rfl rfl).mono ?_
  rintro e w1 ⟨gs, ⟨rfl, g8, hg8, rfl⟩, Ta⟩
  simp only [putG, List.set_cons_zero, List.set_cons_succ, List.cons_append, List.nil_append, List.append_nil] at Ta
  have HT := Lib.hid Ta
  clear Ta
  go_wp2
  go_ret
  exact ⟨[], ⟨rfl, rfl⟩, HT.out.pick [] rfl⟩
end Go.Proofs.Ytahpggnkifkkpaa
