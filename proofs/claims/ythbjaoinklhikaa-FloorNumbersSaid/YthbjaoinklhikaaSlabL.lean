import Derived.Test.YthbjaoinklhikaaSlabX
namespace Go.Proofs.Ythbjaoinklhikaa
set_option linter.unusedVariables false
set_option linter.unusedSimpArgs false
open Go.RowKit

/-! ## Contracts at known states; the example of the document -/
def recOkB (r : Rec) : Bool := decide (0 ≤ r.w) && decide (r.w < 18446744073709551616) && okW r.w && decide (0 ≤ r.g) && decide (r.g ≤ genW r.w) && decide (0 ≤ r.p) && decide (r.p < 18446744073709551616)
def slabOkB (s : SlabS) : Bool := decide (1 ≤ s.recs.length) && decide (s.recs.length ≤ 64) && decide (0 ≤ s.count) && decide (s.count ≤ s.recs.length) && s.recs.all recOkB
theorem SlabOk.of {s : SlabS} (h : slabOkB s = true) : SlabOk s := by
  simp only [slabOkB, recOkB, Bool.and_eq_true, decide_eq_true_eq, List.all_eq_true] at h
  obtain ⟨⟨⟨⟨a, b⟩, c⟩, d⟩, e⟩ := h
  refine ⟨a, b, c, d, fun r hr => ?_⟩
  obtain ⟨⟨⟨⟨⟨⟨h1, h2⟩, h3⟩, h4⟩, h5⟩, h6⟩, h7⟩ := e r hr
  exact ⟨h1, h2, h3, h4, h5, h6, h7⟩
def reqOkB (n : Nat) (q : Req) : Bool := decide (0 ≤ q.p) && decide (q.p < 18446744073709551616) && decide (0 ≤ q.slot) && decide (q.slot < n) && (decide (q.next = 0) || (decide (q.next = 1) && decide (0 ≤ q.saw) && decide (q.saw < n)) || decide (q.next = 2))
theorem ReqOk.of {n : Nat} {q : Req} (h : reqOkB n q = true) : ReqOk n q := by
  simp only [reqOkB, Bool.and_eq_true, Bool.or_eq_true, decide_eq_true_eq] at h
  obtain ⟨⟨⟨⟨a, b⟩, c⟩, d⟩, (e | ⟨⟨e, f⟩, k⟩) | e⟩ := h
  · exact ⟨a, b, c, d, .inl e⟩
  · exact ⟨a, b, c, d, .inr (.inl ⟨e, f, k⟩)⟩
  · exact ⟨a, b, c, d, .inr (.inr e)⟩
section
variable {sb : Nat} {s s' : SlabS} {g : List Blk}
theorem reqStep_c {qb : Nat} {q : Req} (q' : Req) (E : stepR s q = (s', q')) (hg : isSlab sb s g) (hs : SlabOk s) (hq : ReqOk s.recs.length q) :
    DoesG Try.prog 17 #[ptr qb] [reqG qb sb q, g] fun e gs => e = .returned (.int .i64 q'.st) ∧ ∃ g', isSlab sb s' g' ∧ gs = [reqG qb sb q', g'] := by
  have := reqStep_g qb q hg hs hq
  rwa [E] at this
theorem reqId_held (qb sb : Nat) (q : Req) (h : q.st = 2) : DoesG Try.prog 18 #[ptr qb] [reqG qb sb q] fun e gs => e = .returned (.tuple #[.int .u64 q.id, .int .i64 0]) ∧ gs = [reqG qb sb q] := by
  have := reqId_g qb sb q; rwa [if_pos h, if_pos h] at this
theorem reqId_c {v : Int} (qb sb : Nat) (q : Req) (h : q.st = 2) (e1 : q.id = v) : DoesG Try.prog 18 #[ptr qb] [reqG qb sb q] fun e gs => e = .returned (.tuple #[.int .u64 v, .int .i64 0]) ∧ gs = [reqG qb sb q] := by
  have := reqId_held qb sb q h; rwa [e1] at this
theorem reqId_not (qb sb : Nat) (q : Req) (h : q.st ≠ 2) : DoesG Try.prog 18 #[ptr qb] [reqG qb sb q] fun e gs => e = .returned (.tuple #[.int .u64 0, .int .i64 7]) ∧ gs = [reqG qb sb q] := by
  have := reqId_g qb sb q; rwa [if_neg h, if_neg h] at this
theorem slabWord_c {v x : Int} {k : Int} (e1 : s.word k = v) (e2 : s.werr k = x) (hg : isSlab sb s g) (hn : s.recs.length ≤ 64) : DoesG Try.prog 19 #[ptr sb, .int .i64 k] [g] fun e gs => e = .returned (.tuple #[.int .u64 v, .int .i64 x]) ∧ ∃ g', isSlab sb s g' ∧ gs = [g'] := by
  have := slabWord_g hg hn k; rwa [e1, e2] at this
theorem slabSlot_c {v x : Int} {id : Int} (e1 : s.slot id = v) (e2 : s.serr id = x) (hg : isSlab sb s g) (hn : s.recs.length ≤ 64) (h0 : 0 ≤ id) (h1 : id < 18446744073709551616) : DoesG Try.prog 66 #[ptr sb, .int .u64 id] [g] fun e gs => e = .returned (.tuple #[.int .i64 v, .int .i64 x]) ∧ ∃ g', isSlab sb s g' ∧ gs = [g'] := by
  have := slabSlot_g hg hn id h0 h1; rwa [e1, e2] at this
theorem slabTry_c {v x : Int} {k old ev : Int} (E : s.try k old ev = (s', v, x)) (hg : isSlab sb s g) (hn : s.recs.length ≤ 64) (h0 : 0 ≤ old) (h1 : old < 18446744073709551616) :
    DoesG Try.prog 20 #[ptr sb, .int .i64 k, .int .u64 old, .int .i64 ev] [g] fun e gs => e = .returned (.tuple #[.int .u64 v, .int .i64 x]) ∧ ∃ g', isSlab sb s' g' ∧ gs = [g'] := by
  have := slabTry_g hg hn k old ev h0 h1
  rwa [E] at this
theorem slabDrop_c {x : Int} (E : s.drop = (s', x)) (hg : isSlab sb s g) (h0 : 0 ≤ s.count) (h1 : s.count ≤ 64) : DoesG Try.prog 22 #[ptr sb] [g] fun e gs => e = .returned (.int .i64 x) ∧ ∃ g', isSlab sb s' g' ∧ gs = [g'] := by
  have := slabDrop_g hg h0 h1
  rwa [E] at this
end

end Go.Proofs.Ythbjaoinklhikaa
