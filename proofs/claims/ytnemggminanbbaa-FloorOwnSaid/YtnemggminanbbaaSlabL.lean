import Derived.Test.YtnemggminanbbaaSlabX
namespace Go.Proofs.Ytnemggminanbbaa
set_option linter.unusedVariables false
set_option linter.unusedSimpArgs false
open Go.RowKit

/-! ## Contracts at known states; the example of the document -/
def recOkB (r : Rec) : Bool := decide (0 ≤ r.w) && decide (r.w < 18446744073709551616) && okW r.w && decide (0 ≤ r.g) && decide (r.g ≤ genW r.w) && decide (0 ≤ r.p) && decide (r.p < 18446744073709551616)
def slabOkB (s : SlabS) : Bool := decide (1 ≤ s.recs.length) && decide (s.recs.length ≤ 64) && decide (0 ≤ s.count) && decide (s.count ≤ s.recs.length) && s.recs.all recOkB
theorem SlabOk.of {s : SlabS} (h : slabOkB s = true) : SlabOk s := by
  simp only [slabOkB, recOkB, Bool.and_eq_true, decide_eq_true_eq, List.all_eq_true] at h
  obtain ⟨⟨⟨⟨a, b⟩, c⟩, d⟩, e⟩ := h
  refine ⟨a, b, c, d, fun r hr => ?_⟩
  obtain ⟨⟨⟨⟨⟨⟨h1, h2⟩, h3⟩, h4⟩, h5⟩, h6⟩, h7⟩ := e r hr
  exact ⟨h1, h2, h3, h4, h5, h6, h7⟩
def reqOkB (n : Nat) (q : Req) : Bool := decide (0 ≤ q.p) && decide (q.p < 18446744073709551616) && decide (0 ≤ q.slot) && decide (q.slot < n) && (decide (q.next = 0) || (decide (q.next = 1) && decide (0 ≤ q.saw) && decide (q.saw < n)) || decide (q.next = 2))
theorem ReqOk.of {n : Nat} {q : Req} (h : reqOkB n q = true) : ReqOk n q := by
  simp only [reqOkB, Bool.and_eq_true, Bool.or_eq_true, decide_eq_true_eq] at h
  obtain ⟨⟨⟨⟨a, b⟩, c⟩, d⟩, (e | ⟨⟨e, f⟩, k⟩) | e⟩ := h
  · exact ⟨a, b, c, d, .inl e⟩
  · exact ⟨a, b, c, d, .inr (.inl ⟨e, f, k⟩)⟩
  · exact ⟨a, b, c, d, .inr (.inr e)⟩
section
variable {sb : Nat} {s s' : SlabS} {g : List Blk}
theorem reqStep_c {qb : Nat} {q : Req} (q' : Req) (E : stepR s q = (s', q')) (hg : isSlab sb s g) (hs : SlabOk s) (hq : ReqOk s.recs.length q) :
    DoesG Try.prog 22 #[ptr qb] [reqG qb sb q, g] fun e gs => e = .returned (.int .i64 q'.st) ∧ ∃ g', isSlab sb s' g' ∧ gs = [reqG qb sb q', g'] := by
  have := reqStep_g qb q hg hs hq
  rwa [E] at this
end

end Go.Proofs.Ytnemggminanbbaa
