import Derived.Test.YtnemggminanbbaaSlabG
import Derived.Test.YtnemggminanbbaaHeap
namespace Go.Proofs.Ytnemggminanbbaa
set_option linter.unusedVariables false
set_option linter.unusedSimpArgs false
open Go.RowKit

/-! ## A slab's contracts, on groups -/
/-- a pointer to a block's head -/
abbrev ptr (b : Nat) : Value := .pointer (some ⟨b, 0, none⟩)
def isSlab (sb : Nat) (s : SlabS) (g : List Blk) : Prop := ∃ rb, Match (slabH sb rb s) g
def reqG (qb sb : Nat) (q : Req) : List Blk := [cl qb 111 (reqC sb q)]
theorem reqM (qb sb : Nat) (q : Req) : Match [reqH qb sb q] (reqG qb sb q) := Match.of_pt _ _ _

section
variable {sb : Nat} {s : SlabS} {g : List Blk}
theorem slabCount_g (hg : isSlab sb s g) : DoesG Try.prog 36 #[ptr sb] [g] fun e gs => e = .returned (.int .i64 s.count) ∧ ∃ g', isSlab sb s g' ∧ gs = [g'] := by
  obtain ⟨rb, m⟩ := hg
  exact (Does.G1 (slabCount_does sb rb s) m).mono fun e gs ⟨he, x, mx, hx⟩ => ⟨he, x, ⟨rb, mx⟩, hx⟩
theorem reqStep_g (qb : Nat) (q : Req) (hg : isSlab sb s g) (hs : SlabOk s) (hq : ReqOk s.recs.length q) :
    DoesG Try.prog 22 #[ptr qb] [reqG qb sb q, g] fun e gs => e = .returned (.int .i64 (stepR s q).2.st) ∧ ∃ g', isSlab sb (stepR s q).1 g' ∧ gs = [reqG qb sb (stepR s q).2, g'] := by
  obtain ⟨rb, m⟩ := hg
  refine (Does.G2 (a := [reqH qb sb q]) (a' := [reqH qb sb (stepR s q).2]) (reqStep_does qb sb rb s q hs hq) (reqM _ _ _) m).mono ?_
  rintro e gs ⟨he, x, y, mx, my, rfl⟩
  exact ⟨he, y, ⟨rb, my⟩, by rw [mx.isPt]; rfl⟩
end
theorem slabBegin_g (sb : Nat) (p : Int) : DoesG Try.prog 21 #[ptr sb, .int .u64 p] [] fun e gs => ∃ qb, e = .returned (ptr qb) ∧ gs = [reqG qb sb ⟨p, 0, 0, 0, 0, 0⟩] := by
  refine ((slabBegin_does sb p).G (gs := []) .nil).mono ?_
  rintro e gs ⟨h', g, ⟨qb, he, rfl⟩, m, rfl⟩
  exact ⟨qb, he, by rw [m.isPt]; rfl⟩
theorem slabNew_g (n : Int) : DoesG Try.prog 46 #[.int .i64 n] [] fun e gs =>
    (1 ≤ n ∧ n ≤ 64 ∧ ∃ sb g, e = .returned (.tuple #[ptr sb, .int .i64 0]) ∧ isSlab sb (newSlab n.toNat) g ∧ gs = [g]) ∨ (¬ (1 ≤ n ∧ n ≤ 64) ∧ e = .returned (.tuple #[.pointer none, .int .i64 4]) ∧ gs = []) := by
  refine ((slabNew_does n).G (gs := []) .nil).post ?_
  rintro e gs ⟨h', g, hr, m, rfl⟩
  by_cases hn : 1 ≤ n ∧ n ≤ 64
  · rw [if_pos hn] at hr
    obtain ⟨sb, rb, he, rfl⟩ := hr
    exact ⟨[g], .inl ⟨hn.1, hn.2, sb, g, he, ⟨rb, m⟩, rfl⟩, List.Perm.refl _⟩
  · rw [if_neg hn] at hr
    obtain ⟨he, rfl⟩ := hr
    cases m
    exact ⟨[], .inr ⟨hn, he, rfl⟩, by simp⟩
theorem slabNew_at (n : Nat) (h1 : 1 ≤ n) (h2 : n ≤ 64) : DoesG Try.prog 46 #[.int .i64 n] [] fun e gs => ∃ sb g, e = .returned (.tuple #[ptr sb, .int .i64 0]) ∧ isSlab sb (newSlab n) g ∧ gs = [g] := by
  refine (slabNew_g n).mono ?_
  rintro e gs (⟨_, _, sb, g, he, hs, hg⟩ | ⟨hn, _⟩)
  · exact ⟨sb, g, he, by simpa using hs, hg⟩
  · exact absurd ⟨by omega, by omega⟩ hn

/-! ## Of none -/
theorem slabCount_nil : DoesG Try.prog 36 #[.pointer none] [] fun e gs => e = .returned (.int .i64 0) ∧ gs = [] := by
  intro w hw
  have HT := Lib.hid (TG.refl hw)
  clear hw
  go_enter Try.func36, Try.ntmps36
  go_wp2
  go_ret
  exact ⟨_, ⟨rfl, rfl⟩, HT.out⟩
theorem slabBegin_nil : DoesG Try.prog 21 #[.pointer none, .int .u64 1] [] fun e gs => e = .returned (.pointer none) ∧ gs = [] := by
  intro w hw
  have HT := Lib.hid (TG.refl hw)
  clear hw
  go_enter Try.func21, Try.ntmps21
  go_wp2
  go_ret
  exact ⟨_, ⟨rfl, rfl⟩, HT.out⟩
theorem reqStep_nil : DoesG Try.prog 22 #[.pointer none] [] fun e gs => e = .returned (.int .i64 1) ∧ gs = [] := by
  intro w hw
  have HT := Lib.hid (TG.refl hw)
  clear hw
  go_enter Try.func22, Try.ntmps22
  go_wp2
  go_ret
  exact ⟨_, ⟨rfl, rfl⟩, HT.out⟩
end Go.Proofs.Ytnemggminanbbaa
