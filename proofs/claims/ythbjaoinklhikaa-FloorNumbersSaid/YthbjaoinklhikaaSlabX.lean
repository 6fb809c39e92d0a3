import Derived.Test.YthbjaoinklhikaaSlabG
import Derived.Test.YthbjaoinklhikaaHeap
namespace Go.Proofs.Ythbjaoinklhikaa
set_option linter.unusedVariables false
set_option linter.unusedSimpArgs false
open Go.RowKit

/-! ## A slab's contracts, on groups -/
/-- a pointer to a block's head -/
abbrev ptr (b : Nat) : Value := .pointer (some ⟨b, 0, none⟩)
def isSlab (sb : Nat) (s : SlabS) (g : List Blk) : Prop := ∃ rb, Match (slabH sb rb s) g
def reqG (qb sb : Nat) (q : Req) : List Blk := [cl qb 115 (reqC sb q)]
theorem reqM (qb sb : Nat) (q : Req) : Match [reqH qb sb q] (reqG qb sb q) := Match.of_pt _ _ _

section
variable {sb : Nat} {s : SlabS} {g : List Blk}
theorem slabCount_g (hg : isSlab sb s g) : DoesG Try.prog 43 #[ptr sb] [g] fun e gs => e = .returned (.int .i64 s.count) ∧ ∃ g', isSlab sb s g' ∧ gs = [g'] := by
  obtain ⟨rb, m⟩ := hg
  exact (Does.G1 (slabCount_does sb rb s) m).mono fun e gs ⟨he, x, mx, hx⟩ => ⟨he, x, ⟨rb, mx⟩, hx⟩
theorem slabWord_g (hg : isSlab sb s g) (hn : s.recs.length ≤ 64) (k : Int) : DoesG Try.prog 19 #[ptr sb, .int .i64 k] [g] fun e gs => e = .returned (.tuple #[.int .u64 (s.word k), .int .i64 (s.werr k)]) ∧ ∃ g', isSlab sb s g' ∧ gs = [g'] := by
  obtain ⟨rb, m⟩ := hg
  exact (Does.G1 (slabWord_does sb rb s k hn) m).mono fun e gs ⟨he, x, mx, hx⟩ => ⟨he, x, ⟨rb, mx⟩, hx⟩
theorem slabSlot_g (hg : isSlab sb s g) (hn : s.recs.length ≤ 64) (id : Int) (h0 : 0 ≤ id) (h1 : id < 18446744073709551616) : DoesG Try.prog 66 #[ptr sb, .int .u64 id] [g] fun e gs => e = .returned (.tuple #[.int .i64 (s.slot id), .int .i64 (s.serr id)]) ∧ ∃ g', isSlab sb s g' ∧ gs = [g'] := by
  obtain ⟨rb, m⟩ := hg
  exact (Does.G1 (slabSlot_does sb rb s id hn h0 h1) m).mono fun e gs ⟨he, x, mx, hx⟩ => ⟨he, x, ⟨rb, mx⟩, hx⟩
theorem slabDrop_g (hg : isSlab sb s g) (h0 : 0 ≤ s.count) (h1 : s.count ≤ 64) : DoesG Try.prog 22 #[ptr sb] [g] fun e gs => e = .returned (.int .i64 s.drop.2) ∧ ∃ g', isSlab sb s.drop.1 g' ∧ gs = [g'] := by
  obtain ⟨rb, m⟩ := hg
  exact (Does.G1 (slabDrop_does sb rb s h0 h1) m).mono fun e gs ⟨he, x, mx, hx⟩ => ⟨he, x, ⟨rb, mx⟩, hx⟩
theorem slabTry_g (hg : isSlab sb s g) (hn : s.recs.length ≤ 64) (k old ev : Int) (h0 : 0 ≤ old) (h1 : old < 18446744073709551616) :
    DoesG Try.prog 20 #[ptr sb, .int .i64 k, .int .u64 old, .int .i64 ev] [g] fun e gs => e = .returned (.tuple #[.int .u64 (s.try k old ev).2.1, .int .i64 (s.try k old ev).2.2]) ∧ ∃ g', isSlab sb (s.try k old ev).1 g' ∧ gs = [g'] := by
  obtain ⟨rb, m⟩ := hg
  exact (Does.G1 (slabTry_does sb rb s k old ev hn h0 h1) m).mono fun e gs ⟨he, x, mx, hx⟩ => ⟨he, x, ⟨rb, mx⟩, hx⟩
theorem reqStep_g (qb : Nat) (q : Req) (hg : isSlab sb s g) (hs : SlabOk s) (hq : ReqOk s.recs.length q) :
    DoesG Try.prog 17 #[ptr qb] [reqG qb sb q, g] fun e gs => e = .returned (.int .i64 (stepR s q).2.st) ∧ ∃ g', isSlab sb (stepR s q).1 g' ∧ gs = [reqG qb sb (stepR s q).2, g'] := by
  obtain ⟨rb, m⟩ := hg
  refine (Does.G2 (a := [reqH qb sb q]) (a' := [reqH qb sb (stepR s q).2]) (reqStep_does qb sb rb s q hs hq) (reqM _ _ _) m).mono ?_
  rintro e gs ⟨he, x, y, mx, my, rfl⟩
  exact ⟨he, y, ⟨rb, my⟩, by rw [mx.isPt]; rfl⟩
end
theorem reqId_g (qb sb : Nat) (q : Req) : DoesG Try.prog 18 #[ptr qb] [reqG qb sb q] fun e gs => e = .returned (.tuple #[.int .u64 (if q.st = 2 then q.id else 0), .int .i64 (if q.st = 2 then 0 else 7)]) ∧ gs = [reqG qb sb q] :=
  (Does.G1 (reqId_does qb sb q) (reqM _ _ _)).mono fun e gs ⟨he, x, mx, hx⟩ => ⟨he, by rw [hx, mx.isPt]; rfl⟩
theorem slabBegin_g (sb : Nat) (p : Int) : DoesG Try.prog 16 #[ptr sb, .int .u64 p] [] fun e gs => ∃ qb, e = .returned (ptr qb) ∧ gs = [reqG qb sb ⟨p, 0, 0, 0, 0, 0⟩] := by
  refine ((slabBegin_does sb p).G (gs := []) .nil).mono ?_
  rintro e gs ⟨h', g, ⟨qb, he, rfl⟩, m, rfl⟩
  exact ⟨qb, he, by rw [m.isPt]; rfl⟩
theorem slabNew_g (n : Int) : DoesG Try.prog 53 #[.int .i64 n] [] fun e gs =>
    (1 ≤ n ∧ n ≤ 64 ∧ ∃ sb g, e = .returned (.tuple #[ptr sb, .int .i64 0]) ∧ isSlab sb (newSlab n.toNat) g ∧ gs = [g]) ∨ (¬ (1 ≤ n ∧ n ≤ 64) ∧ e = .returned (.tuple #[.pointer none, .int .i64 4]) ∧ gs = []) := by
  refine ((slabNew_does n).G (gs := []) .nil).post ?_
  rintro e gs ⟨h', g, hr, m, rfl⟩
  by_cases hn : 1 ≤ n ∧ n ≤ 64
  · rw [if_pos hn] at hr
    obtain ⟨sb, rb, he, rfl⟩ := hr
    exact ⟨[g], .inl ⟨hn.1, hn.2, sb, g, he, ⟨rb, m⟩, rfl⟩, List.Perm.refl _⟩
  · rw [if_neg hn] at hr
    obtain ⟨he, rfl⟩ := hr
    cases m
    exact ⟨[], .inr ⟨hn, he, rfl⟩, by simp⟩
theorem slabNew_at (n : Nat) (h1 : 1 ≤ n) (h2 : n ≤ 64) : DoesG Try.prog 53 #[.int .i64 n] [] fun e gs => ∃ sb g, e = .returned (.tuple #[ptr sb, .int .i64 0]) ∧ isSlab sb (newSlab n) g ∧ gs = [g] := by
  refine (slabNew_g n).mono ?_
  rintro e gs (⟨_, _, sb, g, he, hs, hg⟩ | ⟨hn, _⟩)
  · exact ⟨sb, g, he, by simpa using hs, hg⟩
  · exact absurd ⟨by omega, by omega⟩ hn

/-! ## Of none -/
theorem slabCount_nil : DoesG Try.prog 43 #[.pointer none] [] fun e gs => e = .returned (.int .i64 0) ∧ gs = [] := by
  intro w hw
  have HT := Lib.hid (TG.refl hw)
  clear hw
  go_enter Try.func43, Try.ntmps43
  go_wp2
  go_ret
  exact ⟨_, ⟨rfl, rfl⟩, HT.out⟩
theorem slabBegin_nil : DoesG Try.prog 16 #[.pointer none, .int .u64 1] [] fun e gs => e = .returned (.pointer none) ∧ gs = [] := by
  intro w hw
  have HT := Lib.hid (TG.refl hw)
  clear hw
  go_enter Try.func16, Try.ntmps16
  go_wp2
  go_ret
  exact ⟨_, ⟨rfl, rfl⟩, HT.out⟩
theorem reqStep_nil : DoesG Try.prog 17 #[.pointer none] [] fun e gs => e = .returned (.int .i64 1) ∧ gs = [] := by
  intro w hw
  have HT := Lib.hid (TG.refl hw)
  clear hw
  go_enter Try.func17, Try.ntmps17
  go_wp2
  go_ret
  exact ⟨_, ⟨rfl, rfl⟩, HT.out⟩
theorem reqId_nil : DoesG Try.prog 18 #[.pointer none] [] fun e gs => e = .returned (.tuple #[.int .u64 0, .int .i64 7]) ∧ gs = [] := by
  intro w hw
  have HT := Lib.hid (TG.refl hw)
  clear hw
  go_enter Try.func18, Try.ntmps18
  go_wp2
  go_ret2
  exact ⟨_, ⟨rfl, rfl⟩, HT.out⟩
theorem slabSlot_nil (id : Int) : DoesG Try.prog 66 #[.pointer none, .int .u64 id] [] fun e gs => e = .returned (.tuple #[.int .i64 0, .int .i64 6]) ∧ gs = [] := by
  intro w hw
  have T0 := TG.refl hw
  have HT := Lib.hid T0
  clear hw T0
  go_enter Try.func66, Try.ntmps66
  go_wp2
  go_ret2
  exact ⟨_, ⟨rfl, rfl⟩, HT.out⟩
theorem slabAt_nil (k : Int) : DoesG Try.prog 59 #[.pointer none, .int .i64 k] [] fun e gs => e = .returned (.pointer none) ∧ gs = [] := by
  intro w hw
  have T0 := TG.refl hw
  have HT := Lib.hid T0
  clear hw T0
  go_enter Try.func59, Try.ntmps59
  go_wp2
  go_ret
  exact ⟨_, ⟨rfl, rfl⟩, HT.out⟩
theorem slabWord_nil (k : Int) : DoesG Try.prog 19 #[.pointer none, .int .i64 k] [] fun e gs => e = .returned (.tuple #[.int .u64 0, .int .i64 6]) ∧ gs = [] := by
  intro w hw
  have T0 := TG.refl hw
  have HT := Lib.hid T0
  clear hw T0
  go_enter Try.func19, Try.ntmps19
  go_wp2
  go_ret2
  exact ⟨_, ⟨rfl, rfl⟩, HT.out⟩
theorem slabTry_nil (k n ev : Int) : DoesG Try.prog 20 #[.pointer none, .int .i64 k, .int .u64 n, .int .i64 ev] [] fun e gs => e = .returned (.tuple #[.int .u64 0, .int .i64 6]) ∧ gs = [] := by
  intro w hw
  have T0 := TG.refl hw
  have HT := Lib.hid T0
  clear hw T0
  go_enter Try.func20, Try.ntmps20
  go_wp2_with (
    go_at_call 19
    refine (DoesG.use (slabWord_nil k) (HT.out) [] rfl rfl).mono ?_
    rintro e w1 ⟨gs, ⟨rfl, rfl⟩, Ta⟩
    simp only [putG, List.set_cons_zero, List.set_cons_succ, List.cons_append, List.nil_append, List.append_nil] at Ta
    have HT := Lib.hid Ta
    clear Ta
    skip)
  go_ret2
  exact ⟨_, ⟨rfl, rfl⟩, HT.out⟩
theorem slabDrop_nil : DoesG Try.prog 22 #[.pointer none] [] fun e gs => e = .returned (.int .i64 6) ∧ gs = [] := by
  intro w hw
  have HT := Lib.hid (TG.refl hw)
  clear hw
  go_enter Try.func22, Try.ntmps22
  go_wp2
  go_ret
  exact ⟨_, ⟨rfl, rfl⟩, HT.out⟩
end Go.Proofs.Ythbjaoinklhikaa
