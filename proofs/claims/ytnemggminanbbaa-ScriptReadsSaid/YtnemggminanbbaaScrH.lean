import Derived.Test.YtnemggminanbbaaScrG
import Derived.Laws.AppendOwnNone
namespace Go.Proofs.Ytnemggminanbbaa
set_option linter.unusedVariables false
set_option linter.unusedSimpArgs false
open Go.RowKit Go.Shelf

/-- 'append(s, x...)' onto a row of one's own, whatever the source: nil, empty or not -/
theorem wpList_append_src {P : Program} {w : World} {ops : Array Oper} {rest : List Oper} {o : Oper} {a : Act} {Q : Exit → Act → World → Prop}
    (hg : o.guard = none) (s x : Operand) (t : TypeId) (hop : o.op = Op.call { callee := Callee.builtin Builtin.append, args := #[s, x], argTypes := #[t, t] })
    (base : Nat) (e : TypeId) (i : TypeInfo) (z : Value) (size bytes : Nat) (h1 : P.underlying t = some (.slice e)) (h2 : P.info? e = some i) (h3 : i.zero = some z) (h4 : i.size = size) (h5 : i.bytes = bytes) (h6 : z.cells.size = size) (h7 : 0 < size)
    (v : Value) (k : Nat) (xs : List Value) (hs : a.eval s = v) (hown : w.ownsRow base e size v k xs) (A : Option Addr) (m c : Nat) (news : List Value) (hx : a.eval x = .slice A m c) (hn : news.length = m * size)
    (hA : (A = none ∧ m = 0 ∧ c = 0) ∨ ∃ ad, A = some ad ∧ ∀ j u, news[j]? = some u → w.cell? (ad.add j) = some u) (h1c : ∀ u ∈ news, u.oneCell' = true)
    (b1 : k + m ≤ maxLen) (b2 : (k + m) * bytes ≤ 140737488355328) (b3 : base ≤ w.heap.size)
    (hK : ∀ v' w', w'.ownsRow base e size v' (k + m) (xs ++ news) → w.grownBy w' v.ownBlock → wpList P ops Q rest (a.put o.dst v') w') :
    wpList P ops Q (o :: rest) a w := by
  rcases hA with ⟨rfl, rfl, rfl⟩ | ⟨ad, rfl, hc⟩
  · have hn0 : news = [] := List.eq_nil_of_length_eq_zero (by simpa using hn)
    subst hn0
    exact wpList_append_own_none hg s x t hop base e i size h1 h2 v k xs hs hown hx (hK v w (by simpa using hown) (World.grownBy.refl w _))
  · exact wpList_append_own w hg s x t hop base e i z size bytes h1 h2 h3 h4 h5 h6 h7 v k xs hs hown ad m c news hx hn hc h1c b1 b2 b3 (fun v' w' a b _ => hK v' w' a b)

theorem Try.infoU8 : (Try.prog.info? 5).map (fun i => (i.zero, i.size, i.bytes)) = some (some (.int .u8 0), 1, 1) := by kernel_rfl

/-- a row of entries that a call made: its cells -/
theorem row_cells {w : World} {base : Nat} {e : TypeId} {size : Nat} {v : Value} {n : Nat} {xs : List Value} (h : w.ownsRow base e size v n xs) (hn : 0 < n) :
    ∃ g cap, v = .slice (some ⟨g, 0, none⟩) n cap ∧ base ≤ g ∧ g < w.heap.size ∧ ∀ j, j < n * size → w.cell? ⟨g, j, none⟩ = xs[j]? := by
  have h' := h
  rcases h.2 with ⟨_, h0⟩ | ⟨g, cap, cur, rfl, h1, h2, h3⟩
  · omega
  · exact ⟨g, cap, rfl, h1, (Array.getElem?_eq_some_iff.1 h2).1, fun j hj => h'.cellAt j hj⟩

def aliveB : List Int := [1, 0, 1, 0, 5, 0, 2, 7, 0, 0, 0, 1, 2, 7, 0, 0, 0, 0, 4]

set_option maxRecDepth 100000 in
set_option maxHeartbeats 2000000 in
theorem alive_calls (w : World) :
    Calls Try.prog 5 #[] w fun e w' => e = .returned (.bool true) ∧ Grew w w' := by
  have hp := fun (w1 : World) (h : Bytes w1 (some ⟨w.heap.size, 0, none⟩) aliveB) => parse_calls (some ⟨w.heap.size, 0, none⟩) 19 aliveB (by decide) (by decide) (by decide) w1 h
  have he : cellsOf (entsK aliveB (chunkN aliveB.length)) = [.int .i64 1, .int .i64 0, .int .i64 1, .int .u64 0, .int .u64 5, .int .u64 0, .int .i64 0, .int .i64 0, .int .i64 0, .int .u64 0, .int .u64 0, .int .u64 0,
    .int .i64 2, .int .i64 7, .int .i64 0, .int .u64 0, .int .u64 0, .int .u64 0, .int .i64 0, .int .i64 0, .int .i64 0, .int .u64 0, .int .u64 0, .int .u64 0] := by
    have : entsK aliveB (chunkN aliveB.length) = [⟨1, 0, 1, 0, 5, 0⟩, ⟨0, 0, 0, 0, 0, 0⟩, ⟨2, 7, 0, 0, 0, 0⟩, ⟨0, 0, 0, 0, 0, 0⟩] := by rfl
    rw [this]; rfl
  have HE := Lib.hid he; clear he
  have HP := Lib.hid hp; clear hp
  go_enter Try.func5, Try.ntmps5
  go_wp2_with fail
  refine (HP.out _ (Bytes.new (t := 5) (by decide) (alloc_new _ rfl))).mono ?_
  rintro e w1 ⟨v, rfl, hrow, hg⟩
  rw [HE.out, entsK_length] at hrow
  obtain ⟨g, cap, rfl, h1, h2, h3⟩ := row_cells hrow (by decide)
  have H1 := Lib.hid h1; have H2 := Lib.hid h2; have HG := Lib.hid hg
  clear h1 h2 hg hrow
  have hn : chunkN aliveB.length = 4 := by decide
  rw [hn] at h3 ⊢
  go_wp2
  go_ret
  exact ⟨rfl, Only.trans ((Only.refl _ _).alloc _) HG.out⟩
end Go.Proofs.Ytnemggminanbbaa
