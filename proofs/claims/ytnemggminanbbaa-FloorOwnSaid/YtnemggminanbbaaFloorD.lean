import Derived.Test.YtnemggminanbbaaFloorW
namespace Go.Proofs.Ytnemggminanbbaa
set_option linter.unusedVariables false
set_option linter.unusedSimpArgs false
open Go.RowKit Go.Shelf

/-! ## The document's floor: Do -/
structure ActF where
  kind : Int
  on : Bool
  e : EvS
abbrev ActF.cells (a : ActF) : Array Value := #[.int .i64 a.kind, .bool a.on, .int .i64 a.e.kind, .int .i64 a.e.thread, .int .i64 a.e.call, .int .i64 a.e.what, .int .u64 a.e.id, .int .u64 a.e.gen, .int .u64 a.e.dl, .int .u64 a.e.per, .int .u64 a.e.tick, .int .i64 a.e.err]
def ActF.zero : ActF := ⟨0, false, EvS.zero⟩
structure CntS where
  inside : Int
  busy : Int
  closed : Bool
  now : Int
  l : List EvS
def doF (a : ActF) (s : CntS) : CntS × Int × Bool :=
  if a.kind = 0 then ({ s with inside := s.inside + 1 }, 0, false)
  else if a.kind = 1 then ({ s with inside := lessN s.inside }, lessE s.inside, false)
  else if a.kind = 2 then if a.on then ({ s with busy := s.busy + 1 }, 0, false) else ({ s with busy := lessN s.busy }, lessE s.busy, false)
  else if a.kind = 3 then ({ s with closed := true }, 0, !s.closed)
  else if a.kind = 4 then ({ s with now := s.now + 1 }, 0, false)
  else if a.kind = 5 then ({ s with l := s.l ++ [a.e] }, 0, false)
  else (s, 0, false)
structure CntOk (s : CntS) (k : Nat) : Prop where
  i0 : 0 ≤ s.inside
  i1 : s.inside ≤ k
  b0 : 0 ≤ s.busy
  b1 : s.busy ≤ k
  n0 : 0 ≤ s.now
  n1 : s.now ≤ k
  l1 : s.l.length ≤ k
theorem lessN_le {n : Int} {k : Nat} (h0 : 0 ≤ n) (h1 : n ≤ k) : 0 ≤ lessN n ∧ lessN n ≤ k := by unfold lessN; split <;> omega
theorem doF_ok {s : CntS} {k : Nat} (h : CntOk s k) (a : ActF) : CntOk (doF a s).1 (k + 1) := by
  obtain ⟨h1, h2, h3, h4, h5, h6, h7⟩ := h
  have a1 := lessN_le h1 h2
  have a2 := lessN_le h3 h4
  unfold doF
  repeat' split
  all_goals (constructor <;> simp <;> omega)
end Go.Proofs.Ytnemggminanbbaa
