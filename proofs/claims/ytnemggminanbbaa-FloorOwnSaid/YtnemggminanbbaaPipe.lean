import Derived.Test.YtnemggminanbbaaList
namespace Go.Proofs.Ytnemggminanbbaa
set_option linter.unusedVariables false
set_option linter.unusedSimpArgs false
open Go.RowKit Go.Shelf

/-! ## The pipe of firings; what a floor tells besides -/
structure FireS where
  id : Int
  gen : Int
  dl : Int
  tick : Int
def FireS.vals (f : FireS) : List Value := [.int .u64 f.id, .int .u64 f.gen, .int .u64 f.dl, .int .u64 f.tick]
structure PipeS where
  room : Nat
  ch : List FireS
  sp : List FireS
  most : Int
  shut : Bool
def newPipe (n : Nat) : PipeS := ⟨n, [], [], 0, false⟩
abbrev pipeB (pb cb lb : Nat) (p : PipeS) : List Blk := [cl pb 117 #[.chan (some cb), ptr' lb, .int .i64 p.most, .bool p.shut]]
def isPipe (pb : Nat) (p : PipeS) (g : List Blk) : Prop := ∃ (cb lb hb a b : Nat) (l : List Nd) (gl : List Blk), isListF lb hb l gl ∧ l.map Nd.v = p.sp.map FireS.vals ∧
  g = pipeB pb cb lb p ++ ([(cb, .chan p.room (p.ch.map fun f => Value.agg f.vals.toArray).toArray false a b false)] ++ gl)
theorem pipe_empty {pb : Nat} {g : List Blk} (h : emptyPipe pb g) : ∃ n, isPipe pb (newPipe n) g := by
  obtain ⟨cb, lb, hb, n, rfl⟩ := h
  exact ⟨n, cb, lb, hb, 0, 0, [], _, ⟨(by intro a h; cases h), rfl⟩, rfl, by simp [noList, nodesB, nxV, lsV, pipeB, newPipe]⟩
theorem len_chan (cb n : Nat) (buf : Array Value) (cz : Bool) (a b : Nat) (w : World) (h : w.heap[cb]? = some (.chan n buf cz a b false)) :
    (Builtin.len_ #[114] 3 #[.chan (some cb)]).run Try.prog w = .ok (.int .i64 buf.size) w := by
  have hg : (getObj cb).run Try.prog w = .ok (.chan n buf cz a b false) w := by simp [getObj, Sem.run, h]
  simp [Builtin.len_, run_underlying Try.underlying114, hg, goInt]
/-- what shutting answers -/
def PipeS.shutE (p : PipeS) : Int := if p.shut then 3 else 0
section
variable {pb : Nat} {p : PipeS} {g : List Blk}
end
end Go.Proofs.Ytnemggminanbbaa
