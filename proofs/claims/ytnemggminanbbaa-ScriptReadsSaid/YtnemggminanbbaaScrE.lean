import Derived.Test.YtnemggminanbbaaScrD
import Derived.RangeFuncNested
import Derived.RangeFuncBound
import Derived.RangeFuncCalls
import Derived.RangeFuncLeaves
import Derived.Shelf.Abstract
import Derived.Shelf.RegionOpen
import Derived.OwnWalkIn
import Derived.TacticsInMore
import Derived.LoopNIn
import Derived.LoopIn
namespace Go.Proofs.Ytnemggminanbbaa
set_option linter.unusedVariables false
set_option linter.unusedSimpArgs false
open Go.RowKit Go.Shelf
attribute [local go_sem] Oper.semAt_some

/-- the k-th chunk of six -/
def chunkV (b off len k : Nat) : Value := .slice (some ⟨b, off + 6 * k, none⟩) (min 6 (len - 6 * k)) (min 6 (len - 6 * k))
def chunkN (len : Nat) : Nat := (len + 5) / 6

set_option maxRecDepth 100000 in
set_option maxHeartbeats 2000000 in
theorem chunk_iter (a : Option Addr) (Bs Bn b off len cap : Nat) (ha : len = 0 ∨ a = some ⟨b, off, none⟩) (hl : len ≤ 1000000) (hcap : len ≤ cap) (hc : cap ≤ 9223372036854775807) (W : World) :
    Iter Try.prog 68 #[.pointer (some ⟨Bs, 0, none⟩), .pointer (some ⟨Bn, 0, none⟩)] 0 (chunkN len) (fun k => #[chunkV b off len k])
      (fun _ W' => W'.cell? ⟨Bs, 0, none⟩ = some (.slice a len cap) ∧ W'.cell? ⟨Bn, 0, none⟩ = some (.int .i64 6)) W := by
  intro l J Jx hJ hJx hT hY h0
  refine (callsIn_wide (n := 9)).1 (callsIn_of_wp Try.func68 rfl trivial ?_ rfl)
  simp only [Try.ntmps68, List.size_toArray, List.length_cons, List.length_nil, Nat.reduceAdd, Nat.reduceSub, Array.replicate_succ, Array.replicate_zero, List.push_toArray, List.append_toArray, List.nil_append, List.cons_append]
  gi_wp2
  gi_loopw [4] (fun i wr => ∃ k : Nat, k ≤ chunkN len ∧ i = .int .i64 ↑(6 * k) ∧ J k wr ∧ W.heap.size ≤ wr.heap.size) (fun i _ => len + 6 - (intOf i).toNat)
  case atStart => exact ⟨0, Nat.zero_le _, rfl, h0, Nat.le_refl _⟩
  case round =>
    obtain ⟨k, hk, rfl, hj, hz⟩ := hrel
    obtain ⟨t1, t2⟩ := hT k wr hk hj
    by_cases hlt : k < chunkN len
    · have hlt' : 6 * k < len := by unfold chunkN at hlt; omega
      obtain rfl := ha.resolve_left (by omega)
      obtain ⟨fn, tmps, assign, body, hy, hR⟩ := yield_any (n := 8) (hY k hlt wr.drew (hJ k _ _ hj hz (Only.refl _ _).drew) (by rw [size_drew]; omega))
      generalize hjk : 6 * k = j at *
      have HJ := Lib.hid hjk; clear hjk
      have e1 : ((j : Int) + 6).toNat - j = 6 := by omega
      have e2 : ((j : Int) + ((len - j : Nat) : Int)).toNat - j = len - j := by omega
      by_cases h6 : 6 ≤ len - j
      · have hv : chunkV b off len k = .slice (some ⟨b, off + j, none⟩) 6 6 := by unfold chunkV; rw [HJ.out, Nat.min_eq_left h6]
        rw [hv] at hy
        have HV := Lib.hid hv; clear hv
        gi_wp2
        gi_region
        all_goals gi_wp2
        refine hR.mono ?_
        rintro e W' ⟨hkw, ⟨rfl, hj'⟩ | ⟨rfl, hj'⟩⟩
        · obtain ⟨s1, s2⟩ := hT (k + 1) W' (by omega) hj'
          have hz' := hkw.size
          rw [size_drew] at hz'
          clear hy hR t1 t2
          gi_wp2
          go_roundw
          case rel => exact ⟨k + 1, by omega, by have := HJ.out; congr 1; omega, hj', by omega⟩
          case measure => simp [intOf]; omega
        · gi_wp2
          refine bodyPost_ret (results_none rfl _ _ _) rfl ?_
          exact ⟨⟨_, rfl⟩, .inr ⟨k, hlt, hj'⟩⟩
      · have hv : chunkV b off len k = .slice (some ⟨b, off + j, none⟩) (len - j) (len - j) := by unfold chunkV; rw [HJ.out, Nat.min_eq_right (by omega)]
        rw [hv] at hy
        have HV := Lib.hid hv; clear hv
        gi_wp2
        gi_region
        all_goals gi_wp2
        refine hR.mono ?_
        rintro e W' ⟨hkw, ⟨rfl, hj'⟩ | ⟨rfl, hj'⟩⟩
        · obtain ⟨s1, s2⟩ := hT (k + 1) W' (by omega) hj'
          have hz' := hkw.size
          rw [size_drew] at hz'
          clear hy hR t1 t2
          gi_wp2
          go_roundw
          case rel => exact ⟨k + 1, by omega, by have := HJ.out; congr 1; omega, hj', by omega⟩
          case measure => simp [intOf]; omega
        · gi_wp2
          refine bodyPost_ret (results_none rfl _ _ _) rfl ?_
          exact ⟨⟨_, rfl⟩, .inr ⟨k, hlt, hj'⟩⟩
    · have hk' : k = chunkN len := by omega
      have hge : ¬ 6 * k < len := by unfold chunkN at hk'; omega
      generalize hjk : 6 * k = j at *
      clear hjk
      gi_wp2
      go_end0
      exact ⟨⟨_, rfl⟩, .inl (hk' ▸ hj)⟩

theorem chunk_calls (s : Value) (w : World) (hs : ∃ a len cap, s = .slice a len cap) :
    Calls Try.prog 41 #[s, .int .i64 6] w fun e w' => e = .returned (.func (.func 68) #[] #[.pointer (some ⟨w.heap.size, 0, none⟩), .pointer (some ⟨w.heap.size + 1, 0, none⟩)]) ∧
      w' = (w.alloc (.cells #[s] 22)).alloc (.cells #[.int .i64 6] 3) := by
  obtain ⟨a, len, cap, rfl⟩ := hs
  go_enter Try.func41, Try.ntmps41
  go_wp2
  go_ret
  exact ⟨rfl, rfl⟩

theorem all_calls (a : Option Addr) (len cap : Nat) (w : World) :
    Calls Try.prog 9 #[.slice a len cap] w fun e w' => e = .returned (.func (.func 40) #[] #[.pointer (some ⟨w.heap.size, 0, none⟩)]) ∧
      w' = w.alloc (.cells #[.slice a len cap] 22) := by
  go_enter Try.func9, Try.ntmps9
  go_wp2
  go_ret
  exact ⟨rfl, rfl⟩
end Go.Proofs.Ytnemggminanbbaa
