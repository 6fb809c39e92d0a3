import Derived.Test.YtahpggnkifkkpaaRefT
import Derived.Test.YtahpggnkifkkpaaFam
import Derived.Test.YtahpggnkifkkpaaArg
import Derived.Deep.CutBlock
import Derived.Test.YtahpggnkifkkpaaBlk
namespace Go.Proofs.Ytahpggnkifkkpaa
set_option linter.unusedVariables false
set_option linter.unusedSimpArgs false
open Go.RowKit Go.Shelf

theorem Try.infoRec3 : (Try.prog.info? 66).map (fun i => (i.zero, i.size, i.bytes)) = some (some (.agg #[.int .u64 0, .int .u64 0, .int .u64 0]), 3, 24) := by kernel_rfl
theorem Try.infoReq5 : (Try.prog.info? 63).map (fun i => (i.zero, i.size, i.bytes)) = some (some (.agg #[.int .i64 0, .int .i64 0, .int .i64 0, .int .u64 0, .int .u64 0]), 5, 40) := by kernel_rfl
theorem made_recs (n : Nat) : madeCells (Value.cells (.agg #[.int .u64 0, .int .u64 0, .int .u64 0])) (n * 3) = ((List.replicate n Rec.zero).flatMap recV).toArray := by
  apply Array.ext_getElem?
  intro i
  have hR : ((List.replicate n Rec.zero).flatMap recV).toArray[i]? = ((List.replicate n Rec.zero).flatMap recV)[i]? := List.getElem?_toArray
  rw [hR]
  by_cases hi : i < n * 3
  · obtain ⟨q, r, hq, hr, rfl⟩ : ∃ q r, q < n ∧ r < 3 ∧ i = q * 3 + r := ⟨i / 3, i % 3, by omega, by omega, by omega⟩
    rw [flat_at recV 3 Rec.zero (fun _ => rfl) _ q r (by simp; omega) hr, made_get _ n 3 q r rfl hq hr]
    have : (List.replicate n Rec.zero).getD q Rec.zero = Rec.zero := by
      rw [List.getD_eq_getElem?_getD, List.getElem?_replicate]; split <;> rfl
    rw [this]
    have h3 : r = 0 ∨ r = 1 ∨ r = 2 := by omega
    rcases h3 with h | h | h <;> rw [h] <;> rfl
  · rw [Array.getElem?_eq_none (by simp [madeCells]; omega), List.getElem?_eq_none (by rw [flat_length recV 3 (fun _ => rfl)]; simp; omega)]
theorem refNew_g (n : Nat) (h1 : 1 ≤ n) (h2 : n ≤ 64) : DoesG Try.prog 21 #[.int .i64 n] [] fun e gs => ∃ vb gV gL, e = .returned (ptr vb) ∧ RefS vb (newSlab n) [] gV gL [] ∧ gs = [gV, gL] := by
  intro w hw
  have T0 := TG.refl hw
  have HT := Lib.hid T0
  clear hw T0
  have hmk := run_make_n (P := Try.prog) 59 66 _ 3 24 Try.underlying59 Try.infoRec3 n (by omega) (by omega)
  rw [made_recs] at hmk
  go_enter Try.func21, Try.ntmps21
  go_wp2
  go_ret
  refine ⟨_, ⟨_, _, _, rfl, ⟨w.heap.size, .slice none 0 0, rfl, rfl, rowG_nil _ _⟩, rfl⟩, ?_⟩
  refine (((HT.out.alloc rfl _ _).alloc (k := w.heap.size + 1) (by simp) _ _).pick [1, 0] rfl).eq ?_
  simp [pickG, newSlab]
theorem slabNew_no (n : Int) (h : ¬ (1 ≤ n ∧ n ≤ 64)) : DoesG Try.prog 10 #[.int .i64 n] [] fun e gs => e = .returned (.tuple #[.pointer none, .int .i64 4]) ∧ gs = [] := by
  refine (slabNew_g n).mono ?_
  rintro e gs (⟨h1, h2, _⟩ | ⟨_, he, hg⟩)
  · exact absurd ⟨h1, h2⟩ h
  · exact ⟨he, hg⟩
structure ActS where
  k : Int
  n : Int
  ev : Int
  old : Int
abbrev ActS.cells (a : ActS) : Array Value := #[.int .i64 a.k, .int .i64 a.n, .int .i64 a.ev, .int .u64 a.old]
def ActS.zero : ActS := ⟨0, 0, 0, 0⟩
/-- acts that came in -/
def SActsAt (w : World) (a : Option Addr) (zs : List ActS) : Prop :=
  (∀ z ∈ zs, 0 ≤ z.old ∧ z.old < 18446744073709551616) ∧ (zs = [] ∨ ∃ b off, a = some ⟨b, off, none⟩ ∧ b < w.heap.size ∧ ∀ i j, i < zs.length → j < 4 → w.cell? ⟨b, off + (i * 4 + j), none⟩ = (zs.getD i ActS.zero).cells[j]?)
theorem SActsAt.cells {w : World} {a : Option Addr} {zs : List ActS} (h : SActsAt w a zs) {k : Nat} (hk : k < zs.length) {H : GH} {w' : World} (T : TG [] w H w') :
    ∃ b off, a = some ⟨b, off, none⟩ ∧ b < w.heap.size ∧ ∃ z, zs.getD k ActS.zero = z ∧ (0 ≤ z.old ∧ z.old < 18446744073709551616) ∧
    w'.cell? ⟨b, off + k * 4, none⟩ = some (.int .i64 z.k) ∧ w'.cell? ⟨b, off + k * 4 + 1, none⟩ = some (.int .i64 z.n) ∧ w'.cell? ⟨b, off + k * 4 + 2, none⟩ = some (.int .i64 z.ev) ∧ w'.cell? ⟨b, off + k * 4 + 3, none⟩ = some (.int .u64 z.old) := by
  rcases h.2 with rfl | ⟨b, off, h1, h2, h3⟩
  · simp at hk
  · have hh := fun j (hj : j < 4) => (T.old (p := ⟨b, off + (k * 4 + j), none⟩) h2).trans (h3 k j hk hj)
    simp only [← Nat.add_assoc] at hh
    exact ⟨b, off, h1, h2, _, rfl, h.1 _ (by rw [List.getD_eq_getElem?_getD, List.getElem?_eq_getElem hk]; exact List.getElem_mem hk), hh 0 (by omega), hh 1 (by omega), hh 2 (by omega), hh 3 (by omega)⟩
def reqF' (sb : Nat) (p : Nat × Req) : List Blk := reqG p.1 sb p.2
/-- a slab with its requests, and the document's, stand alike -/
def SSt (w : World) (sb vb n : Nat) (k : Nat) (l : Value) (w' : World) : Prop :=
  ∃ (s : SlabS) (rs : List (Nat × Req)) (g gr gV gL gQ : List Blk), SlabOk s ∧ s.recs.length = n ∧ (∀ p ∈ rs, ReqOk n p.2 ∧ (p.2.st = 0 ∨ p.2.st = 1 ∨ p.2.st = 2)) ∧ rs.length ≤ k ∧ isSlab sb s g ∧ RefS vb s (rs.map Prod.snd) gV gL gQ ∧
    rowG 30 1 l rs.length (rs.map fun p => ptr p.1) gr ∧ TG [] w [g, gr, gV, gL, gQ, famB (reqF' sb) rs] w'
theorem step_st {s : SlabS} {q : Req} (h : q.st = 0 ∨ q.st = 1 ∨ q.st = 2) : (stepR s q).2.st = 0 ∨ (stepR s q).2.st = 1 ∨ (stepR s q).2.st = 2 := by
  unfold stepR
  split
  · exact h
  · split
    · unfold lookR; split <;> simp <;> omega
    · split
      · unfold moreR; split <;> simp <;> omega
      · unfold seekR; simp only []; split <;> simp <;> omega
theorem ret_st {q : Req} (h : q.st = 0 ∨ q.st = 1 ∨ q.st = 2) : retR q = q.st := by unfold retR; split <;> (try split) <;> omega
section
variable {vb : Nat} {s s' : SlabS} {qs : List Req} {gV gL gQ : List Blk}
theorem refStep_c {k : Nat} {q q' : Req} (E : stepR s q = (s', q')) (h : RefS vb s qs gV gL gQ) (hs : SlabOk s) (hk : k < qs.length) (hq : qs.getD k Req.zero = q) (hok : ReqOk s.recs.length q) (hst : q.st = 0 ∨ q.st = 1 ∨ q.st = 2) :
    DoesG Try.prog 22 #[ptr vb, .int .i64 k] [gV, gL, gQ] fun e gs => e = .returned (.int .i64 q'.st) ∧ ∃ gV' gL' gQ', RefS vb s' (qs.set k q') gV' gL' gQ' ∧ gs = [gV', gL', gQ'] := by
  have h1 := refStep_g h hs hk hq hok hst
  have h2 := step_st (s := s) hst
  rw [E] at h1 h2
  rwa [ret_st h2] at h1
theorem refTry_c {v x k old ev : Int} (E : s.try k old ev = (s', v, x)) (h : RefS vb s qs gV gL gQ) (hs : SlabOk s) (h0 : 0 ≤ old) (h1 : old < 18446744073709551616) :
    DoesG Try.prog 23 #[ptr vb, .int .i64 k, .int .u64 old, .int .i64 ev] [gV, gL] fun e gs => e = .returned (.tuple #[.int .u64 v, .int .i64 x]) ∧ ∃ gV' gL', RefS vb s' qs gV' gL' gQ ∧ gs = [gV', gL'] := by
  have := refTry_g h hs k old ev h0 h1
  rwa [E] at this
theorem refDrop_c {x : Int} {b : Bool} (E : s.drop = (s', x)) (hb : decide (x = 0) = b) (h : RefS vb s qs gV gL gQ) (h0 : 0 ≤ s.count) (h1 : s.count ≤ 64) :
    DoesG Try.prog 25 #[ptr vb] [gV] fun e gs => e = .returned (.bool b) ∧ ∃ g', RefS vb s' qs g' gL gQ ∧ gs = [g'] := by
  have := refDrop_g h h0 h1
  rw [E] at this
  rwa [← hb]
end
theorem Try.infoReq : (Try.prog.info? 30).map (fun i => (i.zero, i.size, i.bytes)) = some (some (.pointer none), 1, 8) := by kernel_rfl
end Go.Proofs.Ytahpggnkifkkpaa
