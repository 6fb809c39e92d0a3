import Derived.Test.YtnemggminanbbaaScrB
namespace Go.Proofs.Ytnemggminanbbaa
set_option linter.unusedVariables false
set_option linter.unusedSimpArgs false
open Go.RowKit

def Ent.zero : Ent := ⟨0, 0, 0, 0, 0, 0⟩
/-- the entry that is tried -/
def tryE (zs : List Int) : Ent := if zs.getD 0 0 = 1 then ⟨1, zs.getD 1 0, zs.getD 2 0, zs.getD 3 0, zs.getD 4 0, zs.getD 5 0⟩ else ⟨zs.getD 0 0, zs.getD 1 0, 0, 0, 0, 0⟩
/-- the entry of some bytes -/
def readE (zs : List Int) : Ent := if zs.length < 6 then Ent.zero else if (tryE zs).ok = true ∧ (tryE zs).bytes = zs then tryE zs else Ent.zero

theorem size_drew (w : World) : w.drew.heap.size = w.heap.size := rfl
def RetEnt (e : Ent) (w : World) (r : Ending) (w' : World) : Prop := r = .returned e.val ∧ Grew w w'

theorem Bytes.new {w : World} {b : Nat} {xs : List Int} {t : TypeId} (hx : ∀ x ∈ xs, 0 ≤ x ∧ x ≤ 255) (hb : w.heap[b]? = some (.cells (xs.map (Value.int .u8)).toArray t (0, 0))) : Bytes w (some ⟨b, 0, none⟩) xs := by
  refine ⟨hx, .inr ⟨b, 0, rfl, (Array.getElem?_eq_some_iff.1 hb).1, fun i hi => ?_⟩⟩
  simp [World.cell?, hb, List.getD_eq_getElem?_getD, List.getElem?_eq_getElem hi]
theorem Ent.bytes_range (e : Ent) : ∀ x ∈ e.bytes, 0 ≤ x ∧ x ≤ 255 := by
  intro x hx
  unfold Ent.bytes at hx
  split at hx <;> simp at hx <;> omega
theorem Ent.bytes_length (e : Ent) : e.bytes.length = 6 := by unfold Ent.bytes; split <;> rfl

theorem sc_other {w : World} {B i j : Nat} {v : Value} (h : i ≠ j) : (w.setCell ⟨B, i, none⟩ v).cell? ⟨B, j, none⟩ = w.cell? ⟨B, j, none⟩ :=
  World.cell?_setCell_other _ _ _ _ (fun e => h (by cases e; rfl))
theorem sc_same {w : World} {B i : Nat} {v : Value} (h : (w.cell? ⟨B, i, none⟩).isSome = true) : (w.setCell ⟨B, i, none⟩ v).cell? ⟨B, i, none⟩ = some v := by
  obtain ⟨u, hu⟩ := Option.isSome_iff_exists.1 h
  exact World.cell?_setCell_same _ _ _ hu

/-- six stores into one block -/
abbrev put6 (w : World) (B : Nat) (v0 v1 v2 v3 v4 v5 : Value) : World :=
  (((((w.setCell ⟨B, 0, none⟩ v0).setCell ⟨B, 1, none⟩ v1).setCell ⟨B, 2, none⟩ v2).setCell ⟨B, 3, none⟩ v3).setCell ⟨B, 4, none⟩ v4).setCell ⟨B, 5, none⟩ v5
theorem put6_only (w : World) (B : Nat) (v0 v1 v2 v3 v4 v5 : Value) : Only (fun j => j = B) w (put6 w B v0 v1 v2 v3 v4 v5) := by
  exact ((((((Only.refl (fun j => j = B) w).setCell ⟨B, 0, none⟩ (.inl rfl) v0).setCell ⟨B, 1, none⟩ (.inl rfl) v1).setCell ⟨B, 2, none⟩ (.inl rfl) v2).setCell ⟨B, 3, none⟩ (.inl rfl) v3).setCell ⟨B, 4, none⟩ (.inl rfl) v4).setCell ⟨B, 5, none⟩ (.inl rfl) v5
theorem put6_cells {w : World} {B : Nat} {c0 c1 c2 c3 c4 c5 : Value} (hk : ∀ o, w.cell? ⟨B, o, none⟩ = #[c0, c1, c2, c3, c4, c5][o]?) (v0 v1 v2 v3 v4 v5 : Value) :
    (put6 w B v0 v1 v2 v3 v4 v5).cell? ⟨B, 0, none⟩ = some v0 ∧ (put6 w B v0 v1 v2 v3 v4 v5).cell? ⟨B, 1, none⟩ = some v1 ∧ (put6 w B v0 v1 v2 v3 v4 v5).cell? ⟨B, 2, none⟩ = some v2 ∧
    (put6 w B v0 v1 v2 v3 v4 v5).cell? ⟨B, 3, none⟩ = some v3 ∧ (put6 w B v0 v1 v2 v3 v4 v5).cell? ⟨B, 4, none⟩ = some v4 ∧ (put6 w B v0 v1 v2 v3 v4 v5).cell? ⟨B, 5, none⟩ = some v5 := by
  have hk0 := hk 0
  have hk1 := hk 1
  have hk2 := hk 2
  have hk3 := hk 3
  have hk4 := hk 4
  have hk5 := hk 5
  simp at hk0 hk1 hk2 hk3 hk4 hk5
  refine ⟨?_, ?_, ?_, ?_, ?_, ?_⟩ <;> simp (disch := decide) only [put6, sc_other]
  · exact sc_same (by rw [hk0]; rfl)
  · refine sc_same ?_; simp (disch := decide) only [sc_other, hk1, Option.isSome_some]
  · refine sc_same ?_; simp (disch := decide) only [sc_other, hk2, Option.isSome_some]
  · refine sc_same ?_; simp (disch := decide) only [sc_other, hk3, Option.isSome_some]
  · refine sc_same ?_; simp (disch := decide) only [sc_other, hk4, Option.isSome_some]
  · refine sc_same ?_; simp (disch := decide) only [sc_other, hk5, Option.isSome_some]
theorem ret34 {fn : Func} {tmps : Array Value} {W : World} {B : Nat} {p : Tmp} {v0 v1 v2 v3 v4 v5 : Value} (hres : fn.results = #[.cell p 34]) (hp : tmps.getD p undef = .pointer (some ⟨B, 0, none⟩))
    (h : W.cell? ⟨B, 0, none⟩ = some v0 ∧ W.cell? ⟨B, 1, none⟩ = some v1 ∧ W.cell? ⟨B, 2, none⟩ = some v2 ∧ W.cell? ⟨B, 3, none⟩ = some v3 ∧ W.cell? ⟨B, 4, none⟩ = some v4 ∧ W.cell? ⟨B, 5, none⟩ = some v5) :
    (results fn tmps).run Try.prog W = .ok (.agg #[v0, v1, v2, v3, v4, v5]) W := by
  obtain ⟨h0, h1, h2, h3, h4, h5⟩ := h
  have hp' : tmps[p]?.getD undef = .pointer (some ⟨B, 0, none⟩) := by simpa using hp
  simp only [results, hres]
  simp [hp', go_sem, h0, h1, h2, h3, h4, h5]

set_option maxRecDepth 100000 in
set_option maxHeartbeats 2000000 in
theorem read_short (a : Option Addr) (cap : Nat) (zs : List Int) (w : World) (hl : zs.length < 6) :
    Calls Try.prog 42 #[.slice a zs.length cap] w (RetEnt (readE zs) w) := by
  have hr : readE zs = Ent.zero := if_pos hl
  have HR := Lib.hid hr; clear hr
  go_enter Try.func42, Try.ntmps42
  go_wp2
  refine bodyPost_ret (v := Ent.zero.val) (by simp [results, Try.results42, go_sem, Ent.val, Ent.zero]) rfl ⟨by rw [HR.out], ?_⟩
  exact (Only.refl _ _).alloc _

end Go.Proofs.Ytnemggminanbbaa
