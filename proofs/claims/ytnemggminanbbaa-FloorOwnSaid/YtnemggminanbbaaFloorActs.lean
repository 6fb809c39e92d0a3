import Derived.Test.YtnemggminanbbaaFloorD
import Derived.Test.YtnemggminanbbaaFloorL
import Derived.Deep.RegionHeld3
namespace Go.Proofs.Ytnemggminanbbaa
set_option linter.unusedVariables false
set_option linter.unusedSimpArgs false
open Go.RowKit Go.Shelf

/-- acts that came in -/
def ActsAt (w : World) (a : Option Addr) (zs : List ActF) : Prop :=
  zs = [] ∨ ∃ b off, a = some ⟨b, off, none⟩ ∧ b < w.heap.size ∧ ∀ i j, i < zs.length → j < 12 → w.cell? ⟨b, off + (i * 12 + j), none⟩ = (zs.getD i ActF.zero).cells[j]?
theorem ActsAt.cells {w : World} {a : Option Addr} {zs : List ActF} (h : ActsAt w a zs) {k : Nat} (hk : k < zs.length) {H : GH} {w' : World} (T : TG [] w H w') :
    ∃ b off, a = some ⟨b, off, none⟩ ∧ b < w.heap.size ∧ ∃ z, zs.getD k ActF.zero = z ∧
    w'.cell? ⟨b, off + k * 12, none⟩ = some (.int .i64 z.kind) ∧ w'.cell? ⟨b, off + k * 12 + 1, none⟩ = some (.bool z.on) ∧
    w'.cell? ⟨b, off + k * 12 + 2, none⟩ = some (.int .i64 z.e.kind) ∧ w'.cell? ⟨b, off + k * 12 + 3, none⟩ = some (.int .i64 z.e.thread) ∧ w'.cell? ⟨b, off + k * 12 + 4, none⟩ = some (.int .i64 z.e.call) ∧ w'.cell? ⟨b, off + k * 12 + 5, none⟩ = some (.int .i64 z.e.what) ∧
    w'.cell? ⟨b, off + k * 12 + 6, none⟩ = some (.int .u64 z.e.id) ∧ w'.cell? ⟨b, off + k * 12 + 7, none⟩ = some (.int .u64 z.e.gen) ∧ w'.cell? ⟨b, off + k * 12 + 8, none⟩ = some (.int .u64 z.e.dl) ∧ w'.cell? ⟨b, off + k * 12 + 9, none⟩ = some (.int .u64 z.e.per) ∧ w'.cell? ⟨b, off + k * 12 + 10, none⟩ = some (.int .u64 z.e.tick) ∧ w'.cell? ⟨b, off + k * 12 + 11, none⟩ = some (.int .i64 z.e.err) := by
  rcases h with rfl | ⟨b, off, h1, h2, h3⟩
  · simp at hk
  · have hh := fun j (hj : j < 12) => (T.old (p := ⟨b, off + (k * 12 + j), none⟩) h2).trans (h3 k j hk hj)
    simp only [← Nat.add_assoc] at hh
    exact ⟨b, off, h1, h2, _, rfl, hh 0 (by omega), hh 1 (by omega), hh 2 (by omega), hh 3 (by omega), hh 4 (by omega), hh 5 (by omega), hh 6 (by omega), hh 7 (by omega), hh 8 (by omega), hh 9 (by omega), hh 10 (by omega), hh 11 (by omega)⟩
def flOf (c : Cfg) (s : CntS) : FloorS := ⟨c, s.closed, s.inside, s.busy, s.now⟩
def cnt0 : CntS := ⟨0, 0, false, 0, []⟩
theorem cnt0_ok : CntOk cnt0 0 := ⟨by decide, by decide, by decide, by decide, by decide, by decide, by decide⟩
theorem cntInside_c {fb : Nat} {p : FPtr} {c : Cfg} {s : CntS} {tr : Value} {g : List Blk} (hg : isFloor fb p (flOf c s) tr g) : DoesG Try.prog 31 #[ptr' fb] [g] fun e gs => e = .returned (.int .i64 s.inside) ∧ ∃ g', isFloor fb p (flOf c s) tr g' ∧ gs = [g'] := floorInside_g hg
theorem cntBusy_c {fb : Nat} {p : FPtr} {c : Cfg} {s : CntS} {tr : Value} {g : List Blk} (hg : isFloor fb p (flOf c s) tr g) : DoesG Try.prog 32 #[ptr' fb] [g] fun e gs => e = .returned (.int .i64 s.busy) ∧ ∃ g', isFloor fb p (flOf c s) tr g' ∧ gs = [g'] := floorBusy_g hg
theorem cntNow_c {fb : Nat} {p : FPtr} {c : Cfg} {s : CntS} {tr : Value} {g : List Blk} (hg : isFloor fb p (flOf c s) tr g) : DoesG Try.prog 38 #[ptr' fb] [g] fun e gs => e = .returned (.int .u64 s.now) ∧ ∃ g', isFloor fb p (flOf c s) tr g' ∧ gs = [g'] := floorNow_g hg
theorem cntClosed_c {fb : Nat} {p : FPtr} {c : Cfg} {s : CntS} {tr : Value} {g : List Blk} (hg : isFloor fb p (flOf c s) tr g) : DoesG Try.prog 37 #[ptr' fb] [g] fun e gs => e = .returned (.bool s.closed) ∧ ∃ g', isFloor fb p (flOf c s) tr g' ∧ gs = [g'] := floorClosed_g hg
end Go.Proofs.Ytnemggminanbbaa
