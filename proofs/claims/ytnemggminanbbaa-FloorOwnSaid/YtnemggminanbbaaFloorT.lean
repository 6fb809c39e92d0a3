import Derived.Test.YtnemggminanbbaaFloorE
import Derived.Test.YtnemggminanbbaaCellU
import Derived.Laws.Externs
namespace Go.Proofs.Ytnemggminanbbaa
set_option linter.unusedVariables false
set_option linter.unusedSimpArgs false
open Go.RowKit Go.Shelf

/-! ## times.Add, Turn -/
theorem add64_run (x y : Int) (hx : 0 ≤ x) (hy : 0 ≤ y) (w : World) : (callFunc 78 #[.int .u64 x, .int .u64 y, .int .u64 0]).run Try.prog w =
    .ok (.value (.tuple #[.int .u64 ((x + y + 0) % 18446744073709551616), .int .u64 ((x + y + 0) / 18446744073709551616)])) w := by
  rw [run_callFunc_extern Try.func78 (by kernel_rfl) (by kernel_rfl) (by kernel_rfl) (e := add64Entry) (by kernel_rfl), run_add64 x y 0 hx hy (by omega) (by omega)]
  rfl
theorem timesAdd_g (x y : Int) (hx : 0 ≤ x) (hy : 0 ≤ y) (h : x + y < 18446744073709551616) : DoesG Try.prog 51 #[.int .u64 x, .int .u64 y] [] fun e gs => e = .returned (.tuple #[.int .u64 (x + y), .int .i64 0]) ∧ gs = [] := by
  intro w hw
  have T0 := TG.refl hw
  have HT := Lib.hid T0
  clear hw T0
  have ha : ∀ w, (callFunc 78 #[.int .u64 x, .int .u64 y, .int .u64 0]).run Try.prog w = .ok (.value (.tuple #[.int .u64 (x + y), .int .u64 0])) w := fun w => by
    rw [add64_run x y hx hy w, show (x + y + 0) % 18446744073709551616 = x + y by omega, show (x + y + 0) / 18446744073709551616 = 0 by omega]
  clear h hx hy
  go_enter Try.func51, Try.ntmps51
  go_wp2_with (simp only [ha])
  go_ret2
  exact ⟨_, ⟨rfl, rfl⟩, HT.out⟩
theorem storeU_g {b o : Nat} {T : TypeId} {C : Array Value} {n : Int} (x : Int) (hc : cellAt C o (.int .u64 n)) :
    DoesG Try.prog 53 #[.pointer (some ⟨b, o, none⟩), .int .u64 x] [[cl b T C]] fun e gs => e = .returned (.tuple #[]) ∧ ∃ C', Recell C o (.int .u64 x) C' ∧ gs = [[cl b T C']] := by
  intro w hw
  have T0 := TG.refl hw
  have HT := Lib.hid T0
  clear hw T0
  have c0 := (HT.out.cell 0 0 rfl o).trans hc.1
  have f0 := HT.out.free 0 0 rfl o
  have HC := Lib.hid hc
  clear hc
  go_enter Try.func53, Try.ntmps53
  go_wp2
  exact bodyPost_end (results_none rfl _ _ _) rfl ⟨_, ⟨rfl, _, recell_value HC.out, rfl⟩, HT.out.set 0 0 rfl o _⟩
theorem floorTurn_g {fb : Nat} {p : FPtr} {f : FloorS} {tr : Value} {g : List Blk} (hg : isFloor fb p f tr g) (h : 0 ≤ f.now ∧ f.now < 9223372036854775807) : DoesG Try.prog 18 #[ptr' fb] [g] fun e gs =>
    e = .returned (.tuple #[.int .u64 (f.now + 1), .int .i64 0]) ∧ ∃ g', isFloor fb p { f with now := f.now + 1 } tr g' ∧ gs = [g'] := by
  obtain ⟨C, rfl, hc⟩ := hg
  intro w hw
  have T0 := TG.refl hw
  have HT := Lib.hid T0
  clear hw T0
  have HC := Lib.hid hc
  have HA := Lib.hid (timesAdd_g f.now 1 h.1 (by omega) (by omega))
  clear hc h
  go_enter Try.func18, Try.ntmps18
  go_wp2_with fail
  refine (DoesG.use (cellG (loadU_does fb 22 _ C f.now HC.out.now)) (HT.out) [0] rfl rfl).mono ?_
  rintro e w1 ⟨gs, ⟨rfl, C1, hr, rfl⟩, Ta⟩
  simp only [PU] at Ta
  have HT := Lib.hid Ta
  clear Ta
  have HC1 := Lib.hid (HC.out.nowS hr)
  clear hr
  go_wp2_with fail
  refine (DoesG.use (HA.out) (HT.out) [] rfl rfl).mono ?_
  rintro e w1 ⟨gs, ⟨rfl, rfl⟩, Ta⟩
  simp only [PU] at Ta
  have HT := Lib.hid Ta
  clear Ta
  go_wp2_with fail
  refine (DoesG.use (storeU_g (f.now + 1) HC1.out.now) (HT.out) [0] rfl rfl).mono ?_
  rintro e w1 ⟨gs, ⟨rfl, C2, hr, rfl⟩, Ta⟩
  simp only [PU] at Ta
  have HT := Lib.hid Ta
  clear Ta
  have HC2 := Lib.hid (HC1.out.nowR hr)
  clear hr
  go_wp2
  go_ret2
  exact ⟨_, ⟨rfl, _, ⟨C2, rfl, HC2.out⟩, rfl⟩, HT.out⟩
end Go.Proofs.Ytnemggminanbbaa
