import Derived.Test.YtblhfbcodbjgcaaGreatTU15
import Derived.Test.YtblhfbcodbjgcaaGreatTU16
import Derived.Test.YtblhfbcodbjgcaaGreatTU7
import Derived.Laws.Bits64
import Derived.Lib.Strings
import Derived.Lib.Slices
import Derived.Lib.Small
import Derived.Lib.Walk
import Derived.Lib.BitFns
namespace Go.Proofs.YtblhfbcodbjgcaaGreat
set_option linter.unusedVariables false
set_option linter.unusedSimpArgs false
open Go.RowKit Go.Shelf
set_option maxRecDepth 100000 in
theorem timesDigit_g (t l : Nat) (h1 : t < 18446744073709551616) (hl : l < 4) : ReadsG Tryz.prog 307 #[.int .u64 t, .int .i64 l] [] (.int .i64 (digT t l)) := by
  have hc : l = 0 ∨ l = 1 ∨ l = 2 ∨ l = 3 := by omega
  have e0 := u64_and_63 (t : Int) (by omega) (by omega)
  have e1 := u64_and_63 ((t : Int) / 64) (by omega) (by omega)
  have e2 := u64_and_63 ((t : Int) / 4096) (by omega) (by omega)
  have e3 := u64_and_63 ((t : Int) / 262144) (by omega) (by omega)
  have k0 : ((t : Int) % 64) = ((digT t 0 : Nat) : Int) := by unfold digT; omega
  have k1 : ((t : Int) / 64 % 64) = ((digT t 1 : Nat) : Int) := by unfold digT; omega
  have k2 : ((t : Int) / 4096 % 64) = ((digT t 2 : Nat) : Int) := by unfold digT; omega
  have k3 : ((t : Int) / 262144 % 64) = ((digT t 3 : Nat) : Int) := by unfold digT; omega
  rw [k0] at e0
  rw [k1] at e1
  rw [k2] at e2
  rw [k3] at e3
  have b : ∀ l, digT t l < 64 := fun l => Nat.mod_lt _ (by decide)
  have b0 := b 0
  have b1 := b 1
  have b2 := b 2
  have b3 := b 3
  generalize hd : digT t = d at *
  clear k0 k1 k2 k3 b hd h1
  rcases hc with rfl | rfl | rfl | rfl
  all_goals
    intro w hw
    have T0 := TG.refl hw
    have HT := Lib.hid T0
    clear hw T0
    go_enter Tryz.func307, Tryz.ntmps307
    go_wp2
    go_ret
    exact ⟨rfl, 0, rfl⟩
theorem xor_zero (a b : Nat) (h : a ^^^ b = 0) : a = b := by
  apply Nat.eq_of_testBit_eq
  intro i
  have := congrArg (·.testBit i) h
  simpa [Nat.testBit_xor] using this
def apartT (a b : Nat) : Int := if a = b then -1 else ((Lib.bitLen (a ^^^ b) : Int) - 1) / 6
set_option maxRecDepth 100000 in
theorem timesApart_g (a b : Nat) (ha : a < 18446744073709551616) (hb : b < 18446744073709551616) : ReadsG Tryz.prog 316 #[.int .u64 a, .int .u64 b] [] (.int .i64 (apartT a b)) := by
  by_cases h : a = b
  · have HE := Lib.hid (show apartT a b = -1 from if_pos h)
    have hq : ((a : Int) == (b : Int)) = true := by simp [h]
    intro w hw
    have T0 := TG.refl hw
    have HT := Lib.hid T0
    clear hw T0
    clear h ha hb
    go_enter Tryz.func316, Tryz.ntmps316
    go_wp2
    go_ret
    exact ⟨by rw [HE.out]; rfl, 0, rfl⟩
  · have HE := Lib.hid (show apartT a b = ((Lib.bitLen (a ^^^ b) : Int) - 1) / 6 from if_neg h)
    have hq : ((a : Int) == (b : Int)) = false := beq_eq_false_iff_ne.2 (by omega)
    have hx := bits_xor_u64_nat a b ha hb
    have hl := bits_Len64 ((a ^^^ b : Nat) : Int)
    have hlt : a ^^^ b < 18446744073709551616 := Nat.xor_lt_two_pow (n := 64) ha hb
    have h64 : Lib.bitLen (a ^^^ b) ≤ 64 := Lib.bitLen_le _ 64 (by decide) hlt
    have h0 : 1 ≤ Lib.bitLen (a ^^^ b) := by
      rw [Lib.bitLen_half _ (by intro h0; exact h (xor_zero a b h0)) hlt]; omega
    have HL := Lib.hid (fun w => hl w (by omega) (by omega))
    rw [Int.toNat_natCast] at HL
    generalize a ^^^ b = x at *
    generalize Lib.bitLen x = n at *
    intro w hw
    have T0 := TG.refl hw
    have HT := Lib.hid T0
    clear hw T0
    clear h ha hb hl hlt
    go_enter Tryz.func316, Tryz.ntmps316
    go_wp2_with (go_at_call 332; refine (HL.out _).mono ?_; rintro e w' ⟨rfl, rfl⟩)
    go_ret
    exact ⟨by rw [HE.out]; rfl, 0, rfl⟩
set_option maxRecDepth 100000 in
theorem timesLater_g (d now : Int) (hn0 : 0 ≤ now) (hn1 : now < 9223372036854775807) (hd0 : 0 ≤ d) (hd1 : d < 18446744073709551616) : DoesG Tryz.prog 327 #[.int .u64 d, .int .u64 now] [] fun e gs => e = .returned (.tuple #[.int .u64 (max d (now + 1)), .int .i64 0]) ∧ gs = [] := by
  have HA := Lib.hid (timesAdd_g now 1 hn0 (by omega) (by omega))
  intro w hw
  have T0 := TG.refl hw
  have HT := Lib.hid T0
  clear hw T0
  clear hn0 hn1
  by_cases h : d ≤ now + 1
  · have HM := Lib.hid (show max d (now + 1) = now + 1 from Int.max_eq_right h)
    go_enter Tryz.func327, Tryz.ntmps327
    go_wp2_with fail
    refine (DoesG.use (HA.out) (HT.out) [] rfl rfl).mono ?_
    rintro e w1 ⟨gs, ⟨rfl, rfl⟩, Ta⟩
    simp only [PU] at Ta
    have HT := Lib.hid Ta
    clear Ta
    go_wp2
    go_ret2
    exact ⟨_, ⟨by rw [HM.out]; first | rfl | simp, rfl⟩, HT.out⟩
  · have HM := Lib.hid (show max d (now + 1) = d from Int.max_eq_left (by omega))
    go_enter Tryz.func327, Tryz.ntmps327
    go_wp2_with fail
    refine (DoesG.use (HA.out) (HT.out) [] rfl rfl).mono ?_
    rintro e w1 ⟨gs, ⟨rfl, rfl⟩, Ta⟩
    simp only [PU] at Ta
    have HT := Lib.hid Ta
    clear Ta
    go_wp2
    go_ret2
    exact ⟨_, ⟨by rw [HM.out]; first | rfl | simp, rfl⟩, HT.out⟩
end Go.Proofs.YtblhfbcodbjgcaaGreat

namespace Go.Proofs.YtblhfbcodbjgcaaGreat
set_option linter.unusedVariables false
set_option linter.unusedSimpArgs false
open Go.RowKit Go.Shelf
structure EntS where
  dl : Int
  v : TaskS
  due : Nat
structure EntA where
  eb : Nat
  nb : Nat
  e : EntS
abbrev LvA := List (List EntA)
structure WheelA where
  now : Nat
  lv : List LvA
  by_ : List EntA
structure WheelS where
  now : Nat
  lv : List (List (List EntS))
  by_ : List EntS
def EntA.nd (a : EntA) : Nd := ⟨a.nb, [ptr' a.eb]⟩
def WheelA.s (w : WheelA) : WheelS := ⟨w.now, w.lv.map fun l => l.map fun s => s.map EntA.e, w.by_.map EntA.e⟩
def entC (home : Value) (e : EntS) (lv sl : Int) (nd : Value) : Array Value := #[.int .u64 e.dl, .int .u64 e.v.id, .int .i64 e.v.slot, .int .u64 e.v.gen, .int .u64 e.v.dl, .int .u64 e.v.per, .int .u64 e.due, home, .int .i64 lv, .int .i64 sl, nd]
def entB (eb : Nat) (home : Value) (e : EntS) (lv sl : Int) (nd : Value) : List Blk := [cl eb 370 (entC home e lv sl nd)]
def entP (home : Value) (a : EntA) (g : List Blk) : Prop := a.e.due < 18446744073709551616 ∧ ∃ lv sl nd, g = entB a.eb home a.e lv sl (.pointer nd)
def totA (ls : LvA) : Nat := (ls.map List.length).sum
def isLevE (vb : Nat) (home : Value) (ls : LvA) (g : List Blk) : Prop :=
  ∃ ss gl ge, isLevel vb ss gl ∧ ss.map SlotL.l = ls.map (fun l => l.map EntA.nd) ∧ FamP (FamP (entP home)) ls ge ∧ g = gl ++ ge
theorem isLevE.len {vb : Nat} {home : Value} {ls : LvA} {g : List Blk} (h : isLevE vb home ls g) : ls.length = 64 := by
  obtain ⟨ss, gl, ge, h1, h2, _⟩ := h
  have := congrArg List.length h2
  simp only [List.length_map] at this
  rw [← this]; exact h1.1
theorem tot_eq {ss : List SlotL} {ls : LvA} (h : ss.map SlotL.l = ls.map (fun l => l.map EntA.nd)) : totL ss = totA ls := by
  unfold totL totA
  have := congrArg (List.map List.length) h
  simp only [List.map_map, Function.comp_def, List.length_map] at this
  rw [this]
theorem slot_eq {ss : List SlotL} {ls : LvA} (h : ss.map SlotL.l = ls.map (fun l => l.map EntA.nd)) {k : Nat} {l : List EntA} (hk : ls[k]? = some l) : ∃ s, ss[k]? = some s ∧ s.l = l.map EntA.nd := by
  have := congrArg (fun x => x[k]?) h
  simp only [List.getElem?_map, hk, Option.map_some] at this
  cases hs : ss[k]? with
  | none => rw [hs] at this; cases this
  | some s => rw [hs] at this; simp only [Option.map_some, Option.some.injEq] at this; exact ⟨s, rfl, this⟩
theorem slot_set {ss : List SlotL} {ls : LvA} (h : ss.map SlotL.l = ls.map (fun l => l.map EntA.nd)) (k : Nat) (s : SlotL) (l : List EntA) (he : s.l = l.map EntA.nd) : (ss.set k s).map SlotL.l = (ls.set k l).map (fun l => l.map EntA.nd) := by
  rw [List.map_set, List.map_set, h, he]
theorem famP_map {α β : Type} {P : β → List Blk → Prop} {f : α → β} : ∀ {l : List α} {g : List Blk}, FamP P (l.map f) g → FamP (fun a => P (f a)) l g
  | [], _, h => h
  | a :: l, _, h => by
    obtain ⟨x, y, hx, hy, rfl⟩ := h
    exact ⟨x, y, hx, famP_map hy, rfl⟩
section
variable {vb : Nat} {home : Value} {ls : LvA} {g : List Blk}
set_option maxRecDepth 100000 in
theorem levPutE (hg : isLevE vb home ls g) {k : Nat} {l : List EntA} (hk : ls[k]? = some l) (ht : totA ls ≤ 1000000) (a : EntA) (ge : List Blk) (ha : entP home a ge) (p0 q0 : Value) :
    DoesG Tryz.prog 318 #[ptr' vb, .int .i64 k, ptr' a.nb] [g, ge, [cl a.nb 372 #[ptr' a.eb, p0, q0, .pointer none]]] fun e gs =>
      e = .returned (.int .i64 0) ∧ ∃ g', isLevE vb home (ls.set k (l ++ [a])) g' ∧ gs = [g'] := by
  have h64 := hg.len
  obtain ⟨ss, gl, gE, h1, h2, h3, rfl⟩ := hg
  have hk64 : k < 64 := by have := (List.getElem?_eq_some_iff.1 hk).1; omega
  obtain ⟨s, hs, hsl⟩ := slot_eq h2 hk
  have hts := tot_eq h2
  have hge := totL_ge hs
  obtain ⟨u, y, hu, hp, hback⟩ := h3.out hk
  obtain ⟨gE', hE', hp'⟩ := hback (l ++ [a]) (u ++ ge) (FamP.snoc hu ha)
  intro w hw
  have T := (((TG.refl hw).sum (H' := [gl, gE, ge, [cl a.nb 372 #[ptr' a.eb, p0, q0, .pointer none]]]) (fun n ha h0 h1 h2 => by simp only [SU, ha, h0, h1, h2] <;> omega)).permAt 1 rfl hp).sum (H' := [gl, u, y, ge, [cl a.nb 372 #[ptr' a.eb, p0, q0, .pointer none]]]) (fun n ha h0 h1 h2 => by simp only [SU, ha, h0, h1, h2] <;> omega)
  refine (DoesG.use (levPut_g h1 hs hk64 (by omega) (by omega) a.nb (ptr' a.eb) p0 q0) T [0, 4] rfl rfl).mono ?_
  rintro e w' ⟨gs, ⟨he, g1, hn1, rfl⟩, T'⟩
  refine ⟨_, ⟨he, _, ⟨_, g1, gE', hn1, slot_set h2 k _ _ (by simp [hsl, EntA.nd]), hE', rfl⟩, rfl⟩, ?_⟩
  exact ((TG.sum (H := [g1, u, y, ge, []]) (H' := [g1, u ++ ge ++ y]) T' (fun n ha h0 h1 h2 => by simp only [SU, ha, h0, h1, h2] <;> omega)).permAt 1 rfl hp').sum (fun n ha h0 h1 h2 => by simp only [SU, ha, h0, h1, h2] <;> omega)
set_option maxRecDepth 100000 in
theorem levTakeE (hg : isLevE vb home ls g) {k : Nat} {l : List EntA} (hk : ls[k]? = some l) (ht : totA ls ≤ 1000000) :
    DoesG Tryz.prog 306 #[ptr' vb, .int .i64 k] [g] fun e gs =>
      ∃ v gr gn ge g', e = .returned v ∧ rowG 296 1 v l.length (l.map fun a => ptr' a.nb) gr ∧ FamP (fun a => nodeFreeP a.nd) l gn ∧ FamP (entP home) l ge ∧ isLevE vb home (ls.set k []) g' ∧ gs = [g', gr, gn, ge] := by
  have h64 := hg.len
  obtain ⟨ss, gl, gE, h1, h2, h3, rfl⟩ := hg
  have hk64 : k < 64 := by have := (List.getElem?_eq_some_iff.1 hk).1; omega
  obtain ⟨s, hs, hsl⟩ := slot_eq h2 hk
  have hts := tot_eq h2
  obtain ⟨u, y, hu, hp, hback⟩ := h3.out hk
  obtain ⟨gE', hE', hp'⟩ := hback [] [] rfl
  intro w hw
  have T := (((TG.refl hw).sum (H' := [gl, gE]) (fun n ha h0 h1 h2 => by simp only [SU, ha, h0, h1, h2] <;> omega)).permAt 1 rfl hp).sum (H' := [gl, u, y]) (fun n ha h0 h1 h2 => by simp only [SU, ha, h0, h1, h2] <;> omega)
  refine (DoesG.use (levTake_g h1 hs hk64 (by omega)) T [0] rfl rfl).mono ?_
  rintro e w' ⟨gs, ⟨v, gr, gn, g1, he, hr, hn, hl1, rfl⟩, T'⟩
  refine ⟨_, ⟨v, gr, gn, u, _, he, ?_, ?_, hu, ⟨_, g1, gE', hl1, slot_set h2 k _ _ rfl, hE', rfl⟩, rfl⟩, ?_⟩
  · rw [hsl, List.length_map, List.map_map] at hr; exact hr
  · rw [hsl] at hn; exact famP_map hn
  · exact ((TG.sum (H := [g1, u, y, gr, gn]) (H' := [g1, [] ++ y, gr, gn, u]) T' (fun n ha h0 h1 h2 => by simp only [SU, ha, h0, h1, h2] <;> omega)).permAt 1 rfl hp').sum (fun n ha h0 h1 h2 => by simp only [SU, ha, h0, h1, h2] <;> omega)
end
end Go.Proofs.YtblhfbcodbjgcaaGreat

namespace Go.Proofs.YtblhfbcodbjgcaaGreat
set_option linter.unusedVariables false
set_option linter.unusedSimpArgs false
open Go.RowKit Go.Shelf
def totW (w : WheelA) : Nat := (w.lv.map totA).sum + w.by_.length
structure whC (vs : List Nat) (bb : Nat) (now n : Nat) (C : Array Value) : Prop where
  size : C.size = 7
  now : C[0]? = some (.int .u64 now)
  lv : ∀ (i : Nat) (v : Nat), vs[i]? = some v → C[1 + i]? = some (ptr' v)
  by_ : C[5]? = some (ptr' bb)
  n : C[6]? = some (.int .i64 n)
def isWheelA (wb : Nat) (w : WheelA) (n : Nat) (g : List Blk) : Prop :=
  ∃ C vs bb bh gV gB gE, whC vs bb w.now n C ∧ vs.length = 4 ∧ w.lv.length = 4 ∧ FamP (fun (z : Nat × LvA) => isLevE z.1 (ptr' wb) z.2) (vs.zip w.lv) gV ∧ isListE bb bh (w.by_.map EntA.nd) gB ∧ FamP (entP (ptr' wb)) w.by_ gE ∧
    g = [cl wb 244 C] ++ (gV ++ (gB ++ gE))
def lvl (now : Nat) (due : Nat) : Nat := (max 0 (apartT due now)).toNat
def WheelA.place (w : WheelA) (a : EntA) : WheelA :=
  if 4 ≤ lvl w.now a.e.due then { w with by_ := w.by_ ++ [a] }
  else { w with lv := w.lv.modify (lvl w.now a.e.due) (fun l => l.modify (digT a.e.due (lvl w.now a.e.due)) (· ++ [a])) }
structure WhOk (w : WheelA) : Prop where
  now : w.now < 16777215
  tot : totW w ≤ 999999
theorem modify_set {α : Type} {l : List α} {k : Nat} {a : α} (h : l[k]? = some a) (f : α → α) : l.modify k f = l.set k (f a) := by
  apply List.ext_getElem?
  intro i
  rw [List.getElem?_modify, List.getElem?_set]
  by_cases hi : k = i
  · subst hi
    have := (List.getElem?_eq_some_iff.1 h)
    simp [h, this.1, this.2]
  · simp [hi]
theorem dig_lt (t l : Nat) : digT t l < 64 := Nat.mod_lt _ (by decide)
theorem sum_ge {l : List Nat} {k a : Nat} (h : l[k]? = some a) : a ≤ l.sum := by
  induction l generalizing k with
  | nil => simp at h
  | cons b l ih =>
    cases k with
    | zero => simp at h; subst h; simp
    | succ k => simp at h; have := ih h; simp; omega
theorem totW_lv {w : WheelA} {k : Nat} {l : LvA} (h : w.lv[k]? = some l) : totA l ≤ totW w := by
  have := sum_ge (l := w.lv.map totA) (k := k) (a := totA l) (by rw [List.getElem?_map, h]; rfl)
  unfold totW; omega
theorem lv_at {w : WheelA} (h : w.lv.length = 4) {k : Nat} (hk : k < 4) : ∃ l, w.lv[k]? = some l := ⟨_, List.getElem?_eq_getElem (by omega)⟩
section
variable {wb : Nat} {w : WheelA} {n : Nat} {g : List Blk}
set_option maxRecDepth 100000 in
set_option maxHeartbeats 4000000 in
theorem place_g (hg : isWheelA wb w n g) (ho : WhOk w) (a : EntA) (ge : List Blk) (ha : entP (ptr' wb) a ge) :
    DoesG Tryz.prog 304 #[ptr' wb, ptr' a.eb] [g, ge] fun e gs => e = .returned (.tuple #[]) ∧ ∃ nb g', isWheelA wb (w.place { a with nb := nb }) n g' ∧ gs = [g'] := by
  obtain ⟨C, vs, bb, bh, gV, gB, gE, hC, hvl, hll, hV, hB, hE, rfl⟩ := hg
  obtain ⟨hd, lv, sl, nd, rfl⟩ := ha
  have HDU := Lib.hid hd
  obtain ⟨lo, hlo⟩ : ∃ lo, lo = lvl w.now a.e.due := ⟨_, rfl⟩
  have hap : max 0 (apartT a.e.due w.now) = (lo : Int) := by rw [hlo]; unfold lvl; omega
  have HAP := Lib.hid (timesApart_g a.e.due w.now hd (by have := ho.now; omega))
  obtain ⟨ap, hape⟩ : ∃ ap, ap = apartT a.e.due w.now := ⟨_, rfl⟩
  rw [← hape] at hap HAP
  have HBY := Lib.hid (show w.by_.length ≤ 1000000 from by have := ho.tot; unfold totW at this; omega)
  by_cases h4 : 4 ≤ lo
  · have HLO := Lib.hid hlo
    have hpl : ∀ nb, w.place { a with nb := nb } = { w with by_ := w.by_ ++ [{ a with nb := nb }] } := fun nb => if_pos (by rw [← hlo]; exact h4)
    simp only [hpl]
    have hge : decide ((lo : Int) ≥ 4) = true := decide_eq_true (by omega)
    intro w hw
    have T0 := TG.refl hw
    have HT := Lib.hid T0
    clear hw T0
    have HT := Lib.hid (HT.out.sum (H' := [[cl wb 244 C], gV, gB, gE, entB a.eb (ptr' wb) a.e lv sl (.pointer nd)]) (fun n ha h0 h1 h2 => by simp only [SU, ha, h0, h1, h2] <;> omega))
    have HC := Lib.hid hC
    have HV := Lib.hid hV
    have HB := Lib.hid hB
    have HE := Lib.hid hE
    have HL4 := Lib.hid (And.intro hvl hll)
    have c0 := (HT.out.cell 0 0 rfl 0).trans hC.now
    have e6 := HT.out.cell 4 0 rfl 6
    have e8 := HT.out.cell 4 0 rfl 8
    have fe8 := HT.out.free 4 0 rfl 8
    have e9 := HT.out.cell 4 0 rfl 9
    have fe9 := HT.out.free 4 0 rfl 9
    have e10 := HT.out.cell 4 0 rfl 10
    have fe10 := HT.out.free 4 0 rfl 10
    simp only [entC, List.getElem?_toArray, List.getElem?_cons_zero, List.getElem?_cons_succ] at e6 e8 e9 e10
    clear hV hB hE hC ho hlo hpl hd hape hvl hll
    go_enter Tryz.func304, Tryz.ntmps304
    go_wp2_with fail
    refine wp_region_mix1 13 (by kernel_rfl) (by kernel_rfl) ?_
    simp only [List.take_succ_cons, List.take_zero, List.drop_succ_cons, List.drop_zero]
    repeat (go_big_quiet_step ((first | (go_at_call 316; with_reducible exact ReadsG.quiet (HAP.out) HT.out _ [] rfl rfl))))
    refine wpQuiet_nil ?_
    intro _ hw'
    obtain ⟨nq, hw''⟩ := hw'
    subst hw''
    have HT := Lib.hid (HT.out.drewN nq)
    go_wp2_with fail
    refine ⟨rfl, ?_⟩
    have HT := Lib.hid ((HT.out.set 4 0 rfl 8 (.int .i64 lo)).eq (H' := [[cl wb 244 C], gV, gB, gE, entB a.eb (ptr' wb) a.e lo sl (.pointer nd)]) rfl)
    clear c0 e6 e8 fe8 e9 fe9 e10 fe10
    generalize World.setCell _ _ _ = w2 at HT ⊢
    have e8 := HT.out.cell 4 0 rfl 8
    have e10 := HT.out.cell 4 0 rfl 10
    have fe10 := HT.out.free 4 0 rfl 10
    simp only [entC, List.getElem?_toArray, List.getElem?_cons_zero, List.getElem?_cons_succ] at e8 e10
    have lte := HT.out.lt 4 0 rfl
    simp only [] at lte
    go_wp2_with fail
    obtain ⟨nb, hnb⟩ : ∃ nb, nb = w2.heap.size := ⟨_, rfl⟩
    have HT := Lib.hid (((HT.out.set 4 0 rfl 10 (ptr' nb)).alloc (k := nb) (by rw [hnb]; simp) 372 #[ptr' a.eb, .pointer none, .pointer none, .pointer none]).eq (H' := [[cl wb 244 C], gV, gB, gE, entB a.eb (ptr' wb) a.e lo sl (ptr' nb), [cl nb 372 #[ptr' a.eb, .pointer none, .pointer none, .pointer none]]]) rfl)
    rw [← hnb]
    clear e8 e10 fe10 lte
    generalize World.alloc _ _ = w3 at HT ⊢
    clear hnb
    have e10 := HT.out.cell 4 0 rfl 10
    simp only [entC, List.getElem?_toArray, List.getElem?_cons_zero, List.getElem?_cons_succ] at e10
    have c5 := (HT.out.cell 0 0 rfl 5).trans HC.out.by_
    refine wp_region_mix1 8 (by kernel_rfl) (by kernel_rfl) ?_
    simp only [List.take_succ_cons, List.take_zero, List.drop_succ_cons, List.drop_zero]
    repeat (go_big_quiet_step ((fail)))
    refine wpQuiet_nil ?_
    intro _ hw'
    obtain ⟨nq, hw''⟩ := hw'
    subst hw''
    have HT := Lib.hid (HT.out.drewN nq)
    go_wp2_with fail
    refine (DoesG.use (listPutE_g HB.out (by have := HBY.out; simp only [List.length_map]; omega) nb (ptr' a.eb) (.pointer none) (.pointer none)) (HT.out) [2, 5] rfl rfl).mono ?_
    rintro e w1 ⟨gs, ⟨rfl, g1, hg1, rfl⟩, Ta⟩
    simp only [PU] at Ta
    have HG1 := Lib.hid hg1
    clear hg1 e10 c5
    have HT := Lib.hid Ta
    clear Ta
    go_wp2_with fail
    refine ⟨rfl, ?_⟩
    go_wp2
    exact bodyPost_ret (v := .tuple #[]) (results_none rfl _ _ _) rfl ⟨_, ⟨rfl, nb, _, ⟨C, vs, bb, bh, gV, g1, gE ++ entB a.eb (ptr' wb) a.e lo sl (ptr' nb), HC.out, HL4.out.1, HL4.out.2, HV.out, (by simpa [EntA.nd] using HG1.out), FamP.snoc HE.out ⟨HDU.out, _, _, _, rfl⟩, rfl⟩, rfl⟩, (HT.out.pick [0, 1, 2, 3, 4] rfl).sum (fun n ha h0 h1 h2 => by simp only [SU, ha, h0, h1, h2] <;> omega)⟩
  · have h : lo = 0 ∨ lo = 1 ∨ lo = 2 ∨ lo = 3 := by omega
    obtain ⟨ls, hls⟩ := lv_at hll (k := lo) (by omega)
    obtain ⟨vb, hvb⟩ : ∃ vb, vs[lo]? = some vb := ⟨_, List.getElem?_eq_getElem (by omega)⟩
    have hz : (vs.zip w.lv)[lo]? = some (vb, ls) := zip_at hvb hls
    obtain ⟨u, y, hu, hp, hback⟩ := hV.out hz
    have hta : totA ls ≤ 1000000 := by have := totW_lv hls; have := ho.tot; omega
    simp only at hu
    obtain ⟨sl0, hsl⟩ : ∃ s, ls[digT a.e.due lo]? = some s := ⟨_, List.getElem?_eq_getElem (by rw [hu.len]; exact dig_lt _ _)⟩
    clear h4
    rcases h with rfl | rfl | rfl | rfl
    · have HLO := Lib.hid hlo
      have hpl : ∀ nb, w.place { a with nb := nb } = { w with lv := w.lv.set 0 (ls.set (digT a.e.due 0) (sl0 ++ [{ a with nb := nb }])) } := fun nb => by
        unfold WheelA.place
        rw [← hlo, if_neg (by decide), modify_set hls, modify_set hsl]
      simp only [hpl]
      have HDG := Lib.hid (show ReadsG Tryz.prog 307 #[.int .u64 a.e.due, .int .i64 0] [] (.int .i64 (digT a.e.due 0)) from timesDigit_g a.e.due 0 hd (by decide))
      have hdl := dig_lt a.e.due 0
      intro w hw
      have T0 := TG.refl hw
      have HT := Lib.hid T0
      clear hw T0
      have HT := Lib.hid (((HT.out.sum (H' := [[cl wb 244 C], gV, gB, gE, entB a.eb (ptr' wb) a.e lv sl (.pointer nd)]) (fun n ha h0 h1 h2 => by simp only [SU, ha, h0, h1, h2] <;> omega)).permAt 1 rfl hp).sum (H' := [[cl wb 244 C], u, gB, gE, entB a.eb (ptr' wb) a.e lv sl (.pointer nd), y]) (fun n ha h0 h1 h2 => by simp only [SU, ha, h0, h1, h2] <;> omega))
      have HC := Lib.hid hC
      have HU := Lib.hid hu
      have HBK := Lib.hid hback
      have HB := Lib.hid hB
      have HE := Lib.hid hE
      have HVB := Lib.hid (hC.lv 0 vb hvb)
      have HSL := Lib.hid hsl
      have HTA := Lib.hid (show totA ls ≤ 1000000 from hta)
      have HVL := Lib.hid (And.intro hvl (And.intro hll hvb))
      generalize digT a.e.due 0 = dg at *
      have c0 := (HT.out.cell 0 0 rfl 0).trans hC.now
      have e6 := HT.out.cell 4 0 rfl 6
      have e8 := HT.out.cell 4 0 rfl 8
      have fe8 := HT.out.free 4 0 rfl 8
      have e9 := HT.out.cell 4 0 rfl 9
      have fe9 := HT.out.free 4 0 rfl 9
      have e10 := HT.out.cell 4 0 rfl 10
      have fe10 := HT.out.free 4 0 rfl 10
      simp only [entC, List.getElem?_toArray, List.getElem?_cons_zero, List.getElem?_cons_succ] at e6 e8 e9 e10
      clear hu hB hE hC ho hlo hpl hd hape hV hp hback hls hsl hta hvb hvl hll
      go_enter Tryz.func304, Tryz.ntmps304
      go_wp2_with fail
      refine wp_region_mix1 13 (by kernel_rfl) (by kernel_rfl) ?_
      simp only [List.take_succ_cons, List.take_zero, List.drop_succ_cons, List.drop_zero]
      repeat (go_big_quiet_step ((first | (go_at_call 316; with_reducible exact ReadsG.quiet (HAP.out) HT.out _ [] rfl rfl))))
      refine wpQuiet_nil ?_
      intro _ hw'
      obtain ⟨nq, hw''⟩ := hw'
      subst hw''
      have HT := Lib.hid (HT.out.drewN nq)
      go_wp2_with fail
      refine ⟨rfl, ?_⟩
      have HT := Lib.hid ((HT.out.set 4 0 rfl 8 (.int .i64 0)).eq (H' := [[cl wb 244 C], u, gB, gE, entB a.eb (ptr' wb) a.e 0 sl (.pointer nd), y]) rfl)
      clear c0 e6 e8 fe8 e9 fe9 e10 fe10
      generalize World.setCell _ _ _ = w2 at HT ⊢
      have e8 := HT.out.cell 4 0 rfl 8
      have e10 := HT.out.cell 4 0 rfl 10
      have fe10 := HT.out.free 4 0 rfl 10
      simp only [entC, List.getElem?_toArray, List.getElem?_cons_zero, List.getElem?_cons_succ] at e8 e10
      have lte := HT.out.lt 4 0 rfl
      simp only [] at lte
      go_wp2_with fail
      obtain ⟨nb, hnb⟩ : ∃ nb, nb = w2.heap.size := ⟨_, rfl⟩
      have HT := Lib.hid (((HT.out.set 4 0 rfl 10 (ptr' nb)).alloc (k := nb) (by rw [hnb]; simp) 372 #[ptr' a.eb, .pointer none, .pointer none, .pointer none]).eq (H' := [[cl wb 244 C], u, gB, gE, entB a.eb (ptr' wb) a.e 0 sl (ptr' nb), y, [cl nb 372 #[ptr' a.eb, .pointer none, .pointer none, .pointer none]]]) rfl)
      rw [← hnb]
      clear e8 e10 fe10 lte
      generalize World.alloc _ _ = w3 at HT ⊢
      clear hnb
      have e6 := HT.out.cell 4 0 rfl 6
      have e8 := HT.out.cell 4 0 rfl 8
      have e9 := HT.out.cell 4 0 rfl 9
      have fe9 := HT.out.free 4 0 rfl 9
      simp only [entC, List.getElem?_toArray, List.getElem?_cons_zero, List.getElem?_cons_succ] at e6 e8 e9
      refine wp_region_mix1 12 (by kernel_rfl) (by kernel_rfl) ?_
      simp only [List.take_succ_cons, List.take_zero, List.drop_succ_cons, List.drop_zero]
      repeat (go_big_quiet_step ((first | (go_at_call 307; with_reducible exact ReadsG.quiet (HDG.out) HT.out _ [] rfl rfl))))
      refine wpQuiet_nil ?_
      intro _ hw'
      obtain ⟨nq, hw''⟩ := hw'
      subst hw''
      have HT := Lib.hid (HT.out.drewN nq)
      go_wp2_with fail
      refine ⟨rfl, ?_⟩
      have HT := Lib.hid ((HT.out.set 4 0 rfl 9 (.int .i64 dg)).eq (H' := [[cl wb 244 C], u, gB, gE, entB a.eb (ptr' wb) a.e 0 dg (ptr' nb), y, [cl nb 372 #[ptr' a.eb, .pointer none, .pointer none, .pointer none]]]) rfl)
      clear e6 e8 e9 fe9
      generalize World.setCell _ _ _ = w4 at HT ⊢
      have e8 := HT.out.cell 4 0 rfl 8
      have e9 := HT.out.cell 4 0 rfl 9
      have e10 := HT.out.cell 4 0 rfl 10
      simp only [entC, List.getElem?_toArray, List.getElem?_cons_zero, List.getElem?_cons_succ] at e8 e9 e10
      have c5 := (HT.out.cell 0 0 rfl (1 + 0)).trans HVB.out
      go_wp2_with fail
      refine wp_region_mix1 17 (by kernel_rfl) (by kernel_rfl) ?_
      simp only [List.take_succ_cons, List.take_zero, List.drop_succ_cons, List.drop_zero]
      repeat (go_big_quiet_step ((fail)))
      refine wpQuiet_nil ?_
      intro _ hw'
      obtain ⟨nq, hw''⟩ := hw'
      subst hw''
      have HT := Lib.hid (HT.out.drewN nq)
      go_wp2_with fail
      refine (DoesG.use (levPutE HU.out HSL.out HTA.out { a with nb := nb } (entB a.eb (ptr' wb) a.e 0 dg (ptr' nb)) ⟨HDU.out, _, _, _, rfl⟩ (.pointer none) (.pointer none)) (HT.out) [1, 4, 6] rfl rfl).mono ?_
      rintro e w1 ⟨gs, ⟨rfl, g1, hg1, rfl⟩, Ta⟩
      simp only [PU] at Ta
      have HG1 := Lib.hid hg1
      clear hg1 e8 e9 e10 c5
      have HT := Lib.hid Ta
      clear Ta
      go_wp2_with fail
      refine ⟨rfl, ?_⟩
      go_wp2
      obtain ⟨gV', hV', hp'⟩ := HBK.out (vb, ls.set dg (sl0 ++ [{ a with nb := nb }])) g1 HG1.out
      exact bodyPost_end (results_none rfl _ _ _) rfl ⟨_, ⟨rfl, nb, _, ⟨C, vs, bb, bh, gV', gB, gE, HC.out, HVL.out.1, (by rw [List.length_set]; exact HVL.out.2.1), (by rw [← zip_set 0 HVL.out.2.2]; exact hV'), HB.out, HE.out, rfl⟩, rfl⟩, (((HT.out.sum (H' := [[cl wb 244 C], g1 ++ y, gB, gE]) (fun n ha h0 h1 h2 => by simp only [SU, ha, h0, h1, h2] <;> omega)).permAt 1 rfl hp').sum (fun n ha h0 h1 h2 => by simp only [SU, ha, h0, h1, h2] <;> omega))⟩
    · have HLO := Lib.hid hlo
      have hpl : ∀ nb, w.place { a with nb := nb } = { w with lv := w.lv.set 1 (ls.set (digT a.e.due 1) (sl0 ++ [{ a with nb := nb }])) } := fun nb => by
        unfold WheelA.place
        rw [← hlo, if_neg (by decide), modify_set hls, modify_set hsl]
      simp only [hpl]
      have HDG := Lib.hid (show ReadsG Tryz.prog 307 #[.int .u64 a.e.due, .int .i64 1] [] (.int .i64 (digT a.e.due 1)) from timesDigit_g a.e.due 1 hd (by decide))
      have hdl := dig_lt a.e.due 1
      intro w hw
      have T0 := TG.refl hw
      have HT := Lib.hid T0
      clear hw T0
      have HT := Lib.hid (((HT.out.sum (H' := [[cl wb 244 C], gV, gB, gE, entB a.eb (ptr' wb) a.e lv sl (.pointer nd)]) (fun n ha h0 h1 h2 => by simp only [SU, ha, h0, h1, h2] <;> omega)).permAt 1 rfl hp).sum (H' := [[cl wb 244 C], u, gB, gE, entB a.eb (ptr' wb) a.e lv sl (.pointer nd), y]) (fun n ha h0 h1 h2 => by simp only [SU, ha, h0, h1, h2] <;> omega))
      have HC := Lib.hid hC
      have HU := Lib.hid hu
      have HBK := Lib.hid hback
      have HB := Lib.hid hB
      have HE := Lib.hid hE
      have HVB := Lib.hid (hC.lv 1 vb hvb)
      have HSL := Lib.hid hsl
      have HTA := Lib.hid (show totA ls ≤ 1000000 from hta)
      have HVL := Lib.hid (And.intro hvl (And.intro hll hvb))
      generalize digT a.e.due 1 = dg at *
      have c0 := (HT.out.cell 0 0 rfl 0).trans hC.now
      have e6 := HT.out.cell 4 0 rfl 6
      have e8 := HT.out.cell 4 0 rfl 8
      have fe8 := HT.out.free 4 0 rfl 8
      have e9 := HT.out.cell 4 0 rfl 9
      have fe9 := HT.out.free 4 0 rfl 9
      have e10 := HT.out.cell 4 0 rfl 10
      have fe10 := HT.out.free 4 0 rfl 10
      simp only [entC, List.getElem?_toArray, List.getElem?_cons_zero, List.getElem?_cons_succ] at e6 e8 e9 e10
      clear hu hB hE hC ho hlo hpl hd hape hV hp hback hls hsl hta hvb hvl hll
      go_enter Tryz.func304, Tryz.ntmps304
      go_wp2_with fail
      refine wp_region_mix1 13 (by kernel_rfl) (by kernel_rfl) ?_
      simp only [List.take_succ_cons, List.take_zero, List.drop_succ_cons, List.drop_zero]
      repeat (go_big_quiet_step ((first | (go_at_call 316; with_reducible exact ReadsG.quiet (HAP.out) HT.out _ [] rfl rfl))))
      refine wpQuiet_nil ?_
      intro _ hw'
      obtain ⟨nq, hw''⟩ := hw'
      subst hw''
      have HT := Lib.hid (HT.out.drewN nq)
      go_wp2_with fail
      refine ⟨rfl, ?_⟩
      have HT := Lib.hid ((HT.out.set 4 0 rfl 8 (.int .i64 1)).eq (H' := [[cl wb 244 C], u, gB, gE, entB a.eb (ptr' wb) a.e 1 sl (.pointer nd), y]) rfl)
      clear c0 e6 e8 fe8 e9 fe9 e10 fe10
      generalize World.setCell _ _ _ = w2 at HT ⊢
      have e8 := HT.out.cell 4 0 rfl 8
      have e10 := HT.out.cell 4 0 rfl 10
      have fe10 := HT.out.free 4 0 rfl 10
      simp only [entC, List.getElem?_toArray, List.getElem?_cons_zero, List.getElem?_cons_succ] at e8 e10
      have lte := HT.out.lt 4 0 rfl
      simp only [] at lte
      go_wp2_with fail
      obtain ⟨nb, hnb⟩ : ∃ nb, nb = w2.heap.size := ⟨_, rfl⟩
      have HT := Lib.hid (((HT.out.set 4 0 rfl 10 (ptr' nb)).alloc (k := nb) (by rw [hnb]; simp) 372 #[ptr' a.eb, .pointer none, .pointer none, .pointer none]).eq (H' := [[cl wb 244 C], u, gB, gE, entB a.eb (ptr' wb) a.e 1 sl (ptr' nb), y, [cl nb 372 #[ptr' a.eb, .pointer none, .pointer none, .pointer none]]]) rfl)
      rw [← hnb]
      clear e8 e10 fe10 lte
      generalize World.alloc _ _ = w3 at HT ⊢
      clear hnb
      have e6 := HT.out.cell 4 0 rfl 6
      have e8 := HT.out.cell 4 0 rfl 8
      have e9 := HT.out.cell 4 0 rfl 9
      have fe9 := HT.out.free 4 0 rfl 9
      simp only [entC, List.getElem?_toArray, List.getElem?_cons_zero, List.getElem?_cons_succ] at e6 e8 e9
      refine wp_region_mix1 12 (by kernel_rfl) (by kernel_rfl) ?_
      simp only [List.take_succ_cons, List.take_zero, List.drop_succ_cons, List.drop_zero]
      repeat (go_big_quiet_step ((first | (go_at_call 307; with_reducible exact ReadsG.quiet (HDG.out) HT.out _ [] rfl rfl))))
      refine wpQuiet_nil ?_
      intro _ hw'
      obtain ⟨nq, hw''⟩ := hw'
      subst hw''
      have HT := Lib.hid (HT.out.drewN nq)
      go_wp2_with fail
      refine ⟨rfl, ?_⟩
      have HT := Lib.hid ((HT.out.set 4 0 rfl 9 (.int .i64 dg)).eq (H' := [[cl wb 244 C], u, gB, gE, entB a.eb (ptr' wb) a.e 1 dg (ptr' nb), y, [cl nb 372 #[ptr' a.eb, .pointer none, .pointer none, .pointer none]]]) rfl)
      clear e6 e8 e9 fe9
      generalize World.setCell _ _ _ = w4 at HT ⊢
      have e8 := HT.out.cell 4 0 rfl 8
      have e9 := HT.out.cell 4 0 rfl 9
      have e10 := HT.out.cell 4 0 rfl 10
      simp only [entC, List.getElem?_toArray, List.getElem?_cons_zero, List.getElem?_cons_succ] at e8 e9 e10
      have c5 := (HT.out.cell 0 0 rfl (1 + 1)).trans HVB.out
      go_wp2_with fail
      refine wp_region_mix1 17 (by kernel_rfl) (by kernel_rfl) ?_
      simp only [List.take_succ_cons, List.take_zero, List.drop_succ_cons, List.drop_zero]
      repeat (go_big_quiet_step ((fail)))
      refine wpQuiet_nil ?_
      intro _ hw'
      obtain ⟨nq, hw''⟩ := hw'
      subst hw''
      have HT := Lib.hid (HT.out.drewN nq)
      go_wp2_with fail
      refine (DoesG.use (levPutE HU.out HSL.out HTA.out { a with nb := nb } (entB a.eb (ptr' wb) a.e 1 dg (ptr' nb)) ⟨HDU.out, _, _, _, rfl⟩ (.pointer none) (.pointer none)) (HT.out) [1, 4, 6] rfl rfl).mono ?_
      rintro e w1 ⟨gs, ⟨rfl, g1, hg1, rfl⟩, Ta⟩
      simp only [PU] at Ta
      have HG1 := Lib.hid hg1
      clear hg1 e8 e9 e10 c5
      have HT := Lib.hid Ta
      clear Ta
      go_wp2_with fail
      refine ⟨rfl, ?_⟩
      go_wp2
      obtain ⟨gV', hV', hp'⟩ := HBK.out (vb, ls.set dg (sl0 ++ [{ a with nb := nb }])) g1 HG1.out
      exact bodyPost_end (results_none rfl _ _ _) rfl ⟨_, ⟨rfl, nb, _, ⟨C, vs, bb, bh, gV', gB, gE, HC.out, HVL.out.1, (by rw [List.length_set]; exact HVL.out.2.1), (by rw [← zip_set 1 HVL.out.2.2]; exact hV'), HB.out, HE.out, rfl⟩, rfl⟩, (((HT.out.sum (H' := [[cl wb 244 C], g1 ++ y, gB, gE]) (fun n ha h0 h1 h2 => by simp only [SU, ha, h0, h1, h2] <;> omega)).permAt 1 rfl hp').sum (fun n ha h0 h1 h2 => by simp only [SU, ha, h0, h1, h2] <;> omega))⟩
    · have HLO := Lib.hid hlo
      have hpl : ∀ nb, w.place { a with nb := nb } = { w with lv := w.lv.set 2 (ls.set (digT a.e.due 2) (sl0 ++ [{ a with nb := nb }])) } := fun nb => by
        unfold WheelA.place
        rw [← hlo, if_neg (by decide), modify_set hls, modify_set hsl]
      simp only [hpl]
      have HDG := Lib.hid (show ReadsG Tryz.prog 307 #[.int .u64 a.e.due, .int .i64 2] [] (.int .i64 (digT a.e.due 2)) from timesDigit_g a.e.due 2 hd (by decide))
      have hdl := dig_lt a.e.due 2
      intro w hw
      have T0 := TG.refl hw
      have HT := Lib.hid T0
      clear hw T0
      have HT := Lib.hid (((HT.out.sum (H' := [[cl wb 244 C], gV, gB, gE, entB a.eb (ptr' wb) a.e lv sl (.pointer nd)]) (fun n ha h0 h1 h2 => by simp only [SU, ha, h0, h1, h2] <;> omega)).permAt 1 rfl hp).sum (H' := [[cl wb 244 C], u, gB, gE, entB a.eb (ptr' wb) a.e lv sl (.pointer nd), y]) (fun n ha h0 h1 h2 => by simp only [SU, ha, h0, h1, h2] <;> omega))
      have HC := Lib.hid hC
      have HU := Lib.hid hu
      have HBK := Lib.hid hback
      have HB := Lib.hid hB
      have HE := Lib.hid hE
      have HVB := Lib.hid (hC.lv 2 vb hvb)
      have HSL := Lib.hid hsl
      have HTA := Lib.hid (show totA ls ≤ 1000000 from hta)
      have HVL := Lib.hid (And.intro hvl (And.intro hll hvb))
      generalize digT a.e.due 2 = dg at *
      have c0 := (HT.out.cell 0 0 rfl 0).trans hC.now
      have e6 := HT.out.cell 4 0 rfl 6
      have e8 := HT.out.cell 4 0 rfl 8
      have fe8 := HT.out.free 4 0 rfl 8
      have e9 := HT.out.cell 4 0 rfl 9
      have fe9 := HT.out.free 4 0 rfl 9
      have e10 := HT.out.cell 4 0 rfl 10
      have fe10 := HT.out.free 4 0 rfl 10
      simp only [entC, List.getElem?_toArray, List.getElem?_cons_zero, List.getElem?_cons_succ] at e6 e8 e9 e10
      clear hu hB hE hC ho hlo hpl hd hape hV hp hback hls hsl hta hvb hvl hll
      go_enter Tryz.func304, Tryz.ntmps304
      go_wp2_with fail
      refine wp_region_mix1 13 (by kernel_rfl) (by kernel_rfl) ?_
      simp only [List.take_succ_cons, List.take_zero, List.drop_succ_cons, List.drop_zero]
      repeat (go_big_quiet_step ((first | (go_at_call 316; with_reducible exact ReadsG.quiet (HAP.out) HT.out _ [] rfl rfl))))
      refine wpQuiet_nil ?_
      intro _ hw'
      obtain ⟨nq, hw''⟩ := hw'
      subst hw''
      have HT := Lib.hid (HT.out.drewN nq)
      go_wp2_with fail
      refine ⟨rfl, ?_⟩
      have HT := Lib.hid ((HT.out.set 4 0 rfl 8 (.int .i64 2)).eq (H' := [[cl wb 244 C], u, gB, gE, entB a.eb (ptr' wb) a.e 2 sl (.pointer nd), y]) rfl)
      clear c0 e6 e8 fe8 e9 fe9 e10 fe10
      generalize World.setCell _ _ _ = w2 at HT ⊢
      have e8 := HT.out.cell 4 0 rfl 8
      have e10 := HT.out.cell 4 0 rfl 10
      have fe10 := HT.out.free 4 0 rfl 10
      simp only [entC, List.getElem?_toArray, List.getElem?_cons_zero, List.getElem?_cons_succ] at e8 e10
      have lte := HT.out.lt 4 0 rfl
      simp only [] at lte
      go_wp2_with fail
      obtain ⟨nb, hnb⟩ : ∃ nb, nb = w2.heap.size := ⟨_, rfl⟩
      have HT := Lib.hid (((HT.out.set 4 0 rfl 10 (ptr' nb)).alloc (k := nb) (by rw [hnb]; simp) 372 #[ptr' a.eb, .pointer none, .pointer none, .pointer none]).eq (H' := [[cl wb 244 C], u, gB, gE, entB a.eb (ptr' wb) a.e 2 sl (ptr' nb), y, [cl nb 372 #[ptr' a.eb, .pointer none, .pointer none, .pointer none]]]) rfl)
      rw [← hnb]
      clear e8 e10 fe10 lte
      generalize World.alloc _ _ = w3 at HT ⊢
      clear hnb
      have e6 := HT.out.cell 4 0 rfl 6
      have e8 := HT.out.cell 4 0 rfl 8
      have e9 := HT.out.cell 4 0 rfl 9
      have fe9 := HT.out.free 4 0 rfl 9
      simp only [entC, List.getElem?_toArray, List.getElem?_cons_zero, List.getElem?_cons_succ] at e6 e8 e9
      refine wp_region_mix1 12 (by kernel_rfl) (by kernel_rfl) ?_
      simp only [List.take_succ_cons, List.take_zero, List.drop_succ_cons, List.drop_zero]
      repeat (go_big_quiet_step ((first | (go_at_call 307; with_reducible exact ReadsG.quiet (HDG.out) HT.out _ [] rfl rfl))))
      refine wpQuiet_nil ?_
      intro _ hw'
      obtain ⟨nq, hw''⟩ := hw'
      subst hw''
      have HT := Lib.hid (HT.out.drewN nq)
      go_wp2_with fail
      refine ⟨rfl, ?_⟩
      have HT := Lib.hid ((HT.out.set 4 0 rfl 9 (.int .i64 dg)).eq (H' := [[cl wb 244 C], u, gB, gE, entB a.eb (ptr' wb) a.e 2 dg (ptr' nb), y, [cl nb 372 #[ptr' a.eb, .pointer none, .pointer none, .pointer none]]]) rfl)
      clear e6 e8 e9 fe9
      generalize World.setCell _ _ _ = w4 at HT ⊢
      have e8 := HT.out.cell 4 0 rfl 8
      have e9 := HT.out.cell 4 0 rfl 9
      have e10 := HT.out.cell 4 0 rfl 10
      simp only [entC, List.getElem?_toArray, List.getElem?_cons_zero, List.getElem?_cons_succ] at e8 e9 e10
      have c5 := (HT.out.cell 0 0 rfl (1 + 2)).trans HVB.out
      go_wp2_with fail
      refine wp_region_mix1 17 (by kernel_rfl) (by kernel_rfl) ?_
      simp only [List.take_succ_cons, List.take_zero, List.drop_succ_cons, List.drop_zero]
      repeat (go_big_quiet_step ((fail)))
      refine wpQuiet_nil ?_
      intro _ hw'
      obtain ⟨nq, hw''⟩ := hw'
      subst hw''
      have HT := Lib.hid (HT.out.drewN nq)
      go_wp2_with fail
      refine (DoesG.use (levPutE HU.out HSL.out HTA.out { a with nb := nb } (entB a.eb (ptr' wb) a.e 2 dg (ptr' nb)) ⟨HDU.out, _, _, _, rfl⟩ (.pointer none) (.pointer none)) (HT.out) [1, 4, 6] rfl rfl).mono ?_
      rintro e w1 ⟨gs, ⟨rfl, g1, hg1, rfl⟩, Ta⟩
      simp only [PU] at Ta
      have HG1 := Lib.hid hg1
      clear hg1 e8 e9 e10 c5
      have HT := Lib.hid Ta
      clear Ta
      go_wp2_with fail
      refine ⟨rfl, ?_⟩
      go_wp2
      obtain ⟨gV', hV', hp'⟩ := HBK.out (vb, ls.set dg (sl0 ++ [{ a with nb := nb }])) g1 HG1.out
      exact bodyPost_end (results_none rfl _ _ _) rfl ⟨_, ⟨rfl, nb, _, ⟨C, vs, bb, bh, gV', gB, gE, HC.out, HVL.out.1, (by rw [List.length_set]; exact HVL.out.2.1), (by rw [← zip_set 2 HVL.out.2.2]; exact hV'), HB.out, HE.out, rfl⟩, rfl⟩, (((HT.out.sum (H' := [[cl wb 244 C], g1 ++ y, gB, gE]) (fun n ha h0 h1 h2 => by simp only [SU, ha, h0, h1, h2] <;> omega)).permAt 1 rfl hp').sum (fun n ha h0 h1 h2 => by simp only [SU, ha, h0, h1, h2] <;> omega))⟩
    · have HLO := Lib.hid hlo
      have hpl : ∀ nb, w.place { a with nb := nb } = { w with lv := w.lv.set 3 (ls.set (digT a.e.due 3) (sl0 ++ [{ a with nb := nb }])) } := fun nb => by
        unfold WheelA.place
        rw [← hlo, if_neg (by decide), modify_set hls, modify_set hsl]
      simp only [hpl]
      have HDG := Lib.hid (show ReadsG Tryz.prog 307 #[.int .u64 a.e.due, .int .i64 3] [] (.int .i64 (digT a.e.due 3)) from timesDigit_g a.e.due 3 hd (by decide))
      have hdl := dig_lt a.e.due 3
      intro w hw
      have T0 := TG.refl hw
      have HT := Lib.hid T0
      clear hw T0
      have HT := Lib.hid (((HT.out.sum (H' := [[cl wb 244 C], gV, gB, gE, entB a.eb (ptr' wb) a.e lv sl (.pointer nd)]) (fun n ha h0 h1 h2 => by simp only [SU, ha, h0, h1, h2] <;> omega)).permAt 1 rfl hp).sum (H' := [[cl wb 244 C], u, gB, gE, entB a.eb (ptr' wb) a.e lv sl (.pointer nd), y]) (fun n ha h0 h1 h2 => by simp only [SU, ha, h0, h1, h2] <;> omega))
      have HC := Lib.hid hC
      have HU := Lib.hid hu
      have HBK := Lib.hid hback
      have HB := Lib.hid hB
      have HE := Lib.hid hE
      have HVB := Lib.hid (hC.lv 3 vb hvb)
      have HSL := Lib.hid hsl
      have HTA := Lib.hid (show totA ls ≤ 1000000 from hta)
      have HVL := Lib.hid (And.intro hvl (And.intro hll hvb))
      generalize digT a.e.due 3 = dg at *
      have c0 := (HT.out.cell 0 0 rfl 0).trans hC.now
      have e6 := HT.out.cell 4 0 rfl 6
      have e8 := HT.out.cell 4 0 rfl 8
      have fe8 := HT.out.free 4 0 rfl 8
      have e9 := HT.out.cell 4 0 rfl 9
      have fe9 := HT.out.free 4 0 rfl 9
      have e10 := HT.out.cell 4 0 rfl 10
      have fe10 := HT.out.free 4 0 rfl 10
      simp only [entC, List.getElem?_toArray, List.getElem?_cons_zero, List.getElem?_cons_succ] at e6 e8 e9 e10
      clear hu hB hE hC ho hlo hpl hd hape hV hp hback hls hsl hta hvb hvl hll
      go_enter Tryz.func304, Tryz.ntmps304
      go_wp2_with fail
      refine wp_region_mix1 13 (by kernel_rfl) (by kernel_rfl) ?_
      simp only [List.take_succ_cons, List.take_zero, List.drop_succ_cons, List.drop_zero]
      repeat (go_big_quiet_step ((first | (go_at_call 316; with_reducible exact ReadsG.quiet (HAP.out) HT.out _ [] rfl rfl))))
      refine wpQuiet_nil ?_
      intro _ hw'
      obtain ⟨nq, hw''⟩ := hw'
      subst hw''
      have HT := Lib.hid (HT.out.drewN nq)
      go_wp2_with fail
      refine ⟨rfl, ?_⟩
      have HT := Lib.hid ((HT.out.set 4 0 rfl 8 (.int .i64 3)).eq (H' := [[cl wb 244 C], u, gB, gE, entB a.eb (ptr' wb) a.e 3 sl (.pointer nd), y]) rfl)
      clear c0 e6 e8 fe8 e9 fe9 e10 fe10
      generalize World.setCell _ _ _ = w2 at HT ⊢
      have e8 := HT.out.cell 4 0 rfl 8
      have e10 := HT.out.cell 4 0 rfl 10
      have fe10 := HT.out.free 4 0 rfl 10
      simp only [entC, List.getElem?_toArray, List.getElem?_cons_zero, List.getElem?_cons_succ] at e8 e10
      have lte := HT.out.lt 4 0 rfl
      simp only [] at lte
      go_wp2_with fail
      obtain ⟨nb, hnb⟩ : ∃ nb, nb = w2.heap.size := ⟨_, rfl⟩
      have HT := Lib.hid (((HT.out.set 4 0 rfl 10 (ptr' nb)).alloc (k := nb) (by rw [hnb]; simp) 372 #[ptr' a.eb, .pointer none, .pointer none, .pointer none]).eq (H' := [[cl wb 244 C], u, gB, gE, entB a.eb (ptr' wb) a.e 3 sl (ptr' nb), y, [cl nb 372 #[ptr' a.eb, .pointer none, .pointer none, .pointer none]]]) rfl)
      rw [← hnb]
      clear e8 e10 fe10 lte
      generalize World.alloc _ _ = w3 at HT ⊢
      clear hnb
      have e6 := HT.out.cell 4 0 rfl 6
      have e8 := HT.out.cell 4 0 rfl 8
      have e9 := HT.out.cell 4 0 rfl 9
      have fe9 := HT.out.free 4 0 rfl 9
      simp only [entC, List.getElem?_toArray, List.getElem?_cons_zero, List.getElem?_cons_succ] at e6 e8 e9
      refine wp_region_mix1 12 (by kernel_rfl) (by kernel_rfl) ?_
      simp only [List.take_succ_cons, List.take_zero, List.drop_succ_cons, List.drop_zero]
      repeat (go_big_quiet_step ((first | (go_at_call 307; with_reducible exact ReadsG.quiet (HDG.out) HT.out _ [] rfl rfl))))
      refine wpQuiet_nil ?_
      intro _ hw'
      obtain ⟨nq, hw''⟩ := hw'
      subst hw''
      have HT := Lib.hid (HT.out.drewN nq)
      go_wp2_with fail
      refine ⟨rfl, ?_⟩
      have HT := Lib.hid ((HT.out.set 4 0 rfl 9 (.int .i64 dg)).eq (H' := [[cl wb 244 C], u, gB, gE, entB a.eb (ptr' wb) a.e 3 dg (ptr' nb), y, [cl nb 372 #[ptr' a.eb, .pointer none, .pointer none, .pointer none]]]) rfl)
      clear e6 e8 e9 fe9
      generalize World.setCell _ _ _ = w4 at HT ⊢
      have e8 := HT.out.cell 4 0 rfl 8
      have e9 := HT.out.cell 4 0 rfl 9
      have e10 := HT.out.cell 4 0 rfl 10
      simp only [entC, List.getElem?_toArray, List.getElem?_cons_zero, List.getElem?_cons_succ] at e8 e9 e10
      have c5 := (HT.out.cell 0 0 rfl (1 + 3)).trans HVB.out
      go_wp2_with fail
      refine wp_region_mix1 17 (by kernel_rfl) (by kernel_rfl) ?_
      simp only [List.take_succ_cons, List.take_zero, List.drop_succ_cons, List.drop_zero]
      repeat (go_big_quiet_step ((fail)))
      refine wpQuiet_nil ?_
      intro _ hw'
      obtain ⟨nq, hw''⟩ := hw'
      subst hw''
      have HT := Lib.hid (HT.out.drewN nq)
      go_wp2_with fail
      refine (DoesG.use (levPutE HU.out HSL.out HTA.out { a with nb := nb } (entB a.eb (ptr' wb) a.e 3 dg (ptr' nb)) ⟨HDU.out, _, _, _, rfl⟩ (.pointer none) (.pointer none)) (HT.out) [1, 4, 6] rfl rfl).mono ?_
      rintro e w1 ⟨gs, ⟨rfl, g1, hg1, rfl⟩, Ta⟩
      simp only [PU] at Ta
      have HG1 := Lib.hid hg1
      clear hg1 e8 e9 e10 c5
      have HT := Lib.hid Ta
      clear Ta
      go_wp2_with fail
      refine ⟨rfl, ?_⟩
      go_wp2
      obtain ⟨gV', hV', hp'⟩ := HBK.out (vb, ls.set dg (sl0 ++ [{ a with nb := nb }])) g1 HG1.out
      exact bodyPost_end (results_none rfl _ _ _) rfl ⟨_, ⟨rfl, nb, _, ⟨C, vs, bb, bh, gV', gB, gE, HC.out, HVL.out.1, (by rw [List.length_set]; exact HVL.out.2.1), (by rw [← zip_set 3 HVL.out.2.2]; exact hV'), HB.out, HE.out, rfl⟩, rfl⟩, (((HT.out.sum (H' := [[cl wb 244 C], g1 ++ y, gB, gE]) (fun n ha h0 h1 h2 => by simp only [SU, ha, h0, h1, h2] <;> omega)).permAt 1 rfl hp').sum (fun n ha h0 h1 h2 => by simp only [SU, ha, h0, h1, h2] <;> omega))⟩
end
end Go.Proofs.YtblhfbcodbjgcaaGreat

namespace Go.Proofs.YtblhfbcodbjgcaaGreat
set_option linter.unusedVariables false
set_option linter.unusedSimpArgs false
open Go.RowKit Go.Shelf
theorem famP_cons {α : Type} {P : α → List Blk → Prop} {a : α} {l : List α} {g : List Blk} (h : FamP P (a :: l) g) : ∃ x y, P a x ∧ FamP P l y ∧ g = x ++ y := h
theorem drop_at {α : Type} {l : List α} {i : Nat} {a : α} (h : l[i]? = some a) : l.drop i = a :: l.drop (i + 1) := by
  obtain ⟨h1, h2⟩ := List.getElem?_eq_some_iff.1 h
  rw [List.drop_eq_getElem_cons h1, h2]
def WheelS.place (w : WheelS) (e : EntS) : WheelS :=
  if 4 ≤ lvl w.now e.due then { w with by_ := w.by_ ++ [e] }
  else { w with lv := w.lv.modify (lvl w.now e.due) (fun l => l.modify (digT e.due (lvl w.now e.due)) (· ++ [e])) }
def WheelS.placeL (w : WheelS) (l : List EntS) : WheelS := l.foldl WheelS.place w
def WheelS.slot (w : WheelS) (l k : Nat) : List EntS := (w.lv.getD l []).getD k []
def WheelS.clear (w : WheelS) (l k : Nat) : WheelS := { w with lv := w.lv.modify l (fun s => s.set k []) }
def WheelS.again (w : WheelS) (l : Nat) : WheelS := (w.clear l (digT w.now l)).placeL (w.slot l (digT w.now l))
theorem map_modify {α β : Type} (f : α → β) (g : α → α) (h : β → β) (hc : ∀ a, f (g a) = h (f a)) (l : List α) (k : Nat) : (l.modify k g).map f = (l.map f).modify k h := by
  apply List.ext_getElem?
  intro i
  simp only [List.getElem?_map, List.getElem?_modify]
  split
  · cases l[i]? <;> simp [hc]
  · cases l[i]? <;> simp
theorem place_s (w : WheelA) (a : EntA) : (w.place a).s = w.s.place a.e := by
  unfold WheelA.place WheelS.place
  have hn : w.s.now = w.now := rfl
  rw [hn]
  split
  · unfold WheelA.s; simp
  · unfold WheelA.s
    simp only
    congr 1
    refine map_modify _ _ _ (fun l => ?_) _ _
    exact map_modify _ _ _ (fun s => by simp) _ _
theorem clear_s (w : WheelA) (l k : Nat) : ({ w with lv := w.lv.modify l (fun s => s.set k []) } : WheelA).s = w.s.clear l k := by
  unfold WheelA.s WheelS.clear
  simp only
  congr 1
  refine map_modify _ _ _ (fun s => ?_) _ _
  rw [List.map_set]; rfl
end Go.Proofs.YtblhfbcodbjgcaaGreat

namespace Go.Proofs.YtblhfbcodbjgcaaGreat
set_option linter.unusedVariables false
set_option linter.unusedSimpArgs false
open Go.RowKit Go.Shelf
def totS (w : WheelS) : Nat := (w.lv.map fun l => (l.map List.length).sum).sum + w.by_.length
theorem totW_s (w : WheelA) : totW w = totS w.s := by
  unfold totW totS WheelA.s totA
  simp [List.map_map, Function.comp_def]
structure WheelS.Sh (w : WheelS) : Prop where
  l4 : w.lv.length = 4
  l64 : ∀ l ∈ w.lv, l.length = 64
theorem WheelA.sh {w : WheelA} : w.s.Sh ↔ w.lv.length = 4 ∧ ∀ l ∈ w.lv, l.length = 64 := by
  constructor
  · rintro ⟨h1, h2⟩
    refine ⟨by simpa [WheelA.s] using h1, fun l hl => ?_⟩
    have := h2 _ (List.mem_map.2 ⟨l, hl, rfl⟩)
    simpa using this
  · rintro ⟨h1, h2⟩
    refine ⟨by simpa [WheelA.s] using h1, fun l hl => ?_⟩
    obtain ⟨m, hm, rfl⟩ := List.mem_map.1 hl
    simpa using h2 m hm
def WheelS.down : Nat → WheelS → WheelS
  | 0, w => w
  | l + 1, w => (w.again (l + 1)).down l
def WheelS.adv (w : WheelS) : WheelS × List EntS :=
  let w2 := WheelS.down (min (zerosT (w.now + 1)) 3) { w with now := w.now + 1 }
  (w2.clear 0 (digT w2.now 0), w2.slot 0 (digT w2.now 0))
theorem WheelS.placeL_now (l : List EntS) : ∀ w : WheelS, (w.placeL l).now = w.now := by
  induction l with
  | nil => intro w; rfl
  | cons a l ih =>
    intro w
    show ((w.place a).placeL l).now = _
    rw [ih]
    unfold WheelS.place
    split <;> rfl
theorem WheelS.again_now (w : WheelS) (l : Nat) : (w.again l).now = w.now := WheelS.placeL_now _ _
theorem WheelS.down_now : ∀ (n : Nat) (w : WheelS), (w.down n).now = w.now
  | 0, w => rfl
  | l + 1, w => by show ((w.again (l + 1)).down l).now = _; rw [WheelS.down_now l, WheelS.again_now]
theorem WheelS.clear_sh {w : WheelS} (h : w.Sh) (l k : Nat) : (w.clear l k).Sh := by
  refine ⟨by unfold WheelS.clear; simp [h.l4], fun m hm => ?_⟩
  unfold WheelS.clear at hm
  simp only at hm
  obtain ⟨i, hi⟩ := List.mem_iff_getElem?.1 hm
  rw [List.getElem?_modify] at hi
  cases hq : w.lv[i]? with
  | none => rw [hq] at hi; cases hi
  | some q =>
    rw [hq] at hi
    have hq64 := h.l64 q (List.mem_of_getElem? hq)
    by_cases e : l = i
    · simp [e] at hi; subst hi; simpa using hq64
    · simp [e] at hi; subst hi; exact hq64
theorem WheelS.place_sh {w : WheelS} (h : w.Sh) (a : EntS) : (w.place a).Sh := by
  unfold WheelS.place
  split
  · exact ⟨h.l4, h.l64⟩
  · refine ⟨by simp [h.l4], fun m hm => ?_⟩
    simp only at hm
    obtain ⟨i, hi⟩ := List.mem_iff_getElem?.1 hm
    rw [List.getElem?_modify] at hi
    cases hq : w.lv[i]? with
    | none => rw [hq] at hi; cases hi
    | some q =>
      rw [hq] at hi
      have hq64 := h.l64 q (List.mem_of_getElem? hq)
      by_cases e : lvl w.now a.due = i
      · simp [e] at hi; subst hi; simpa using hq64
      · simp [e] at hi; subst hi; exact hq64
theorem WheelS.placeL_sh (l : List EntS) : ∀ {w : WheelS}, w.Sh → (w.placeL l).Sh := by
  induction l with
  | nil => intro w h; exact h
  | cons a l ih => intro w h; exact ih (WheelS.place_sh h a)
theorem WheelS.again_sh {w : WheelS} (h : w.Sh) (l : Nat) : (w.again l).Sh := WheelS.placeL_sh _ (WheelS.clear_sh h _ _)
theorem WheelS.down_sh : ∀ (n : Nat) {w : WheelS}, w.Sh → (w.down n).Sh
  | 0, _, h => h
  | l + 1, _, h => WheelS.down_sh l (WheelS.again_sh h (l + 1))
theorem sum_set_list {α : Type} {f : α → Nat} : ∀ {l : List α} {k : Nat} {a : α}, l[k]? = some a → ∀ b, ((l.set k b).map f).sum + f a = (l.map f).sum + f b
  | [], k, a, h, b => by simp at h
  | c :: l, 0, a, h, b => by simp at h; subst h; simp; omega
  | c :: l, k + 1, a, h, b => by
    simp only [List.getElem?_cons_succ] at h
    have := sum_set_list (f := f) h b
    simp only [List.set_cons_succ, List.map_cons, List.sum_cons]; omega
theorem totS_place {w : WheelS} (h : w.Sh) (a : EntS) : totS (w.place a) = totS w + 1 := by
  unfold WheelS.place
  split
  · unfold totS; simp; omega
  · next hl =>
    obtain ⟨q, hq⟩ : ∃ q, w.lv[lvl w.now a.due]? = some q := ⟨_, List.getElem?_eq_getElem (by rw [h.l4]; omega)⟩
    have hq64 := h.l64 q (List.mem_of_getElem? hq)
    obtain ⟨s, hs⟩ : ∃ s, q[digT a.due (lvl w.now a.due)]? = some s := ⟨_, List.getElem?_eq_getElem (by rw [hq64]; exact dig_lt _ _)⟩
    unfold totS
    simp only
    rw [modify_set hq, modify_set hs]
    have h1 := sum_set_list (f := fun l : List (List EntS) => (l.map List.length).sum) hq (q.set (digT a.due (lvl w.now a.due)) (s ++ [a]))
    have h2 := sum_set_list (f := (List.length : List EntS → Nat)) hs (s ++ [a])
    simp only [List.length_append, List.length_cons, List.length_nil] at h2
    try simp only at h1
    omega
theorem totS_placeL (l : List EntS) : ∀ {w : WheelS}, w.Sh → totS (w.placeL l) = totS w + l.length := by
  induction l with
  | nil => intro w _; rfl
  | cons a l ih =>
    intro w h
    show totS ((w.place a).placeL l) = _
    rw [ih (WheelS.place_sh h a), totS_place h a]; simp; omega
theorem totS_clear {w : WheelS} (h : w.Sh) {l k : Nat} (hl : l < 4) (hk : k < 64) : totS (w.clear l k) + (w.slot l k).length = totS w := by
  obtain ⟨q, hq⟩ : ∃ q, w.lv[l]? = some q := ⟨_, List.getElem?_eq_getElem (by rw [h.l4]; omega)⟩
  have hq64 := h.l64 q (List.mem_of_getElem? hq)
  obtain ⟨s, hs⟩ : ∃ s, q[k]? = some s := ⟨_, List.getElem?_eq_getElem (by omega)⟩
  unfold WheelS.clear WheelS.slot totS
  simp only
  rw [modify_set hq]
  have h1 := sum_set_list (f := fun l : List (List EntS) => (l.map List.length).sum) hq (q.set k [])
  have h2 := sum_set_list (f := (List.length : List EntS → Nat)) hs []
  simp only [List.length_nil] at h2
  try simp only at h1
  rw [List.getD_eq_getElem?_getD, List.getD_eq_getElem?_getD, hq, Option.getD_some, hs, Option.getD_some]
  omega
theorem totS_again {w : WheelS} (h : w.Sh) {l : Nat} (hl : l < 4) : totS (w.again l) = totS w := by
  unfold WheelS.again
  rw [totS_placeL _ (WheelS.clear_sh h _ _)]
  exact totS_clear h hl (dig_lt _ _)
theorem totS_down : ∀ (n : Nat) {w : WheelS}, w.Sh → n ≤ 3 → totS (w.down n) = totS w
  | 0, _, _, _ => rfl
  | l + 1, w, h, hn => by
    show totS ((w.again (l + 1)).down l) = _
    rw [totS_down l (WheelS.again_sh h _) (by omega), totS_again h (by omega)]
theorem digT_zero4 {t : Nat} (h : ∀ j, j < 4 → digT t j = 0) : t % 16777216 = 0 := by
  have h0 := h 0 (by decide)
  have h1 := h 1 (by decide)
  have h2 := h 2 (by decide)
  have h3 := h 3 (by decide)
  unfold digT at h0 h1 h2 h3
  simp only [Nat.reducePow] at h0 h1 h2 h3
  omega
theorem zeros_lt4 {t : Nat} (h0 : 0 < t) (h1 : t < 16777216) : zerosT t < 4 := by
  by_cases h : ∀ j, j < 4 → digT t j = 0
  · have := digT_zero4 h; omega
  · have hex : ∃ j, j < 4 ∧ digT t j ≠ 0 := by
      apply Classical.byContradiction
      intro hn
      exact h fun j hj => Classical.byContradiction fun hz => hn ⟨j, hj, hz⟩
    have hk : digT t 0 ≠ 0 ∨ digT t 0 = 0 ∧ (digT t 1 ≠ 0 ∨ digT t 1 = 0 ∧ (digT t 2 ≠ 0 ∨ digT t 2 = 0 ∧ digT t 3 ≠ 0)) := by
      obtain ⟨j, hj, hz⟩ := hex
      have : j = 0 ∨ j = 1 ∨ j = 2 ∨ j = 3 := by omega
      rcases this with rfl | rfl | rfl | rfl <;> omega
    rcases hk with hk | ⟨e0, hk | ⟨e1, hk | ⟨e2, hk⟩⟩⟩
    · rw [zeros_at (by decide) hk (fun j hj => absurd hj (Nat.not_lt_zero _))]; decide
    · rw [zeros_at (k := 1) (by decide) hk (fun j hj => by obtain rfl : j = 0 := by omega
                                                           exact e0)]; decide
    · rw [zeros_at (k := 2) (by decide) hk (fun j hj => by
        have : j = 0 ∨ j = 1 := by omega
        rcases this with rfl | rfl <;> assumption)]; decide
    · rw [zeros_at (k := 3) (by decide) hk (fun j hj => by
        have : j = 0 ∨ j = 1 ∨ j = 2 := by omega
        rcases this with rfl | rfl | rfl <;> assumption)]; decide
end Go.Proofs.YtblhfbcodbjgcaaGreat
