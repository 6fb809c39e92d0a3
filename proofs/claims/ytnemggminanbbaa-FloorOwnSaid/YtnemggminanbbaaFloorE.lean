import Derived.Test.YtnemggminanbbaaFloorZ
import Derived.Test.YtnemggminanbbaaCellI
namespace Go.Proofs.Ytnemggminanbbaa
set_option linter.unusedVariables false
set_option linter.unusedSimpArgs false
open Go.RowKit Go.Shelf

/-! ## Enter, Leave, Work -/
/-- a contract on groups, said on pieces -/
theorem DoesG.toDoes {P : Program} {f : Nat} {args : Array Value} {g : List Blk} {h : PH} {R : Ending → Prop} (hd : DoesG P f args [g] fun e gs => R e ∧ gs = [g]) (e : ex g = h) :
    Does P f args h fun e h' => R e ∧ h' = h := by
  subst e
  intro w hw
  refine (hd w (by unfold HasG; simpa using hw)).mono ?_
  rintro e w' ⟨gs, ⟨he, rfl⟩, T⟩
  exact ⟨_, ⟨he, rfl⟩, by simpa [TG] using T⟩
theorem count1_g (bb : Nat) (n d : Int) (h : -1000000000 ≤ n ∧ n ≤ 1000000000 ∧ -1000000000 ≤ d ∧ d ≤ 1000000000) :
    DoesG Try.prog 77 #[.int .i64 n, ptr' bb] [[cl bb 3 #[.int .i64 d]]] fun e gs => e = .returned (.tuple #[.int .i64 (n + d), .bool (decide (0 ≤ n + d))]) ∧ gs = [[cl bb 3 #[.int .i64 d]]] := by
  intro w hw
  have T0 := TG.refl hw
  have HT := Lib.hid T0
  clear hw T0
  have c0 := HT.out.cell 0 0 rfl 0
  simp only [List.getElem?_toArray, List.getElem?_cons_zero] at c0
  obtain ⟨h1, h2, h3, h4⟩ := h
  go_enter Try.func77, Try.ntmps77
  go_wp2
  go_quiet (fail)
  go_wp2
  go_ret2
  exact ⟨_, ⟨by simp, rfl⟩, HT.out.drewN _⟩
theorem turnI_g {b o bb : Nat} {T T2 : TypeId} {C D : Array Value} {n v : Int} {ok : Bool} {g : Nat} {caps : Array Value} (hc : cellAt C o (.int .i64 n))
    (eg : ∀ args w, (callFunc g args).run Try.prog w = .ok (.enter g args) w)
    (hg : DoesG Try.prog g (#[.int .i64 n] ++ caps) [[cl bb T2 D]] fun e gs => e = .returned (.tuple #[.int .i64 v, .bool ok]) ∧ gs = [[cl bb T2 D]]) :
    DoesG Try.prog 61 #[.pointer (some ⟨b, o, none⟩), .func (.func g) #[] caps] [[cl b T C], [cl bb T2 D]] fun e gs =>
      e = .returned (.tuple #[.int .i64 n, .bool ok]) ∧ ∃ C', Recell C o (.int .i64 (if ok = true then v else n)) C' ∧ gs = [[cl b T C'], [cl bb T2 D]] := by
  refine ((turnI_does b o T C n v ok g caps [pt bb T2 D] hc eg (hg.toDoes rfl)).G (gs := [[cl b T C], [cl bb T2 D]]) (by simpa using (Match.of_pt b T C).join (Match.of_pt bb T2 D))).post ?_
  rintro e gs ⟨h', g, ⟨he, C', rfl, hr⟩, m, rfl⟩
  obtain ⟨x, y, rfl, m1, m2⟩ := Match.append (a := [pt b T C']) (b := [pt bb T2 D]) m
  exact ⟨[[cl b T C'], [cl bb T2 D]], ⟨he, C', hr, rfl⟩, by rw [m1.isPt, m2.isPt]; simp⟩
abbrev Bd (n d : Int) : Prop := -1000000000 ≤ n ∧ n ≤ 1000000000 ∧ -1000000000 ≤ d ∧ d ≤ 1000000000
def lessE (n : Int) : Int := if n = 0 then 6 else 0
def lessN (n : Int) : Int := if n = 0 then 0 else n - 1
set_option maxRecDepth 100000 in
set_option maxHeartbeats 200000 in
theorem count_yes {fb o : Nat} {T : TypeId} {C : Array Value} {n m : Int} (d : Int) (h : Bd n d) (hm : n + d = m) (hk : 0 ≤ m) (hc : cellAt C o (.int .i64 n)) :
    DoesG Try.prog 49 #[.pointer (some ⟨fb, o, none⟩), .int .i64 d] [[cl fb T C]] fun e gs => e = .returned (.int .i64 0) ∧ ∃ C', Recell C o (.int .i64 m) C' ∧ gs = [[cl fb T C']] := by
  subst hm
  intro w hw
  have T0 := TG.refl hw
  have HT := Lib.hid T0
  clear hw T0
  have HC := Lib.hid hc
  have HB0 := count1_g w.heap.size n d h
  have hd : decide (0 ≤ n + d) = true := by simpa using hk
  rw [hd] at HB0
  have HB := Lib.hid HB0
  clear hc h HB0 hd hk
  go_enter Try.func49, Try.ntmps49
  go_wp2_with fail
  refine (DoesG.use (turnI_g (caps := #[ptr' w.heap.size]) (g := 77) (bb := w.heap.size) (D := #[.int .i64 d]) HC.out (enters_of Try.func77 (by kernel_rfl) rfl) HB.out) ((HT.out.alloc rfl _ _)) [0, 1] rfl rfl).mono ?_
  rintro e w1 ⟨gs, ⟨rfl, C1, hr, rfl⟩, Ta⟩
  simp only [PU] at Ta
  have HT := Lib.hid Ta
  clear Ta
  have HR := Lib.hid hr
  clear hr
  go_wp2
  go_ret
  exact ⟨_, ⟨rfl, C1, HR.out, rfl⟩, HT.out.pick [0] rfl⟩
set_option maxRecDepth 100000 in
set_option maxHeartbeats 200000 in
theorem count_no {fb o : Nat} {T : TypeId} {C : Array Value} {n : Int} (d : Int) (h : Bd n d) (hk : n + d < 0) (hc : cellAt C o (.int .i64 n)) :
    DoesG Try.prog 49 #[.pointer (some ⟨fb, o, none⟩), .int .i64 d] [[cl fb T C]] fun e gs => e = .returned (.int .i64 6) ∧ ∃ C', Recell C o (.int .i64 n) C' ∧ gs = [[cl fb T C']] := by
  intro w hw
  have T0 := TG.refl hw
  have HT := Lib.hid T0
  clear hw T0
  have HC := Lib.hid hc
  have HB0 := count1_g w.heap.size n d h
  have hd : decide (0 ≤ n + d) = false := by simpa using hk
  rw [hd] at HB0
  have HB := Lib.hid HB0
  clear hc h HB0 hd hk
  go_enter Try.func49, Try.ntmps49
  go_wp2_with fail
  refine (DoesG.use (turnI_g (caps := #[ptr' w.heap.size]) (g := 77) (bb := w.heap.size) (D := #[.int .i64 d]) HC.out (enters_of Try.func77 (by kernel_rfl) rfl) HB.out) ((HT.out.alloc rfl _ _)) [0, 1] rfl rfl).mono ?_
  rintro e w1 ⟨gs, ⟨rfl, C1, hr, rfl⟩, Ta⟩
  simp only [PU] at Ta
  have HT := Lib.hid Ta
  clear Ta
  have HR := Lib.hid hr
  clear hr
  go_wp2
  go_ret
  exact ⟨_, ⟨rfl, C1, HR.out, rfl⟩, HT.out.pick [0] rfl⟩
theorem floorEnter_g {fb : Nat} {p : FPtr} {f : FloorS} {tr : Value} {g : List Blk} (hg : isFloor fb p f tr g) (h : 0 ≤ f.inside ∧ f.inside ≤ 1000000) : DoesG Try.prog 14 #[ptr' fb] [g] fun e gs => e = .returned (.tuple #[]) ∧ ∃ g', isFloor fb p { f with inside := f.inside + 1 } tr g' ∧ gs = [g'] := by
  obtain ⟨C, rfl, hc⟩ := hg
  intro w hw
  have T0 := TG.refl hw
  have HT := Lib.hid T0
  clear hw T0
  have HC := Lib.hid hc
  have HB := Lib.hid h
  clear hc h
  go_enter Try.func14, Try.ntmps14
  go_wp2_with fail
  refine (DoesG.use (count_yes (n := f.inside) 1 (by have := HB.out; unfold Bd; omega) rfl (by have := HB.out; omega) HC.out.inside) (HT.out) [0] rfl rfl).mono ?_
  rintro e w1 ⟨gs, ⟨rfl, C1, hr, rfl⟩, Ta⟩
  simp only [PU] at Ta
  have HT := Lib.hid Ta
  clear Ta
  have HR := Lib.hid hr
  clear hr
  go_wp2
  exact bodyPost_end (results_none rfl _ _ _) rfl ⟨_, ⟨rfl, _, ⟨C1, rfl, HC.out.insideR HR.out⟩, rfl⟩, HT.out⟩
theorem floorLeave_g {fb : Nat} {p : FPtr} {f : FloorS} {tr : Value} {g : List Blk} (hg : isFloor fb p f tr g) (h : 0 ≤ f.inside ∧ f.inside ≤ 1000000) : DoesG Try.prog 15 #[ptr' fb] [g] fun e gs =>
    e = .returned (.int .i64 (lessE f.inside)) ∧ ∃ g', isFloor fb p { f with inside := lessN f.inside } tr g' ∧ gs = [g'] := by
  obtain ⟨C, rfl, hc⟩ := hg
  intro w hw
  have T0 := TG.refl hw
  have HT := Lib.hid T0
  clear hw T0
  have HC := Lib.hid hc
  have HB := Lib.hid h
  clear hc h
  by_cases hz : f.inside = 0
  · have HE := Lib.hid (show lessE f.inside = 6 from if_pos hz)
    have HN := Lib.hid (show lessN f.inside = f.inside from (if_pos hz).trans hz.symm)
    have HL := Lib.hid (show f.inside + (-1) < 0 by omega)
    clear hz
    go_enter Try.func15, Try.ntmps15
    go_wp2_with fail
    refine (DoesG.use (count_no (n := f.inside) (-1) (by have := HB.out; unfold Bd; omega) HL.out HC.out.inside) (HT.out) [0] rfl rfl).mono ?_
    rintro e w1 ⟨gs, ⟨rfl, C1, hr, rfl⟩, Ta⟩
    simp only [PU] at Ta
    have HT := Lib.hid Ta
    clear Ta
    rw [← HN.out] at hr
    have HR := Lib.hid (HC.out.insideR hr)
    clear hr
    go_wp2
    go_ret
    exact ⟨_, ⟨by rw [HE.out]; rfl, _, ⟨C1, rfl, HR.out⟩, rfl⟩, HT.out⟩
  · have HE := Lib.hid (show lessE f.inside = 0 from if_neg hz)
    have HN := Lib.hid (show f.inside + (-1) = lessN f.inside from by unfold lessN; rw [if_neg hz]; omega)
    have HL := Lib.hid (show 0 ≤ lessN f.inside from by have := HB.out; unfold lessN; rw [if_neg hz]; omega)
    clear hz
    go_enter Try.func15, Try.ntmps15
    go_wp2_with fail
    refine (DoesG.use (count_yes (n := f.inside) (-1) (by have := HB.out; unfold Bd; omega) HN.out HL.out HC.out.inside) (HT.out) [0] rfl rfl).mono ?_
    rintro e w1 ⟨gs, ⟨rfl, C1, hr, rfl⟩, Ta⟩
    simp only [PU] at Ta
    have HT := Lib.hid Ta
    clear Ta
    have HR := Lib.hid (HC.out.insideR hr)
    clear hr
    go_wp2
    go_ret
    exact ⟨_, ⟨by rw [HE.out]; rfl, _, ⟨C1, rfl, HR.out⟩, rfl⟩, HT.out⟩
theorem floorRest_g {fb : Nat} {p : FPtr} {f : FloorS} {tr : Value} {g : List Blk} (hg : isFloor fb p f tr g) (h : 0 ≤ f.busy ∧ f.busy ≤ 1000000) : DoesG Try.prog 16 #[ptr' fb, .bool false] [g] fun e gs =>
    e = .returned (.int .i64 (lessE f.busy)) ∧ ∃ g', isFloor fb p { f with busy := lessN f.busy } tr g' ∧ gs = [g'] := by
  obtain ⟨C, rfl, hc⟩ := hg
  intro w hw
  have T0 := TG.refl hw
  have HT := Lib.hid T0
  clear hw T0
  have HC := Lib.hid hc
  have HB := Lib.hid h
  clear hc h
  by_cases hz : f.busy = 0
  · have HE := Lib.hid (show lessE f.busy = 6 from if_pos hz)
    have HN := Lib.hid (show lessN f.busy = f.busy from (if_pos hz).trans hz.symm)
    have HL := Lib.hid (show f.busy + (-1) < 0 by omega)
    clear hz
    go_enter Try.func16, Try.ntmps16
    go_wp2_with fail
    refine (DoesG.use (count_no (n := f.busy) (-1) (by have := HB.out; unfold Bd; omega) HL.out HC.out.busy) (HT.out) [0] rfl rfl).mono ?_
    rintro e w1 ⟨gs, ⟨rfl, C1, hr, rfl⟩, Ta⟩
    simp only [PU] at Ta
    have HT := Lib.hid Ta
    clear Ta
    rw [← HN.out] at hr
    have HR := Lib.hid (HC.out.busyR hr)
    clear hr
    go_wp2
    go_ret
    exact ⟨_, ⟨by rw [HE.out]; rfl, _, ⟨C1, rfl, HR.out⟩, rfl⟩, HT.out⟩
  · have HE := Lib.hid (show lessE f.busy = 0 from if_neg hz)
    have HN := Lib.hid (show f.busy + (-1) = lessN f.busy from by unfold lessN; rw [if_neg hz]; omega)
    have HL := Lib.hid (show 0 ≤ lessN f.busy from by have := HB.out; unfold lessN; rw [if_neg hz]; omega)
    clear hz
    go_enter Try.func16, Try.ntmps16
    go_wp2_with fail
    refine (DoesG.use (count_yes (n := f.busy) (-1) (by have := HB.out; unfold Bd; omega) HN.out HL.out HC.out.busy) (HT.out) [0] rfl rfl).mono ?_
    rintro e w1 ⟨gs, ⟨rfl, C1, hr, rfl⟩, Ta⟩
    simp only [PU] at Ta
    have HT := Lib.hid Ta
    clear Ta
    have HR := Lib.hid (HC.out.busyR hr)
    clear hr
    go_wp2
    go_ret
    exact ⟨_, ⟨by rw [HE.out]; rfl, _, ⟨C1, rfl, HR.out⟩, rfl⟩, HT.out⟩
theorem floorWork_g {fb : Nat} {p : FPtr} {f : FloorS} {tr : Value} {g : List Blk} (hg : isFloor fb p f tr g) (h : 0 ≤ f.busy ∧ f.busy ≤ 1000000) : DoesG Try.prog 16 #[ptr' fb, .bool true] [g] fun e gs => e = .returned (.int .i64 0) ∧ ∃ g', isFloor fb p { f with busy := f.busy + 1 } tr g' ∧ gs = [g'] := by
  obtain ⟨C, rfl, hc⟩ := hg
  intro w hw
  have T0 := TG.refl hw
  have HT := Lib.hid T0
  clear hw T0
  have HC := Lib.hid hc
  have HB := Lib.hid h
  clear hc h
  go_enter Try.func16, Try.ntmps16
  go_wp2_with fail
  refine (DoesG.use (count_yes (n := f.busy) 1 (by have := HB.out; unfold Bd; omega) rfl (by have := HB.out; omega) HC.out.busy) (HT.out) [0] rfl rfl).mono ?_
  rintro e w1 ⟨gs, ⟨rfl, C1, hr, rfl⟩, Ta⟩
  simp only [PU] at Ta
  have HT := Lib.hid Ta
  clear Ta
  have HR := Lib.hid hr
  clear hr
  go_wp2
  go_ret
  exact ⟨_, ⟨rfl, _, ⟨C1, rfl, HC.out.busyR HR.out⟩, rfl⟩, HT.out⟩
end Go.Proofs.Ytnemggminanbbaa
