import Derived.Test.YthbjaoinklhikaaGreatShutNoneM3
import Derived.Test.YthbjaoinklhikaaGreatShutNoneM2
namespace Go.Proofs.YthbjaoinklhikaaGreat
set_option linter.unusedVariables false
set_option linter.unusedSimpArgs false
open Go.RowKit

theorem loadI_does (b o : Nat) (T : TypeId) (C : Array Value) (n : Int) (hc : cellAt C o (.int .i64 n)) :
    Does Tryz.prog 78 #[.pointer (some ⟨b, o, none⟩)] [pt b T C] (CellPost b T C o (.int .i64 n) (.int .i64 n)) := by
  intro w hw
  obtain ⟨h0, l, t, u, h1, h2, h3⟩ := hc
  have T0 := Turned.refl hw
  have hb := T0.blk 0 rfl
  have c0 : w.cell? ⟨b, o, none⟩ = some (.int .i64 n) := (blk_cell hb o).trans h0
  have c1 : w.cell? ⟨b, o + 1, none⟩ = some (.int .i64 l) := (blk_cell hb (o + 1)).trans h1
  have f1 := blk_free hb (o + 1)
  have T1 := Lib.hid T0
  have H := Lib.hid (And.intro h0 (And.intro h1 (And.intro h2 h3)))
  clear T0 hb hw h0 h1 h2 h3
  go_enter Tryz.func78, Tryz.ntmps78
  go_wp2
  go_ret
  obtain ⟨h0, h1, h2, h3⟩ := H.out
  exact ⟨_, ⟨rfl, _, rfl, recell_loads h0 h1 h2 h3⟩, T1.out.set (o + 1) _⟩

theorem swapI_does (b o : Nat) (T : TypeId) (C : Array Value) (n old new : Int) (hc : cellAt C o (.int .i64 n)) :
    Does Tryz.prog 149 #[.pointer (some ⟨b, o, none⟩), .int .i64 old, .int .i64 new] [pt b T C] (CellPost b T C o (.int .i64 (if n = old then new else n)) (.bool (decide (n = old)))) := by
  intro w hw
  obtain ⟨h0, l, t, u, h1, h2, h3⟩ := hc
  have T0 := Turned.refl hw
  have hb := T0.blk 0 rfl
  have c0 : w.cell? ⟨b, o, none⟩ = some (.int .i64 n) := (blk_cell hb o).trans h0
  have c2 : w.cell? ⟨b, o + 2, none⟩ = some (.int .i64 t) := (blk_cell hb (o + 2)).trans h2
  have c3 : w.cell? ⟨b, o + 3, none⟩ = some (.int .i64 u) := (blk_cell hb (o + 3)).trans h3
  have f0 := blk_free hb o
  have f2 := blk_free hb (o + 2)
  have f3 := blk_free hb (o + 3)
  have T1 := Lib.hid T0
  have H := Lib.hid (And.intro h0 (And.intro h1 (And.intro h2 h3)))
  clear T0 hb hw h0 h1 h2 h3
  by_cases he : n = old
  · subst he
    skip
    all_goals
      go_enter Tryz.func149, Tryz.ntmps149
      go_wp2
      go_ret
      obtain ⟨h0, h1, h2, h3⟩ := H.out
      exact ⟨_, ⟨by simp, _, rfl, recell_swap h0 h1 h2 h3⟩, ((T1.out.set (o + 2) _).set o _).set (o + 3) _⟩
  · skip
    all_goals
      go_enter Tryz.func149, Tryz.ntmps149
      go_wp2
      go_ret
      obtain ⟨h0, h1, h2, h3⟩ := H.out
      exact ⟨_, ⟨by simp [he], _, rfl, recell_tries h0 h1 h2 h3⟩, T1.out.set (o + 2) _⟩

theorem turnI_does (b o : Nat) (T : TypeId) (C : Array Value) (n v : Int) (ok : Bool) (g : Nat) (caps : Array Value) (F : PH) (hc : cellAt C o (.int .i64 n))
    (eg : ∀ args w, (callFunc g args).run Tryz.prog w = .ok (.enter g args) w)
    (hg : Does Tryz.prog g (#[.int .i64 n] ++ caps) F fun e h' => e = .returned (.tuple #[.int .i64 v, .bool ok]) ∧ h' = F) :
    Does Tryz.prog 122 #[.pointer (some ⟨b, o, none⟩), .func (.func g) #[] caps] (pt b T C :: F) fun e h' =>
      e = .returned (.tuple #[.int .i64 n, .bool ok]) ∧ ∃ C', h' = pt b T C' :: F ∧ Recell C o (.int .i64 (if ok = true then v else n)) C' := by
  intro w hw
  have T0 := Lib.hid (Turned.refl hw)
  have HC := Lib.hid hc
  have HG := Lib.hid hg
  clear hw hc hg
  cases ok
  · go_enter Tryz.func122, Tryz.ntmps122
    go_wp2_with (first
      | (go_at_call 78; refine ((loadI_does b o T C n HC.out).use T0.out (List.Perm.refl _)).mono ?_
         rintro e w1 ⟨h', ⟨rfl, C1, rfl, hr1⟩, T1⟩; have T1 := Lib.hid T1; have HR1 := Lib.hid hr1; clear hr1)
      | (refine (HG.out.use T1.out (List.perm_append_comm (l₁ := [pt b T C1]) (l₂ := F))).mono ?_
         rintro e w2 ⟨h', ⟨rfl, rfl⟩, T2⟩; have T2 := Lib.hid T2))

    go_ret2
    exact ⟨_, ⟨rfl, C1, rfl, HR1.out⟩, T2.out.perm (List.perm_append_comm)⟩
  · go_enter Tryz.func122, Tryz.ntmps122
    go_wp2_with (first
      | (go_at_call 78; refine ((loadI_does b o T C n HC.out).use T0.out (List.Perm.refl _)).mono ?_
         rintro e w1 ⟨h', ⟨rfl, C1, rfl, hr1⟩, T1⟩; have T1 := Lib.hid T1; have HR1 := Lib.hid hr1; clear hr1)
      | (go_at_call 149; refine ((swapI_does b o T C1 n n v HR1.out.cell).use T2.out (List.perm_append_comm)).mono ?_
         rintro e w3 ⟨h', ⟨rfl, C3, rfl, hr3⟩, T3⟩; rw [if_pos rfl] at hr3; have T3 := Lib.hid T3; have HR3 := Lib.hid hr3; clear hr3)
      | (refine (HG.out.use T1.out (List.perm_append_comm (l₁ := [pt b T C1]) (l₂ := F))).mono ?_
         rintro e w2 ⟨h', ⟨rfl, rfl⟩, T2⟩; have T2 := Lib.hid T2))
    all_goals go_ret2
    all_goals exact ⟨_, ⟨by simp, C3, rfl, HR1.out.trans HR3.out⟩, T3.out⟩
end Go.Proofs.YthbjaoinklhikaaGreat

namespace Go.Proofs.YthbjaoinklhikaaGreat
set_option linter.unusedVariables false
set_option linter.unusedSimpArgs false
open Go.RowKit Go.Shelf

/-! ## Groups that are parted, and put together -/
section
variable {h H : GH} {w w' : World}
/-- a group's blocks in another order -/
theorem TG.permAt (T : TG h w H w') (i : Nat) {g : List Blk} (hi : decide (i < H.length) = true) (hp : (H.getD i []).Perm g) : TG h w (H.set i g) w' := by
  have hi := of_decide_eq_true hi
  exact T.re ((perm_at hi).trans ((hp.append_right _).trans (perm_set g hi).symm))
/-- a part of a group gets a place of its own, at the end -/
theorem TG.part (T : TG h w H w') (i : Nat) {a b : List Blk} (hi : decide (i < H.length) = true) (hp : (H.getD i []).Perm (a ++ b)) : TG h w (H.set i b ++ [a]) w' := by
  have hi := of_decide_eq_true hi
  refine T.re ((perm_at hi).trans ((hp.append_right _).trans ?_))
  have e : (H.set i b ++ [a]).flatten = (H.set i b).flatten ++ a := by simp
  rw [e]
  refine List.Perm.trans ?_ ((perm_set b hi).symm.append_right a)
  rw [List.append_assoc]
  exact List.perm_append_comm
/-- two groups become one, at the first's place -/
theorem TG.merge (T : TG h w H w') (i j : Nat) (hij : i ≠ j) (hi : decide (i < H.length) = true) (hj : decide (j < H.length) = true) : TG h w ((H.set j []).set i (H.getD i [] ++ H.getD j [])) w' := by
  have hi := of_decide_eq_true hi
  have hj := of_decide_eq_true hj
  have hi' : i < (H.set j []).length := by rw [List.length_set]; exact hi
  have e : (H.set j []).getD i [] = H.getD i [] := by rw [List.getD_eq_getElem?_getD, List.getElem?_set, if_neg (Ne.symm hij), ← List.getD_eq_getElem?_getD]
  refine T.re ((perm_at hj).trans ?_)
  refine List.Perm.trans ?_ (perm_set _ hi').symm
  refine ((perm_at hi').append_left _).trans ?_
  rw [e, ← List.append_assoc]
  exact List.perm_append_comm.append_right _
end

/-- the blocks of a family -/
def famB {α : Type} (f : α → List Blk) (l : List α) : List Blk := l.flatMap f
section
variable {α : Type} {f : α → List Blk} {l : List α} {k : Nat} {a : α}
theorem fam_out (hk : l[k]? = some a) : (famB f l).Perm (f a ++ famB f (l.eraseIdx k)) := by
  unfold famB
  induction l generalizing k with
  | nil => simp at hk
  | cons x l ih =>
    cases k with
    | zero => simp only [List.getElem?_cons_zero, Option.some.injEq] at hk; subst hk; simp
    | succ k =>
      simp only [List.getElem?_cons_succ] at hk
      simp only [List.flatMap_cons, List.eraseIdx_cons_succ]
      refine ((ih hk).append_left _).trans ?_
      rw [← List.append_assoc, ← List.append_assoc]
      exact List.perm_append_comm.append_right _
theorem fam_in (hk : k < l.length) (a' : α) : (f a' ++ famB f (l.eraseIdx k)).Perm (famB f (l.set k a')) := by
  have h1 : (l.set k a')[k]? = some a' := by rw [List.getElem?_set, if_pos rfl, if_pos hk]
  have h2 := fam_out (f := f) h1
  rw [List.eraseIdx_set_eq] at h2
  exact h2.symm
theorem fam_snoc (x : α) : famB f (l ++ [x]) = famB f l ++ f x := by simp [famB]
theorem fam_set_same (hk : l[k]? = some a) : l.set k a = l := by
  apply List.ext_getElem?
  intro i
  rw [List.getElem?_set]
  split
  · next e => subst e; rw [hk]; simp [(List.getElem?_eq_some_iff.1 hk).1]
  · rfl
end
section
variable {h H : GH} {w w' : World} {α : Type} {f : α → List Blk} {l : List α} {k : Nat} {a : α}
/-- one of a family gets a place of its own -/
theorem TG.out (T : TG h w H w') (i : Nat) (hi : decide (i < H.length) = true) (hg : H.getD i [] = famB f l) (hk : l[k]? = some a) : TG h w (H.set i (famB f (l.eraseIdx k)) ++ [f a]) w' :=
  T.part i hi (hg ▸ fam_out hk)
/-- and goes back -/
theorem TG.back (T : TG h w H w') (i j : Nat) (hij : i ≠ j) (hi : decide (i < H.length) = true) (hj : decide (j < H.length) = true) {a' : α} (hg : H.getD i [] = famB f (l.eraseIdx k)) (hgj : H.getD j [] = f a') (hk : k < l.length) :
    TG h w ((H.set j []).set i (famB f (l.set k a'))) w' := by
  have T1 := T.merge i j hij hi hj
  have hi' := of_decide_eq_true hi
  have T2 := T1.permAt i (g := famB f (l.set k a')) (by rw [List.length_set, List.length_set]; exact hi) (by
    rw [List.getD_eq_getElem?_getD, List.getElem?_set, if_pos rfl, if_pos (by rw [List.length_set]; exact hi'), Option.getD_some, hg, hgj]
    exact List.perm_append_comm.trans (fam_in hk a'))
  rwa [List.set_set] at T2
/-- a new one of a family -/
theorem TG.join (T : TG h w H w') (i j : Nat) (hij : i ≠ j) (hi : decide (i < H.length) = true) (hj : decide (j < H.length) = true) {x : α} (hg : H.getD i [] = famB f l) (hgj : H.getD j [] = f x) :
    TG h w ((H.set j []).set i (famB f (l ++ [x]))) w' := by
  have T1 := T.merge i j hij hi hj
  rwa [hg, hgj, ← fam_snoc] at T1
end
/-! ## A family whose blocks are known by what is said of them -/
def FamP {α : Type} (P : α → List Blk → Prop) : List α → List Blk → Prop
  | [], g => g = []
  | a :: l, g => ∃ x y, P a x ∧ FamP P l y ∧ g = x ++ y
section
variable {α : Type} {P : α → List Blk → Prop}
theorem FamP.snoc {l : List α} {g x : List Blk} {a : α} (h : FamP P l g) (hx : P a x) : FamP P (l ++ [a]) (g ++ x) := by
  induction l generalizing g with
  | nil => obtain rfl : g = [] := h; exact ⟨x, [], hx, rfl, by simp⟩
  | cons b l ih =>
    obtain ⟨y, z, hy, hz, rfl⟩ := h
    exact ⟨y, z ++ x, hy, ih hz, by simp⟩
/-- one of them, and what may stand in its place -/
theorem FamP.out {l : List α} {g : List Blk} {k : Nat} {a : α} (h : FamP P l g) (hk : l[k]? = some a) :
    ∃ x y, P a x ∧ g.Perm (x ++ y) ∧ ∀ a' x', P a' x' → ∃ g', FamP P (l.set k a') g' ∧ (x' ++ y).Perm g' := by
  induction l generalizing g k with
  | nil => simp at hk
  | cons b l ih =>
    obtain ⟨u, v, hu, hv, rfl⟩ := h
    cases k with
    | zero =>
      simp only [List.getElem?_cons_zero, Option.some.injEq] at hk
      subst hk
      exact ⟨u, v, hu, List.Perm.refl _, fun a' x' hx' => ⟨x' ++ v, ⟨x', v, hx', hv, rfl⟩, List.Perm.refl _⟩⟩
    | succ k =>
      simp only [List.getElem?_cons_succ] at hk
      obtain ⟨x, y, hx, hp, hr⟩ := ih hv hk
      refine ⟨x, u ++ y, hx, ?_, fun a' x' hx' => ?_⟩
      · refine (hp.append_left u).trans ?_
        rw [← List.append_assoc, ← List.append_assoc]
        exact List.perm_append_comm.append_right _
      · obtain ⟨g', hg', hp'⟩ := hr a' x' hx'
        refine ⟨u ++ g', ⟨u, g', hu, hg', rfl⟩, ?_⟩
        refine List.Perm.trans ?_ (hp'.append_left u)
        rw [← List.append_assoc, ← List.append_assoc]
        exact List.perm_append_comm.append_right _
end
end Go.Proofs.YthbjaoinklhikaaGreat

namespace Go.Proofs.YthbjaoinklhikaaGreat
set_option linter.unusedVariables false
set_option linter.unusedSimpArgs false
open Go.RowKit Go.Shelf

abbrev ptr' (b : Nat) : Value := .pointer (some ⟨b, 0, none⟩)
/-! ## What is made, and needs not be known -/
theorem listNew0_g : DoesG Tryz.prog 139 #[] [] fun e gs => ∃ b, e = .returned (ptr' b) ∧ gs = [] := by
  intro w hw
  have T0 := TG.refl hw
  have HT := Lib.hid T0
  clear hw T0
  go_enter Tryz.func139, Tryz.ntmps139
  go_wp2
  go_ret
  exact ⟨[], ⟨_, rfl, rfl⟩, (HT.out.alloc0 _).alloc0 _⟩
set_option maxRecDepth 100000 in
set_option maxHeartbeats 4000000 in
theorem levelNew0_g : DoesG Tryz.prog 140 #[] [] fun e gs => ∃ b, e = .returned (ptr' b) ∧ gs = [] := by
  intro w hw
  have T0 := TG.refl hw
  have HT := Lib.hid T0
  clear hw T0
  go_enter Tryz.func140, Tryz.ntmps140
  go_wp2
  have T1 := HT.out.alloc (k := w.heap.size) rfl 243 Tryz.zeroCells243
  go_loopw [2, 5] (fun _ i wr => ∃ (k : Nat) (C : Array Value), k ≤ 64 ∧ i = .int .i64 k ∧ C.size = 66 ∧ TG [] w [[cl w.heap.size 243 C]] wr) (fun _ i _ => 65 - (intOf i).toNat)
  case atStart => exact ⟨0, _, by omega, rfl, by kernel_rfl, T1⟩
  case round =>
    obtain ⟨lb, hlb⟩ : ∃ lb, lb = w.heap.size := ⟨_, rfl⟩
    rw [← hlb] at hrel ⊢
    obtain ⟨k, C, hk, rfl, hC, T⟩ := hrel
    have HT := Lib.hid T
    have HC := Lib.hid hC
    clear T T1 hC hlb
    by_cases hlt : k < 64
    · have c0 := Array.getElem?_eq_getElem (xs := C) (i := k) (by rw [HC.out]; omega)
      have HC0 := Lib.hid c0
      clear c0
      go_wp2
      go_region_with (
        go_at_call 139
        refine (DoesG.use listNew0_g HT.out.drew [] rfl rfl).mono ?_
        rintro e w1 ⟨gs, ⟨b, rfl, rfl⟩, Ta⟩
        simp only [putG, List.nil_append, List.append_nil] at Ta
        have c1 := (Ta.cell 0 0 rfl k).trans HC0.out
        have f1 := Ta.free 0 0 rfl k
        have HT1 := Lib.hid Ta
        clear Ta)
      go_wp2
      first
      | (go_roundw
         case rel => exact ⟨k + 1, _, by omega, by go_num, by rw [Array.size_setIfInBounds]; exact HC.out, HT1.out.set 0 0 rfl k _⟩
         case measure => simp [intOf]; omega)
      | exact ⟨⟨k + 1, _, by omega, by go_num, by rw [Array.size_setIfInBounds]; exact HC.out, HT1.out.set 0 0 rfl k _⟩, by simp [intOf]; omega⟩
      | ((repeat apply Exists.intro); exact ⟨⟨⟨k + 1, _, by omega, by go_num, by rw [Array.size_setIfInBounds]; exact HC.out, HT1.out.set 0 0 rfl k _⟩, rfl⟩, by simp [intOf]; omega⟩)
    · go_wp2
      go_ret
      exact ⟨[], ⟨_, rfl, rfl⟩, HT.out.pick [] rfl⟩
set_option maxRecDepth 100000 in
set_option maxHeartbeats 4000000 in
theorem wheelNew0_g (now : Int) : DoesG Tryz.prog 113 #[.int .u64 now] [] fun e gs => ∃ b, e = .returned (ptr' b) ∧ gs = [] := by
  intro w hw
  have T0 := TG.refl hw
  have HT := Lib.hid T0
  clear hw T0
  go_enter Tryz.func113, Tryz.ntmps113
  go_wp2_with fail
  refine (DoesG.use (listNew0_g) (HT.out) [] rfl rfl).mono ?_
  rintro e w1 ⟨gs, ⟨b0, rfl, rfl⟩, Ta⟩
  simp only [putG, List.set_cons_zero, List.set_cons_succ, List.cons_append, List.nil_append, List.append_nil] at Ta
  have HT := Lib.hid Ta
  clear Ta
  go_wp2
  have T1 := HT.out.alloc (k := w1.heap.size) rfl 203 #[.int .u64 now, .pointer none, .pointer none, .pointer none, .pointer none, ptr' b0, .int .i64 0]
  go_loopw [4, 9] (fun _ i wr => ∃ (k : Nat) (C : Array Value), k ≤ 4 ∧ i = .int .i64 k ∧ C.size = 7 ∧ TG [] w [[cl w1.heap.size 203 C]] wr) (fun _ i _ => 5 - (intOf i).toNat)
  case atStart => exact ⟨0, _, by omega, rfl, rfl, T1⟩
  case round =>
    obtain ⟨lb, hlb⟩ : ∃ lb, lb = w1.heap.size := ⟨_, rfl⟩
    rw [← hlb] at hrel ⊢
    obtain ⟨k, C, hk, rfl, hC, T⟩ := hrel
    have HT := Lib.hid T
    have HC := Lib.hid hC
    clear T T1 hC hlb
    by_cases hlt : k < 4
    · have c0 := Array.getElem?_eq_getElem (xs := C) (i := 1 + k) (by rw [HC.out]; omega)
      have HC0 := Lib.hid c0
      clear c0
      go_wp2
      go_region_with (
        go_at_call 140
        refine (DoesG.use levelNew0_g HT.out.drew [] rfl rfl).mono ?_
        rintro e w2 ⟨gs, ⟨b, rfl, rfl⟩, Ta⟩
        simp only [putG, List.nil_append, List.append_nil] at Ta
        have c1 := (Ta.cell 0 0 rfl (1 + k)).trans HC0.out
        have f1 := Ta.free 0 0 rfl (1 + k)
        have HT1 := Lib.hid Ta
        clear Ta)
      go_wp2
      first
      | (go_roundw
         case rel => exact ⟨k + 1, _, by omega, by go_num, by rw [Array.size_setIfInBounds]; exact HC.out, HT1.out.set 0 0 rfl (1 + k) _⟩
         case measure => simp [intOf]; omega)
      | exact ⟨⟨k + 1, _, by omega, by go_num, by rw [Array.size_setIfInBounds]; exact HC.out, HT1.out.set 0 0 rfl (1 + k) _⟩, by simp [intOf]; omega⟩
      | ((repeat apply Exists.intro); exact ⟨⟨⟨k + 1, _, by omega, by go_num, by rw [Array.size_setIfInBounds]; exact HC.out, HT1.out.set 0 0 rfl (1 + k) _⟩, rfl⟩, by simp [intOf]; omega⟩)
    · go_wp2
      go_ret
      exact ⟨[], ⟨_, rfl, rfl⟩, HT.out.pick [] rfl⟩

/-! ## A lock, a log, a list without nodes, a ring -/
def isLock (b : Nat) (who : Int) (n : Int) (g : List Blk) : Prop := ∃ C, g = [cl b 159 C] ∧ C.size = 5 ∧ cellAt C 0 (.int .i64 who) ∧ C[4]? = some (.int .i64 n)
theorem lockNew_g : DoesG Tryz.prog 112 #[] [] fun e gs => ∃ b g, e = .returned (ptr' b) ∧ isLock b 0 0 g ∧ gs = [g] := by
  intro w hw
  have T0 := TG.refl hw
  have HT := Lib.hid T0
  clear hw T0
  go_enter Tryz.func112, Tryz.ntmps112
  go_wp2
  go_ret
  exact ⟨_, ⟨_, _, rfl, ⟨_, rfl, rfl, ⟨rfl, 0, 0, 0, rfl, rfl, rfl⟩, rfl⟩, rfl⟩, HT.out.alloc rfl _ _⟩
theorem logNew_g : DoesG Tryz.prog 70 #[] [] fun e gs => ∃ b, e = .returned (ptr' b) ∧ gs = [[cl b 174 #[.slice none 0 0]]] := by
  intro w hw
  have T0 := TG.refl hw
  have HT := Lib.hid T0
  clear hw T0
  go_enter Tryz.func70, Tryz.ntmps70
  go_wp2
  go_ret
  exact ⟨_, ⟨_, rfl, rfl⟩, HT.out.alloc rfl _ _⟩
/-- a list of firings without nodes -/
def noList (b hb : Nat) : List Blk := [cl b 207 #[.pointer none, .pointer none, .int .i64 0, ptr' hb], cl hb 218 #[.pointer none]]
theorem fireListNew_g : DoesG Tryz.prog 110 #[] [] fun e gs => ∃ b hb, e = .returned (ptr' b) ∧ gs = [noList b hb] := by
  intro w hw
  have T0 := TG.refl hw
  have HT := Lib.hid T0
  clear hw T0
  go_enter Tryz.func110, Tryz.ntmps110
  go_wp2
  go_ret
  exact ⟨_, ⟨_, _, rfl, rfl⟩, ((HT.out.alloc rfl _ _).alloc rfl _ _).re (by simp [noList]; exact List.Perm.swap _ _ _)⟩

/-! ### A ring -/
structure TaskS where
  id : Int
  slot : Int
  gen : Int
  dl : Int
  per : Int
def TaskS.zero : TaskS := ⟨0, 0, 0, 0, 0⟩
structure SlotS where
  seq : Int
  v : TaskS
structure RingS where
  slots : List SlotS
  tail : Int
  head : Int
def taskAt (D : Array Value) (o : Nat) (t : TaskS) : Prop := D[o]? = some (.int .u64 t.id) ∧ D[o + 1]? = some (.int .i64 t.slot) ∧ D[o + 2]? = some (.int .u64 t.gen) ∧ D[o + 3]? = some (.int .u64 t.dl) ∧ D[o + 4]? = some (.int .u64 t.per)
def slotAt (D : Array Value) (i : Nat) (s : SlotS) : Prop := cellAt D (i * 9) (.int .i64 s.seq) ∧ taskAt D (i * 9 + 4) s.v
def isRing (rb : Nat) (r : RingS) (g : List Blk) : Prop := ∃ sb C D, g = [cl rb 185 C, cl sb 189 D] ∧ C.size = 6 ∧ C[0]? = some (.slice (some ⟨sb, 0, none⟩) r.slots.length r.slots.length) ∧ cellAt C 1 (.int .i64 r.tail) ∧
  C[5]? = some (.int .i64 r.head) ∧ D.size = r.slots.length * 9 ∧ ∀ i s, r.slots[i]? = some s → slotAt D i s
theorem storeI_g (b o : Nat) (T : TypeId) (C : Array Value) (u : Value) (x : Int) (hc : C[o]? = some u) :
    DoesG Tryz.prog 116 #[.pointer (some ⟨b, o, none⟩), .int .i64 x] [[cl b T C]] fun e gs => e = .returned (.tuple #[]) ∧ gs = [[cl b T (C.setIfInBounds o (.int .i64 x))]] := by
  intro w hw
  have T0 := TG.refl hw
  have HT := Lib.hid T0
  clear hw T0
  have c0 := (HT.out.cell 0 0 rfl o).trans hc
  have f0 := HT.out.free 0 0 rfl o
  clear hc
  go_enter Tryz.func116, Tryz.ntmps116
  go_wp2
  refine bodyPost_end (results_none rfl _ _ _) rfl ⟨_, ⟨rfl, rfl⟩, HT.out.set 0 0 rfl o _⟩
def newRing (n : Nat) : RingS := ⟨(List.range n).map fun (i : Nat) => ⟨2 * (i : Int), TaskS.zero⟩, 0, 0⟩
def slotC : Array Value := #[.int .i64 0, .int .i64 0, .int .i64 0, .int .i64 0, .int .u64 0, .int .i64 0, .int .u64 0, .int .u64 0, .int .u64 0]
theorem slot_info : (Tryz.prog.info? 189).map (fun i => (i.zero, i.size, i.bytes)) = some (some (.agg slotC), 9, 72) := by kernel_rfl
/-- the slots behind so many stores -/
def ringD (n k : Nat) (D : Array Value) : Prop := D.size = n * 9 ∧ ∀ i, i < n → slotAt D i ⟨if i < k then 2 * (i : Int) else 0, TaskS.zero⟩
theorem ringD_new (n : Nat) : ringD n 0 (madeCells slotC (n * 9)) := by
  refine ⟨size_madeCells _ _, fun i hi => ?_⟩
  rw [if_neg (Nat.not_lt_zero _)]
  have hz : slotC.size = 9 := rfl
  have g : ∀ j, j < 9 → (madeCells slotC (n * 9))[i * 9 + j]? = slotC[j]? := fun j hj => made_get _ n 9 i j hz hi hj
  exact ⟨⟨g 0 (by decide), 0, 0, 0, g 1 (by decide), g 2 (by decide), g 3 (by decide)⟩, g 4 (by decide), g 5 (by decide), g 6 (by decide), g 7 (by decide), g 8 (by decide)⟩
theorem slotAt_set {D : Array Value} {i j : Nat} {s : SlotS} (h : slotAt D i s) (x : Int) : slotAt (D.setIfInBounds (j * 9) (.int .i64 x)) i (if i = j then { s with seq := x } else s) := by
  obtain ⟨⟨a0, l, t, u, a1, a2, a3⟩, b0, b1, b2, b3, b4⟩ := h
  by_cases e : i = j
  · subst e
    rw [if_pos rfl]
    exact ⟨⟨get_set_eq a0, l, t, u, (get_set_ne (by omega)).trans a1, (get_set_ne (by omega)).trans a2, (get_set_ne (by omega)).trans a3⟩, (get_set_ne (by omega)).trans b0, (get_set_ne (by omega)).trans b1, (get_set_ne (by omega)).trans b2, (get_set_ne (by omega)).trans b3, (get_set_ne (by omega)).trans b4⟩
  · rw [if_neg e]
    exact ⟨⟨(get_set_ne (by omega)).trans a0, l, t, u, (get_set_ne (by omega)).trans a1, (get_set_ne (by omega)).trans a2, (get_set_ne (by omega)).trans a3⟩, (get_set_ne (by omega)).trans b0, (get_set_ne (by omega)).trans b1, (get_set_ne (by omega)).trans b2, (get_set_ne (by omega)).trans b3, (get_set_ne (by omega)).trans b4⟩
theorem ringD_next {n k : Nat} {D : Array Value} (h : ringD n k D) (hk : k < n) : ringD n (k + 1) (D.setIfInBounds (k * 9) (.int .i64 (2 * k))) := by
  refine ⟨by rw [Array.size_setIfInBounds]; exact h.1, fun i hi => ?_⟩
  have h2 := slotAt_set (j := k) (h.2 i hi) (2 * k)
  by_cases e : i = k
  · subst e
    rw [if_pos rfl] at h2
    rw [if_pos (by omega)]
    exact h2
  · rw [if_neg e] at h2
    have e2 : (if i < k + 1 then 2 * (i : Int) else 0) = if i < k then 2 * (i : Int) else 0 := by
      by_cases h3 : i < k
      · rw [if_pos h3, if_pos (by omega)]
      · rw [if_neg h3, if_neg (by omega)]
    rw [e2]; exact h2
set_option maxRecDepth 100000 in
set_option maxHeartbeats 4000000 in
theorem ringNew_g (n : Nat) (h1 : 1 ≤ n) (h2 : n ≤ 64) : DoesG Tryz.prog 111 #[.int .i64 n] [] fun e gs => ∃ b g, e = .returned (.tuple #[ptr' b, .int .i64 0]) ∧ isRing b (newRing n) g ∧ gs = [g] := by
  intro w hw
  have T0 := TG.refl hw
  have HT := Lib.hid T0
  clear hw T0
  have hmk : ∀ w, (Instr.makeSlice 183 (.int .i64 (n : Int)) (.int .i64 (n : Int))).run Tryz.prog w = .ok (.slice (some ⟨w.heap.size, 0, none⟩) n n) (w.alloc (.cells (madeCells slotC (n * 9)) 189)) := run_make_n _ _ (.agg slotC) 9 72 Tryz.underlying183 slot_info n (by omega) (by omega)
  have hd1 : decide ((n : Int) < 1) = false := by simp; omega
  have hd2 : decide (64 < (n : Int)) = false := by simp; omega
  go_enter Tryz.func111, Tryz.ntmps111
  go_wp2
  have T1 := (HT.out.alloc (k := w.heap.size) rfl 189 (madeCells slotC (n * 9))).alloc (k := w.heap.size + 1) (by simp) 185 #[.slice (some ⟨w.heap.size, 0, none⟩) n n, .int .i64 0, .int .i64 0, .int .i64 0, .int .i64 0, .int .i64 0]
  obtain ⟨sb, hsb⟩ : ∃ sb, sb = w.heap.size := ⟨_, rfl⟩
  rw [← hsb] at T1 ⊢
  obtain ⟨rb, hrb⟩ : ∃ rb, rb = sb + 1 := ⟨_, rfl⟩
  rw [← hrb] at T1 ⊢
  go_loopw [5, 21] (fun _ i wr => ∃ (k : Nat) (D : Array Value), k ≤ n ∧ i = .int .i64 k ∧ ringD n k D ∧ TG [] w [[cl sb 189 D], [cl rb 185 #[.slice (some ⟨sb, 0, none⟩) n n, .int .i64 0, .int .i64 0, .int .i64 0, .int .i64 0, .int .i64 0]]] wr) (fun _ i _ => n + 1 - (intOf i).toNat)
  case atStart => exact ⟨0, _, by omega, rfl, ringD_new n, T1⟩
  case round =>
    obtain ⟨k, D, hk, rfl, hD, T⟩ := hrel
    have HT := Lib.hid T
    have HD := Lib.hid hD
    have c1 := T.cell 1 0 rfl
    clear T T1 hD hsb hrb
    by_cases hlt : k < n
    · go_wp2_with fail
      refine (DoesG.use (storeI_g sb (k * 9) 189 D _ (2 * k) (HD.out.2 k hlt).1.1) (HT.out) [0] rfl rfl).mono ?_
      rintro e w1 ⟨gs, ⟨rfl, rfl⟩, Ta⟩
      simp only [putG, List.set_cons_zero, List.set_cons_succ, List.cons_append, List.nil_append, List.append_nil] at Ta
      have HT := Lib.hid Ta
      clear Ta
      go_wp2
      first
      | (go_roundw
         case rel => exact ⟨k + 1, _, by omega, by go_num, ringD_next HD.out hlt, HT.out⟩
         case measure => simp [intOf]; omega)
      | exact ⟨⟨k + 1, _, by omega, by go_num, ringD_next HD.out hlt, HT.out⟩, by simp [intOf]; omega⟩
      | ((repeat apply Exists.intro); exact ⟨⟨⟨k + 1, _, by omega, by go_num, ringD_next HD.out hlt, HT.out⟩, rfl⟩, by simp [intOf]; omega⟩)
    · obtain rfl : k = n := by omega
      go_wp2
      go_ret2
      refine ⟨_, ⟨_, [cl rb 185 _, cl sb 189 D], rfl, ⟨sb, _, D, rfl, rfl, by simp [newRing], ⟨rfl, 0, 0, 0, rfl, rfl, rfl⟩, rfl, by simpa [newRing] using HD.out.1, fun i s hs => ?_⟩, rfl⟩, HT.out.re (List.Perm.swap _ _ _)⟩
      have hi : i < k := by have := (List.getElem?_eq_some_iff.1 hs).1; simpa [newRing] using this
      have h2 := HD.out.2 i hi
      rw [if_pos hi] at h2
      have e : s = ⟨2 * (i : Int), TaskS.zero⟩ := by simp [newRing, hi] at hs; exact hs.symm
      rw [e]; exact h2
end Go.Proofs.YthbjaoinklhikaaGreat

namespace Go.Proofs.YthbjaoinklhikaaGreat
set_option linter.unusedVariables false
set_option linter.unusedSimpArgs false
open Go.RowKit Go.Shelf

/-! ## Stages: what a stage is, as a term; what its closures do, once for all that is made of them -/
/-- a stage: none; a function behind a condition, or none; a row of one thing, of two; one behind another -/
inductive St (M A Y : Type) where
  | nil
  | at (y : Option Y) (m : M)
  | row1 (a : A)
  | row2 (a b : A)
  | thn (s : St M A Y) (m : M)
section
variable {M A Y α : Type}
def St.isNil : St M A Y → Bool
  | .nil => true
  | _ => false
def thenSt (runM : M → α → St M A Y × α) (s : St M A Y) (m : M) (x : α) : St M A Y × α :=
  match s with
  | .nil => runM m x
  | s => (.thn s m, x)
def St.run (runM : M → α → St M A Y × α) (runA : A → α → α) : St M A Y → α → St M A Y × α
  | .nil, x => (.nil, x)
  | .at _ m, x => runM m x
  | .row1 a, x => (.nil, runA a x)
  | .row2 a b, x => (.row1 b, runA a x)
  | .thn s m, x => thenSt runM (s.run runM runA x).1 m (s.run runM runA x).2
/-- what must hold for a stage's next step -/
def St.pre (runM : M → α → St M A Y × α) (runA : A → α → α) (preM : M → α → Prop) (preA : A → α → Prop) : St M A Y → α → Prop
  | .nil, _ => True
  | .at _ m, x => preM m x
  | .row1 a, x => preA a x
  | .row2 a _, x => preA a x
  | .thn s m, x => s.pre runM runA preM preA x ∧ ((s.run runM runA x).1.isNil = true → preM m (s.run runM runA x).2)
def St.may (mayY : Y → α → Bool) : St M A Y → α → Bool
  | .nil, _ => false
  | .at none _, _ => true
  | .at (some y) _, x => mayY y x
  | .row1 _, _ => true
  | .row2 _ _, _ => true
  | .thn s _, x => s.may mayY x
def St.preY (preY : Y → α → Prop) : St M A Y → α → Prop
  | .at (some y) _, x => preY y x
  | .thn s _, x => s.preY preY x
  | _, _ => True
end
/-- groups put otherwise: by a sum over their blocks -/
theorem TG.sum {h H H' : GH} {w w' : World} (T : TG h w H w')
    (hs : ∀ n : List Blk → Nat, (∀ x y, n (x ++ y) = n x + n y) → n [] = 0 → (∀ a b l, n (a :: b :: l) = n [a] + n (b :: l)) → (∀ a x y, n (a :: (x ++ y)) = n [a] + (n x + n y)) → n H.flatten = n H'.flatten) : TG h w H' w' := by
  classical
  refine T.re (List.perm_iff_count.2 fun a => hs (fun l => l.count a) (fun x y => List.count_append) rfl (fun b d l => ?_) (fun b x y => ?_))
  · show List.count a ([b] ++ (d :: l)) = _
    rw [List.count_append]
  · show List.count a ([b] ++ (x ++ y)) = _
    rw [List.count_append, List.count_append]
/-- a function value, and what a call of it does -/
def FnG (P : Program) (v : Value) (gs : GH) (R : Ending → GH → Prop) : Prop :=
  ∃ fn first caps, v = .func (.func fn) first caps ∧ (∀ args w, (callFunc fn args).run P w = .ok (.enter fn args) w) ∧ DoesG P fn (first ++ caps) gs R
theorem FnG.mono {P : Program} {v : Value} {gs : GH} {R R' : Ending → GH → Prop} (h : FnG P v gs R) (hr : ∀ e gs', R e gs' → R' e gs') : FnG P v gs R' := by
  obtain ⟨fn, first, caps, h1, h2, h3⟩ := h
  exact ⟨fn, first, caps, h1, h2, h3.mono hr⟩
theorem fun_nil_M (w : World) : (binOp .eql 104 .nilFunc .nilFunc).run Tryz.prog w = .ok (.bool true) w := by kernel_rfl
theorem fun_is_M (f : Fn) (a b : Array Value) (w : World) : (binOp .eql 104 (.func f a b) .nilFunc).run Tryz.prog w = .ok (.bool false) w := by kernel_rfl
theorem fun_nil_Y (w : World) : (binOp .eql 25 .nilFunc .nilFunc).run Tryz.prog w = .ok (.bool true) w := by kernel_rfl
theorem fun_is_Y (f : Fn) (a b : Array Value) (w : World) : (binOp .eql 25 (.func f a b) .nilFunc).run Tryz.prog w = .ok (.bool false) w := by kernel_rfl
theorem fun_is_A (f : Fn) (a b : Array Value) (w : World) : (binOp .neq 1 (.func f a b) .nilFunc).run Tryz.prog w = .ok (.bool true) w := by kernel_rfl
/-- those who use stages -/
structure Cli where
  M : Type
  A : Type
  Y : Type
  α : Type
  rep : α → List Blk → List Blk → Prop
  VM : M → Value → List Blk → Prop
  VA : A → Value → List Blk → Prop
  VY : Y → Value → List Blk → Prop
  runM : M → α → St M A Y × α
  runA : A → α → α
  mayY : Y → α → Bool
  preM : M → α → Prop
  preA : A → α → Prop
  preY : Y → α → Prop
namespace Cli
variable (c : Cli)
abbrev S : Type := St c.M c.A c.Y
def run (s : c.S) (x : c.α) : c.S × c.α := St.run c.runM c.runA s x
def pre (s : c.S) (x : c.α) : Prop := St.pre c.runM c.runA c.preM c.preA s x
def thn (s : c.S) (m : c.M) (x : c.α) : c.S × c.α := thenSt c.runM s m x
/-- a stage's value, and its blocks -/
def SV : c.S → Value → Value → List Blk → Prop
  | .nil, m, d, g => m = .nilFunc ∧ d = .nilFunc ∧ g = []
  | .at none f, m, d, g => m = .nilFunc ∧ c.VM f d g
  | .at (some y) f, m, d, g => ∃ g1 g2, c.VY y m g1 ∧ c.VM f d g2 ∧ g = g1 ++ g2
  | .row1 a, m, d, g => m = .nilFunc ∧ ∃ bf bl bi b o D va ga, d = .func (.func 154) #[] #[ptr' bf, ptr' bl, ptr' bi] ∧ c.VA a va ga ∧ D[o]? = some va ∧
      g = [cl bf 1 #[va], cl bl 226 #[.slice (some ⟨b, o, none⟩) 1 1], cl bi 3 #[.int .i64 0], cl b 1 D] ++ ga
  | .row2 a a', m, d, g => m = .nilFunc ∧ ∃ bf bl bi b va va' ga ga', d = .func (.func 154) #[] #[ptr' bf, ptr' bl, ptr' bi] ∧ c.VA a va ga ∧ c.VA a' va' ga' ∧
      g = [cl bf 1 #[va], cl bl 226 #[.slice (some ⟨b, 0, none⟩) 2 2], cl bi 3 #[.int .i64 0], cl b 1 #[va, va']] ++ ga ++ ga'
  | .thn s f, m, d, g => ∃ bs br ds vm gs gm, d = .func (.func 175) #[] #[ptr' bs, ptr' br] ∧ s.isNil = false ∧ SV s m ds gs ∧ c.VM f vm gm ∧
      g = [cl bs 106 #[m, ds], cl br 104 #[vm]] ++ gs ++ gm
/-- their functions are functions -/
structure Vals : Prop where
  vm : ∀ {f : c.M} {v : Value} {g : List Blk}, c.VM f v g → ∃ fn first caps, v = .func (.func fn) first caps
  va : ∀ {f : c.A} {v : Value} {g : List Blk}, c.VA f v g → ∃ fn first caps, v = .func (.func fn) first caps
  vy : ∀ {f : c.Y} {v : Value} {g : List Blk}, c.VY f v g → ∃ fn first caps, v = .func (.func fn) first caps
/-- what is shown of those who use stages -/
structure Ok : Prop where
  m : ∀ {f : c.M} {v : Value} {g gK gF : List Blk} {x : c.α}, c.VM f v g → c.rep x gK gF → c.preM f x →
    FnG Tryz.prog v [g, gK, gF] fun e gs => ∃ m d g' gK' gF', e = .returned (.agg #[m, d]) ∧ c.SV (c.runM f x).1 m d g' ∧ c.rep (c.runM f x).2 gK' gF' ∧ gs = [g', gK', gF']
  a : ∀ {f : c.A} {v : Value} {g gK gF : List Blk} {x : c.α}, c.VA f v g → c.rep x gK gF → c.preA f x →
    FnG Tryz.prog v [g, gK, gF] fun e gs => ∃ gK' gF', e = .returned (.tuple #[]) ∧ c.rep (c.runA f x) gK' gF' ∧ gs = [[], gK', gF']
  y : ∀ {f : c.Y} {v : Value} {g gK gF : List Blk} {x : c.α}, c.VY f v g → c.rep x gK gF → c.preY f x →
    FnG Tryz.prog v [g, gK, gF] fun e gs => ∃ gK' gF', e = .returned (.bool (c.mayY f x)) ∧ c.rep x gK' gF' ∧ gs = [g, gK', gF']
  v : c.Vals
variable {c}
theorem SV.nil {m d : Value} {g : List Blk} (h : c.SV .nil m d g) : m = .nilFunc ∧ d = .nilFunc ∧ g = [] := h
theorem Ok.vm (h : c.Ok) {f : c.M} {v : Value} {g : List Blk} (hv : c.VM f v g) : ∃ fn first caps, v = .func (.func fn) first caps := h.v.vm hv
theorem Ok.va (h : c.Ok) {f : c.A} {v : Value} {g : List Blk} (hv : c.VA f v g) : ∃ fn first caps, v = .func (.func fn) first caps := h.v.va hv
theorem Ok.vy (h : c.Ok) {f : c.Y} {v : Value} {g : List Blk} (hv : c.VY f v g) : ∃ fn first caps, v = .func (.func fn) first caps := h.v.vy hv
/-- a stage that is there has something to do -/
theorem Vals.do_ (h : c.Vals) {s : c.S} {m d : Value} {g : List Blk} (hs : s.isNil = false) (v : c.SV s m d g) : ∃ fn first caps, d = .func (.func fn) first caps := by
  cases s with
  | nil => cases hs
  | «at» y f =>
    cases y with
    | none => exact h.vm v.2
    | some y => obtain ⟨g1, g2, _, h2, _⟩ := v; exact h.vm h2
  | row1 a => obtain ⟨_, bf, bl, bi, b, o, D, va, ga, rfl, _⟩ := v; exact ⟨_, _, _, rfl⟩
  | row2 a a' => obtain ⟨_, bf, bl, bi, b, va, va', ga, ga', rfl, _⟩ := v; exact ⟨_, _, _, rfl⟩
  | thn s f => obtain ⟨bs, br, ds, vm, gs, gm, rfl, _⟩ := v; exact ⟨_, _, _, rfl⟩
/-- a function value, or none -/
def isFv (v : Value) : Prop := v = .nilFunc ∨ ∃ fn first caps, v = .func (.func fn) first caps
theorem store_fv {P : Program} {v u : Value} (hv : isFv v) {a : Addr} {w : World} (hc : w.cell? a = some u) (hf : w.frozen? a = false) : (store a v).run P w = .ok () (w.setCell a v) := by
  rcases hv with rfl | ⟨fn, x, y, rfl⟩ <;> (rw [run_store P w a _ .plain rfl]; simp [stored, hc, hf])
theorem store_fv2 {P : Program} {v v' u u' : Value} (hv : isFv v) (hv' : isFv v') {b : Nat} {w : World} (hc : w.cell? ⟨b, 0, none⟩ = some u) (hf : w.frozen? ⟨b, 0, none⟩ = false) (hc' : w.cell? ⟨b, 1, none⟩ = some u') (hf' : w.frozen? ⟨b, 1, none⟩ = false) :
    (store ⟨b, 0, none⟩ v).run P w = .ok () (w.setCell ⟨b, 0, none⟩ v) ∧ (store ⟨b, 1, none⟩ v').run P (w.setCell ⟨b, 0, none⟩ v) = .ok () ((w.setCell ⟨b, 0, none⟩ v).setCell ⟨b, 1, none⟩ v') :=
  have e1 : (w.setCell ⟨b, 0, none⟩ v).cell? ⟨b, 1, none⟩ = some u' := by simp [go_sem, hc']
  have e2 : (w.setCell ⟨b, 0, none⟩ v).frozen? ⟨b, 1, none⟩ = false := by simp [go_sem, hf']
  ⟨store_fv hv hc hf, store_fv hv' e1 e2⟩
theorem Vals.vals (h : c.Vals) : ∀ {s : c.S} {m d : Value} {g : List Blk}, c.SV s m d g → isFv m ∧ isFv d
  | .nil, _, _, _, v => ⟨.inl v.1, .inl v.2.1⟩
  | .at none f, _, _, _, v => ⟨.inl v.1, .inr (h.vm v.2)⟩
  | .at (some y) f, _, _, _, v => by obtain ⟨g1, g2, h1, h2, _⟩ := v; exact ⟨.inr (h.vy h1), .inr (h.vm h2)⟩
  | .row1 a, _, _, _, v => by obtain ⟨h0, bf, bl, bi, b, o, D, va, ga, rfl, _⟩ := v; exact ⟨.inl h0, .inr ⟨_, _, _, rfl⟩⟩
  | .row2 a a', _, _, _, v => by obtain ⟨h0, bf, bl, bi, b, va, va', ga, ga', rfl, _⟩ := v; exact ⟨.inl h0, .inr ⟨_, _, _, rfl⟩⟩
  | .thn s f, _, _, _, v => by
    obtain ⟨bs, br, ds, vm, gs, gm, rfl, _, hv, _⟩ := v
    exact ⟨(Vals.vals h hv).1, .inr ⟨_, _, _, rfl⟩⟩
theorem Ok.do_ (h : c.Ok) {s : c.S} {m d : Value} {g : List Blk} (hs : s.isNil = false) (v : c.SV s m d g) : ∃ fn first caps, d = .func (.func fn) first caps := h.v.do_ hs v
theorem Ok.vals (h : c.Ok) {s : c.S} {m d : Value} {g : List Blk} (v : c.SV s m d g) : isFv m ∧ isFv d := h.v.vals v
set_option maxRecDepth 100000 in
theorem prog_then_cons (h : c.Vals) {s : c.S} {f : c.M} {m d v : Value} {g gm : List Blk} (hn : s.isNil = false) (hs : c.SV s m d g) (hm : c.VM f v gm) :
    DoesG Tryz.prog 143 #[.agg #[m, d], v] [g, gm] fun e gs => ∃ m' d' g', e = .returned (.agg #[m', d']) ∧ c.SV (.thn s f) m' d' g' ∧ gs = [g'] := by
  obtain ⟨fn, first, caps, rfl⟩ := h.do_ hn hs
  intro w hw
  have T0 := TG.refl hw
  have HT := Lib.hid T0
  clear hw T0
  have HS := Lib.hid hs
  have HM := Lib.hid hm
  have HN := Lib.hid hn
  obtain ⟨v1, _⟩ := h.vals hs
  obtain ⟨fn0, first0, caps0, rfl⟩ := h.vm hm
  clear hm hs h hn
  have q1 := fun w => fun_is_M (.func fn) first caps w
  rcases v1 with rfl | ⟨fn1, first1, caps1, rfl⟩
  all_goals
    go_enter Tryz.func143, Tryz.ntmps143
    go_wp2
    exact bodyPost_ret (v := .agg #[_, _]) (by simp [results, Tryz.results143, go_sem]) rfl ⟨_, ⟨_, _, _, rfl, ⟨w.heap.size, w.heap.size + 1, _, _, g, gm, rfl, HN.out, HS.out, HM.out, rfl⟩, rfl⟩, (((HT.out.alloc (k := w.heap.size) rfl _ _).alloc (k := w.heap.size + 1) (by simp) _ _).alloc0 _).sum (fun n ha h0 h1 h2 => by simp only [pickG, List.map_cons, List.map_nil, List.getD_cons_succ, List.getD_cons_zero, List.set_cons_succ, List.set_cons_zero, List.cons_append, List.flatten_append, List.flatten_cons, List.flatten_nil, List.append_nil, List.nil_append, ha, h0, h1, h2] <;> omega)⟩
set_option maxRecDepth 100000 in
theorem prog_then (h : c.Ok) {s : c.S} {f : c.M} {m d v : Value} {g gm gK gF : List Blk} {x : c.α} (hs : c.SV s m d g) (hm : c.VM f v gm) (hx : c.rep x gK gF) (hp : s.isNil = true → c.preM f x) :
    DoesG Tryz.prog 143 #[.agg #[m, d], v] [g, gm, gK, gF] fun e gs => ∃ m' d' g' gK' gF', e = .returned (.agg #[m', d']) ∧ c.SV (c.thn s f x).1 m' d' g' ∧ c.rep (c.thn s f x).2 gK' gF' ∧ gs = [g', gK', gF'] := by
  cases hn : s.isNil with
  | true =>
    have : s = .nil := by cases s <;> first | rfl | cases hn
    subst this
    obtain ⟨rfl, rfl, rfl⟩ := SV.nil hs
    obtain ⟨fn, first, caps, rfl, eg, hd⟩ := h.m hm hx (hp rfl)
    intro w hw
    have T0 := TG.refl hw
    have HT := Lib.hid T0
    clear hw T0
    have HD := Lib.hid hd
    clear hd hm hx hp hs
    have q1 := fun w => fun_nil_M w
    go_enter Tryz.func143, Tryz.ntmps143
    go_wp2_with fail
    refine (DoesG.use (HD.out) (((HT.out.alloc (k := w.heap.size) rfl _ _).alloc (k := w.heap.size + 1) (by simp) _ _).alloc (k := w.heap.size + 1 + 1) (by simp) _ _) [1, 2, 3] rfl rfl).mono ?_
    rintro e w1 ⟨gs, ⟨m', d', g', gK', gF', rfl, hs', hx', rfl⟩, Ta⟩
    simp only [putG, List.set_cons_zero, List.set_cons_succ, List.cons_append, List.nil_append, List.append_nil] at Ta
    have c0 := Ta.cell 6 0 rfl 0
    have c1 := Ta.cell 6 0 rfl 1
    have f0 := Ta.free 6 0 rfl 0
    have f1 := Ta.free 6 0 rfl 1
    have HT := Lib.hid Ta
    have HS := Lib.hid hs'
    have HX := Lib.hid hx'
    obtain ⟨v1, v2⟩ := h.vals hs'
    clear Ta hs' hx' h
    rcases v1 with rfl | ⟨fn1, first1, caps1, rfl⟩ <;> rcases v2 with rfl | ⟨fn2, first2, caps2, rfl⟩
    all_goals
      go_wp2
      exact bodyPost_ret (v := .agg #[_, _]) (by simp [results, Tryz.results143, go_sem, c0, c1]) rfl ⟨_, ⟨_, _, g', gK', gF', rfl, HS.out, HX.out, rfl⟩, ((HT.out.set 6 0 rfl 0 _).set 6 0 rfl 1 _).pick [1, 2, 3] rfl⟩
  | false =>
    have e1 : c.thn s f x = (.thn s f, x) := by cases s <;> first | rfl | cases hn
    rw [e1]
    intro w hw
    refine (DoesG.use (prog_then_cons h.v hn hs hm) (TG.refl hw) [0, 1] rfl rfl).mono ?_
    rintro e w' ⟨gs, ⟨m', d', g', he, hs', rfl⟩, T⟩
    exact ⟨_, ⟨m', d', g', gK, gF, he, hs', hx, rfl⟩, T.pick [0, 2, 3] rfl⟩

/-- a stage's function, called: what it makes -/
def DoR (c : Cli) (s : c.S) (x : c.α) (e : Ending) (gs : GH) : Prop :=
  ∃ m d g gK gF, e = .returned (.agg #[m, d]) ∧ c.SV (c.run s x).1 m d g ∧ c.rep (c.run s x).2 gK gF ∧ gs = [g, gK, gF]
set_option maxRecDepth 100000 in
theorem row_nil (a : Option Addr) (n : Nat) : DoesG Tryz.prog 127 #[.slice a 0 n] [] fun e gs => e = .returned (.agg #[.nilFunc, .nilFunc]) ∧ gs = [] := by
  intro w hw
  have T0 := TG.refl hw
  have HT := Lib.hid T0
  clear hw T0
  go_enter Tryz.func127, Tryz.ntmps127
  go_wp2
  have T1 := (HT.out.alloc (k := w.heap.size) rfl 226 #[.slice a 0 n]).alloc (k := w.heap.size + 1) (by simp) 106 #[.nilFunc, .nilFunc]
  go_loopw [7] (fun i wr => i = .int .i64 0 ∧ TG [] w [[cl w.heap.size 226 #[.slice a 0 n]], [cl (w.heap.size + 1) 106 #[.nilFunc, .nilFunc]]] wr) (fun _ _ => 0)
  case atStart => exact ⟨rfl, T1⟩
  case round =>
    obtain ⟨rfl, T⟩ := hrel
    have c0 := T.cell 1 0 rfl 0
    have c1 := T.cell 1 0 rfl 1
    have f0 := T.free 1 0 rfl 0
    have f1 := T.free 1 0 rfl 1
    have HT := Lib.hid T
    clear T T1
    go_wp2
    exact bodyPost_ret (v := .agg #[.nilFunc, .nilFunc]) (by simp [results, Tryz.results127, go_sem, c0, c1]) rfl ⟨_, ⟨rfl, rfl⟩, ((HT.out.set 1 0 rfl 0 _).set 1 0 rfl 1 _).pick [] rfl⟩
set_option maxRecDepth 100000 in
theorem row_1 {b o : Nat} {D : Array Value} {fn : FuncId} {first caps : Array Value} (hD : D[o]? = some (.func (.func fn) first caps)) (n : Nat) (h : n = 1 ∨ n = 2) :
    DoesG Tryz.prog 127 #[.slice (some ⟨b, o, none⟩) n n] [[cl b 1 D]] fun e gs => ∃ bf bl bi, e = .returned (.agg #[.nilFunc, .func (.func 154) #[] #[ptr' bf, ptr' bl, ptr' bi]]) ∧
      gs = [[cl b 1 D], [cl bf 1 #[.func (.func fn) first caps]], [cl bl 226 #[.slice (some ⟨b, o, none⟩) n n]], [cl bi 3 #[.int .i64 0]]] := by
  intro w hw
  have T0 := TG.refl hw
  have HT := Lib.hid T0
  clear hw T0
  have hn : 0 < n := by omega
  have q := fun w => fun_is_A (.func fn) first caps w
  clear h
  go_enter Tryz.func127, Tryz.ntmps127
  go_wp2
  have T1 := (HT.out.alloc (k := w.heap.size) rfl 226 #[.slice (some ⟨b, o, none⟩) n n]).alloc (k := w.heap.size + 1) (by simp) 106 #[.nilFunc, .nilFunc]
  go_loopw [7] (fun i wr => i = .int .i64 0 ∧ TG [[cl b 1 D]] w [[cl b 1 D], [cl w.heap.size 226 #[.slice (some ⟨b, o, none⟩) n n]], [cl (w.heap.size + 1) 106 #[.nilFunc, .nilFunc]]] wr) (fun _ _ => 0)
  case atStart => exact ⟨rfl, T1⟩
  case round =>
    obtain ⟨rfl, T⟩ := hrel
    clear T1
    obtain ⟨rb, hrb⟩ : ∃ rb, rb = w.heap.size + 1 := ⟨_, rfl⟩
    obtain ⟨lb, hlb⟩ : ∃ lb, lb = w.heap.size := ⟨_, rfl⟩
    rw [← hrb, ← hlb] at T
    rw [← hrb, ← hlb]
    clear hrb hlb
    have e0 := (T.cell 0 0 rfl o).trans hD
    have c0 := T.cell 2 0 rfl 0
    have c1 := T.cell 2 0 rfl 1
    have f0 := T.free 2 0 rfl 0
    have f1 := T.free 2 0 rfl 1
    have lt := T.lt 2 0 rfl
    simp only [] at lt
    have HT := Lib.hid T
    clear T hD
    go_wp2
    exact bodyPost_ret (v := .agg #[.nilFunc, .func (.func 154) #[] #[ptr' (wr.heap.size + 1), ptr' lb, ptr' wr.heap.size]]) (by simp [results, Tryz.results127, go_sem, c0, c1, lt]) rfl ⟨_, ⟨_, _, _, rfl, rfl⟩, ((((HT.out.set 2 0 rfl 0 _).set 2 0 rfl 1 _).alloc (k := wr.heap.size) (by simp) _ _).alloc (k := wr.heap.size + 1) (by simp) _ _).pick [0, 4, 1, 3] rfl⟩

/-- the stage's function, called -/
theorem prog_row1 (h : c.Ok) {a : c.A} {m d : Value} {g gK gF : List Blk} {x : c.α} (hs : c.SV (.row1 a) m d g) (hx : c.rep x gK gF) (hp : c.preA a x) : FnG Tryz.prog d [g, gK, gF] (DoR c (.row1 a) x) := by
  obtain ⟨rfl, bf, bl, bi, b, o, D, va, ga, rfl, hva, hD, rfl⟩ := hs
  obtain ⟨fn, first, caps, rfl, eg, hd⟩ := h.a hva hx hp
  refine ⟨_, _, _, rfl, enters_of Tryz.func154 (by kernel_rfl) rfl, ?_⟩
  intro w hw
  have T0 := TG.refl hw
  have HT := Lib.hid T0
  clear hw T0
  have HT := Lib.hid (HT.out.sum (H' := [[cl bf 1 #[.func (.func fn) first caps]], [cl bl 226 #[.slice (some ⟨b, o, none⟩) 1 1]], [cl bi 3 #[.int .i64 0]], [cl b 1 D], ga, gK, gF]) (fun n ha h0 h1 h2 => by simp only [pickG, List.map_cons, List.map_nil, List.getD_cons_succ, List.getD_cons_zero, List.set_cons_succ, List.set_cons_zero, List.cons_append, List.flatten_append, List.flatten_cons, List.flatten_nil, List.append_nil, List.nil_append, ha, h0, h1, h2] <;> omega))
  have c0 := HT.out.cell 0 0 rfl 0
  have lt0 := HT.out.lt 0 0 rfl
  simp only [] at lt0
  have HD := Lib.hid hd
  clear hd hx hp hva h
  simp only [List.getElem?_toArray, List.getElem?_cons_zero] at c0
  go_enter Tryz.func154, Tryz.ntmps154
  go_wp2_with fail
  refine (DoesG.use (HD.out) (HT.out.alloc (k := w.heap.size) rfl _ _) [4, 5, 6] rfl rfl).mono ?_
  rintro e w1 ⟨gs, ⟨gK', gF', rfl, hx', rfl⟩, Ta⟩
  simp only [putG, List.set_cons_zero, List.set_cons_succ, List.cons_append, List.nil_append, List.append_nil] at Ta
  have c1 := Ta.cell 1 0 rfl 0
  have c2 := Ta.cell 2 0 rfl 0
  have HX := Lib.hid hx'
  clear hx' c0
  simp only [List.getElem?_toArray, List.getElem?_cons_zero] at c1 c2
  have HT := Lib.hid Ta
  clear Ta
  go_wp2_with fail
  refine (DoesG.use (row_nil _ _) (HT.out) [] rfl rfl).mono ?_
  rintro e w1 ⟨gs, ⟨rfl, rfl⟩, Ta⟩
  simp only [putG, List.set_cons_zero, List.set_cons_succ, List.cons_append, List.nil_append, List.append_nil] at Ta
  have e0 := Ta.cell 7 0 rfl 0
  have e1 := Ta.cell 7 0 rfl 1
  have f0 := Ta.free 7 0 rfl 0
  have f1 := Ta.free 7 0 rfl 1
  clear c1 c2
  have HT := Lib.hid Ta
  clear Ta
  go_wp2
  exact bodyPost_ret (v := .agg #[.nilFunc, .nilFunc]) (by simp [results, Tryz.results154, go_sem, e0, e1]) rfl ⟨_, ⟨_, _, [], gK', gF', rfl, ⟨rfl, rfl, rfl⟩, HX.out, rfl⟩, ((HT.out.set 7 0 rfl 0 _).set 7 0 rfl 1 _).pick [4, 5, 6] rfl⟩
theorem prog_row2 (h : c.Ok) {a a' : c.A} {m d : Value} {g gK gF : List Blk} {x : c.α} (hs : c.SV (.row2 a a') m d g) (hx : c.rep x gK gF) (hp : c.preA a x) : FnG Tryz.prog d [g, gK, gF] (DoR c (.row2 a a') x) := by
  obtain ⟨rfl, bf, bl, bi, b, va, va', ga, ga', rfl, hva, hva', rfl⟩ := hs
  obtain ⟨fn, first, caps, rfl, eg, hd⟩ := h.a hva hx hp
  obtain ⟨fn', first', caps', rfl⟩ := h.va hva'
  refine ⟨_, _, _, rfl, enters_of Tryz.func154 (by kernel_rfl) rfl, ?_⟩
  intro w hw
  have T0 := TG.refl hw
  have HT := Lib.hid T0
  clear hw T0
  have HT := Lib.hid (HT.out.sum (H' := [[cl bf 1 #[.func (.func fn) first caps]], [cl bl 226 #[.slice (some ⟨b, 0, none⟩) 2 2]], [cl bi 3 #[.int .i64 0]], [cl b 1 #[.func (.func fn) first caps, .func (.func fn') first' caps']], ga, gK, gF, ga']) (fun n ha h0 h1 h2 => by simp only [pickG, List.map_cons, List.map_nil, List.getD_cons_succ, List.getD_cons_zero, List.set_cons_succ, List.set_cons_zero, List.cons_append, List.flatten_append, List.flatten_cons, List.flatten_nil, List.append_nil, List.nil_append, ha, h0, h1, h2] <;> omega))
  have c0 := HT.out.cell 0 0 rfl 0
  have lt0 := HT.out.lt 0 0 rfl
  simp only [] at lt0
  have HD := Lib.hid hd
  have HA := Lib.hid hva'
  clear hd hx hp hva hva' h
  simp only [List.getElem?_toArray, List.getElem?_cons_zero] at c0
  go_enter Tryz.func154, Tryz.ntmps154
  go_wp2_with fail
  refine (DoesG.use (HD.out) (HT.out.alloc (k := w.heap.size) rfl _ _) [4, 5, 6] rfl rfl).mono ?_
  rintro e w1 ⟨gs, ⟨gK', gF', rfl, hx', rfl⟩, Ta⟩
  simp only [putG, List.set_cons_zero, List.set_cons_succ, List.cons_append, List.nil_append, List.append_nil] at Ta
  have c1 := Ta.cell 1 0 rfl 0
  have c2 := Ta.cell 2 0 rfl 0
  have HX := Lib.hid hx'
  clear hx' c0
  simp only [List.getElem?_toArray, List.getElem?_cons_zero] at c1 c2
  have HT := Lib.hid Ta
  clear Ta
  go_wp2_with fail
  refine (DoesG.use (row_1 (D := #[.func (.func fn) first caps, .func (.func fn') first' caps']) (o := 1) rfl 1 (.inl rfl)) (HT.out) [3] rfl rfl).mono ?_
  rintro e w1 ⟨gs, ⟨bf', bl', bi', rfl, rfl⟩, Ta⟩
  simp only [putG, List.set_cons_zero, List.set_cons_succ, List.cons_append, List.nil_append, List.append_nil] at Ta
  have e0 := Ta.cell 8 0 rfl 0
  have e1 := Ta.cell 8 0 rfl 1
  have f0 := Ta.free 8 0 rfl 0
  have f1 := Ta.free 8 0 rfl 1
  clear c1 c2
  have HT := Lib.hid Ta
  clear Ta
  go_wp2
  exact bodyPost_ret (v := .agg #[.nilFunc, _]) (by simp [results, Tryz.results154, go_sem, e0, e1]) rfl ⟨_, ⟨_, _, _, gK', gF', rfl, ⟨rfl, bf', bl', bi', b, 1, #[.func (.func fn) first caps, .func (.func fn') first' caps'], _, ga', rfl, HA.out, rfl, rfl⟩, HX.out, rfl⟩, (((HT.out.set 8 0 rfl 0 _).set 8 0 rfl 1 _).pick [3, 5, 6, 7, 9, 10, 11] rfl).sum (fun n ha h0 h1 h2 => by simp only [pickG, List.map_cons, List.map_nil, List.getD_cons_succ, List.getD_cons_zero, List.set_cons_succ, List.set_cons_zero, List.cons_append, List.flatten_append, List.flatten_cons, List.flatten_nil, List.append_nil, List.nil_append, ha, h0, h1, h2] <;> omega)⟩

theorem prog_thn (h : c.Ok) {s : c.S} {f : c.M} {m d : Value} {g gK gF : List Blk} {x : c.α} (hs : c.SV (.thn s f) m d g) (hx : c.rep x gK gF)
    (hi : ∀ {m d : Value} {g : List Blk}, c.SV s m d g → FnG Tryz.prog d [g, gK, gF] (DoR c s x)) (hp : (c.run s x).1.isNil = true → c.preM f (c.run s x).2) : FnG Tryz.prog d [g, gK, gF] (DoR c (.thn s f) x) := by
  obtain ⟨bs, br, ds, vm, gs, gm, rfl, hn, hv, hm, rfl⟩ := hs
  obtain ⟨fn, first, caps, rfl, eg, hd⟩ := hi hv
  obtain ⟨fn', first', caps', rfl⟩ := h.vm hm
  have key : ∀ m' d' g' gK' gF', c.SV (c.run s x).1 m' d' g' → c.rep (c.run s x).2 gK' gF' → DoesG Tryz.prog 143 #[.agg #[m', d'], .func (.func fn') first' caps'] [g', gm, gK', gF'] (DoR c (.thn s f) x) :=
    fun m' d' g' gK' gF' h1 h2 => prog_then h h1 hm h2 hp
  refine ⟨_, _, _, rfl, enters_of Tryz.func175 (by kernel_rfl) rfl, ?_⟩
  intro w hw
  have T0 := TG.refl hw
  have HT := Lib.hid T0
  clear hw T0
  have HT := Lib.hid (HT.out.sum (H' := [[cl bs 106 #[m, .func (.func fn) first caps]], [cl br 104 #[.func (.func fn') first' caps']], gs, gK, gF, gm]) (fun n ha h0 h1 h2 => by simp only [pickG, List.map_cons, List.map_nil, List.getD_cons_succ, List.getD_cons_zero, List.set_cons_succ, List.set_cons_zero, List.cons_append, List.flatten_append, List.flatten_cons, List.flatten_nil, List.append_nil, List.nil_append, ha, h0, h1, h2] <;> omega))
  have c0 := HT.out.cell 0 0 rfl 1
  have c1 := HT.out.cell 1 0 rfl 0
  have lt0 := HT.out.lt 0 0 rfl
  have lt1 := HT.out.lt 1 0 rfl
  simp only [] at lt0 lt1
  have HD := Lib.hid hd
  have HK := Lib.hid key
  have HV := Lib.hid (show ∀ (s : c.S) m d g, c.SV s m d g → isFv m ∧ isFv d from fun _ _ _ _ hv => h.vals hv)
  clear hd hx hp hv hm hn hi key
  simp only [List.getElem?_toArray, List.getElem?_cons_zero, List.getElem?_cons_succ] at c0 c1
  go_enter Tryz.func175, Tryz.ntmps175
  go_wp2_with fail
  have HT := Lib.hid (HT.out.alloc (k := w.heap.size) rfl 106 #[.nilFunc, .nilFunc])
  go_region_with (first
    | (go_at_call 143
       refine (DoesG.use (HK.out _ _ _ _ _ HS1.out HX1.out) (HT1.out) [2, 5, 3, 4] rfl rfl).mono ?_
       rintro e w2 ⟨gs, ⟨m2, d2, g2, gK2, gF2, rfl, hs2, hx2, rfl⟩, Ta⟩
       simp only [putG, List.set_cons_zero, List.set_cons_succ, List.cons_append, List.nil_append, List.append_nil] at Ta
       have e0 := Ta.cell 6 0 rfl 0
       have e1 := Ta.cell 6 0 rfl 1
       have f0 := Ta.free 6 0 rfl 0
       have f1 := Ta.free 6 0 rfl 1
       have hv2 := HV.out _ _ _ _ hs2
       obtain ⟨st1, st2⟩ := store_fv2 (P := Tryz.prog) hv2.1 hv2.2 e0 f0 e1 f1
       clear hv2
       have HS2 := Lib.hid hs2
       have HX2 := Lib.hid hx2
       have HT2 := Lib.hid Ta
       clear Ta hs2 hx2)
    | (refine (DoesG.use (HD.out) (HT.out.drew) [2, 3, 4] rfl rfl).mono ?_
       rintro e w1 ⟨gs, ⟨m1, d1, g1, gK1, gF1, rfl, hs1, hx1, rfl⟩, Ta⟩
       simp only [putG, List.set_cons_zero, List.set_cons_succ, List.cons_append, List.nil_append, List.append_nil] at Ta
       have c2 := Ta.cell 1 0 rfl 0
       simp only [List.getElem?_toArray, List.getElem?_cons_zero, List.getElem?_cons_succ] at c2
       have HS1 := Lib.hid hs1
       have HX1 := Lib.hid hx1
       have HT1 := Lib.hid Ta
       clear Ta hs1 hx1))
  all_goals
    go_wp2
    exact bodyPost_ret (v := .agg #[_, _]) (by simp [results, Tryz.results175, go_sem, e0, e1]) rfl ⟨_, ⟨m2, d2, g2, gK2, gF2, rfl, HS2.out, HX2.out, rfl⟩, ((HT2.out.set 6 0 rfl 0 _).set 6 0 rfl 1 _).pick [2, 5, 3] rfl⟩

/-- **what a stage's function does** -/
theorem prog_do (h : c.Ok) : ∀ {s : c.S} {m d : Value} {g gK gF : List Blk} {x : c.α}, s.isNil = false → c.SV s m d g → c.rep x gK gF → c.pre s x → FnG Tryz.prog d [g, gK, gF] (DoR c s x)
  | .nil, _, _, _, _, _, _, hn, _, _, _ => by cases hn
  | .at none f, _, _, _, _, _, _, _, hs, hx, hp => h.m hs.2 hx hp
  | .at (some y) f, _, _, _, gK, gF, _, _, hs, hx, hp => by
    obtain ⟨g1, g2, h1, h2, rfl⟩ := hs
    obtain ⟨fn, first, caps, hv, eg, hd⟩ := h.m h2 hx hp
    refine ⟨fn, first, caps, hv, eg, fun w hw => ?_⟩
    have T := (TG.refl hw).sum (H' := [g1, g2, gK, gF]) (fun n ha h0 h1 h2 => by simp only [pickG, List.map_cons, List.map_nil, List.getD_cons_succ, List.getD_cons_zero, List.set_cons_succ, List.set_cons_zero, List.cons_append, List.flatten_append, List.flatten_cons, List.flatten_nil, List.append_nil, List.nil_append, ha, h0, h1, h2] <;> omega)
    refine (DoesG.use hd T [1, 2, 3] rfl rfl).mono ?_
    rintro e w' ⟨gs, ⟨m', d', g', gK', gF', he, hs', hx', rfl⟩, T'⟩
    exact ⟨_, ⟨m', d', g', gK', gF', he, hs', hx', rfl⟩, T'.pick [1, 2, 3] rfl⟩
  | .row1 a, _, _, _, _, _, _, _, hs, hx, hp => prog_row1 h hs hx hp
  | .row2 a b, _, _, _, _, _, _, _, hs, hx, hp => prog_row2 h hs hx hp
  | .thn s f, _, _, _, _, _, _, _, hs, hx, hp => by
    have hs' := hs
    obtain ⟨bs, br, ds, vm, gs, gm, _, hn, _⟩ := hs'
    exact prog_thn h hs hx (fun hv => prog_do h hn hv hx hp.1) hp.2

end Cli
end Go.Proofs.YthbjaoinklhikaaGreat
