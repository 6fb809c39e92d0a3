import Derived.Test.YtnemggminanbbaaFloorQ
import Derived.Deep.DeepCutAuto
import Derived.Deep.CutBlock
import Derived.WalkSpells
namespace Go.Proofs.Ytnemggminanbbaa
set_option linter.unusedVariables false
set_option linter.unusedSimpArgs false
open Go.RowKit Go.Shelf

/-! ## Traces: a slice of events of one's own; Clone, Trace, Events -/
def evCells (l : List EvS) : List Value := l.flatMap fun e => e.cells.toList
def EvS.zero : EvS := ⟨0, 0, 0, 0, 0, 0, 0, 0, 0, 0⟩
theorem evCells_cons (e : EvS) (l : List EvS) : evCells (e :: l) = e.cells.toList ++ evCells l := rfl
theorem evCells_length (l : List EvS) : (evCells l).length = l.length * 10 := by
  induction l with
  | nil => rfl
  | cons e l ih => rw [evCells_cons, List.length_append, ih, List.length_cons]; simp [EvS.cells]; omega
theorem evCells_snoc (l : List EvS) (e : EvS) : evCells (l ++ [e]) = evCells l ++ e.cells.toList := by simp [evCells]
theorem evCells_one (l : List EvS) : ∀ u ∈ evCells l, u.oneCell' = true := by
  intro u hu
  obtain ⟨e, _, h⟩ := List.mem_flatMap.1 hu
  simp [EvS.cells] at h
  rcases h with rfl | rfl | rfl | rfl | rfl | rfl | rfl | rfl | rfl | rfl <;> rfl
theorem evCells_at (l : List EvS) (i j : Nat) (hi : i < l.length) (hj : j < 10) : (evCells l)[i * 10 + j]? = (l.getD i EvS.zero).cells[j]? := by
  induction l generalizing i with
  | nil => simp at hi
  | cons e l ih =>
    have he : e.cells.toList.length = 10 := rfl
    rw [evCells_cons]
    cases i with
    | zero =>
      rw [show 0 * 10 + j = j by omega, List.getElem?_append_left (by omega), Array.getElem?_toList]
      rfl
    | succ i =>
      rw [List.getElem?_append_right (by omega), show (i + 1) * 10 + j - e.cells.toList.length = i * 10 + j by omega, ih i (by simpa using hi)]
      rfl
/-- a trace in the heap -/
def trG (tr : Value) (l : List EvS) (g : List Blk) : Prop := rowG 49 10 tr l.length (evCells l) g
theorem trG.put {tr : Value} {l : List EvS} {e : EvS} {g : List Blk} (h : rowG 49 10 tr (l.length + 1) (evCells l ++ e.cells.toList) g) : trG tr (l ++ [e]) g := by
  unfold trG; rw [evCells_snoc, List.length_append]; exact h
theorem trG_nil : trG (.slice none 0 0) [] [] := rowG_nil _ _

set_option maxRecDepth 100000 in
theorem clone_g {tr : Value} {l : List EvS} {gT : List Blk} (hr : trG tr l gT) (hn : l.length ≤ 1000000000) :
    DoesG Try.prog 64 #[tr] [gT] fun e gs => ∃ v g', e = .returned v ∧ trG v l g' ∧ gs = [gT, g'] := by
  have hr' : rowG 49 10 tr l.length (evCells l) gT := hr
  obtain ⟨hl, (⟨rfl, h0, rfl⟩ | ⟨b, cap, cur, rfl, rfl, h1, h2, h3, h4⟩)⟩ := hr
  · have he : l = [] := List.eq_nil_of_length_eq_zero h0
    subst he
    clear hr' h0 hl hn
    intro w hw
    have T0 := TG.refl hw
    have HT := Lib.hid T0
    clear hw T0
    have hn := fun (w : World) => Lib.run_eql_slice_nil (P := Try.prog) w 80 49 none 0 0 0 0 Try.underlying80
    go_enter Try.func64, Try.ntmps64
    go_wp2
    go_ret
    exact ⟨[[], []], ⟨_, [], rfl, trG_nil, rfl⟩, HT.out.eq (by simp)⟩
  · intro w hw
    have T0 := TG.refl hw
    have HT := Lib.hid T0
    clear hw T0
    have HN := Lib.hid (show ∀ j u, (evCells l)[j]? = some u → (w.alloc (.cells #[] 49)).cell? ((⟨b, 0, none⟩ : Addr).add j) = some u from ((HT.out.alloc (k := w.heap.size) rfl 49 #[]).owns 0 rfl hr').cells (g := b) rfl)
    have HL := Lib.hid hl
    have HC := Lib.hid (evCells_one l)
    clear hr' hl h4 h3
    have hn := fun (w : World) => Lib.run_eql_slice_nil (P := Try.prog) w 80 49 (some ⟨b, 0, none⟩) l.length cap 0 0 Try.underlying80
    go_enter Try.func64, Try.ntmps64
    go_wp2_with (
      at_builtin
      (with_reducible refine wpList_append_G rfl (.tmp 5) (.tmp 6) 80 rfl 49 10 80 _ Try.underlying80 Try.infoEvent rfl (by decide) (HT.out.alloc rfl _ _) 1 rfl rfl (rowG_lit _ 10 _ 0 0 #[] (Nat.le_refl _) (by decide) rfl) rfl ⟨b, 0, none⟩ l.length cap (evCells l) rfl HL.out HN.out HC.out (by unfold maxLen; omega) (by omega) ?_)
      intro v w2 g2 r T
      simp only [List.set_cons_zero, List.set_cons_succ, List.cons_append, List.nil_append] at T
      have T := Lib.hid T
      have r := Lib.hid r)
    go_ret
    have hv : trG v l g2 := by simpa [trG] using r.out
    exact ⟨_, ⟨_, rfl, _, hv, rfl⟩, T.out⟩
theorem floorTrace_g {fb : Nat} {p : FPtr} {f : FloorS} {tr : Value} {g gT : List Blk} {l : List EvS} (hg : isFloor fb p f tr g) (hr : trG tr l gT) (hn : l.length ≤ 1000000000) :
    DoesG Try.prog 33 #[ptr' fb] [g, gT] fun e gs => ∃ v g', e = .returned v ∧ trG v l g' ∧ gs = [g, gT, g'] := by
  obtain ⟨C, rfl, hc⟩ := hg
  obtain ⟨a, cap, rfl⟩ := rowG.val hr
  intro w hw
  have T0 := TG.refl hw
  have HT := Lib.hid T0
  clear hw T0
  have c0 := (HT.out.cell 0 0 rfl 26).trans hc.tr
  have HR := Lib.hid hr
  have HN := Lib.hid hn
  clear hc hr hn
  go_enter Try.func33, Try.ntmps33
  go_wp2_with fail
  refine (DoesG.use (clone_g HR.out HN.out) (HT.out) [1] rfl rfl).mono ?_
  rintro e w1 ⟨gs, ⟨v, g', rfl, hv, rfl⟩, Ta⟩
  simp only [PU] at Ta
  have HT := Lib.hid Ta
  clear Ta
  have HV := Lib.hid hv
  clear hv
  go_wp2
  go_ret
  exact ⟨_, ⟨_, _, rfl, HV.out, rfl⟩, HT.out⟩
/-- the cells of one event, in the walk's form -/
theorem trG.cells {h H : GH} {w w' : World} (T : TG h w H w') (i : Nat) {tr : Value} {l : List EvS} {g : List Blk} (hi : H.getD i [] = g) (r : trG tr l g) {k : Nat} (hk : k < l.length) :
    ∃ b cap, tr = .slice (some ⟨b, 0, none⟩) l.length cap ∧ l.length ≤ cap ∧ cap ≤ maxLen ∧ ∃ e, l.getD k EvS.zero = e ∧
    w'.cell? ⟨b, k * 10, none⟩ = some (.int .i64 e.kind) ∧ w'.cell? ⟨b, k * 10 + 1, none⟩ = some (.int .i64 e.thread) ∧ w'.cell? ⟨b, k * 10 + 2, none⟩ = some (.int .i64 e.call) ∧ w'.cell? ⟨b, k * 10 + 3, none⟩ = some (.int .i64 e.what) ∧
    w'.cell? ⟨b, k * 10 + 4, none⟩ = some (.int .u64 e.id) ∧ w'.cell? ⟨b, k * 10 + 5, none⟩ = some (.int .u64 e.gen) ∧ w'.cell? ⟨b, k * 10 + 6, none⟩ = some (.int .u64 e.dl) ∧ w'.cell? ⟨b, k * 10 + 7, none⟩ = some (.int .u64 e.per) ∧ w'.cell? ⟨b, k * 10 + 8, none⟩ = some (.int .u64 e.tick) ∧ w'.cell? ⟨b, k * 10 + 9, none⟩ = some (.int .i64 e.err) := by
  obtain ⟨b, cap, cur, rfl, rfl, h1, h2, h3, h4⟩ := rowG.open r (by omega)
  refine ⟨b, cap, rfl, h1, h2, _, rfl, ?_⟩
  have hh := fun j (hj : j < 10) => (T.cell (b := b) i 0 (by rw [hi]; rfl) (k * 10 + j)).trans ((h4 (k * 10 + j) (by omega)).trans (evCells_at l k j hk hj))
  exact ⟨hh 0 (by omega), hh 1 (by omega), hh 2 (by omega), hh 3 (by omega), hh 4 (by omega), hh 5 (by omega), hh 6 (by omega), hh 7 (by omega), hh 8 (by omega), hh 9 (by omega)⟩
end Go.Proofs.Ytnemggminanbbaa
