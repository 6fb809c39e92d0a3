import Derived.Test.YthbjaoinklhikaaGreatShutNoneM8
import Derived.Deep.DeepCutAuto
import Derived.Deep.CutBlock
import Derived.WalkSpells
import Derived.Test.YthbjaoinklhikaaGreatShutNoneM5
import Derived.Test.YthbjaoinklhikaaGreatShutNoneM7
import Derived.Test.YthbjaoinklhikaaGreatShutNoneM6
namespace Go.Proofs.YthbjaoinklhikaaGreat
set_option linter.unusedVariables false
set_option linter.unusedSimpArgs false
open Go.RowKit Go.Shelf

/-! ## Traces: a slice of events of one's own; Clone, Trace, Events -/
def evCells (l : List EvS) : List Value := l.flatMap fun e => e.cells.toList
def EvS.zero : EvS := ⟨0, 0, 0, 0, 0, 0, 0, 0, 0, 0⟩
theorem evCells_cons (e : EvS) (l : List EvS) : evCells (e :: l) = e.cells.toList ++ evCells l := rfl
theorem evCells_length (l : List EvS) : (evCells l).length = l.length * 10 := by
  induction l with
  | nil => rfl
  | cons e l ih => rw [evCells_cons, List.length_append, ih, List.length_cons]; simp [EvS.cells]; omega
theorem evCells_snoc (l : List EvS) (e : EvS) : evCells (l ++ [e]) = evCells l ++ e.cells.toList := by simp [evCells]
theorem evCells_one (l : List EvS) : ∀ u ∈ evCells l, u.oneCell' = true := by
  intro u hu
  obtain ⟨e, _, h⟩ := List.mem_flatMap.1 hu
  simp [EvS.cells] at h
  rcases h with rfl | rfl | rfl | rfl | rfl | rfl | rfl | rfl | rfl | rfl <;> rfl
theorem evCells_at (l : List EvS) (i j : Nat) (hi : i < l.length) (hj : j < 10) : (evCells l)[i * 10 + j]? = (l.getD i EvS.zero).cells[j]? := by
  induction l generalizing i with
  | nil => simp at hi
  | cons e l ih =>
    have he : e.cells.toList.length = 10 := rfl
    rw [evCells_cons]
    cases i with
    | zero =>
      rw [show 0 * 10 + j = j by omega, List.getElem?_append_left (by omega), Array.getElem?_toList]
      rfl
    | succ i =>
      rw [List.getElem?_append_right (by omega), show (i + 1) * 10 + j - e.cells.toList.length = i * 10 + j by omega, ih i (by simpa using hi)]
      rfl
/-- a trace in the heap -/
def trG (tr : Value) (l : List EvS) (g : List Blk) : Prop := rowG 46 10 tr l.length (evCells l) g
theorem trG.put {tr : Value} {l : List EvS} {e : EvS} {g : List Blk} (h : rowG 46 10 tr (l.length + 1) (evCells l ++ e.cells.toList) g) : trG tr (l ++ [e]) g := by
  unfold trG; rw [evCells_snoc, List.length_append]; exact h
theorem trG_nil : trG (.slice none 0 0) [] [] := rowG_nil _ _

set_option maxRecDepth 100000 in
theorem clone_g {tr : Value} {l : List EvS} {gT : List Blk} (hr : trG tr l gT) (hn : l.length ≤ 1000000000) :
    DoesG Tryz.prog 74 #[tr] [gT] fun e gs => ∃ v g', e = .returned v ∧ trG v l g' ∧ gs = [gT, g'] := by
  have hr' : rowG 46 10 tr l.length (evCells l) gT := hr
  obtain ⟨hl, (⟨rfl, h0, rfl⟩ | ⟨b, cap, cur, rfl, rfl, h1, h2, h3, h4⟩)⟩ := hr
  · have he : l = [] := List.eq_nil_of_length_eq_zero h0
    subst he
    clear hr' h0 hl hn
    intro w hw
    have T0 := TG.refl hw
    have HT := Lib.hid T0
    clear hw T0
    have hn := fun (w : World) => Lib.run_eql_slice_nil (P := Tryz.prog) w 43 46 none 0 0 0 0 Tryz.underlying43
    go_enter Tryz.func74, Tryz.ntmps74
    go_wp2
    go_ret
    exact ⟨[[], []], ⟨_, [], rfl, trG_nil, rfl⟩, HT.out.eq (by simp)⟩
  · intro w hw
    have T0 := TG.refl hw
    have HT := Lib.hid T0
    clear hw T0
    have HN := Lib.hid (show ∀ j u, (evCells l)[j]? = some u → (w.alloc (.cells #[] 46)).cell? ((⟨b, 0, none⟩ : Addr).add j) = some u from ((HT.out.alloc (k := w.heap.size) rfl 46 #[]).owns 0 rfl hr').cells (g := b) rfl)
    have HL := Lib.hid hl
    have HC := Lib.hid (evCells_one l)
    clear hr' hl h4 h3
    have hn := fun (w : World) => Lib.run_eql_slice_nil (P := Tryz.prog) w 43 46 (some ⟨b, 0, none⟩) l.length cap 0 0 Tryz.underlying43
    go_enter Tryz.func74, Tryz.ntmps74
    go_wp2_with (
      at_builtin
      (with_reducible refine wpList_append_G rfl (.tmp 5) (.tmp 6) 43 rfl 46 10 80 _ Tryz.underlying43 Tryz.infoEvent rfl (by decide) (HT.out.alloc rfl _ _) 1 rfl rfl (rowG_lit _ 10 _ 0 0 #[] (Nat.le_refl _) (by decide) rfl) rfl ⟨b, 0, none⟩ l.length cap (evCells l) rfl HL.out HN.out HC.out (by unfold maxLen; omega) (by omega) ?_)
      intro v w2 g2 r T
      simp only [List.set_cons_zero, List.set_cons_succ, List.cons_append, List.nil_append] at T
      have T := Lib.hid T
      have r := Lib.hid r)
    go_ret
    have hv : trG v l g2 := by simpa [trG] using r.out
    exact ⟨_, ⟨_, rfl, _, hv, rfl⟩, T.out⟩
theorem floorTrace_g {fb : Nat} {p : FPtr} {f : FloorS} {tr : Value} {g gT : List Blk} {l : List EvS} (hg : isFloor fb p f tr g) (hr : trG tr l gT) (hn : l.length ≤ 1000000000) :
    DoesG Tryz.prog 22 #[ptr' fb] [g, gT] fun e gs => ∃ v g', e = .returned v ∧ trG v l g' ∧ gs = [g, gT, g'] := by
  obtain ⟨C, rfl, hc⟩ := hg
  obtain ⟨a, cap, rfl⟩ := rowG.val hr
  intro w hw
  have T0 := TG.refl hw
  have HT := Lib.hid T0
  clear hw T0
  have c0 := (HT.out.cell 0 0 rfl 26).trans hc.tr
  have HR := Lib.hid hr
  have HN := Lib.hid hn
  clear hc hr hn
  go_enter Tryz.func22, Tryz.ntmps22
  go_wp2_with fail
  refine (DoesG.use (clone_g HR.out HN.out) (HT.out) [1] rfl rfl).mono ?_
  rintro e w1 ⟨gs, ⟨v, g', rfl, hv, rfl⟩, Ta⟩
  simp only [putG, List.set_cons_zero, List.set_cons_succ, List.cons_append, List.nil_append, List.append_nil] at Ta
  have HT := Lib.hid Ta
  clear Ta
  have HV := Lib.hid hv
  clear hv
  go_wp2
  go_ret
  exact ⟨_, ⟨_, _, rfl, HV.out, rfl⟩, HT.out⟩
/-- the cells of one event, in the walk's form -/
theorem trG.cells {h H : GH} {w w' : World} (T : TG h w H w') (i : Nat) {tr : Value} {l : List EvS} {g : List Blk} (hi : H.getD i [] = g) (r : trG tr l g) {k : Nat} (hk : k < l.length) :
    ∃ b cap, tr = .slice (some ⟨b, 0, none⟩) l.length cap ∧ l.length ≤ cap ∧ cap ≤ maxLen ∧ ∃ e, l.getD k EvS.zero = e ∧
    w'.cell? ⟨b, k * 10, none⟩ = some (.int .i64 e.kind) ∧ w'.cell? ⟨b, k * 10 + 1, none⟩ = some (.int .i64 e.thread) ∧ w'.cell? ⟨b, k * 10 + 2, none⟩ = some (.int .i64 e.call) ∧ w'.cell? ⟨b, k * 10 + 3, none⟩ = some (.int .i64 e.what) ∧
    w'.cell? ⟨b, k * 10 + 4, none⟩ = some (.int .u64 e.id) ∧ w'.cell? ⟨b, k * 10 + 5, none⟩ = some (.int .u64 e.gen) ∧ w'.cell? ⟨b, k * 10 + 6, none⟩ = some (.int .u64 e.dl) ∧ w'.cell? ⟨b, k * 10 + 7, none⟩ = some (.int .u64 e.per) ∧ w'.cell? ⟨b, k * 10 + 8, none⟩ = some (.int .u64 e.tick) ∧ w'.cell? ⟨b, k * 10 + 9, none⟩ = some (.int .i64 e.err) := by
  obtain ⟨b, cap, cur, rfl, rfl, h1, h2, h3, h4⟩ := rowG.open r (by omega)
  refine ⟨b, cap, rfl, h1, h2, _, rfl, ?_⟩
  have hh := fun j (hj : j < 10) => (T.cell (b := b) i 0 (by rw [hi]; rfl) (k * 10 + j)).trans ((h4 (k * 10 + j) (by omega)).trans (evCells_at l k j hk hj))
  exact ⟨hh 0 (by omega), hh 1 (by omega), hh 2 (by omega), hh 3 (by omega), hh 4 (by omega), hh 5 (by omega), hh 6 (by omega), hh 7 (by omega), hh 8 (by omega), hh 9 (by omega)⟩
end Go.Proofs.YthbjaoinklhikaaGreat

namespace Go.Proofs.YthbjaoinklhikaaGreat
set_option linter.unusedVariables false
set_option linter.unusedSimpArgs false
open Go.RowKit Go.Shelf

/-! ## What calls share: a floor, its slab, its shards' rings and locks, its trace, as one group -/
structure ShP where
  b : Nat
  rb : Nat
  lb : Nat
  wb : Nat
def isSh (q : ShP) (s : ShardS) (g : List Blk) : Prop := ∃ gr gl, isRing q.rb s.ring gr ∧ isLock q.lb s.who s.turns gl ∧ g = shardB q.b q.rb q.lb q.wb ++ (gr ++ gl)
structure Lay where
  fb : Nat
  p : FPtr
  qs : List ShP
structure CoreS where
  f : FloorS
  slab : SlabS
  tr : List EvS
  shs : List ShardS
def isCore (L : Lay) (x : CoreS) (g : List Blk) : Prop := ∃ tr gF gS gR gH gT, isFloor L.fb L.p x.f tr gF ∧ isSlab L.p.sb x.slab gS ∧ rowG 61 1 L.p.sh (L.qs.map ShP.b).length ((L.qs.map ShP.b).map fun b => ptr' b) gR ∧
  L.qs.length = x.shs.length ∧ FamP (fun (z : ShP × ShardS) => isSh z.1 z.2) (L.qs.zip x.shs) gH ∧ trG tr x.tr gT ∧ g = gF ++ (gS ++ (gR ++ (gH ++ gT)))
/-- a function that reads a part of a group reads the group -/
theorem ReadsG.part {P : Program} {f : Nat} {args : Array Value} {gs : GH} {v : Value} (r : ReadsG P f args gs v) {g : List Blk} {H : GH} (is : List Nat) (hH : ∀ {w}, HasG [g] w → ∃ w0 h, TG h w0 H w) (hp : pickG H is = gs) (hf : fineG H is = true) : ReadsG P f args [g] v := by
  intro w hw
  obtain ⟨w0, h, T⟩ := hH hw
  exact r.use T is hp hf
section
variable {L : Lay} {x : CoreS} {g : List Blk}
theorem floorSlab_r {fb : Nat} {p : FPtr} {f : FloorS} {tr : Value} {g : List Blk} (hg : isFloor fb p f tr g) : ReadsG Tryz.prog 26 #[ptr' fb] [g] (ptr' p.sb) := by
  obtain ⟨C, rfl, hc⟩ := hg
  intro w hw
  have T0 := TG.refl hw
  have HT := Lib.hid T0
  clear hw T0
  have c0 := (HT.out.cell 0 0 rfl 6).trans hc.slab
  clear hc
  go_enter Tryz.func26, Tryz.ntmps26
  go_wp2
  go_ret
  exact ⟨rfl, 0, rfl⟩
theorem coreSlab_r (hx : isCore L x g) : ReadsG Tryz.prog 26 #[ptr' L.fb] [g] (ptr' L.p.sb) := by
  obtain ⟨tr, gF, gS, gR, gH, gT, h1, h2, h3, h4, h5, h6, rfl⟩ := hx
  intro w hw
  have T := (TG.refl hw).sum (H' := [gF, gS, gR, gH, gT]) (fun n ha h0 h1 h2 => by simp only [pickG, List.map_cons, List.map_nil, List.getD_cons_succ, List.getD_cons_zero, List.set_cons_succ, List.set_cons_zero, List.cons_append, List.flatten_append, List.flatten_cons, List.flatten_nil, List.append_nil, List.nil_append, ha, h0, h1, h2] <;> omega)
  exact (floorSlab_r h1).use T [0] rfl rfl
theorem coreHome_r (hx : isCore L x g) (hn : 1 ≤ L.qs.length) (i : Int) : ReadsG Tryz.prog 133 #[ptr' L.fb, .int .i64 i] [g] (homeV (L.qs.map ShP.b) i) := by
  obtain ⟨tr, gF, gS, gR, gH, gT, h1, h2, h3, h4, h5, h6, rfl⟩ := hx
  intro w hw
  have T := (TG.refl hw).sum (H' := [gF, gS, gR, gH, gT]) (fun n ha h0 h1 h2 => by simp only [pickG, List.map_cons, List.map_nil, List.getD_cons_succ, List.getD_cons_zero, List.set_cons_succ, List.set_cons_zero, List.cons_append, List.flatten_append, List.flatten_cons, List.flatten_nil, List.append_nil, List.nil_append, ha, h0, h1, h2] <;> omega)
  exact (floorHome_r h1 h3 (by simpa using hn) i).use T [0, 2] rfl rfl
theorem coreEnter (hx : isCore L x g) (h : 0 ≤ x.f.inside ∧ x.f.inside ≤ 1000000) : DoesG Tryz.prog 41 #[ptr' L.fb] [g] fun e gs => e = .returned (.tuple #[]) ∧ ∃ g', isCore L { x with f := { x.f with inside := x.f.inside + 1 } } g' ∧ gs = [g'] := by
  obtain ⟨tr, gF, gS, gR, gH, gT, h1, h2, h3, h4, h5, h6, rfl⟩ := hx
  intro w hw
  have T := (TG.refl hw).sum (H' := [gF, gS, gR, gH, gT]) (fun n ha h0 h1 h2 => by simp only [pickG, List.map_cons, List.map_nil, List.getD_cons_succ, List.getD_cons_zero, List.set_cons_succ, List.set_cons_zero, List.cons_append, List.flatten_append, List.flatten_cons, List.flatten_nil, List.append_nil, List.nil_append, ha, h0, h1, h2] <;> omega)
  refine (DoesG.use (floorEnter_g h1 h) T [0] rfl rfl).mono ?_
  rintro e w' ⟨gs, ⟨he, g1, hn1, rfl⟩, T'⟩
  exact ⟨_, ⟨he, _, ⟨tr, g1, gS, gR, gH, gT, hn1, h2, h3, h4, h5, h6, rfl⟩, rfl⟩, TG.sum (H := [g1, gS, gR, gH, gT]) T' (fun n ha h0 h1 h2 => by simp only [pickG, List.map_cons, List.map_nil, List.getD_cons_succ, List.getD_cons_zero, List.set_cons_succ, List.set_cons_zero, List.cons_append, List.flatten_append, List.flatten_cons, List.flatten_nil, List.append_nil, List.nil_append, ha, h0, h1, h2] <;> omega)⟩
theorem coreLeave (hx : isCore L x g) (h : 0 ≤ x.f.inside ∧ x.f.inside ≤ 1000000) : DoesG Tryz.prog 43 #[ptr' L.fb] [g] fun e gs => e = .returned (.int .i64 (lessE x.f.inside)) ∧ ∃ g', isCore L { x with f := { x.f with inside := lessN x.f.inside } } g' ∧ gs = [g'] := by
  obtain ⟨tr, gF, gS, gR, gH, gT, h1, h2, h3, h4, h5, h6, rfl⟩ := hx
  intro w hw
  have T := (TG.refl hw).sum (H' := [gF, gS, gR, gH, gT]) (fun n ha h0 h1 h2 => by simp only [pickG, List.map_cons, List.map_nil, List.getD_cons_succ, List.getD_cons_zero, List.set_cons_succ, List.set_cons_zero, List.cons_append, List.flatten_append, List.flatten_cons, List.flatten_nil, List.append_nil, List.nil_append, ha, h0, h1, h2] <;> omega)
  refine (DoesG.use (floorLeave_g h1 h) T [0] rfl rfl).mono ?_
  rintro e w' ⟨gs, ⟨he, g1, hn1, rfl⟩, T'⟩
  exact ⟨_, ⟨he, _, ⟨tr, g1, gS, gR, gH, gT, hn1, h2, h3, h4, h5, h6, rfl⟩, rfl⟩, TG.sum (H := [g1, gS, gR, gH, gT]) T' (fun n ha h0 h1 h2 => by simp only [pickG, List.map_cons, List.map_nil, List.getD_cons_succ, List.getD_cons_zero, List.set_cons_succ, List.set_cons_zero, List.cons_append, List.flatten_append, List.flatten_cons, List.flatten_nil, List.append_nil, List.nil_append, ha, h0, h1, h2] <;> omega)⟩
theorem coreClosed (hx : isCore L x g) : DoesG Tryz.prog 102 #[ptr' L.fb] [g] fun e gs => e = .returned (.bool x.f.closed) ∧ ∃ g', isCore L x g' ∧ gs = [g'] := by
  obtain ⟨tr, gF, gS, gR, gH, gT, h1, h2, h3, h4, h5, h6, rfl⟩ := hx
  intro w hw
  have T := (TG.refl hw).sum (H' := [gF, gS, gR, gH, gT]) (fun n ha h0 h1 h2 => by simp only [pickG, List.map_cons, List.map_nil, List.getD_cons_succ, List.getD_cons_zero, List.set_cons_succ, List.set_cons_zero, List.cons_append, List.flatten_append, List.flatten_cons, List.flatten_nil, List.append_nil, List.nil_append, ha, h0, h1, h2] <;> omega)
  refine (DoesG.use (floorClosed_g h1) T [0] rfl rfl).mono ?_
  rintro e w' ⟨gs, ⟨he, g1, hn1, rfl⟩, T'⟩
  exact ⟨_, ⟨he, _, ⟨tr, g1, gS, gR, gH, gT, hn1, h2, h3, h4, h5, h6, rfl⟩, rfl⟩, TG.sum (H := [g1, gS, gR, gH, gT]) T' (fun n ha h0 h1 h2 => by simp only [pickG, List.map_cons, List.map_nil, List.getD_cons_succ, List.getD_cons_zero, List.set_cons_succ, List.set_cons_zero, List.cons_append, List.flatten_append, List.flatten_cons, List.flatten_nil, List.append_nil, List.nil_append, ha, h0, h1, h2] <;> omega)⟩
theorem coreShut (hx : isCore L x g) : DoesG Tryz.prog 25 #[ptr' L.fb] [g] fun e gs => e = .returned (.bool (!x.f.closed)) ∧ ∃ g', isCore L { x with f := { x.f with closed := true } } g' ∧ gs = [g'] := by
  obtain ⟨tr, gF, gS, gR, gH, gT, h1, h2, h3, h4, h5, h6, rfl⟩ := hx
  intro w hw
  have T := (TG.refl hw).sum (H' := [gF, gS, gR, gH, gT]) (fun n ha h0 h1 h2 => by simp only [pickG, List.map_cons, List.map_nil, List.getD_cons_succ, List.getD_cons_zero, List.set_cons_succ, List.set_cons_zero, List.cons_append, List.flatten_append, List.flatten_cons, List.flatten_nil, List.append_nil, List.nil_append, ha, h0, h1, h2] <;> omega)
  refine (DoesG.use (floorShut_g h1) T [0] rfl rfl).mono ?_
  rintro e w' ⟨gs, ⟨he, g1, hn1, rfl⟩, T'⟩
  exact ⟨_, ⟨he, _, ⟨tr, g1, gS, gR, gH, gT, hn1, h2, h3, h4, h5, h6, rfl⟩, rfl⟩, TG.sum (H := [g1, gS, gR, gH, gT]) T' (fun n ha h0 h1 h2 => by simp only [pickG, List.map_cons, List.map_nil, List.getD_cons_succ, List.getD_cons_zero, List.set_cons_succ, List.set_cons_zero, List.cons_append, List.flatten_append, List.flatten_cons, List.flatten_nil, List.append_nil, List.nil_append, ha, h0, h1, h2] <;> omega)⟩
theorem coreInside (hx : isCore L x g) : DoesG Tryz.prog 31 #[ptr' L.fb] [g] fun e gs => e = .returned (.int .i64 x.f.inside) ∧ ∃ g', isCore L x g' ∧ gs = [g'] := by
  obtain ⟨tr, gF, gS, gR, gH, gT, h1, h2, h3, h4, h5, h6, rfl⟩ := hx
  intro w hw
  have T := (TG.refl hw).sum (H' := [gF, gS, gR, gH, gT]) (fun n ha h0 h1 h2 => by simp only [pickG, List.map_cons, List.map_nil, List.getD_cons_succ, List.getD_cons_zero, List.set_cons_succ, List.set_cons_zero, List.cons_append, List.flatten_append, List.flatten_cons, List.flatten_nil, List.append_nil, List.nil_append, ha, h0, h1, h2] <;> omega)
  refine (DoesG.use (floorInside_g h1) T [0] rfl rfl).mono ?_
  rintro e w' ⟨gs, ⟨he, g1, hn1, rfl⟩, T'⟩
  exact ⟨_, ⟨he, _, ⟨tr, g1, gS, gR, gH, gT, hn1, h2, h3, h4, h5, h6, rfl⟩, rfl⟩, TG.sum (H := [g1, gS, gR, gH, gT]) T' (fun n ha h0 h1 h2 => by simp only [pickG, List.map_cons, List.map_nil, List.getD_cons_succ, List.getD_cons_zero, List.set_cons_succ, List.set_cons_zero, List.cons_append, List.flatten_append, List.flatten_cons, List.flatten_nil, List.append_nil, List.nil_append, ha, h0, h1, h2] <;> omega)⟩
theorem coreCount (hx : isCore L x g) : DoesG Tryz.prog 28 #[ptr' L.p.sb] [g] fun e gs => e = .returned (.int .i64 x.slab.count) ∧ ∃ g', isCore L x g' ∧ gs = [g'] := by
  obtain ⟨tr, gF, gS, gR, gH, gT, h1, h2, h3, h4, h5, h6, rfl⟩ := hx
  intro w hw
  have T := (TG.refl hw).sum (H' := [gF, gS, gR, gH, gT]) (fun n ha h0 h1 h2 => by simp only [pickG, List.map_cons, List.map_nil, List.getD_cons_succ, List.getD_cons_zero, List.set_cons_succ, List.set_cons_zero, List.cons_append, List.flatten_append, List.flatten_cons, List.flatten_nil, List.append_nil, List.nil_append, ha, h0, h1, h2] <;> omega)
  refine (DoesG.use (slabCount_g h2) T [1] rfl rfl).mono ?_
  rintro e w' ⟨gs, ⟨he, g1, hn1, rfl⟩, T'⟩
  exact ⟨_, ⟨he, _, ⟨tr, gF, g1, gR, gH, gT, h1, hn1, h3, h4, h5, h6, rfl⟩, rfl⟩, TG.sum (H := [gF, g1, gR, gH, gT]) T' (fun n ha h0 h1 h2 => by simp only [pickG, List.map_cons, List.map_nil, List.getD_cons_succ, List.getD_cons_zero, List.set_cons_succ, List.set_cons_zero, List.cons_append, List.flatten_append, List.flatten_cons, List.flatten_nil, List.append_nil, List.nil_append, ha, h0, h1, h2] <;> omega)⟩
theorem corePeriod (hx : isCore L x g) (hn : x.slab.recs.length ≤ 64) (k : Int) : DoesG Tryz.prog 169 #[ptr' L.p.sb, .int .i64 k] [g] fun e gs => e = .returned (.int .u64 (x.slab.period k)) ∧ ∃ g', isCore L x g' ∧ gs = [g'] := by
  obtain ⟨tr, gF, gS, gR, gH, gT, h1, h2, h3, h4, h5, h6, rfl⟩ := hx
  intro w hw
  have T := (TG.refl hw).sum (H' := [gF, gS, gR, gH, gT]) (fun n ha h0 h1 h2 => by simp only [pickG, List.map_cons, List.map_nil, List.getD_cons_succ, List.getD_cons_zero, List.set_cons_succ, List.set_cons_zero, List.cons_append, List.flatten_append, List.flatten_cons, List.flatten_nil, List.append_nil, List.nil_append, ha, h0, h1, h2] <;> omega)
  refine (DoesG.use (slabPeriod_g h2 hn k) T [1] rfl rfl).mono ?_
  rintro e w' ⟨gs, ⟨he, g1, hn1, rfl⟩, T'⟩
  exact ⟨_, ⟨he, _, ⟨tr, gF, g1, gR, gH, gT, h1, hn1, h3, h4, h5, h6, rfl⟩, rfl⟩, TG.sum (H := [gF, g1, gR, gH, gT]) T' (fun n ha h0 h1 h2 => by simp only [pickG, List.map_cons, List.map_nil, List.getD_cons_succ, List.getD_cons_zero, List.set_cons_succ, List.set_cons_zero, List.cons_append, List.flatten_append, List.flatten_cons, List.flatten_nil, List.append_nil, List.nil_append, ha, h0, h1, h2] <;> omega)⟩
theorem coreWord (hx : isCore L x g) (hn : x.slab.recs.length ≤ 64) (k : Int) : DoesG Tryz.prog 27 #[ptr' L.p.sb, .int .i64 k] [g] fun e gs => e = .returned (.tuple #[.int .u64 (x.slab.word k), .int .i64 (x.slab.werr k)]) ∧ ∃ g', isCore L x g' ∧ gs = [g'] := by
  obtain ⟨tr, gF, gS, gR, gH, gT, h1, h2, h3, h4, h5, h6, rfl⟩ := hx
  intro w hw
  have T := (TG.refl hw).sum (H' := [gF, gS, gR, gH, gT]) (fun n ha h0 h1 h2 => by simp only [pickG, List.map_cons, List.map_nil, List.getD_cons_succ, List.getD_cons_zero, List.set_cons_succ, List.set_cons_zero, List.cons_append, List.flatten_append, List.flatten_cons, List.flatten_nil, List.append_nil, List.nil_append, ha, h0, h1, h2] <;> omega)
  refine (DoesG.use (slabWord_g h2 hn k) T [1] rfl rfl).mono ?_
  rintro e w' ⟨gs, ⟨he, g1, hn1, rfl⟩, T'⟩
  exact ⟨_, ⟨he, _, ⟨tr, gF, g1, gR, gH, gT, h1, hn1, h3, h4, h5, h6, rfl⟩, rfl⟩, TG.sum (H := [gF, g1, gR, gH, gT]) T' (fun n ha h0 h1 h2 => by simp only [pickG, List.map_cons, List.map_nil, List.getD_cons_succ, List.getD_cons_zero, List.set_cons_succ, List.set_cons_zero, List.cons_append, List.flatten_append, List.flatten_cons, List.flatten_nil, List.append_nil, List.nil_append, ha, h0, h1, h2] <;> omega)⟩
theorem coreSlot (hx : isCore L x g) (hn : x.slab.recs.length ≤ 64) (id : Int) (h0 : 0 ≤ id) (h9 : id < 18446744073709551616) : DoesG Tryz.prog 165 #[ptr' L.p.sb, .int .u64 id] [g] fun e gs => e = .returned (.tuple #[.int .i64 (x.slab.slot id), .int .i64 (x.slab.serr id)]) ∧ ∃ g', isCore L x g' ∧ gs = [g'] := by
  obtain ⟨tr, gF, gS, gR, gH, gT, h1, h2, h3, h4, h5, h6, rfl⟩ := hx
  intro w hw
  have T := (TG.refl hw).sum (H' := [gF, gS, gR, gH, gT]) (fun n ha h0 h1 h2 => by simp only [pickG, List.map_cons, List.map_nil, List.getD_cons_succ, List.getD_cons_zero, List.set_cons_succ, List.set_cons_zero, List.cons_append, List.flatten_append, List.flatten_cons, List.flatten_nil, List.append_nil, List.nil_append, ha, h0, h1, h2] <;> omega)
  refine (DoesG.use (slabSlot_g h2 hn id h0 h9) T [1] rfl rfl).mono ?_
  rintro e w' ⟨gs, ⟨he, g1, hn1, rfl⟩, T'⟩
  exact ⟨_, ⟨he, _, ⟨tr, gF, g1, gR, gH, gT, h1, hn1, h3, h4, h5, h6, rfl⟩, rfl⟩, TG.sum (H := [gF, g1, gR, gH, gT]) T' (fun n ha h0 h1 h2 => by simp only [pickG, List.map_cons, List.map_nil, List.getD_cons_succ, List.getD_cons_zero, List.set_cons_succ, List.set_cons_zero, List.cons_append, List.flatten_append, List.flatten_cons, List.flatten_nil, List.append_nil, List.nil_append, ha, h0, h1, h2] <;> omega)⟩
theorem coreMine (hx : isCore L x g) (hn : x.slab.recs.length ≤ 64) (id : Int) (h0 : 0 ≤ id) (h9 : id < 18446744073709551616) : DoesG Tryz.prog 166 #[ptr' L.p.sb, .int .u64 id] [g] fun e gs => e = .returned (.bool (x.slab.mine id)) ∧ ∃ g', isCore L x g' ∧ gs = [g'] := by
  obtain ⟨tr, gF, gS, gR, gH, gT, h1, h2, h3, h4, h5, h6, rfl⟩ := hx
  intro w hw
  have T := (TG.refl hw).sum (H' := [gF, gS, gR, gH, gT]) (fun n ha h0 h1 h2 => by simp only [pickG, List.map_cons, List.map_nil, List.getD_cons_succ, List.getD_cons_zero, List.set_cons_succ, List.set_cons_zero, List.cons_append, List.flatten_append, List.flatten_cons, List.flatten_nil, List.append_nil, List.nil_append, ha, h0, h1, h2] <;> omega)
  refine (DoesG.use (slabMine_g h2 hn id h0 h9) T [1] rfl rfl).mono ?_
  rintro e w' ⟨gs, ⟨he, g1, hn1, rfl⟩, T'⟩
  exact ⟨_, ⟨he, _, ⟨tr, gF, g1, gR, gH, gT, h1, hn1, h3, h4, h5, h6, rfl⟩, rfl⟩, TG.sum (H := [gF, g1, gR, gH, gT]) T' (fun n ha h0 h1 h2 => by simp only [pickG, List.map_cons, List.map_nil, List.getD_cons_succ, List.getD_cons_zero, List.set_cons_succ, List.set_cons_zero, List.cons_append, List.flatten_append, List.flatten_cons, List.flatten_nil, List.append_nil, List.nil_append, ha, h0, h1, h2] <;> omega)⟩
theorem coreDrop (hx : isCore L x g) (h0 : 0 ≤ x.slab.count) (h9 : x.slab.count ≤ 64) : DoesG Tryz.prog 192 #[ptr' L.p.sb] [g] fun e gs => e = .returned (.int .i64 x.slab.drop.2) ∧ ∃ g', isCore L { x with slab := x.slab.drop.1 } g' ∧ gs = [g'] := by
  obtain ⟨tr, gF, gS, gR, gH, gT, h1, h2, h3, h4, h5, h6, rfl⟩ := hx
  intro w hw
  have T := (TG.refl hw).sum (H' := [gF, gS, gR, gH, gT]) (fun n ha h0 h1 h2 => by simp only [pickG, List.map_cons, List.map_nil, List.getD_cons_succ, List.getD_cons_zero, List.set_cons_succ, List.set_cons_zero, List.cons_append, List.flatten_append, List.flatten_cons, List.flatten_nil, List.append_nil, List.nil_append, ha, h0, h1, h2] <;> omega)
  refine (DoesG.use (slabDrop_g h2 h0 h9) T [1] rfl rfl).mono ?_
  rintro e w' ⟨gs, ⟨he, g1, hn1, rfl⟩, T'⟩
  exact ⟨_, ⟨he, _, ⟨tr, gF, g1, gR, gH, gT, h1, hn1, h3, h4, h5, h6, rfl⟩, rfl⟩, TG.sum (H := [gF, g1, gR, gH, gT]) T' (fun n ha h0 h1 h2 => by simp only [pickG, List.map_cons, List.map_nil, List.getD_cons_succ, List.getD_cons_zero, List.set_cons_succ, List.set_cons_zero, List.cons_append, List.flatten_append, List.flatten_cons, List.flatten_nil, List.append_nil, List.nil_append, ha, h0, h1, h2] <;> omega)⟩
theorem coreTry (hx : isCore L x g) (hn : x.slab.recs.length ≤ 64) (k old ev : Int) (h0 : 0 ≤ old) (h9 : old < 18446744073709551616) : DoesG Tryz.prog 170 #[ptr' L.p.sb, .int .i64 k, .int .u64 old, .int .i64 ev] [g] fun e gs => e = .returned (.tuple #[.int .u64 (x.slab.try k old ev).2.1, .int .i64 (x.slab.try k old ev).2.2]) ∧ ∃ g', isCore L { x with slab := (x.slab.try k old ev).1 } g' ∧ gs = [g'] := by
  obtain ⟨tr, gF, gS, gR, gH, gT, h1, h2, h3, h4, h5, h6, rfl⟩ := hx
  intro w hw
  have T := (TG.refl hw).sum (H' := [gF, gS, gR, gH, gT]) (fun n ha h0 h1 h2 => by simp only [pickG, List.map_cons, List.map_nil, List.getD_cons_succ, List.getD_cons_zero, List.set_cons_succ, List.set_cons_zero, List.cons_append, List.flatten_append, List.flatten_cons, List.flatten_nil, List.append_nil, List.nil_append, ha, h0, h1, h2] <;> omega)
  refine (DoesG.use (slabTry_g h2 hn k old ev h0 h9) T [1] rfl rfl).mono ?_
  rintro e w' ⟨gs, ⟨he, g1, hn1, rfl⟩, T'⟩
  exact ⟨_, ⟨he, _, ⟨tr, gF, g1, gR, gH, gT, h1, hn1, h3, h4, h5, h6, rfl⟩, rfl⟩, TG.sum (H := [gF, g1, gR, gH, gT]) T' (fun n ha h0 h1 h2 => by simp only [pickG, List.map_cons, List.map_nil, List.getD_cons_succ, List.getD_cons_zero, List.set_cons_succ, List.set_cons_zero, List.cons_append, List.flatten_append, List.flatten_cons, List.flatten_nil, List.append_nil, List.nil_append, ha, h0, h1, h2] <;> omega)⟩
theorem coreReq (hx : isCore L x g) (qb : Nat) (q : Req) (hs : SlabOk x.slab) (hq : ReqOk x.slab.recs.length q) : DoesG Tryz.prog 131 #[ptr' qb] [reqG qb L.p.sb q, g] fun e gs => e = .returned (.int .i64 (stepR x.slab q).2.st) ∧ ∃ g', isCore L { x with slab := (stepR x.slab q).1 } g' ∧ gs = [reqG qb L.p.sb (stepR x.slab q).2, g'] := by
  obtain ⟨tr, gF, gS, gR, gH, gT, h1, h2, h3, h4, h5, h6, rfl⟩ := hx
  intro w hw
  have T := (TG.refl hw).sum (H' := [reqG qb L.p.sb q, gF, gS, gR, gH, gT]) (fun n ha h0 h1 h2 => by simp only [pickG, List.map_cons, List.map_nil, List.getD_cons_succ, List.getD_cons_zero, List.set_cons_succ, List.set_cons_zero, List.cons_append, List.flatten_append, List.flatten_cons, List.flatten_nil, List.append_nil, List.nil_append, ha, h0, h1, h2] <;> omega)
  refine (DoesG.use (reqStep_g qb q h2 hs hq) T [0, 2] rfl rfl).mono ?_
  rintro e w' ⟨gs, ⟨he, g1, hn1, rfl⟩, T'⟩
  exact ⟨_, ⟨he, _, ⟨tr, gF, g1, gR, gH, gT, h1, hn1, h3, h4, h5, h6, rfl⟩, rfl⟩, TG.sum (H := [reqG qb L.p.sb (stepR x.slab q).2, gF, g1, gR, gH, gT]) T' (fun n ha h0 h1 h2 => by simp only [pickG, List.map_cons, List.map_nil, List.getD_cons_succ, List.getD_cons_zero, List.set_cons_succ, List.set_cons_zero, List.cons_append, List.flatten_append, List.flatten_cons, List.flatten_nil, List.append_nil, List.nil_append, ha, h0, h1, h2] <;> omega)⟩
theorem coreNote (hx : isCore L x g) (E : EvS) (hn : x.tr.length ≤ 1000000) : DoesG Tryz.prog 108 #[ptr' L.fb, .agg E.cells] [g] fun e gs => e = .returned (.tuple #[]) ∧ ∃ g', isCore L { x with tr := x.tr ++ [E] } g' ∧ gs = [g'] := by
  obtain ⟨tr, gF, gS, gR, gH, gT, h1, h2, h3, h4, h5, h6, rfl⟩ := hx
  intro w hw
  have T := (TG.refl hw).sum (H' := [gF, gS, gR, gH, gT]) (fun n ha h0 h1 h2 => by simp only [pickG, List.map_cons, List.map_nil, List.getD_cons_succ, List.getD_cons_zero, List.set_cons_succ, List.set_cons_zero, List.cons_append, List.flatten_append, List.flatten_cons, List.flatten_nil, List.append_nil, List.nil_append, ha, h0, h1, h2] <;> omega)
  refine (DoesG.use (floorNote_big E h1 h6 (by omega)) T [0, 4] rfl rfl).mono ?_
  rintro e w' ⟨gs, ⟨he, tr1, g1, gT1, hn1, hn2, rfl⟩, T'⟩
  exact ⟨_, ⟨he, _, ⟨tr1, g1, gS, gR, gH, gT1, hn1, h2, h3, h4, h5, trG.put hn2, rfl⟩, rfl⟩, TG.sum (H := [g1, gS, gR, gH, gT1]) T' (fun n ha h0 h1 h2 => by simp only [pickG, List.map_cons, List.map_nil, List.getD_cons_succ, List.getD_cons_zero, List.set_cons_succ, List.set_cons_zero, List.cons_append, List.flatten_append, List.flatten_cons, List.flatten_nil, List.append_nil, List.nil_append, ha, h0, h1, h2] <;> omega)⟩
theorem zip_at {α β : Type} {l : List α} {m : List β} {i : Nat} {a : α} {b : β} (ha : l[i]? = some a) (hb : m[i]? = some b) : (l.zip m)[i]? = some (a, b) := by
  rw [List.getElem?_zip_eq_some]; exact ⟨ha, hb⟩
theorem zip_set {α β : Type} : ∀ {l : List α} {m : List β} (i : Nat) {a : α} {b : β}, l[i]? = some a → (l.zip m).set i (a, b) = l.zip (m.set i b)
  | [], m, i, a, b, h => by simp at h
  | c :: l, [], i, a, b, h => by simp
  | c :: l, d :: m, 0, a, b, h => by simp at h; simp [h]
  | c :: l, d :: m, i + 1, a, b, h => by simp at h; simp [zip_set i h]
theorem coreTick (hx : isCore L x g) {i : Nat} {q : ShP} {s : ShardS} (hq : L.qs[i]? = some q) (hs : x.shs[i]? = some s) (tb : Nat) (t : TickS) (hr0 : RingB s.ring) (ht : TickB t) : DoesG Tryz.prog 160 #[ptr' tb] [tickG tb q.rb t, g] fun e gs => e = .returned (.int .i64 (stepT s.ring t).2.status) ∧ ∃ g', isCore L { x with shs := x.shs.set i { s with ring := (stepT s.ring t).1 } } g' ∧ gs = [tickG tb q.rb (stepT s.ring t).2, g'] := by
  obtain ⟨tr, gF, gS, gR, gH, gT, h1, h2, h3, h4, h5, h6, rfl⟩ := hx
  have hz : (L.qs.zip x.shs)[i]? = some (q, s) := zip_at hq hs
  obtain ⟨u, y, ⟨gr, gl, hr, hl, rfl⟩, hp, hback⟩ := h5.out hz
  intro w hw
  have T := (((TG.refl hw).sum (H' := [tickG tb q.rb t, gF ++ (gS ++ (gR ++ gT)), gH]) (fun n ha h0 h1 h2 => by simp only [pickG, List.map_cons, List.map_nil, List.getD_cons_succ, List.getD_cons_zero, List.set_cons_succ, List.set_cons_zero, List.cons_append, List.flatten_append, List.flatten_cons, List.flatten_nil, List.append_nil, List.nil_append, ha, h0, h1, h2] <;> omega)).permAt 2 rfl hp).sum (H' := [tickG tb q.rb t, gF ++ (gS ++ (gR ++ gT)), shardB q.b q.rb q.lb q.wb, gr, gl, y]) (fun n ha h0 h1 h2 => by simp only [pickG, List.map_cons, List.map_nil, List.getD_cons_succ, List.getD_cons_zero, List.set_cons_succ, List.set_cons_zero, List.cons_append, List.flatten_append, List.flatten_cons, List.flatten_nil, List.append_nil, List.nil_append, ha, h0, h1, h2] <;> omega)
  refine (DoesG.use (tickStep_g (tb := tb) (t := t) hr hr0 ht) T [0, 3] rfl rfl).mono ?_
  rintro e w' ⟨gs, ⟨he, g1, hn1, rfl⟩, T'⟩
  obtain ⟨gH', hf, hp'⟩ := hback (q, { s with ring := (stepT s.ring t).1 }) (shardB q.b q.rb q.lb q.wb ++ (g1 ++ gl)) ⟨g1, gl, hn1, hl, rfl⟩
  rw [zip_set i hq] at hf
  refine ⟨_, ⟨he, _, ⟨tr, gF, gS, gR, gH', gT, h1, h2, h3, by simpa using h4, hf, h6, rfl⟩, rfl⟩, ?_⟩
  exact ((TG.sum (H := [tickG tb q.rb (stepT s.ring t).2, gF ++ (gS ++ (gR ++ gT)), shardB q.b q.rb q.lb q.wb, g1, gl, y]) (H' := [tickG tb q.rb (stepT s.ring t).2, gF ++ (gS ++ (gR ++ gT)), shardB q.b q.rb q.lb q.wb ++ (g1 ++ gl) ++ y]) T' (fun n ha h0 h1 h2 => by simp only [pickG, List.map_cons, List.map_nil, List.getD_cons_succ, List.getD_cons_zero, List.set_cons_succ, List.set_cons_zero, List.cons_append, List.flatten_append, List.flatten_cons, List.flatten_nil, List.append_nil, List.nil_append, ha, h0, h1, h2] <;> omega)).permAt 2 rfl hp').sum (fun n ha h0 h1 h2 => by simp only [pickG, List.map_cons, List.map_nil, List.getD_cons_succ, List.getD_cons_zero, List.set_cons_succ, List.set_cons_zero, List.cons_append, List.flatten_append, List.flatten_cons, List.flatten_nil, List.append_nil, List.nil_append, ha, h0, h1, h2] <;> omega)
theorem coreFill (hx : isCore L x g) {i : Nat} {q : ShP} {s : ShardS} (hq : L.qs[i]? = some q) (hs : x.shs[i]? = some s) (tb : Nat) (t : TickS) (hr0 : RingB s.ring) (ht : TickB t) (v : TaskS) : DoesG Tryz.prog 194 #[ptr' tb, .agg v.cells] [tickG tb q.rb t, g] fun e gs => e = .returned (.int .i64 (fillT s.ring t v).2.2) ∧ ∃ g', isCore L { x with shs := x.shs.set i { s with ring := (fillT s.ring t v).1 } } g' ∧ gs = [tickG tb q.rb (fillT s.ring t v).2.1, g'] := by
  obtain ⟨tr, gF, gS, gR, gH, gT, h1, h2, h3, h4, h5, h6, rfl⟩ := hx
  have hz : (L.qs.zip x.shs)[i]? = some (q, s) := zip_at hq hs
  obtain ⟨u, y, ⟨gr, gl, hr, hl, rfl⟩, hp, hback⟩ := h5.out hz
  intro w hw
  have T := (((TG.refl hw).sum (H' := [tickG tb q.rb t, gF ++ (gS ++ (gR ++ gT)), gH]) (fun n ha h0 h1 h2 => by simp only [pickG, List.map_cons, List.map_nil, List.getD_cons_succ, List.getD_cons_zero, List.set_cons_succ, List.set_cons_zero, List.cons_append, List.flatten_append, List.flatten_cons, List.flatten_nil, List.append_nil, List.nil_append, ha, h0, h1, h2] <;> omega)).permAt 2 rfl hp).sum (H' := [tickG tb q.rb t, gF ++ (gS ++ (gR ++ gT)), shardB q.b q.rb q.lb q.wb, gr, gl, y]) (fun n ha h0 h1 h2 => by simp only [pickG, List.map_cons, List.map_nil, List.getD_cons_succ, List.getD_cons_zero, List.set_cons_succ, List.set_cons_zero, List.cons_append, List.flatten_append, List.flatten_cons, List.flatten_nil, List.append_nil, List.nil_append, ha, h0, h1, h2] <;> omega)
  refine (DoesG.use (tickFill_g (tb := tb) (t := t) v hr hr0 ht) T [0, 3] rfl rfl).mono ?_
  rintro e w' ⟨gs, ⟨he, g1, hn1, rfl⟩, T'⟩
  obtain ⟨gH', hf, hp'⟩ := hback (q, { s with ring := (fillT s.ring t v).1 }) (shardB q.b q.rb q.lb q.wb ++ (g1 ++ gl)) ⟨g1, gl, hn1, hl, rfl⟩
  rw [zip_set i hq] at hf
  refine ⟨_, ⟨he, _, ⟨tr, gF, gS, gR, gH', gT, h1, h2, h3, by simpa using h4, hf, h6, rfl⟩, rfl⟩, ?_⟩
  exact ((TG.sum (H := [tickG tb q.rb (fillT s.ring t v).2.1, gF ++ (gS ++ (gR ++ gT)), shardB q.b q.rb q.lb q.wb, g1, gl, y]) (H' := [tickG tb q.rb (fillT s.ring t v).2.1, gF ++ (gS ++ (gR ++ gT)), shardB q.b q.rb q.lb q.wb ++ (g1 ++ gl) ++ y]) T' (fun n ha h0 h1 h2 => by simp only [pickG, List.map_cons, List.map_nil, List.getD_cons_succ, List.getD_cons_zero, List.set_cons_succ, List.set_cons_zero, List.cons_append, List.flatten_append, List.flatten_cons, List.flatten_nil, List.append_nil, List.nil_append, ha, h0, h1, h2] <;> omega)).permAt 2 rfl hp').sum (fun n ha h0 h1 h2 => by simp only [pickG, List.map_cons, List.map_nil, List.getD_cons_succ, List.getD_cons_zero, List.set_cons_succ, List.set_cons_zero, List.cons_append, List.flatten_append, List.flatten_cons, List.flatten_nil, List.append_nil, List.nil_append, ha, h0, h1, h2] <;> omega)
end
end Go.Proofs.YthbjaoinklhikaaGreat

namespace Go.Proofs.YthbjaoinklhikaaGreat
set_option linter.unusedVariables false
set_option linter.unusedSimpArgs false
open Go.RowKit Go.Shelf

/-! ## A call's work -/
structure WorkS where
  thread : Int
  no : Int
  kind : Int
  cid : Int
  cdl : Int
  cper : Int
  err : Int
  ok : Bool
  aid : Int
  agen : Int
  id : Int
  slot : Int
  saw : Int
  gen : Int
  rq : Option Req
  tk : Option (Nat × TickS)
def workC (fb : Nat) (pv rv tv : Value) (k : WorkS) : Array Value := #[ptr' fb, .int .i64 k.thread, .int .i64 k.no, .int .i64 k.kind, .int .u64 k.cid, .int .u64 k.cdl, .int .u64 k.cper, .int .i64 k.err, .bool k.ok, .int .u64 k.aid, .int .u64 k.agen, .slice none 0 0, pv, rv, tv, .int .u64 k.id, .int .i64 k.slot, .int .u64 k.saw, .int .u64 k.gen]
abbrev workB (kb fb : Nat) (pv rv tv : Value) (k : WorkS) : List Blk := [cl kb 102 (workC fb pv rv tv k)]
def WorkS.ev (k : WorkS) (E : EvS) : EvS := { E with thread := k.thread, call := k.no, what := k.kind }
def noteC (k : WorkS) (E : EvS) (x : CoreS) : CoreS := { x with tr := x.tr ++ [k.ev E] }
def ev0 : EvS := ⟨0, 0, 0, 0, 0, 0, 0, 0, 0, 0⟩
def refuseW (e : Int) (k : WorkS) : WorkS := { k with err := e, ok := false, aid := 0, agen := 0 }
section
variable {L : Lay} {x : CoreS} {g : List Blk} {kb : Nat} {pv rv tv : Value} {k : WorkS}
set_option maxRecDepth 100000 in
theorem workNote (hx : isCore L x g) (E : EvS) (hn : x.tr.length ≤ 1000000) : DoesG Tryz.prog 65 #[ptr' kb, .agg E.cells] [workB kb L.fb pv rv tv k, g] fun e gs =>
    e = .returned (.tuple #[]) ∧ ∃ g', isCore L (noteC k E x) g' ∧ gs = [workB kb L.fb pv rv tv k, g'] := by
  intro w hw
  have T0 := TG.refl hw
  have HT := Lib.hid T0
  clear hw T0
  have HN := Lib.hid (coreNote hx (k.ev E) hn)
  have lt := HT.out.lt 0 0 rfl
  simp only [] at lt
  have k0 := HT.out.cell 0 0 rfl 0
  have k1 := HT.out.cell 0 0 rfl 1
  have k2 := HT.out.cell 0 0 rfl 2
  have k3 := HT.out.cell 0 0 rfl 3
  simp only [workC, List.getElem?_toArray, List.getElem?_cons_zero, List.getElem?_cons_succ] at k0 k1 k2 k3
  clear hx hn
  simp only [EvS.cells]
  go_enter Tryz.func65, Tryz.ntmps65
  go_wp2
  go_region
  go_wp2
  have HT := Lib.hid (HT.out.alloc (k := w.heap.size) rfl 46 (k.ev E).cells).drew
  simp only [List.cons_append, List.nil_append] at HT
  simp only [EvS.cells, WorkS.ev] at HT
  clear lt k1 k2 k3 k0
  generalize World.drew _ = w1 at HT ⊢
  have k0 := HT.out.cell 0 0 rfl 0
  have b0 := HT.out.cell 2 0 rfl 0
  have b1 := HT.out.cell 2 0 rfl 1
  have b2 := HT.out.cell 2 0 rfl 2
  have b3 := HT.out.cell 2 0 rfl 3
  have b4 := HT.out.cell 2 0 rfl 4
  have b5 := HT.out.cell 2 0 rfl 5
  have b6 := HT.out.cell 2 0 rfl 6
  have b7 := HT.out.cell 2 0 rfl 7
  have b8 := HT.out.cell 2 0 rfl 8
  have b9 := HT.out.cell 2 0 rfl 9
  simp only [workC, List.getElem?_toArray, List.getElem?_cons_zero, List.getElem?_cons_succ] at k0 b0 b1 b2 b3 b4 b5 b6 b7 b8 b9
  refine wp_region_mix1 5 (by kernel_rfl) (by kernel_rfl) ?_
  simp only [List.take_succ_cons, List.take_zero, List.drop_succ_cons, List.drop_zero]
  repeat (go_big_quiet_step ((fail)))
  refine wpQuiet_nil ?_
  intro _ hw'
  obtain ⟨nq, hw''⟩ := hw'
  subst hw''
  have HT := Lib.hid (HT.out.drewN nq)
  go_wp2_with fail
  refine (DoesG.use (HN.out) (HT.out) [1] rfl rfl).mono ?_
  rintro e w1 ⟨gs, ⟨rfl, g', hx', rfl⟩, Ta⟩
  simp only [putG, List.set_cons_zero, List.set_cons_succ, List.cons_append, List.nil_append, List.append_nil] at Ta
  have HX := Lib.hid hx'
  clear hx'
  have HT := Lib.hid Ta
  clear Ta
  go_wp2_with fail
  refine ⟨rfl, ?_⟩
  go_wp2
  exact bodyPost_end (results_none rfl _ _ _) rfl ⟨_, ⟨rfl, g', HX.out, rfl⟩, HT.out.pick [0, 1] rfl⟩
/-- cells of the work's block -/
theorem workC_size : (workC L.fb pv rv tv k).size = 19 := rfl
set_option maxRecDepth 100000 in
theorem workRefuse (hx : isCore L x g) (e : Int) (hn : x.tr.length ≤ 1000000) : DoesG Tryz.prog 100 #[ptr' kb, .int .i64 e] [workB kb L.fb pv rv tv k, g] fun r gs =>
    r = .returned (.tuple #[]) ∧ ∃ g', isCore L (noteC k { ev0 with kind := 9, err := e } x) g' ∧ gs = [workB kb L.fb pv rv tv (refuseW e k), g'] := by
  intro w hw
  have T0 := TG.refl hw
  have HT := Lib.hid T0
  clear hw T0
  have HN := Lib.hid (workNote (kb := kb) (pv := pv) (rv := rv) (tv := tv) (k := k) hx { ev0 with kind := 9, err := e } hn)
  clear hx hn
  go_enter Tryz.func100, Tryz.ntmps100
  go_wp2_with fail
  refine (DoesG.use (HN.out) (HT.out) [0, 1] rfl rfl).mono ?_
  rintro e w1 ⟨gs, ⟨rfl, g', hx', rfl⟩, Ta⟩
  simp only [putG, List.set_cons_zero, List.set_cons_succ, List.cons_append, List.nil_append, List.append_nil] at Ta
  have HX := Lib.hid hx'
  clear hx'
  have HT := Lib.hid Ta
  clear Ta
  have c7 := HT.out.cell 0 0 rfl 7
  have c8 := HT.out.cell 0 0 rfl 8
  have c9 := HT.out.cell 0 0 rfl 9
  have c10 := HT.out.cell 0 0 rfl 10
  have c11 := HT.out.cell 0 0 rfl 11
  have f7 := HT.out.free 0 0 rfl 7
  have f8 := HT.out.free 0 0 rfl 8
  have f9 := HT.out.free 0 0 rfl 9
  have f10 := HT.out.free 0 0 rfl 10
  have f11 := HT.out.free 0 0 rfl 11
  simp only [workC, List.getElem?_toArray, List.getElem?_cons_zero, List.getElem?_cons_succ] at c7 c8 c9 c10 c11
  go_wp2
  exact bodyPost_end (results_none rfl _ _ _) rfl ⟨_, ⟨rfl, g', HX.out, rfl⟩, (((((HT.out.set 0 0 rfl 7 _).set 0 0 rfl 8 _).set 0 0 rfl 9 _).set 0 0 rfl 10 _).set 0 0 rfl 11 _).eq rfl⟩
end
end Go.Proofs.YthbjaoinklhikaaGreat

namespace Go.Proofs.YthbjaoinklhikaaGreat
set_option linter.unusedVariables false
set_option linter.unusedSimpArgs false
open Go.RowKit Go.Shelf

def WorkS.period (k : WorkS) : Int := if k.kind = 2 then k.cper else 0
def WorkS.event (k : WorkS) : Int := if k.kind = 4 then 6 else if k.kind = 5 then 7 else 8
/-! ### A slab's period, as a function that reads -/
theorem isSlab.open {sb : Nat} {s : SlabS} {g : List Blk} (h : isSlab sb s g) : ∃ rb C D, g = [cl sb 138 C, cl rb 134 D] ∧ C.size = 5 ∧ C[0]? = some (.slice (some ⟨rb, 0, none⟩) s.recs.length s.recs.length) ∧ cellAt C 1 (.int .i64 s.count) ∧ D.size = s.recs.length * 6 ∧ ∀ i r, s.recs[i]? = some r → recAt D i r := by
  obtain ⟨rb, m⟩ := h
  unfold slabH at m
  cases m with
  | cons h1 m =>
    cases m with
    | cons h2 m =>
      cases m
      obtain ⟨C, rfl, a, b, c⟩ := h1
      obtain ⟨D, rfl, d, e⟩ := h2
      exact ⟨rb, C, D, rfl, a, b, c, d, e⟩
theorem slabPeriod_r {sb : Nat} {s : SlabS} {g : List Blk} (h : isSlab sb s g) (hn : s.recs.length ≤ 64) (k : Int) : ReadsG Tryz.prog 169 #[ptr' sb, .int .i64 k] [g] (.int .u64 (s.period k)) := by
  obtain ⟨rb, C, D, rfl, h1, h2, h3, h4, h5⟩ := h.open
  intro w hw
  have T0 := TG.refl hw
  have HT := Lib.hid T0
  clear hw T0
  have c0 := (HT.out.cell 0 0 rfl 0).trans h2
  by_cases hk : s.has k
  · obtain ⟨j, rfl⟩ := SlabS.has_nat hk
    obtain ⟨r, hr, hr'⟩ := SlabS.has_at hk
    have HP := Lib.hid (show s.period j = r.p from by unfold SlabS.period; rw [if_pos hk, hr'])
    have c1 := (HT.out.cell 0 1 rfl (j * 6 + 5)).trans (h5 j r hr).2.2
    have hj : j < s.recs.length := by unfold SlabS.has at hk; omega
    clear h1 h2 h3 h4 h5 h hk hr hr'
    generalize s.recs.length = n at *
    have atc : ∀ w', w'.cell? ⟨sb, 0, none⟩ = some (.slice (some ⟨rb, 0, none⟩) n n) → Calls Tryz.prog 76 #[ptr' sb, .int .i64 (j : Int)] w' fun e w2 => e = .returned (.pointer (some ⟨rb, j * 6, none⟩)) ∧ w' = w2 := by
      intro w' c0'
      clear c0 c1 HT
      go_enter Tryz.func76, Tryz.ntmps76
      go_wp2
      go_ret
      exact ⟨rfl, rfl⟩
    have HAT := Lib.hid (atc w c0)
    clear atc
    go_enter Tryz.func169, Tryz.ntmps169
    go_wp2_with fail
    refine (HAT.out).mono ?_
    rintro e w2 ⟨rfl, rfl⟩
    go_wp2
    go_ret
    exact ⟨by rw [HP.out]; rfl, 0, rfl⟩
  · have HP := Lib.hid (show s.period k = 0 from if_neg hk)
    have hk' : ¬ (0 ≤ k ∧ k < s.recs.length) := hk
    clear h1 h2 h3 h4 h5 h hk
    generalize s.recs.length = n at *
    have atc : ∀ w', w'.cell? ⟨sb, 0, none⟩ = some (.slice (some ⟨rb, 0, none⟩) n n) → Calls Tryz.prog 76 #[ptr' sb, .int .i64 k] w' fun e w2 => e = .returned (.pointer none) ∧ w' = w2 := by
      intro w' c0'
      clear c0 HT
      by_cases h0 : 0 ≤ k
      · have h9 : (n : Int) ≤ k := by omega
        clear hk'
        go_enter Tryz.func76, Tryz.ntmps76
        go_wp2
        go_ret
        exact ⟨rfl, rfl⟩
      · have h9 : k < 0 := by omega
        clear hk' h0
        go_enter Tryz.func76, Tryz.ntmps76
        go_wp2
        go_ret
        exact ⟨rfl, rfl⟩
    have HAT := Lib.hid (atc w c0)
    clear atc hk'
    go_enter Tryz.func169, Tryz.ntmps169
    go_wp2_with fail
    refine (HAT.out).mono ?_
    rintro e w2 ⟨rfl, rfl⟩
    go_wp2
    go_ret
    exact ⟨by rw [HP.out]; rfl, 0, rfl⟩
section
variable {L : Lay} {x : CoreS} {g : List Blk} {kb : Nat} {pv rv tv : Value} {k : WorkS}
theorem corePeriod_r (hx : isCore L x g) (hn : x.slab.recs.length ≤ 64) (i : Int) : ReadsG Tryz.prog 169 #[ptr' L.p.sb, .int .i64 i] [g] (.int .u64 (x.slab.period i)) := by
  obtain ⟨tr, gF, gS, gR, gH, gT, h1, h2, h3, h4, h5, h6, rfl⟩ := hx
  intro w hw
  have T := (TG.refl hw).sum (H' := [gF, gS, gR, gH, gT]) (fun n ha h0 h1 h2 => by simp only [pickG, List.map_cons, List.map_nil, List.getD_cons_succ, List.getD_cons_zero, List.set_cons_succ, List.set_cons_zero, List.cons_append, List.flatten_append, List.flatten_cons, List.flatten_nil, List.append_nil, List.nil_append, ha, h0, h1, h2] <;> omega)
  exact (slabPeriod_r h2 hn i).use T [1] rfl rfl
theorem workPeriod_r : ReadsG Tryz.prog 105 #[ptr' kb] [workB kb L.fb pv rv tv k] (.int .u64 k.period) := by
  by_cases h : k.kind = 2
  · have HE := Lib.hid (show k.period = k.cper from if_pos h)
    intro w hw
    have T0 := TG.refl hw
    have HT := Lib.hid T0
    clear hw T0
    have k3 := HT.out.cell 0 0 rfl 3
    have k6 := HT.out.cell 0 0 rfl 6
    simp only [workC, List.getElem?_toArray, List.getElem?_cons_zero, List.getElem?_cons_succ] at k3 k6
    rw [h] at k3
    clear h
    go_enter Tryz.func105, Tryz.ntmps105
    go_wp2
    go_ret
    exact ⟨by rw [HE.out]; rfl, 0, rfl⟩
  · have HE := Lib.hid (show k.period = 0 from if_neg h)
    have hb : (k.kind == 2) = false := beq_eq_false_iff_ne.2 h
    intro w hw
    have T0 := TG.refl hw
    have HT := Lib.hid T0
    clear hw T0
    have k3 := HT.out.cell 0 0 rfl 3
    have k6 := HT.out.cell 0 0 rfl 6
    simp only [workC, List.getElem?_toArray, List.getElem?_cons_zero, List.getElem?_cons_succ] at k3 k6
    clear h
    go_enter Tryz.func105, Tryz.ntmps105
    go_wp2
    go_ret
    exact ⟨by rw [HE.out]; rfl, 0, rfl⟩
theorem workKind_r : ReadsG Tryz.prog 168 #[ptr' kb] [workB kb L.fb pv rv tv k] (.int .i64 k.event) := by
  by_cases h : k.kind = 4
  · have HE := Lib.hid (show k.event = 6 from if_pos h)
    intro w hw
    have T0 := TG.refl hw
    have HT := Lib.hid T0
    clear hw T0
    have k3 := HT.out.cell 0 0 rfl 3
    simp only [workC, List.getElem?_toArray, List.getElem?_cons_zero, List.getElem?_cons_succ] at k3
    rw [h] at k3
    clear h
    go_enter Tryz.func168, Tryz.ntmps168
    go_wp2
    go_ret
    exact ⟨by rw [HE.out]; rfl, 0, rfl⟩
  · have hb : (k.kind == 4) = false := beq_eq_false_iff_ne.2 h
    by_cases h' : k.kind = 5
    · have HE := Lib.hid (show k.event = 7 from (if_neg h).trans (if_pos h'))
      intro w hw
      have T0 := TG.refl hw
      have HT := Lib.hid T0
      clear hw T0
      have k3 := HT.out.cell 0 0 rfl 3
      simp only [workC, List.getElem?_toArray, List.getElem?_cons_zero, List.getElem?_cons_succ] at k3
      rw [h'] at k3
      clear h h' hb
      go_enter Tryz.func168, Tryz.ntmps168
      go_wp2
      go_ret
      exact ⟨by rw [HE.out]; rfl, 0, rfl⟩
    · have hb' : (k.kind == 5) = false := beq_eq_false_iff_ne.2 h'
      have HE := Lib.hid (show k.event = 8 from (if_neg h).trans (if_neg h'))
      intro w hw
      have T0 := TG.refl hw
      have HT := Lib.hid T0
      clear hw T0
      have k3 := HT.out.cell 0 0 rfl 3
      simp only [workC, List.getElem?_toArray, List.getElem?_cons_zero, List.getElem?_cons_succ] at k3
      clear h h'
      go_enter Tryz.func168, Tryz.ntmps168
      go_wp2
      go_ret
      exact ⟨by rw [HE.out]; rfl, 0, rfl⟩
set_option maxRecDepth 100000 in
theorem callsAt {fn : FuncId} {first caps : Array Value} : DoesG Tryz.prog 61 #[.func (.func fn) first caps] [] fun e gs => e = .returned (.agg #[.nilFunc, .func (.func fn) first caps]) ∧ gs = [] := by
  intro w hw
  have T0 := TG.refl hw
  have HT := Lib.hid T0
  clear hw T0
  go_enter Tryz.func61, Tryz.ntmps61
  go_wp2
  exact bodyPost_ret (v := .agg #[.nilFunc, .func (.func fn) first caps]) (by simp [results, Tryz.results61, go_sem]) rfl ⟨_, ⟨rfl, rfl⟩, HT.out.alloc0 _⟩
end
end Go.Proofs.YthbjaoinklhikaaGreat

namespace Go.Proofs.YthbjaoinklhikaaGreat
set_option linter.unusedVariables false
set_option linter.unusedSimpArgs false
open Go.RowKit

/-! ## Contracts at known states; the example of the document -/
def recOkB (r : Rec) : Bool := decide (0 ≤ r.w) && decide (r.w < 18446744073709551616) && okW r.w && decide (0 ≤ r.g) && decide (r.g ≤ genW r.w) && decide (0 ≤ r.p) && decide (r.p < 18446744073709551616)
def slabOkB (s : SlabS) : Bool := decide (1 ≤ s.recs.length) && decide (s.recs.length ≤ 64) && decide (0 ≤ s.count) && decide (s.count ≤ s.recs.length) && s.recs.all recOkB
theorem SlabOk.of {s : SlabS} (h : slabOkB s = true) : SlabOk s := by
  simp only [slabOkB, recOkB, Bool.and_eq_true, decide_eq_true_eq, List.all_eq_true] at h
  obtain ⟨⟨⟨⟨a, b⟩, c⟩, d⟩, e⟩ := h
  refine ⟨a, b, c, d, fun r hr => ?_⟩
  obtain ⟨⟨⟨⟨⟨⟨h1, h2⟩, h3⟩, h4⟩, h5⟩, h6⟩, h7⟩ := e r hr
  exact ⟨h1, h2, h3, h4, h5, h6, h7⟩
def reqOkB (n : Nat) (q : Req) : Bool := decide (0 ≤ q.p) && decide (q.p < 18446744073709551616) && decide (0 ≤ q.slot) && decide (q.slot < n) && (decide (q.next = 0) || (decide (q.next = 1) && decide (0 ≤ q.saw) && decide (q.saw < n)) || decide (q.next = 2))
theorem ReqOk.of {n : Nat} {q : Req} (h : reqOkB n q = true) : ReqOk n q := by
  simp only [reqOkB, Bool.and_eq_true, Bool.or_eq_true, decide_eq_true_eq] at h
  obtain ⟨⟨⟨⟨a, b⟩, c⟩, d⟩, (e | ⟨⟨e, f⟩, k⟩) | e⟩ := h
  · exact ⟨a, b, c, d, .inl e⟩
  · exact ⟨a, b, c, d, .inr (.inl ⟨e, f, k⟩)⟩
  · exact ⟨a, b, c, d, .inr (.inr e)⟩
section
variable {sb : Nat} {s s' : SlabS} {g : List Blk}
theorem reqStep_c {qb : Nat} {q : Req} (q' : Req) (E : stepR s q = (s', q')) (hg : isSlab sb s g) (hs : SlabOk s) (hq : ReqOk s.recs.length q) :
    DoesG Tryz.prog 131 #[ptr qb] [reqG qb sb q, g] fun e gs => e = .returned (.int .i64 q'.st) ∧ ∃ g', isSlab sb s' g' ∧ gs = [reqG qb sb q', g'] := by
  have := reqStep_g qb q hg hs hq
  rwa [E] at this
theorem reqId_held (qb sb : Nat) (q : Req) (h : q.st = 2) : DoesG Tryz.prog 132 #[ptr qb] [reqG qb sb q] fun e gs => e = .returned (.tuple #[.int .u64 q.id, .int .i64 0]) ∧ gs = [reqG qb sb q] := by
  have := reqId_g qb sb q; rwa [if_pos h, if_pos h] at this
theorem reqId_c {v : Int} (qb sb : Nat) (q : Req) (h : q.st = 2) (e1 : q.id = v) : DoesG Tryz.prog 132 #[ptr qb] [reqG qb sb q] fun e gs => e = .returned (.tuple #[.int .u64 v, .int .i64 0]) ∧ gs = [reqG qb sb q] := by
  have := reqId_held qb sb q h; rwa [e1] at this
theorem reqId_not (qb sb : Nat) (q : Req) (h : q.st ≠ 2) : DoesG Tryz.prog 132 #[ptr qb] [reqG qb sb q] fun e gs => e = .returned (.tuple #[.int .u64 0, .int .i64 7]) ∧ gs = [reqG qb sb q] := by
  have := reqId_g qb sb q; rwa [if_neg h, if_neg h] at this
theorem slabWord_c {v x : Int} {k : Int} (e1 : s.word k = v) (e2 : s.werr k = x) (hg : isSlab sb s g) (hn : s.recs.length ≤ 64) : DoesG Tryz.prog 27 #[ptr sb, .int .i64 k] [g] fun e gs => e = .returned (.tuple #[.int .u64 v, .int .i64 x]) ∧ ∃ g', isSlab sb s g' ∧ gs = [g'] := by
  have := slabWord_g hg hn k; rwa [e1, e2] at this
theorem slabMine_c {v : Bool} {id : Int} (E : s.mine id = v) (hg : isSlab sb s g) (hn : s.recs.length ≤ 64) (h0 : 0 ≤ id) (h1 : id < 18446744073709551616) : DoesG Tryz.prog 166 #[ptr sb, .int .u64 id] [g] fun e gs => e = .returned (.bool v) ∧ ∃ g', isSlab sb s g' ∧ gs = [g'] := by
  have := slabMine_g hg hn id h0 h1; rwa [E] at this
theorem slabSlot_c {v x : Int} {id : Int} (e1 : s.slot id = v) (e2 : s.serr id = x) (hg : isSlab sb s g) (hn : s.recs.length ≤ 64) (h0 : 0 ≤ id) (h1 : id < 18446744073709551616) : DoesG Tryz.prog 165 #[ptr sb, .int .u64 id] [g] fun e gs => e = .returned (.tuple #[.int .i64 v, .int .i64 x]) ∧ ∃ g', isSlab sb s g' ∧ gs = [g'] := by
  have := slabSlot_g hg hn id h0 h1; rwa [e1, e2] at this
theorem slabTry_c {v x : Int} {k old ev : Int} (E : s.try k old ev = (s', v, x)) (hg : isSlab sb s g) (hn : s.recs.length ≤ 64) (h0 : 0 ≤ old) (h1 : old < 18446744073709551616) :
    DoesG Tryz.prog 170 #[ptr sb, .int .i64 k, .int .u64 old, .int .i64 ev] [g] fun e gs => e = .returned (.tuple #[.int .u64 v, .int .i64 x]) ∧ ∃ g', isSlab sb s' g' ∧ gs = [g'] := by
  have := slabTry_g hg hn k old ev h0 h1
  rwa [E] at this
theorem slabDrop_c {x : Int} (E : s.drop = (s', x)) (hg : isSlab sb s g) (h0 : 0 ≤ s.count) (h1 : s.count ≤ 64) : DoesG Tryz.prog 192 #[ptr sb] [g] fun e gs => e = .returned (.int .i64 x) ∧ ∃ g', isSlab sb s' g' ∧ gs = [g'] := by
  have := slabDrop_g hg h0 h1
  rwa [E] at this
end

end Go.Proofs.YthbjaoinklhikaaGreat

namespace Go.Proofs.YthbjaoinklhikaaGreat
set_option linter.unusedVariables false
set_option linter.unusedSimpArgs false

/-! ## What stands of a slab, whatever is done (plain) -/
/-- what comes of a word by an event that may happen -/
theorem nextW_ok {n e : Int} {p : Bool} (h0 : 0 ≤ n) (h1 : n < 18446744073709551616) (hk : okW n = true) (hx : (nextW n e p).2 = 0) :
    1 ≤ e ∧ e ≤ 10 ∧ (toW (stW n) e (p && !lastW n)).2.2 = true ∧ okW (nextW n e p).1 = true ∧
      stW (nextW n e p).1 = (toW (stW n) e (p && !lastW n)).1 ∧ genW (nextW n e p).1 = genW n + (toW (stW n) e (p && !lastW n)).2.1 ∧
      lastW (nextW n e p).1 = (if e = 7 then true else if e = 1 ∨ e = 10 then false else lastW n) ∧ 0 ≤ (nextW n e p).1 ∧ (nextW n e p).1 < 18446744073709551616 ∧ genW n ≤ genW (nextW n e p).1 := by
  rcases nextW_cases n e p h0 h1 hk with ⟨_, h | h | h⟩ | ⟨_, a, b, c, d, f, g, i, j, k⟩
  · omega
  · omega
  · omega
  · have hb := ok_bd n h0 hk
    have hf := toW_fits (stW n) e (p && !lastW n) hb.1 hb.2.1
    exact ⟨a, b, c, d, f, g, i, j, k, by rw [g]; have := hf.2.2.1; omega⟩
theorem toW_one (s : Int) (again : Bool) : toW s 1 again = (1, 1, (s == 0)) := rfl
/-- of a free record an allocation comes about, if the generation may grow -/
theorem alloc_free {n : Int} {p : Bool} (h0 : 0 ≤ n) (h1 : n < 18446744073709551616) (hk : okW n = true) (hs : stW n = 0) (hg : genW n < 4294967295) : nextW n 1 p = (packW 1 (genW n + 1) false, 0) := by
  unfold nextW
  rw [if_neg (by simp [hk]), if_neg (by omega)]
  simp only [toW_one, hs]
  rw [if_neg (by simp), if_neg (by omega)]
  simp
theorem alloc_busy {n : Int} {p : Bool} (h0 : 0 ≤ n) (h1 : n < 18446744073709551616) (hk : okW n = true) (hs : stW n ≠ 0) : nextW n 1 p = (n, 7) := by
  unfold nextW
  rw [if_neg (by simp [hk]), if_neg (by omega)]
  simp only [toW_one]
  rw [if_pos (by simpa using hs)]

theorem RecOk.zero : RecOk Rec.zero := ⟨by decide, by decide, by decide, by decide, by decide, by decide, by decide⟩
theorem newSlab_ok {n : Nat} (h1 : 1 ≤ n) (h2 : n ≤ 64) : SlabOk (newSlab n) :=
  ⟨by simp [newSlab]; omega, by simp [newSlab]; omega, by simp [newSlab], by simp [newSlab], fun r hr => by simp [newSlab] at hr; rw [hr.2]; exact RecOk.zero⟩
theorem SlabOk.set {s : SlabS} (hs : SlabOk s) {k : Nat} {r : Rec} (hr : RecOk r) : SlabOk { s with recs := s.recs.set k r } :=
  ⟨by simpa using hs.n0, by simpa using hs.n1, hs.c0, by simpa using hs.c1, fun x hx => by
    rcases List.mem_or_eq_of_mem_set hx with h | rfl
    · exact hs.recs x h
    · exact hr⟩
theorem SlabOk.getD {s : SlabS} (hs : SlabOk s) (k : Nat) : RecOk (s.recs.getD k Rec.zero) := by
  rw [List.getD_eq_getElem?_getD]
  cases h : s.recs[k]? with
  | none => exact RecOk.zero
  | some r => exact hs.recs r (List.mem_of_getElem? h)
theorem stepR_ok {s : SlabS} {q : Req} (hs : SlabOk s) (hq : ReqOk s.recs.length q) : SlabOk (stepR s q).1 ∧ ReqOk s.recs.length (stepR s q).2 ∧ (stepR s q).1.recs.length = s.recs.length := by
  unfold stepR
  by_cases h0 : q.st ≠ 0
  · rw [if_pos h0]; exact ⟨hs, hq, rfl⟩
  rw [if_neg h0]
  by_cases h1 : q.next = 0
  · rw [if_pos h1]
    refine ⟨hs, ?_, rfl⟩
    unfold lookR
    by_cases h : (s.recs.length : Int) ≤ s.count
    · rw [if_pos h]; exact ⟨hq.p0, hq.p1, hq.slot0, hq.slot1, .inl h1⟩
    · rw [if_neg h]; exact ⟨hq.p0, hq.p1, hq.slot0, hq.slot1, .inr (.inl ⟨rfl, hs.c0, show s.count < _ by omega⟩)⟩
  rw [if_neg h1]
  by_cases h2 : q.next = 1
  · rw [if_pos h2]
    have hsaw : 0 ≤ q.saw ∧ q.saw < s.recs.length := by
      rcases hq.next with h | h | h
      · exact absurd h h1
      · exact h.2
      · omega
    unfold moreR
    by_cases h : s.count = q.saw
    · rw [if_pos h]; exact ⟨⟨hs.n0, hs.n1, by show 0 ≤ s.count + 1; omega, show s.count + 1 ≤ (s.recs.length : Int) by omega, hs.recs⟩, ⟨hq.p0, hq.p1, hq.slot0, hq.slot1, .inr (.inr rfl)⟩, rfl⟩
    · rw [if_neg h]; exact ⟨hs, ⟨hq.p0, hq.p1, hq.slot0, hq.slot1, .inl rfl⟩, rfl⟩
  rw [if_neg h2]
  have hr := hs.getD q.slot.toNat
  have h3 : q.next = 2 := by rcases hq.next with h | h | h <;> omega
  unfold seekR
  by_cases h : (nextW (s.recs.getD q.slot.toNat Rec.zero).w 1 (decide (0 < q.p))).2 = 0
  · simp only [h, if_true]
    obtain ⟨_, _, a, b, c, d, _, e, f, g⟩ := nextW_ok hr.w0 hr.w1 hr.ok h
    refine ⟨hs.set ⟨e, f, b, by have := hr.g0; show 0 ≤ _ + 1; omega, ?_, hq.p0, hq.p1⟩, ⟨hq.p0, hq.p1, hq.slot0, hq.slot1, .inr (.inr h3)⟩, by simp⟩
    show _ + 1 ≤ _
    rw [d]
    have := hr.g1
    simp only [toW_one]
    omega
  · simp only [h, if_false]
    have hn := hs.n0
    exact ⟨hs, ⟨hq.p0, hq.p1, Int.emod_nonneg _ (by omega), Int.emod_lt_of_pos _ (by omega), .inr (.inr h3)⟩, trivial⟩
theorem try_ok {s : SlabS} (hs : SlabOk s) (k old ev : Int) : SlabOk (s.try k old ev).1 ∧ (s.try k old ev).1.recs.length = s.recs.length := by
  unfold SlabS.try
  by_cases h : s.has k
  · rw [if_pos h]
    have hr := hs.getD k.toNat
    simp only []
    by_cases h1 : (nextW old ev (decide (0 < (s.recs.getD k.toNat Rec.zero).p))).2 ≠ 0
    · rw [if_pos h1]; exact ⟨hs, rfl⟩
    rw [if_neg h1]
    by_cases h2 : (s.recs.getD k.toNat Rec.zero).w = old
    · rw [if_pos h2]
      have h3 : (nextW (s.recs.getD k.toNat Rec.zero).w ev (decide (0 < (s.recs.getD k.toNat Rec.zero).p))).2 = 0 := by rw [h2]; exact Decidable.not_not.1 h1
      obtain ⟨_, _, a, b, c, d, _, e, f, g⟩ := nextW_ok hr.w0 hr.w1 hr.ok h3
      rw [h2] at b e f g
      exact ⟨hs.set ⟨e, f, b, hr.g0, by have h9 := hr.g1; rw [h2] at h9; exact Int.le_trans h9 g, hr.p0, hr.p1⟩, by simp⟩
    · rw [if_neg h2]; exact ⟨hs, rfl⟩
  · rw [if_neg h]; exact ⟨hs, rfl⟩
theorem drop_ok {s : SlabS} (hs : SlabOk s) : SlabOk s.drop.1 ∧ s.drop.1.recs.length = s.recs.length := by
  unfold SlabS.drop
  by_cases h : 0 < s.count
  · rw [if_pos h]; exact ⟨⟨hs.n0, hs.n1, by show 0 ≤ s.count - 1; omega, by have := hs.c1; show s.count - 1 ≤ (s.recs.length : Int); omega, hs.recs⟩, rfl⟩
  · rw [if_neg h]; exact ⟨hs, rfl⟩
theorem word_ok {s : SlabS} (hs : SlabOk s) (k : Int) : 0 ≤ s.word k ∧ s.word k < 18446744073709551616 ∧ okW (s.word k) = true := by
  unfold SlabS.word
  by_cases h : s.has k
  · rw [if_pos h]; have hr := hs.getD k.toNat; exact ⟨hr.w0, hr.w1, hr.ok⟩
  · rw [if_neg h]; exact ⟨by decide, by decide, by decide⟩
/-- a request that begins -/
def newReq (p : Int) : Req := ⟨p, 0, 0, 0, 0, 0⟩
theorem newReq_ok {n : Nat} (hn : 1 ≤ n) {p : Int} (h0 : 0 ≤ p) (h1 : p < 18446744073709551616) : ReqOk n (newReq p) := ⟨h0, h1, Int.le_refl _, by show (0 : Int) < n; omega, .inl rfl⟩
end Go.Proofs.YthbjaoinklhikaaGreat
