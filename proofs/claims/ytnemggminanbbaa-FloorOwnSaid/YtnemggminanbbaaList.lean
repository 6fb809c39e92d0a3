import Derived.Test.YtnemggminanbbaaStage
import Derived.Test.YtnemggminanbbaaFloorE
namespace Go.Proofs.Ytnemggminanbbaa
set_option linter.unusedVariables false
set_option linter.unusedSimpArgs false
open Go.RowKit Go.Shelf

/-! ## A list in the heap: its header, its home, its nodes, each with the cells of its value ahead -/
structure Nd where
  b : Nat
  v : List Value
def nxV (q : Value) : List Nd → Value
  | [] => q
  | a :: _ => ptr' a.b
def lsV (p : Value) : List Nd → Value
  | [] => p
  | a :: l => lsV (ptr' a.b) l
def nodesB (T : TypeId) (hb : Nat) : Value → Value → List Nd → List Blk
  | _, _, [] => []
  | p, q, a :: l => cl a.b T (a.v ++ [p, nxV q l, ptr' hb]).toArray :: nodesB T hb (ptr' a.b) q l
@[simp] theorem nxV_nil (q : Value) : nxV q [] = q := rfl
@[simp] theorem nxV_cons (q : Value) (a : Nd) (l : List Nd) : nxV q (a :: l) = ptr' a.b := rfl
theorem nxV_append (q : Value) (l m : List Nd) : nxV q (l ++ m) = nxV (nxV q m) l := by cases l <;> rfl
theorem lsV_append (p : Value) (l m : List Nd) : lsV p (l ++ m) = lsV (lsV p l) m := by
  induction l generalizing p with
  | nil => rfl
  | cons a l ih => exact ih _
theorem nodesB_append (T : TypeId) (hb : Nat) (p q : Value) (l m : List Nd) : nodesB T hb p q (l ++ m) = nodesB T hb p (nxV q m) l ++ nodesB T hb (lsV p l) q m := by
  induction l generalizing p with
  | nil => rfl
  | cons a l ih =>
    simp only [List.cons_append, nodesB, lsV]
    rw [ih, nxV_append]
theorem lsV_snoc (p : Value) (l : List Nd) (y : Nd) : lsV p (l ++ [y]) = ptr' y.b := by rw [lsV_append]; rfl
/-- a list's last one, if there is one -/
theorem nd_snoc (l : List Nd) : l = [] ∨ ∃ m y, l = m ++ [y] := by
  rcases List.eq_nil_or_concat l with h | ⟨m, y, h⟩
  · exact .inl h
  · exact .inr ⟨m, y, by rw [h, List.concat_eq_append]⟩
def isListT (LT NT : TypeId) (K : Nat) (lb hb : Nat) (l : List Nd) (g : List Blk) : Prop :=
  (∀ a ∈ l, a.v.length = K) ∧ g = cl lb LT #[nxV (.pointer none) l, lsV (.pointer none) l, .int .i64 l.length, ptr' hb] :: cl hb 179 #[.pointer none] :: nodesB NT hb (.pointer none) (.pointer none) l
def isListE (lb hb : Nat) (l : List Nd) (g : List Blk) : Prop := isListT 205 238 1 lb hb l g
theorem listNewE_g : DoesG Try.prog 87 #[] [] fun e gs => ∃ lb hb g, e = .returned (ptr' lb) ∧ isListE lb hb [] g ∧ gs = [g] := by
  intro w hw
  have T0 := TG.refl hw
  have HT := Lib.hid T0
  clear hw T0
  go_enter Try.func87, Try.ntmps87
  go_wp2
  go_ret
  exact ⟨_, ⟨_, _, _, rfl, ⟨(by intro a h; cases h), rfl⟩, rfl⟩, ((HT.out.alloc rfl _ _).alloc rfl _ _).re (by simp [nodesB, nxV, lsV]; exact List.Perm.swap _ _ _)⟩
section
variable {lb hb : Nat} {l : List Nd} {g : List Blk}
end
def isListF (lb hb : Nat) (l : List Nd) (g : List Blk) : Prop := isListT 173 175 4 lb hb l g
theorem listNewF_g : DoesG Try.prog 73 #[] [] fun e gs => ∃ lb hb g, e = .returned (ptr' lb) ∧ isListF lb hb [] g ∧ gs = [g] := by
  intro w hw
  have T0 := TG.refl hw
  have HT := Lib.hid T0
  clear hw T0
  go_enter Try.func73, Try.ntmps73
  go_wp2
  go_ret
  exact ⟨_, ⟨_, _, _, rfl, ⟨(by intro a h; cases h), rfl⟩, rfl⟩, ((HT.out.alloc rfl _ _).alloc rfl _ _).re (by simp [nodesB, nxV, lsV]; exact List.Perm.swap _ _ _)⟩
section
variable {lb hb : Nat} {l : List Nd} {g : List Blk}
theorem listLenF_r (hg : isListF lb hb l g) : ReadsG Try.prog 57 #[ptr' lb] [g] (.int .i64 l.length) := by
  obtain ⟨_, rfl⟩ := hg
  intro w hw
  have T0 := TG.refl hw
  have HT := Lib.hid T0
  clear hw T0
  have c2 := HT.out.cell 0 0 rfl 2
  simp only [List.getElem?_toArray, List.getElem?_cons_zero, List.getElem?_cons_succ] at c2
  go_enter Try.func57, Try.ntmps57
  go_wp2
  go_ret
  exact ⟨rfl, 0, rfl⟩
set_option maxRecDepth 100000 in
theorem listPutF_g (hg : isListF lb hb l g) (hn : l.length ≤ 1000000000) (nb : Nat) (va vb vc vd p0 q0 : Value) :
    DoesG Try.prog 83 #[ptr' lb, ptr' nb] [g, [cl nb 175 #[va, vb, vc, vd, p0, q0, .pointer none]]] fun e gs => e = .returned (.int .i64 0) ∧ ∃ g', isListF lb hb (l ++ [⟨nb, [va, vb, vc, vd]⟩]) g' ∧ gs = [g'] := by
  obtain ⟨hk, rfl⟩ := hg
  rcases nd_snoc l with rfl | ⟨m, y, rfl⟩
  · intro w hw
    have T0 := TG.refl hw
    have HT := Lib.hid T0
    clear hw T0
    have c0 := HT.out.cell 0 0 rfl 0
    have fc0 := HT.out.free 0 0 rfl 0
    have c1 := HT.out.cell 0 0 rfl 1
    have fc1 := HT.out.free 0 0 rfl 1
    have c2 := HT.out.cell 0 0 rfl 2
    have fc2 := HT.out.free 0 0 rfl 2
    have c3 := HT.out.cell 0 0 rfl 3
    have fc3 := HT.out.free 0 0 rfl 3
    simp only [nxV, lsV, List.length_nil, List.getElem?_toArray, List.getElem?_cons_zero, List.getElem?_cons_succ] at c0 c1 c2 c3
    have d4 := HT.out.cell 1 0 rfl 4
    have fd4 := HT.out.free 1 0 rfl 4
    have d5 := HT.out.cell 1 0 rfl 5
    have fd5 := HT.out.free 1 0 rfl 5
    have d6 := HT.out.cell 1 0 rfl 6
    have fd6 := HT.out.free 1 0 rfl 6
    simp only [nxV, List.getElem?_toArray, List.getElem?_cons_zero, List.getElem?_cons_succ] at d4 d5 d6
    go_enter Try.func83, Try.ntmps83
    go_wp2
    go_region
    have HT := Lib.hid ((((HT.out.set 1 0 rfl 6 (ptr' hb)).set 1 0 rfl 4 (.pointer none)).set 1 0 rfl 5 (.pointer none)).drew)
    clear c0 c1 c2 c3 fc0 fc1 fc2 fc3 d4 d5 d6 fd4 fd5 fd6
    generalize World.drew _ = w1 at HT ⊢
    have c0 := HT.out.cell 0 0 rfl 0
    have fc0 := HT.out.free 0 0 rfl 0
    have c1 := HT.out.cell 0 0 rfl 1
    have fc1 := HT.out.free 0 0 rfl 1
    have c2 := HT.out.cell 0 0 rfl 2
    have fc2 := HT.out.free 0 0 rfl 2
    simp only [nxV, lsV, List.length_nil, List.getElem?_toArray, List.getElem?_cons_zero, List.getElem?_cons_succ] at c0 c1 c2
    go_wp2
    go_ret
    exact ⟨_, ⟨rfl, _, ⟨(by intro a h; simp only [List.nil_append, List.mem_singleton] at h; subst h; rfl), rfl⟩, rfl⟩, (((HT.out.set 0 0 rfl 0 _).set 0 0 rfl 1 _).set 0 0 rfl 2 _).eq rfl⟩
  · obtain ⟨b, v⟩ := y
    have hv : v.length = 4 := hk ⟨b, v⟩ (by simp)
    obtain ⟨y0, y1, y2, y3, rfl⟩ : ∃ y0 y1 y2 y3, v = [y0, y1, y2, y3] := by
      match v, hv with
      | [y0, y1, y2, y3], _ => exact ⟨y0, y1, y2, y3, rfl⟩
    have hk2 : ∀ a ∈ (m ++ [(⟨b, [y0, y1, y2, y3]⟩ : Nd)]) ++ [⟨nb, [va, vb, vc, vd]⟩], a.v.length = 4 := by
      intro a h
      rcases List.mem_append.1 h with h | h
      · exact hk a h
      · simp only [List.mem_singleton] at h; subst h; rfl
    have HK := Lib.hid hk2
    clear hk2
    intro w hw
    have T0 := TG.refl hw
    have HT := Lib.hid T0
    clear hw T0
    have HL := Lib.hid hn
    have T1 := HT.out.sum (H' := [[cl lb 173 #[nxV (.pointer none) (m ++ [⟨b, [y0, y1, y2, y3]⟩]), ptr' b, (.int .i64 ((m.length + 1 : Nat) : Int)), ptr' hb]], [cl hb 179 #[.pointer none]], nodesB 175 hb (.pointer none) (ptr' b) m, [cl b 175 #[y0, y1, y2, y3, lsV (.pointer none) m, .pointer none, ptr' hb]], [cl nb 175 #[va, vb, vc, vd, p0, q0, .pointer none]]]) (fun n ha h0 h1 h2 => by rw [nodesB_append]; simp only [List.length_append, List.length_cons, List.length_nil, Nat.zero_add, lsV_snoc, nodesB, nxV_nil, nxV_cons, List.cons_append, List.nil_append, List.flatten_cons, List.flatten_nil, List.append_nil, ha, h0, h1, h2] <;> omega)
    have HT := Lib.hid T1
    clear hk hn hv T1
    have c0 := HT.out.cell 0 0 rfl 0
    have c1 := HT.out.cell 0 0 rfl 1
    have fc1 := HT.out.free 0 0 rfl 1
    have c2 := HT.out.cell 0 0 rfl 2
    have fc2 := HT.out.free 0 0 rfl 2
    have c3 := HT.out.cell 0 0 rfl 3
    simp only [nxV, List.getElem?_toArray, List.getElem?_cons_zero, List.getElem?_cons_succ] at c0 c1 c2 c3
    have d4 := HT.out.cell 4 0 rfl 4
    have fd4 := HT.out.free 4 0 rfl 4
    have d5 := HT.out.cell 4 0 rfl 5
    have fd5 := HT.out.free 4 0 rfl 5
    have d6 := HT.out.cell 4 0 rfl 6
    have fd6 := HT.out.free 4 0 rfl 6
    simp only [nxV, List.getElem?_toArray, List.getElem?_cons_zero, List.getElem?_cons_succ] at d4 d5 d6
    have e5 := HT.out.cell 3 0 rfl 5
    have fe5 := HT.out.free 3 0 rfl 5
    simp only [nxV, List.getElem?_toArray, List.getElem?_cons_zero, List.getElem?_cons_succ] at e5
    have hlb : m.length + 1 ≤ 1000000000 := by have := HL.out; simpa using this
    go_enter Try.func83, Try.ntmps83
    go_wp2
    go_region
    have HT := Lib.hid ((((HT.out.set 4 0 rfl 6 (ptr' hb)).set 4 0 rfl 4 (ptr' b)).set 4 0 rfl 5 (.pointer none)).drew)
    clear c0 c1 c2 c3 fc1 fc2 d4 d5 d6 fd4 fd5 fd6
    generalize World.drew _ = w1 at HT ⊢
    have c1 := HT.out.cell 0 0 rfl 1
    have fc1 := HT.out.free 0 0 rfl 1
    have c2 := HT.out.cell 0 0 rfl 2
    have fc2 := HT.out.free 0 0 rfl 2
    simp only [nxV, List.getElem?_toArray, List.getElem?_cons_zero, List.getElem?_cons_succ] at c1 c2
    have e5 := HT.out.cell 3 0 rfl 5
    have fe5 := HT.out.free 3 0 rfl 5
    simp only [nxV, List.getElem?_toArray, List.getElem?_cons_zero, List.getElem?_cons_succ] at e5
    have ne1 := HT.out.ne 0 0 3 0 (by decide) rfl rfl
    simp only [] at ne1
    have ne2 := Ne.symm ne1
    go_wp2
    go_ret
    exact ⟨_, ⟨rfl, _, ⟨HK.out, rfl⟩, rfl⟩, ((((HT.out.set 3 0 rfl 5 _).set 0 0 rfl 1 _).set 0 0 rfl 2 _).eq (H' := [[cl lb 173 #[nxV (.pointer none) (m ++ [⟨b, [y0, y1, y2, y3]⟩]), ptr' nb, (.int .i64 ((m.length + 1 + 1 : Nat) : Int)), ptr' hb]], [cl hb 179 #[.pointer none]], nodesB 175 hb (.pointer none) (ptr' b) m, [cl b 175 #[y0, y1, y2, y3, lsV (.pointer none) m, ptr' nb, ptr' hb]], [cl nb 175 #[va, vb, vc, vd, ptr' b, .pointer none, ptr' hb]]]) rfl).sum (fun n ha h0 h1 h2 => by rw [nodesB_append, nodesB_append, show nxV (.pointer none) (m ++ [⟨b, [y0, y1, y2, y3]⟩] ++ [⟨nb, [va, vb, vc, vd]⟩]) = nxV (.pointer none) (m ++ [⟨b, [y0, y1, y2, y3]⟩]) from by cases m <;> rfl]; simp only [List.length_append, List.length_cons, List.length_nil, Nat.zero_add, lsV_snoc, lsV_append, lsV, nodesB, nxV_nil, nxV_cons, List.cons_append, List.nil_append, List.flatten_cons, List.flatten_nil, List.append_nil, ha, h0, h1, h2] <;> omega)⟩
end
end Go.Proofs.Ytnemggminanbbaa
