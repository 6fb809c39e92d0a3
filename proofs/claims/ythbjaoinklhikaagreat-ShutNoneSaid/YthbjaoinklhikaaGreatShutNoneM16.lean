import Derived.Test.YthbjaoinklhikaaGreatShutNoneM5
import Derived.Test.YthbjaoinklhikaaGreatShutNoneM15
import Derived.Test.YthbjaoinklhikaaGreatShutNoneM12
namespace Go.Proofs.YthbjaoinklhikaaGreat
set_option linter.unusedVariables false
set_option linter.unusedSimpArgs false
open Go.RowKit Go.Shelf

/-! ## A list in the heap: its header, its home, its nodes, each with the cells of its value ahead -/
structure Nd where
  b : Nat
  v : List Value
def nxV (q : Value) : List Nd → Value
  | [] => q
  | a :: _ => ptr' a.b
def lsV (p : Value) : List Nd → Value
  | [] => p
  | a :: l => lsV (ptr' a.b) l
def nodesB (T : TypeId) (hb : Nat) : Value → Value → List Nd → List Blk
  | _, _, [] => []
  | p, q, a :: l => cl a.b T (a.v ++ [p, nxV q l, ptr' hb]).toArray :: nodesB T hb (ptr' a.b) q l
@[simp] theorem nxV_nil (q : Value) : nxV q [] = q := rfl
@[simp] theorem nxV_cons (q : Value) (a : Nd) (l : List Nd) : nxV q (a :: l) = ptr' a.b := rfl
theorem nxV_append (q : Value) (l m : List Nd) : nxV q (l ++ m) = nxV (nxV q m) l := by cases l <;> rfl
theorem lsV_append (p : Value) (l m : List Nd) : lsV p (l ++ m) = lsV (lsV p l) m := by
  induction l generalizing p with
  | nil => rfl
  | cons a l ih => exact ih _
theorem nodesB_append (T : TypeId) (hb : Nat) (p q : Value) (l m : List Nd) : nodesB T hb p q (l ++ m) = nodesB T hb p (nxV q m) l ++ nodesB T hb (lsV p l) q m := by
  induction l generalizing p with
  | nil => rfl
  | cons a l ih =>
    simp only [List.cons_append, nodesB, lsV]
    rw [ih, nxV_append]
theorem lsV_snoc (p : Value) (l : List Nd) (y : Nd) : lsV p (l ++ [y]) = ptr' y.b := by rw [lsV_append]; rfl
/-- a list's last one, if there is one -/
theorem nd_snoc (l : List Nd) : l = [] ∨ ∃ m y, l = m ++ [y] := by
  rcases List.eq_nil_or_concat l with h | ⟨m, y, h⟩
  · exact .inl h
  · exact .inr ⟨m, y, by rw [h, List.concat_eq_append]⟩
def isListT (LT NT : TypeId) (K : Nat) (lb hb : Nat) (l : List Nd) (g : List Blk) : Prop :=
  (∀ a ∈ l, a.v.length = K) ∧ g = cl lb LT #[nxV (.pointer none) l, lsV (.pointer none) l, .int .i64 l.length, ptr' hb] :: cl hb 218 #[.pointer none] :: nodesB NT hb (.pointer none) (.pointer none) l
set_option maxRecDepth 100000 in
theorem homeAt_r (hb : Nat) : ReadsG Tryz.prog 277 #[ptr' hb] [[cl hb 218 #[.pointer none]]] (ptr' hb) := by
  intro w hw
  have T0 := TG.refl hw
  have HT := Lib.hid T0
  clear hw T0
  have c0 := HT.out.cell 0 0 rfl 0
  simp only [List.getElem?_toArray, List.getElem?_cons_zero] at c0
  go_enter Tryz.func277, Tryz.ntmps277
  go_wp2
  go_loopw [0] (fun v wr => v = ptr' hb ∧ wr = w) (fun _ _ => 0)
  case atStart => exact ⟨rfl, rfl⟩
  case round =>
    obtain ⟨rfl, rfl⟩ := hrel
    go_wp2
    go_ret
    exact ⟨rfl, 0, rfl⟩
def isListE (lb hb : Nat) (l : List Nd) (g : List Blk) : Prop := isListT 239 289 1 lb hb l g
theorem listNewE_g : DoesG Tryz.prog 139 #[] [] fun e gs => ∃ lb hb g, e = .returned (ptr' lb) ∧ isListE lb hb [] g ∧ gs = [g] := by
  intro w hw
  have T0 := TG.refl hw
  have HT := Lib.hid T0
  clear hw T0
  go_enter Tryz.func139, Tryz.ntmps139
  go_wp2
  go_ret
  exact ⟨_, ⟨_, _, _, rfl, ⟨(by intro a h; cases h), rfl⟩, rfl⟩, ((HT.out.alloc rfl _ _).alloc rfl _ _).re (by simp [nodesB, nxV, lsV]; exact List.Perm.swap _ _ _)⟩
section
variable {lb hb : Nat} {l : List Nd} {g : List Blk}
theorem listLenE_r (hg : isListE lb hb l g) : ReadsG Tryz.prog 270 #[ptr' lb] [g] (.int .i64 l.length) := by
  obtain ⟨_, rfl⟩ := hg
  intro w hw
  have T0 := TG.refl hw
  have HT := Lib.hid T0
  clear hw T0
  have c2 := HT.out.cell 0 0 rfl 2
  simp only [List.getElem?_toArray, List.getElem?_cons_zero, List.getElem?_cons_succ] at c2
  go_enter Tryz.func270, Tryz.ntmps270
  go_wp2
  go_ret
  exact ⟨rfl, 0, rfl⟩
theorem listFirstE_r (hg : isListE lb hb l g) : ReadsG Tryz.prog 257 #[ptr' lb] [g] (nxV (.pointer none) l) := by
  obtain ⟨_, rfl⟩ := hg
  obtain ⟨v, hv⟩ : ∃ v, nxV (.pointer none) l = v := ⟨_, rfl⟩
  rw [hv]
  have hp : ∃ o, v = .pointer o := by subst hv; cases l <;> exact ⟨_, rfl⟩
  obtain ⟨o, rfl⟩ := hp
  intro w hw
  have T0 := TG.refl hw
  have HT := Lib.hid T0
  clear hw T0
  have c0 := HT.out.cell 0 0 rfl 0
  simp only [List.getElem?_toArray, List.getElem?_cons_zero, List.getElem?_cons_succ] at c0
  clear hv
  go_enter Tryz.func257, Tryz.ntmps257
  go_wp2
  go_ret
  exact ⟨rfl, 0, rfl⟩
set_option maxRecDepth 100000 in
theorem listPutE_g (hg : isListE lb hb l g) (hn : l.length ≤ 1000000000) (nb : Nat) (ve p0 q0 : Value) :
    DoesG Tryz.prog 254 #[ptr' lb, ptr' nb] [g, [cl nb 289 #[ve, p0, q0, .pointer none]]] fun e gs => e = .returned (.int .i64 0) ∧ ∃ g', isListE lb hb (l ++ [⟨nb, [ve]⟩]) g' ∧ gs = [g'] := by
  obtain ⟨hk, rfl⟩ := hg
  rcases nd_snoc l with rfl | ⟨m, y, rfl⟩
  · intro w hw
    have T0 := TG.refl hw
    have HT := Lib.hid T0
    clear hw T0
    have c0 := HT.out.cell 0 0 rfl 0
    have fc0 := HT.out.free 0 0 rfl 0
    have c1 := HT.out.cell 0 0 rfl 1
    have fc1 := HT.out.free 0 0 rfl 1
    have c2 := HT.out.cell 0 0 rfl 2
    have fc2 := HT.out.free 0 0 rfl 2
    have c3 := HT.out.cell 0 0 rfl 3
    have fc3 := HT.out.free 0 0 rfl 3
    simp only [nxV, lsV, List.length_nil, List.getElem?_toArray, List.getElem?_cons_zero, List.getElem?_cons_succ] at c0 c1 c2 c3
    have d1 := HT.out.cell 1 0 rfl 1
    have fd1 := HT.out.free 1 0 rfl 1
    have d2 := HT.out.cell 1 0 rfl 2
    have fd2 := HT.out.free 1 0 rfl 2
    have d3 := HT.out.cell 1 0 rfl 3
    have fd3 := HT.out.free 1 0 rfl 3
    simp only [nxV, List.getElem?_toArray, List.getElem?_cons_zero, List.getElem?_cons_succ] at d1 d2 d3
    go_enter Tryz.func254, Tryz.ntmps254
    go_wp2
    go_region
    have HT := Lib.hid ((((HT.out.set 1 0 rfl 3 (ptr' hb)).set 1 0 rfl 1 (.pointer none)).set 1 0 rfl 2 (.pointer none)).drew)
    clear c0 c1 c2 c3 fc0 fc1 fc2 fc3 d1 d2 d3 fd1 fd2 fd3
    generalize World.drew _ = w1 at HT ⊢
    have c0 := HT.out.cell 0 0 rfl 0
    have fc0 := HT.out.free 0 0 rfl 0
    have c1 := HT.out.cell 0 0 rfl 1
    have fc1 := HT.out.free 0 0 rfl 1
    have c2 := HT.out.cell 0 0 rfl 2
    have fc2 := HT.out.free 0 0 rfl 2
    simp only [nxV, lsV, List.length_nil, List.getElem?_toArray, List.getElem?_cons_zero, List.getElem?_cons_succ] at c0 c1 c2
    go_wp2
    go_ret
    exact ⟨_, ⟨rfl, _, ⟨(by intro a h; simp only [List.nil_append, List.mem_singleton] at h; subst h; rfl), rfl⟩, rfl⟩, (((HT.out.set 0 0 rfl 0 _).set 0 0 rfl 1 _).set 0 0 rfl 2 _).eq rfl⟩
  · obtain ⟨b, v⟩ := y
    have hv : v.length = 1 := hk ⟨b, v⟩ (by simp)
    obtain ⟨y0, rfl⟩ : ∃ y0, v = [y0] := by
      match v, hv with
      | [y0], _ => exact ⟨y0, rfl⟩
    have hk2 : ∀ a ∈ (m ++ [(⟨b, [y0]⟩ : Nd)]) ++ [⟨nb, [ve]⟩], a.v.length = 1 := by
      intro a h
      rcases List.mem_append.1 h with h | h
      · exact hk a h
      · simp only [List.mem_singleton] at h; subst h; rfl
    have HK := Lib.hid hk2
    clear hk2
    intro w hw
    have T0 := TG.refl hw
    have HT := Lib.hid T0
    clear hw T0
    have HL := Lib.hid hn
    have T1 := HT.out.sum (H' := [[cl lb 239 #[nxV (.pointer none) (m ++ [⟨b, [y0]⟩]), ptr' b, (.int .i64 ((m.length + 1 : Nat) : Int)), ptr' hb]], [cl hb 218 #[.pointer none]], nodesB 289 hb (.pointer none) (ptr' b) m, [cl b 289 #[y0, lsV (.pointer none) m, .pointer none, ptr' hb]], [cl nb 289 #[ve, p0, q0, .pointer none]]]) (fun n ha h0 h1 h2 => by rw [nodesB_append]; simp only [List.length_append, List.length_cons, List.length_nil, Nat.zero_add, lsV_snoc, nodesB, nxV_nil, nxV_cons, List.cons_append, List.nil_append, List.flatten_cons, List.flatten_nil, List.append_nil, ha, h0, h1, h2] <;> omega)
    have HT := Lib.hid T1
    clear hk hn hv T1
    have c0 := HT.out.cell 0 0 rfl 0
    have c1 := HT.out.cell 0 0 rfl 1
    have fc1 := HT.out.free 0 0 rfl 1
    have c2 := HT.out.cell 0 0 rfl 2
    have fc2 := HT.out.free 0 0 rfl 2
    have c3 := HT.out.cell 0 0 rfl 3
    simp only [nxV, List.getElem?_toArray, List.getElem?_cons_zero, List.getElem?_cons_succ] at c0 c1 c2 c3
    have d1 := HT.out.cell 4 0 rfl 1
    have fd1 := HT.out.free 4 0 rfl 1
    have d2 := HT.out.cell 4 0 rfl 2
    have fd2 := HT.out.free 4 0 rfl 2
    have d3 := HT.out.cell 4 0 rfl 3
    have fd3 := HT.out.free 4 0 rfl 3
    simp only [nxV, List.getElem?_toArray, List.getElem?_cons_zero, List.getElem?_cons_succ] at d1 d2 d3
    have e2 := HT.out.cell 3 0 rfl 2
    have fe2 := HT.out.free 3 0 rfl 2
    simp only [nxV, List.getElem?_toArray, List.getElem?_cons_zero, List.getElem?_cons_succ] at e2
    have hlb : m.length + 1 ≤ 1000000000 := by have := HL.out; simpa using this
    go_enter Tryz.func254, Tryz.ntmps254
    go_wp2
    go_region
    have HT := Lib.hid ((((HT.out.set 4 0 rfl 3 (ptr' hb)).set 4 0 rfl 1 (ptr' b)).set 4 0 rfl 2 (.pointer none)).drew)
    clear c0 c1 c2 c3 fc1 fc2 d1 d2 d3 fd1 fd2 fd3
    generalize World.drew _ = w1 at HT ⊢
    have c1 := HT.out.cell 0 0 rfl 1
    have fc1 := HT.out.free 0 0 rfl 1
    have c2 := HT.out.cell 0 0 rfl 2
    have fc2 := HT.out.free 0 0 rfl 2
    simp only [nxV, List.getElem?_toArray, List.getElem?_cons_zero, List.getElem?_cons_succ] at c1 c2
    have e2 := HT.out.cell 3 0 rfl 2
    have fe2 := HT.out.free 3 0 rfl 2
    simp only [nxV, List.getElem?_toArray, List.getElem?_cons_zero, List.getElem?_cons_succ] at e2
    have ne1 := HT.out.ne 0 0 3 0 (by decide) rfl rfl
    simp only [] at ne1
    have ne2 := Ne.symm ne1
    go_wp2
    go_ret
    exact ⟨_, ⟨rfl, _, ⟨HK.out, rfl⟩, rfl⟩, ((((HT.out.set 3 0 rfl 2 _).set 0 0 rfl 1 _).set 0 0 rfl 2 _).eq (H' := [[cl lb 239 #[nxV (.pointer none) (m ++ [⟨b, [y0]⟩]), ptr' nb, (.int .i64 ((m.length + 1 + 1 : Nat) : Int)), ptr' hb]], [cl hb 218 #[.pointer none]], nodesB 289 hb (.pointer none) (ptr' b) m, [cl b 289 #[y0, lsV (.pointer none) m, ptr' nb, ptr' hb]], [cl nb 289 #[ve, ptr' b, .pointer none, ptr' hb]]]) rfl).sum (fun n ha h0 h1 h2 => by rw [nodesB_append, nodesB_append, show nxV (.pointer none) (m ++ [⟨b, [y0]⟩] ++ [⟨nb, [ve]⟩]) = nxV (.pointer none) (m ++ [⟨b, [y0]⟩]) from by cases m <;> rfl]; simp only [List.length_append, List.length_cons, List.length_nil, Nat.zero_add, lsV_snoc, lsV_append, lsV, nodesB, nxV_nil, nxV_cons, List.cons_append, List.nil_append, List.flatten_cons, List.flatten_nil, List.append_nil, ha, h0, h1, h2] <;> omega)⟩
end
def isListF (lb hb : Nat) (l : List Nd) (g : List Blk) : Prop := isListT 207 248 4 lb hb l g
theorem listNewF_g : DoesG Tryz.prog 110 #[] [] fun e gs => ∃ lb hb g, e = .returned (ptr' lb) ∧ isListF lb hb [] g ∧ gs = [g] := by
  intro w hw
  have T0 := TG.refl hw
  have HT := Lib.hid T0
  clear hw T0
  go_enter Tryz.func110, Tryz.ntmps110
  go_wp2
  go_ret
  exact ⟨_, ⟨_, _, _, rfl, ⟨(by intro a h; cases h), rfl⟩, rfl⟩, ((HT.out.alloc rfl _ _).alloc rfl _ _).re (by simp [nodesB, nxV, lsV]; exact List.Perm.swap _ _ _)⟩
section
variable {lb hb : Nat} {l : List Nd} {g : List Blk}
theorem listLenF_r (hg : isListF lb hb l g) : ReadsG Tryz.prog 98 #[ptr' lb] [g] (.int .i64 l.length) := by
  obtain ⟨_, rfl⟩ := hg
  intro w hw
  have T0 := TG.refl hw
  have HT := Lib.hid T0
  clear hw T0
  have c2 := HT.out.cell 0 0 rfl 2
  simp only [List.getElem?_toArray, List.getElem?_cons_zero, List.getElem?_cons_succ] at c2
  go_enter Tryz.func98, Tryz.ntmps98
  go_wp2
  go_ret
  exact ⟨rfl, 0, rfl⟩
set_option maxRecDepth 100000 in
theorem listPutF_g (hg : isListF lb hb l g) (hn : l.length ≤ 1000000000) (nb : Nat) (va vb vc vd p0 q0 : Value) :
    DoesG Tryz.prog 279 #[ptr' lb, ptr' nb] [g, [cl nb 248 #[va, vb, vc, vd, p0, q0, .pointer none]]] fun e gs => e = .returned (.int .i64 0) ∧ ∃ g', isListF lb hb (l ++ [⟨nb, [va, vb, vc, vd]⟩]) g' ∧ gs = [g'] := by
  obtain ⟨hk, rfl⟩ := hg
  rcases nd_snoc l with rfl | ⟨m, y, rfl⟩
  · intro w hw
    have T0 := TG.refl hw
    have HT := Lib.hid T0
    clear hw T0
    have c0 := HT.out.cell 0 0 rfl 0
    have fc0 := HT.out.free 0 0 rfl 0
    have c1 := HT.out.cell 0 0 rfl 1
    have fc1 := HT.out.free 0 0 rfl 1
    have c2 := HT.out.cell 0 0 rfl 2
    have fc2 := HT.out.free 0 0 rfl 2
    have c3 := HT.out.cell 0 0 rfl 3
    have fc3 := HT.out.free 0 0 rfl 3
    simp only [nxV, lsV, List.length_nil, List.getElem?_toArray, List.getElem?_cons_zero, List.getElem?_cons_succ] at c0 c1 c2 c3
    have d4 := HT.out.cell 1 0 rfl 4
    have fd4 := HT.out.free 1 0 rfl 4
    have d5 := HT.out.cell 1 0 rfl 5
    have fd5 := HT.out.free 1 0 rfl 5
    have d6 := HT.out.cell 1 0 rfl 6
    have fd6 := HT.out.free 1 0 rfl 6
    simp only [nxV, List.getElem?_toArray, List.getElem?_cons_zero, List.getElem?_cons_succ] at d4 d5 d6
    go_enter Tryz.func279, Tryz.ntmps279
    go_wp2
    go_region
    have HT := Lib.hid ((((HT.out.set 1 0 rfl 6 (ptr' hb)).set 1 0 rfl 4 (.pointer none)).set 1 0 rfl 5 (.pointer none)).drew)
    clear c0 c1 c2 c3 fc0 fc1 fc2 fc3 d4 d5 d6 fd4 fd5 fd6
    generalize World.drew _ = w1 at HT ⊢
    have c0 := HT.out.cell 0 0 rfl 0
    have fc0 := HT.out.free 0 0 rfl 0
    have c1 := HT.out.cell 0 0 rfl 1
    have fc1 := HT.out.free 0 0 rfl 1
    have c2 := HT.out.cell 0 0 rfl 2
    have fc2 := HT.out.free 0 0 rfl 2
    simp only [nxV, lsV, List.length_nil, List.getElem?_toArray, List.getElem?_cons_zero, List.getElem?_cons_succ] at c0 c1 c2
    go_wp2
    go_ret
    exact ⟨_, ⟨rfl, _, ⟨(by intro a h; simp only [List.nil_append, List.mem_singleton] at h; subst h; rfl), rfl⟩, rfl⟩, (((HT.out.set 0 0 rfl 0 _).set 0 0 rfl 1 _).set 0 0 rfl 2 _).eq rfl⟩
  · obtain ⟨b, v⟩ := y
    have hv : v.length = 4 := hk ⟨b, v⟩ (by simp)
    obtain ⟨y0, y1, y2, y3, rfl⟩ : ∃ y0 y1 y2 y3, v = [y0, y1, y2, y3] := by
      match v, hv with
      | [y0, y1, y2, y3], _ => exact ⟨y0, y1, y2, y3, rfl⟩
    have hk2 : ∀ a ∈ (m ++ [(⟨b, [y0, y1, y2, y3]⟩ : Nd)]) ++ [⟨nb, [va, vb, vc, vd]⟩], a.v.length = 4 := by
      intro a h
      rcases List.mem_append.1 h with h | h
      · exact hk a h
      · simp only [List.mem_singleton] at h; subst h; rfl
    have HK := Lib.hid hk2
    clear hk2
    intro w hw
    have T0 := TG.refl hw
    have HT := Lib.hid T0
    clear hw T0
    have HL := Lib.hid hn
    have T1 := HT.out.sum (H' := [[cl lb 207 #[nxV (.pointer none) (m ++ [⟨b, [y0, y1, y2, y3]⟩]), ptr' b, (.int .i64 ((m.length + 1 : Nat) : Int)), ptr' hb]], [cl hb 218 #[.pointer none]], nodesB 248 hb (.pointer none) (ptr' b) m, [cl b 248 #[y0, y1, y2, y3, lsV (.pointer none) m, .pointer none, ptr' hb]], [cl nb 248 #[va, vb, vc, vd, p0, q0, .pointer none]]]) (fun n ha h0 h1 h2 => by rw [nodesB_append]; simp only [List.length_append, List.length_cons, List.length_nil, Nat.zero_add, lsV_snoc, nodesB, nxV_nil, nxV_cons, List.cons_append, List.nil_append, List.flatten_cons, List.flatten_nil, List.append_nil, ha, h0, h1, h2] <;> omega)
    have HT := Lib.hid T1
    clear hk hn hv T1
    have c0 := HT.out.cell 0 0 rfl 0
    have c1 := HT.out.cell 0 0 rfl 1
    have fc1 := HT.out.free 0 0 rfl 1
    have c2 := HT.out.cell 0 0 rfl 2
    have fc2 := HT.out.free 0 0 rfl 2
    have c3 := HT.out.cell 0 0 rfl 3
    simp only [nxV, List.getElem?_toArray, List.getElem?_cons_zero, List.getElem?_cons_succ] at c0 c1 c2 c3
    have d4 := HT.out.cell 4 0 rfl 4
    have fd4 := HT.out.free 4 0 rfl 4
    have d5 := HT.out.cell 4 0 rfl 5
    have fd5 := HT.out.free 4 0 rfl 5
    have d6 := HT.out.cell 4 0 rfl 6
    have fd6 := HT.out.free 4 0 rfl 6
    simp only [nxV, List.getElem?_toArray, List.getElem?_cons_zero, List.getElem?_cons_succ] at d4 d5 d6
    have e5 := HT.out.cell 3 0 rfl 5
    have fe5 := HT.out.free 3 0 rfl 5
    simp only [nxV, List.getElem?_toArray, List.getElem?_cons_zero, List.getElem?_cons_succ] at e5
    have hlb : m.length + 1 ≤ 1000000000 := by have := HL.out; simpa using this
    go_enter Tryz.func279, Tryz.ntmps279
    go_wp2
    go_region
    have HT := Lib.hid ((((HT.out.set 4 0 rfl 6 (ptr' hb)).set 4 0 rfl 4 (ptr' b)).set 4 0 rfl 5 (.pointer none)).drew)
    clear c0 c1 c2 c3 fc1 fc2 d4 d5 d6 fd4 fd5 fd6
    generalize World.drew _ = w1 at HT ⊢
    have c1 := HT.out.cell 0 0 rfl 1
    have fc1 := HT.out.free 0 0 rfl 1
    have c2 := HT.out.cell 0 0 rfl 2
    have fc2 := HT.out.free 0 0 rfl 2
    simp only [nxV, List.getElem?_toArray, List.getElem?_cons_zero, List.getElem?_cons_succ] at c1 c2
    have e5 := HT.out.cell 3 0 rfl 5
    have fe5 := HT.out.free 3 0 rfl 5
    simp only [nxV, List.getElem?_toArray, List.getElem?_cons_zero, List.getElem?_cons_succ] at e5
    have ne1 := HT.out.ne 0 0 3 0 (by decide) rfl rfl
    simp only [] at ne1
    have ne2 := Ne.symm ne1
    go_wp2
    go_ret
    exact ⟨_, ⟨rfl, _, ⟨HK.out, rfl⟩, rfl⟩, ((((HT.out.set 3 0 rfl 5 _).set 0 0 rfl 1 _).set 0 0 rfl 2 _).eq (H' := [[cl lb 207 #[nxV (.pointer none) (m ++ [⟨b, [y0, y1, y2, y3]⟩]), ptr' nb, (.int .i64 ((m.length + 1 + 1 : Nat) : Int)), ptr' hb]], [cl hb 218 #[.pointer none]], nodesB 248 hb (.pointer none) (ptr' b) m, [cl b 248 #[y0, y1, y2, y3, lsV (.pointer none) m, ptr' nb, ptr' hb]], [cl nb 248 #[va, vb, vc, vd, ptr' b, .pointer none, ptr' hb]]]) rfl).sum (fun n ha h0 h1 h2 => by rw [nodesB_append, nodesB_append, show nxV (.pointer none) (m ++ [⟨b, [y0, y1, y2, y3]⟩] ++ [⟨nb, [va, vb, vc, vd]⟩]) = nxV (.pointer none) (m ++ [⟨b, [y0, y1, y2, y3]⟩]) from by cases m <;> rfl]; simp only [List.length_append, List.length_cons, List.length_nil, Nat.zero_add, lsV_snoc, lsV_append, lsV, nodesB, nxV_nil, nxV_cons, List.cons_append, List.nil_append, List.flatten_cons, List.flatten_nil, List.append_nil, ha, h0, h1, h2] <;> omega)⟩
end
end Go.Proofs.YthbjaoinklhikaaGreat

namespace Go.Proofs.YthbjaoinklhikaaGreat
set_option linter.unusedVariables false
set_option linter.unusedSimpArgs false
open Go.RowKit Go.Shelf

/-! ## The pipe of firings; what a floor tells besides -/
structure FireS where
  id : Int
  gen : Int
  dl : Int
  tick : Int
def FireS.vals (f : FireS) : List Value := [.int .u64 f.id, .int .u64 f.gen, .int .u64 f.dl, .int .u64 f.tick]
structure PipeS where
  room : Nat
  ch : List FireS
  sp : List FireS
  most : Int
  shut : Bool
def newPipe (n : Nat) : PipeS := ⟨n, [], [], 0, false⟩
abbrev pipeB (pb cb lb : Nat) (p : PipeS) : List Blk := [cl pb 163 #[.chan (some cb), ptr' lb, .int .i64 p.most, .bool p.shut]]
def isPipe (pb : Nat) (p : PipeS) (g : List Blk) : Prop := ∃ (cb lb hb a b : Nat) (l : List Nd) (gl : List Blk), isListF lb hb l gl ∧ l.map Nd.v = p.sp.map FireS.vals ∧
  g = pipeB pb cb lb p ++ ([(cb, .chan p.room (p.ch.map fun f => Value.agg f.vals.toArray).toArray false a b false)] ++ gl)
theorem pipe_empty {pb : Nat} {g : List Blk} (h : emptyPipe pb g) : ∃ n, isPipe pb (newPipe n) g := by
  obtain ⟨cb, lb, hb, n, rfl⟩ := h
  exact ⟨n, cb, lb, hb, 0, 0, [], _, ⟨(by intro a h; cases h), rfl⟩, rfl, by simp [noList, nodesB, nxV, lsV, pipeB, newPipe]⟩
theorem len_chan (cb n : Nat) (buf : Array Value) (cz : Bool) (a b : Nat) (w : World) (h : w.heap[cb]? = some (.chan n buf cz a b false)) :
    (Builtin.len_ #[160] 3 #[.chan (some cb)]).run Tryz.prog w = .ok (.int .i64 buf.size) w := by
  have hg : (getObj cb).run Tryz.prog w = .ok (.chan n buf cz a b false) w := by simp [getObj, Sem.run, h]
  simp [Builtin.len_, run_underlying Tryz.underlying160, hg, goInt]
/-- what shutting answers -/
def PipeS.shutE (p : PipeS) : Int := if p.shut then 3 else 0
section
variable {pb : Nat} {p : PipeS} {g : List Blk}
set_option maxRecDepth 100000 in
theorem pipeShut_g (hg : isPipe pb p g) : DoesG Tryz.prog 145 #[ptr' pb] [g] fun e gs => e = .returned (.int .i64 p.shutE) ∧ ∃ g', isPipe pb { p with shut := true } g' ∧ gs = [g'] := by
  obtain ⟨cb, lb, hb, a, b, l, gl, h1, h2, rfl⟩ := hg
  cases hs : p.shut with
  | false =>
    have HE := Lib.hid (show p.shutE = 0 from by unfold PipeS.shutE; rw [hs]; rfl)
    rw [HE.out]
    intro w hw
    have T0 := TG.refl hw
    have HT := Lib.hid T0
    clear hw T0
    have HT := Lib.hid (HT.out.sum (H' := [pipeB pb cb lb p, [(cb, .chan p.room (p.ch.map fun f => Value.agg f.vals.toArray).toArray false a b false)] ++ gl]) (fun n ha h0 h1 h2 => by simp only [pickG, List.map_cons, List.map_nil, List.getD_cons_succ, List.getD_cons_zero, List.set_cons_succ, List.set_cons_zero, List.cons_append, List.flatten_append, List.flatten_cons, List.flatten_nil, List.append_nil, List.nil_append, ha, h0, h1, h2] <;> omega))
    have H1 := Lib.hid h1
    have H2 := Lib.hid h2
    have c3 := HT.out.cell 0 0 rfl 3
    have fc3 := HT.out.free 0 0 rfl 3
    simp only [hs, List.getElem?_toArray, List.getElem?_cons_zero, List.getElem?_cons_succ] at c3
    clear h1 h2 hs
    go_enter Tryz.func145, Tryz.ntmps145
    go_wp2
    go_ret
    exact ⟨_, ⟨rfl, _, ⟨cb, lb, hb, a, b, l, gl, H1.out, H2.out, rfl⟩, rfl⟩, ((HT.out.set 0 0 rfl 3 _).eq (H' := [pipeB pb cb lb { p with shut := true }, [(cb, .chan p.room (p.ch.map fun f => Value.agg f.vals.toArray).toArray false a b false)] ++ gl]) rfl).sum (fun n ha h0 h1 h2 => by simp only [pickG, List.map_cons, List.map_nil, List.getD_cons_succ, List.getD_cons_zero, List.set_cons_succ, List.set_cons_zero, List.cons_append, List.flatten_append, List.flatten_cons, List.flatten_nil, List.append_nil, List.nil_append, ha, h0, h1, h2] <;> omega)⟩
  | true =>
    have hsame : ({ p with shut := true } : PipeS) = p := by rw [← hs]
    rw [hsame]
    have HE := Lib.hid (show p.shutE = 3 from by unfold PipeS.shutE; rw [hs]; rfl)
    rw [HE.out]
    intro w hw
    have T0 := TG.refl hw
    have HT := Lib.hid T0
    clear hw T0
    have HT := Lib.hid (HT.out.sum (H' := [pipeB pb cb lb p, [(cb, .chan p.room (p.ch.map fun f => Value.agg f.vals.toArray).toArray false a b false)] ++ gl]) (fun n ha h0 h1 h2 => by simp only [pickG, List.map_cons, List.map_nil, List.getD_cons_succ, List.getD_cons_zero, List.set_cons_succ, List.set_cons_zero, List.cons_append, List.flatten_append, List.flatten_cons, List.flatten_nil, List.append_nil, List.nil_append, ha, h0, h1, h2] <;> omega))
    have H1 := Lib.hid h1
    have H2 := Lib.hid h2
    have c3 := HT.out.cell 0 0 rfl 3
    simp only [hs, List.getElem?_toArray, List.getElem?_cons_zero, List.getElem?_cons_succ] at c3
    clear h1 h2 hs
    go_enter Tryz.func145, Tryz.ntmps145
    go_wp2
    go_ret
    exact ⟨_, ⟨rfl, _, ⟨cb, lb, hb, a, b, l, gl, H1.out, H2.out, rfl⟩, rfl⟩, HT.out.sum (fun n ha h0 h1 h2 => by simp only [pickG, List.map_cons, List.map_nil, List.getD_cons_succ, List.getD_cons_zero, List.set_cons_succ, List.set_cons_zero, List.cons_append, List.flatten_append, List.flatten_cons, List.flatten_nil, List.append_nil, List.nil_append, ha, h0, h1, h2] <;> omega)⟩
set_option maxRecDepth 100000 in
theorem pipeClosed_r (hg : isPipe pb p g) : ReadsG Tryz.prog 177 #[ptr' pb] [g] (.bool (p.shut && decide (p.ch = []))) := by
  obtain ⟨cb, lb, hb, a, b, l, gl, h1, h2, rfl⟩ := hg
  intro w hw
  have T0 := TG.refl hw
  have HT := Lib.hid T0
  clear hw T0
  have HT := Lib.hid (HT.out.sum (H' := [pipeB pb cb lb p, [(cb, .chan p.room (p.ch.map fun f => Value.agg f.vals.toArray).toArray false a b false)] ++ gl]) (fun n ha h0 h1 h2 => by simp only [pickG, List.map_cons, List.map_nil, List.getD_cons_succ, List.getD_cons_zero, List.set_cons_succ, List.set_cons_zero, List.cons_append, List.flatten_append, List.flatten_cons, List.flatten_nil, List.append_nil, List.nil_append, ha, h0, h1, h2] <;> omega))
  have b1 := HT.out.obj 1 0 rfl
  simp only [] at b1
  have hlc := len_chan cb p.room _ false a b w b1
  simp only [List.size_toArray, List.length_map] at hlc
  have hz : ((p.ch.length : Int) == 0) = decide (p.ch = []) := by cases p.ch <;> simp <;> omega
  clear h1 h2
  generalize p.ch.length = n at *
  generalize decide (p.ch = []) = e at *
  cases hs : p.shut with
  | false =>
    have c0 := HT.out.cell 0 0 rfl 0
    have c3 := HT.out.cell 0 0 rfl 3
    simp only [hs, pipeB, List.getElem?_toArray, List.getElem?_cons_zero, List.getElem?_cons_succ] at c0 c3
    go_enter Tryz.func177, Tryz.ntmps177
    go_wp2
    go_ret
    exact ⟨rfl, 0, rfl⟩
  | true =>
    have c0 := HT.out.cell 0 0 rfl 0
    have c3 := HT.out.cell 0 0 rfl 3
    simp only [hs, pipeB, List.getElem?_toArray, List.getElem?_cons_zero, List.getElem?_cons_succ] at c0 c3
    go_enter Tryz.func177, Tryz.ntmps177
    go_wp2
    go_ret
    exact ⟨rfl, 0, rfl⟩
end
end Go.Proofs.YthbjaoinklhikaaGreat

namespace Go.Proofs.YthbjaoinklhikaaGreat
set_option linter.unusedVariables false
set_option linter.unusedSimpArgs false
open Go.RowKit Go.Shelf

/-! ## Stages whose closures share boxes: what is known of them hangs on an environment that only grows -/
set_option maxRecDepth 100000 in
theorem prog_done_v {c : Cli} (h : c.Vals) {s : c.S} {m d : Value} {g : List Blk} (hs : c.SV s m d g) (pb : Nat) (n : Int) : ReadsG Tryz.prog 68 #[ptr' pb] [Cli.progB pb m d n] (.bool s.isNil) := by
  cases hn : s.isNil with
  | true =>
    have : s = .nil := by cases s <;> first | rfl | cases hn
    subst this
    obtain ⟨rfl, rfl, rfl⟩ := Cli.SV.nil hs
    intro w hw
    have T0 := TG.refl hw
    have HT := Lib.hid T0
    clear hw T0
    have c1 := HT.out.cell 0 0 rfl 1
    simp only [Cli.progB, List.getElem?_toArray, List.getElem?_cons_zero, List.getElem?_cons_succ] at c1
    have q1 := fun w => fun_nil_M w
    clear hs h
    go_enter Tryz.func68, Tryz.ntmps68
    go_wp2
    go_ret
    exact ⟨rfl, 0, rfl⟩
  | false =>
    obtain ⟨fn, first, caps, rfl⟩ := h.do_ hn hs
    intro w hw
    have T0 := TG.refl hw
    have HT := Lib.hid T0
    clear hw T0
    have c1 := HT.out.cell 0 0 rfl 1
    simp only [Cli.progB, List.getElem?_toArray, List.getElem?_cons_zero, List.getElem?_cons_succ] at c1
    have q1 := fun w => fun_is_M (.func fn) first caps w
    clear hs h
    go_enter Tryz.func68, Tryz.ntmps68
    go_wp2
    go_ret
    exact ⟨rfl, 0, rfl⟩

structure CliE where
  M : Type
  A : Type
  Y : Type
  α : Type
  E : Type
  le : E → E → Prop
  rep : E → α → List Blk → List Blk → Prop
  VM : E → M → Value → List Blk → Prop
  VA : E → A → Value → List Blk → Prop
  VY : E → Y → Value → List Blk → Prop
  runM : M → α → St M A Y × α
  runA : A → α → α
  mayY : Y → α → Bool
  preM : M → α → Prop
  preA : A → α → Prop
  preY : Y → α → Prop
namespace CliE
variable (c : CliE)
/-- under one environment -/
def on (e : c.E) : Cli := ⟨c.M, c.A, c.Y, c.α, c.rep e, c.VM e, c.VA e, c.VY e, c.runM, c.runA, c.mayY, c.preM, c.preA, c.preY⟩
abbrev S : Type := St c.M c.A c.Y
def run (s : c.S) (x : c.α) : c.S × c.α := St.run c.runM c.runA s x
def pre (s : c.S) (x : c.α) : Prop := St.pre c.runM c.runA c.preM c.preA s x
def thn (s : c.S) (m : c.M) (x : c.α) : c.S × c.α := thenSt c.runM s m x
def SV (e : c.E) (s : c.S) (m d : Value) (g : List Blk) : Prop := (c.on e).SV s m d g
/-- what is shown of those who use stages -/
structure Ok : Prop where
  refl : ∀ e, c.le e e
  trans : ∀ {a b d}, c.le a b → c.le b d → c.le a d
  mm : ∀ {e e' : c.E} {f : c.M} {v : Value} {g : List Blk}, c.le e e' → c.VM e f v g → c.VM e' f v g
  ma : ∀ {e e' : c.E} {f : c.A} {v : Value} {g : List Blk}, c.le e e' → c.VA e f v g → c.VA e' f v g
  m : ∀ {e : c.E} {f : c.M} {v : Value} {g gK gF : List Blk} {x : c.α}, c.VM e f v g → c.rep e x gK gF → c.preM f x →
    FnG Tryz.prog v [g, gK, gF] fun en gs => ∃ e', c.le e e' ∧ ∃ m d g' gK' gF', en = .returned (.agg #[m, d]) ∧ c.SV e' (c.runM f x).1 m d g' ∧ c.rep e' (c.runM f x).2 gK' gF' ∧ gs = [g', gK', gF']
  a : ∀ {e : c.E} {f : c.A} {v : Value} {g gK gF : List Blk} {x : c.α}, c.VA e f v g → c.rep e x gK gF → c.preA f x →
    FnG Tryz.prog v [g, gK, gF] fun en gs => ∃ e', c.le e e' ∧ ∃ gK' gF', en = .returned (.tuple #[]) ∧ c.rep e' (c.runA f x) gK' gF' ∧ gs = [[], gK', gF']
  y : ∀ {e : c.E} {f : c.Y} {v : Value} {g gK gF : List Blk} {x : c.α}, c.VY e f v g → c.rep e x gK gF → c.preY f x →
    FnG Tryz.prog v [g, gK, gF] fun en gs => ∃ gK' gF', en = .returned (.bool (c.mayY f x)) ∧ c.rep e x gK' gF' ∧ gs = [g, gK', gF']
  v : ∀ e, (c.on e).Vals
variable {c}
theorem Ok.do_ (h : c.Ok) {e : c.E} {s : c.S} {m d : Value} {g : List Blk} (hs : s.isNil = false) (v : c.SV e s m d g) : ∃ fn first caps, d = .func (.func fn) first caps := (h.v e).do_ hs v
theorem Ok.vals (h : c.Ok) {e : c.E} {s : c.S} {m d : Value} {g : List Blk} (v : c.SV e s m d g) : Cli.isFv m ∧ Cli.isFv d := (h.v e).vals v
theorem Ok.vm (h : c.Ok) {e : c.E} {f : c.M} {v : Value} {g : List Blk} (hv : c.VM e f v g) : ∃ fn first caps, v = .func (.func fn) first caps := (h.v e).vm hv
theorem Ok.va (h : c.Ok) {e : c.E} {f : c.A} {v : Value} {g : List Blk} (hv : c.VA e f v g) : ∃ fn first caps, v = .func (.func fn) first caps := (h.v e).va hv
set_option maxRecDepth 100000 in
theorem prog_then (h : c.Ok) {e : c.E} {s : c.S} {f : c.M} {m d v : Value} {g gm gK gF : List Blk} {x : c.α} (hs : c.SV e s m d g) (hm : c.VM e f v gm) (hx : c.rep e x gK gF) (hp : s.isNil = true → c.preM f x) :
    DoesG Tryz.prog 143 #[.agg #[m, d], v] [g, gm, gK, gF] fun en gs => ∃ e', c.le e e' ∧ ∃ m' d' g' gK' gF', en = .returned (.agg #[m', d']) ∧ c.SV e' (c.thn s f x).1 m' d' g' ∧ c.rep e' (c.thn s f x).2 gK' gF' ∧ gs = [g', gK', gF'] := by
  cases hn : s.isNil with
  | true =>
    have : s = .nil := by cases s <;> first | rfl | cases hn
    subst this
    obtain ⟨rfl, rfl, rfl⟩ := Cli.SV.nil (c := c.on e) hs
    obtain ⟨fn, first, caps, rfl, eg, hd⟩ := h.m hm hx (hp rfl)
    intro w hw
    have T0 := TG.refl hw
    have HT := Lib.hid T0
    clear hw T0
    have HD := Lib.hid hd
    have HV := Lib.hid (show ∀ e' (s : c.S) m d g, c.SV e' s m d g → Cli.isFv m ∧ Cli.isFv d from fun _ _ _ _ _ hv => h.vals hv)
    clear hd hm hx hp hs h
    have q1 := fun w => fun_nil_M w
    go_enter Tryz.func143, Tryz.ntmps143
    go_wp2_with fail
    refine (DoesG.use (HD.out) (((HT.out.alloc (k := w.heap.size) rfl _ _).alloc (k := w.heap.size + 1) (by simp) _ _).alloc (k := w.heap.size + 1 + 1) (by simp) _ _) [1, 2, 3] rfl rfl).mono ?_
    rintro en w1 ⟨gs, ⟨e', hle, m', d', g', gK', gF', rfl, hs', hx', rfl⟩, Ta⟩
    simp only [putG, List.set_cons_zero, List.set_cons_succ, List.cons_append, List.nil_append, List.append_nil] at Ta
    have c0 := Ta.cell 6 0 rfl 0
    have c1 := Ta.cell 6 0 rfl 1
    have f0 := Ta.free 6 0 rfl 0
    have f1 := Ta.free 6 0 rfl 1
    have HT := Lib.hid Ta
    have HS := Lib.hid hs'
    have HX := Lib.hid hx'
    have HLE := Lib.hid hle
    obtain ⟨v1, v2⟩ := HV.out _ _ _ _ _ hs'
    clear Ta hs' hx' hle
    rcases v1 with rfl | ⟨fn1, first1, caps1, rfl⟩ <;> rcases v2 with rfl | ⟨fn2, first2, caps2, rfl⟩
    all_goals
      go_wp2
      exact bodyPost_ret (v := .agg #[_, _]) (by simp [results, Tryz.results143, go_sem, c0, c1]) rfl ⟨_, ⟨e', HLE.out, _, _, g', gK', gF', rfl, HS.out, HX.out, rfl⟩, ((HT.out.set 6 0 rfl 0 _).set 6 0 rfl 1 _).pick [1, 2, 3] rfl⟩
  | false =>
    have e1 : c.thn s f x = (.thn s f, x) := by cases s <;> first | rfl | cases hn
    rw [e1]
    intro w hw
    refine (DoesG.use (Cli.prog_then_cons (c := c.on e) (h.v e) hn hs hm) (TG.refl hw) [0, 1] rfl rfl).mono ?_
    rintro en w' ⟨gs, ⟨m', d', g', he, hs', rfl⟩, T⟩
    exact ⟨_, ⟨e, h.refl e, m', d', g', gK, gF, he, hs', hx, rfl⟩, T.pick [0, 2, 3] rfl⟩
/-- a stage's function, called: what it makes -/
def DoR (c : CliE) (e : c.E) (s : c.S) (x : c.α) (en : Ending) (gs : GH) : Prop :=
  ∃ e', c.le e e' ∧ ∃ m d g gK gF, en = .returned (.agg #[m, d]) ∧ c.SV e' (c.run s x).1 m d g ∧ c.rep e' (c.run s x).2 gK gF ∧ gs = [g, gK, gF]
set_option maxRecDepth 100000 in
theorem prog_row1 (h : c.Ok) {e : c.E} {a : c.A} {m d : Value} {g gK gF : List Blk} {x : c.α} (hs : c.SV e (.row1 a) m d g) (hx : c.rep e x gK gF) (hp : c.preA a x) : FnG Tryz.prog d [g, gK, gF] (DoR c e (.row1 a) x) := by
  obtain ⟨rfl, bf, bl, bi, b, o, D, va, ga, rfl, hva, hD, rfl⟩ := hs
  obtain ⟨fn, first, caps, rfl, eg, hd⟩ := h.a hva hx hp
  refine ⟨_, _, _, rfl, enters_of Tryz.func154 (by kernel_rfl) rfl, ?_⟩
  intro w hw
  have T0 := TG.refl hw
  have HT := Lib.hid T0
  clear hw T0
  have HT := Lib.hid (HT.out.sum (H' := [[cl bf 1 #[.func (.func fn) first caps]], [cl bl 226 #[.slice (some ⟨b, o, none⟩) 1 1]], [cl bi 3 #[.int .i64 0]], [cl b 1 D], ga, gK, gF]) (fun n ha h0 h1 h2 => by simp only [pickG, List.map_cons, List.map_nil, List.getD_cons_succ, List.getD_cons_zero, List.set_cons_succ, List.set_cons_zero, List.cons_append, List.flatten_append, List.flatten_cons, List.flatten_nil, List.append_nil, List.nil_append, ha, h0, h1, h2] <;> omega))
  have c0 := HT.out.cell 0 0 rfl 0
  have lt0 := HT.out.lt 0 0 rfl
  simp only [] at lt0
  have HD := Lib.hid hd
  clear hd hx hp hva h
  simp only [List.getElem?_toArray, List.getElem?_cons_zero] at c0
  go_enter Tryz.func154, Tryz.ntmps154
  go_wp2_with fail
  refine (DoesG.use (HD.out) (HT.out.alloc (k := w.heap.size) rfl _ _) [4, 5, 6] rfl rfl).mono ?_
  rintro e w1 ⟨gs, ⟨e', hle, gK', gF', rfl, hx', rfl⟩, Ta⟩
  simp only [putG, List.set_cons_zero, List.set_cons_succ, List.cons_append, List.nil_append, List.append_nil] at Ta
  have c1 := Ta.cell 1 0 rfl 0
  have c2 := Ta.cell 2 0 rfl 0
  have HX := Lib.hid (And.intro hle hx')
  clear hx' hle c0
  simp only [List.getElem?_toArray, List.getElem?_cons_zero] at c1 c2
  have HT := Lib.hid Ta
  clear Ta
  go_wp2_with fail
  refine (DoesG.use (Cli.row_nil _ _) (HT.out) [] rfl rfl).mono ?_
  rintro e w1 ⟨gs, ⟨rfl, rfl⟩, Ta⟩
  simp only [putG, List.set_cons_zero, List.set_cons_succ, List.cons_append, List.nil_append, List.append_nil] at Ta
  have e0 := Ta.cell 7 0 rfl 0
  have e1 := Ta.cell 7 0 rfl 1
  have f0 := Ta.free 7 0 rfl 0
  have f1 := Ta.free 7 0 rfl 1
  clear c1 c2
  have HT := Lib.hid Ta
  clear Ta
  go_wp2
  exact bodyPost_ret (v := .agg #[.nilFunc, .nilFunc]) (by simp [results, Tryz.results154, go_sem, e0, e1]) rfl ⟨_, ⟨e', HX.out.1, _, _, [], gK', gF', rfl, ⟨rfl, rfl, rfl⟩, HX.out.2, rfl⟩, ((HT.out.set 7 0 rfl 0 _).set 7 0 rfl 1 _).pick [4, 5, 6] rfl⟩
set_option maxRecDepth 100000 in
theorem prog_row2 (h : c.Ok) {e : c.E} {a a' : c.A} {m d : Value} {g gK gF : List Blk} {x : c.α} (hs : c.SV e (.row2 a a') m d g) (hx : c.rep e x gK gF) (hp : c.preA a x) : FnG Tryz.prog d [g, gK, gF] (DoR c e (.row2 a a') x) := by
  obtain ⟨rfl, bf, bl, bi, b, va, va', ga, ga', rfl, hva, hva', rfl⟩ := hs
  obtain ⟨fn, first, caps, rfl, eg, hd⟩ := h.a hva hx hp
  obtain ⟨fn', first', caps', rfl⟩ := h.va hva'
  refine ⟨_, _, _, rfl, enters_of Tryz.func154 (by kernel_rfl) rfl, ?_⟩
  intro w hw
  have T0 := TG.refl hw
  have HT := Lib.hid T0
  clear hw T0
  have HT := Lib.hid (HT.out.sum (H' := [[cl bf 1 #[.func (.func fn) first caps]], [cl bl 226 #[.slice (some ⟨b, 0, none⟩) 2 2]], [cl bi 3 #[.int .i64 0]], [cl b 1 #[.func (.func fn) first caps, .func (.func fn') first' caps']], ga, gK, gF, ga']) (fun n ha h0 h1 h2 => by simp only [pickG, List.map_cons, List.map_nil, List.getD_cons_succ, List.getD_cons_zero, List.set_cons_succ, List.set_cons_zero, List.cons_append, List.flatten_append, List.flatten_cons, List.flatten_nil, List.append_nil, List.nil_append, ha, h0, h1, h2] <;> omega))
  have c0 := HT.out.cell 0 0 rfl 0
  have lt0 := HT.out.lt 0 0 rfl
  simp only [] at lt0
  have HD := Lib.hid hd
  have HA := Lib.hid (show ∀ e', c.le e e' → c.VA e' a' (.func (.func fn') first' caps') ga' from fun e' hl => h.ma hl hva')
  clear hd hx hp hva hva' h
  simp only [List.getElem?_toArray, List.getElem?_cons_zero] at c0
  go_enter Tryz.func154, Tryz.ntmps154
  go_wp2_with fail
  refine (DoesG.use (HD.out) (HT.out.alloc (k := w.heap.size) rfl _ _) [4, 5, 6] rfl rfl).mono ?_
  rintro e w1 ⟨gs, ⟨e', hle, gK', gF', rfl, hx', rfl⟩, Ta⟩
  simp only [putG, List.set_cons_zero, List.set_cons_succ, List.cons_append, List.nil_append, List.append_nil] at Ta
  have c1 := Ta.cell 1 0 rfl 0
  have c2 := Ta.cell 2 0 rfl 0
  have HX := Lib.hid (And.intro hle hx')
  clear hx' hle c0
  simp only [List.getElem?_toArray, List.getElem?_cons_zero] at c1 c2
  have HT := Lib.hid Ta
  clear Ta
  go_wp2_with fail
  refine (DoesG.use (Cli.row_1 (D := #[.func (.func fn) first caps, .func (.func fn') first' caps']) (o := 1) rfl 1 (.inl rfl)) (HT.out) [3] rfl rfl).mono ?_
  rintro e w1 ⟨gs, ⟨bf', bl', bi', rfl, rfl⟩, Ta⟩
  simp only [putG, List.set_cons_zero, List.set_cons_succ, List.cons_append, List.nil_append, List.append_nil] at Ta
  have e0 := Ta.cell 8 0 rfl 0
  have e1 := Ta.cell 8 0 rfl 1
  have f0 := Ta.free 8 0 rfl 0
  have f1 := Ta.free 8 0 rfl 1
  clear c1 c2
  have HT := Lib.hid Ta
  clear Ta
  go_wp2
  exact bodyPost_ret (v := .agg #[.nilFunc, _]) (by simp [results, Tryz.results154, go_sem, e0, e1]) rfl ⟨_, ⟨e', HX.out.1, _, _, _, gK', gF', rfl, ⟨rfl, bf', bl', bi', b, 1, #[.func (.func fn) first caps, .func (.func fn') first' caps'], _, ga', rfl, HA.out e' HX.out.1, rfl, rfl⟩, HX.out.2, rfl⟩, (((HT.out.set 8 0 rfl 0 _).set 8 0 rfl 1 _).pick [3, 5, 6, 7, 9, 10, 11] rfl).sum (fun n ha h0 h1 h2 => by simp only [pickG, List.map_cons, List.map_nil, List.getD_cons_succ, List.getD_cons_zero, List.set_cons_succ, List.set_cons_zero, List.cons_append, List.flatten_append, List.flatten_cons, List.flatten_nil, List.append_nil, List.nil_append, ha, h0, h1, h2] <;> omega)⟩
set_option maxRecDepth 100000 in
theorem prog_thn (h : c.Ok) {e : c.E} {s : c.S} {f : c.M} {m d : Value} {g gK gF : List Blk} {x : c.α} (hs : c.SV e (.thn s f) m d g) (hx : c.rep e x gK gF)
    (hi : ∀ {m d : Value} {g : List Blk}, c.SV e s m d g → FnG Tryz.prog d [g, gK, gF] (DoR c e s x)) (hp : (c.run s x).1.isNil = true → c.preM f (c.run s x).2) : FnG Tryz.prog d [g, gK, gF] (DoR c e (.thn s f) x) := by
  obtain ⟨bs, br, ds, vm, gs, gm, rfl, hn, hv, hm, rfl⟩ := hs
  obtain ⟨fn, first, caps, rfl, eg, hd⟩ := hi hv
  obtain ⟨fn', first', caps', rfl⟩ := h.vm hm
  have key : ∀ e1 m' d' g' gK' gF', c.le e e1 → c.SV e1 (c.run s x).1 m' d' g' → c.rep e1 (c.run s x).2 gK' gF' → DoesG Tryz.prog 143 #[.agg #[m', d'], .func (.func fn') first' caps'] [g', gm, gK', gF'] (DoR c e (.thn s f) x) :=
    fun e1 m' d' g' gK' gF' hl h1 h2 => (prog_then h h1 (h.mm hl hm) h2 hp).mono fun en gs ⟨e', hl', hr⟩ => ⟨e', h.trans hl hl', hr⟩
  refine ⟨_, _, _, rfl, enters_of Tryz.func175 (by kernel_rfl) rfl, ?_⟩
  intro w hw
  have T0 := TG.refl hw
  have HT := Lib.hid T0
  clear hw T0
  have HT := Lib.hid (HT.out.sum (H' := [[cl bs 106 #[m, .func (.func fn) first caps]], [cl br 104 #[.func (.func fn') first' caps']], gs, gK, gF, gm]) (fun n ha h0 h1 h2 => by simp only [pickG, List.map_cons, List.map_nil, List.getD_cons_succ, List.getD_cons_zero, List.set_cons_succ, List.set_cons_zero, List.cons_append, List.flatten_append, List.flatten_cons, List.flatten_nil, List.append_nil, List.nil_append, ha, h0, h1, h2] <;> omega))
  have c0 := HT.out.cell 0 0 rfl 1
  have c1 := HT.out.cell 1 0 rfl 0
  have lt0 := HT.out.lt 0 0 rfl
  have lt1 := HT.out.lt 1 0 rfl
  simp only [] at lt0 lt1
  have HD := Lib.hid hd
  have HK := Lib.hid key
  have HV := Lib.hid (show ∀ e' (s : c.S) m d g, c.SV e' s m d g → Cli.isFv m ∧ Cli.isFv d from fun _ _ _ _ _ hv => h.vals hv)
  clear hd hx hp hv hm hn hi key
  simp only [List.getElem?_toArray, List.getElem?_cons_zero, List.getElem?_cons_succ] at c0 c1
  go_enter Tryz.func175, Tryz.ntmps175
  go_wp2_with fail
  have HT := Lib.hid (HT.out.alloc (k := w.heap.size) rfl 106 #[.nilFunc, .nilFunc])
  go_region_with (first
    | (go_at_call 143
       refine (DoesG.use (HK.out _ _ _ _ _ _ HL1.out HS1.out HX1.out) (HT1.out) [2, 5, 3, 4] rfl rfl).mono ?_
       rintro en w2 ⟨gs, ⟨e2, hl2, m2, d2, g2, gK2, gF2, rfl, hs2, hx2, rfl⟩, Ta⟩
       simp only [putG, List.set_cons_zero, List.set_cons_succ, List.cons_append, List.nil_append, List.append_nil] at Ta
       have e0 := Ta.cell 6 0 rfl 0
       have e1 := Ta.cell 6 0 rfl 1
       have f0 := Ta.free 6 0 rfl 0
       have f1 := Ta.free 6 0 rfl 1
       have hv2 := HV.out _ _ _ _ _ hs2
       obtain ⟨st1, st2⟩ := Cli.store_fv2 (P := Tryz.prog) hv2.1 hv2.2 e0 f0 e1 f1
       clear hv2
       have HS2 := Lib.hid hs2
       have HX2 := Lib.hid (And.intro hl2 hx2)
       have HT2 := Lib.hid Ta
       clear Ta hs2 hx2 hl2)
    | (refine (DoesG.use (HD.out) (HT.out.drew) [2, 3, 4] rfl rfl).mono ?_
       rintro en w1 ⟨gs, ⟨en1, hl1, m1, d1, g1, gK1, gF1, rfl, hs1, hx1, rfl⟩, Ta⟩
       simp only [putG, List.set_cons_zero, List.set_cons_succ, List.cons_append, List.nil_append, List.append_nil] at Ta
       have c2 := Ta.cell 1 0 rfl 0
       simp only [List.getElem?_toArray, List.getElem?_cons_zero, List.getElem?_cons_succ] at c2
       have HS1 := Lib.hid hs1
       have HX1 := Lib.hid hx1
       have HL1 := Lib.hid hl1
       have HT1 := Lib.hid Ta
       clear Ta hs1 hx1 hl1))
  all_goals
    go_wp2
    exact bodyPost_ret (v := .agg #[_, _]) (by simp [results, Tryz.results175, go_sem, e0, e1]) rfl ⟨_, ⟨e2, HX2.out.1, m2, d2, g2, gK2, gF2, rfl, HS2.out, HX2.out.2, rfl⟩, ((HT2.out.set 6 0 rfl 0 _).set 6 0 rfl 1 _).pick [2, 5, 3] rfl⟩
/-- **what a stage's function does** -/
theorem prog_do (h : c.Ok) : ∀ {e : c.E} {s : c.S} {m d : Value} {g gK gF : List Blk} {x : c.α}, s.isNil = false → c.SV e s m d g → c.rep e x gK gF → c.pre s x → FnG Tryz.prog d [g, gK, gF] (DoR c e s x)
  | _, .nil, _, _, _, _, _, _, hn, _, _, _ => by cases hn
  | _, .at none f, _, _, _, _, _, _, _, hs, hx, hp => h.m hs.2 hx hp
  | _, .at (some y) f, _, _, _, gK, gF, _, _, hs, hx, hp => by
    obtain ⟨g1, g2, h1, h2, rfl⟩ := hs
    obtain ⟨fn, first, caps, hv, eg, hd⟩ := h.m h2 hx hp
    refine ⟨fn, first, caps, hv, eg, fun w hw => ?_⟩
    have T := (TG.refl hw).sum (H' := [g1, g2, gK, gF]) (fun n ha h0 h1 h2 => by simp only [pickG, List.map_cons, List.map_nil, List.getD_cons_succ, List.getD_cons_zero, List.set_cons_succ, List.set_cons_zero, List.cons_append, List.flatten_append, List.flatten_cons, List.flatten_nil, List.append_nil, List.nil_append, ha, h0, h1, h2] <;> omega)
    refine (DoesG.use hd T [1, 2, 3] rfl rfl).mono ?_
    rintro en w' ⟨gs, ⟨e', hl, m', d', g', gK', gF', he, hs', hx', rfl⟩, T'⟩
    exact ⟨_, ⟨e', hl, m', d', g', gK', gF', he, hs', hx', rfl⟩, T'.pick [1, 2, 3] rfl⟩
  | _, .row1 a, _, _, _, _, _, _, _, hs, hx, hp => prog_row1 h hs hx hp
  | _, .row2 a b, _, _, _, _, _, _, _, hs, hx, hp => prog_row2 h hs hx hp
  | _, .thn s f, _, _, _, _, _, _, _, hs, hx, hp => by
    have hs' := hs
    obtain ⟨bs, br, ds, vm, gs, gm, _, hn, _⟩ := hs'
    exact prog_thn h hs hx (fun hv => prog_do h hn hv hx hp.1) hp.2

/-! ### A program's conditions, and its steps -/
def MayR (c : CliE) (e : c.E) (s : c.S) (x : c.α) (g : List Blk) (en : Ending) (gs : GH) : Prop := ∃ gK gF, en = .returned (.bool (s.may c.mayY x)) ∧ c.rep e x gK gF ∧ gs = [g, gK, gF]
theorem may_nil : ∀ {e : c.E} {s : c.S} {d : Value} {g : List Blk} {x : c.α}, c.Ok → s.isNil = false → c.SV e s .nilFunc d g → s.may c.mayY x = true
  | _, .nil, _, _, _, _, hn, _ => by cases hn
  | _, .at none _, _, _, _, _, _, _ => rfl
  | e, .at (some y) _, _, _, _, h, _, v => by
    obtain ⟨g1, g2, h1, _⟩ := v
    obtain ⟨_, _, _, he⟩ := (h.v e).vy h1
    cases he
  | _, .row1 _, _, _, _, _, _, _ => rfl
  | _, .row2 _ _, _, _, _, _, _, _ => rfl
  | _, .thn s _, _, _, _, h, _, v => by
    obtain ⟨bs, br, ds, vm, gs, gm, _, hn, hv, _⟩ := v
    exact may_nil (s := s) h hn hv
theorem may_fun (h : c.Ok) : ∀ {e : c.E} {s : c.S} {f : Fn} {a b : Array Value} {d : Value} {g gK gF : List Blk} {x : c.α}, c.SV e s (.func f a b) d g → c.rep e x gK gF → s.preY c.preY x → FnG Tryz.prog (.func f a b) [g, gK, gF] (MayR c e s x g)
  | _, .nil, _, _, _, _, _, _, _, _, v, _, _ => by cases v.1
  | _, .at none _, _, _, _, _, _, _, _, _, v, _, _ => by cases v.1
  | _, .at (some y) _, _, _, _, _, _, gK, gF, _, v, hx, hp => by
    obtain ⟨g1, g2, h1, h2, rfl⟩ := v
    obtain ⟨fn, first, caps, hv, eg, hd⟩ := h.y h1 hx hp
    refine ⟨fn, first, caps, hv, eg, fun w hw => ?_⟩
    have T := (TG.refl hw).sum (H' := [g1, g2, gK, gF]) (fun n ha h0 h1 h2 => by simp only [pickG, List.map_cons, List.map_nil, List.getD_cons_succ, List.getD_cons_zero, List.set_cons_succ, List.set_cons_zero, List.cons_append, List.flatten_append, List.flatten_cons, List.flatten_nil, List.append_nil, List.nil_append, ha, h0, h1, h2] <;> omega)
    refine (DoesG.use hd T [0, 2, 3] rfl rfl).mono ?_
    rintro en w' ⟨gs, ⟨gK', gF', he, hx', rfl⟩, T'⟩
    exact ⟨_, ⟨gK', gF', he, hx', rfl⟩, TG.sum (H := [g1, g2, gK', gF']) T' (fun n ha h0 h1 h2 => by simp only [pickG, List.map_cons, List.map_nil, List.getD_cons_succ, List.getD_cons_zero, List.set_cons_succ, List.set_cons_zero, List.cons_append, List.flatten_append, List.flatten_cons, List.flatten_nil, List.append_nil, List.nil_append, ha, h0, h1, h2] <;> omega)⟩
  | _, .row1 _, _, _, _, _, _, _, _, _, v, _, _ => by cases v.1
  | _, .row2 _ _, _, _, _, _, _, _, _, _, v, _, _ => by cases v.1
  | _, .thn s _, f, a, b, _, _, gK, gF, _, v, hx, hp => by
    obtain ⟨bs, br, ds, vm, gs, gm, _, hn, hv, _, rfl⟩ := v
    obtain ⟨fn, first, caps, hv', eg, hd⟩ := may_fun h hv hx hp
    refine ⟨fn, first, caps, hv', eg, fun w hw => ?_⟩
    have T := (TG.refl hw).sum (H' := [[cl bs 106 #[.func f a b, ds], cl br 104 #[vm]], gs, gm, gK, gF]) (fun n ha h0 h1 h2 => by simp only [pickG, List.map_cons, List.map_nil, List.getD_cons_succ, List.getD_cons_zero, List.set_cons_succ, List.set_cons_zero, List.cons_append, List.flatten_append, List.flatten_cons, List.flatten_nil, List.append_nil, List.nil_append, ha, h0, h1, h2] <;> omega)
    refine (DoesG.use hd T [1, 3, 4] rfl rfl).mono ?_
    rintro en w' ⟨gs', ⟨gK', gF', he, hx', rfl⟩, T'⟩
    exact ⟨_, ⟨gK', gF', he, hx', rfl⟩, TG.sum (H := [[cl bs 106 #[.func f a b, ds], cl br 104 #[vm]], gs, gm, gK', gF']) T' (fun n ha h0 h1 h2 => by simp only [pickG, List.map_cons, List.map_nil, List.getD_cons_succ, List.getD_cons_zero, List.set_cons_succ, List.set_cons_zero, List.cons_append, List.flatten_append, List.flatten_cons, List.flatten_nil, List.append_nil, List.nil_append, ha, h0, h1, h2] <;> omega)⟩
open Cli (progB)
theorem prog_done (h : c.Ok) {e : c.E} {s : c.S} {m d : Value} {g : List Blk} (hs : c.SV e s m d g) (pb : Nat) (n : Int) : ReadsG Tryz.prog 68 #[ptr' pb] [progB pb m d n] (.bool s.isNil) :=
  prog_done_v (h.v e) hs pb n
set_option maxRecDepth 100000 in
theorem prog_may (h : c.Ok) {e : c.E} {s : c.S} {m d : Value} {g gK gF : List Blk} {x : c.α} (hs : c.SV e s m d g) (hx : c.rep e x gK gF) (hp : s.preY c.preY x) (pb : Nat) (n : Int) :
    DoesG Tryz.prog 66 #[ptr' pb] [progB pb m d n, g, gK, gF] fun en gs => ∃ gK' gF', en = .returned (.bool (s.may c.mayY x)) ∧ c.rep e x gK' gF' ∧ gs = [progB pb m d n, g, gK', gF'] := by
  have hd := prog_done h hs pb n
  cases hn : s.isNil with
  | true =>
    have : s = .nil := by cases s <;> first | rfl | cases hn
    subst this
    rw [hn] at hd
    intro w hw
    have T0 := TG.refl hw
    have HT := Lib.hid T0
    clear hw T0
    have HD := Lib.hid hd
    have HX := Lib.hid hx
    clear hs h hd hn hp hx
    go_enter Tryz.func66, Tryz.ntmps66
    go_wp2_with fail
    refine (ReadsG.use (HD.out) (HT.out) [0] rfl rfl).mono ?_
    rintro e w1 ⟨rfl, mq, rfl⟩
    have HT := Lib.hid (HT.out.drewN mq)
    go_wp2
    go_ret
    exact ⟨_, ⟨gK, gF, rfl, HX.out, rfl⟩, HT.out⟩
  | false =>
    rw [hn] at hd
    obtain ⟨v1, _⟩ := h.vals hs
    rcases v1 with rfl | ⟨fn1, first1, caps1, rfl⟩
    · have hm := may_nil (x := x) h hn hs
      rw [hm]
      intro w hw
      have T0 := TG.refl hw
      have HT := Lib.hid T0
      clear hw T0
      have c0 := HT.out.cell 0 0 rfl 0
      simp only [progB, List.getElem?_toArray, List.getElem?_cons_zero, List.getElem?_cons_succ] at c0
      have HD := Lib.hid hd
      have HX := Lib.hid hx
      have q1 := fun w => fun_nil_Y w
      clear hs h hd hn hp hx hm
      go_enter Tryz.func66, Tryz.ntmps66
      go_wp2_with fail
      refine (ReadsG.use (HD.out) (HT.out) [0] rfl rfl).mono ?_
      rintro e w1 ⟨rfl, mq, rfl⟩
      have HT := Lib.hid (HT.out.drewN mq)
      go_wp2
      go_ret
      exact ⟨_, ⟨gK, gF, rfl, HX.out, rfl⟩, HT.out⟩
    · obtain ⟨fn, first, caps, hv, eg, hf⟩ := may_fun h hs hx hp
      obtain ⟨rfl, rfl, rfl⟩ : fn1 = fn ∧ first1 = first ∧ caps1 = caps := by
        cases hv
        exact ⟨rfl, rfl, rfl⟩
      obtain ⟨b, hb⟩ : ∃ b, s.may c.mayY x = b := ⟨_, rfl⟩
      unfold MayR at hf
      rw [hb] at hf ⊢
      intro w hw
      have T0 := TG.refl hw
      have HT := Lib.hid T0
      clear hw T0
      have c0 := HT.out.cell 0 0 rfl 0
      simp only [progB, List.getElem?_toArray, List.getElem?_cons_zero, List.getElem?_cons_succ] at c0
      have HD := Lib.hid hd
      have HF := Lib.hid hf
      have q1 := fun w => fun_is_Y (.func fn1) first1 caps1 w
      clear hs h hd hn hp hx hb hf hv
      go_enter Tryz.func66, Tryz.ntmps66
      go_wp2_with fail
      refine (ReadsG.use (HD.out) (HT.out) [0] rfl rfl).mono ?_
      rintro e w1 ⟨rfl, mq, rfl⟩
      have HT := Lib.hid (HT.out.drewN mq)
      go_wp2_with fail
      refine (DoesG.use (HF.out) (HT.out) [1, 2, 3] rfl rfl).mono ?_
      rintro e w1 ⟨gs, ⟨gK', gF', rfl, hx', rfl⟩, Ta⟩
      simp only [putG, List.set_cons_zero, List.set_cons_succ, List.cons_append, List.nil_append, List.append_nil] at Ta
      have HX := Lib.hid hx'
      clear hx'
      have HT := Lib.hid Ta
      clear Ta
      go_wp2
      go_ret
      exact ⟨_, ⟨gK', gF', rfl, HX.out, rfl⟩, HT.out⟩
/-- a step that may be made -/
def StepR (c : CliE) (e : c.E) (pb : Nat) (n : Int) (s : c.S) (x : c.α) (en : Ending) (gs : GH) : Prop :=
  ∃ e', c.le e e' ∧ ∃ m d g gK gF, en = .returned (.bool true) ∧ c.SV e' (c.run s x).1 m d g ∧ c.rep e' (c.run s x).2 gK gF ∧ gs = [progB pb m d (n + 1), g, gK, gF]
set_option maxRecDepth 100000 in
theorem prog_step_no (h : c.Ok) {e : c.E} {s : c.S} {m d : Value} {g gK gF : List Blk} {x : c.α} (hs : c.SV e s m d g) (hx : c.rep e x gK gF) (hp : s.preY c.preY x) (pb : Nat) (n : Int) (hm : s.may c.mayY x = false) :
    DoesG Tryz.prog 67 #[ptr' pb] [progB pb m d n, g, gK, gF] fun en gs => ∃ gK' gF', en = .returned (.bool false) ∧ c.rep e x gK' gF' ∧ gs = [progB pb m d n, g, gK', gF'] := by
  have hd := prog_may h hs hx hp pb n
  rw [hm] at hd
  intro w hw
  have T0 := TG.refl hw
  have HT := Lib.hid T0
  clear hw T0
  have HD := Lib.hid hd
  clear hs h hd hp hx hm
  go_enter Tryz.func67, Tryz.ntmps67
  go_wp2_with fail
  refine (DoesG.use (HD.out) (HT.out) [0, 1, 2, 3] rfl rfl).mono ?_
  rintro e w1 ⟨gs, ⟨gK', gF', rfl, hx', rfl⟩, Ta⟩
  simp only [putG, List.set_cons_zero, List.set_cons_succ, List.cons_append, List.nil_append, List.append_nil] at Ta
  have HX := Lib.hid hx'
  clear hx'
  have HT := Lib.hid Ta
  clear Ta
  go_wp2
  go_ret
  exact ⟨_, ⟨gK', gF', rfl, HX.out, rfl⟩, HT.out⟩
set_option maxRecDepth 100000 in
theorem prog_step (h : c.Ok) {e : c.E} {s : c.S} {m d : Value} {g gK gF : List Blk} {x : c.α} (hs : c.SV e s m d g) (hx : c.rep e x gK gF) (hp : s.preY c.preY x) (hq : c.pre s x) (pb : Nat) (n : Int) (hn : 0 ≤ n ∧ n ≤ 1000000000) (hm : s.may c.mayY x = true) :
    DoesG Tryz.prog 67 #[ptr' pb] [progB pb m d n, g, gK, gF] (StepR c e pb n s x) := by
  have hd := prog_may h hs hx hp pb n
  rw [hm] at hd
  have hni : s.isNil = false := by cases s <;> first | rfl | cases hm
  have hdo : ∀ gK' gF', c.rep e x gK' gF' → FnG Tryz.prog d [g, gK', gF'] (DoR c e s x) := fun _ _ hx' => prog_do h hni hs hx' hq
  obtain ⟨fn, first, caps, rfl⟩ := h.do_ hni hs
  have HV := Lib.hid (show ∀ e' (s : c.S) m d g, c.SV e' s m d g → Cli.isFv m ∧ Cli.isFv d from fun _ _ _ _ _ hv => h.vals hv)
  intro w hw
  have T0 := TG.refl hw
  have HT := Lib.hid T0
  clear hw T0
  have HD := Lib.hid hd
  have HO := Lib.hid hdo
  obtain ⟨hn0, hn1⟩ := hn
  clear hs h hd hp hx hm hq hni hdo
  go_enter Tryz.func67, Tryz.ntmps67
  go_wp2_with fail
  refine (DoesG.use (HD.out) (HT.out) [0, 1, 2, 3] rfl rfl).mono ?_
  rintro e w1 ⟨gs, ⟨gK1, gF1, rfl, hx', rfl⟩, Ta⟩
  simp only [putG, List.set_cons_zero, List.set_cons_succ, List.cons_append, List.nil_append, List.append_nil] at Ta
  have c1 := Ta.cell 0 0 rfl 1
  have c2 := Ta.cell 0 0 rfl 2
  have f2 := Ta.free 0 0 rfl 2
  have hf := HO.out _ _ hx'
  clear hx'
  simp only [List.getElem?_toArray, List.getElem?_cons_zero, List.getElem?_cons_succ] at c1 c2
  have HT := Lib.hid Ta
  clear Ta
  obtain ⟨fn', first', caps', hv, eg, hf⟩ := hf
  obtain ⟨rfl, rfl, rfl⟩ : fn = fn' ∧ first = first' ∧ caps = caps' := by
    cases hv
    exact ⟨rfl, rfl, rfl⟩
  have HF := Lib.hid hf
  clear hf hv
  go_wp2_with fail
  refine (DoesG.use (HF.out) (HT.out.set 0 0 rfl 2 (.int .i64 (n + 1))) [1, 2, 3] rfl rfl).mono ?_
  rintro e w1 ⟨gs, ⟨e', hle, m', d', g', gK', gF', rfl, hs', hx', rfl⟩, Ta⟩
  simp only [putG, List.set_cons_zero, List.set_cons_succ, List.cons_append, List.nil_append, List.append_nil] at Ta
  have e0 := Ta.cell 0 0 rfl 0
  have e1 := Ta.cell 0 0 rfl 1
  have f0 := Ta.free 0 0 rfl 0
  have f1 := Ta.free 0 0 rfl 1
  have hv2 := HV.out _ _ _ _ _ hs'
  obtain ⟨st1, st2⟩ := Cli.store_fv2 (P := Tryz.prog) hv2.1 hv2.2 e0 f0 e1 f1
  have HS := Lib.hid hs'
  have HX := Lib.hid (And.intro hle hx')
  clear hs' hx' hle hv2
  have HT := Lib.hid Ta
  clear Ta
  go_wp2
  go_ret
  exact ⟨_, ⟨e', HX.out.1, m', d', g', gK', gF', rfl, HS.out, HX.out.2, rfl⟩, (HT.out.set 0 0 rfl 0 _).set 0 0 rfl 1 _⟩
end CliE
end Go.Proofs.YthbjaoinklhikaaGreat
