import Derived.Test.YtnemggminanbbaaPipe
import Derived.Test.YtnemggminanbbaaLone
namespace Go.Proofs.Ytnemggminanbbaa
set_option linter.unusedVariables false
set_option linter.unusedSimpArgs false
open Go.RowKit Go.Shelf Go.Conc

/-! ## The pipe's channel -/
theorem TG.setChan {h H : GH} {w w' : World} (a : TG h w H w') (i : Nat) {c : Nat} {o : Obj} (hi : i < H.length) (hg : H.getD i [] = [(c, o)]) (cap : Nat) (buf : Array Value) (cl : Bool) (s r : Nat) (tm : Bool) :
    TG h w (H.set i [(c, .chan cap buf cl s r tm)]) (w'.setChan c cap buf cl s r tm) := by
  have hl := a.lt i 0 (p := (c, o)) (by rw [hg]; rfl)
  exact a.turn (pre := []) (post := []) (o' := .chan cap buf cl s r tm) (w'' := w'.setChan c cap buf cl s r tm) i hi hg (heap_setChan w' c cap buf cl s r tm hl) (fun k hk => by simp only [World.setChan]; rw [Array.getElem?_setIfInBounds_ne (fun e => hk e.symm)]) (size_setChan _ _ _ _ _ _ _ _) rfl rfl rfl
theorem fire_zero (w : World) : (zeroValue 68).run Try.prog w = .ok (.agg #[.int .u64 0, .int .u64 0, .int .u64 0, .int .u64 0]) w := by kernel_rfl
def chV (l : List FireS) : Array Value := (l.map fun f => Value.agg f.vals.toArray).toArray
section
variable {pb : Nat} {p : PipeS} {g : List Blk}
set_option maxRecDepth 100000 in
theorem pipeSend_yes (hg : isPipe pb p g) (v : FireS) (hr : p.ch.length < p.room) : DoesG Try.prog 58 #[ptr' pb, .agg v.vals.toArray] [g] fun e gs =>
    e = .returned (.bool true) ∧ ∃ g', isPipe pb { p with ch := p.ch ++ [v] } g' ∧ gs = [g'] := by
  obtain ⟨cb, lb, hb, a, b, l, gl, h1, h2, rfl⟩ := hg
  intro w hw
  have T0 := TG.refl hw
  have HT := Lib.hid T0
  clear hw T0
  have HT := Lib.hid (HT.out.sum (H' := [pipeB pb cb lb p, [(cb, .chan p.room (p.ch.map fun f => Value.agg f.vals.toArray).toArray false a b false)], gl]) (fun n ha h0 h1 h2 => by simp only [SU, ha, h0, h1, h2] <;> omega))
  have H1 := Lib.hid h1
  have H2 := Lib.hid h2
  have c0 := HT.out.cell 0 0 rfl 0
  simp only [pipeB, List.getElem?_toArray, List.getElem?_cons_zero, List.getElem?_cons_succ] at c0
  have hch := HT.out.obj 1 0 rfl
  simp only [] at hch
  have lt := HT.out.lt 0 0 rfl
  simp only [] at lt
  clear h1 h2
  simp only [FireS.vals]
  refine calls_of_wpN Try.func58 rfl ?_
  simp only [Try.ntmps58, List.size_toArray, List.length_cons, List.length_nil, Nat.reduceAdd, Nat.reduceSub, Array.replicate_succ, Array.replicate_zero, List.push_toArray, List.append_toArray, List.nil_append, List.cons_append]
  refine wpN_seq (wpN_of_wp ?_)
  go_wp2
  have HT := Lib.hid (HT.out.alloc (k := w.heap.size) rfl 68 #[.int .u64 v.id, .int .u64 v.gen, .int .u64 v.dl, .int .u64 v.tick])
  clear c0 hch
  generalize w.alloc _ = w1 at HT ⊢
  have c0 := HT.out.cell 0 0 rfl 0
  simp only [pipeB, List.getElem?_toArray, List.getElem?_cons_zero, List.getElem?_cons_succ] at c0
  have b0 := HT.out.cell 3 0 rfl 0
  have b1 := HT.out.cell 3 0 rfl 1
  have b2 := HT.out.cell 3 0 rfl 2
  have b3 := HT.out.cell 3 0 rfl 3
  simp only [List.getElem?_nil, List.getElem?_toArray, List.getElem?_cons_zero, List.getElem?_cons_succ] at b0 b1 b2 b3
  have hch := HT.out.obj 1 0 rfl
  simp only [] at hch
  refine wpN_seq (wpN_of_wp ?_)
  go_wp2
  refine wpN_seq ?_
  refine wpN_region_comm (cases := #[scase cb (.agg #[.int .u64 v.id, .int .u64 v.gen, .int .u64 v.dl, .int .u64 v.tick]) (.agg #[.int .u64 0, .int .u64 0, .int .u64 0, .int .u64 0])]) (blocking := false) (shape := .select) (v := .tuple #[goInt 0, .bool false]) (w1 := w1) (w' := w1.setChan cb p.room ((p.ch.map fun f => Value.agg f.vals.toArray).toArray.push (.agg #[.int .u64 v.id, .int .u64 v.gen, .int .u64 v.dl, .int .u64 v.tick])) false (a + 1) b false) rfl ?_ (fun fr cs es h => step_lone_select_send_room h hch (by simpa using hr)) ?_
  · have hz := fun w => fire_zero w
    simp [go_sem, execOp, scase, Act.eval, hz]
  · have HT := Lib.hid (HT.out.setChan 1 (by simp) rfl p.room ((p.ch.map fun f => Value.agg f.vals.toArray).toArray.push (.agg #[.int .u64 v.id, .int .u64 v.gen, .int .u64 v.dl, .int .u64 v.tick])) false (a + 1) b false)
    generalize World.setChan _ _ _ _ _ _ _ _ = w2 at HT ⊢
    simp only [goInt]
    go_wp2
    refine wpN_of_wp ?_
    go_wp2
    go_ret
    exact ⟨_, ⟨rfl, _, ⟨cb, lb, hb, a + 1, b, l, gl, H1.out, H2.out, rfl⟩, rfl⟩, (HT.out.pick [0, 1, 2] rfl).eq (by simp [pickG, FireS.vals])⟩
set_option maxRecDepth 100000 in
theorem pipeSend_no (hg : isPipe pb p g) (v : FireS) (hr : p.room ≤ p.ch.length) : DoesG Try.prog 58 #[ptr' pb, .agg v.vals.toArray] [g] fun e gs =>
    e = .returned (.bool false) ∧ ∃ g', isPipe pb p g' ∧ gs = [g'] := by
  obtain ⟨cb, lb, hb, a, b, l, gl, h1, h2, rfl⟩ := hg
  intro w hw
  have T0 := TG.refl hw
  have HT := Lib.hid T0
  clear hw T0
  have HT := Lib.hid (HT.out.sum (H' := [pipeB pb cb lb p, [(cb, .chan p.room (p.ch.map fun f => Value.agg f.vals.toArray).toArray false a b false)], gl]) (fun n ha h0 h1 h2 => by simp only [SU, ha, h0, h1, h2] <;> omega))
  have H1 := Lib.hid h1
  have H2 := Lib.hid h2
  have c0 := HT.out.cell 0 0 rfl 0
  simp only [pipeB, List.getElem?_toArray, List.getElem?_cons_zero, List.getElem?_cons_succ] at c0
  have hch := HT.out.obj 1 0 rfl
  simp only [] at hch
  have lt := HT.out.lt 0 0 rfl
  simp only [] at lt
  clear h1 h2
  simp only [FireS.vals]
  refine calls_of_wpN Try.func58 rfl ?_
  simp only [Try.ntmps58, List.size_toArray, List.length_cons, List.length_nil, Nat.reduceAdd, Nat.reduceSub, Array.replicate_succ, Array.replicate_zero, List.push_toArray, List.append_toArray, List.nil_append, List.cons_append]
  refine wpN_seq (wpN_of_wp ?_)
  go_wp2
  have HT := Lib.hid (HT.out.alloc (k := w.heap.size) rfl 68 #[.int .u64 v.id, .int .u64 v.gen, .int .u64 v.dl, .int .u64 v.tick])
  clear c0 hch
  generalize w.alloc _ = w1 at HT ⊢
  have c0 := HT.out.cell 0 0 rfl 0
  simp only [pipeB, List.getElem?_toArray, List.getElem?_cons_zero, List.getElem?_cons_succ] at c0
  have b0 := HT.out.cell 3 0 rfl 0
  have b1 := HT.out.cell 3 0 rfl 1
  have b2 := HT.out.cell 3 0 rfl 2
  have b3 := HT.out.cell 3 0 rfl 3
  simp only [List.getElem?_nil, List.getElem?_toArray, List.getElem?_cons_zero, List.getElem?_cons_succ] at b0 b1 b2 b3
  have hch := HT.out.obj 1 0 rfl
  simp only [] at hch
  refine wpN_seq (wpN_of_wp ?_)
  go_wp2
  refine wpN_seq ?_
  refine wpN_region_comm (cases := #[scase cb (.agg #[.int .u64 v.id, .int .u64 v.gen, .int .u64 v.dl, .int .u64 v.tick]) (.agg #[.int .u64 0, .int .u64 0, .int .u64 0, .int .u64 0])]) (blocking := false) (shape := .select) (v := .tuple #[goInt (-1), .bool false]) (w1 := w1) (w' := w1) rfl ?_ (fun fr cs es h => step_lone_select_send_full h hch (by simpa using hr)) ?_
  · have hz := fun w => fire_zero w
    simp [go_sem, execOp, scase, Act.eval, hz]
  · simp only [goInt]
    go_wp2
    refine wpN_of_wp ?_
    go_wp2
    go_ret
    exact ⟨_, ⟨rfl, _, ⟨cb, lb, hb, a, b, l, gl, H1.out, H2.out, rfl⟩, rfl⟩, (HT.out.pick [0, 1, 2] rfl).eq (by simp [pickG, FireS.vals])⟩
end
end Go.Proofs.Ytnemggminanbbaa
