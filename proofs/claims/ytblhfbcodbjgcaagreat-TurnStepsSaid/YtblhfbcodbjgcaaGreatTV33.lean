import Derived.Test.YtblhfbcodbjgcaaGreatTV32
import Derived.Conc.LoneCalls
import Derived.Test.YtblhfbcodbjgcaaGreatTV23
namespace Go.Proofs.YtblhfbcodbjgcaaGreat
set_option linter.unusedVariables false
set_option linter.unusedSimpArgs false
open Go.RowKit Go.Shelf Go.Conc
attribute [local go_sem] Oper.semAt_some
def PipeS.all (p : PipeS) : List FireS := p.ch ++ p.sp
def PipeS.rot (p : PipeS) (k : Nat) : PipeS := { p with ch := p.ch.drop k ++ p.ch.take k }
def itPipe (p : PipeS) (bx pb : Nat) : ItS where
  σ := Nat
  O k H := ∃ g, isPipe pb (p.rot k) g ∧ H = [[cl bx 66 #[ptr' pb]], g]
  T _ _ := True
  step k x G k' := (∃ f, p.all[k]? = some f ∧ x = #[.agg f.vals.toArray]) ∧ G = [] ∧ k' = k + 1
  fin k := k = p.all.length
def chF (l : List FireS) : Array Value := (l.map fun f => Value.agg f.vals.toArray).toArray
def pipeR (p : PipeS) (bx pb cb lb : Nat) (gl : List Blk) (H0 : GH) (W : World) (J Jx : Nat → GH → Prop) (base : GH) (k : Nat) (m : Bool) (w : World) : Prop :=
  ∃ H a b, ((m = true ∧ J k H) ∨ (m = false ∧ ∃ s, Jx s H)) ∧ TG base W ([[cl bx 66 #[ptr' pb]], pipeB pb cb lb p, [(cb, .chan p.room (chF (p.ch.drop k ++ p.ch.take k)) false a b false)], gl] ++ H) w
theorem rot_at (l : List FireS) {k : Nat} {f : FireS} (h : l[k]? = some f) : l.drop k ++ l.take k = f :: (l.drop (k + 1) ++ l.take k) ∧ (l.drop (k + 1) ++ l.take k) ++ [f] = l.drop (k + 1) ++ l.take (k + 1) := by
  obtain ⟨h1, h2⟩ := List.getElem?_eq_some_iff.1 h
  rw [List.drop_eq_getElem_cons h1, List.take_succ_eq_append_getElem h1, h2]
  simp
theorem chF_push (f : FireS) (l : List FireS) : (chF l).push (Value.agg f.vals.toArray) = chF (l ++ [f]) := by simp [chF]
theorem chF_size (l : List FireS) : (chF l).size = l.length := by simp [chF]
theorem fires_at : ∀ (l : List FireS) (j : Nat) (f : FireS) (i : Nat), l[j]? = some f → i < 4 → (fires l)[j * 4 + i]? = f.vals[i]?
  | [], j, f, i, h, _ => by cases h
  | a :: l, 0, f, i, h, hi => by
    cases h
    show (a.vals ++ fires l)[0 * 4 + i]? = _
    rw [List.getElem?_append_left (by show 0 * 4 + i < 4; omega)]
    simp
  | a :: l, j + 1, f, i, h, hi => by
    show (a.vals ++ fires l)[(j + 1) * 4 + i]? = _
    rw [List.getElem?_append_right (by show 4 ≤ (j + 1) * 4 + i; omega)]
    have := fires_at l j f i h hi
    rw [← this]
    congr 1
    show (j + 1) * 4 + i - 4 = _
    omega
theorem use_keyW {G : Prop} {P A : World → Prop} (main : (∀ w2, A w2 → P w2) → G) (key : ∀ w2, A w2 → P w2) : G := main key
set_option maxRecDepth 100000 in
set_option maxHeartbeats 4000000 in
theorem pipe_iter (bx pb : Nat) (p : PipeS) (hn : p.ch.length ≤ 1000000 ∧ p.sp.length ≤ 1000000) (hc : p.ch.length ≤ p.room) :
    IterY Tryz.prog 176 #[ptr' bx] (itPipe p bx pb) (0 : Nat) := by
  intro ly J Jx hT hY H0 O0 W hJ0 hO hH
  obtain ⟨g, hg, rfl⟩ : ∃ g, isPipe pb (p.rot 0) g ∧ O0 = [[cl bx 66 #[ptr' pb]], g] := hO
  obtain ⟨cb, lb, hb, a, b, l, gl, h1, h2, rfl⟩ := hg
  obtain ⟨base, hbase⟩ : ∃ base, base = H0 ++ [[cl bx 66 #[ptr' pb]], pipeB pb cb lb (p.rot 0) ++ ([(cb, .chan (p.rot 0).room ((p.rot 0).ch.map fun f => Value.agg f.vals.toArray).toArray false a b false)] ++ gl)] := ⟨_, rfl⟩
  rw [← hbase] at hH ⊢
  have h0 : pipeR p bx pb cb lb gl H0 W J Jx base 0 true W := by
    refine ⟨H0, a, b, .inl ⟨rfl, hJ0⟩, (TG.refl hH).re ?_⟩
    rw [hbase]
    simp only [PipeS.rot, List.drop_zero, List.take_zero, List.append_nil, chF, pipeB, List.flatten_append, List.flatten_cons, List.flatten_nil, List.cons_append, List.nil_append, List.append_assoc]
    exact (List.perm_append_comm (l₁ := H0.flatten) (l₂ := _)).trans (by simp)
  have HY := Lib.hid hY
  have HL := Lib.hid (And.intro h1 h2)
  have HA := Lib.hid (listAll_g h1 p.sp h2 hn.2)
  have HN := Lib.hid hn
  have HC := Lib.hid hc
  have H00 := Lib.hid h0
  obtain ⟨H, a1, b1, hmode, T⟩ := h0
  have c0 := T.cell 0 0 rfl 0
  have p0 := T.cell 1 0 rfl 0
  have hch := T.obj 2 0 rfl
  simp only [List.drop_zero, List.take_zero, List.append_nil, List.getElem?_toArray, List.getElem?_cons_zero] at c0 p0 hch
  have hlc := len_chan cb p.room _ false a1 b1 W hch
  rw [chF_size] at hlc
  have HBS := Lib.hid hbase
  clear h1 h2 hH hY hT hJ0 hn hc hbase T hmode hch
  refine calls_of_wpN Tryz.func176 rfl ?_
  simp only [Tryz.ntmps176, List.size_toArray, List.length_cons, List.length_nil, Nat.reduceAdd, Nat.reduceSub, Array.replicate_succ, Array.replicate_zero, List.push_toArray, List.append_toArray, List.nil_append, List.cons_append]
  refine wpN_seq (wpN_of_wp ?_)
  go_wp2
  refine wpN_seq (wpN_of_wp ?_)
  go_wp2
  refine wpN_seq (wpN_seq (wpN_of_wp ?_))
  go_wp2
  clear c0 p0 hlc
  refine wpN_block ?_
  refine wpN_loop (fun a w => ∃ (k : Nat) (m : Bool) (u4 u15 u16 u17 u18 u19 u20 u21 u22 u23 u24 u25 u26 u27 u28 u29 u30 u31 u32 : Value), k ≤ p.ch.length ∧ pipeR p bx pb cb lb gl H0 W J Jx base k m w ∧
      a = { tmps := #[.func (.yield ly) #[] #[], ptr' bx, undef, .bool m, u4, undef, undef, ptr' pb, .bool false, ptr' pb, ptr' pb, ptr' pb, .chan (some cb), .int .i64 p.ch.length, .int .i64 k, u15, u16, u17, u18, u19, u20, u21, u22, u23, u24, u25, u26, u27, u28, u29, u30, u31, u32,
        undef, undef, undef, undef, undef, undef, undef, undef, undef, undef, undef, undef, undef, undef, undef, undef, undef, undef, undef], defers := [] }) (fun a _ => p.ch.length - (intOf (a.tmps.getD 14 undef)).toNat) ?_ ?_
  · refine ⟨0, true, undef, undef, undef, undef, undef, undef, undef, undef, undef, undef, undef, undef, undef, undef, undef, undef, undef, undef, undef, Nat.zero_le _, H00.out, ?_⟩
    rfl
  · rintro a w ⟨k, m, u4, u15, u16, u17, u18, u19, u20, u21, u22, u23, u24, u25, u26, u27, u28, u29, u30, u31, u32, hk, hR, rfl⟩
    have HNN := HN.out
    by_cases hlt : k < p.ch.length
    · obtain ⟨f, hf⟩ : ∃ f, p.ch[k]? = some f := ⟨_, List.getElem?_eq_getElem hlt⟩
      obtain ⟨e1, e2⟩ := rot_at p.ch hf
      obtain ⟨tl, htl⟩ : ∃ tl, p.ch.drop (k + 1) ++ p.ch.take k = tl := ⟨_, rfl⟩
      rw [htl] at e1 e2
      obtain ⟨H, a1, b1, hmode, T⟩ := hR
      rw [e1] at T
      have c0 := T.cell 0 0 rfl 0
      have p0 := T.cell 1 0 rfl 0
      have hch := T.obj 2 0 rfl
      simp only [List.getElem?_toArray, List.getElem?_cons_zero] at c0 p0 hch
      have HT := Lib.hid T
      have HM := Lib.hid hmode
      have HE := Lib.hid e2
      have HF := Lib.hid hf
      have hct : (decide ((k : Int) < (p.ch.length : Int))) = true := decide_eq_true (by omega)
      have hrm : (chF tl).size < p.room := by
        rw [chF_size, ← htl, List.length_append, List.length_drop, List.length_take]
        have := HC.out
        omega
      have HRM := Lib.hid hrm
      clear T hmode e1 e2 hf htl hrm
      refine wpN_seq (wpN_of_wp ?_)
      go_wp2
      refine wpN_seq (wpN_cond (t := true) (by simp [Act.eval, hct]) (wpN_of_wp ?_))
      simp only [if_true]
      go_wp2
      refine wpN_seq (wpN_block (wpN_seq (wpN_region_no ?_)))
      show wpNO _ _ _ [0, 1, 2, 3, 4, 5, 6] _ _
      refine wpNO_val (v := ptr' pb) (w' := w) rfl rfl (by simp [go_sem, execOp, Act.eval, c0]) ?_
      refine wpNO_val (v := ptr' pb) (w' := w) rfl rfl (by simp [go_sem, execOp, Act.eval, Act.put]) ?_
      refine wpNO_val (v := ptr' pb) (w' := w) rfl rfl (by simp [go_sem, execOp, Act.eval, Act.put]) ?_
      refine wpNO_val (v := .chan (some cb)) (w' := w) rfl rfl (by simp [go_sem, execOp, Act.eval, Act.put, p0]) ?_
      simp only [chF, List.map_cons] at hch
      refine wpNO_comm (cases := #[rcase cb (.agg #[.int .u64 0, .int .u64 0, .int .u64 0, .int .u64 0])]) (blocking := true) (shape := .recv false) (v := .agg #[.int .u64 f.id, .int .u64 f.gen, .int .u64 f.dl, .int .u64 f.tick]) (w1 := w) (w' := w.setChan cb p.room (tl.map fun f => Value.agg f.vals.toArray).toArray false a1 (b1 + 1) false) rfl rfl ?_ (fun fr cs es h => by
        have := step_lone_recv_buf false h hch (by simp)
        simpa [got, vals_arr, List.take_of_length_le] using this) ?_
      · have hz := fun w => fire_zero w
        simp [go_sem, execOp, rcase, Act.eval, Act.put, hz]
      have HT := Lib.hid (HT.out.setChan 2 (by simp) rfl p.room (tl.map fun f => Value.agg f.vals.toArray).toArray false a1 (b1 + 1) false)
      simp only [List.cons_append, List.nil_append, List.set_cons_succ, List.set_cons_zero] at HT
      generalize World.setChan _ _ _ _ _ _ _ _ = w3 at HT ⊢
      clear c0 p0 hch
      show wpNO _ _ _ (List.range' 5 (7 - 5)) _ _
      refine wpNO_tail 5 (by decide) ?_
      change wpList _ _ _ (_ :: _ :: []) _ _
      go_wp2_with fail
      have HT := Lib.hid (HT.out.alloc (k := w3.heap.size) rfl 69 #[.int .u64 f.id, .int .u64 f.gen, .int .u64 f.dl, .int .u64 f.tick])
      obtain ⟨vb, hvb⟩ : ∃ vb, vb = w3.heap.size := ⟨_, rfl⟩
      rw [← hvb] at HT ⊢
      clear hvb
      generalize World.alloc w3 _ = w4 at HT ⊢
      simp only [List.cons_append, List.nil_append] at HT
      have HT := Lib.hid (HT.out.re (H' := [[cl bx 66 #[ptr' pb]], pipeB pb cb lb p, [(cb, .chan p.room (chF tl) false a1 (b1 + 1) false)], gl, [cl vb 69 #[.int .u64 f.id, .int .u64 f.gen, .int .u64 f.dl, .int .u64 f.tick]]] ++ H) (by
        simp only [List.flatten_append, List.flatten_cons, List.flatten_nil, List.cons_append, List.nil_append, List.append_assoc, List.append_nil]
        refine List.Perm.cons _ (List.Perm.cons _ (List.Perm.cons _ (List.Perm.append_left _ ?_)))
        exact List.perm_append_comm (l₁ := H.flatten) (l₂ := [_])))
      refine wpN_seq ?_
      apply use_keyW (A := fun w6 => TG base W ([[cl bx 66 #[ptr' pb]], pipeB pb cb lb p, [(cb, .chan p.room (chF (p.ch.drop (k + 1) ++ p.ch.take (k + 1))) false (a1 + 1) (b1 + 1) false)], gl, [cl vb 69 #[.int .u64 f.id, .int .u64 f.gen, .int .u64 f.dl, .int .u64 f.tick]]] ++ H) w6)
      · intro HK
        refine (wpN_region_orders rfl [[0, 1, 2, 3, 4, 5], [0, 1, 2, 4, 3, 5], [0, 1, 4, 2, 3, 5], [0, 4, 1, 2, 3, 5], [4, 0, 1, 2, 3, 5]] (by kernel_rfl) ?_)
        have HTD := Lib.hid HT.out.drew
        generalize World.drew w4 = w5 at HTD ⊢
        have c0 := HTD.out.cell 0 0 rfl 0
        have p0 := HTD.out.cell 1 0 rfl 0
        have v0 := HTD.out.cell 4 0 rfl 0
        have v1 := HTD.out.cell 4 0 rfl 1
        have v2 := HTD.out.cell 4 0 rfl 2
        have v3 := HTD.out.cell 4 0 rfl 3
        have hch := HTD.out.obj 2 0 rfl
        simp only [List.getElem?_toArray, List.getElem?_cons_zero, List.getElem?_cons_succ] at c0 p0 hch v0 v1 v2 v3
        have T6 := HTD.out.setChan 2 (by simp) rfl p.room ((chF tl).push (.agg #[.int .u64 f.id, .int .u64 f.gen, .int .u64 f.dl, .int .u64 f.tick])) false (a1 + 1) (b1 + 1) false
        rw [show (chF tl).push (.agg #[.int .u64 f.id, .int .u64 f.gen, .int .u64 f.dl, .int .u64 f.tick]) = chF (p.ch.drop (k + 1) ++ p.ch.take (k + 1)) from by rw [← HE.out, ← chF_push]; rfl] at T6
        simp only [List.cons_append, List.nil_append, List.set_cons_succ, List.set_cons_zero] at T6
        obtain ⟨w6, hw6⟩ : ∃ w6, w6 = w5.setChan cb p.room (chF (p.ch.drop (k + 1) ++ p.ch.take (k + 1))) false (a1 + 1) (b1 + 1) false := ⟨_, rfl⟩
        rw [← hw6] at T6
        have hpush : (chF tl).push (.agg #[.int .u64 f.id, .int .u64 f.gen, .int .u64 f.dl, .int .u64 f.tick]) = chF (p.ch.drop (k + 1) ++ p.ch.take (k + 1)) := by rw [← HE.out, ← chF_push]; rfl
        simp only [List.mem_cons, List.not_mem_nil, or_false, forall_eq_or_imp, forall_eq]
        refine ⟨?_, ?_, ?_, ?_, ?_⟩
        · refine wpNO_val (v := ptr' pb) (w' := w5) rfl rfl (by simp [go_sem, execOp, Act.eval, Act.put, c0]) ?_
          refine wpNO_val (v := ptr' pb) (w' := w5) rfl rfl (by simp [go_sem, execOp, Act.eval, Act.put, c0]) ?_
          refine wpNO_val (v := ptr' pb) (w' := w5) rfl rfl (by simp [go_sem, execOp, Act.eval, Act.put, c0]) ?_
          refine wpNO_val (v := .chan (some cb)) (w' := w5) rfl rfl (by simp [go_sem, execOp, Act.eval, Act.put, p0]) ?_
          refine wpNO_val (v := .agg #[.int .u64 f.id, .int .u64 f.gen, .int .u64 f.dl, .int .u64 f.tick]) (w' := w5) rfl rfl (by simp [go_sem, execOp, Act.eval, Act.put, v0, v1, v2, v3]) ?_
          refine wpNO_comm (cases := #[scase cb (.agg #[.int .u64 f.id, .int .u64 f.gen, .int .u64 f.dl, .int .u64 f.tick]) (.tuple #[])]) (blocking := true) (shape := .send) (v := undef) (w1 := w5) (w' := w6) rfl rfl ?_ (fun fr cs es h => by rw [hw6, ← hpush]; exact step_lone_send_room h hch HRM.out) ?_
          · simp [go_sem, execOp, scase, Act.eval, Act.put]
          exact wpNO_nil (HK _ T6)
        · refine wpNO_val (v := ptr' pb) (w' := w5) rfl rfl (by simp [go_sem, execOp, Act.eval, Act.put, c0]) ?_
          refine wpNO_val (v := ptr' pb) (w' := w5) rfl rfl (by simp [go_sem, execOp, Act.eval, Act.put, c0]) ?_
          refine wpNO_val (v := ptr' pb) (w' := w5) rfl rfl (by simp [go_sem, execOp, Act.eval, Act.put, c0]) ?_
          refine wpNO_val (v := .agg #[.int .u64 f.id, .int .u64 f.gen, .int .u64 f.dl, .int .u64 f.tick]) (w' := w5) rfl rfl (by simp [go_sem, execOp, Act.eval, Act.put, v0, v1, v2, v3]) ?_
          refine wpNO_val (v := .chan (some cb)) (w' := w5) rfl rfl (by simp [go_sem, execOp, Act.eval, Act.put, p0]) ?_
          refine wpNO_comm (cases := #[scase cb (.agg #[.int .u64 f.id, .int .u64 f.gen, .int .u64 f.dl, .int .u64 f.tick]) (.tuple #[])]) (blocking := true) (shape := .send) (v := undef) (w1 := w5) (w' := w6) rfl rfl ?_ (fun fr cs es h => by rw [hw6, ← hpush]; exact step_lone_send_room h hch HRM.out) ?_
          · simp [go_sem, execOp, scase, Act.eval, Act.put]
          exact wpNO_nil (HK _ T6)
        · refine wpNO_val (v := ptr' pb) (w' := w5) rfl rfl (by simp [go_sem, execOp, Act.eval, Act.put, c0]) ?_
          refine wpNO_val (v := ptr' pb) (w' := w5) rfl rfl (by simp [go_sem, execOp, Act.eval, Act.put, c0]) ?_
          refine wpNO_val (v := .agg #[.int .u64 f.id, .int .u64 f.gen, .int .u64 f.dl, .int .u64 f.tick]) (w' := w5) rfl rfl (by simp [go_sem, execOp, Act.eval, Act.put, v0, v1, v2, v3]) ?_
          refine wpNO_val (v := ptr' pb) (w' := w5) rfl rfl (by simp [go_sem, execOp, Act.eval, Act.put, c0]) ?_
          refine wpNO_val (v := .chan (some cb)) (w' := w5) rfl rfl (by simp [go_sem, execOp, Act.eval, Act.put, p0]) ?_
          refine wpNO_comm (cases := #[scase cb (.agg #[.int .u64 f.id, .int .u64 f.gen, .int .u64 f.dl, .int .u64 f.tick]) (.tuple #[])]) (blocking := true) (shape := .send) (v := undef) (w1 := w5) (w' := w6) rfl rfl ?_ (fun fr cs es h => by rw [hw6, ← hpush]; exact step_lone_send_room h hch HRM.out) ?_
          · simp [go_sem, execOp, scase, Act.eval, Act.put]
          exact wpNO_nil (HK _ T6)
        · refine wpNO_val (v := ptr' pb) (w' := w5) rfl rfl (by simp [go_sem, execOp, Act.eval, Act.put, c0]) ?_
          refine wpNO_val (v := .agg #[.int .u64 f.id, .int .u64 f.gen, .int .u64 f.dl, .int .u64 f.tick]) (w' := w5) rfl rfl (by simp [go_sem, execOp, Act.eval, Act.put, v0, v1, v2, v3]) ?_
          refine wpNO_val (v := ptr' pb) (w' := w5) rfl rfl (by simp [go_sem, execOp, Act.eval, Act.put, c0]) ?_
          refine wpNO_val (v := ptr' pb) (w' := w5) rfl rfl (by simp [go_sem, execOp, Act.eval, Act.put, c0]) ?_
          refine wpNO_val (v := .chan (some cb)) (w' := w5) rfl rfl (by simp [go_sem, execOp, Act.eval, Act.put, p0]) ?_
          refine wpNO_comm (cases := #[scase cb (.agg #[.int .u64 f.id, .int .u64 f.gen, .int .u64 f.dl, .int .u64 f.tick]) (.tuple #[])]) (blocking := true) (shape := .send) (v := undef) (w1 := w5) (w' := w6) rfl rfl ?_ (fun fr cs es h => by rw [hw6, ← hpush]; exact step_lone_send_room h hch HRM.out) ?_
          · simp [go_sem, execOp, scase, Act.eval, Act.put]
          exact wpNO_nil (HK _ T6)
        · refine wpNO_val (v := .agg #[.int .u64 f.id, .int .u64 f.gen, .int .u64 f.dl, .int .u64 f.tick]) (w' := w5) rfl rfl (by simp [go_sem, execOp, Act.eval, Act.put, v0, v1, v2, v3]) ?_
          refine wpNO_val (v := ptr' pb) (w' := w5) rfl rfl (by simp [go_sem, execOp, Act.eval, Act.put, c0]) ?_
          refine wpNO_val (v := ptr' pb) (w' := w5) rfl rfl (by simp [go_sem, execOp, Act.eval, Act.put, c0]) ?_
          refine wpNO_val (v := ptr' pb) (w' := w5) rfl rfl (by simp [go_sem, execOp, Act.eval, Act.put, c0]) ?_
          refine wpNO_val (v := .chan (some cb)) (w' := w5) rfl rfl (by simp [go_sem, execOp, Act.eval, Act.put, p0]) ?_
          refine wpNO_comm (cases := #[scase cb (.agg #[.int .u64 f.id, .int .u64 f.gen, .int .u64 f.dl, .int .u64 f.tick]) (.tuple #[])]) (blocking := true) (shape := .send) (v := undef) (w1 := w5) (w' := w6) rfl rfl ?_ (fun fr cs es h => by rw [hw6, ← hpush]; exact step_lone_send_room h hch HRM.out) ?_
          · simp [go_sem, execOp, scase, Act.eval, Act.put]
          exact wpNO_nil (HK _ T6)
      · intro w6 T6
        have HT6 := Lib.hid T6
        have v0 := T6.cell 4 0 rfl 0
        have v1 := T6.cell 4 0 rfl 1
        have v2 := T6.cell 4 0 rfl 2
        have v3 := T6.cell 4 0 rfl 3
        simp only [List.getElem?_toArray, List.getElem?_cons_zero, List.getElem?_cons_succ] at v0 v1 v2 v3
        clear T6
        have hkk : k < 1000000 := by omega
        have HK1 := Lib.hid (show k + 1 ≤ p.ch.length ∧ p.ch.length - (k + 1) < p.ch.length - k by omega)
        generalize hplen : p.ch.length = n at *
        have hnk : k ≤ n := hk
        have HDR := Lib.hid (show ∀ (H' : GH) (W' : World) (m' : Bool), TG base W ([[cl bx 66 #[ptr' pb]], pipeB pb cb lb p, [(cb, .chan p.room (chF (p.ch.drop (k + 1) ++ p.ch.take (k + 1))) false (a1 + 1) (b1 + 1) false)], gl, [cl vb 69 #[.int .u64 f.id, .int .u64 f.gen, .int .u64 f.dl, .int .u64 f.tick]]] ++ H') W' →
            ((m' = true ∧ J (k + 1) H') ∨ (m' = false ∧ ∃ s, Jx s H')) → pipeR p bx pb cb lb gl H0 W J Jx base (k + 1) m' W' from fun H' W' m' T7 hm' => ⟨H', a1 + 1, b1 + 1, hm', TG.dropLast (b := [cl vb 69 #[.int .u64 f.id, .int .u64 f.gen, .int .u64 f.dl, .int .u64 f.tick]]) (T7.re (by
          simp only [List.flatten_append, List.flatten_cons, List.flatten_nil, List.cons_append, List.nil_append, List.append_assoc, List.append_nil]
          refine List.Perm.cons _ (List.Perm.cons _ (List.Perm.cons _ (List.Perm.append_left _ ?_)))
          exact (List.perm_append_comm (l₁ := H'.flatten) (l₂ := [_])).symm))⟩)
        cases m with
        | true =>
          have hj : J k H := by
            rcases HM.out with ⟨_, h⟩ | ⟨h, _⟩
            · exact h
            · cases h
          have hall : p.all[k]? = some f := by
            unfold PipeS.all
            rw [List.getElem?_append_left (by omega)]
            exact HF.out
          have hy0 := HY.out k #[.agg f.vals.toArray] [] (k + 1) H w6 hj ⟨⟨f, hall, rfl⟩, rfl, rfl⟩ (by rw [List.append_nil]; exact HT6.out.has.right)
          obtain ⟨fn, tmps, assign, body, hy, hR⟩ := yield_any (n := 8) hy0
          have HRR := Lib.hid hR
          rw [vals_arr] at hy
          clear hy0 hR hall hj hlt
          refine wpN_of_wp ((wpIn_wide (n := 9)).1 ?_)
          gi_wp2
          refine HRR.out.mono ?_
          rintro e W' ⟨H', hT', hj'⟩
          have T7 := HT6.out.trans ((hT'.app (a' := H) (by simp)).frameL HT6.out.has)
          rcases hj' with ⟨rfl, hj'⟩ | ⟨rfl, hj'⟩
          · have HRN := Lib.hid (HDR.out H' W' true T7 (.inl ⟨rfl, hj'⟩))
            clear hT' T7 hj' hy v0 v1 v2 v3
            gi_wp2
            refine wpN_of_wp ?_
            go_wp2
            refine ⟨⟨k + 1, true, _, _, _, _, _, _, _, _, _, _, _, _, _, _, _, _, _, _, _, HK1.out.1, HRN.out, rfl⟩, ?_⟩
            have h9 := HK1.out.2
            simp [intOf]; omega
          · have HRN := Lib.hid (HDR.out H' W' false T7 (.inr ⟨rfl, _, hj'⟩))
            clear hT' T7 hj' hy v0 v1 v2 v3
            gi_wp2
            refine wpN_of_wp ?_
            go_wp2
            refine ⟨⟨k + 1, false, _, _, _, _, _, _, _, _, _, _, _, _, _, _, _, _, _, _, _, HK1.out.1, HRN.out, rfl⟩, ?_⟩
            have h9 := HK1.out.2
            simp [intOf]; omega
        | false =>
          have hx : ∃ s, Jx s H := by
            rcases HM.out with ⟨h, _⟩ | ⟨_, h⟩
            · cases h
            · exact h
          have HRN := Lib.hid (HDR.out H w6 false HT6.out (.inr ⟨rfl, hx⟩))
          clear hx hlt
          refine wpN_of_wp ((wpIn_wide (n := 9)).1 ?_)
          gi_wp2
          refine ⟨fun f hf => (by cases hf), ?_⟩
          gi_wp2
          refine wpN_of_wp ?_
          go_wp2
          refine ⟨⟨k + 1, false, _, _, _, _, _, _, _, _, _, _, _, _, _, _, _, _, _, _, _, HK1.out.1, HRN.out, rfl⟩, ?_⟩
          have h9 := HK1.out.2
          simp [intOf]; omega
    · obtain rfl : k = p.ch.length := by omega
      obtain ⟨H, a1, b1, hmode, T⟩ := hR
      rw [List.drop_length, List.take_length, List.nil_append] at T
      have c0 := T.cell 0 0 rfl 0
      have p1 := T.cell 1 0 rfl 1
      simp only [List.getElem?_toArray, List.getElem?_cons_zero, List.getElem?_cons_succ] at c0 p1
      have HT := Lib.hid T
      have HM := Lib.hid hmode
      generalize hplen : p.ch.length = n at *
      have HPL := Lib.hid hplen
      clear T hmode hlt hplen
      refine wpN_seq (wpN_of_wp ?_)
      go_wp2
      refine wpN_seq (wpN_cond (t := false) (by simp [Act.eval]) (wpN_of_wp ?_))
      simp only [Bool.false_eq_true, if_false]
      go_wp2
      refine wpN_seq (wpN_of_wp ?_)
      go_wp2_with fail
      refine (DoesG.use HA.out HT.out [3] rfl rfl).mono ?_
      rintro e w1 ⟨gs, ⟨v, gr, rfl, hr, rfl⟩, Ta⟩
      obtain ⟨av, cap, hv⟩ := rowG.val hr
      subst hv
      have HR := Lib.hid hr
      have HT := Lib.hid (TG.re (H' := [[cl bx 66 #[ptr' pb]], pipeB pb cb lb p, [(cb, .chan p.room (chF p.ch) false a1 b1 false)], gl, gr] ++ H) Ta (by
        simp only [PU, List.flatten_append, List.flatten_cons, List.flatten_nil, List.cons_append, List.nil_append, List.append_assoc, List.append_nil]
        refine List.Perm.cons _ (List.Perm.cons _ (List.Perm.cons _ (List.Perm.append_left _ ?_)))
        exact List.perm_append_comm (l₁ := H.flatten) (l₂ := gr)))
      clear Ta hr c0 p1
      go_wp2
      generalize hspl : p.sp.length = sl at *
      have HSL := Lib.hid hspl
      refine wpN_of_wp ((wpIn_wide (n := 9)).1 ?_)
      gi_wp2
      gi_loopw [39] (fun i wr => ∃ (j : Nat) (H : GH), j ≤ sl ∧ i = .int .i64 j ∧ ((m = true ∧ J (n + j) H) ∨ (m = false ∧ ∃ s, Jx s H)) ∧ TG base W ([[cl bx 66 #[ptr' pb]], pipeB pb cb lb p, [(cb, .chan p.room (chF p.ch) false a1 b1 false)], gl, gr] ++ H) wr) (fun i _ => sl + 1 - (intOf i).toNat)
      case atStart => exact ⟨0, H, Nat.zero_le _, rfl, HM.out, HT.out⟩
      case round =>
        obtain ⟨j, H, hj, rfl, hmode, T⟩ := hrel
        by_cases hlt : j < sl
        · obtain ⟨f, hf⟩ : ∃ f, p.sp[j]? = some f := ⟨_, List.getElem?_eq_getElem (by rw [HSL.out]; exact hlt)⟩
          obtain ⟨rb, cap', cur, hv, rfl, _, hcm, _, hcur⟩ := HR.out.open (by omega)
          cases hv
          have r0 := (T.cell 4 0 rfl (j * 4)).trans ((hcur (j * 4) (by omega)).trans (fires_at p.sp j f 0 hf (by decide)))
          have r1 := (T.cell 4 0 rfl (j * 4 + 1)).trans ((hcur (j * 4 + 1) (by omega)).trans (fires_at p.sp j f 1 hf (by decide)))
          have r2 := (T.cell 4 0 rfl (j * 4 + 2)).trans ((hcur (j * 4 + 2) (by omega)).trans (fires_at p.sp j f 2 hf (by decide)))
          have r3 := (T.cell 4 0 rfl (j * 4 + 3)).trans ((hcur (j * 4 + 3) (by omega)).trans (fires_at p.sp j f 3 hf (by decide)))
          simp only [FireS.vals, List.getElem?_cons_zero, List.getElem?_cons_succ] at r0 r1 r2 r3
          have HT := Lib.hid T
          cases m with
          | true =>
            have hjj : J (n + j) H := by
              rcases hmode with ⟨_, h⟩ | ⟨h, _⟩
              · exact h
              · cases h
            have hall : p.all[n + j]? = some f := by
              unfold PipeS.all
              rw [List.getElem?_append_right (by rw [HPL.out]; omega), HPL.out, show n + j - n = j by omega]
              exact hf
            have T2 := HT.out.alloc0 (.cells #[.int .u64 f.id, .int .u64 f.gen, .int .u64 f.dl, .int .u64 f.tick] 69)
            have hy0 := HY.out (n + j) #[.agg f.vals.toArray] [] (n + j + 1) H _ hjj ⟨⟨f, hall, rfl⟩, rfl, rfl⟩ (by rw [List.append_nil]; exact T2.has.right)
            obtain ⟨fn, tmps, assign, body, hy, hR⟩ := yield_any (n := 8) hy0
            have HRR := Lib.hid hR
            have HT2 := Lib.hid T2
            rw [vals_arr] at hy
            clear hmode T hf hcur HM hy0 hR hall hjj T2 HT
            gi_wp2
            refine HRR.out.mono ?_
            rintro e W' ⟨H', hT', hj'⟩
            have T7 := HT2.out.trans ((hT'.app (a' := H) (by simp)).frameL HT2.out.has)
            have HT7 := Lib.hid T7
            rcases hj' with ⟨rfl, hj'⟩ | ⟨rfl, hj'⟩
            · have HJ := Lib.hid hj'
              clear hT' T7 hj' hy r0 r1 r2 r3
              gi_wp2
              go_roundw
              case rel => exact ⟨j + 1, H', by omega, by go_num, .inl ⟨by trivial, HJ.out⟩, HT7.out⟩
              case measure => simp [intOf]; omega
            · have HJ := Lib.hid hj'
              clear hT' T7 hj' hy r0 r1 r2 r3
              gi_wp2
              refine bodyPost_ret (results_none rfl _ _ _) rfl ?_
              exact ⟨⟨_, rfl⟩, n + j + 1, H', _, HT7.out.re (by
                rw [List.flatten_append, List.flatten_append]; exact List.perm_append_comm), .inr HJ.out⟩
          | false =>
            have hx : ∃ s, Jx s H := by
              rcases hmode with ⟨h, _⟩ | ⟨_, h⟩
              · cases h
              · exact h
            have HX := Lib.hid hx
            clear hmode T hf hcur HM hx
            gi_wp2
            refine ⟨fun f hf => (by cases hf), ?_⟩
            gi_wp2
            obtain ⟨s, hs⟩ := HX.out
            refine bodyPost_ret (results_none rfl _ _ _) rfl ?_
            exact ⟨⟨_, rfl⟩, s, H, _, (HT.out.alloc0 _).re (by
                rw [List.flatten_append, List.flatten_append]; exact List.perm_append_comm), .inr hs⟩
        · obtain rfl : j = sl := by omega
          gi_wp2
          go_end0
          refine ⟨⟨_, rfl⟩, ?_⟩
          have hO : (itPipe p bx pb).O (n + j) [[cl bx 66 #[ptr' pb]], pipeB pb cb lb p ++ ([(cb, .chan p.room (chF p.ch) false a1 b1 false)] ++ gl)] := by
            have e : p.rot (n + j) = p := by
              unfold PipeS.rot
              rw [List.drop_of_length_le (by have := HPL.out; omega), List.take_of_length_le (by have := HPL.out; omega), List.nil_append]
            refine ⟨_, ?_, rfl⟩
            rw [e]
            exact ⟨cb, lb, hb, a1, b1, l, gl, HL.out.1, HL.out.2, rfl⟩
          have T8 : TG base W (H ++ [[cl bx 66 #[ptr' pb]], pipeB pb cb lb p ++ ([(cb, .chan p.room (chF p.ch) false a1 b1 false)] ++ gl)]) _ := TG.dropLast (b := gr) (T.re (by
            classical
            refine List.perm_iff_count.2 fun a => ?_
            simp only [List.flatten_append, List.flatten_cons, List.flatten_nil, List.cons_append, List.nil_append, List.append_nil, List.count_append, List.count_cons]
            omega))
          have hfin : n + j = p.all.length := by
            unfold PipeS.all
            rw [List.length_append, HPL.out, HSL.out]
          rcases hmode with ⟨_, h⟩ | ⟨_, s, h⟩
          · exact ⟨n + j, H, _, T8, .inl ⟨hfin, h, hO⟩⟩
          · exact ⟨s, H, _, T8, .inr h⟩
theorem pipeAllIt_g (pb : Nat) : DoesG Tryz.prog 146 #[ptr' pb] [] fun e gs => ∃ bx, e = .returned (.func (.func 176) #[] #[ptr' bx]) ∧ gs = [[cl bx 66 #[ptr' pb]]] := by
  intro w hw
  have T0 := TG.refl hw
  have HT := Lib.hid T0
  clear hw T0
  go_enter Tryz.func146, Tryz.ntmps146
  go_wp2
  go_ret
  exact ⟨_, ⟨_, rfl, rfl⟩, HT.out.alloc rfl _ _⟩
theorem PipeS.rot_zero (p : PipeS) : p.rot 0 = p := by
  unfold PipeS.rot
  simp
theorem PipeS.rot_all (p : PipeS) : p.rot p.all.length = p := by
  have h : p.ch.length ≤ p.all.length := by unfold PipeS.all; simp
  unfold PipeS.rot
  rw [List.drop_of_length_le h, List.take_of_length_le h, List.nil_append]
set_option maxRecDepth 100000 in
set_option maxHeartbeats 4000000 in
theorem pipeAll_g {pb : Nat} {p : PipeS} {g : List Blk} (hg : isPipe pb p g) (hn : p.ch.length ≤ 1000000 ∧ p.sp.length ≤ 1000000) (hc : p.ch.length ≤ p.room) :
    DoesG Tryz.prog 97 #[ptr' pb] [g] fun e gs => ∃ v gr g', e = .returned v ∧ rowG 69 4 v p.all.length (fires p.all) gr ∧ isPipe pb p g' ∧ gs = [g', gr] := by
  have hal : p.all.length ≤ 2000000 := by unfold PipeS.all; rw [List.length_append]; omega
  intro w hw
  have T0 := TG.refl hw
  have HT := Lib.hid T0
  clear hw T0
  have HG := Lib.hid hg
  have HI := Lib.hid (show ∀ bx, _ from fun bx => pipe_iter bx pb p hn hc)
  clear hg hn hc
  refine calls_of_marks Tryz.func97 rfl ?_
  simp only [Tryz.ntmps97, List.size_toArray, List.length_cons, List.length_nil, Nat.reduceAdd, Nat.reduceSub, Array.replicate_succ, Array.replicate_zero, List.push_toArray, List.append_toArray, List.nil_append, List.cons_append]
  go_wp2_with fail
  obtain ⟨sb, hsb⟩ : ∃ sb, w.heap.size = sb := ⟨_, rfl⟩
  have HT := Lib.hid (HT.out.alloc (k := sb) hsb.symm 89 #[.slice none 0 0])
  rw [hsb]
  clear hsb
  go_wp2_with fail
  refine (DoesG.use (pipeAllIt_g pb) (HT.out) [] rfl rfl).mono ?_
  rintro e w1 ⟨gs, ⟨bx, rfl, rfl⟩, Ta⟩
  simp only [PU] at Ta
  have HT := Lib.hid Ta
  clear Ta
  go_wp2_with fail
  have T0 := HT.out.sum2 (H' := [[cl sb 89 #[.slice none 0 0]], []] ++ [[cl bx 66 #[ptr' pb]], g]) (fun n ha h0 h1 h2 => by simp only [SU, ha, h0, h1, h2] <;> omega)
  clear HT
  refine wp_rangeY (H0 := [[cl sb 89 #[.slice none 0 0]], []]) (O0 := [[cl bx 66 #[ptr' pb]], g]) rfl (enters_of Tryz.func176 (by kernel_rfl) rfl) (HI.out bx) ?hps T0 ?hO (fun (k : Nat) H => ∃ v gr, H = [[cl sb 89 #[v]], gr] ∧ rowG 69 4 v k (fires (p.all.take k)) gr) (fun _ _ _ => False) ?h0 ?hT ?hbody ?hdone ?hstop
  case hps => rintro s x G s' ⟨⟨c, _, rfl⟩, _⟩; rfl
  case hO => exact ⟨g, by rw [PipeS.rot_zero]; exact HG.out, rfl⟩
  case h0 => exact ⟨_, _, rfl, rowG_nil _ _⟩
  case hT => intro s H K _; trivial
  case hbody =>
    rintro (k : Nat) x G (k' : Nat) H W ly ⟨v, gr, rfl, hr⟩ ⟨⟨f, hf, rfl⟩, rfl, rfl⟩ hH
    have hk := (List.getElem?_eq_some_iff.1 hf).1
    have HH := Lib.hid hH
    have HR := Lib.hid hr
    have HC := Lib.hid (fires_snoc p.all hf)
    obtain ⟨av, cap, hv⟩ := rowG.val hr
    subst hv
    rw [vals_arr]
    clear hH hr hf
    refine wpIn_any (n := 9) ?_
    gi_wp2
    refine ⟨_, ((TG.refl HH.out).alloc (k := W.heap.size) rfl 69 #[.int .u64 f.id, .int .u64 f.gen, .int .u64 f.dl, .int .u64 f.tick]).eq (H' := [[cl sb 89 #[.slice av k cap]], gr, [cl W.heap.size 69 #[.int .u64 f.id, .int .u64 f.gen, .int .u64 f.dl, .int .u64 f.tick]]]) (by simp), fun Wb hb => ?_⟩
    generalize W.heap.size = vb at hb ⊢
    have HT := Lib.hid (TG.refl hb)
    have c0 := HT.out.cell 0 0 rfl 0
    have f0 := HT.out.free 0 0 rfl 0
    have b0 := HT.out.cell 2 0 rfl 0
    have b1 := HT.out.cell 2 0 rfl 1
    have b2 := HT.out.cell 2 0 rfl 2
    have b3 := HT.out.cell 2 0 rfl 3
    simp only [List.getElem?_nil, List.getElem?_toArray, List.getElem?_cons_zero, List.getElem?_cons_succ] at b0 b1 b2 b3
    simp only [List.getElem?_toArray, List.getElem?_cons_zero] at c0
    clear hb HH
    refine wpIn_any (n := 9) ?_
    gi_wp2_with (
      gi_at_builtin
      with_reducible refine wpListIn_append_G rfl (.tmp 8) (.tmp 10) 89 rfl 69 4 32 _ Tryz.underlying89 fire_info rfl (by decide) (HT.out.alloc0 _) 1 rfl rfl HR.out rfl ⟨Wb.heap.size, 0, none⟩ 1 1 [.int .u64 f.id, .int .u64 f.gen, .int .u64 f.dl, .int .u64 f.tick] rfl rfl (news_alloc _ _ _) (by simp [Value.oneCell']) (by unfold maxLen; omega) (by omega) ?_
      intro v1 w2 g1 r1 T1
      simp only [List.set_cons_zero, List.set_cons_succ] at T1
      have c1 := T1.cell 0 0 rfl 0
      have f1 := T1.free 0 0 rfl 0
      obtain ⟨a1, cap1, hv1⟩ := rowG.val r1
      subst hv1
      have T1 := Lib.hid T1
      have r1 := Lib.hid r1
      simp only [List.getElem?_toArray, List.getElem?_cons_zero] at c1)
    exact ⟨[[cl sb 89 #[.slice a1 (k + 1) cap1]], g1], ⟨_, _, rfl, by rw [HC.out]; exact r1.out⟩, ((T1.out.set 0 0 rfl 0 (.slice a1 (k + 1) cap1)).pick [0, 1] rfl)⟩
  case hdone =>
    rintro (k : Nat) H O' W D hf ⟨v, gr, rfl, hr⟩ hO hT
    have hf' : k = p.all.length := hf
    subst hf'
    obtain ⟨g', hg', rfl⟩ : ∃ g', isPipe pb (p.rot p.all.length) g' ∧ O' = [[cl bx 66 #[ptr' pb]], g'] := hO
    rw [PipeS.rot_all] at hg'
    rw [List.take_length] at hr
    have c0 := hT.cell 0 0 rfl 0
    simp only [List.getElem?_toArray, List.getElem?_cons_zero] at c0
    have HX := Lib.hid (And.intro (And.intro hr hg') hT)
    obtain ⟨av, cap, hv⟩ := rowG.val hr
    subst hv
    clear hf hr hT hg'
    go_wp2
    obtain ⟨⟨hr, hg'⟩, hT⟩ := HX.out
    have T3 := hT.turnLast (.deferred none)
    exact post_mark (v := .slice av p.all.length cap) hT.has.last (by simp [results, Tryz.results97, go_sem]) ⟨_, ⟨_, gr, g', rfl, hr, hg', rfl⟩, T3.pick [3, 1] rfl⟩
  case hstop => intro s cd H O W D h; exact h.elim
end Go.Proofs.YtblhfbcodbjgcaaGreat

namespace Go.Proofs.YtblhfbcodbjgcaaGreat
set_option linter.unusedVariables false
set_option linter.unusedSimpArgs false
open Go.RowKit Go.Shelf
section
variable {L : Lay} {x : CoreS} {gF : List Blk}
set_option maxRecDepth 100000 in
theorem lawAlone17 (hx : isCore L x gF) (c : CallC) (h1 : 1 ≤ c.kind) (h5 : c.kind ≤ 5) (n N : Nat) (s0 : SC) (z0 : ZC) (hs0 : s0 = firstC c.kind) (hz0 : z0 = (newW 0 1 c, noteC (newW 0 1 c) { ev0 with kind := 1, id := c.id, dl := c.dl, per := c.per } x))
    (hJ : JC N s0 z0) (hN : N + n < 1000000) (hn : n ≤ 499) (hr : Runs n s0 z0) :
    DoesG Tryz.prog 95 #[ptr' L.fb, .agg c.cells] [gF] fun e gs =>
      e = .returned (.agg (ansC (itC n s0 z0).2.1.err (itC n s0 z0).2.1.ok (itC n s0 z0).2.1.aid (itC n s0 z0).2.1.agen)) ∧ ∃ gF', isCore L (itC n s0 z0).2.2 gF' ∧ gs = [gF'] := by
  have hb := callBegin hx (by have := hJ.core.tr; rw [hz0] at this; simp only [noteC] at this; rw [List.length_append] at this; simp at this; omega) 0 1 c h1 h5
  unfold BeginR at hb
  rw [← hs0] at hb
  have HB := Lib.hid hb
  have HJ := Lib.hid hJ
  have HRN := Lib.hid hr
  have HZ := Lib.hid hz0
  intro w hw
  have T0 := TG.refl hw
  have HT := Lib.hid T0
  clear hw T0
  clear hx hJ hr hz0 hs0 h1 h5 hb
  simp only [CallC.cells] at HB ⊢
  go_enter Tryz.func95, Tryz.ntmps95
  go_wp2_with fail
  have HT := Lib.hid ((HT.out.alloc (k := w.heap.size) rfl 38 #[.int .i64 c.kind, .int .u64 c.id, .int .u64 c.dl, .int .u64 c.per]).alloc (k := w.heap.size + 1) (by simp) 51 #[.int .i64 0, .bool false, .int .u64 0, .int .u64 0, .slice none 0 0])
  go_wp2_with fail
  refine (DoesG.use (HB.out) (HT.out) [0] rfl rfl).mono ?_
  rintro e w1 ⟨gs, ⟨kb, g, gF1, rfl, hc, hx1, rfl⟩, Ta⟩
  simp only [PU] at Ta
  have HT := Lib.hid Ta
  clear Ta
  have HT := Lib.hid (HT.out.pick [3, 2, 0] rfl)
  go_wp2
  have T1 := HT.out
  have HC := Lib.hid hc
  have HX1 := Lib.hid hx1
  clear hc hx1
  go_loopw [7] (fun i wr => ∃ j : Nat, j ≤ n ∧ i = .int .i64 j ∧ ∃ g gF2, isCall L kb (itC j s0 z0).1 j (itC j s0 z0).2.1 g ∧ isCore L (itC j s0 z0).2.2 gF2 ∧ TG [gF] w [gF2, [cl (w.heap.size + 1) 51 #[.int .i64 0, .bool false, .int .u64 0, .int .u64 0, .slice none 0 0]], g] wr) (fun i _ => 500 - (intOf i).toNat)
  case atStart => exact ⟨0, Nat.zero_le _, rfl, g, gF1, by rw [HZ.out]; exact HC.out, by rw [HZ.out]; exact HX1.out, T1⟩
  case round =>
    obtain ⟨j, hj, rfl, g2, gF2, hc2, hx2, T2⟩ := hrel
    have HC2 := Lib.hid hc2
    have HX2 := Lib.hid hx2
    have HT := Lib.hid T2
    have hjb : j ≤ 499 := by omega
    clear T1 T2 hc2 hx2
    by_cases hlt : j < n
    · have hni := HRN.out.1 j hlt
      have hpre := (HJ.out.it (N := N) j).pre (by omega)
      have hst := callStep HC2.out HX2.out hpre hni ⟨by omega, by omega⟩
      rw [← itC_next] at hst
      have HST := Lib.hid hst
      clear hst hpre hni
      go_wp2_with fail
      refine (DoesG.use HST.out HT.out [2, 0] rfl rfl).mono ?_
      rintro e w4 ⟨gs, ⟨g3, gF3, rfl, hc3, hx3, rfl⟩, Ta⟩
      simp only [putG, List.set_cons_zero, List.set_cons_succ, List.cons_append, List.nil_append, List.append_nil] at Ta
      have HC3 := Lib.hid hc3
      have HX3 := Lib.hid hx3
      have HT := Lib.hid Ta
      clear Ta hc3 hx3
      go_wp2
      first
      | (go_roundw
         case rel => exact ⟨j + 1, by omega, by go_num, g3, gF3, by have := HC3.out; rwa [show ((j : Int) + 1) = ((j + 1 : Nat) : Int) by omega] at this, HX3.out, HT.out⟩
         case measure => simp [intOf]; omega)
      | exact ⟨⟨j + 1, by omega, by go_num, g3, gF3, by have := HC3.out; rwa [show ((j : Int) + 1) = ((j + 1 : Nat) : Int) by omega] at this, HX3.out, HT.out⟩, by simp [intOf]; omega⟩
      | ((repeat apply Exists.intro); exact ⟨⟨⟨j + 1, by omega, by go_num, g3, gF3, by have := HC3.out; rwa [show ((j : Int) + 1) = ((j + 1 : Nat) : Int) by omega] at this, HX3.out, HT.out⟩, rfl⟩, by simp [intOf]; omega⟩)
    · have hjn : j = n := by omega
      subst hjn
      have hnil := HRN.out.2
      have hs : (itC j s0 z0).1 = .nil := by
        revert hnil
        cases (itC j s0 z0).1 <;> intro h <;> first | rfl | cases h
      have hc4 := HC2.out
      rw [hs] at hc4
      have hst := callStep_nil hc4 HX2.out
      have HST := Lib.hid hst
      clear hst hnil hs hc4
      go_wp2_with fail
      refine (DoesG.use HST.out HT.out [2, 0] rfl rfl).mono ?_
      rintro e w4 ⟨gs, ⟨rfl, g3, gF3, hc3, hx3, rfl⟩, Ta⟩
      simp only [putG, List.set_cons_zero, List.set_cons_succ, List.cons_append, List.nil_append, List.append_nil] at Ta
      have hA := callAnswer hc3 rfl
      obtain ⟨k2, hk2⟩ : ∃ k2, (itC j s0 z0).2.1 = k2 := ⟨_, rfl⟩
      rw [hk2] at hA
      have HA := Lib.hid hA
      have HK := Lib.hid hk2
      clear hA hk2
      have HX3 := Lib.hid hx3
      have HT := Lib.hid Ta
      clear Ta hc3 hx3
      go_wp2_with fail
      refine (DoesG.use (HA.out) (HT.out) [2] rfl rfl).mono ?_
      rintro e w1 ⟨gs, ⟨rfl, rfl⟩, Ta⟩
      simp only [PU] at Ta
      have HT := Lib.hid Ta
      clear Ta
      have e0 := HT.out.cell 1 0 rfl 0
      have fe0 := HT.out.free 1 0 rfl 0
      have e1 := HT.out.cell 1 0 rfl 1
      have fe1 := HT.out.free 1 0 rfl 1
      have e2 := HT.out.cell 1 0 rfl 2
      have fe2 := HT.out.free 1 0 rfl 2
      have e3 := HT.out.cell 1 0 rfl 3
      have fe3 := HT.out.free 1 0 rfl 3
      have e4 := HT.out.cell 1 0 rfl 4
      have fe4 := HT.out.free 1 0 rfl 4
      simp only [List.getElem?_nil, List.getElem?_toArray, List.getElem?_cons_zero, List.getElem?_cons_succ] at e0 e1 e2 e3 e4
      have lte := HT.out.lt 1 0 rfl
      simp only [] at lte
      simp only [ansC]
      go_wp2
      exact bodyPost_ret (v := .agg (ansC k2.err k2.ok k2.aid k2.agen)) (by simp [results, Tryz.results95, go_sem, e0, e1, e2, e3, e4, ansC, lte]) rfl ⟨_, ⟨by rw [HK.out], gF3, HX3.out, rfl⟩, (((((((HT.out.set 1 0 rfl 0 _).set 1 0 rfl 1 _).set 1 0 rfl 2 _).set 1 0 rfl 3 _).set 1 0 rfl 4 _).alloc0 _).pick [0] rfl)⟩
end
def itT : Nat → ST → ZT → ST × ZT
  | 0, s, z => (s, z)
  | n + 1, s, z => itT n (stepTu s z).1 (stepTu s z).2
theorem itT_next : ∀ (j : Nat) (s : ST) (z : ZT), itT (j + 1) s z = stepTu (itT j s z).1 (itT j s z).2
  | 0, _, _ => rfl
  | j + 1, s, z => by rw [itT, itT_next j]; rfl
def RunsT (n : Nat) (s : ST) (z : ZT) : Prop := (∀ j, j < n → maySt (itT j s z).1 (itT j s z).2 = true) ∧ maySt (itT n s z).1 (itT n s z).2 = false
def runsT : Nat → ST → ZT → Bool
  | 0, s, z => !maySt s z
  | n + 1, s, z => maySt s z && runsT n (stepTu s z).1 (stepTu s z).2
theorem runsT_is : ∀ {n : Nat} {s : ST} {z : ZT}, runsT n s z = true → RunsT n s z
  | 0, s, z, h => ⟨fun j hj => by omega, by simpa [runsT, itT] using h⟩
  | n + 1, s, z, h => by
    simp only [runsT, Bool.and_eq_true] at h
    obtain ⟨h1, h2⟩ := runsT_is h.2
    refine ⟨fun j hj => ?_, h2⟩
    cases j with
    | zero => exact h.1
    | succ j => exact h1 j (by omega)
theorem JT.it {s : ST} {z : ZT} {N : Nat} : ∀ (j : Nat), JT N s z → N + j < 999999 → (∀ i, i < j → maySt (itT i s z).1 (itT i s z).2 = true) → JT (N + j) (itT j s z).1 (itT j s z).2
  | 0, h, _, _ => h
  | j + 1, h, hN, hm => by
    rw [itT_next]
    have := (JT.it j h (by omega) fun i hi => hm i (by omega)).step (by omega) (hm j (by omega))
    rwa [show N + j + 1 = N + (j + 1) by omega] at this
def begT (th no : Int) (x : CoreS) (ws : List WheelS) (p : PipeS) : ZT := ⟨newT th no, { x with tr := x.tr ++ [evT (newT th no) { ev0 with kind := 1 }] }, ws, p⟩
theorem JT.first {N : Nat} {x : CoreS} {ws : List WheelS} {p : PipeS} (hc : CoreN N x) (hr : RestN N x ws p) (hw : WSlot ws) (h4 : x.shs.length ≤ 4) {th : Int} (ht : 0 ≤ th) (ht2 : x.f.closed = true ∨ th ≤ 1000000) (no : Int) : JT (N + 1) firstT (begT th no x ws p) := by
  have h1 := hr.mono (M := N + 1) (by omega)
  exact ⟨⟨noteN hc _, ⟨h1.now, h1.busy, h1.cap, h1.wl, h1.wok, h1.task, h1.turns, h1.ch, h1.sp⟩, ⟨ht, ⟨by show (0 : Int) ≤ 0; omega, by show (0 : Int) < _; omega, by show okW 0 = true; decide⟩, taskZ, Nat.zero_le _, (fun t ht => by cases ht), fun i hi => by cases hi⟩, hw, h4⟩, ht2⟩
theorem fires_cell {h H : GH} {w w' : World} (T : TG h w H w') (i : Nat) {v : Value} {l : List FireS} {g : List Blk} (hi : H.getD i [] = g) (r : rowG 69 4 v l.length (fires l) g) {k : Nat} {f : FireS} (hk : l[k]? = some f) :
    ∃ b cap, v = .slice (some ⟨b, 0, none⟩) l.length cap ∧ l.length ≤ cap ∧ cap ≤ maxLen ∧ ∀ j, j < 4 → w'.cell? ⟨b, k * 4 + j, none⟩ = f.vals[j]? := by
  have hlt := (List.getElem?_eq_some_iff.1 hk).1
  obtain ⟨b, cap, cur, rfl, rfl, h1, h2, h3, h4⟩ := rowG.open r (by omega)
  exact ⟨b, cap, rfl, h1, h2, fun j hj => (T.cell (b := b) i 0 (by rw [hi]; rfl) (k * 4 + j)).trans ((h4 (k * 4 + j) (by omega)).trans (fires_at l k f j hk hj))⟩
set_option maxRecDepth 100000 in
theorem sameF_r {a b : Value} {l : List FireS} {gA gB : List Blk} (ha : rowG 69 4 a l.length (fires l) gA) (hb : rowG 69 4 b l.length (fires l) gB) (hn : l.length ≤ 1000000000) : ReadsG Tryz.prog 63 #[a, b] [gA, gB] (.bool true) := by
  obtain ⟨xa, ca, rfl⟩ := rowG.val ha
  obtain ⟨xb, cb, rfl⟩ := rowG.val hb
  intro w hw
  have HT := Lib.hid (TG.refl hw)
  have HA := Lib.hid ha
  have HB := Lib.hid hb
  generalize hll : l.length = n at *
  have HL := Lib.hid hll
  clear hw ha hb hll
  go_enter Tryz.func63, Tryz.ntmps63
  go_wp2
  go_loopw [5] (fun i wr => ∃ k m : Nat, k ≤ n ∧ i = .int .i64 k ∧ wr = w.drewN m) (fun i _ => n - (intOf i).toNat)
  case atStart => exact ⟨0, 0, Nat.zero_le _, rfl, rfl⟩
  case round =>
    obtain ⟨k, m, hk, rfl, rfl⟩ := hrel
    by_cases hlt : k < n
    · obtain ⟨f, hf⟩ : ∃ f, l[k]? = some f := ⟨_, List.getElem?_eq_getElem (by rw [HL.out]; exact hlt)⟩
      obtain ⟨ba, da, ea, a1, a2, c⟩ := fires_cell HT.out 0 rfl (by rw [HL.out]; exact HA.out) hf
      obtain ⟨bb, db, eb, b1, b2, d⟩ := fires_cell HT.out 1 rfl (by rw [HL.out]; exact HB.out) hf
      rw [HL.out] at ea eb a1 b1
      cases ea
      cases eb
      have c0 := c 0 (by decide)
      have c1 := c 1 (by decide)
      have c2 := c 2 (by decide)
      have c3 := c 3 (by decide)
      have d0 := d 0 (by decide)
      have d1 := d 1 (by decide)
      have d2 := d 2 (by decide)
      have d3 := d 3 (by decide)
      simp only [FireS.vals, List.getElem?_cons_zero, List.getElem?_cons_succ] at c0 c1 c2 c3 d0 d1 d2 d3
      rw [Nat.add_zero] at c0 d0
      clear c d hf
      go_wp2
      go_quiet (fail)
      go_wp2
      go_roundw
      case rel => exact ⟨k + 1, _, by omega, by go_num, rfl⟩
      case measure => simp [intOf]; omega
    · go_wp2
      go_ret
      exact ⟨rfl, m, rfl⟩
def plain17 (sh : Int) : Cfg := ⟨sh, 12, 16, 2, 1, 8⟩
set_option maxRecDepth 100000 in
theorem plain17_g (sh : Int) : DoesG Tryz.prog 33 #[.int .i64 sh] [] fun e gs => e = .returned (.agg (plain17 sh).cells) ∧ gs = [] := by
  intro w hw
  have T0 := TG.refl hw
  have HT := Lib.hid T0
  clear hw T0
  go_enter Tryz.func33, Tryz.ntmps33
  go_wp2
  exact bodyPost_ret (v := .agg (plain17 sh).cells) (by simp [results, Tryz.results33, go_sem, plain17, Cfg.cells]) rfl ⟨_, ⟨rfl, rfl⟩, HT.out.alloc0 _⟩
end Go.Proofs.YtblhfbcodbjgcaaGreat

namespace Go.Proofs.YtblhfbcodbjgcaaGreat
set_option linter.unusedVariables false
set_option linter.unusedSimpArgs false
open Go.RowKit Go.Shelf
def call17 : CallC := ⟨1, 0, 1, 0⟩
def z17 : ZC := (newW 0 1 call17, noteC (newW 0 1 call17) { ev0 with kind := 1, id := call17.id, dl := call17.dl, per := call17.per } (core0 (plain17 1)))
def x17 : CoreS := (itC 13 (firstC 1) z17).2.2
def t17 : ZT := begT 0 2 x17 (zf0 (plain17 1)).ws (zf0 (plain17 1)).p
end Go.Proofs.YtblhfbcodbjgcaaGreat

namespace Go.Proofs.YtblhfbcodbjgcaaGreat
set_option linter.unusedVariables false
set_option linter.unusedSimpArgs false
open Go.RowKit Go.Shelf
section
variable {L : Lay} {x : CoreS} {ws : List WheelS} {p : PipeS} {gF : List Blk}
set_option maxRecDepth 100000 in
set_option maxHeartbeats 1000000 in
theorem lawTick (hx : isTF L x ws p gF) (n N : Nat) (z0 : ZT) (hz0 : z0 = begT 0 2 x ws p) (hJ : JT N firstT z0) (hN : N + n < 999999) (hn : n ≤ 4999) (hr : RunsT n firstT z0) (hnl : (itT n firstT z0).1.isNil = true) :
    DoesG Tryz.prog 96 #[ptr' L.fb] [gF] fun e gs =>
      e = .returned (.bool ((itT n firstT z0).2.k.ok && (itT n firstT z0).2.k.err == 0)) ∧ ∃ gF', isTF L (itT n firstT z0).2.x (itT n firstT z0).2.ws (itT n firstT z0).2.p gF' ∧ gs = [gF'] := by
  have hb := turnBegin hx (by have := hJ.b.core.tr; rw [hz0] at this; simp only [begT] at this; rw [List.length_append] at this; simp at this; omega) 0 2 (by decide)
  have HB := Lib.hid hb
  have hjt : ∀ j, j ≤ n → JT (N + j) (itT j firstT z0).1 (itT j firstT z0).2 := fun j hj => hJ.it j (by omega) (fun i hi => hr.1 i (by omega))
  have HPY := Lib.hid (show ∀ j, j < n → preYS' (itT j firstT z0).1 (itT j firstT z0).2 from fun j hj => (hjt j (by omega)).preY (by omega))
  have HPR := Lib.hid (show ∀ j, j < n → preST (itT j firstT z0).1 (itT j firstT z0).2 from fun j hj => (hjt j (by omega)).pre (by omega) (hr.1 j hj))
  have HRN := Lib.hid hr
  have HZ := Lib.hid hz0
  have HNL := Lib.hid hnl
  intro w hw
  have T0 := TG.refl hw
  have HT := Lib.hid T0
  clear hw T0
  clear hx hJ hr hz0 hb hjt hnl
  go_enter Tryz.func96, Tryz.ntmps96
  go_wp2_with fail
  refine (DoesG.use (HB.out) (HT.out) [0] rfl rfl).mono ?_
  rintro e w1 ⟨gs, ⟨kb, g, gF1, rfl, hc, hx1, rfl⟩, Ta⟩
  simp only [PU] at Ta
  have HT := Lib.hid Ta
  clear Ta
  have HT := Lib.hid (HT.out.pick [1, 0] rfl)
  have HC := Lib.hid (show isTurn L kb firstT 0 z0.k g from by rw [HZ.out]; exact hc)
  have HX := Lib.hid (show isTF L z0.x z0.ws z0.p gF1 from by rw [HZ.out]; exact hx1)
  clear hc hx1
  go_wp2
  go_loopw [5] (fun i wr => ∃ j : Nat, j ≤ n ∧ i = .int .i64 j ∧ ∃ g gF2, isTurn L kb (itT j firstT z0).1 j (itT j firstT z0).2.k g ∧ isTF L (itT j firstT z0).2.x (itT j firstT z0).2.ws (itT j firstT z0).2.p gF2 ∧ TG [gF] w ([gF2, g]) wr) (fun i _ => 5000 - (intOf i).toNat)
  case atStart => exact ⟨0, Nat.zero_le _, rfl, _, _, HC.out, HX.out, HT.out⟩
  case round =>
    obtain ⟨j, hj, rfl, g2, gF2, hc2, hx2, T2⟩ := hrel
    have HC2 := Lib.hid hc2
    have HX2 := Lib.hid hx2
    have HT := Lib.hid T2
    clear T2 hc2 hx2
    by_cases hlt : j < n
    · have hst := turnStep HC2.out HX2.out (HPY.out j hlt) (HRN.out.1 j hlt) (HPR.out j hlt) ⟨by omega, by omega⟩
      rw [← itT_next] at hst
      have HST := Lib.hid hst
      clear hst
      go_wp2_with fail
      refine (DoesG.use HST.out HT.out [1, 0] rfl rfl).mono ?_
      rintro e w4 ⟨gs, ⟨g3, gF3, rfl, hc3, hx3, rfl⟩, Ta⟩
      simp only [PU] at Ta
      have HC3 := Lib.hid hc3
      have HX3 := Lib.hid hx3
      have HT := Lib.hid Ta
      clear Ta hc3 hx3
      go_wp2
      first
      | (go_roundw
         case rel => exact ⟨j + 1, by omega, by go_num, g3, gF3, by have := HC3.out; rwa [show ((j : Int) + 1) = ((j + 1 : Nat) : Int) by omega] at this, HX3.out, HT.out⟩
         case measure => simp [intOf]; omega)
      | exact ⟨⟨j + 1, by omega, by go_num, g3, gF3, by have := HC3.out; rwa [show ((j : Int) + 1) = ((j + 1 : Nat) : Int) by omega] at this, HX3.out, HT.out⟩, by simp [intOf]; omega⟩
      | ((repeat apply Exists.intro); exact ⟨⟨⟨j + 1, by omega, by go_num, g3, gF3, by have := HC3.out; rwa [show ((j : Int) + 1) = ((j + 1 : Nat) : Int) by omega] at this, HX3.out, HT.out⟩, rfl⟩, by simp [intOf]; omega⟩)
    · have hjn : j = n := by omega
      have hr2 := HRN.out.2
      have hnil := HNL.out
      rw [← hjn] at hr2 hnil
      have hst := turnNo HC2.out HX2.out (by
        have hs : (itT j firstT z0).1 = .nil := isNil_nil hnil
        rw [hs]; trivial) hr2
      clear hr2 hlt hj
      have HST := Lib.hid hst
      clear hst
      go_wp2_with fail
      refine (DoesG.use HST.out HT.out [1, 0] rfl rfl).mono ?_
      rintro e w4 ⟨gs, ⟨rfl, g3, gF3, hc3, hx3, rfl⟩, Ta⟩
      simp only [PU] at Ta
      have hA := turnAnswer hc3 hnil
      subst hjn
      obtain ⟨k2, hk2⟩ : ∃ k2, (itT j firstT z0).2.k = k2 := ⟨_, rfl⟩
      rw [hk2] at hA
      have HK := Lib.hid hk2
      have HA := Lib.hid hA
      have HX3 := Lib.hid hx3
      have HT := Lib.hid Ta
      clear Ta hc3 hx3 hA hnil hk2
      go_wp2_with fail
      refine (DoesG.use HA.out HT.out [1] rfl rfl).mono ?_
      rintro e w5 ⟨gs, ⟨rfl, rfl⟩, Ta⟩
      simp only [PU] at Ta
      have HT := Lib.hid (Ta.alloc (k := w5.heap.size) rfl 51 (ansS k2.err k2.ok (.slice none 0 0)))
      clear Ta
      simp only [ansS, List.cons_append, List.nil_append] at HT ⊢
      have e0 := HT.out.cell 2 0 rfl 0
      have e1 := HT.out.cell 2 0 rfl 1
      simp only [List.getElem?_toArray, List.getElem?_cons_zero, List.getElem?_cons_succ] at e0 e1
      obtain ⟨thx, nox, err, ok, nowx, sx, tx, sawx, ndx, duex⟩ := k2
      simp only at e0 e1 HT ⊢
      cases ok with
      | false =>
        go_wp2
        go_ret
        exact ⟨_, ⟨by rw [HK.out]; simp, gF3, HX3.out, rfl⟩, HT.out.pick [0] rfl⟩
      | true =>
        by_cases he : err = 0
        · subst he
          go_wp2
          go_ret
          exact ⟨_, ⟨by rw [HK.out]; simp, gF3, HX3.out, rfl⟩, HT.out.pick [0] rfl⟩
        · have hb : (err == 0) = false := by simpa using he
          go_wp2
          go_ret
          exact ⟨_, ⟨by rw [HK.out]; simp [hb], gF3, HX3.out, rfl⟩, HT.out.pick [0] rfl⟩
end
end Go.Proofs.YtblhfbcodbjgcaaGreat

namespace Go.Proofs.YtblhfbcodbjgcaaGreat
set_option linter.unusedVariables false
set_option linter.unusedSimpArgs false
open Go.RowKit Go.Shelf
theorem wheel0_lv : wheel0S.lv = List.replicate 4 (List.replicate 64 []) := by rfl
theorem wheel0_e (P : EntS → Prop) : WEnt P wheel0S := by
  refine ⟨fun l hl s hs e he => ?_, fun e he => by cases he⟩
  rw [wheel0_lv] at hl
  rw [List.eq_of_mem_replicate hl] at hs
  rw [List.eq_of_mem_replicate hs] at he
  cases he
theorem wheel0_n : WheelN 0 wheel0S := ⟨⟨by decide, fun l hl => by
  rw [wheel0_lv] at hl
  rw [List.eq_of_mem_replicate hl, List.length_replicate]⟩, by decide, by decide, wheel0_e _⟩
theorem zf0_n (c : Cfg) (hk : c.ok = true) : ZN 0 (zf0 c) ∧ WSlot (zf0 c).ws ∧ (zf0 c).x.shs.length ≤ 4 := by
  obtain ⟨h1, h2, h3, h4, h5, h6⟩ := Cfg.bd hk
  have hrep : ∀ w ∈ (zf0 c).ws, w = wheel0S := fun w hw => List.eq_of_mem_replicate hw
  have hsh : ∀ s ∈ (zf0 c).x.shs, s = newShard c.ring.toNat := fun s hs => List.eq_of_mem_replicate hs
  refine ⟨⟨core0_n hk, ⟨⟨Int.le_refl 0, Int.le_refl 0⟩, ⟨Int.le_refl 0, Int.le_refl 0⟩, ?_, ?_, fun w hw => by rw [hrep w hw]; exact wheel0_n, fun s hs e he => ?_, fun s hs => by rw [hsh s hs]; exact ⟨Int.le_refl 0, Int.le_refl 0⟩, Nat.zero_le _, Nat.zero_le _⟩, Nat.le_refl _⟩, fun w hw => by rw [hrep w hw]; exact wheel0_e _, ?_⟩
  · show c.cap = ((List.replicate c.cap.toNat Rec.zero).length : Int)
    rw [List.length_replicate]; omega
  · show (List.replicate _ _).length = (List.replicate _ _).length
    rw [List.length_replicate, List.length_replicate]
  · rw [hsh s hs] at he
    simp [newShard, newRing] at he
    obtain ⟨i, _, rfl⟩ := he
    exact taskZ
  · show (List.replicate _ _).length ≤ 4
    rw [List.length_replicate]; omega
theorem runs17 : Runs 13 (firstC 1) z17 := by
  refine ⟨fun j hj => ?_, by decide⟩
  have : j = 0 ∨ j = 1 ∨ j = 2 ∨ j = 3 ∨ j = 4 ∨ j = 5 ∨ j = 6 ∨ j = 7 ∨ j = 8 ∨ j = 9 ∨ j = 10 ∨ j = 11 ∨ j = 12 := by omega
  rcases this with rfl | rfl | rfl | rfl | rfl | rfl | rfl | rfl | rfl | rfl | rfl | rfl | rfl <;> decide
theorem jc17 : JC 1 (firstC 1) z17 := JC.first (N := 0) (core0_n (c := plain17 1) (by decide)) (c := call17) ⟨⟨by decide, by decide⟩, ⟨by decide, by decide⟩, ⟨by decide, by decide⟩⟩ 0 1
theorem end17 : (itC 13 (firstC 1) z17).2.1.ok = true ∧ (itC 13 (firstC 1) z17).2.1.aid = 64 ∧ (itC 13 (firstC 1) z17).2.1.agen = 1 ∧ (itC 13 (firstC 1) z17).2.1.err = 0 := by decide
theorem runs17t : RunsT 19 firstT t17 := runsT_is (by kernel_rfl)
theorem end17t : (itT 19 firstT t17).1.isNil = true ∧ (itT 19 firstT t17).2.k.ok = true ∧ (itT 19 firstT t17).2.k.err = 0 ∧ (itT 19 firstT t17).2.p.all = [⟨64, 1, 1, 1⟩] ∧ (itT 19 firstT t17).2.x.slab.count = 0 := ⟨by kernel_rfl, by kernel_rfl, by kernel_rfl, by kernel_rfl, by kernel_rfl⟩
end Go.Proofs.YtblhfbcodbjgcaaGreat

namespace Go.Proofs.YtblhfbcodbjgcaaGreat
set_option linter.unusedVariables false
set_option linter.unusedSimpArgs false
open Go.RowKit Go.Shelf
structure KeepC (x x' : CoreS) : Prop where
  now : x'.f.now = x.f.now
  busy : x'.f.busy = x.f.busy
  cfg : x'.f.cfg = x.f.cfg
  closed : x'.f.closed = x.f.closed
  recs : x'.slab.recs.length = x.slab.recs.length
  len : x'.shs.length = x.shs.length
  who : ∀ j, (x'.shs.getD j (newShard 1)).who = (x.shs.getD j (newShard 1)).who
  sh : (∀ s ∈ x.shs, ∀ e ∈ s.ring.slots, TaskOk e.v) → ∀ s ∈ x'.shs, ∀ e ∈ s.ring.slots, TaskOk e.v
  turns : ∀ N : Nat, (∀ s ∈ x.shs, 0 ≤ s.turns ∧ s.turns ≤ N) → ∀ s ∈ x'.shs, 0 ≤ s.turns ∧ s.turns ≤ N
theorem KeepC.refl (x : CoreS) : KeepC x x := ⟨rfl, rfl, rfl, rfl, rfl, rfl, fun _ => rfl, fun h => h, fun _ h => h⟩
theorem KeepC.trans {x y z : CoreS} (a : KeepC x y) (b : KeepC y z) : KeepC x z :=
  ⟨b.now.trans a.now, b.busy.trans a.busy, b.cfg.trans a.cfg, b.closed.trans a.closed, b.recs.trans a.recs, b.len.trans a.len, fun j => (b.who j).trans (a.who j), fun h => b.sh (a.sh h), fun N h => b.turns N (a.turns N h)⟩
theorem KeepC.rest {N : Nat} {x x' : CoreS} {ws : List WheelS} {p : PipeS} (k : KeepC x x') (h : RestN N x ws p) : RestN N x' ws p :=
  ⟨by rw [k.now]; exact h.now, by rw [k.busy]; exact h.busy, by rw [k.cfg, k.recs]; exact h.cap, by rw [k.len]; exact h.wl, h.wok, k.sh h.task, k.turns N h.turns, h.ch, h.sp⟩
def GenN (k : WorkS) : Prop := 0 ≤ k.gen ∧ k.gen ≤ 4294967295
theorem genW_bd {w : Int} (h0 : 0 ≤ w) : 0 ≤ genW w ∧ genW w ≤ 4294967295 := by
  unfold genW
  split
  · next hk =>
    simp only [okW, Bool.and_eq_true, decide_eq_true_eq] at hk
    omega
  · omega
theorem try_nn {s : SlabS} (hs : SlabOk s) (k old ev : Int) (h0 : 0 ≤ old ∧ old < 18446744073709551616 ∧ okW old = true) : 0 ≤ (s.try k old ev).2.1 := by
  unfold SlabS.try
  split
  · next hh =>
    have hr : 0 ≤ (s.recs.getD k.toNat Rec.zero).w := by
      rw [List.getD_eq_getElem?_getD]
      cases h1 : s.recs[k.toNat]? with
      | none => show (0 : Int) ≤ 0; omega
      | some r => exact (hs.recs r (List.mem_of_getElem? h1)).w0
    simp only
    split
    · exact hr
    · next hx =>
      split
      · have := nextW_ok (e := ev) (p := decide (0 < (s.recs.getD k.toNat Rec.zero).p)) h0.1 h0.2.1 h0.2.2 (Decidable.byContradiction hx)
        exact this.2.2.2.2.2.2.2.1
      · exact hr
  · show (0 : Int) ≤ 0; omega
section
variable {N : Nat} {k : WorkS} {x : CoreS}
theorem keep_note (k : WorkS) (E : EvS) (x : CoreS) : KeepC x (noteC k E x) := ⟨rfl, rfl, rfl, rfl, rfl, rfl, fun _ => rfl, fun h => h, fun _ h => h⟩
theorem keep_slab {s : SlabS} (hl : s.recs.length = x.slab.recs.length) : KeepC x { x with slab := s } := ⟨rfl, rfl, rfl, rfl, hl, rfl, fun _ => rfl, fun h => h, fun _ h => h⟩
theorem keep_inside (n : Int) : KeepC x { x with f := { x.f with inside := n } } := ⟨rfl, rfl, rfl, rfl, rfl, rfl, fun _ => rfl, fun h => h, fun _ h => h⟩
theorem keep_ring {i : Nat} {s : ShardS} (hs : x.shs[i]? = some s) (r : RingS) (hr : (∀ e ∈ s.ring.slots, TaskOk e.v) → ∀ e ∈ r.slots, TaskOk e.v) : KeepC x { x with shs := x.shs.set i { s with ring := r } } := by
  have hlt := (List.getElem?_eq_some_iff.1 hs).1
  have hm := List.mem_of_getElem? hs
  refine ⟨rfl, rfl, rfl, rfl, rfl, List.length_set, fun j => ?_, fun h a ha => ?_, fun N h a ha => ?_⟩
  · show ((x.shs.set i _).getD j (newShard 1)).who = _
    rw [getD_set _ _ _ _ _ hlt]
    split
    · next hj => subst hj; rw [List.getD_eq_getElem?_getD, hs]; rfl
    · rfl
  · rcases List.mem_or_eq_of_mem_set ha with ha | rfl
    · exact h a ha
    · exact hr (h s hm)
  · rcases List.mem_or_eq_of_mem_set ha with ha | rfl
    · exact h a ha
    · exact h s hm
theorem stepT_slots (r : RingS) (t : TickS) : (stepT r t).1.slots = r.slots := by
  unfold stepT lookT weighT takeT
  split
  · rfl
  · split
    · rfl
    · split
      · rfl
      · split <;> rfl
theorem fillT_slots {r : RingS} {t : TickS} {v : TaskS} (hv : TaskOk v) (h : ∀ e ∈ r.slots, TaskOk e.v) : ∀ e ∈ (fillT r t v).1.slots, TaskOk e.v := by
  unfold fillT
  split
  · intro e he
    rcases List.mem_or_eq_of_mem_set he with he | rfl
    · exact h e he
    · exact hv
  · exact h
theorem keep_fill (k : WorkS) {v : TaskS} (hv : TaskOk v) : KeepC x (fillC v (k, x)).2 := by
  unfold fillC
  simp only
  split
  · exact KeepC.refl x
  · rename_i i t ht
    split
    · exact KeepC.refl x
    · rename_i s hs
      exact keep_ring hs _ (fun h => fillT_slots hv h)
theorem gen_fill {v : TaskS} (h : GenN k) : GenN (fillC v (k, x)).1 := by
  unfold fillC
  simp only
  split
  · exact h
  · split
    · exact h
    · exact h
theorem keep_event (hc : CoreN N x) (ev : Int) : KeepC x (eventC ev (k, x)).2 ∧ GenN (eventC ev (k, x)).1 := by
  obtain ⟨h1, h2⟩ := try_ok hc.slab k.slot (x.slab.word k.slot) ev
  exact ⟨keep_slab h2, genW_bd (try_nn hc.slab _ _ _ (word_bd hc.slab _))⟩
theorem taskC_ok (hc : CoreN N x) (hk : WorkN N k x) (hg : GenN k) : TaskOk (taskC (k, x)) := by
  refine ⟨hk.id, ⟨hg.1, by have := hg.2; show k.gen ≤ _; omega⟩, hk.c0, ?_⟩
  show 0 ≤ x.slab.period k.slot ∧ x.slab.period k.slot < _
  unfold SlabS.period
  split
  · rw [List.getD_eq_getElem?_getD]
    cases h1 : x.slab.recs[k.slot.toNat]? with
    | none => exact ⟨by show (0 : Int) ≤ 0; omega, by show (0 : Int) < _; omega⟩
    | some r => have := hc.slab.recs r (List.mem_of_getElem? h1); exact ⟨this.p0, this.p1⟩
  · omega
theorem taskN : TaskOk { TaskS.zero with slot := -1 } := ⟨by decide, by decide, by decide, by decide⟩
theorem actC_keep (hc : CoreN N x) (hk : WorkN N k x) (hg : GenN k) (a : AC) : KeepC x (runA a (k, x)).2 ∧ GenN (runA a (k, x)).1 := by
  cases a with
  | ends1 => exact ⟨keep_note _ _ _, hg⟩
  | leaves1 => exact ⟨keep_inside _, hg⟩
  | undo =>
    obtain ⟨h1, h2⟩ := keep_event (k := k) hc 9
    exact ⟨h1.trans (keep_note _ _ _), h2⟩
  | drop => exact ⟨keep_slab (drop_ok hc.slab).2, hg⟩
  | tries1 => exact keep_event (k := k) hc 10
  | again1 => exact ⟨keep_fill k taskN, gen_fill hg⟩
theorem look_gen (k : WorkS) (s : SlabS) : (lookW k s).1.gen = k.gen := by
  unfold lookW
  split
  · rfl
  · split <;> rfl
theorem methC_keep (hc : CoreN N x) (hk : WorkN N k x) (hg : GenN k) (m : MC) : KeepC x (runC m (k, x)).2.2 ∧ GenN (runC m (k, x)).2.1 := by
  cases m with
  | ends => exact ⟨KeepC.refl x, hg⟩
  | leaves => exact ⟨KeepC.refl x, hg⟩
  | right =>
    show KeepC x (if badC k then _ else _ : SC × ZC).2.2 ∧ GenN (if badC k then _ else _ : SC × ZC).2.1
    split
    · exact ⟨keep_note _ _ _, hg⟩
    · exact ⟨KeepC.refl x, hg⟩
  | enter => exact ⟨keep_inside _, hg⟩
  | gate =>
    show KeepC x (if x.f.closed = true then _ else _ : SC × ZC).2.2 ∧ GenN (if x.f.closed = true then _ else _ : SC × ZC).2.1
    split
    · exact ⟨keep_note _ _ _, hg⟩
    · split
      · exact ⟨KeepC.refl x, hg⟩
      · exact ⟨KeepC.refl x, hg⟩
  | asks =>
    show KeepC x (match k.rq with | none => _ | some q => _ : SC × ZC).2.2 ∧ GenN (match k.rq with | none => _ | some q => _ : SC × ZC).2.1
    split
    · exact ⟨KeepC.refl x, hg⟩
    · next q hq =>
      obtain ⟨h1, h2, h3⟩ := stepR_ok hc.slab (hk.rq q hq)
      unfold asksC
      simp only
      split
      · exact ⟨(keep_slab h3).trans (keep_note _ _ _), hg⟩
      · split
        · exact ⟨keep_slab h3, hg⟩
        · exact ⟨keep_slab h3, hg⟩
  | queues =>
    show KeepC x (match k.tk with | none => _ | some (i, t) => _ : SC × ZC).2.2 ∧ GenN (match k.tk with | none => _ | some (i, t) => _ : SC × ZC).2.1
    split
    · exact ⟨KeepC.refl x, hg⟩
    · next i t htk =>
      show KeepC x (match x.shs[i]? with | none => _ | some s => _ : SC × ZC).2.2 ∧ GenN (match x.shs[i]? with | none => _ | some s => _ : SC × ZC).2.1
      split
      · exact ⟨KeepC.refl x, hg⟩
      · next s hs =>
        have hr := keep_ring (x := x) hs (stepT s.ring t).1 (fun h => by rw [stepT_slots]; exact h)
        unfold queuesC
        simp only
        split
        · exact ⟨hr, hg⟩
        · split
          · exact ⟨hr.trans (keep_note _ _ _), hg⟩
          · split
            · exact ⟨hr, hg⟩
            · split
              · exact ⟨hr, hg⟩
              · exact ⟨hr, hg⟩
  | submits =>
    obtain ⟨h1, h2⟩ := keep_event (k := k) hc 2
    exact ⟨h1.trans (keep_note _ _ _), h2⟩
  | fills => exact ⟨keep_fill k (taskC_ok hc hk hg), gen_fill hg⟩
  | looks =>
    have hl : GenN (lookW k x.slab).1 := by unfold GenN; rw [look_gen]; exact hg
    show KeepC x (if (lookW k x.slab).2 = 0 then _ else _ : SC × ZC).2.2 ∧ GenN (if (lookW k x.slab).2 = 0 then _ else _ : SC × ZC).2.1
    split
    · show KeepC x (if k.kind = 3 then _ else _ : SC × ZC).2.2 ∧ GenN (if k.kind = 3 then _ else _ : SC × ZC).2.1
      split
      · exact ⟨KeepC.refl x, hl⟩
      · exact ⟨KeepC.refl x, hl⟩
    · show KeepC x (if (lookW k x.slab).2 = 1 then _ else _ : SC × ZC).2.2 ∧ GenN (if (lookW k x.slab).2 = 1 then _ else _ : SC × ZC).2.1
      split
      · exact ⟨keep_note _ _ _, hl⟩
      · exact ⟨keep_note _ _ _, hl⟩
  | again =>
    have hl : GenN (lookW k x.slab).1 := by unfold GenN; rw [look_gen]; exact hg
    show KeepC x (if (lookW k x.slab).2 = 0 then _ else _ : SC × ZC).2.2 ∧ GenN (if (lookW k x.slab).2 = 0 then _ else _ : SC × ZC).2.1
    split
    · exact ⟨KeepC.refl x, hl⟩
    · exact ⟨keep_note _ _ _, hl⟩
  | tries =>
    obtain ⟨h1, h2⟩ := try_ok hc.slab k.slot k.saw k.event
    have hs : KeepC x (tryC (k, x)).1.2 := keep_slab h2
    have hgn : GenN (tryC (k, x)).1.1 := genW_bd (try_nn hc.slab _ _ _ hk.saw)
    show KeepC x (if (tryC (k, x)).2 ≠ 0 then _ else _ : SC × ZC).2.2 ∧ GenN (if (tryC (k, x)).2 ≠ 0 then _ else _ : SC × ZC).2.1
    split
    · show KeepC x (if k.kind = 3 then _ else _ : SC × ZC).2.2 ∧ GenN (if k.kind = 3 then _ else _ : SC × ZC).2.1
      split
      · exact ⟨hs, hgn⟩
      · exact ⟨hs, hgn⟩
    · show KeepC x (if k.kind = 3 then _ else _ : SC × ZC).2.2 ∧ GenN (if k.kind = 3 then _ else _ : SC × ZC).2.1
      split
      · exact ⟨hs.trans (keep_note _ _ _), hgn⟩
      · show KeepC x (if k.kind = 5 then _ else _ : SC × ZC).2.2 ∧ GenN (if k.kind = 5 then _ else _ : SC × ZC).2.1
        split
        · exact ⟨hs.trans (keep_note _ _ _), hgn⟩
        · exact ⟨hs.trans (keep_note _ _ _), hgn⟩
theorem callKeep {s : SC} (h : JC N s (k, x)) (hg : GenN k) : KeepC x (stepC s (k, x)).2.2 ∧ GenN (stepC s (k, x)).2.1 := by
  obtain ⟨hc, hk, hf⟩ := h
  simp only at hc hk hf
  have ha := fun a => actC_keep hc hk hg a
  match s, hf with
  | .nil, _ => exact ⟨KeepC.refl x, hg⟩
  | .at none m, hf => exact methC_keep hc hk hg m
  | .row1 .ends1, _ => exact ha .ends1
  | .thn (.row1 .leaves1) .ends, _ => exact ha .leaves1
  | .thn (.row2 .undo .drop) .leaves, _ => exact ha .undo
  | .thn (.row1 .drop) .leaves, _ => exact ha .drop
  | .thn (.row1 .again1) .leaves, _ => exact ha .again1
  | .thn (.row2 .tries1 .drop) .ends, _ => exact ha .tries1
  | .thn (.row1 .drop) .ends, _ => exact ha .drop
theorem callKeep_it {s : SC} {z : ZC} : ∀ (j : Nat), JC N s z → GenN z.1 → KeepC z.2 (itC j s z).2.2 ∧ GenN (itC j s z).2.1 := by
  intro j
  induction j generalizing N s z with
  | zero => intro h hg; exact ⟨KeepC.refl _, hg⟩
  | succ j ih =>
    intro h hg
    obtain ⟨k, x⟩ := z
    obtain ⟨h1, h2⟩ := callKeep h hg
    obtain ⟨h3, h4⟩ := ih h.step h2
    exact ⟨h1.trans h3, h4⟩
end
end Go.Proofs.YtblhfbcodbjgcaaGreat

namespace Go.Proofs.YtblhfbcodbjgcaaGreat
set_option linter.unusedVariables false
set_option linter.unusedSimpArgs false
open Go.RowKit Go.Shelf
theorem rest17 : RestN 14 x17 (zf0 (plain17 1)).ws (zf0 (plain17 1)).p := by
  have h0 := (zf0_n (plain17 1) (by decide)).1.rest
  have h1 : RestN 0 z17.2 (zf0 (plain17 1)).ws (zf0 (plain17 1)).p := (keep_note _ _ _).rest h0
  exact ((callKeep_it 13 jc17 ⟨by decide, by decide⟩).1.rest h1).mono (by omega)
theorem jt17 : JT 15 firstT t17 := by
  have h := zf0_n (plain17 1) (by decide)
  exact JT.first (N := 14) (JC.it (N := 0) 13 jc17).core rest17 h.2.1 (by decide) (by decide) (.inr (by decide)) 2
theorem one17 : ∃ (x : CoreS) (t : ZT), (∀ (L : Lay) (gF : List Blk), isCore L (core0 (plain17 1)) gF → DoesG Tryz.prog 95 #[ptr' L.fb, .agg #[.int .i64 1, .int .u64 0, .int .u64 1, .int .u64 0]] [gF] fun e gs =>
      e = .returned (.agg #[.int .i64 0, .bool true, .int .u64 64, .int .u64 1, .slice none 0 0]) ∧ ∃ gF', isCore L x gF' ∧ gs = [gF']) ∧
    (∀ (L : Lay) (gF : List Blk), isTF L x (zf0 (plain17 1)).ws (zf0 (plain17 1)).p gF → DoesG Tryz.prog 96 #[ptr' L.fb] [gF] fun e gs => e = .returned (.bool true) ∧ ∃ gF', isTF L t.x t.ws t.p gF' ∧ gs = [gF']) ∧
    t.p.all = [⟨64, 1, 1, 1⟩] ∧ t.p.ch.length ≤ 1000000 ∧ t.p.sp.length ≤ 1000000 ∧ t.p.ch.length ≤ t.p.room ∧ t.x.slab.count = 0 := by
  obtain ⟨e1, e2, e3, e4, e5⟩ := end17t
  have hj := jt17.it 19 (by omega) (fun i hi => runs17t.1 i hi)
  refine ⟨x17, (itT 19 firstT t17).2, ?_, ?_, e4, ?_, ?_, hj.b.rest.ch, e5⟩
  · intro L gF hx
    have h := lawAlone17 hx call17 (by decide) (by decide) 13 1 (firstC 1) z17 rfl rfl jc17 (by decide) (by decide) runs17
    rw [end17.1, end17.2.1, end17.2.2.1, end17.2.2.2] at h
    exact h
  · intro L gF hx
    have h := lawTick hx 19 15 t17 rfl jt17 (by decide) (by decide) runs17t e1
    rw [e2, e3] at h
    exact h
  · have := congrArg List.length e4
    unfold PipeS.all at this
    rw [List.length_append] at this
    simp at this
    omega
  · have := congrArg List.length e4
    unfold PipeS.all at this
    rw [List.length_append] at this
    simp at this
    omega
set_option maxRecDepth 100000 in
set_option maxHeartbeats 1000000 in
theorem alive17_g : DoesG Tryz.prog 27 #[] [] fun e gs => e = .returned (.bool true) ∧ gs = [] := by
  obtain ⟨x, t, hal, htk, hall, hch, hsp, hrm, hct⟩ := one17
  have HA := Lib.hid hal
  have HK := Lib.hid htk
  have HN := Lib.hid (newFull (plain17 1) (by decide))
  have HS := Lib.hid (And.intro hall (And.intro hch (And.intro hsp (And.intro hrm hct))))
  clear hal htk hall hch hsp hrm hct
  intro w hw
  have T0 := TG.refl hw
  have HT := Lib.hid T0
  clear hw T0
  go_enter Tryz.func27, Tryz.ntmps27
  go_wp2_with fail
  refine (DoesG.use (plain17_g 1) (HT.out) [] rfl rfl).mono ?_
  rintro e w1 ⟨gs, ⟨rfl, rfl⟩, Ta⟩
  simp only [PU] at Ta
  have HT := Lib.hid Ta
  clear Ta
  go_wp2_with fail
  refine (DoesG.use (HN.out) (HT.out) [] rfl rfl).mono ?_
  rintro e w1 ⟨gs, ⟨L, g, rfl, hz, rfl⟩, Ta⟩
  simp only [PU] at Ta
  have HT := Lib.hid Ta
  clear Ta
  obtain ⟨gT, gL, ⟨gC, gW, gP, hx, hw, hp, rfl⟩, hl, rfl⟩ := hz
  have HT := Lib.hid (HT.out.sum (H' := [gC, gW ++ gP, gL]) (fun n ha h0 h1 h2 => by simp only [SU, ha, h0, h1, h2] <;> omega))
  have HX := Lib.hid hx
  have HW := Lib.hid (And.intro hw hp)
  clear hx hw hp hl
  go_wp2_with fail
  refine (DoesG.use (HA.out _ _ HX.out) (HT.out) [0] rfl rfl).mono ?_
  rintro e w1 ⟨gs, ⟨rfl, gC', hx', rfl⟩, Ta⟩
  simp only [PU] at Ta
  have HT := Lib.hid Ta
  clear Ta
  have HX := Lib.hid (show isTF L x (zf0 (plain17 1)).ws (zf0 (plain17 1)).p (gC' ++ (gW ++ gP)) from ⟨gC', gW, gP, hx', HW.out.1, HW.out.2, rfl⟩)
  have HT := Lib.hid (HT.out.sum (H' := [gC' ++ (gW ++ gP), gL]) (fun n ha h0 h1 h2 => by simp only [SU, ha, h0, h1, h2] <;> omega))
  clear hx' HW
  generalize w1 = wa at HT ⊢
  have HT2 := Lib.hid (HT.out.alloc (k := wa.heap.size) rfl 51 #[.int .i64 0, .bool true, .int .u64 64, .int .u64 1, .slice none 0 0])
  go_wp2_with fail
  refine (DoesG.use (HK.out _ _ HX.out) (HT2.out) [0] rfl rfl).mono ?_
  rintro e w1 ⟨gs, ⟨rfl, gF', hx', rfl⟩, Ta⟩
  simp only [PU] at Ta
  have HT := Lib.hid Ta
  clear Ta
  obtain ⟨gC2, gW2, gP2, hx2, hw2, hp2, rfl⟩ := hx'
  have HT := Lib.hid (HT.out.sum (H' := [gC2, gP2, gW2 ++ gL, [cl wa.heap.size 51 #[.int .i64 0, .bool true, .int .u64 64, .int .u64 1, .slice none 0 0]]]) (fun n ha h0 h1 h2 => by simp only [SU, ha, h0, h1, h2] <;> omega))
  have HPA := Lib.hid (pipeAll_g hp2 ⟨HS.out.2.1, HS.out.2.2.1⟩ HS.out.2.2.2.1)
  have HX := Lib.hid hx2
  clear hx2 hw2 hp2 HT2
  go_wp2_with fail
  refine (ReadsG.use (corePipe_r HX.out) (HT.out) [0] rfl rfl).mono ?_
  rintro e w1 ⟨rfl, mq, rfl⟩
  have HT := Lib.hid (HT.out.drewN mq)
  go_wp2_with fail
  refine (DoesG.use (HPA.out) (HT.out) [1] rfl rfl).mono ?_
  rintro e w1 ⟨gs, ⟨v, gr, g', rfl, hr, hp', rfl⟩, Ta⟩
  simp only [PU] at Ta
  have HT := Lib.hid Ta
  clear Ta
  rw [HS.out.1] at hr
  obtain ⟨av, cap, hv⟩ := rowG.val hr
  subst hv
  have HR := Lib.hid hr
  clear hr hp'
  generalize w1 = wb at HT ⊢
  have HT := Lib.hid (HT.out.alloc (k := wb.heap.size) rfl 69 #[.int .u64 64, .int .u64 1, .int .u64 1, .int .u64 1])
  have HLIT := Lib.hid (rowG_lit 69 4 wb.heap.size 1 1 #[.int .u64 64, .int .u64 1, .int .u64 1, .int .u64 1] (Nat.le_refl _) (by decide) rfl)
  go_wp2_with fail
  refine (ReadsG.use (sameF_r (l := [⟨64, 1, 1, 1⟩]) HR.out HLIT.out (by decide)) HT.out [4, 5] rfl rfl).mono ?_
  rintro e w2 ⟨rfl, mq2, rfl⟩
  have HT := Lib.hid (HT.out.drewN mq2)
  generalize World.drewN _ _ = wc at HT ⊢
  have hco := coreCount HX.out
  rw [HS.out.2.2.2.2] at hco
  have HCO := Lib.hid hco
  clear hco
  go_wp2_with fail
  refine (ReadsG.use (coreSlab_r HX.out) (HT.out) [0] rfl rfl).mono ?_
  rintro e w1 ⟨rfl, mq, rfl⟩
  have HT := Lib.hid (HT.out.drewN mq)
  go_wp2_with fail
  refine (DoesG.use (HCO.out) (HT.out) [0] rfl rfl).mono ?_
  rintro e w1 ⟨gs, ⟨rfl, g3, hx3, rfl⟩, Ta⟩
  simp only [PU] at Ta
  have HT := Lib.hid Ta
  clear Ta
  go_wp2
  go_ret
  exact ⟨[], ⟨rfl, rfl⟩, HT.out.pick [] rfl⟩
end Go.Proofs.YtblhfbcodbjgcaaGreat
