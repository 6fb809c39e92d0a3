import Derived.Test.YtnemggminanbbaaFloorZ
import Derived.Test.YtnemggminanbbaaFloorB
namespace Go.Proofs.Ytnemggminanbbaa
set_option linter.unusedVariables false
set_option linter.unusedSimpArgs false
open Go.RowKit Go.Shelf

/-! ## Config, the reference's Check, the lengths of an empty pipe and an empty log -/
def pairsOf (c : Cfg) : Array Value := #[.int .i64 c.sh, .int .i64 4, .int .i64 c.cap, .int .i64 64, .int .i64 c.ring, .int .i64 64, .int .i64 c.room, .int .i64 16, .int .i64 c.wk, .int .i64 4, .int .i64 c.cli, .int .i64 8]
theorem pairs_at (c : Cfg) {k : Nat} (hk : k < 6) : (pairsOf c)[2 * k]? = some (.int .i64 (c.pair k).1) ∧ (pairsOf c)[2 * k + 1]? = some (.int .i64 (c.pair k).2) := by
  have : k = 0 ∨ k = 1 ∨ k = 2 ∨ k = 3 ∨ k = 4 ∨ k = 5 := by omega
  rcases this with rfl | rfl | rfl | rfl | rfl | rfl <;> exact ⟨rfl, rfl⟩
theorem fireListLen_r {lb hb : Nat} : ReadsG Try.prog 57 #[ptr' lb] [noList lb hb] (.int .i64 0) := by
  intro w hw
  have T0 := TG.refl hw
  have HT := Lib.hid T0
  clear hw T0
  have c2 := HT.out.cell 0 0 rfl 2
  go_enter Try.func57, Try.ntmps57
  go_wp2
  go_ret
  exact ⟨rfl, 0, rfl⟩
theorem run_len_chan (cb n : Nat) (buf : Array Value) (cz : Bool) (a b : Nat) (w : World) (h : w.heap[cb]? = some (.chan n buf cz a b false)) :
    (Builtin.len_ #[114] 3 #[.chan (some cb)]).run Try.prog w = .ok (.int .i64 buf.size) w := by
  have hg : (getObj cb).run Try.prog w = .ok (.chan n buf cz a b false) w := by simp [getObj, Sem.run, h]
  simp [Builtin.len_, run_underlying Try.underlying114, hg, goInt]
theorem pipeLen0_r {pb : Nat} {g : List Blk} (hg : emptyPipe pb g) : ReadsG Try.prog 34 #[ptr' pb] [g] (.int .i64 0) := by
  obtain ⟨cb, lb, hb, n, rfl⟩ := hg
  intro w hw
  have T0 := TG.refl hw
  have HT := Lib.hid T0
  clear hw T0
  have c0 := HT.out.cell 0 0 rfl 0
  have c1 := HT.out.cell 0 0 rfl 1
  have b1 := HT.out.obj 0 1 rfl
  simp only [] at c0 c1 b1
  have hlc := fun k => run_len_chan cb n #[] false 0 0 (w.drewN k) b1
  simp only [List.size_toArray, List.length_nil] at hlc
  have HT1 := Lib.hid (HT.out.eq (H' := [[cl pb 117 #[.chan (some cb), ptr' lb, .int .i64 0, .bool false], (cb, .chan n #[] false 0 0 false)], noList lb hb]) (by simp [List.flatten]))
  have ql := fun n => ReadsG.quiet (fireListLen_r (lb := lb) (hb := hb)) HT1.out n [1] rfl rfl
  go_enter Try.func34, Try.ntmps34
  go_wp2
  go_quiet (first | (go_at_call 57; with_reducible exact ql _))
  go_wp2
  go_ret
  exact ⟨rfl, _, rfl⟩
theorem logThose_iter0 (i j b1 b2 lb : Nat) : IterG Try.prog 84 #[ptr' b1, ptr' b2] 0 0 (fun _ => #[])
    (fun _ H => (H.getD i [])[0]? = some (cl b1 69 #[ptr' lb]) ∧ (H.getD j [])[0]? = some (cl lb 123 #[.slice none 0 0])) := by
  intro W l J Jx hJ hJx hT hY h0
  obtain ⟨H, ⟨ht1, ht2⟩, hh⟩ := hT 0 W (Nat.le_refl _) h0
  have c0 := blk_cell (hh.obj i 0 ht1) 0
  have c1 := blk_cell (hh.obj j 0 ht2) 0
  simp only [List.getElem?_toArray, List.getElem?_cons_zero] at c0 c1
  have H0 := Lib.hid h0
  clear hT hJ hJx hY ht1 ht2 hh h0
  refine (callsIn_wide (n := 9)).1 (callsIn_of_wp Try.func84 rfl trivial ?_ rfl)
  simp only [Try.ntmps84, List.size_toArray, List.length_cons, List.length_nil, Nat.reduceAdd, Nat.reduceSub, Array.replicate_succ, Array.replicate_zero, List.push_toArray, List.append_toArray, List.nil_append, List.cons_append]
  gi_wp2
  gi_loopw [13] (fun i wr => i = .int .i64 0 ∧ wr = W) (fun _ _ => 0)
  case atStart => exact ⟨rfl, rfl⟩
  case round =>
    obtain ⟨rfl, rfl⟩ := hrel
    gi_wp2
    refine bodyPost_end (results_none rfl _ _ _) rfl ?_
    exact ⟨⟨_, rfl⟩, .inl H0.out⟩
theorem logThose_g (lb : Nat) (F : Value) (hF : ∃ fn fr ca, F = .func fn fr ca) : DoesG Try.prog 65 #[ptr' lb, F] [] fun e gs => ∃ b1 b2, e = .returned (.func (.func 84) #[] #[ptr' b1, ptr' b2]) ∧ gs = [[cl b1 69 #[ptr' lb]], [cl b2 118 #[F]]] := by
  obtain ⟨fn, fr, ca, rfl⟩ := hF
  intro w hw
  have T0 := TG.refl hw
  have HT := Lib.hid T0
  clear hw T0
  go_enter Try.func65, Try.ntmps65
  go_wp2
  go_ret
  exact ⟨_, ⟨_, _, rfl, rfl⟩, (HT.out.alloc rfl _ _).alloc (k := w.heap.size + 1) (by simp) _ _⟩
def lenJ (b1 b2 b3 lb : Nat) (F : Value) (_ : Nat) (H : GH) : Prop := H = [[cl lb 123 #[.slice none 0 0]], [cl b3 3 #[.int .i64 0]], [cl b1 69 #[ptr' lb]], [cl b2 118 #[F]]]
set_option maxRecDepth 100000 in
theorem logLen0_g (lb : Nat) : DoesG Try.prog 35 #[ptr' lb] [[cl lb 123 #[.slice none 0 0]]] fun e gs => e = .returned (.int .i64 0) ∧ gs = [[cl lb 123 #[.slice none 0 0]]] := by
  intro w hw
  have T0 := TG.refl hw
  have HT := Lib.hid T0
  clear hw T0
  refine calls_of_marks Try.func35 rfl ?_
  simp only [Try.ntmps35, List.size_toArray, List.length_cons, List.length_nil, Nat.reduceAdd, Nat.reduceSub, Array.replicate_succ, Array.replicate_zero, List.push_toArray, List.append_toArray, List.nil_append, List.cons_append]
  go_wp2_with fail
  refine (DoesG.use (logThose_g lb _ ⟨_, _, _, rfl⟩) (HT.out.alloc rfl _ _) [] rfl rfl).mono ?_
  rintro e w1 ⟨gs, ⟨b1, b2, rfl, rfl⟩, Ta⟩
  simp only [putG, List.nil_append, List.cons_append] at Ta
  go_wp2
  refine wp_rangeG rfl (enters_of Try.func84 (by kernel_rfl) rfl) (logThose_iter0 2 0 b1 b2 lb) (fun k hk => absurd hk (Nat.not_lt_zero _)) Ta (lenJ b1 b2 w.heap.size lb (.func (.func 66) #[] #[])) (fun _ _ _ => False) ?h0 ?hT ?hbody ?hdone ?hstop
  case h0 => rfl
  case hT => rintro k H _ rfl; exact ⟨rfl, rfl⟩
  case hbody => intro k hk; exact absurd hk (Nat.not_lt_zero _)
  case hdone =>
    rintro H W D rfl hT hD hK
    have c0 := hT.cell 1 0 rfl 0
    have HX := Lib.hid (And.intro hT (And.intro hD hK))
    clear hT hD hK
    go_wp2
    obtain ⟨hT, hD, hK⟩ := HX.out
    have T3 := hT.fin hD (TG.refl hT.has) (.deferred none)
    exact post_mark (v := .int .i64 0) hK (by simp [results, Try.results35, go_sem]) ⟨_, ⟨rfl, rfl⟩, T3.pick [0] rfl⟩
  case hstop => intro k cd H W D hk; exact absurd hk (Nat.not_lt_zero _)
end Go.Proofs.Ytnemggminanbbaa
