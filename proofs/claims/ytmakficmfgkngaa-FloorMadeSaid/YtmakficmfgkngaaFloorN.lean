import Derived.Test.YtmakficmfgkngaaFloorZ
import Derived.Test.YtmakficmfgkngaaFloorB
namespace Go.Proofs.Ytmakficmfgkngaa
set_option linter.unusedVariables false
set_option linter.unusedSimpArgs false
open Go.RowKit Go.Shelf

/-! ## Config, the reference's Check, the lengths of an empty pipe and an empty log -/
theorem floorConfig_g {fb : Nat} {p : FPtr} {f : FloorS} {tr : Value} {g : List Blk} (hg : isFloor fb p f tr g) : DoesG Try.prog 15 #[ptr' fb] [g] fun e gs => e = .returned (.agg f.cfg.cells) ∧ gs = [g] := by
  obtain ⟨C, rfl, hc⟩ := hg
  have hcf := hc.cfg
  intro w hw
  have T0 := TG.refl hw
  have HT := Lib.hid T0
  clear hw T0
  have k0 := (HT.out.cell 0 0 rfl 0).trans (hcf 0 (by decide))
  have k1 := (HT.out.cell 0 0 rfl 1).trans (hcf 1 (by decide))
  have k2 := (HT.out.cell 0 0 rfl 2).trans (hcf 2 (by decide))
  have k3 := (HT.out.cell 0 0 rfl 3).trans (hcf 3 (by decide))
  have k4 := (HT.out.cell 0 0 rfl 4).trans (hcf 4 (by decide))
  have k5 := (HT.out.cell 0 0 rfl 5).trans (hcf 5 (by decide))
  simp only [Cfg.cells, List.getElem?_toArray, List.getElem?_cons_zero, List.getElem?_cons_succ] at k0 k1 k2 k3 k4 k5
  have hlt := HT.out.lt 0 0 rfl
  simp only [] at hlt
  clear hcf hc
  go_enter Try.func15, Try.ntmps15
  go_wp2
  exact bodyPost_ret (v := .agg f.cfg.cells) (by simp [results, Try.results15, go_sem, Cfg.cells]) rfl ⟨_, ⟨rfl, rfl⟩, HT.out.alloc0 _⟩
def pairsOf (c : Cfg) : Array Value := #[.int .i64 c.sh, .int .i64 4, .int .i64 c.cap, .int .i64 64, .int .i64 c.ring, .int .i64 64, .int .i64 c.room, .int .i64 16, .int .i64 c.wk, .int .i64 4, .int .i64 c.cli, .int .i64 8]
theorem pairs_at (c : Cfg) {k : Nat} (hk : k < 6) : (pairsOf c)[2 * k]? = some (.int .i64 (c.pair k).1) ∧ (pairsOf c)[2 * k + 1]? = some (.int .i64 (c.pair k).2) := by
  have : k = 0 ∨ k = 1 ∨ k = 2 ∨ k = 3 ∨ k = 4 ∨ k = 5 := by omega
  rcases this with rfl | rfl | rfl | rfl | rfl | rfl <;> exact ⟨rfl, rfl⟩
set_option maxRecDepth 100000 in
set_option maxHeartbeats 4000000 in
theorem refCheck_g (c : Cfg) : DoesG Try.prog 13 #[.agg c.cells] [] fun e gs => e = .returned (.bool c.ok) ∧ gs = [] := by
  intro w hw
  have T0 := TG.refl hw
  have HT := Lib.hid T0
  clear hw T0
  simp only [Cfg.cells]
  go_enter Try.func13, Try.ntmps13
  go_wp2
  go_loopw [4] (fun i wr => ∃ k : Nat, k ≤ 6 ∧ i = .int .i64 ((2 * k : Nat) : Int) ∧ c.upto k ∧ TG [] w [[cl (w.heap.size + 1) 3 (pairsOf c)]] wr) (fun i _ => 13 - (intOf i).toNat)
  case atStart => exact ⟨0, by omega, rfl, fun i hi => absurd hi (Nat.not_lt_zero _), (HT.out.alloc0 _).alloc (by simp) _ _⟩
  case round =>
    obtain ⟨k, hk, rfl, hu, T⟩ := hrel
    have HT := Lib.hid T
    have HU := Lib.hid hu
    clear T hu
    by_cases hlt : k < 6
    · obtain ⟨x, hx⟩ : ∃ x, (c.pair k).1 = x := ⟨_, rfl⟩
      obtain ⟨m, hm⟩ : ∃ m, (c.pair k).2 = m := ⟨_, rfl⟩
      have hf : c.fine k = (decide (1 ≤ x) && decide (x ≤ m)) := by unfold Cfg.fine; rw [hx, hm]
      have HF := Lib.hid hf
      have p0 := (pairs_at c hlt).1
      have p1 := (pairs_at c hlt).2
      rw [hx] at p0
      rw [hm] at p1
      have c0 := (HT.out.cell 0 0 rfl (2 * k)).trans p0
      have c1 := (HT.out.cell 0 0 rfl (2 * k + 1)).trans p1
      clear hx hm hf p0 p1
      by_cases h1 : x < 1
      · go_wp2
        go_region
        all_goals go_wp2
        all_goals go_ret
        all_goals exact ⟨_, ⟨congrArg (fun b => Ending.returned (Value.bool b)) (Cfg.not_ok hlt (by rw [HF.out]; simp; omega)).symm, rfl⟩, HT.out.drew.pick [] rfl⟩
      · have d1 : decide (x < 1) = false := by simpa using h1
        have i0 : (0 : Int) ≤ 2 * (k : Int) := by omega
        have i1 : (0 : Int) ≤ 2 * (k : Int) + 1 := by omega
        have i2 : 2 * (k : Int) + 1 < 12 := by omega
        have i3 : (2 * (k : Int)).toNat = 2 * k := by omega
        have i4 : (2 * (k : Int) + 1).toNat = 2 * k + 1 := by omega
        by_cases h2 : m < x
        · have d2 : decide (m < x) = true := by simpa using h2
          go_wp2
          go_region
          all_goals go_wp2
          all_goals go_ret
          all_goals exact ⟨_, ⟨congrArg (fun b => Ending.returned (Value.bool b)) (Cfg.not_ok hlt (by rw [HF.out]; simp; omega)).symm, rfl⟩, HT.out.drew.pick [] rfl⟩
        · have hn : c.upto (k + 1) := fun i hi => by
            by_cases hik : i = k
            · subst hik; rw [HF.out]; simp; omega
            · exact HU.out i (by omega)
          have HN := Lib.hid hn
          have d2 : decide (m < x) = false := by simpa using h2
          clear hn
          go_wp2
          go_region
          all_goals go_wp2
          all_goals
            first
            | (go_roundw
               case rel => exact ⟨k + 1, by omega, by go_num, HN.out, HT.out.drew⟩
               case measure => simp [intOf]; omega)
            | exact ⟨⟨k + 1, by omega, by go_num, HN.out, HT.out.drew⟩, by simp [intOf]; omega⟩
            | ((repeat apply Exists.intro); exact ⟨⟨⟨k + 1, by omega, by go_num, HN.out, HT.out.drew⟩, rfl⟩, by simp [intOf]; omega⟩)
    · obtain rfl : k = 6 := by omega
      go_wp2
      go_ret
      exact ⟨_, ⟨congrArg (fun b => Ending.returned (Value.bool b)) (Cfg.ok_of HU.out).symm, rfl⟩, HT.out.pick [] rfl⟩
theorem fireListLen_r {lb hb : Nat} : ReadsG Try.prog 54 #[ptr' lb] [noList lb hb] (.int .i64 0) := by
  intro w hw
  have T0 := TG.refl hw
  have HT := Lib.hid T0
  clear hw T0
  have c2 := HT.out.cell 0 0 rfl 2
  go_enter Try.func54, Try.ntmps54
  go_wp2
  go_ret
  exact ⟨rfl, 0, rfl⟩
theorem run_len_chan (cb n : Nat) (buf : Array Value) (cz : Bool) (a b : Nat) (w : World) (h : w.heap[cb]? = some (.chan n buf cz a b false)) :
    (Builtin.len_ #[111] 3 #[.chan (some cb)]).run Try.prog w = .ok (.int .i64 buf.size) w := by
  have hg : (getObj cb).run Try.prog w = .ok (.chan n buf cz a b false) w := by simp [getObj, Sem.run, h]
  simp [Builtin.len_, run_underlying Try.underlying111, hg, goInt]
theorem pipeLen_r {pb : Nat} {g : List Blk} (hg : emptyPipe pb g) : ReadsG Try.prog 19 #[ptr' pb] [g] (.int .i64 0) := by
  obtain ⟨cb, lb, hb, n, rfl⟩ := hg
  intro w hw
  have T0 := TG.refl hw
  have HT := Lib.hid T0
  clear hw T0
  have c0 := HT.out.cell 0 0 rfl 0
  have c1 := HT.out.cell 0 0 rfl 1
  have b1 := HT.out.obj 0 1 rfl
  simp only [] at c0 c1 b1
  have hlc := fun k => run_len_chan cb n #[] false 0 0 (w.drewN k) b1
  simp only [List.size_toArray, List.length_nil] at hlc
  have HT1 := Lib.hid (HT.out.eq (H' := [[cl pb 114 #[.chan (some cb), ptr' lb, .int .i64 0, .bool false], (cb, .chan n #[] false 0 0 false)], noList lb hb]) (by simp [List.flatten]))
  have ql := fun n => ReadsG.quiet (fireListLen_r (lb := lb) (hb := hb)) HT1.out n [1] rfl rfl
  go_enter Try.func19, Try.ntmps19
  go_wp2
  go_quiet (first | (go_at_call 54; with_reducible exact ql _))
  go_wp2
  go_ret
  exact ⟨rfl, _, rfl⟩
theorem logThose_iter0 (i j b1 b2 lb : Nat) : IterG Try.prog 85 #[ptr' b1, ptr' b2] 0 0 (fun _ => #[])
    (fun _ H => (H.getD i [])[0]? = some (cl b1 41 #[ptr' lb]) ∧ (H.getD j [])[0]? = some (cl lb 150 #[.slice none 0 0])) := by
  intro W l J Jx hJ hJx hT hY h0
  obtain ⟨H, ⟨ht1, ht2⟩, hh⟩ := hT 0 W (Nat.le_refl _) h0
  have c0 := blk_cell (hh.obj i 0 ht1) 0
  have c1 := blk_cell (hh.obj j 0 ht2) 0
  simp only [List.getElem?_toArray, List.getElem?_cons_zero] at c0 c1
  have H0 := Lib.hid h0
  clear hT hJ hJx hY ht1 ht2 hh h0
  refine (callsIn_wide (n := 9)).1 (callsIn_of_wp Try.func85 rfl trivial ?_ rfl)
  simp only [Try.ntmps85, List.size_toArray, List.length_cons, List.length_nil, Nat.reduceAdd, Nat.reduceSub, Array.replicate_succ, Array.replicate_zero, List.push_toArray, List.append_toArray, List.nil_append, List.cons_append]
  gi_wp2
  gi_loopw [13] (fun i wr => i = .int .i64 0 ∧ wr = W) (fun _ _ => 0)
  case atStart => exact ⟨rfl, rfl⟩
  case round =>
    obtain ⟨rfl, rfl⟩ := hrel
    gi_wp2
    refine bodyPost_end (results_none rfl _ _ _) rfl ?_
    exact ⟨⟨_, rfl⟩, .inl H0.out⟩
theorem logThose_g (lb : Nat) (F : Value) (hF : ∃ fn fr ca, F = .func fn fr ca) : DoesG Try.prog 55 #[ptr' lb, F] [] fun e gs => ∃ b1 b2, e = .returned (.func (.func 85) #[] #[ptr' b1, ptr' b2]) ∧ gs = [[cl b1 41 #[ptr' lb]], [cl b2 118 #[F]]] := by
  obtain ⟨fn, fr, ca, rfl⟩ := hF
  intro w hw
  have T0 := TG.refl hw
  have HT := Lib.hid T0
  clear hw T0
  go_enter Try.func55, Try.ntmps55
  go_wp2
  go_ret
  exact ⟨_, ⟨_, _, rfl, rfl⟩, (HT.out.alloc rfl _ _).alloc (k := w.heap.size + 1) (by simp) _ _⟩
def lenJ (b1 b2 b3 lb : Nat) (F : Value) (_ : Nat) (H : GH) : Prop := H = [[cl lb 150 #[.slice none 0 0]], [cl b3 3 #[.int .i64 0]], [cl b1 41 #[ptr' lb]], [cl b2 118 #[F]]]
set_option maxRecDepth 100000 in
theorem logLen0_g (lb : Nat) : DoesG Try.prog 20 #[ptr' lb] [[cl lb 150 #[.slice none 0 0]]] fun e gs => e = .returned (.int .i64 0) ∧ gs = [[cl lb 150 #[.slice none 0 0]]] := by
  intro w hw
  have T0 := TG.refl hw
  have HT := Lib.hid T0
  clear hw T0
  refine calls_of_marks Try.func20 rfl ?_
  simp only [Try.ntmps20, List.size_toArray, List.length_cons, List.length_nil, Nat.reduceAdd, Nat.reduceSub, Array.replicate_succ, Array.replicate_zero, List.push_toArray, List.append_toArray, List.nil_append, List.cons_append]
  go_wp2_with fail
  refine (DoesG.use (logThose_g lb _ ⟨_, _, _, rfl⟩) (HT.out.alloc rfl _ _) [] rfl rfl).mono ?_
  rintro e w1 ⟨gs, ⟨b1, b2, rfl, rfl⟩, Ta⟩
  simp only [putG, List.nil_append, List.cons_append] at Ta
  go_wp2
  refine wp_rangeG rfl (enters_of Try.func85 (by kernel_rfl) rfl) (logThose_iter0 2 0 b1 b2 lb) (fun k hk => absurd hk (Nat.not_lt_zero _)) Ta (lenJ b1 b2 w.heap.size lb (.func (.func 56) #[] #[])) (fun _ _ _ => False) ?h0 ?hT ?hbody ?hdone ?hstop
  case h0 => rfl
  case hT => rintro k H _ rfl; exact ⟨rfl, rfl⟩
  case hbody => intro k hk; exact absurd hk (Nat.not_lt_zero _)
  case hdone =>
    rintro H W D rfl hT hD hK
    have c0 := hT.cell 1 0 rfl 0
    have HX := Lib.hid (And.intro hT (And.intro hD hK))
    clear hT hD hK
    go_wp2
    obtain ⟨hT, hD, hK⟩ := HX.out
    have T3 := hT.fin hD (TG.refl hT.has) (.deferred none)
    exact post_mark (v := .int .i64 0) hK (by simp [results, Try.results20, go_sem]) ⟨_, ⟨rfl, rfl⟩, T3.pick [0] rfl⟩
  case hstop => intro k cd H W D hk; exact absurd hk (Nat.not_lt_zero _)
end Go.Proofs.Ytmakficmfgkngaa
