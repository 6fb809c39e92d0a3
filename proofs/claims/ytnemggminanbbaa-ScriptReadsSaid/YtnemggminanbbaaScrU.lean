import Derived.Test.YtnemggminanbbaaScrT
namespace Go.Proofs.Ytnemggminanbbaa
set_option linter.unusedVariables false
set_option linter.unusedSimpArgs false
open Go.RowKit Go.Shelf

theorem entsK_getD (zs : List Int) (n k : Nat) (h : k < n) : (entsK zs n).getD k Ent.zero = readE (six zs k) := by
  unfold entsK
  rw [List.getD_eq_getElem?_getD, List.getElem?_map, List.getElem?_range h]
  rfl
theorem fun_is_S (f : Fn) (a b : Array Value) (w : World) : (binOp .eql 36 (.func f a b) .nilFunc).run Try.prog w = .ok (.bool false) w := by kernel_rfl

set_option maxRecDepth 100000 in
set_option maxHeartbeats 4000000 in
theorem lawReads_walk (a : Option Addr) (ca : Nat) (A : List Int) (m : Nat) (hm : m ≤ 255) (w : World) (ha : InU8 w a ca A) :
    Calls Try.prog 3 #[.slice a A.length ca, .int .u8 m] w fun e w' => e = .returned (.bool true) ∧ Grew w w' := by
  have hA9 : A.length ≤ 9223372036854775807 := Nat.le_trans ha.le ha.max
  by_cases c1 : 5000 < A.length
  · go_enter Try.func3, Try.ntmps3
    go_wp2_with (go_at_call 5; refine (alive_calls _).mono ?_; rintro e w' ⟨rfl, hg⟩)
    go_ret
    exact ⟨rfl, Only.trans ((Only.refl _ w).alloc _) hg⟩
  obtain ⟨la, hla⟩ : ∃ n, A.length = n := ⟨_, rfl⟩
  have HL := Lib.hid hla
  have HA := Lib.hid ha
  have hcap := ha.le
  have hmax := ha.max
  have P2 := Lib.hid (fun (w1 : World) (h : Grew w w1) => refParse_calls a ca A (by omega) ha.le ha.max w1 (ha.bytes.grew h))
  have P1 := Lib.hid (fun (b : Option Addr) (cb : Nat) (w1 : World) (h : InU8 w1 b cb A) => parse_calls b cb A (by omega) h.le h.max w1 h.bytes)
  simp only [hla] at P1 P2
  rw [hla] at c1 hA9 hcap ⊢
  clear ha hla
  obtain ⟨i0, hi, hz0, hz1, hz2⟩ := info_parts Try.infoU8
  have U := Lib.hid (show ∀ l : List Int, ∀ u ∈ l.map (Value.int .u8), u.oneCell' = true from fun l u hu => by obtain ⟨x, _, rfl⟩ := List.mem_map.1 hu; rfl)
  go_enter Try.func3, Try.ntmps3
  go_wp2_with (first
    | (go_at_call 5; refine (alive_calls _).mono ?_; rintro e w1 ⟨rfl, hg⟩
       have BM := Lib.hid (hg.blk (show (w.alloc (.cells #[.int .u8 m] 5)).heap[w.heap.size]? = _ from alloc_new _ rfl) (fun x => x))
       have G1 := Lib.hid (Only.trans ((Only.refl (fun _ => False) w).alloc (.cells #[.int .u8 m] 5)) hg)
       have hz3 := hg.size
       simp only [World.size_alloc] at hz3
       clear hg)
    | (at_builtin
       refine wpList_append_src rfl (.tmp 16) (.tmp 17) 22 rfl w1.heap.size 5 i0 _ 1 1 Try.underlying22 hi hz0 hz1 hz2 rfl (by decide) _ 0 [] rfl (World.ownsRow_lit (base := w1.heap.size) (size := 1) w1 #[] 0 (Nat.le_refl _) (by decide) rfl) a la ca (A.map (Value.int .u8)) rfl (by simp [HL.out]) (HA.out.src HL.out (G1.out.alloc _)) (U.out _) (by unfold maxLen; omega) (by omega) (by simp) ?_
       intro v1 w2 hown1 hgr1
       have K2 := Lib.hid (Only.trans ((Only.refl (fun j => w1.heap.size ≤ j) w1).alloc _) ((Only.of_grownBy hgr1).mono (fun j _ e => by cases e; exact Nat.le_refl _)))
       have hk2 := K2.out.size
       rw [List.nil_append, Nat.zero_add] at hown1
       have OWN1 := Lib.hid hown1
       clear hown1 hgr1))
  have G2 := Lib.hid (Only.of_new K2.out G1.out (fun i h => by omega))
  have BM2 := Lib.hid (K2.out.blk BM.out (fun h => by omega))
  obtain ⟨az, cz, rfl, hlz, hin⟩ := row_bytes OWN1.out HA.out.bytes.1
  refine (P1.out az cz w2 hin).mono ?_
  clear hin hlz OWN1 K2 G1 BM U hi hz0 hz1 hz2
  rintro e w3 ⟨vx, rfl, hrx, hg3⟩
  rw [entsK_length] at hrx
  have G3 := Lib.hid (Only.trans G2.out hg3)
  have BM3 := Lib.hid (hg3.blk BM2.out (fun x => x))
  have RX3 := Lib.hid hrx
  have hk3 := hg3.size
  clear hrx hg3 G2 BM2
  go_wp2_with fail
  refine (P2.out w3 G3.out).mono ?_
  rintro e w4 ⟨vw, rfl, hrw, hg4⟩
  rw [entsK_length] at hrw
  have G4 := Lib.hid (Only.trans G3.out hg4)
  have BM4 := Lib.hid (hg4.blk BM3.out (fun x => x))
  have hk4 := hg4.size
  obtain ⟨xx, xc, rfl, hx⟩ := row_slice (row_only RX3.out hg4 (fun _ _ x => x))
  obtain ⟨yx, yc, rfl, hy⟩ := row_slice hrw
  have lN := entsK_length A (chunkN la)
  have hN : chunkN la ≤ 1000 := by unfold chunkN; omega
  obtain ⟨N, hNe⟩ : ∃ N, chunkN la = N := ⟨_, rfl⟩
  have HNE := Lib.hid hNe
  rw [hNe] at hx hy lN hN ⊢
  obtain ⟨l, hle⟩ : ∃ l, entsK A N = l := ⟨_, rfl⟩
  have HLE := Lib.hid hle
  rw [hle] at hx hy lN
  have HX := Lib.hid hx; have HY := Lib.hid hy; have LN := Lib.hid lN
  clear hx hy lN hle hNe hrw hg4 BM3 G3 RX3 P1 P2
  obtain ⟨w5, hw5⟩ : ∃ w5, w4.alloc (.cells #[.slice yx N yc] 26) = w5 := ⟨_, rfl⟩
  obtain ⟨cw, hcw⟩ : ∃ cw, w4.heap.size = cw := ⟨_, rfl⟩
  have hs5 : w5.heap.size = cw + 1 := by rw [← hw5, World.size_alloc, hcw]
  have BW := Lib.hid (show w5.heap[cw]? = some (.cells #[.slice yx N yc] 26 (0, 0)) from by rw [← hw5, ← hcw]; exact alloc_new _ rfl)
  have g45 : Grew w4 w5 := by rw [← hw5]; exact (Only.refl _ w4).alloc _
  have BM5 := Lib.hid (g45.blk BM4.out (fun x => x))
  have G5 := Lib.hid (Only.trans G4.out g45)
  have G45 := Lib.hid g45
  have hbw := blk_cell BW.out 0
  simp only [List.getElem?_toArray, List.getElem?_cons_zero] at hbw
  have hmsz : w.heap.size < w1.heap.size := by omega
  have hmc : w.heap.size < cw := by omega
  have hbw := blk_cell BW.out 0
  simp only [List.getElem?_toArray, List.getElem?_cons_zero] at hbw
  clear BM4 G4 g45
  go_wp2
  have hcw4 : w4.heap.size ≤ cw := Nat.le_of_eq hcw
  clear hw5 hcw hbw
  go_loopw [7] (fun i wr => ∃ k : Nat, k ≤ N ∧ i = .int .i64 k ∧ Grew w5 wr) (fun i _ => N - (intOf i).toNat)
  case atStart => exact ⟨0, Nat.zero_le _, rfl, Only.refl _ _⟩
  case round =>
    obtain ⟨k, hk, rfl, hG⟩ := hrel
    have HG := Lib.hid hG
    have hsG := hG.size
    clear hG
    by_cases hlt : k < N
    · obtain ⟨gx, rfl, _, hgx, hx⟩ := HX.out (by omega)
      obtain ⟨gy, rfl, _, hgy, hy⟩ := HY.out (by omega)
      obtain ⟨x0, x1, x2, x3, x4, x5⟩ := ent_cells hx LN.out k hlt
      obtain ⟨y0, y1, y2, y3, y4, y5⟩ := ent_cells hy LN.out k hlt
      generalize l.getD k Ent.zero = e at *
      obtain ⟨e1, e2, e3, e4, e5, e6⟩ := e
      obtain ⟨ι, W, hW0, hend, hin⟩ : ∃ (ι : Type) (W : ι → World), (∃ i, World.drew wr = W i) ∧ (∀ i, Grew wr (W i)) ∧ (∀ w', Grew wr w' → ∃ i, w' = W i) := ⟨{w' // Grew wr w'}, Subtype.val, ⟨⟨_, (Only.refl _ _).drew⟩, rfl⟩, fun i => i.2, fun w' h => ⟨⟨w', h⟩, rfl⟩⟩
      have hne : Nonempty ι := hW0.elim fun i _ => ⟨i⟩
      have hf := fun i => (Only.trans G45.out (Only.trans HG.out (hend i))).facts
      have u0 : ∀ i, (W i).cell? ⟨gx, k * 6, none⟩ = some (.int .i64 e1) := fun i => ((hf i).1 gx _ (by omega)).trans x0
      have u1 : ∀ i, (W i).cell? ⟨gx, k * 6 + 1, none⟩ = some (.int .i64 e2) := fun i => ((hf i).1 gx _ (by omega)).trans x1
      have u2 : ∀ i, (W i).cell? ⟨gx, k * 6 + 2, none⟩ = some (.int .i64 e3) := fun i => ((hf i).1 gx _ (by omega)).trans x2
      have u3 : ∀ i, (W i).cell? ⟨gx, k * 6 + 3, none⟩ = some (.int .u64 e4) := fun i => ((hf i).1 gx _ (by omega)).trans x3
      have u4 : ∀ i, (W i).cell? ⟨gx, k * 6 + 4, none⟩ = some (.int .u64 e5) := fun i => ((hf i).1 gx _ (by omega)).trans x4
      have u5 : ∀ i, (W i).cell? ⟨gx, k * 6 + 5, none⟩ = some (.int .u64 e6) := fun i => ((hf i).1 gx _ (by omega)).trans x5
      have v0 : ∀ i, (W i).cell? ⟨gy, k * 6, none⟩ = some (.int .i64 e1) := fun i => ((hf i).1 gy _ (by omega)).trans y0
      have v1 : ∀ i, (W i).cell? ⟨gy, k * 6 + 1, none⟩ = some (.int .i64 e2) := fun i => ((hf i).1 gy _ (by omega)).trans y1
      have v2 : ∀ i, (W i).cell? ⟨gy, k * 6 + 2, none⟩ = some (.int .i64 e3) := fun i => ((hf i).1 gy _ (by omega)).trans y2
      have v3 : ∀ i, (W i).cell? ⟨gy, k * 6 + 3, none⟩ = some (.int .u64 e4) := fun i => ((hf i).1 gy _ (by omega)).trans y3
      have v4 : ∀ i, (W i).cell? ⟨gy, k * 6 + 4, none⟩ = some (.int .u64 e5) := fun i => ((hf i).1 gy _ (by omega)).trans y4
      have v5 : ∀ i, (W i).cell? ⟨gy, k * 6 + 5, none⟩ = some (.int .u64 e6) := fun i => ((hf i).1 gy _ (by omega)).trans y5
      have z0 : ∀ i, (W i).cell? ⟨cw, 0, none⟩ = some (.slice (some ⟨gy, 0, none⟩) N yc) := fun i => blk_cell ((hend i).blk (HG.out.blk BW.out (fun x => x)) (fun x => x)) 0
      have pl : ∀ i, Calls Try.prog 8 #[.agg #[.int .i64 e1, .int .i64 e2, .int .i64 e3, .int .u64 e4, .int .u64 e5, .int .u64 e6]] (W i) fun e w2 => e = .returned (.agg #[.int .i64 e1, .int .i64 e2, .int .i64 e3, .int .u64 e4, .int .u64 e5, .int .u64 e6]) ∧ ∃ j, w2 = W j :=
        fun i => (plain_calls _ _ _ _ _ _ _).mono (by rintro e w2 ⟨rfl, hg⟩; exact ⟨rfl, hin _ (Only.trans (hend i) hg)⟩)
      have HEN := Lib.hid hend
      clear hf hend hx hy x0 x1 x2 x3 x4 x5 y0 y1 y2 y3 y4 y5
      go_wp2
      refine wp_region_cls W (by kernel_rfl) (by kernel_rfl) hW0 ?_
      repeat (go_big_quiet_step ((first | (go_at_call 8; with_reducible exact pl _))))
      refine wpQuiet_nil ?_
      intro _ hw'
      obtain ⟨iq, hw''⟩ := hw'
      subst hw''
      have HG2 := Lib.hid (Only.trans HG.out (HEN.out iq))
      generalize W iq = w6 at *
      clear hin hW0 hne pl u0 u1 u2 u3 u4 u5 v0 v1 v2 v3 v4 v5 z0 HEN
      go_wp2
      go_roundw
      case rel => exact ⟨k + 1, by omega, by go_num, HG2.out⟩
      case measure => simp [intOf]; omega
    · have hkN : N = k := by omega
      subst hkN
      have BMr := Lib.hid (HG.out.blk BM5.out (fun x => x))
      have BWr := Lib.hid (HG.out.blk BW.out (fun x => x))
      have GR := Lib.hid (Only.trans G5.out HG.out)
      have GR4 := Lib.hid (Only.trans G45.out HG.out)
      clear BM5 BW G5 G45 HG
      have FS := fun b w => fun_is_S (.func 40) #[] b w
      go_wp2_with (go_at_call 9; refine (all_calls _ _ _ _).mono ?_; rintro e w' ⟨rfl, rfl⟩)
      obtain ⟨Wc, hWc⟩ : ∃ Wc, ((wr.alloc (.cells #[.int .i64 0] 3)).alloc (.cells #[.bool true] 4)).alloc (.cells #[.slice a la ca] 22) = Wc := ⟨_, rfl⟩
      rw [hWc]
      obtain ⟨z, hz⟩ : ∃ z, wr.heap.size = z := ⟨_, rfl⟩
      have hzc : Wc.heap.size = z + 3 := by rw [← hWc]; simp [hz]
      have gC : Grew wr Wc := by rw [← hWc]; exact (((Only.refl _ wr).alloc _).alloc _).alloc _
      have bn : Wc.heap[z]? = some (.cells #[.int .i64 (0 : Nat)] 3 (0, 0)) := by rw [← hWc]; exact alloc_old (alloc_old (alloc_new _ hz.symm) _) _
      have bo : Wc.heap[z + 1]? = some (.cells #[.bool true] 4 (0, 0)) := by rw [← hWc]; exact alloc_old (alloc_new _ (by simp [hz])) _
      have bb : Wc.heap[z + 1 + 1]? = some (.cells #[.slice a la ca] 22 (0, 0)) := by rw [← hWc]; exact alloc_new _ (by simp [hz])
      have bm := gC.blk BMr.out (fun x => x)
      have bw := gC.blk BWr.out (fun x => x)
      have GC := Lib.hid (Only.trans GR.out gC)
      have GC4 := Lib.hid (Only.trans GR4.out gC)
      have hz9 : cw < z := by omega
      rw [hz]
      clear hWc gC hz BMr BWr GR GR4 hsG
      have hz4 := GC4.out.size
      have ALL := all_plain a (z + 1 + 1) ca A (by rw [HL.out]; omega) (by rw [HL.out]; exact hcap) hmax Wc (z + 1) z cw w.heap.size (fun i W' => RdJ Wc (z + 1) z i W' ∧ i ≤ m) (fun i W' => RdJ Wc (z + 1) z i W' ∧ i = m + 1)
        (fun i A' B' h1 h2 h3 => ⟨RdJ.stands (by omega) (by omega) i A' B' h1.1 h2 h3, h1.2⟩) (fun i A' B' h1 h2 h3 => ⟨RdJ.stands (by omega) (by omega) i A' B' h1.1 h2 h3, h1.2⟩)
        (fun i W' hi h => ⟨by rw [HL.out]; exact blk_cell (h.1.only.blk bb (by omega)) 0, by omega, HA.out.bytes.grew (Only.of_new h.1.only GC.out (fun i h => by omega))⟩) ?_ ⟨⟨Only.refl _ _, bo, bn⟩, Nat.zero_le _⟩
      case refine_1 =>
        intro i hi W1 hJ1 hs1
        rw [HL.out, HNE.out] at hi
        obtain ⟨gy, rfl, _, hgy, hy⟩ := HY.out (by omega)
        have hcl := fun j => GC4.out.facts.1 gy j hgy
        have hk := reads1_calls Wc (z + 1) z cw w.heap.size (by omega) (by omega) (by omega) (by omega) (by omega) gy yc N m bw bm hm l LN.out (by omega) (by omega) (fun j hj => (hcl j).trans (hy j hj)) i hi hJ1.2 W1 hJ1.1
        rw [← HLE.out, entsK_getD A N i hi] at hk
        refine hk.mono ?_
        rintro e W' ⟨bv, rfl, ho, hr, hb⟩
        refine ⟨bv, rfl, KeptWin.of_only ho ?_ (fun j h1 h2 h3 => by omega), fun e => ⟨hr, ?_⟩, fun e => ⟨hr, ?_⟩⟩
        · exact hs1
        · rw [hb] at e; simpa using e
        · rw [hb] at e
          have := hJ1.2
          simp at e
          omega
      rw [HL.out, HNE.out] at ALL
      refine ALL.mono ?_
      clear ALL
      rintro e w9 ⟨⟨v, rfl⟩, h⟩
      obtain ⟨n, hJn, hn⟩ : ∃ n : Nat, RdJ Wc (z + 1) z n w9 ∧ ((m + 1 < N ∧ n = m + 1) ∨ (¬ m + 1 < N ∧ n = N)) := by
        rcases h with h | ⟨i, hi, h⟩
        · exact ⟨N, h.1, .inr ⟨by have := h.2; omega, rfl⟩⟩
        · refine ⟨i + 1, h.1, ?_⟩
          have := h.2
          by_cases c : m + 1 < N
          · exact .inl ⟨c, this⟩
          · exact .inr ⟨c, by omega⟩
      have x1 := blk_cell hJn.ok 0
      have x2 := blk_cell hJn.n 0
      have x3 := blk_cell (hJn.only.blk bw (by omega)) 0
      have x4 := blk_cell (hJn.only.blk bm (by omega)) 0
      simp only [List.getElem?_toArray, List.getElem?_cons_zero] at x1 x2 x3 x4
      have HG9 := Lib.hid (Only.of_new hJn.only GC.out (fun i h => by omega))
      have hw1 : IntKind.i64.wrap ((m : Int) + 1) = (m : Int) + 1 := IntWalk.i64_in _ (by omega)
      clear h hJn bb bm bw bn bo HX HY
      rcases hn with ⟨c, rfl⟩ | ⟨c, rfl⟩
      · have hc : (m : Int) + 1 < (N : Int) := by omega
        rw [Int.natCast_add] at x2
        go_wp2
        go_ret
        exact ⟨rfl, HG9.out⟩
      · have hc : ¬ ((m : Int) + 1 < (n : Int)) := by omega
        go_wp2
        go_ret
        exact ⟨rfl, HG9.out⟩
end Go.Proofs.Ytnemggminanbbaa
