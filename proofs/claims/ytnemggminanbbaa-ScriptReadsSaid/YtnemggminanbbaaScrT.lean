import Derived.Test.YtnemggminanbbaaScrS
import Derived.Test.YtnemggminanbbaaMix
namespace Go.Proofs.Ytnemggminanbbaa
set_option linter.unusedVariables false
set_option linter.unusedSimpArgs false
open Go.RowKit Go.Shelf
attribute [local go_sem] Oper.semAt_some

set_option maxRecDepth 100000 in
set_option maxHeartbeats 4000000 in
/-- 'All' told a plain closure (that of ScriptReads) -/
theorem all_plain (a : Option Addr) (Bb cap : Nat) (zs : List Int) (hl : zs.length ≤ 1000000) (hcap : zs.length ≤ cap) (hc : cap ≤ 9223372036854775807) (W : World) (c1 c2 c3 c4 : Nat)
    (J Jx : Nat → World → Prop) (hJ : Stands W.heap.size 6 J) (hJx : Stands W.heap.size 6 Jx)
    (hT : ∀ k W', k ≤ chunkN zs.length → J k W' → W'.cell? ⟨Bb, 0, none⟩ = some (.slice a zs.length cap) ∧ Bb < W.heap.size ∧ Bytes W' a zs)
    (hY : ∀ (k : Nat) (hk : k < chunkN zs.length) (W1 : World), J k W1 → W.heap.size + 6 ≤ W1.heap.size →
      Calls Try.prog 10 #[.int .i64 k, (readE (six zs k)).val, .pointer (some ⟨c1, 0, none⟩), .pointer (some ⟨c2, 0, none⟩), .pointer (some ⟨c3, 0, none⟩), .pointer (some ⟨c4, 0, none⟩)] W1 fun e W' =>
        ∃ bv : Bool, e = .returned (.bool bv) ∧ KeptWin W.heap.size 6 W1 W' ∧ (bv = true → J (k + 1) W') ∧ (bv = false → Jx (k + 1) W'))
    (h0 : J 0 W) :
    Calls Try.prog 40 #[.func (.func 10) #[] #[.pointer (some ⟨c1, 0, none⟩), .pointer (some ⟨c2, 0, none⟩), .pointer (some ⟨c3, 0, none⟩), .pointer (some ⟨c4, 0, none⟩)], .pointer (some ⟨Bb, 0, none⟩)] W fun e W' =>
      (∃ v, e = .returned v) ∧ (J (chunkN zs.length) W' ∨ ∃ k, k < chunkN zs.length ∧ Jx (k + 1) W') := by
  refine calls_of_marks Try.func40 rfl ?_
  simp only [Try.ntmps40, List.size_toArray, List.length_cons, List.length_nil, Nat.reduceAdd, Nat.reduceSub, Array.replicate_succ, Array.replicate_zero, List.push_toArray, List.append_toArray, List.nil_append, List.cons_append]
  obtain ⟨t1, t2, t3⟩ := hT 0 W (Nat.zero_le _) h0
  have t2' : Bb < W.heap.size + 1 := by omega
  have HT := Lib.hid hT
  have HY := Lib.hid hY
  have H0 := Lib.hid h0
  have T3 := Lib.hid t3
  clear hT hY h0 t3
  go_wp2_with (go_at_call 41; refine (chunk_calls _ _ ⟨_, _, _, rfl⟩).mono ?_; rintro e w' ⟨rfl, rfl⟩)
  obtain ⟨b, off, ha⟩ : ∃ b off, zs.length = 0 ∨ a = some ⟨b, off, none⟩ := by
    rcases T3.out.2 with h | ⟨b, off, h, _⟩
    · exact ⟨0, 0, .inl (by rw [h]; rfl)⟩
    · exact ⟨b, off, .inr h⟩
  refine wp_range rfl (enters_of Try.func68 (by kernel_rfl) rfl) 0 (chunkN zs.length) (fun k => #[chunkV b off zs.length k])
    (fun _ W' => W'.cell? ⟨W.heap.size + 1 + 1, 0, none⟩ = some (.slice a zs.length cap) ∧ W'.cell? ⟨W.heap.size + 1 + 1 + 1, 0, none⟩ = some (.int .i64 6)) ?hit (fun _ _ => rfl)
    (fun k W' => J k W' ∧ W'.heap[W.heap.size]? = some (.cells #[.func (.func 10) #[] #[.pointer (some ⟨c1, 0, none⟩), .pointer (some ⟨c2, 0, none⟩), .pointer (some ⟨c3, 0, none⟩), .pointer (some ⟨c4, 0, none⟩)]] 38 (0, 0)) ∧ W'.heap[W.heap.size + 1]? = some (.cells #[.int .i64 k] 3 (0, 0)) ∧
      W'.heap[W.heap.size + 1 + 1]? = some (.cells #[.slice a zs.length cap] 22 (0, 0)) ∧ W'.heap[W.heap.size + 1 + 1 + 1]? = some (.cells #[.int .i64 6] 3 (0, 0)))
    (fun k cd W' => cd = .ret ∧ Jx k W') ?hI ?hIx ?hT ?h0 ?hbody ?hdone ?hstop
  case hit => exact fun W1 _ _ => chunk_iter a _ _ b off _ cap ha hl hcap hc W1
  case hI =>
    rintro k A B ⟨hj, h1, h2, h3, h4⟩ hle ho
    simp only [World.size_alloc] at hle ho
    refine ⟨hJ k A B hj (by omega) (ho.mono (fun i _ h => ⟨by have := h.1; omega, by have := h.2; omega⟩)), ?_, ?_, ?_, ?_⟩
    · exact (ho.block _ (by omega) (fun h => by have := h.1; omega)).trans h1
    · exact (ho.block _ (by omega) (fun h => by have := h.1; omega)).trans h2
    · exact (ho.block _ (by omega) (fun h => by have := h.1; omega)).trans h3
    · exact (ho.block _ (by omega) (fun h => by have := h.1; omega)).trans h4
  case hIx =>
    rintro cd k A B ⟨hcd, hj⟩ hle ho
    simp only [World.size_alloc] at hle ho
    exact ⟨hcd, hJx k A B hj (by omega) (ho.mono (fun i _ h => ⟨by have := h.1; omega, by have := h.2; omega⟩))⟩
  case hT =>
    rintro k A hk ⟨hj, h1, h2, h3, h4⟩
    exact ⟨by rw [blk_cell h3]; rfl, by rw [blk_cell h4]; rfl⟩
  case h0 =>
    refine ⟨hJ 0 _ _ H0.out (Nat.le_refl _) ((((Only.refl _ W).alloc _).alloc _).alloc _ |>.alloc _), ?_, ?_, ?_, ?_⟩
    · exact alloc_old (alloc_old (alloc_old (alloc_new _ rfl) _) _) _
    · exact alloc_old (alloc_old (alloc_new _ (by simp)) _) _
    · exact alloc_old (alloc_new _ (by simp)) _
    · exact alloc_new _ (by simp)
  case hdone =>
    rintro W' ⟨hj, _⟩ hK
    simp only [World.size_alloc] at hK ⊢
    have hlt := (Array.getElem?_eq_some_iff.1 hK).1
    refine post_mark_end hK (results_none rfl _ _ _) ⟨⟨_, rfl⟩, .inl ?_⟩
    exact hJ _ _ _ hj (by omega) ((Only.refl _ W').putObj _ (.inl ⟨by omega, by omega⟩) _)
  case hstop =>
    rintro k cd W' hk ⟨rfl, hj⟩ hK
    simp only [World.size_alloc] at hK ⊢
    have hlt := (Array.getElem?_eq_some_iff.1 hK).1
    refine wp_ret (post_mark hK (results_none rfl _ _ _) ⟨⟨_, rfl⟩, .inr ⟨k, hk, ?_⟩⟩)
    exact hJx _ _ _ hj (by omega) ((Only.refl _ W').putObj _ (.inl ⟨by omega, by omega⟩) _)
  case hbody =>
    rintro k hk A ⟨hj, h1, h2, h3, h4⟩ hz hrec
    simp only [World.size_alloc] at hz hrec ⊢
    refine wpIn_any (n := 9) ?_
    gi_wp2
    refine ⟨KeptWin.refl _ _ _, fun Wb hb hbz hrb => ?_⟩
    clear hrec
    have k1 := hb.blk h1 (by omega)
    have k2 := hb.blk h2 (by omega)
    have k3 := hb.blk h3 (by omega)
    have k4 := hb.blk h4 (by omega)
    have hjb : J k Wb := hJ k A Wb hj (by omega) (hb.mono (fun i _ h => ⟨by omega, by omega⟩))
    have c1' := blk_cell k1
    have c2' := blk_cell k2
    have hk6 : 6 * k < zs.length := by unfold chunkN at hk; omega
    obtain rfl := ha.resolve_left (by omega)
    have hby := ((HT.out k Wb (by omega) hjb).2.2).six k hk6
    have hrd := fun (w2 : World) (h : Bytes w2 (some ⟨b, off + 6 * k, none⟩) (six zs k)) => read_calls (some ⟨b, off + 6 * k, none⟩) (min 6 (zs.length - 6 * k)) (six zs k) w2 (by rw [six_length]; omega) h
    rw [six_length] at hrd
    have hv : chunkV b off zs.length k = .slice (some ⟨b, off + 6 * k, none⟩) (min 6 (zs.length - 6 * k)) (min 6 (zs.length - 6 * k)) := rfl
    have HRD := Lib.hid hrd; clear hrd
    have HBY := Lib.hid hby; clear hby
    have HJ := Lib.hid hJ
    have HJB := Lib.hid hjb
    clear hj hjb ha
    have hmix : Try.prog.follows .mixedOrders = true := by kernel_rfl
    rw [hv]
    refine wpIn_any (n := 9) ?_
    gi_wp2
    gi_region_with_o (first
      | (refine ⟨trivial, ?_⟩; gi_at_call 42; refine (callsIn_round (HRD.out _ (HBY.out.grew (by exact (Only.refl _ _).drew)))).mono ?_
         rintro e w1 ⟨rfl, hg⟩
         have hg' := Only.trans (Only.drew (Only.refl _ Wb)) hg
         have d1 := blk_cell (hg'.blk k1 (fun x => x))
         have d2 := blk_cell (hg'.blk k2 (fun x => x))
         have hsz1 := hg'.size
         have hj1 := HJ.out k Wb w1 HJB.out (by omega) (hg'.mono (fun _ _ x => x.elim))
         have HJ1 := Lib.hid hj1
         have hR := HY.out k hk w1 hj1 (by omega)
         have HG := Lib.hid hg'
         clear hj1 hg hg')
      | (refine ⟨trivial, ?_⟩; gi_at_call 10; refine (callsIn_round hR).mono ?_
         rintro e W2 ⟨bv, rfl, hkw, hA, hB⟩
         have HB2 := Lib.hid (And.intro hkw (And.intro hA hB))
         clear hkw hA hB))
    all_goals
      obtain ⟨hkw, hA, hB⟩ := HB2.out
      have hz2 := hkw.size
      have hgg := HG.out
      have m1 := (hkw.block _ (by omega) (by omega)).trans (hgg.blk k1 (fun x => x))
      have m2 := (hkw.block _ (by omega) (by omega)).trans (hgg.blk k2 (fun x => x))
      have m3 := (hkw.block _ (by omega) (by omega)).trans (hgg.blk k3 (fun x => x))
      have m4 := (hkw.block _ (by omega) (by omega)).trans (hgg.blk k4 (fun x => x))
      have hkk : KeptWin (W.heap.size + 1 + 1 + 1 + 1) (2 + 0) Wb W2 := (KeptWin.of_only hgg (by omega) (fun _ _ _ x => x)).trans (hkw.mono (by omega) (by omega))
      have HKK := Lib.hid hkk
      have HA := Lib.hid hA
      have HB := Lib.hid hB
      have M := Lib.hid (And.intro m1 (And.intro m2 (And.intro m3 m4)))
      have n2 := blk_cell m2
      have n2f := blk_free m2
      clear hkk hA hB hgg m1 m2 m3 m4 hkw HB2 hR c1' c2' k1 k2 k3 k4 d1 d2 HRD
      cases bv
      · have HX := Lib.hid (HB.out rfl)
        clear HA HB
        gi_wp2
        exact ⟨HKK.out, rfl, HX.out⟩
      · have HX := Lib.hid (HA.out rfl)
        clear HA HB
        gi_wp2
        refine ⟨HKK.out.trans (KeptWin.of_only (Only.setCell (S := fun j => j = W.heap.size + 1) (Only.refl _ _) _ (.inl rfl) _) (by omega) (fun j h1 h2 h => by omega)), ?_, ?_, ?_, ?_, ?_⟩
        · exact HJ.out _ W2 _ HX.out (by omega) (Only.setCell (Only.refl _ _) _ (.inl ⟨by simp, by simp⟩) _)
        · exact set_other M.out.1 (by omega) _
        · exact set_same M.out.2.1 _
        · exact set_other M.out.2.2.1 (by omega) _
        · exact set_other M.out.2.2.2 (by omega) _

/-- what stands while ScriptReads' closure is told entries: only its two boxes have turned -/
structure RdJ (Wc : World) (co cn : Nat) (k : Nat) (W' : World) : Prop where
  only : Only (fun j => j = co ∨ j = cn) Wc W'
  ok : W'.heap[co]? = some (.cells #[.bool true] 4 (0, 0))
  n : W'.heap[cn]? = some (.cells #[.int .i64 k] 3 (0, 0))
theorem RdJ.stands {Wc : World} {co cn : Nat} (h1 : co < Wc.heap.size) (h2 : cn < Wc.heap.size) : Stands Wc.heap.size 6 (RdJ Wc co cn) := by
  intro k A B h hle ho
  exact ⟨h.only.trans' ho (fun k hk hw => by have := hw.1; omega), ho.blk h.ok (fun hw => by have := hw.1; omega), ho.blk h.n (fun hw => by have := hw.1; omega)⟩

set_option maxRecDepth 100000 in
set_option maxHeartbeats 4000000 in
theorem reads1_calls (Wc : World) (co cn cw cm : Nat) (hne' : co ≠ cn) (hco : co < Wc.heap.size) (hcn : cn < Wc.heap.size) (hcw : cw < Wc.heap.size ∧ cw ≠ co ∧ cw ≠ cn) (hcm : cm < Wc.heap.size ∧ cm ≠ co ∧ cm ≠ cn) (gw cap N : Nat) (most : Nat)
    (hw : Wc.heap[cw]? = some (.cells #[.slice (some ⟨gw, 0, none⟩) N cap] 26 (0, 0))) (hm : Wc.heap[cm]? = some (.cells #[.int .u8 most] 5 (0, 0))) (hm9 : most ≤ 255)
    (l : List Ent) (hl : l.length = N) (hN : N ≤ 1000000) (hgw : gw < Wc.heap.size ∧ gw ≠ co ∧ gw ≠ cn) (hrow : ∀ j, j < N * 6 → Wc.cell? ⟨gw, j, none⟩ = (cellsOf l)[j]?)
    (k : Nat) (hk : k < N) (hkm : k ≤ most) (W1 : World) (hJ : RdJ Wc co cn k W1) :
    Calls Try.prog 10 #[.int .i64 k, (l.getD k Ent.zero).val, .pointer (some ⟨co, 0, none⟩), .pointer (some ⟨cn, 0, none⟩), .pointer (some ⟨cw, 0, none⟩), .pointer (some ⟨cm, 0, none⟩)] W1 fun e W' =>
      ∃ bv : Bool, e = .returned (.bool bv) ∧ Only (fun j => j = co ∨ j = cn) W1 W' ∧ RdJ Wc co cn (k + 1) W' ∧ bv = decide (k + 1 ≤ most) := by
  obtain ⟨p0, p1, p2, p3, p4, p5⟩ := ent_cells hrow hl k hk
  generalize l.getD k Ent.zero = e at *
  obtain ⟨e1, e2, e3, e4, e5, e6⟩ := e
  have hcl := fun (b o : Nat) (hb : b < Wc.heap.size) (h1 : b ≠ co) (h2 : b ≠ cn) => hJ.only.cell (p := ⟨b, o, none⟩) hb (fun h => h.elim h1 h2)
  rw [← hcl gw _ hgw.1 hgw.2.1 hgw.2.2] at p0 p1 p2 p3 p4 p5
  have b1 := blk_cell hJ.ok 0
  have b2 := blk_cell hJ.n 0
  have b1f := blk_free hJ.ok 0
  have b2f := blk_free hJ.n 0
  have b3 := (hcl cw 0 hcw.1 hcw.2.1 hcw.2.2).trans (blk_cell hw 0)
  have b4 := (hcl cm 0 hcm.1 hcm.2.1 hcm.2.2).trans (blk_cell hm 0)
  simp only [List.getElem?_toArray, List.getElem?_cons_zero] at b1 b2 b3 b4
  have HJ := Lib.hid hJ
  have hsz := hJ.only.size
  clear hrow hcl hw hm hl hJ
  have d1 : decide ((k : Int) < (N : Int)) = true := by simpa using hk
  have d1n : decide (k < N) = true := by simpa using hk
  have d2 : decide ((k : Int) ≤ (most : Int)) = true := by simpa using hkm
  have d2n : decide (k ≤ most) = true := by simpa using hkm
  have hlt1 : gw < W1.heap.size + 1 := by omega
  have hw0 : IntKind.i64.wrap ((N : Int) - 1) = (N : Int) - 1 := IntWalk.i64_in _ (by omega)
  have hmin : ¬ ((N : Int) - 1 < (k : Int)) := by omega
  simp only [Ent.val]
  go_enter Try.func10, Try.ntmps10
  go_wp2
  obtain ⟨Wa, hWa⟩ : ∃ Wa, Wa = W1.alloc (.cells #[.int .i64 e1, .int .i64 e2, .int .i64 e3, .int .u64 e4, .int .u64 e5, .int .u64 e6] 34) := ⟨_, rfl⟩
  rw [← hWa]
  have hga : Grew W1 Wa := by rw [hWa]; exact (Only.refl _ W1).alloc _
  have c7 : Wa.heap[W1.heap.size]? = some (.cells #[.int .i64 e1, .int .i64 e2, .int .i64 e3, .int .u64 e4, .int .u64 e5, .int .u64 e6] 34 (0, 0)) := by rw [hWa]; exact alloc_new _ rfl
  have hza : Wa.heap.size = W1.heap.size + 1 := by rw [hWa]; simp
  obtain ⟨ι, W, hW0, hend, hin⟩ : ∃ (ι : Type) (W : ι → World), (∃ i, World.drew Wa = W i) ∧ (∀ i, Grew Wa (W i)) ∧ (∀ w', Grew Wa w' → ∃ i, w' = W i) := ⟨{w' // Grew Wa w'}, Subtype.val, ⟨⟨_, (Only.refl _ _).drew⟩, rfl⟩, fun i => i.2, fun w' h => ⟨⟨w', h⟩, rfl⟩⟩
  have hne : Nonempty ι := hW0.elim fun i _ => ⟨i⟩
  have hf := fun i => (Only.trans hga (hend i)).facts
  have u1 : ∀ i, (W i).cell? ⟨co, 0, none⟩ = some (.bool true) := fun i => ((hf i).1 co 0 (by omega)).trans b1
  have u2 : ∀ i, (W i).cell? ⟨cn, 0, none⟩ = some (.int .i64 k) := fun i => ((hf i).1 cn 0 (by omega)).trans b2
  have u3 : ∀ i, (W i).cell? ⟨cw, 0, none⟩ = some (.slice (some ⟨gw, 0, none⟩) N cap) := fun i => ((hf i).1 cw 0 (by omega)).trans b3
  have u4 : ∀ i, (W i).cell? ⟨cm, 0, none⟩ = some (.int .u8 most) := fun i => ((hf i).1 cm 0 (by omega)).trans b4
  have v0 : ∀ i, (W i).cell? ⟨gw, k * 6, none⟩ = some (.int .i64 e1) := fun i => ((hf i).1 gw _ (by omega)).trans p0
  have v1 : ∀ i, (W i).cell? ⟨gw, k * 6 + 1, none⟩ = some (.int .i64 e2) := fun i => ((hf i).1 gw _ (by omega)).trans p1
  have v2 : ∀ i, (W i).cell? ⟨gw, k * 6 + 2, none⟩ = some (.int .i64 e3) := fun i => ((hf i).1 gw _ (by omega)).trans p2
  have v3 : ∀ i, (W i).cell? ⟨gw, k * 6 + 3, none⟩ = some (.int .u64 e4) := fun i => ((hf i).1 gw _ (by omega)).trans p3
  have v4 : ∀ i, (W i).cell? ⟨gw, k * 6 + 4, none⟩ = some (.int .u64 e5) := fun i => ((hf i).1 gw _ (by omega)).trans p4
  have v5 : ∀ i, (W i).cell? ⟨gw, k * 6 + 5, none⟩ = some (.int .u64 e6) := fun i => ((hf i).1 gw _ (by omega)).trans p5
  have z0 : ∀ i, (W i).cell? ⟨W1.heap.size, 0, none⟩ = some (.int .i64 e1) := fun i => blk_cell ((hend i).blk c7 (fun x => x)) 0
  have z1 : ∀ i, (W i).cell? ⟨W1.heap.size, 1, none⟩ = some (.int .i64 e2) := fun i => blk_cell ((hend i).blk c7 (fun x => x)) 1
  have z2 : ∀ i, (W i).cell? ⟨W1.heap.size, 2, none⟩ = some (.int .i64 e3) := fun i => blk_cell ((hend i).blk c7 (fun x => x)) 2
  have z3 : ∀ i, (W i).cell? ⟨W1.heap.size, 3, none⟩ = some (.int .u64 e4) := fun i => blk_cell ((hend i).blk c7 (fun x => x)) 3
  have z4 : ∀ i, (W i).cell? ⟨W1.heap.size, 4, none⟩ = some (.int .u64 e5) := fun i => blk_cell ((hend i).blk c7 (fun x => x)) 4
  have z5 : ∀ i, (W i).cell? ⟨W1.heap.size, 5, none⟩ = some (.int .u64 e6) := fun i => blk_cell ((hend i).blk c7 (fun x => x)) 5
  have pl : ∀ i, Calls Try.prog 8 #[.agg #[.int .i64 e1, .int .i64 e2, .int .i64 e3, .int .u64 e4, .int .u64 e5, .int .u64 e6]] (W i) fun e w2 => e = .returned (.agg #[.int .i64 e1, .int .i64 e2, .int .i64 e3, .int .u64 e4, .int .u64 e5, .int .u64 e6]) ∧ ∃ j, w2 = W j :=
    fun i => (plain_calls _ _ _ _ _ _ _).mono (by rintro e w2 ⟨rfl, hg⟩; exact ⟨rfl, hin _ (Only.trans (hend i) hg)⟩)
  clear b1 b2 b3 b4 p0 p1 p2 p3 p4 p5 c7 b1f b2f
  have HF := Lib.hid hf
  have HEN := Lib.hid hend
  have HGA := Lib.hid hga
  clear hf hend hga hWa
  refine wp_region_mix (fun w' => ∃ i, w' = W i) 31 (by kernel_rfl) (by kernel_rfl) hW0 ?_
  simp only [List.take_succ_cons, List.take_zero, List.drop_succ_cons, List.drop_zero]
  repeat (go_big_quiet_step ((first | (go_at_call 8; with_reducible exact pl _))))
  refine wpQuiet_nil ?_
  intro _ hw'
  obtain ⟨iq, hw''⟩ := hw'
  subst hw''
  have hg := Only.trans HGA.out (HEN.out iq)
  have o1 := hg.blk HJ.out.ok (fun x => x)
  have o2 := hg.blk HJ.out.n (fun x => x)
  have x1 := blk_free o1 0
  have x1c := u1 iq
  have x2 := u2 iq
  have x2f := blk_free o2 0
  have x4 := u4 iq
  have hs := hg.size
  have HG := Lib.hid hg
  have HO := Lib.hid (And.intro o1 o2)
  generalize W iq = w1 at *
  clear hin hW0 hne pl u1 u2 u3 u4 v0 v1 v2 v3 v4 v5 z0 z1 z2 z3 z4 z5 o1 o2 hg HF HEN
  go_wp2_with fail
  refine ⟨rfl, ?_⟩
  have hE2 : decide ((k : Int) + 1 ≤ (most : Int)) = decide (k + 1 ≤ most) := by rw [decide_eq_decide]; omega
  have hw1 : IntKind.i64.wrap ((k : Int) + 1) = (k : Int) + 1 := IntWalk.i64_in _ (by omega)
  have FIN : ∀ W', W' = (w1.setCell ⟨co, 0, none⟩ (.bool true)).setCell ⟨cn, 0, none⟩ (.int .i64 ((k : Int) + 1)) → Only (fun j => j = co ∨ j = cn) W1 W' ∧ RdJ Wc co cn (k + 1) W' := by
    rintro W' rfl
    have ho : Only (fun j => j = co ∨ j = cn) W1 ((w1.setCell ⟨co, 0, none⟩ (.bool true)).setCell ⟨cn, 0, none⟩ (.int .i64 ((k : Int) + 1))) :=
      ((HG.out.mono (S' := fun j => j = co ∨ j = cn) (fun _ _ x => x.elim)).setCell _ (.inl (.inl rfl)) _).setCell _ (.inl (.inr rfl)) _
    exact ⟨ho, HJ.out.only.trans ho, set_other (set_same HO.out.1 _) hne' _, by rw [Int.natCast_add]; exact set_same (set_other HO.out.2 (Ne.symm hne') _) _⟩
  have HFIN := Lib.hid FIN
  clear FIN
  go_wp2
  go_ret
  exact ⟨_, rfl, (HFIN.out _ rfl).1, (HFIN.out _ rfl).2, rfl⟩
end Go.Proofs.Ytnemggminanbbaa
