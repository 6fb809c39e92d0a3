import Derived.Test.YtnemggminanbbaaCtorB
namespace Go.Proofs.Ytnemggminanbbaa
set_option linter.unusedVariables false
set_option linter.unusedSimpArgs false
open Go.RowKit Go.Shelf

/-! ### A shard (of its wheel nothing is said) -/
structure ShardS where
  ring : RingS
  who : Int
  turns : Int
def newShard (n : Nat) : ShardS := ⟨newRing n, 0, 0⟩
def isShard (b : Nat) (s : ShardS) (g : List Blk) : Prop := ∃ rb lb wb gr gl, isRing rb s.ring gr ∧ isLock lb s.who s.turns gl ∧ g = [cl b 154 #[ptr' rb, ptr' lb, ptr' wb]] ++ gr ++ gl
set_option maxRecDepth 100000 in
set_option maxHeartbeats 4000000 in
theorem shardNew_g (n : Nat) (h1 : 1 ≤ n) (h2 : n ≤ 64) : DoesG Try.prog 48 #[.int .i64 n] [] fun e gs => ∃ b g, e = .returned (.tuple #[ptr' b, .int .i64 0]) ∧ isShard b (newShard n) g ∧ gs = [g] := by
  intro w hw
  have T0 := TG.refl hw
  have HT := Lib.hid T0
  clear hw T0
  go_enter Try.func48, Try.ntmps48
  go_wp2_with fail
  refine (DoesG.use (ringNew_g n h1 h2) (HT.out) [] rfl rfl).mono ?_
  rintro e w1 ⟨gs, ⟨rb, gr, rfl, hgr, rfl⟩, Ta⟩
  simp only [PU] at Ta
  have HT := Lib.hid Ta
  clear Ta
  go_wp2_with fail
  refine (DoesG.use (lockNew_g) (HT.out) [] rfl rfl).mono ?_
  rintro e w1 ⟨gs, ⟨lb, gl, rfl, hgl, rfl⟩, Ta⟩
  simp only [PU] at Ta
  have HT := Lib.hid Ta
  clear Ta
  go_wp2_with fail
  refine (DoesG.use (wheelNew0_g 0) (HT.out) [] rfl rfl).mono ?_
  rintro e w1 ⟨gs, ⟨wb, rfl, rfl⟩, Ta⟩
  simp only [PU] at Ta
  have HT := Lib.hid Ta
  clear Ta
  go_wp2
  go_ret2
  refine ⟨_, ⟨_, _, rfl, ⟨rb, lb, wb, gr, gl, hgr, hgl, rfl⟩, rfl⟩, (HT.out.alloc (k := w1.heap.size) rfl 154 #[ptr' rb, ptr' lb, ptr' wb]).re ?_⟩
  simp only [List.append_nil, List.cons_append, List.nil_append, List.flatten_cons, List.flatten_nil]
  rw [← List.append_assoc]
  exact List.perm_append_comm

/-! ### A floor -/
structure FPtr where
  sb : Nat
  pb : Nat
  lb : Nat
  sh : Value
structure FloorS where
  cfg : Cfg
  closed : Bool
  inside : Int
  busy : Int
  now : Int
structure floorC (p : FPtr) (f : FloorS) (tr : Value) (C : Array Value) : Prop where
  size : C.size = 27
  cfg : ∀ i, i < 6 → C[i]? = f.cfg.cells[i]?
  slab : C[6]? = some (ptr' p.sb)
  sh : C[7]? = some p.sh
  pipe : C[8]? = some (ptr' p.pb)
  log : C[9]? = some (ptr' p.lb)
  closed : cellAt C 10 (.bool f.closed)
  inside : cellAt C 14 (.int .i64 f.inside)
  busy : cellAt C 18 (.int .i64 f.busy)
  now : cellAt C 22 (.int .u64 f.now)
  tr : C[26]? = some tr
def isFloor (fb : Nat) (p : FPtr) (f : FloorS) (tr : Value) (g : List Blk) : Prop := ∃ C, g = [cl fb 98 C] ∧ floorC p f tr C
theorem floorNew_no (c : Cfg) (hk : c.ok = false) : DoesG Try.prog 12 #[.agg c.cells] [] fun e gs => e = .returned (.tuple #[.pointer none, .int .i64 8]) ∧ gs = [] := by
  intro w hw
  have T0 := TG.refl hw
  have HT := Lib.hid T0
  clear hw T0
  have HB := Lib.hid (check_g c)
  obtain ⟨C, hC⟩ : ∃ C, C = c.cells := ⟨_, rfl⟩
  have hC' := hC
  simp only [Cfg.cells] at hC'
  rw [← hC, hk] at HB
  simp only [Cfg.cells]
  go_enter Try.func12, Try.ntmps12
  go_wp2_with fail
  rw [← hC']
  clear hC hC'
  refine (DoesG.use HB.out (HT.out.alloc0 _) [] rfl rfl).mono ?_
  rintro e w1 ⟨gs, ⟨rfl, rfl⟩, Ta⟩
  have HT := Lib.hid Ta
  clear Ta
  go_wp2
  go_ret2
  exact ⟨_, ⟨rfl, rfl⟩, HT.out⟩
/-- all of a floor; SH: what is said of a shard -/
structure FloorAllP (SH : Nat → ShardS → List Blk → Prop) (fb : Nat) (p : FPtr) (f : FloorS) (tr : Value) (s : SlabS) (shs : List (Nat × ShardS)) (gF gS gR gH gP gL : List Blk) : Prop where
  floor : isFloor fb p f tr gF
  slab : isSlab p.sb s gS
  row : rowG 73 1 p.sh shs.length (shs.map fun x => ptr' x.1) gR
  shards : FamP (fun x => SH x.1 x.2) shs gH
  pipeN : emptyPipeN f.cfg.room.toNat p.pb gP
  log : gL = [cl p.lb 123 #[.slice none 0 0]]
abbrev FloorAll (fb : Nat) (p : FPtr) (f : FloorS) (tr : Value) (s : SlabS) (shs : List (Nat × ShardS)) (gF gS gR gH gP gL : List Blk) : Prop := FloorAllP isShard fb p f tr s shs gF gS gR gH gP gL
theorem FloorAll.pipe {fb : Nat} {p : FPtr} {f : FloorS} {tr : Value} {s : SlabS} {shs : List (Nat × ShardS)} {gF gS gR gH gP gL : List Blk} (a : FloorAll fb p f tr s shs gF gS gR gH gP gL) : emptyPipe p.pb gP := a.pipeN.is
def MakesShard (SH : Nat → ShardS → List Blk → Prop) : Prop := ∀ (n : Nat), 1 ≤ n → n ≤ 64 → DoesG Try.prog 48 #[.int .i64 n] [] fun e gs => ∃ b g, e = .returned (.tuple #[ptr' b, .int .i64 0]) ∧ SH b (newShard n) g ∧ gs = [g]
def floorLit (nsh ncap nring nroom wk cli : Int) (sb pb lb : Nat) (v : Value) : Array Value := #[.int .i64 nsh, .int .i64 ncap, .int .i64 nring, .int .i64 nroom, .int .i64 wk, .int .i64 cli, ptr' sb, v, ptr' pb, ptr' lb, .bool false, .int .i64 0, .int .i64 0, .int .i64 0, .int .i64 0, .int .i64 0, .int .i64 0, .int .i64 0, .int .i64 0, .int .i64 0, .int .i64 0, .int .i64 0, .int .u64 0, .int .i64 0, .int .i64 0, .int .i64 0, .slice none 0 0]
theorem floorLit_C (c : Cfg) (sb pb lb : Nat) (v : Value) : floorC ⟨sb, pb, lb, v⟩ ⟨c, false, 0, 0, 0⟩ (.slice none 0 0) (floorLit c.sh c.cap c.ring c.room c.wk c.cli sb pb lb v) := by
  refine ⟨rfl, fun i hi => ?_, rfl, rfl, rfl, rfl, ⟨rfl, 0, 0, 0, rfl, rfl, rfl⟩, ⟨rfl, 0, 0, 0, rfl, rfl, rfl⟩, ⟨rfl, 0, 0, 0, rfl, rfl, rfl⟩, ⟨rfl, 0, 0, 0, rfl, rfl, rfl⟩, rfl⟩
  have : i = 0 ∨ i = 1 ∨ i = 2 ∨ i = 3 ∨ i = 4 ∨ i = 5 := by omega
  rcases this with rfl | rfl | rfl | rfl | rfl | rfl <;> rfl
theorem Try.infoShard : (Try.prog.info? 73).map (fun i => (i.zero, i.size, i.bytes)) = some (some (.pointer none), 1, 8) := by kernel_rfl
theorem Cfg.bd {c : Cfg} (hk : c.ok = true) : (1 ≤ c.sh ∧ c.sh ≤ 4) ∧ (1 ≤ c.cap ∧ c.cap ≤ 64) ∧ (1 ≤ c.ring ∧ c.ring ≤ 64) ∧ (1 ≤ c.room ∧ c.room ≤ 16) ∧ (1 ≤ c.wk ∧ c.wk ≤ 4) ∧ (1 ≤ c.cli ∧ c.cli ≤ 8) := by
  simpa [Cfg.ok, Cfg.fine, Cfg.pair, and_assoc] using hk
set_option maxRecDepth 100000 in
set_option maxHeartbeats 4000000 in
theorem floorNew_gP {SH : Nat → ShardS → List Blk → Prop} (hSH : MakesShard SH) (c : Cfg) (hk : c.ok = true) : DoesG Try.prog 12 #[.agg c.cells] [] fun e gs =>
    ∃ fb p shs gF gS gR gH gP gL, e = .returned (.tuple #[ptr' fb, .int .i64 0]) ∧ FloorAllP SH fb p ⟨c, false, 0, 0, 0⟩ (.slice none 0 0) (newSlab c.cap.toNat) shs gF gS gR gH gP gL ∧ (shs.length : Int) = c.sh ∧ (∀ x ∈ shs, x.2 = newShard c.ring.toNat) ∧ gs = [gF, gS, gR, gH, gP, gL] := by
  intro w hw
  have T0 := TG.refl hw
  have HT := Lib.hid T0
  clear hw T0
  have HNEW := Lib.hid hSH
  clear hSH
  obtain ⟨hk1, hk2, hk3, hk4, hk5, hk6⟩ := Cfg.bd hk
  obtain ⟨csh, ccap, cring, croom, cwk, ccli⟩ := c
  simp only [] at hk1 hk2 hk3 hk4 hk5 hk6
  obtain ⟨nsh, rfl⟩ := Int.eq_ofNat_of_zero_le (show 0 ≤ csh by omega)
  obtain ⟨ncap, rfl⟩ := Int.eq_ofNat_of_zero_le (show 0 ≤ ccap by omega)
  obtain ⟨nring, rfl⟩ := Int.eq_ofNat_of_zero_le (show 0 ≤ cring by omega)
  obtain ⟨nroom, rfl⟩ := Int.eq_ofNat_of_zero_le (show 0 ≤ croom by omega)
  have HCAP := Lib.hid (show 1 ≤ ncap ∧ ncap ≤ 64 by omega)
  have HRING := Lib.hid (show 1 ≤ nring ∧ nring ≤ 64 by omega)
  have HROOM := Lib.hid (show 1 ≤ nroom ∧ nroom ≤ 16 by omega)
  have HSH := Lib.hid (show 1 ≤ nsh ∧ nsh ≤ 4 by omega)
  clear hk1 hk2 hk3 hk4 hk5 hk6
  obtain ⟨c, hcd⟩ : ∃ c : Cfg, c = ⟨nsh, ncap, nring, nroom, cwk, ccli⟩ := ⟨_, rfl⟩
  rw [← hcd] at hk ⊢
  have HB := Lib.hid (check_g c)
  obtain ⟨C, hC⟩ : ∃ C, C = c.cells := ⟨_, rfl⟩
  have hC' := hC
  simp only [Cfg.cells] at hC'
  rw [← hC, hk] at HB
  rw [hcd] at hC'
  simp only [] at hC'
  have HCC := Lib.hid hC'
  have HCD := Lib.hid hcd
  simp only [Cfg.cells, hcd]
  go_enter Try.func12, Try.ntmps12
  go_wp2_with fail
  rw [← hC']
  clear hC hC' hk hcd
  refine (DoesG.use HB.out (HT.out.alloc (k := w.heap.size) rfl 46 C) [] rfl rfl).mono ?_
  rintro e w1 ⟨gs, ⟨rfl, rfl⟩, Ta⟩
  simp only [putG, List.nil_append, List.append_nil, if_true] at Ta
  have hc0 := Ta.cell 0 0 rfl
  simp only [HCC.out] at hc0
  have HT := Lib.hid Ta
  clear Ta
  obtain ⟨b0, hb0⟩ : ∃ b0, b0 = w.heap.size := ⟨_, rfl⟩
  rw [← hb0] at HT hc0 ⊢
  clear hb0
  go_wp2
  go_region_with (
    go_at_call 45
    refine (DoesG.use logNew_g HT.out.drew [] rfl rfl).mono ?_
    rintro e w2 ⟨gs, ⟨lb, rfl, rfl⟩, Ta⟩
    simp only [putG, List.nil_append, List.append_nil, List.cons_append] at Ta
    have hc1 := Ta.cell 0 0 rfl
    simp only [HCC.out] at hc1
    have hlt1 := Ta.lt 0 0 rfl
    simp only [] at hlt1
    have HT1 := Lib.hid Ta
    clear Ta hc0)
  all_goals
    go_wp2_with fail
    have HT2 := Lib.hid (HT1.out.alloc (k := w2.heap.size) rfl 98 #[.int .i64 nsh, .int .i64 ncap, .int .i64 nring, .int .i64 nroom, .int .i64 cwk, .int .i64 ccli, .pointer none, .slice none 0 0, .pointer none, ptr' lb, .bool false, .int .i64 0, .int .i64 0, .int .i64 0, .int .i64 0, .int .i64 0, .int .i64 0, .int .i64 0, .int .i64 0, .int .i64 0, .int .i64 0, .int .i64 0, .int .u64 0, .int .i64 0, .int .i64 0, .int .i64 0, .slice none 0 0])
    simp only [List.cons_append, List.nil_append] at HT2
    obtain ⟨fb, hfb⟩ : ∃ fb, fb = w2.heap.size := ⟨_, rfl⟩
    rw [← hfb] at HT2 ⊢
    refine (DoesG.use (slabNew_at ncap HCAP.out.1 HCAP.out.2) HT2.out [] rfl rfl).mono ?_
    rintro e w3 ⟨gs, ⟨sb, gS, rfl, hgS, rfl⟩, Ta⟩
    simp only [putG, List.nil_append, List.append_nil, List.cons_append] at Ta
    have hc2 := Ta.cell 0 0 rfl
    simp only [HCC.out] at hc2
    have fF := Ta.free 2 0 rfl
    have hF := Ta.cell 2 0 rfl
    have HT3 := Lib.hid Ta
    clear Ta hc1 hfb hlt1
    go_wp2_with fail
    refine (DoesG.use (pipeNew_g nroom HROOM.out.1 HROOM.out.2) (HT3.out.set 2 0 rfl 6 (ptr' sb)) [] rfl rfl).mono ?_
    rintro e w4 ⟨gs, ⟨pb, gP, rfl, hgP, rfl⟩, Ta⟩
    simp only [putG, List.nil_append, List.append_nil, List.cons_append, List.set_cons_zero, List.set_cons_succ, List.getD_cons_succ, List.getD_cons_zero] at Ta
    have hc3 := Ta.cell 0 0 rfl
    simp only [HCC.out] at hc3
    have fF4 := Ta.free 2 0 rfl
    have hF4 := Ta.cell 2 0 rfl
    have hne := Ta.ne 0 0 2 0 (by decide) rfl rfl
    simp only [] at hne
    have HT4 := Lib.hid (Ta.set 2 0 rfl 8 (ptr' pb))
    simp only [List.set_cons_zero, List.set_cons_succ, List.getD_cons_succ, List.getD_cons_zero] at HT4
    clear Ta hc2 fF hF
    go_wp2
    have T5 : TG [] w [[cl b0 46 C], [cl lb 123 #[.slice none 0 0]], [cl fb 98 (floorLit nsh ncap nring nroom cwk ccli sb pb lb (.slice none 0 0))], gS, gP] (w4.setCell ⟨fb, 8, none⟩ (ptr' pb)) := HT4.out
    go_loopw [6, 7, 37] (fun _ _ i wr => ∃ (k : Nat) (shs : List (Nat × ShardS)) (v : Value) (gR gH : List Blk), k ≤ nsh ∧ shs.length = k ∧ i = .int .i64 k ∧ (∀ x ∈ shs, x.2 = newShard nring) ∧ rowG 73 1 v k (shs.map fun x => ptr' x.1) gR ∧ FamP (fun (x : Nat × ShardS) => SH x.1 x.2) shs gH ∧
        TG [] w [[cl b0 46 C], [cl lb 123 #[.slice none 0 0]], [cl fb 98 (floorLit nsh ncap nring nroom cwk ccli sb pb lb v)], gS, gP, gR, gH] wr) (fun _ _ i _ => nsh + 1 - (intOf i).toNat)
    case atStart => exact ⟨0, [], .slice none 0 0, [], [], by omega, rfl, rfl, fun x hx => by (cases hx), rowG_nil _ _, rfl, T5.eq (by simp)⟩
    case round =>
      clear T5 HT4 hc3 fF4 hF4
      obtain ⟨k, shs, v, gR, gH, hk, hl, rfl, hnew, hr, hfam, T⟩ := hrel
      have HT := Lib.hid T
      have HR := Lib.hid hr
      have HF := Lib.hid hfam
      have HN := Lib.hid hnew
      have HL := Lib.hid hl
      have hc4 := T.cell 0 0 rfl
      simp only [HCC.out] at hc4
      clear T hr hfam hnew hl
      have hk4 := HSH.out.2
      by_cases hlt : k < nsh
      · go_wp2_with fail
        refine (DoesG.use (HNEW.out nring HRING.out.1 HRING.out.2) (HT.out) [] rfl rfl).mono ?_
        rintro e w1 ⟨gs, ⟨shb, gsh, rfl, hgsh, rfl⟩, Ta⟩
        simp only [PU] at Ta
        have hF := Ta.cell 2 0 rfl
        simp only [floorLit] at hF
        have fhF := Ta.free 2 0 rfl
        have HT := Lib.hid Ta
        clear Ta
        go_wp2_with (
          at_builtin
          (with_reducible refine wpList_append_G rfl (.tmp 49) (.tmp 51) 90 rfl 73 1 8 _ Try.underlying90 Try.infoShard rfl (by decide) ((HT.out).alloc0 _) 5 rfl rfl HR.out rfl ⟨w1.heap.size, 0, none⟩ 1 1 [ptr' shb] rfl rfl (news_alloc _ _ _) (by simp [Value.oneCell']) (by unfold maxLen; omega) (by omega) ?_)
          intro v1 w2 gR1 r1 T1
          obtain ⟨a1, c1, rfl⟩ := r1.val
          simp only [List.set_cons_zero, List.set_cons_succ] at T1
          have hF1 := T1.cell 2 0 rfl
          have fF1 := T1.free 2 0 rfl
          simp only [floorLit] at hF1
          have HT1 := Lib.hid T1
          have HR1 := Lib.hid r1
          clear T1 r1)
        have HT2 := Lib.hid (HT1.out.set 2 0 rfl 7 (.slice a1 (k + 1) c1))
        simp only [List.set_cons_zero, List.set_cons_succ, List.getD_cons_succ, List.getD_cons_zero] at HT2
        have HT3 := Lib.hid (HT2.out.merge 6 7 (by decide) rfl rfl)
        simp only [List.set_cons_zero, List.set_cons_succ, List.getD_cons_succ, List.getD_cons_zero] at HT3
        have HT3 := Lib.hid (HT3.out.pick [0, 1, 2, 3, 4, 5, 6] rfl)
        first
        | (go_roundw
           case rel => exact ⟨k + 1, shs ++ [(shb, newShard nring)], .slice a1 (k + 1) c1, gR1, gH ++ gsh, by omega, by rw [List.length_append, HL.out]; rfl, by go_num, fun x hx => by (rcases List.mem_append.1 hx with h | h; exact HN.out x h; rw [List.mem_singleton.1 h]), by simpa using HR1.out, HF.out.snoc hgsh, HT3.out⟩
           case measure => simp [intOf]; omega)
        | exact ⟨⟨k + 1, shs ++ [(shb, newShard nring)], .slice a1 (k + 1) c1, gR1, gH ++ gsh, by omega, by rw [List.length_append, HL.out]; rfl, by go_num, fun x hx => by (rcases List.mem_append.1 hx with h | h; exact HN.out x h; rw [List.mem_singleton.1 h]), by simpa using HR1.out, HF.out.snoc hgsh, HT3.out⟩, by simp [intOf]; omega⟩
        | ((repeat apply Exists.intro); exact ⟨⟨⟨k + 1, shs ++ [(shb, newShard nring)], .slice a1 (k + 1) c1, gR1, gH ++ gsh, by omega, by rw [List.length_append, HL.out]; rfl, by go_num, fun x hx => by (rcases List.mem_append.1 hx with h | h; exact HN.out x h; rw [List.mem_singleton.1 h]), by simpa using HR1.out, HF.out.snoc hgsh, HT3.out⟩, rfl⟩, by simp [intOf]; omega⟩)
      · obtain rfl : k = nsh := by omega
        have hF5 := HT.out.cell 2 0 rfl
        go_wp2
        go_ret2
        refine ⟨[[cl fb 98 (floorLit k ncap nring nroom cwk ccli sb pb lb v)], gS, gR, gH, gP, [cl lb 123 #[.slice none 0 0]]], ⟨fb, ⟨sb, pb, lb, v⟩, shs, _, gS, gR, gH, gP, _, rfl, ⟨⟨_, rfl, ?_⟩, ?_, ?_, HF.out, by simpa using hgP, rfl⟩, ?_, ?_, rfl⟩, HT.out.pick [2, 3, 5, 6, 4, 1] rfl⟩
        · exact floorLit_C ⟨k, ncap, nring, nroom, cwk, ccli⟩ sb pb lb v
        · simpa using hgS
        · rw [HL.out]; exact HR.out
        · rw [HL.out]
        · simpa using HN.out
theorem floorNew_g (c : Cfg) (hk : c.ok = true) : DoesG Try.prog 12 #[.agg c.cells] [] fun e gs =>
    ∃ fb p shs gF gS gR gH gP gL, e = .returned (.tuple #[ptr' fb, .int .i64 0]) ∧ FloorAll fb p ⟨c, false, 0, 0, 0⟩ (.slice none 0 0) (newSlab c.cap.toNat) shs gF gS gR gH gP gL ∧ (shs.length : Int) = c.sh ∧ (∀ x ∈ shs, x.2 = newShard c.ring.toNat) ∧ gs = [gF, gS, gR, gH, gP, gL] :=
  floorNew_gP (fun n h1 h2 => shardNew_g n h1 h2) c hk
end Go.Proofs.Ytnemggminanbbaa
