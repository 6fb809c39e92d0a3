import Derived.Test.YtblhfbcodbjgcaaGreatTU5
import Derived.LaidEqlPtr
import Derived.Test.YtblhfbcodbjgcaaGreatTU2
import Derived.Test.YtblhfbcodbjgcaaGreatTU1
import Derived.ProofKit
import Derived.OpenShut
import Derived.Test.YtblhfbcodbjgcaaGreatTU3
namespace Go.Proofs.YtblhfbcodbjgcaaGreat
set_option linter.unusedVariables false
set_option linter.unusedSimpArgs false
open Go.RowKit Go.Shelf
structure ShardS where
  ring : RingS
  who : Int
  turns : Int
def newShard (n : Nat) : ShardS := ⟨newRing n, 0, 0⟩
def isShard (b : Nat) (s : ShardS) (g : List Blk) : Prop := ∃ rb lb wb gr gl, isRing rb s.ring gr ∧ isLock lb s.who s.turns gl ∧ g = [cl b 220 #[ptr' rb, ptr' lb, ptr' wb]] ++ gr ++ gl
structure FPtr where
  sb : Nat
  pb : Nat
  lb : Nat
  sh : Value
structure FloorS where
  cfg : Cfg
  closed : Bool
  inside : Int
  busy : Int
  now : Int
structure floorC (p : FPtr) (f : FloorS) (tr : Value) (C : Array Value) : Prop where
  size : C.size = 27
  cfg : ∀ i, i < 6 → C[i]? = f.cfg.cells[i]?
  slab : C[6]? = some (ptr' p.sb)
  sh : C[7]? = some p.sh
  pipe : C[8]? = some (ptr' p.pb)
  log : C[9]? = some (ptr' p.lb)
  closed : cellAt C 10 (.bool f.closed)
  inside : cellAt C 14 (.int .i64 f.inside)
  busy : cellAt C 18 (.int .i64 f.busy)
  now : cellAt C 22 (.int .u64 f.now)
  tr : C[26]? = some tr
def isFloor (fb : Nat) (p : FPtr) (f : FloorS) (tr : Value) (g : List Blk) : Prop := ∃ C, g = [cl fb 133 C] ∧ floorC p f tr C
structure FloorAllP (SH : Nat → ShardS → List Blk → Prop) (fb : Nat) (p : FPtr) (f : FloorS) (tr : Value) (s : SlabS) (shs : List (Nat × ShardS)) (gF gS gR gH gP gL : List Blk) : Prop where
  floor : isFloor fb p f tr gF
  slab : isSlab p.sb s gS
  row : rowG 42 1 p.sh shs.length (shs.map fun x => ptr' x.1) gR
  shards : FamP (fun x => SH x.1 x.2) shs gH
  pipeN : emptyPipeN f.cfg.room.toNat p.pb gP
  log : gL = [cl p.lb 214 #[.slice none 0 0]]
abbrev FloorAll (fb : Nat) (p : FPtr) (f : FloorS) (tr : Value) (s : SlabS) (shs : List (Nat × ShardS)) (gF gS gR gH gP gL : List Blk) : Prop := FloorAllP isShard fb p f tr s shs gF gS gR gH gP gL
theorem FloorAll.pipe {fb : Nat} {p : FPtr} {f : FloorS} {tr : Value} {s : SlabS} {shs : List (Nat × ShardS)} {gF gS gR gH gP gL : List Blk} (a : FloorAll fb p f tr s shs gF gS gR gH gP gL) : emptyPipe p.pb gP := a.pipeN.is
def MakesShard (SH : Nat → ShardS → List Blk → Prop) : Prop := ∀ (n : Nat), 1 ≤ n → n ≤ 64 → DoesG Tryz.prog 83 #[.int .i64 n] [] fun e gs => ∃ b g, e = .returned (.tuple #[ptr' b, .int .i64 0]) ∧ SH b (newShard n) g ∧ gs = [g]
def floorLit (nsh ncap nring nroom wk cli : Int) (sb pb lb : Nat) (v : Value) : Array Value := #[.int .i64 nsh, .int .i64 ncap, .int .i64 nring, .int .i64 nroom, .int .i64 wk, .int .i64 cli, ptr' sb, v, ptr' pb, ptr' lb, .bool false, .int .i64 0, .int .i64 0, .int .i64 0, .int .i64 0, .int .i64 0, .int .i64 0, .int .i64 0, .int .i64 0, .int .i64 0, .int .i64 0, .int .i64 0, .int .u64 0, .int .i64 0, .int .i64 0, .int .i64 0, .slice none 0 0]
theorem floorLit_C (c : Cfg) (sb pb lb : Nat) (v : Value) : floorC ⟨sb, pb, lb, v⟩ ⟨c, false, 0, 0, 0⟩ (.slice none 0 0) (floorLit c.sh c.cap c.ring c.room c.wk c.cli sb pb lb v) := by
  refine ⟨rfl, fun i hi => ?_, rfl, rfl, rfl, rfl, ⟨rfl, 0, 0, 0, rfl, rfl, rfl⟩, ⟨rfl, 0, 0, 0, rfl, rfl, rfl⟩, ⟨rfl, 0, 0, 0, rfl, rfl, rfl⟩, ⟨rfl, 0, 0, 0, rfl, rfl, rfl⟩, rfl⟩
  have : i = 0 ∨ i = 1 ∨ i = 2 ∨ i = 3 ∨ i = 4 ∨ i = 5 := by omega
  rcases this with rfl | rfl | rfl | rfl | rfl | rfl <;> rfl
theorem Tryz.infoShard : (Tryz.prog.info? 42).map (fun i => (i.zero, i.size, i.bytes)) = some (some (.pointer none), 1, 8) := by kernel_rfl
theorem Cfg.bd {c : Cfg} (hk : c.ok = true) : (1 ≤ c.sh ∧ c.sh ≤ 4) ∧ (1 ≤ c.cap ∧ c.cap ≤ 64) ∧ (1 ≤ c.ring ∧ c.ring ≤ 64) ∧ (1 ≤ c.room ∧ c.room ≤ 16) ∧ (1 ≤ c.wk ∧ c.wk ≤ 4) ∧ (1 ≤ c.cli ∧ c.cli ≤ 8) := by
  simpa [Cfg.ok, Cfg.fine, Cfg.pair, and_assoc] using hk
set_option maxRecDepth 100000 in
set_option maxHeartbeats 4000000 in
theorem floorNew_gP {SH : Nat → ShardS → List Blk → Prop} (hSH : MakesShard SH) (c : Cfg) (hk : c.ok = true) : DoesG Tryz.prog 16 #[.agg c.cells] [] fun e gs =>
    ∃ fb p shs gF gS gR gH gP gL, e = .returned (.tuple #[ptr' fb, .int .i64 0]) ∧ FloorAllP SH fb p ⟨c, false, 0, 0, 0⟩ (.slice none 0 0) (newSlab c.cap.toNat) shs gF gS gR gH gP gL ∧ (shs.length : Int) = c.sh ∧ (∀ x ∈ shs, x.2 = newShard c.ring.toNat) ∧ gs = [gF, gS, gR, gH, gP, gL] := by
  intro w hw
  have T0 := TG.refl hw
  have HT := Lib.hid T0
  clear hw T0
  have HNEW := Lib.hid hSH
  clear hSH
  obtain ⟨hk1, hk2, hk3, hk4, hk5, hk6⟩ := Cfg.bd hk
  obtain ⟨csh, ccap, cring, croom, cwk, ccli⟩ := c
  simp only [] at hk1 hk2 hk3 hk4 hk5 hk6
  obtain ⟨nsh, rfl⟩ := Int.eq_ofNat_of_zero_le (show 0 ≤ csh by omega)
  obtain ⟨ncap, rfl⟩ := Int.eq_ofNat_of_zero_le (show 0 ≤ ccap by omega)
  obtain ⟨nring, rfl⟩ := Int.eq_ofNat_of_zero_le (show 0 ≤ cring by omega)
  obtain ⟨nroom, rfl⟩ := Int.eq_ofNat_of_zero_le (show 0 ≤ croom by omega)
  have HCAP := Lib.hid (show 1 ≤ ncap ∧ ncap ≤ 64 by omega)
  have HRING := Lib.hid (show 1 ≤ nring ∧ nring ≤ 64 by omega)
  have HROOM := Lib.hid (show 1 ≤ nroom ∧ nroom ≤ 16 by omega)
  have HSH := Lib.hid (show 1 ≤ nsh ∧ nsh ≤ 4 by omega)
  clear hk1 hk2 hk3 hk4 hk5 hk6
  obtain ⟨c, hcd⟩ : ∃ c : Cfg, c = ⟨nsh, ncap, nring, nroom, cwk, ccli⟩ := ⟨_, rfl⟩
  rw [← hcd] at hk ⊢
  have HB := Lib.hid (check_g c)
  obtain ⟨C, hC⟩ : ∃ C, C = c.cells := ⟨_, rfl⟩
  have hC' := hC
  simp only [Cfg.cells] at hC'
  rw [← hC, hk] at HB
  rw [hcd] at hC'
  simp only [] at hC'
  have HCC := Lib.hid hC'
  have HCD := Lib.hid hcd
  simp only [Cfg.cells, hcd]
  go_enter Tryz.func16, Tryz.ntmps16
  go_wp2_with fail
  rw [← hC']
  clear hC hC' hk hcd
  refine (DoesG.use HB.out (HT.out.alloc (k := w.heap.size) rfl 30 C) [] rfl rfl).mono ?_
  rintro e w1 ⟨gs, ⟨rfl, rfl⟩, Ta⟩
  simp only [putG, List.nil_append, List.append_nil, if_true] at Ta
  have hc0 := Ta.cell 0 0 rfl
  simp only [HCC.out] at hc0
  have HT := Lib.hid Ta
  clear Ta
  obtain ⟨b0, hb0⟩ : ∃ b0, b0 = w.heap.size := ⟨_, rfl⟩
  rw [← hb0] at HT hc0 ⊢
  clear hb0
  go_wp2
  go_region_with (
    go_at_call 80
    refine (DoesG.use logNew_g HT.out.drew [] rfl rfl).mono ?_
    rintro e w2 ⟨gs, ⟨lb, rfl, rfl⟩, Ta⟩
    simp only [putG, List.nil_append, List.append_nil, List.cons_append] at Ta
    have hc1 := Ta.cell 0 0 rfl
    simp only [HCC.out] at hc1
    have hlt1 := Ta.lt 0 0 rfl
    simp only [] at hlt1
    have HT1 := Lib.hid Ta
    clear Ta hc0)
  all_goals
    go_wp2_with fail
    have HT2 := Lib.hid (HT1.out.alloc (k := w2.heap.size) rfl 133 #[.int .i64 nsh, .int .i64 ncap, .int .i64 nring, .int .i64 nroom, .int .i64 cwk, .int .i64 ccli, .pointer none, .slice none 0 0, .pointer none, ptr' lb, .bool false, .int .i64 0, .int .i64 0, .int .i64 0, .int .i64 0, .int .i64 0, .int .i64 0, .int .i64 0, .int .i64 0, .int .i64 0, .int .i64 0, .int .i64 0, .int .u64 0, .int .i64 0, .int .i64 0, .int .i64 0, .slice none 0 0])
    simp only [List.cons_append, List.nil_append] at HT2
    obtain ⟨fb, hfb⟩ : ∃ fb, fb = w2.heap.size := ⟨_, rfl⟩
    rw [← hfb] at HT2 ⊢
    refine (DoesG.use (slabNew_at ncap HCAP.out.1 HCAP.out.2) HT2.out [] rfl rfl).mono ?_
    rintro e w3 ⟨gs, ⟨sb, gS, rfl, hgS, rfl⟩, Ta⟩
    simp only [putG, List.nil_append, List.append_nil, List.cons_append] at Ta
    have hc2 := Ta.cell 0 0 rfl
    simp only [HCC.out] at hc2
    have fF := Ta.free 2 0 rfl
    have hF := Ta.cell 2 0 rfl
    have HT3 := Lib.hid Ta
    clear Ta hc1 hfb hlt1
    go_wp2_with fail
    refine (DoesG.use (pipeNew_g nroom HROOM.out.1 HROOM.out.2) (HT3.out.set 2 0 rfl 6 (ptr' sb)) [] rfl rfl).mono ?_
    rintro e w4 ⟨gs, ⟨pb, gP, rfl, hgP, rfl⟩, Ta⟩
    simp only [putG, List.nil_append, List.append_nil, List.cons_append, List.set_cons_zero, List.set_cons_succ, List.getD_cons_succ, List.getD_cons_zero] at Ta
    have hc3 := Ta.cell 0 0 rfl
    simp only [HCC.out] at hc3
    have fF4 := Ta.free 2 0 rfl
    have hF4 := Ta.cell 2 0 rfl
    have hne := Ta.ne 0 0 2 0 (by decide) rfl rfl
    simp only [] at hne
    have HT4 := Lib.hid (Ta.set 2 0 rfl 8 (ptr' pb))
    simp only [List.set_cons_zero, List.set_cons_succ, List.getD_cons_succ, List.getD_cons_zero] at HT4
    clear Ta hc2 fF hF
    go_wp2
    have T5 : TG [] w [[cl b0 30 C], [cl lb 214 #[.slice none 0 0]], [cl fb 133 (floorLit nsh ncap nring nroom cwk ccli sb pb lb (.slice none 0 0))], gS, gP] (w4.setCell ⟨fb, 8, none⟩ (ptr' pb)) := HT4.out
    go_loopw [6, 7, 37] (fun _ _ i wr => ∃ (k : Nat) (shs : List (Nat × ShardS)) (v : Value) (gR gH : List Blk), k ≤ nsh ∧ shs.length = k ∧ i = .int .i64 k ∧ (∀ x ∈ shs, x.2 = newShard nring) ∧ rowG 42 1 v k (shs.map fun x => ptr' x.1) gR ∧ FamP (fun (x : Nat × ShardS) => SH x.1 x.2) shs gH ∧
        TG [] w [[cl b0 30 C], [cl lb 214 #[.slice none 0 0]], [cl fb 133 (floorLit nsh ncap nring nroom cwk ccli sb pb lb v)], gS, gP, gR, gH] wr) (fun _ _ i _ => nsh + 1 - (intOf i).toNat)
    case atStart => exact ⟨0, [], .slice none 0 0, [], [], by omega, rfl, rfl, fun x hx => by (cases hx), rowG_nil _ _, rfl, T5.eq (by simp)⟩
    case round =>
      clear T5 HT4 hc3 fF4 hF4
      obtain ⟨k, shs, v, gR, gH, hk, hl, rfl, hnew, hr, hfam, T⟩ := hrel
      have HT := Lib.hid T
      have HR := Lib.hid hr
      have HF := Lib.hid hfam
      have HN := Lib.hid hnew
      have HL := Lib.hid hl
      have hc4 := T.cell 0 0 rfl
      simp only [HCC.out] at hc4
      clear T hr hfam hnew hl
      have hk4 := HSH.out.2
      by_cases hlt : k < nsh
      · go_wp2_with fail
        refine (DoesG.use (HNEW.out nring HRING.out.1 HRING.out.2) (HT.out) [] rfl rfl).mono ?_
        rintro e w1 ⟨gs, ⟨shb, gsh, rfl, hgsh, rfl⟩, Ta⟩
        simp only [PU] at Ta
        have hF := Ta.cell 2 0 rfl
        simp only [floorLit] at hF
        have fhF := Ta.free 2 0 rfl
        have HT := Lib.hid Ta
        clear Ta
        go_wp2_with (
          at_builtin
          (with_reducible refine wpList_append_G rfl (.tmp 49) (.tmp 51) 125 rfl 42 1 8 _ Tryz.underlying125 Tryz.infoShard rfl (by decide) ((HT.out).alloc0 _) 5 rfl rfl HR.out rfl ⟨w1.heap.size, 0, none⟩ 1 1 [ptr' shb] rfl rfl (news_alloc _ _ _) (by simp [Value.oneCell']) (by unfold maxLen; omega) (by omega) ?_)
          intro v1 w2 gR1 r1 T1
          obtain ⟨a1, c1, rfl⟩ := r1.val
          simp only [List.set_cons_zero, List.set_cons_succ] at T1
          have hF1 := T1.cell 2 0 rfl
          have fF1 := T1.free 2 0 rfl
          simp only [floorLit] at hF1
          have HT1 := Lib.hid T1
          have HR1 := Lib.hid r1
          clear T1 r1)
        have HT2 := Lib.hid (HT1.out.set 2 0 rfl 7 (.slice a1 (k + 1) c1))
        simp only [List.set_cons_zero, List.set_cons_succ, List.getD_cons_succ, List.getD_cons_zero] at HT2
        have HT3 := Lib.hid (HT2.out.merge 6 7 (by decide) rfl rfl)
        simp only [List.set_cons_zero, List.set_cons_succ, List.getD_cons_succ, List.getD_cons_zero] at HT3
        have HT3 := Lib.hid (HT3.out.pick [0, 1, 2, 3, 4, 5, 6] rfl)
        first
        | (go_roundw
           case rel => exact ⟨k + 1, shs ++ [(shb, newShard nring)], .slice a1 (k + 1) c1, gR1, gH ++ gsh, by omega, by rw [List.length_append, HL.out]; rfl, by go_num, fun x hx => by (rcases List.mem_append.1 hx with h | h; exact HN.out x h; rw [List.mem_singleton.1 h]), by simpa using HR1.out, HF.out.snoc hgsh, HT3.out⟩
           case measure => simp [intOf]; omega)
        | exact ⟨⟨k + 1, shs ++ [(shb, newShard nring)], .slice a1 (k + 1) c1, gR1, gH ++ gsh, by omega, by rw [List.length_append, HL.out]; rfl, by go_num, fun x hx => by (rcases List.mem_append.1 hx with h | h; exact HN.out x h; rw [List.mem_singleton.1 h]), by simpa using HR1.out, HF.out.snoc hgsh, HT3.out⟩, by simp [intOf]; omega⟩
        | ((repeat apply Exists.intro); exact ⟨⟨⟨k + 1, shs ++ [(shb, newShard nring)], .slice a1 (k + 1) c1, gR1, gH ++ gsh, by omega, by rw [List.length_append, HL.out]; rfl, by go_num, fun x hx => by (rcases List.mem_append.1 hx with h | h; exact HN.out x h; rw [List.mem_singleton.1 h]), by simpa using HR1.out, HF.out.snoc hgsh, HT3.out⟩, rfl⟩, by simp [intOf]; omega⟩)
      · obtain rfl : k = nsh := by omega
        have hF5 := HT.out.cell 2 0 rfl
        go_wp2
        go_ret2
        refine ⟨[[cl fb 133 (floorLit k ncap nring nroom cwk ccli sb pb lb v)], gS, gR, gH, gP, [cl lb 214 #[.slice none 0 0]]], ⟨fb, ⟨sb, pb, lb, v⟩, shs, _, gS, gR, gH, gP, _, rfl, ⟨⟨_, rfl, ?_⟩, ?_, ?_, HF.out, by simpa using hgP, rfl⟩, ?_, ?_, rfl⟩, HT.out.pick [2, 3, 5, 6, 4, 1] rfl⟩
        · exact floorLit_C ⟨k, ncap, nring, nroom, cwk, ccli⟩ sb pb lb v
        · simpa using hgS
        · rw [HL.out]; exact HR.out
        · rw [HL.out]
        · simpa using HN.out
end Go.Proofs.YtblhfbcodbjgcaaGreat

namespace Go.Proofs.YtblhfbcodbjgcaaGreat
set_option linter.unusedVariables false
set_option linter.unusedSimpArgs false
open Go.RowKit Go.Shelf
theorem cellG {P : Program} {f : Nat} {args : Array Value} {b o : Nat} {T : TypeId} {C : Array Value} {v r : Value} (hd : Does P f args [pt b T C] (CellPost b T C o v r)) :
    DoesG P f args [[cl b T C]] fun e gs => e = .returned r ∧ ∃ C', Recell C o v C' ∧ gs = [[cl b T C']] := by
  refine (hd.G (gs := [[cl b T C]]) (by simpa using Match.of_pt b T C)).mono ?_
  rintro e gs ⟨h', g, ⟨he, C', rfl, hr⟩, m, rfl⟩
  exact ⟨he, C', hr, by rw [m.isPt]⟩
theorem floorC.closedR {p : FPtr} {f : FloorS} {tr : Value} {C C' : Array Value} (h : floorC p f tr C) {x : Bool} (r : Recell C 10 (.bool x) C') : floorC p { f with closed := x } tr C' :=
  ⟨r.size.trans h.size, fun i hi => (r.other i (by omega)).trans (h.cfg i hi), (r.other _ (by omega)).trans h.slab, (r.other _ (by omega)).trans h.sh, (r.other _ (by omega)).trans h.pipe, (r.other _ (by omega)).trans h.log,
    r.cell,
    r.cellOther h.inside (by omega),
    r.cellOther h.busy (by omega),
    r.cellOther h.now (by omega),
    (r.other _ (by omega)).trans h.tr⟩
theorem floorC.closedS {p : FPtr} {f : FloorS} {tr : Value} {C C' : Array Value} (h : floorC p f tr C) (r : Recell C 10 (.bool f.closed) C') : floorC p f tr C' := h.closedR r
theorem floorC.insideR {p : FPtr} {f : FloorS} {tr : Value} {C C' : Array Value} (h : floorC p f tr C) {x : Int} (r : Recell C 14 (.int .i64 x) C') : floorC p { f with inside := x } tr C' :=
  ⟨r.size.trans h.size, fun i hi => (r.other i (by omega)).trans (h.cfg i hi), (r.other _ (by omega)).trans h.slab, (r.other _ (by omega)).trans h.sh, (r.other _ (by omega)).trans h.pipe, (r.other _ (by omega)).trans h.log,
    r.cellOther h.closed (by omega),
    r.cell,
    r.cellOther h.busy (by omega),
    r.cellOther h.now (by omega),
    (r.other _ (by omega)).trans h.tr⟩
theorem floorC.insideS {p : FPtr} {f : FloorS} {tr : Value} {C C' : Array Value} (h : floorC p f tr C) (r : Recell C 14 (.int .i64 f.inside) C') : floorC p f tr C' := h.insideR r
theorem floorC.nowR {p : FPtr} {f : FloorS} {tr : Value} {C C' : Array Value} (h : floorC p f tr C) {x : Int} (r : Recell C 22 (.int .u64 x) C') : floorC p { f with now := x } tr C' :=
  ⟨r.size.trans h.size, fun i hi => (r.other i (by omega)).trans (h.cfg i hi), (r.other _ (by omega)).trans h.slab, (r.other _ (by omega)).trans h.sh, (r.other _ (by omega)).trans h.pipe, (r.other _ (by omega)).trans h.log,
    r.cellOther h.closed (by omega),
    r.cellOther h.inside (by omega),
    r.cellOther h.busy (by omega),
    r.cell,
    (r.other _ (by omega)).trans h.tr⟩
theorem floorC.nowS {p : FPtr} {f : FloorS} {tr : Value} {C C' : Array Value} (h : floorC p f tr C) (r : Recell C 22 (.int .u64 f.now) C') : floorC p f tr C' := h.nowR r
theorem floorInside_g {fb : Nat} {p : FPtr} {f : FloorS} {tr : Value} {g : List Blk} (hg : isFloor fb p f tr g) : DoesG Tryz.prog 26 #[ptr' fb] [g] fun e gs => e = .returned (.int .i64 f.inside) ∧ ∃ g', isFloor fb p f tr g' ∧ gs = [g'] := by
  obtain ⟨C, rfl, hc⟩ := hg
  intro w hw
  have T0 := TG.refl hw
  have HT := Lib.hid T0
  clear hw T0
  have HC := Lib.hid hc
  clear hc
  go_enter Tryz.func26, Tryz.ntmps26
  go_wp2_with fail
  refine (DoesG.use (cellG (loadI_does fb 14 _ C f.inside HC.out.inside)) (HT.out) [0] rfl rfl).mono ?_
  rintro e w1 ⟨gs, ⟨rfl, C1, hr, rfl⟩, Ta⟩
  simp only [PU] at Ta
  have HT := Lib.hid Ta
  clear Ta
  have HR := Lib.hid hr
  clear hr
  go_wp2
  go_ret
  exact ⟨_, ⟨rfl, _, ⟨C1, rfl, HC.out.insideS HR.out⟩, rfl⟩, HT.out⟩
theorem floorNow_g {fb : Nat} {p : FPtr} {f : FloorS} {tr : Value} {g : List Blk} (hg : isFloor fb p f tr g) : DoesG Tryz.prog 36 #[ptr' fb] [g] fun e gs => e = .returned (.int .u64 f.now) ∧ ∃ g', isFloor fb p f tr g' ∧ gs = [g'] := by
  obtain ⟨C, rfl, hc⟩ := hg
  intro w hw
  have T0 := TG.refl hw
  have HT := Lib.hid T0
  clear hw T0
  have HC := Lib.hid hc
  clear hc
  go_enter Tryz.func36, Tryz.ntmps36
  go_wp2_with fail
  refine (DoesG.use (cellG (loadU_does fb 22 _ C f.now HC.out.now)) (HT.out) [0] rfl rfl).mono ?_
  rintro e w1 ⟨gs, ⟨rfl, C1, hr, rfl⟩, Ta⟩
  simp only [PU] at Ta
  have HT := Lib.hid Ta
  clear Ta
  have HR := Lib.hid hr
  clear hr
  go_wp2
  go_ret
  exact ⟨_, ⟨rfl, _, ⟨C1, rfl, HC.out.nowS HR.out⟩, rfl⟩, HT.out⟩
theorem floorClosed_g {fb : Nat} {p : FPtr} {f : FloorS} {tr : Value} {g : List Blk} (hg : isFloor fb p f tr g) : DoesG Tryz.prog 136 #[ptr' fb] [g] fun e gs => e = .returned (.bool f.closed) ∧ ∃ g', isFloor fb p f tr g' ∧ gs = [g'] := by
  obtain ⟨C, rfl, hc⟩ := hg
  intro w hw
  have T0 := TG.refl hw
  have HT := Lib.hid T0
  clear hw T0
  have HC := Lib.hid hc
  clear hc
  go_enter Tryz.func136, Tryz.ntmps136
  go_wp2_with fail
  refine (DoesG.use (cellG (loadB_does fb 10 _ C f.closed HC.out.closed)) (HT.out) [0] rfl rfl).mono ?_
  rintro e w1 ⟨gs, ⟨rfl, C1, hr, rfl⟩, Ta⟩
  simp only [PU] at Ta
  have HT := Lib.hid Ta
  clear Ta
  have HR := Lib.hid hr
  clear hr
  go_wp2
  go_ret
  exact ⟨_, ⟨rfl, _, ⟨C1, rfl, HC.out.closedS HR.out⟩, rfl⟩, HT.out⟩
theorem floorShut_g {fb : Nat} {p : FPtr} {f : FloorS} {tr : Value} {g : List Blk} (hg : isFloor fb p f tr g) : DoesG Tryz.prog 34 #[ptr' fb] [g] fun e gs => e = .returned (.bool (!f.closed)) ∧ ∃ g', isFloor fb p { f with closed := true } tr g' ∧ gs = [g'] := by
  obtain ⟨C, rfl, hc⟩ := hg
  intro w hw
  have T0 := TG.refl hw
  have HT := Lib.hid T0
  clear hw T0
  have HC := Lib.hid hc
  clear hc
  go_enter Tryz.func34, Tryz.ntmps34
  go_wp2_with fail
  refine (DoesG.use (cellG (swapB_does fb 10 _ C f.closed false true HC.out.closed)) (HT.out) [0] rfl rfl).mono ?_
  rintro e w1 ⟨gs, ⟨rfl, C1, hr, rfl⟩, Ta⟩
  simp only [PU] at Ta
  have HT := Lib.hid Ta
  clear Ta
  have HR := Lib.hid (show Recell C 10 (.bool true) C1 from by cases hb : f.closed <;> simp [hb] at hr <;> exact hr)
  clear hr
  go_wp2
  go_ret
  exact ⟨_, ⟨by cases hb : f.closed <;> simp [hb], _, ⟨C1, rfl, HC.out.closedR HR.out⟩, rfl⟩, HT.out⟩
theorem row_at {e : TypeId} {v : Value} {n : Nat} {xs : List Value} {g : List Blk} (r : rowG e 1 v n xs g) {i : Nat} {u : Value} (hi : xs[i]? = some u) :
    ∃ b cap cur, v = .slice (some ⟨b, 0, none⟩) n cap ∧ g = [cl b e cur] ∧ cur[i]? = some u ∧ i < n := by
  have hl := r.1
  have hin : i < n := by have := (List.getElem?_eq_some_iff.1 hi).1; omega
  obtain ⟨b, cap, cur, h1, h2, _, _, _, h6⟩ := r.open (by omega)
  exact ⟨b, cap, cur, h1, h2, (h6 i (by omega)).trans hi, hin⟩
def shardV (shs : List Nat) (i : Int) : Value := if 0 ≤ i ∧ i < shs.length then ptr' (shs.getD i.toNat 0) else .pointer none
def homeV (shs : List Nat) (i : Int) : Value := if 0 ≤ i then ptr' (shs.getD (i % shs.length).toNat 0) else .pointer none
end Go.Proofs.YtblhfbcodbjgcaaGreat

namespace Go.Proofs.YtblhfbcodbjgcaaGreat
set_option linter.unusedVariables false
set_option linter.unusedSimpArgs false
open Go.RowKit Go.Shelf
end Go.Proofs.YtblhfbcodbjgcaaGreat

namespace Go.Proofs.YtblhfbcodbjgcaaGreat
set_option linter.unusedVariables false
set_option linter.unusedSimpArgs false
open Go.RowKit Go.Shelf
theorem floorShard_r {fb : Nat} {p : FPtr} {f : FloorS} {tr : Value} {g : List Blk} {shs : List Nat} {gR : List Blk} (hg : isFloor fb p f tr g) (hr : rowG 42 1 p.sh shs.length (shs.map fun x => ptr' x) gR) (i : Int) : ReadsG Tryz.prog 20 #[ptr' fb, .int .i64 i] [g, gR] (shardV shs i) := by
  obtain ⟨C, rfl, hc⟩ := hg
  by_cases h0 : 0 ≤ i
  · obtain ⟨k, rfl⟩ := Int.eq_ofNat_of_zero_le h0
    by_cases hk : k < shs.length
    · have hget := List.getElem?_eq_getElem hk
      obtain ⟨x, hx⟩ : ∃ x, shs[k] = x := ⟨_, rfl⟩
      rw [hx] at hget
      have hi : (shs.map fun x => ptr' x)[k]? = some (ptr' x) := by rw [List.getElem?_map, hget]; rfl
      obtain ⟨b, cap, cur, hv, rfl, hcu, _⟩ := row_at hr hi
      have HV := Lib.hid (show shardV shs k = ptr' x from by
        unfold shardV
        rw [if_pos ⟨h0, by omega⟩, Int.toNat_natCast, List.getD_eq_getElem?_getD, hget]; rfl)
      have hsh := hc.sh
      rw [hv] at hsh
      intro w hw
      have T0 := TG.refl hw
      have HT := Lib.hid T0
      clear hw T0
      have c0 := (HT.out.cell 0 0 rfl 7).trans hsh
      have c1 := (HT.out.cell 1 0 rfl k).trans hcu
      clear hc hr hget hi hv hsh hcu hx
      go_enter Tryz.func20, Tryz.ntmps20
      go_wp2
      go_ret
      first | exact ⟨by rw [HV.out]; rfl, 0, rfl⟩ | exact ⟨by rw [HV.out]; rfl, _, rfl⟩
    · have HV := Lib.hid (show shardV shs k = .pointer none from if_neg (by omega))
      obtain ⟨a, cap, hv⟩ := hr.val
      have hsh := hc.sh
      rw [hv] at hsh
      intro w hw
      have T0 := TG.refl hw
      have HT := Lib.hid T0
      clear hw T0
      have c0 := (HT.out.cell 0 0 rfl 7).trans hsh
      clear hc hr hv hsh
      go_enter Tryz.func20, Tryz.ntmps20
      go_wp2
      go_ret
      first | exact ⟨by rw [HV.out]; rfl, 0, rfl⟩ | exact ⟨by rw [HV.out]; rfl, _, rfl⟩
  · have HV := Lib.hid (show shardV shs i = .pointer none from if_neg (by omega))
    intro w hw
    have T0 := TG.refl hw
    have HT := Lib.hid T0
    clear hw T0
    clear hc hr
    go_enter Tryz.func20, Tryz.ntmps20
    go_wp2
    go_ret
    first | exact ⟨by rw [HV.out]; rfl, 0, rfl⟩ | exact ⟨by rw [HV.out]; rfl, _, rfl⟩
theorem floorHome_r {fb : Nat} {p : FPtr} {f : FloorS} {tr : Value} {g : List Blk} {shs : List Nat} {gR : List Blk} (hg : isFloor fb p f tr g) (hr : rowG 42 1 p.sh shs.length (shs.map fun x => ptr' x) gR) (hn : 1 ≤ shs.length) (i : Int) : ReadsG Tryz.prog 171 #[ptr' fb, .int .i64 i] [g, gR] (homeV shs i) := by
  by_cases h0 : 0 ≤ i
  · have hs := floorShard_r hg hr (i % shs.length)
    have hm0 : 0 ≤ i % (shs.length : Int) := Int.emod_nonneg _ (by omega)
    have hm1 : i % (shs.length : Int) < shs.length := Int.emod_lt_of_pos _ (by omega)
    obtain ⟨x, hx⟩ : ∃ x, ptr' (shs.getD (i % shs.length).toNat 0) = x := ⟨_, rfl⟩
    have HV := Lib.hid (show homeV shs i = x from (if_pos h0).trans hx)
    rw [show shardV shs (i % shs.length) = x from (if_pos ⟨hm0, hm1⟩).trans hx] at hs
    have HS := Lib.hid hs
    obtain ⟨C, rfl, hc⟩ := hg
    obtain ⟨a, cap, hv⟩ := hr.val
    have hsh := hc.sh
    rw [hv] at hsh
    intro w hw
    have T0 := TG.refl hw
    have HT := Lib.hid T0
    clear hw T0
    have c0 := (HT.out.cell 0 0 rfl 7).trans hsh
    clear hc hr hv hsh hs hm0 hm1 hx
    go_enter Tryz.func171, Tryz.ntmps171
    go_wp2_with fail
    refine (ReadsG.use (HS.out) (HT.out) [0, 1] rfl rfl).mono ?_
    rintro e w1 ⟨rfl, mq, rfl⟩
    go_wp2
    go_ret
    first | exact ⟨by rw [HV.out]; rfl, 0, rfl⟩ | exact ⟨by rw [HV.out]; rfl, _, rfl⟩
  · have HV := Lib.hid (show homeV shs i = .pointer none from if_neg h0)
    intro w hw
    have T0 := TG.refl hw
    have HT := Lib.hid T0
    clear hw T0
    clear hg hr
    go_enter Tryz.func171, Tryz.ntmps171
    go_wp2
    go_ret
    first | exact ⟨by rw [HV.out]; rfl, 0, rfl⟩ | exact ⟨by rw [HV.out]; rfl, _, rfl⟩
end Go.Proofs.YtblhfbcodbjgcaaGreat

namespace Go.Proofs.YtblhfbcodbjgcaaGreat
set_option linter.unusedVariables false
set_option linter.unusedSimpArgs false
open Go.RowKit Go.ChangeShapes
def ArgU8 (w : World) (a : Option Addr) (zs : List Int) : Prop :=
  (∀ x ∈ zs, 0 ≤ x ∧ x ≤ 255) ∧ (zs = [] ∨ ∃ b off, a = some ⟨b, off, none⟩ ∧ b < w.heap.size ∧ ∀ (i : Nat) (x : Int), zs[i]? = some x → w.cell? ⟨b, off + i, none⟩ = some (.int .u8 x))
theorem TG.old {H : GH} {w w' : World} (T : TG [] w H w') {p : Addr} (hp : p.block < w.heap.size) : w'.cell? p = w.cell? p :=
  (Turned.below T).cell hp
theorem TG.bel {H : GH} {w w' : World} (T : TG [] w H w') : Below w.heap.size w w' := Turned.below T
theorem ArgU8.at {w : World} {a : Option Addr} {zs : List Int} (h : ArgU8 w a zs) {i : Nat} (hi : i < zs.length) :
    ∃ (b off : Nat) (x : Int), a = some ⟨b, off, none⟩ ∧ zs[i]? = some x ∧ 0 ≤ x ∧ x ≤ 255 ∧ ∀ {H : GH} {w' : World}, TG [] w H w' → w'.cell? ⟨b, off + i, none⟩ = some (.int .u8 x) := by
  have hg := List.getElem?_eq_getElem hi
  have hb := h.1 _ (List.getElem_mem hi)
  rcases h.2 with h0 | ⟨b, off, ha, hlt, hc⟩
  · subst h0; exact absurd hi (Nat.not_lt_zero _)
  · exact ⟨b, off, zs[i], ha, hg, hb.1, hb.2, fun T => (T.old hlt).trans (hc i _ hg)⟩
end Go.Proofs.YtblhfbcodbjgcaaGreat

namespace Go.Proofs.YtblhfbcodbjgcaaGreat
set_option linter.unusedVariables false
set_option linter.unusedSimpArgs false
open Go.RowKit Go.Shelf
structure EvS where
  kind : Int
  thread : Int
  call : Int
  what : Int
  id : Int
  gen : Int
  dl : Int
  per : Int
  tick : Int
  err : Int
def EvS.cells (e : EvS) : Array Value := #[.int .i64 e.kind, .int .i64 e.thread, .int .i64 e.call, .int .i64 e.what, .int .u64 e.id, .int .u64 e.gen, .int .u64 e.dl, .int .u64 e.per, .int .u64 e.tick, .int .i64 e.err]
end Go.Proofs.YtblhfbcodbjgcaaGreat

namespace Go.Proofs.YtblhfbcodbjgcaaGreat
set_option linter.unusedVariables false
set_option linter.unusedSimpArgs false
open Go.RowKit Go.Shelf
theorem DoesG.toDoes {P : Program} {f : Nat} {args : Array Value} {g : List Blk} {h : PH} {R : Ending → Prop} (hd : DoesG P f args [g] fun e gs => R e ∧ gs = [g]) (e : ex g = h) :
    Does P f args h fun e h' => R e ∧ h' = h := by
  subst e
  intro w hw
  refine (hd w (by unfold HasG; simpa using hw)).mono ?_
  rintro e w' ⟨gs, ⟨he, rfl⟩, T⟩
  exact ⟨_, ⟨he, rfl⟩, by simpa [TG] using T⟩
theorem count1_g (bb : Nat) (n d : Int) (h : -1000000000 ≤ n ∧ n ≤ 1000000000 ∧ -1000000000 ≤ d ∧ d ≤ 1000000000) :
    DoesG Tryz.prog 190 #[.int .i64 n, ptr' bb] [[cl bb 3 #[.int .i64 d]]] fun e gs => e = .returned (.tuple #[.int .i64 (n + d), .bool (decide (0 ≤ n + d))]) ∧ gs = [[cl bb 3 #[.int .i64 d]]] := by
  intro w hw
  have T0 := TG.refl hw
  have HT := Lib.hid T0
  clear hw T0
  have c0 := HT.out.cell 0 0 rfl 0
  simp only [List.getElem?_toArray, List.getElem?_cons_zero] at c0
  obtain ⟨h1, h2, h3, h4⟩ := h
  go_enter Tryz.func190, Tryz.ntmps190
  go_wp2
  go_quiet (fail)
  go_wp2
  go_ret2
  exact ⟨_, ⟨by simp, rfl⟩, HT.out.drewN _⟩
theorem turnI_g {b o bb : Nat} {T T2 : TypeId} {C D : Array Value} {n v : Int} {ok : Bool} {g : Nat} {caps : Array Value} (hc : cellAt C o (.int .i64 n))
    (eg : ∀ args w, (callFunc g args).run Tryz.prog w = .ok (.enter g args) w)
    (hg : DoesG Tryz.prog g (#[.int .i64 n] ++ caps) [[cl bb T2 D]] fun e gs => e = .returned (.tuple #[.int .i64 v, .bool ok]) ∧ gs = [[cl bb T2 D]]) :
    DoesG Tryz.prog 189 #[.pointer (some ⟨b, o, none⟩), .func (.func g) #[] caps] [[cl b T C], [cl bb T2 D]] fun e gs =>
      e = .returned (.tuple #[.int .i64 n, .bool ok]) ∧ ∃ C', Recell C o (.int .i64 (if ok = true then v else n)) C' ∧ gs = [[cl b T C'], [cl bb T2 D]] := by
  refine ((turnI_does b o T C n v ok g caps [pt bb T2 D] hc eg (hg.toDoes rfl)).G (gs := [[cl b T C], [cl bb T2 D]]) (by simpa using (Match.of_pt b T C).join (Match.of_pt bb T2 D))).post ?_
  rintro e gs ⟨h', g, ⟨he, C', rfl, hr⟩, m, rfl⟩
  obtain ⟨x, y, rfl, m1, m2⟩ := Match.append (a := [pt b T C']) (b := [pt bb T2 D]) m
  exact ⟨[[cl b T C'], [cl bb T2 D]], ⟨he, C', hr, rfl⟩, by rw [m1.isPt, m2.isPt]; simp⟩
abbrev Bd (n d : Int) : Prop := -1000000000 ≤ n ∧ n ≤ 1000000000 ∧ -1000000000 ≤ d ∧ d ≤ 1000000000
def lessE (n : Int) : Int := if n = 0 then 6 else 0
def lessN (n : Int) : Int := if n = 0 then 0 else n - 1
set_option maxRecDepth 100000 in
set_option maxHeartbeats 200000 in
theorem count_yes {fb o : Nat} {T : TypeId} {C : Array Value} {n m : Int} (d : Int) (h : Bd n d) (hm : n + d = m) (hk : 0 ≤ m) (hc : cellAt C o (.int .i64 n)) :
    DoesG Tryz.prog 166 #[.pointer (some ⟨fb, o, none⟩), .int .i64 d] [[cl fb T C]] fun e gs => e = .returned (.int .i64 0) ∧ ∃ C', Recell C o (.int .i64 m) C' ∧ gs = [[cl fb T C']] := by
  subst hm
  intro w hw
  have T0 := TG.refl hw
  have HT := Lib.hid T0
  clear hw T0
  have HC := Lib.hid hc
  have HB0 := count1_g w.heap.size n d h
  have hd : decide (0 ≤ n + d) = true := by simpa using hk
  rw [hd] at HB0
  have HB := Lib.hid HB0
  clear hc h HB0 hd hk
  go_enter Tryz.func166, Tryz.ntmps166
  go_wp2_with fail
  refine (DoesG.use (turnI_g (caps := #[ptr' w.heap.size]) (g := 190) (bb := w.heap.size) (D := #[.int .i64 d]) HC.out (enters_of Tryz.func190 (by kernel_rfl) rfl) HB.out) ((HT.out.alloc rfl _ _)) [0, 1] rfl rfl).mono ?_
  rintro e w1 ⟨gs, ⟨rfl, C1, hr, rfl⟩, Ta⟩
  simp only [PU] at Ta
  have HT := Lib.hid Ta
  clear Ta
  have HR := Lib.hid hr
  clear hr
  go_wp2
  go_ret
  exact ⟨_, ⟨rfl, C1, HR.out, rfl⟩, HT.out.pick [0] rfl⟩
set_option maxRecDepth 100000 in
set_option maxHeartbeats 200000 in
theorem count_no {fb o : Nat} {T : TypeId} {C : Array Value} {n : Int} (d : Int) (h : Bd n d) (hk : n + d < 0) (hc : cellAt C o (.int .i64 n)) :
    DoesG Tryz.prog 166 #[.pointer (some ⟨fb, o, none⟩), .int .i64 d] [[cl fb T C]] fun e gs => e = .returned (.int .i64 6) ∧ ∃ C', Recell C o (.int .i64 n) C' ∧ gs = [[cl fb T C']] := by
  intro w hw
  have T0 := TG.refl hw
  have HT := Lib.hid T0
  clear hw T0
  have HC := Lib.hid hc
  have HB0 := count1_g w.heap.size n d h
  have hd : decide (0 ≤ n + d) = false := by simpa using hk
  rw [hd] at HB0
  have HB := Lib.hid HB0
  clear hc h HB0 hd hk
  go_enter Tryz.func166, Tryz.ntmps166
  go_wp2_with fail
  refine (DoesG.use (turnI_g (caps := #[ptr' w.heap.size]) (g := 190) (bb := w.heap.size) (D := #[.int .i64 d]) HC.out (enters_of Tryz.func190 (by kernel_rfl) rfl) HB.out) ((HT.out.alloc rfl _ _)) [0, 1] rfl rfl).mono ?_
  rintro e w1 ⟨gs, ⟨rfl, C1, hr, rfl⟩, Ta⟩
  simp only [PU] at Ta
  have HT := Lib.hid Ta
  clear Ta
  have HR := Lib.hid hr
  clear hr
  go_wp2
  go_ret
  exact ⟨_, ⟨rfl, C1, HR.out, rfl⟩, HT.out.pick [0] rfl⟩
theorem floorEnter_g {fb : Nat} {p : FPtr} {f : FloorS} {tr : Value} {g : List Blk} (hg : isFloor fb p f tr g) (h : 0 ≤ f.inside ∧ f.inside ≤ 1000000) : DoesG Tryz.prog 135 #[ptr' fb] [g] fun e gs => e = .returned (.tuple #[]) ∧ ∃ g', isFloor fb p { f with inside := f.inside + 1 } tr g' ∧ gs = [g'] := by
  obtain ⟨C, rfl, hc⟩ := hg
  intro w hw
  have T0 := TG.refl hw
  have HT := Lib.hid T0
  clear hw T0
  have HC := Lib.hid hc
  have HB := Lib.hid h
  clear hc h
  go_enter Tryz.func135, Tryz.ntmps135
  go_wp2_with fail
  refine (DoesG.use (count_yes (n := f.inside) 1 (by have := HB.out; unfold Bd; omega) rfl (by have := HB.out; omega) HC.out.inside) (HT.out) [0] rfl rfl).mono ?_
  rintro e w1 ⟨gs, ⟨rfl, C1, hr, rfl⟩, Ta⟩
  simp only [PU] at Ta
  have HT := Lib.hid Ta
  clear Ta
  have HR := Lib.hid hr
  clear hr
  go_wp2
  exact bodyPost_end (results_none rfl _ _ _) rfl ⟨_, ⟨rfl, _, ⟨C1, rfl, HC.out.insideR HR.out⟩, rfl⟩, HT.out⟩
theorem floorLeave_g {fb : Nat} {p : FPtr} {f : FloorS} {tr : Value} {g : List Blk} (hg : isFloor fb p f tr g) (h : 0 ≤ f.inside ∧ f.inside ≤ 1000000) : DoesG Tryz.prog 193 #[ptr' fb] [g] fun e gs =>
    e = .returned (.int .i64 (lessE f.inside)) ∧ ∃ g', isFloor fb p { f with inside := lessN f.inside } tr g' ∧ gs = [g'] := by
  obtain ⟨C, rfl, hc⟩ := hg
  intro w hw
  have T0 := TG.refl hw
  have HT := Lib.hid T0
  clear hw T0
  have HC := Lib.hid hc
  have HB := Lib.hid h
  clear hc h
  by_cases hz : f.inside = 0
  · have HE := Lib.hid (show lessE f.inside = 6 from if_pos hz)
    have HN := Lib.hid (show lessN f.inside = f.inside from (if_pos hz).trans hz.symm)
    have HL := Lib.hid (show f.inside + (-1) < 0 by omega)
    clear hz
    go_enter Tryz.func193, Tryz.ntmps193
    go_wp2_with fail
    refine (DoesG.use (count_no (n := f.inside) (-1) (by have := HB.out; unfold Bd; omega) HL.out HC.out.inside) (HT.out) [0] rfl rfl).mono ?_
    rintro e w1 ⟨gs, ⟨rfl, C1, hr, rfl⟩, Ta⟩
    simp only [PU] at Ta
    have HT := Lib.hid Ta
    clear Ta
    rw [← HN.out] at hr
    have HR := Lib.hid (HC.out.insideR hr)
    clear hr
    go_wp2
    go_ret
    exact ⟨_, ⟨by rw [HE.out]; rfl, _, ⟨C1, rfl, HR.out⟩, rfl⟩, HT.out⟩
  · have HE := Lib.hid (show lessE f.inside = 0 from if_neg hz)
    have HN := Lib.hid (show f.inside + (-1) = lessN f.inside from by unfold lessN; rw [if_neg hz]; omega)
    have HL := Lib.hid (show 0 ≤ lessN f.inside from by have := HB.out; unfold lessN; rw [if_neg hz]; omega)
    clear hz
    go_enter Tryz.func193, Tryz.ntmps193
    go_wp2_with fail
    refine (DoesG.use (count_yes (n := f.inside) (-1) (by have := HB.out; unfold Bd; omega) HN.out HL.out HC.out.inside) (HT.out) [0] rfl rfl).mono ?_
    rintro e w1 ⟨gs, ⟨rfl, C1, hr, rfl⟩, Ta⟩
    simp only [PU] at Ta
    have HT := Lib.hid Ta
    clear Ta
    have HR := Lib.hid (HC.out.insideR hr)
    clear hr
    go_wp2
    go_ret
    exact ⟨_, ⟨by rw [HE.out]; rfl, _, ⟨C1, rfl, HR.out⟩, rfl⟩, HT.out⟩
end Go.Proofs.YtblhfbcodbjgcaaGreat

namespace Go.Proofs.YtblhfbcodbjgcaaGreat
set_option linter.unusedVariables false
set_option linter.unusedSimpArgs false
open Go.RowKit Go.Shelf
structure TickS where
  pos : Int
  next : Int
  status : Int
  filled : Bool
def newTick : TickS := ⟨0, 0, 0, false⟩
def SlotS.zero : SlotS := ⟨0, TaskS.zero⟩
def RingS.at (r : RingS) (pos : Int) : Nat := (pos % (r.slots.length : Int)).toNat
def RingS.slot (r : RingS) (pos : Int) : SlotS := r.slots.getD (r.at pos) SlotS.zero
def lookT (r : RingS) (t : TickS) : TickS := { t with pos := r.tail, next := 1 }
def weighT (r : RingS) (t : TickS) : TickS :=
  if 2 * t.pos < (r.slot t.pos).seq then { t with next := 0 } else if (r.slot t.pos).seq < 2 * t.pos then { t with status := 1 } else { t with next := 2 }
def takeT (r : RingS) (t : TickS) : RingS × TickS :=
  if r.tail = t.pos then ({ r with tail := t.pos + 1 }, { t with next := 0, status := 2 }) else (r, { t with next := 0 })
def stepT (r : RingS) (t : TickS) : RingS × TickS :=
  if t.status ≠ 0 then (r, t) else if t.next = 0 then (r, lookT r t) else if t.next = 1 then (r, weighT r t) else takeT r t
def fillT (r : RingS) (t : TickS) (v : TaskS) : RingS × TickS × Int :=
  if t.status = 2 ∧ t.filled = false then ({ r with slots := r.slots.set (r.at t.pos) ⟨2 * t.pos + 1, v⟩ }, { t with filled := true }, 0) else (r, t, 7)
def RingS.ready (r : RingS) : Bool := (r.slot r.head).seq == 2 * r.head + 1
def popR (r : RingS) : RingS × TaskS × Int :=
  if r.ready = true then ({ r with slots := r.slots.set (r.at r.head) ⟨2 * (r.head + r.slots.length), TaskS.zero⟩, head := r.head + 1 }, (r.slot r.head).v, 0) else (r, TaskS.zero, 6)
structure RingB (r : RingS) : Prop where
  n0 : 1 ≤ r.slots.length
  n1 : r.slots.length ≤ 64
  t0 : 0 ≤ r.tail
  t1 : r.tail ≤ 1099511627776
  h0 : 0 ≤ r.head
  h1 : r.head ≤ 1099511627776
structure TickB (t : TickS) : Prop where
  p0 : 0 ≤ t.pos
  p1 : t.pos ≤ 1099511627776
  nx : t.next = 0 ∨ t.next = 1 ∨ t.next = 2
  st : t.status = 0 ∨ t.status = 1 ∨ t.status = 2
theorem stepT_b {r : RingS} {t : TickS} (hr : RingB r) (ht : TickB t) : TickB (stepT r t).2 := by
  unfold stepT lookT weighT takeT
  have h1 := hr.t0; have h2 := hr.t1
  split
  · exact ht
  · split
    · exact ⟨h1, h2, .inr (.inl rfl), ht.st⟩
    · split
      · split
        · exact ⟨ht.p0, ht.p1, .inl rfl, ht.st⟩
        · split
          · exact ⟨ht.p0, ht.p1, ht.nx, .inr (.inl rfl)⟩
          · exact ⟨ht.p0, ht.p1, .inr (.inr rfl), ht.st⟩
      · split
        · exact ⟨ht.p0, ht.p1, .inl rfl, .inr (.inr rfl)⟩
        · exact ⟨ht.p0, ht.p1, .inl rfl, ht.st⟩
def TaskS.cells (t : TaskS) : Array Value := #[.int .u64 t.id, .int .i64 t.slot, .int .u64 t.gen, .int .u64 t.dl, .int .u64 t.per]
def tickC (rb : Nat) (t : TickS) : Array Value := #[ptr' rb, .int .i64 t.pos, .int .i64 t.next, .int .i64 t.status, .bool t.filled]
def tickG (tb rb : Nat) (t : TickS) : List Blk := [cl tb 332 (tickC rb t)]
structure ringC (sb : Nat) (r : RingS) (C : Array Value) : Prop where
  size : C.size = 6
  sl : C[0]? = some (.slice (some ⟨sb, 0, none⟩) r.slots.length r.slots.length)
  tail : cellAt C 1 (.int .i64 r.tail)
  head : C[5]? = some (.int .i64 r.head)
structure slotsD (l : List SlotS) (D : Array Value) : Prop where
  size : D.size = l.length * 9
  at_ : ∀ i s, l[i]? = some s → slotAt D i s
theorem isRing.open {rb : Nat} {r : RingS} {g : List Blk} (h : isRing rb r g) : ∃ sb C D, g = [cl rb 231 C, cl sb 233 D] ∧ ringC sb r C ∧ slotsD r.slots D := by
  obtain ⟨sb, C, D, rfl, h0, h1, h2, h3, h4, h5⟩ := h
  exact ⟨sb, C, D, rfl, ⟨h0, h1, h2, h3⟩, ⟨h4, h5⟩⟩
theorem isRing.mk' {rb sb : Nat} {r : RingS} {C D : Array Value} (h : ringC sb r C) (hd : slotsD r.slots D) : isRing rb r [cl rb 231 C, cl sb 233 D] :=
  ⟨sb, C, D, rfl, h.size, h.sl, h.tail, h.head, hd.size, hd.at_⟩
theorem ringC.tailR {sb : Nat} {r : RingS} {C C' : Array Value} (h : ringC sb r C) {x : Int} (rc : Recell C 1 (.int .i64 x) C') : ringC sb { r with tail := x } C' :=
  ⟨rc.size.trans h.size, (rc.other 0 (by omega)).trans h.sl, rc.cell, (rc.other 5 (by omega)).trans h.head⟩
theorem ringC.headR {sb : Nat} {r : RingS} {C : Array Value} (h : ringC sb r C) (x : Int) : ringC sb { r with head := x } (C.setIfInBounds 5 (.int .i64 x)) := by
  obtain ⟨hs, hsl, ⟨h0, l, t, u, h1, h2, h3⟩, hh⟩ := h
  exact ⟨by simpa using hs, (get_set_ne (by omega)).trans hsl, ⟨(get_set_ne (by omega)).trans h0, l, t, u, (get_set_ne (by omega)).trans h1, (get_set_ne (by omega)).trans h2, (get_set_ne (by omega)).trans h3⟩, get_set_eq hh⟩
theorem ringC.withSlots {sb : Nat} {r : RingS} {C : Array Value} (h : ringC sb r C) {l : List SlotS} (hl : l.length = r.slots.length) : ringC sb { r with slots := l } C :=
  ⟨h.size, by have := h.sl; simpa [hl] using this, h.tail, h.head⟩
theorem slotsD.re {l : List SlotS} {D D' : Array Value} {k : Nat} {x : Int} {s : SlotS} (h : slotsD l D) (hk : l[k]? = some s) (rc : Recell D (k * 9) (.int .i64 x) D') : slotsD (l.set k { s with seq := x }) D' := by
  refine ⟨by rw [List.length_set]; exact rc.size.trans h.size, fun i s' hs => ?_⟩
  rw [List.getElem?_set] at hs
  by_cases e : k = i
  · subst e
    rw [if_pos rfl, if_pos (List.getElem?_eq_some_iff.1 hk).1] at hs
    cases hs
    obtain ⟨_, b0, b1, b2, b3, b4⟩ := h.at_ k s hk
    exact ⟨rc.cell, (rc.other _ (by omega)).trans b0, (rc.other _ (by omega)).trans b1, (rc.other _ (by omega)).trans b2, (rc.other _ (by omega)).trans b3, (rc.other _ (by omega)).trans b4⟩
  · rw [if_neg e] at hs
    obtain ⟨a, b0, b1, b2, b3, b4⟩ := h.at_ i s' hs
    exact ⟨rc.cellOther a (by omega), (rc.other _ (by omega)).trans b0, (rc.other _ (by omega)).trans b1, (rc.other _ (by omega)).trans b2, (rc.other _ (by omega)).trans b3, (rc.other _ (by omega)).trans b4⟩
theorem slotsD.same {l : List SlotS} {D D' : Array Value} {k : Nat} {s : SlotS} (h : slotsD l D) (hk : l[k]? = some s) (rc : Recell D (k * 9) (.int .i64 s.seq) D') : slotsD l D' := by
  have := h.re hk rc
  have e : l.set k { s with seq := s.seq } = l := fam_set_same hk
  exact e ▸ this
def putTask (D : Array Value) (o : Nat) (v : TaskS) : Array Value := ((((D.setIfInBounds o (.int .u64 v.id)).setIfInBounds (o + 1) (.int .i64 v.slot)).setIfInBounds (o + 2) (.int .u64 v.gen)).setIfInBounds (o + 3) (.int .u64 v.dl)).setIfInBounds (o + 4) (.int .u64 v.per)
theorem putTask_ne {D : Array Value} {o j : Nat} {v : TaskS} (h : j < o ∨ o + 5 ≤ j) : (putTask D o v)[j]? = D[j]? := by
  unfold putTask
  rw [get_set_ne (by omega), get_set_ne (by omega), get_set_ne (by omega), get_set_ne (by omega), get_set_ne (by omega)]
theorem putTask_at {D : Array Value} {o : Nat} {u v : TaskS} (h : taskAt D o u) : taskAt (putTask D o v) o v := by
  obtain ⟨b0, b1, b2, b3, b4⟩ := h
  unfold putTask
  refine ⟨?_, ?_, ?_, ?_, ?_⟩
  · rw [get_set_ne (by omega), get_set_ne (by omega), get_set_ne (by omega), get_set_ne (by omega)]; exact get_set_eq b0
  · rw [get_set_ne (by omega), get_set_ne (by omega), get_set_ne (by omega)]; exact get_set_eq (by rw [get_set_ne (by omega)]; exact b1)
  · rw [get_set_ne (by omega), get_set_ne (by omega)]; exact get_set_eq (by rw [get_set_ne (by omega), get_set_ne (by omega)]; exact b2)
  · rw [get_set_ne (by omega)]; exact get_set_eq (by rw [get_set_ne (by omega), get_set_ne (by omega), get_set_ne (by omega)]; exact b3)
  · exact get_set_eq (by rw [get_set_ne (by omega), get_set_ne (by omega), get_set_ne (by omega), get_set_ne (by omega)]; exact b4)
theorem slotsD.putV {l : List SlotS} {D : Array Value} {k : Nat} {s : SlotS} (h : slotsD l D) (hk : l[k]? = some s) (v : TaskS) : slotsD (l.set k { s with v := v }) (putTask D (k * 9 + 4) v) := by
  refine ⟨by rw [List.length_set]; unfold putTask; simpa using h.size, fun i s' hs => ?_⟩
  rw [List.getElem?_set] at hs
  by_cases e : k = i
  · subst e
    rw [if_pos rfl, if_pos (List.getElem?_eq_some_iff.1 hk).1] at hs
    cases hs
    obtain ⟨⟨a0, l, t, u, a1, a2, a3⟩, b⟩ := h.at_ k s hk
    exact ⟨⟨(putTask_ne (by omega)).trans a0, l, t, u, (putTask_ne (by omega)).trans a1, (putTask_ne (by omega)).trans a2, (putTask_ne (by omega)).trans a3⟩, putTask_at b⟩
  · rw [if_neg e] at hs
    obtain ⟨⟨a0, l, t, u, a1, a2, a3⟩, b0, b1, b2, b3, b4⟩ := h.at_ i s' hs
    exact ⟨⟨(putTask_ne (by omega)).trans a0, l, t, u, (putTask_ne (by omega)).trans a1, (putTask_ne (by omega)).trans a2, (putTask_ne (by omega)).trans a3⟩, (putTask_ne (by omega)).trans b0, (putTask_ne (by omega)).trans b1, (putTask_ne (by omega)).trans b2, (putTask_ne (by omega)).trans b3, (putTask_ne (by omega)).trans b4⟩
theorem ring_at {r : RingS} (h : 1 ≤ r.slots.length) (pos : Int) : r.slots[r.at pos]? = some (r.slot pos) ∧ r.at pos < r.slots.length ∧ ((r.at pos : Nat) : Int) = pos % (r.slots.length : Int) := by
  have x0 : 0 ≤ pos % (r.slots.length : Int) := Int.emod_nonneg _ (by omega)
  have x1 : pos % (r.slots.length : Int) < r.slots.length := Int.emod_lt_of_pos _ (by omega)
  have hl : r.at pos < r.slots.length := by unfold RingS.at; omega
  refine ⟨?_, hl, by unfold RingS.at; omega⟩
  unfold RingS.slot
  rw [List.getD_eq_getElem?_getD, List.getElem?_eq_getElem hl]; rfl
section
variable {rb sb tb : Nat} {r : RingS} {t : TickS} {C D : Array Value} {g : List Blk}
theorem ringAt_r (hc : ringC sb r C) (hr : RingB r) (pos : Int) (h0 : 0 ≤ pos) (h1 : pos ≤ 1099511627776) : ReadsG Tryz.prog 144 #[ptr' rb, .int .i64 pos] [[cl rb 231 C]] (.pointer (some ⟨sb, r.at pos * 9, none⟩)) := by
  obtain ⟨ha, hal, hav⟩ := ring_at hr.n0 pos
  obtain ⟨k, hk⟩ : ∃ k, r.at pos = k := ⟨_, rfl⟩
  have HK := Lib.hid hk
  rw [hk] at hav hal
  intro w hw
  have T0 := TG.refl hw
  have HT := Lib.hid T0
  clear hw T0
  have c0 := (HT.out.cell 0 0 rfl 0).trans hc.sl
  have hn0 := hr.n0
  generalize r.slots.length = n at *
  have hz : ((n : Int) == 0) = false := beq_eq_false_iff_ne.2 (by omega)
  have hm0 : 0 ≤ pos % (n : Int) := by omega
  have hm1 : pos % (n : Int) < n := by omega
  have hm2 : (pos % (n : Int)).toNat = k := by omega
  clear hc hr hk ha
  go_enter Tryz.func144, Tryz.ntmps144
  go_wp2
  go_quiet ((fail))
  have HT := Lib.hid (HT.out.drewN nq)
  go_wp2
  go_ret
  exact ⟨by rw [HK.out]; rfl, _, rfl⟩
theorem tickLook_g (hg : isRing rb r g) : DoesG Tryz.prog 229 #[ptr' tb] [tickG tb rb t, g] fun e gs => e = .returned (.tuple #[]) ∧ ∃ g', isRing rb r g' ∧ gs = [tickG tb rb (lookT r t), g'] := by
  obtain ⟨sb, C, D, rfl, hC, hD⟩ := hg.open
  intro w hw
  have T0 := TG.refl hw
  have HT := Lib.hid T0
  clear hw T0
  have HC := Lib.hid hC
  have HD := Lib.hid hD
  clear hC hD hg
  simp only [tickG] at HT ⊢
  have HT := Lib.hid (HT.out.eq (H' := [[cl tb 332 (tickC rb t)], [cl rb 231 C], [cl sb 233 D]]) rfl)
  have t0 := HT.out.cell 0 0 rfl 0
  simp only [tickC, List.getElem?_toArray, List.getElem?_cons_zero] at t0
  go_enter Tryz.func229, Tryz.ntmps229
  go_wp2_with fail
  refine (DoesG.use (cellG (loadI_does rb 1 _ C r.tail HC.out.tail)) (HT.out) [1] rfl rfl).mono ?_
  rintro e w1 ⟨gs, ⟨rfl, C1, hr, rfl⟩, Ta⟩
  simp only [PU] at Ta
  have t1 := Ta.cell 0 0 rfl 1
  have t2 := Ta.cell 0 0 rfl 2
  have f1 := Ta.free 0 0 rfl 1
  have f2 := Ta.free 0 0 rfl 2
  have HC1 := Lib.hid (HC.out.tailR hr)
  clear hr
  simp only [tickC, List.getElem?_toArray, List.getElem?_cons_zero, List.getElem?_cons_succ] at t1 t2
  have HT := Lib.hid Ta
  clear Ta
  go_wp2
  refine bodyPost_end (results_none rfl _ _ _) rfl ⟨_, ⟨rfl, _, isRing.mk' HC1.out HD.out, rfl⟩, (((HT.out.set 0 0 rfl 1 _).set 0 0 rfl 2 _).eq rfl)⟩
theorem tickWeigh_g (hg : isRing rb r g) (hr : RingB r) (ht : TickB t) : DoesG Tryz.prog 230 #[ptr' tb] [tickG tb rb t, g] fun e gs => e = .returned (.tuple #[]) ∧ ∃ g', isRing rb r g' ∧ gs = [tickG tb rb (weighT r t), g'] := by
  obtain ⟨sb, C, D, rfl, hC, hD⟩ := hg.open
  obtain ⟨ha, hal, hav⟩ := ring_at hr.n0 t.pos
  intro w hw
  have T0 := TG.refl hw
  have HT := Lib.hid T0
  clear hw T0
  have HC := Lib.hid hC
  have HD := Lib.hid hD
  have HA := Lib.hid (ringAt_r (rb := rb) hC hr t.pos ht.p0 ht.p1)
  simp only [tickG] at HT ⊢
  have HT := Lib.hid (HT.out.eq (H' := [[cl tb 332 (tickC rb t)], [cl rb 231 C], [cl sb 233 D]]) rfl)
  have HS := Lib.hid (hD.at_ _ _ ha).1
  have HW := Lib.hid (show weighT r t = if 2 * t.pos < (r.slot t.pos).seq then { t with next := 0 } else if (r.slot t.pos).seq < 2 * t.pos then { t with status := 1 } else { t with next := 2 } from rfl)
  have HK := Lib.hid ha
  generalize r.slot t.pos = s at *
  generalize r.at t.pos = k at *
  have p0 := ht.p0
  have p1 := ht.p1
  obtain ⟨pos, nx, st, fi⟩ := t
  simp only at HA HW p0 p1
  have t0 := HT.out.cell 0 0 rfl 0
  have t1 := HT.out.cell 0 0 rfl 1
  simp only [tickC, List.getElem?_toArray, List.getElem?_cons_zero, List.getElem?_cons_succ] at t0 t1
  clear hC hD hg ha hav ht hr
  by_cases h1 : 2 * pos < s.seq
  · have HW2 := Lib.hid (HW.out.trans (if_pos h1))
    go_enter Tryz.func230, Tryz.ntmps230
    go_upto_region 0 with fail
    refine wp_region_mix1 11 (by kernel_rfl) (by kernel_rfl) ?_
    simp only [List.take_succ_cons, List.take_zero, List.drop_succ_cons, List.drop_zero]
    repeat (go_big_quiet_step ((first | (go_at_call 144; with_reducible exact ReadsG.quiet (HA.out) HT.out _ [1] rfl rfl))))
    refine wpQuiet_nil ?_
    intro _ hw'
    obtain ⟨nq, hw''⟩ := hw'
    subst hw''
    have HT := Lib.hid (HT.out.drewN nq)
    go_wp2_with fail
    refine (DoesG.use (cellG (loadI_does sb (k * 9) _ D s.seq HS.out)) (HT.out) [2] rfl rfl).mono ?_
    rintro e w1 ⟨gs, ⟨rfl, D1, hr, rfl⟩, Ta⟩
    simp only [putG, List.set_cons_zero, List.set_cons_succ, List.cons_append, List.nil_append, List.append_nil] at Ta
    have t1 := Ta.cell 0 0 rfl 1
    have t2 := Ta.cell 0 0 rfl 2
    have f2 := Ta.free 0 0 rfl 2
    have HD1 := Lib.hid (HD.out.same HK.out hr)
    simp only [tickC, List.getElem?_toArray, List.getElem?_cons_zero, List.getElem?_cons_succ] at t1 t2
    have HT := Lib.hid Ta
    clear Ta hr
    go_wp2_with fail
    refine ⟨rfl, ?_⟩
    go_wp2
    refine bodyPost_end (results_none rfl _ _ _) rfl ⟨_, ⟨rfl, _, isRing.mk' HC.out HD1.out, rfl⟩, ((HT.out.set 0 0 rfl 2 _).eq (by rw [HW2.out]; rfl))⟩
  · by_cases h2 : s.seq < 2 * pos
    · have HW2 := Lib.hid ((HW.out.trans (if_neg h1)).trans (if_pos h2))
      go_enter Tryz.func230, Tryz.ntmps230
      go_upto_region 0 with fail
      refine wp_region_mix1 11 (by kernel_rfl) (by kernel_rfl) ?_
      simp only [List.take_succ_cons, List.take_zero, List.drop_succ_cons, List.drop_zero]
      repeat (go_big_quiet_step ((first | (go_at_call 144; with_reducible exact ReadsG.quiet (HA.out) HT.out _ [1] rfl rfl))))
      refine wpQuiet_nil ?_
      intro _ hw'
      obtain ⟨nq, hw''⟩ := hw'
      subst hw''
      have HT := Lib.hid (HT.out.drewN nq)
      go_wp2_with fail
      refine (DoesG.use (cellG (loadI_does sb (k * 9) _ D s.seq HS.out)) (HT.out) [2] rfl rfl).mono ?_
      rintro e w1 ⟨gs, ⟨rfl, D1, hr, rfl⟩, Ta⟩
      simp only [putG, List.set_cons_zero, List.set_cons_succ, List.cons_append, List.nil_append, List.append_nil] at Ta
      have t1 := Ta.cell 0 0 rfl 1
      have t2 := Ta.cell 0 0 rfl 3
      have f2 := Ta.free 0 0 rfl 3
      have HD1 := Lib.hid (HD.out.same HK.out hr)
      simp only [tickC, List.getElem?_toArray, List.getElem?_cons_zero, List.getElem?_cons_succ] at t1 t2
      have HT := Lib.hid Ta
      clear Ta hr
      go_wp2_with fail
      refine ⟨rfl, ?_⟩
      go_wp2
      refine bodyPost_end (results_none rfl _ _ _) rfl ⟨_, ⟨rfl, _, isRing.mk' HC.out HD1.out, rfl⟩, ((HT.out.set 0 0 rfl 3 _).eq (by rw [HW2.out]; rfl))⟩
    · have HW2 := Lib.hid ((HW.out.trans (if_neg h1)).trans (if_neg h2))
      go_enter Tryz.func230, Tryz.ntmps230
      go_upto_region 0 with fail
      refine wp_region_mix1 11 (by kernel_rfl) (by kernel_rfl) ?_
      simp only [List.take_succ_cons, List.take_zero, List.drop_succ_cons, List.drop_zero]
      repeat (go_big_quiet_step ((first | (go_at_call 144; with_reducible exact ReadsG.quiet (HA.out) HT.out _ [1] rfl rfl))))
      refine wpQuiet_nil ?_
      intro _ hw'
      obtain ⟨nq, hw''⟩ := hw'
      subst hw''
      have HT := Lib.hid (HT.out.drewN nq)
      go_wp2_with fail
      refine (DoesG.use (cellG (loadI_does sb (k * 9) _ D s.seq HS.out)) (HT.out) [2] rfl rfl).mono ?_
      rintro e w1 ⟨gs, ⟨rfl, D1, hr, rfl⟩, Ta⟩
      simp only [putG, List.set_cons_zero, List.set_cons_succ, List.cons_append, List.nil_append, List.append_nil] at Ta
      have t1 := Ta.cell 0 0 rfl 1
      have t2 := Ta.cell 0 0 rfl 2
      have f2 := Ta.free 0 0 rfl 2
      have HD1 := Lib.hid (HD.out.same HK.out hr)
      simp only [tickC, List.getElem?_toArray, List.getElem?_cons_zero, List.getElem?_cons_succ] at t1 t2
      have HT := Lib.hid Ta
      clear Ta hr
      go_wp2_with fail
      refine ⟨rfl, ?_⟩
      go_wp2
      refine bodyPost_end (results_none rfl _ _ _) rfl ⟨_, ⟨rfl, _, isRing.mk' HC.out HD1.out, rfl⟩, ((HT.out.set 0 0 rfl 2 _).eq (by rw [HW2.out]; rfl))⟩
theorem tickTake_g (hg : isRing rb r g) (ht : TickB t) : DoesG Tryz.prog 231 #[ptr' tb] [tickG tb rb t, g] fun e gs => e = .returned (.tuple #[]) ∧ ∃ g', isRing rb (takeT r t).1 g' ∧ gs = [tickG tb rb (takeT r t).2, g'] := by
  obtain ⟨sb, C, D, rfl, hC, hD⟩ := hg.open
  intro w hw
  have T0 := TG.refl hw
  have HT := Lib.hid T0
  clear hw T0
  have HC := Lib.hid hC
  have HD := Lib.hid hD
  simp only [tickG] at HT ⊢
  have HT := Lib.hid (HT.out.eq (H' := [[cl tb 332 (tickC rb t)], [cl rb 231 C], [cl sb 233 D]]) rfl)
  have p0 := ht.p0
  have p1 := ht.p1
  obtain ⟨pos, nx, st, fi⟩ := t
  simp only at p0 p1
  have t0 := HT.out.cell 0 0 rfl 0
  have t1 := HT.out.cell 0 0 rfl 1
  have t2 := HT.out.cell 0 0 rfl 2
  have f2 := HT.out.free 0 0 rfl 2
  simp only [tickC, List.getElem?_toArray, List.getElem?_cons_zero, List.getElem?_cons_succ] at t0 t1 t2
  clear hC hD hg ht
  by_cases h1 : r.tail = pos
  · have HW := Lib.hid (show takeT r ⟨pos, nx, st, fi⟩ = ({ r with tail := pos + 1 }, ⟨pos, 0, 2, fi⟩) from if_pos h1)
    have HSW := Lib.hid (swapI_does rb 1 231 C r.tail pos (pos + 1) HC.out.tail)
    have HB := Lib.hid (show (Value.bool (decide (r.tail = pos))) = .bool true ∧ (if r.tail = pos then pos + 1 else r.tail) = pos + 1 from ⟨by rw [decide_eq_true h1], if_pos h1⟩)
    rw [HB.out.1, HB.out.2] at HSW
    clear h1
    go_enter Tryz.func231, Tryz.ntmps231
    go_wp2_with fail
    have HT := Lib.hid (HT.out.set 0 0 rfl 2 (.int .i64 0))
    refine wp_region_mix1 15 (by kernel_rfl) (by kernel_rfl) ?_
    simp only [List.take_succ_cons, List.take_zero, List.drop_succ_cons, List.drop_zero]
    repeat (go_big_quiet_step ((fail)))
    refine wpQuiet_nil ?_
    intro _ hw'
    obtain ⟨nq, hw''⟩ := hw'
    subst hw''
    have HT := Lib.hid (HT.out.drewN nq)
    go_wp2_with fail
    refine (DoesG.use (cellG HSW.out) (HT.out) [1] rfl rfl).mono ?_
    rintro e w1 ⟨gs, ⟨rfl, C1, hr, rfl⟩, Ta⟩
    simp only [putG, List.set_cons_zero, List.set_cons_succ, List.cons_append, List.nil_append, List.append_nil] at Ta
    have HC1 := Lib.hid (HC.out.tailR hr)
    have t3 := Ta.cell 0 0 rfl 3
    have f3 := Ta.free 0 0 rfl 3
    have HT := Lib.hid Ta
    clear Ta hr
    go_wp2_with fail
    refine ⟨rfl, ?_⟩
    go_wp2
    refine bodyPost_end (results_none rfl _ _ _) rfl ⟨_, ⟨rfl, _, by rw [HW.out]; exact isRing.mk' HC1.out HD.out, rfl⟩, ((HT.out.set 0 0 rfl 3 _).eq (by rw [HW.out]; rfl))⟩
  · have HW := Lib.hid (show takeT r ⟨pos, nx, st, fi⟩ = (r, ⟨pos, 0, st, fi⟩) from if_neg h1)
    have HSW := Lib.hid (swapI_does rb 1 231 C r.tail pos (pos + 1) HC.out.tail)
    have HB := Lib.hid (show (Value.bool (decide (r.tail = pos))) = .bool false ∧ (if r.tail = pos then pos + 1 else r.tail) = r.tail from ⟨by rw [decide_eq_false h1], if_neg h1⟩)
    rw [HB.out.1, HB.out.2] at HSW
    clear h1
    go_enter Tryz.func231, Tryz.ntmps231
    go_wp2_with fail
    have HT := Lib.hid (HT.out.set 0 0 rfl 2 (.int .i64 0))
    refine wp_region_mix1 15 (by kernel_rfl) (by kernel_rfl) ?_
    simp only [List.take_succ_cons, List.take_zero, List.drop_succ_cons, List.drop_zero]
    repeat (go_big_quiet_step ((fail)))
    refine wpQuiet_nil ?_
    intro _ hw'
    obtain ⟨nq, hw''⟩ := hw'
    subst hw''
    have HT := Lib.hid (HT.out.drewN nq)
    go_wp2_with fail
    refine (DoesG.use (cellG HSW.out) (HT.out) [1] rfl rfl).mono ?_
    rintro e w1 ⟨gs, ⟨rfl, C1, hr, rfl⟩, Ta⟩
    simp only [putG, List.set_cons_zero, List.set_cons_succ, List.cons_append, List.nil_append, List.append_nil] at Ta
    have HC1 := Lib.hid (HC.out.tailR hr)
    have HT := Lib.hid Ta
    clear Ta hr
    go_wp2_with fail
    refine ⟨rfl, ?_⟩
    go_wp2
    refine bodyPost_end (results_none rfl _ _ _) rfl ⟨_, ⟨rfl, _, by rw [HW.out]; exact isRing.mk' HC1.out HD.out, rfl⟩, (HT.out.eq (by rw [HW.out]; rfl))⟩
end
end Go.Proofs.YtblhfbcodbjgcaaGreat
