import Derived.Test.YtblhfbcodbjgcaaGreatTV31
import Derived.Test.YtblhfbcodbjgcaaGreatTV23
import Derived.Test.YtblhfbcodbjgcaaGreatTV14
import Derived.Test.YtblhfbcodbjgcaaGreatTV15
import Derived.Test.YtblhfbcodbjgcaaGreatTV25
import Derived.Deep.LoopGhost
namespace Go.Proofs.YtblhfbcodbjgcaaGreat
set_option linter.unusedVariables false
set_option linter.unusedSimpArgs false
open Go.RowKit Go.Shelf
def newT (th no : Int) : TurnS := ⟨th, no, 0, false, 0, none, ⟨0, 0, 0, 0, 0⟩, 0, 0, []⟩
def firstT : ST := .at none .enter
section
variable {L : Lay} {x : CoreS} {ws : List WheelS} {p : PipeS} {g gF : List Blk} {kb : Nat} {s : ST} {n : Int} {k : TurnS}
set_option maxRecDepth 100000 in
theorem turnAnswer (hc : isTurn L kb s n k g) (hn : s.isNil = true) : DoesG Tryz.prog 28 #[ptr' kb] [g] fun en gs =>
    en = .returned (.tuple #[.agg (ansS k.err k.ok (.slice none 0 0)), .int .i64 0]) ∧ gs = [g] := by
  have hd := turnDone hc
  obtain ⟨pb, e, m, d, gst, gK, hs, ⟨gd, hl, rfl⟩, rfl⟩ := hc
  rw [hn] at hd
  intro w hw
  have T0 := TG.refl hw
  have HT := Lib.hid T0
  clear hw T0
  have HD := Lib.hid hd
  clear hd hs hl
  go_enter Tryz.func28, Tryz.ntmps28
  go_wp2_with fail
  have HT := Lib.hid (HT.out.alloc (k := w.heap.size) rfl 51 #[.int .i64 0, .bool false, .int .u64 0, .int .u64 0, .slice none 0 0])
  go_wp2_with fail
  refine (ReadsG.use (HD.out) (HT.out) [0] rfl rfl).mono ?_
  rintro e w1 ⟨rfl, mq, rfl⟩
  have HT := Lib.hid (HT.out.drewN mq)
  generalize World.drewN _ _ = wq at HT ⊢
  have HT := Lib.hid (HT.out.sum (H' := [turnB kb L.fb (ptr' pb) (sVal L k) k, Cli.progB pb m d n ++ (gst ++ (gd ++ e.1)), [cl w.heap.size 51 #[.int .i64 0, .bool false, .int .u64 0, .int .u64 0, .slice none 0 0]]]) (fun n ha h0 h1 h2 => by simp only [SU, ha, h0, h1, h2] <;> omega))
  have k3 := HT.out.cell 0 0 rfl 3
  have k4 := HT.out.cell 0 0 rfl 4
  have k5 := HT.out.cell 0 0 rfl 5
  have k6 := HT.out.cell 0 0 rfl 6
  have k7 := HT.out.cell 0 0 rfl 7
  simp only [turnC, List.getElem?_toArray, List.getElem?_cons_zero, List.getElem?_cons_succ] at k3 k4 k5 k6 k7
  have r0 := HT.out.cell 2 0 rfl 0
  have fr0 := HT.out.free 2 0 rfl 0
  have r1 := HT.out.cell 2 0 rfl 1
  have fr1 := HT.out.free 2 0 rfl 1
  have r2 := HT.out.cell 2 0 rfl 2
  have fr2 := HT.out.free 2 0 rfl 2
  have r3 := HT.out.cell 2 0 rfl 3
  have fr3 := HT.out.free 2 0 rfl 3
  have r4 := HT.out.cell 2 0 rfl 4
  have fr4 := HT.out.free 2 0 rfl 4
  simp only [List.getElem?_nil, List.getElem?_toArray, List.getElem?_cons_zero, List.getElem?_cons_succ] at r0 r1 r2 r3 r4
  have lt := HT.out.lt 0 0 rfl
  simp only [] at lt
  go_wp2
  exact bodyPost_ret (v := .tuple #[.agg (ansS k.err k.ok (.slice none 0 0)), .int .i64 0]) (by simp [results, Tryz.results28, go_sem, r0, r1, r2, r3, r4, ansS]) rfl ⟨_, ⟨rfl, rfl⟩, ((((((HT.out.set 2 0 rfl 0 _).set 2 0 rfl 1 _).set 2 0 rfl 2 _).set 2 0 rfl 3 _).set 2 0 rfl 4 _).pick [0, 1] rfl).sum (fun n ha h0 h1 h2 => by simp only [SU, ha, h0, h1, h2] <;> omega)⟩
set_option maxRecDepth 100000 in
theorem turnBegin (hx : isTF L x ws p gF) (hn : x.tr.length ≤ 1000000) (th no : Int) (hth : 0 ≤ th) : DoesG Tryz.prog 29 #[ptr' L.fb, .int .i64 th, .int .i64 no] [gF] fun en gs =>
    ∃ kb g gF', en = .returned (.tuple #[ptr' kb, .int .i64 0]) ∧ isTurn L kb firstT 0 (newT th no) g ∧ isTF L { x with tr := x.tr ++ [evT (newT th no) { ev0 with kind := 1 }] } ws p gF' ∧ gs = [g, gF'] := by
  obtain ⟨gC, gW, gP, hx, hw, hpp, rfl⟩ := hx
  have HS := Lib.hid (show ∀ kb pv, ((cliT L kb pv).on ([], [])).SV (.at none .enter) .nilFunc (.func (.func 99) #[ptr' kb] #[]) [] from fun kb pv => ⟨rfl, rfl, rfl⟩)
  have HNW := Lib.hid (show ∀ kb, _ from fun kb => Cli.prog_new_v (cliT_vals L kb (.pointer none) ([], [])) (HS.out kb (.pointer none)))
  intro w hw
  have T0 := TG.refl hw
  have HT := Lib.hid T0
  clear hw T0
  have HX := Lib.hid hx
  have HW := Lib.hid hw
  have HPP := Lib.hid hpp
  have HLN := Lib.hid hn
  clear hx hn hpp hw
  go_enter Tryz.func29, Tryz.ntmps29
  go_wp2_with fail
  refine (DoesG.use (at_g _ _ _) (HT.out.alloc (k := w.heap.size) rfl 164 (turnC L.fb (.pointer none) (.pointer none) (newT th no))) [] rfl rfl).mono ?_
  rintro e w1 ⟨gs, ⟨rfl, rfl⟩, Ta⟩
  simp only [PU] at Ta
  have HT := Lib.hid Ta
  clear Ta
  go_wp2_with fail
  refine (DoesG.use (HNW.out w.heap.size) (HT.out.sum (H' := [gC, gW ++ gP, [], [cl w.heap.size 164 (turnC L.fb (.pointer none) (.pointer none) (newT th no))]]) (fun n ha h0 h1 h2 => by simp only [SU, ha, h0, h1, h2] <;> omega)) [2] rfl rfl).mono ?_
  rintro e w1 ⟨gs, ⟨pb, rfl, rfl⟩, Ta⟩
  simp only [PU] at Ta
  have HT := Lib.hid Ta
  clear Ta
  have k8 := HT.out.cell 3 0 rfl 8
  have fk8 := HT.out.free 3 0 rfl 8
  simp only [turnC, List.getElem?_toArray, List.getElem?_cons_zero, List.getElem?_cons_succ] at k8
  have hnt := fun g (hg : isCore L x g) => turnNote (kb := w.heap.size) (pv := ptr' pb) (sv := .pointer none) (k := newT th no) hg { ev0 with kind := 1 } HLN.out
  simp only [EvS.cells, ev0] at hnt
  go_wp2_with fail
  refine (DoesG.use (hnt _ HX.out) ((HT.out.set 3 0 rfl 8 (ptr' pb)).eq (H' := [gC, gW ++ gP, [], turnB w.heap.size L.fb (ptr' pb) (.pointer none) (newT th no), Cli.progB pb .nilFunc (.func (.func 99) #[ptr' w.heap.size] #[]) 0]) rfl) [3, 0] rfl rfl).mono ?_
  rintro e w1 ⟨gs, ⟨rfl, g1, hx1, rfl⟩, Ta⟩
  simp only [PU] at Ta
  have HX := Lib.hid hx1
  clear hx1 k8 fk8
  have HT := Lib.hid Ta
  clear Ta
  go_wp2
  go_ret2
  exact ⟨_, ⟨_, _, _, rfl, ⟨pb, ([], []), _, _, [], turnB w.heap.size L.fb (ptr' pb) (.pointer none) (newT th no) ++ ([] ++ []), HS.out _ _, ⟨[], ⟨rfl, .inl ⟨rfl, rfl⟩⟩, rfl⟩, rfl⟩, ⟨g1, gW, gP, HX.out, HW.out, HPP.out, rfl⟩, rfl⟩, (HT.out.pick [4, 3, 0, 1] rfl).sum2 (fun n ha h0 h1 h2 => by simp only [SU, ha, h0, h1, h2] <;> omega)⟩
end
end Go.Proofs.YtblhfbcodbjgcaaGreat

namespace Go.Proofs.YtblhfbcodbjgcaaGreat
set_option linter.unusedVariables false
set_option linter.unusedSimpArgs false
open Go.RowKit Go.Shelf
def wheel0S : WheelS := wheel0.s
def isShardW (b : Nat) (s : ShardS) (g : List Blk) : Prop := ∃ rb lb wb gr gl gw, isRing rb s.ring gr ∧ isLock lb s.who s.turns gl ∧ isWheel wb wheel0S gw ∧ g = [cl b 220 #[ptr' rb, ptr' lb, ptr' wb]] ++ gr ++ gl ++ gw
theorem totW_0 : totW wheel0 = 0 := by decide
set_option maxRecDepth 100000 in
set_option maxHeartbeats 4000000 in
theorem shardNewW_g : MakesShard isShardW := by
  intro n h1 h2
  intro w hw
  have T0 := TG.refl hw
  have HT := Lib.hid T0
  clear hw T0
  have HWN := Lib.hid (show ∀ (b : Nat) g, isWheelA b wheel0 0 g → isWheel b wheel0S g from fun b g h => ⟨wheel0, rfl, by rw [totW_0]; exact h⟩)
  go_enter Tryz.func83, Tryz.ntmps83
  go_wp2_with fail
  refine (DoesG.use (ringNew_g n h1 h2) (HT.out) [] rfl rfl).mono ?_
  rintro e w1 ⟨gs, ⟨rb, gr, rfl, hgr, rfl⟩, Ta⟩
  simp only [PU] at Ta
  have HT := Lib.hid Ta
  clear Ta
  go_wp2_with fail
  refine (DoesG.use (lockNew_g) (HT.out) [] rfl rfl).mono ?_
  rintro e w1 ⟨gs, ⟨lb, gl, rfl, hgl, rfl⟩, Ta⟩
  simp only [PU] at Ta
  have HT := Lib.hid Ta
  clear Ta
  go_wp2_with fail
  refine (DoesG.use (wheelNew_g) (HT.out) [] rfl rfl).mono ?_
  rintro e w1 ⟨gs, ⟨wb, gw, rfl, hgw, rfl⟩, Ta⟩
  simp only [PU] at Ta
  have HT := Lib.hid Ta
  clear Ta
  go_wp2
  go_ret2
  exact ⟨_, ⟨_, _, rfl, ⟨rb, lb, wb, gr, gl, gw, hgr, hgl, HWN.out _ _ hgw, rfl⟩, rfl⟩, (HT.out.alloc (k := w1.heap.size) rfl 220 #[ptr' rb, ptr' lb, ptr' wb]).sum (fun n ha h0 h1 h2 => by simp only [SU, ha, h0, h1, h2] <;> omega)⟩
theorem shardW_open {b : Nat} {s : ShardS} {g : List Blk} (h : isShardW b s g) : ∃ (q : ShP) (g1 g2 : List Blk), q.b = b ∧ isSh q s g1 ∧ isWheel q.wb wheel0S g2 ∧ g = g1 ++ g2 := by
  obtain ⟨rb, lb, wb, gr, gl, gw, h1, h2, h3, rfl⟩ := h
  exact ⟨⟨b, rb, lb, wb⟩, _, gw, rfl, ⟨gr, gl, h1, h2, rfl⟩, h3, by simp [shardB]⟩
theorem famW_open : ∀ {l : List (Nat × ShardS)} {g : List Blk}, FamP (fun (x : Nat × ShardS) => isShardW x.1 x.2) l g → ∃ (qs : List ShP) (g1 g2 : List Blk), qs.map ShP.b = l.map Prod.fst ∧ FamP (fun (z : ShP × ShardS) => isSh z.1 z.2) (qs.zip (l.map Prod.snd)) g1 ∧
      FamP (fun (z : ShP × WheelS) => isWheel z.1.wb z.2) (qs.zip (List.replicate l.length wheel0S)) g2 ∧ g.Perm (g1 ++ g2)
  | [], _, h => by cases h; exact ⟨[], [], [], rfl, rfl, rfl, List.Perm.refl _⟩
  | a :: l, _, h => by
    obtain ⟨u, v, hu, hv, rfl⟩ := h
    obtain ⟨q, ga, gb, hq, hs, hw, rfl⟩ := shardW_open hu
    obtain ⟨qs, g1, g2, h1, h2, h3, h4⟩ := famW_open hv
    refine ⟨q :: qs, ga ++ g1, gb ++ g2, by simp [hq, h1], ⟨ga, g1, hs, h2, rfl⟩, ⟨gb, g2, hw, h3, rfl⟩, ?_⟩
    refine (List.Perm.append_left _ h4).trans ?_
    classical
    refine List.perm_iff_count.2 fun a => ?_
    simp only [List.count_append]
    omega
def fires (l : List FireS) : List Value := flatV (l.map fun f => f.vals.toArray)
def isLog (lb : Nat) (l : List FireS) (g : List Blk) : Prop := ∃ v gr, rowG 69 4 v l.length (fires l) gr ∧ g = [cl lb 214 #[v]] ++ gr
structure ZF where
  x : CoreS
  ws : List WheelS
  p : PipeS
  lg : List FireS
def isZ (L : Lay) (z : ZF) (g : List Blk) : Prop := ∃ gT gL, isTF L z.x z.ws z.p gT ∧ isLog L.p.lb z.lg gL ∧ g = gT ++ gL
def zf0 (c : Cfg) : ZF := ⟨core0 c, List.replicate c.sh.toNat wheel0S, newPipe c.room.toNat, []⟩
theorem pipe_emptyN {n pb : Nat} {g : List Blk} (h : emptyPipeN n pb g) : isPipe pb (newPipe n) g := by
  obtain ⟨cb, lb, hb, rfl⟩ := h
  exact ⟨cb, lb, hb, 0, 0, [], _, ⟨(by intro a h; cases h), rfl⟩, rfl, by simp [noList, nodesB, nxV, lsV, pipeB, newPipe]⟩
theorem newFull (c : Cfg) (hk : c.ok = true) : DoesG Tryz.prog 16 #[.agg c.cells] [] fun e gs =>
    ∃ L g, e = .returned (.tuple #[ptr' L.fb, .int .i64 0]) ∧ isZ L (zf0 c) g ∧ gs = [g] := by
  refine (floorNew_gP shardNewW_g c hk).post ?_
  rintro e gs ⟨fb, p, shs, gF, gS, gR, gH, gP, gL, he, ha, hlen, hall, rfl⟩
  obtain ⟨qs, g1, g2, h1, h2, h3, h4⟩ := famW_open ha.shards
  have hn : shs.length = c.sh.toNat := by omega
  have hsn : shs.map Prod.snd = List.replicate c.sh.toNat (newShard c.ring.toNat) := by
    rw [List.eq_replicate_iff]
    refine ⟨by simp; omega, fun b hb => ?_⟩
    obtain ⟨a, ha', rfl⟩ := List.mem_map.1 hb
    exact hall a ha'
  have hq : qs.length = c.sh.toNat := by
    have := congrArg List.length h1
    simp only [List.length_map] at this
    omega
  refine ⟨[gF ++ (gS ++ (gR ++ (g1 ++ []))) ++ (g2 ++ gP) ++ gL], ⟨⟨fb, p, qs⟩, _, he, ⟨gF ++ (gS ++ (gR ++ (g1 ++ []))) ++ (g2 ++ gP), gL, ⟨_, g2, gP, ⟨_, gF, gS, gR, g1, [], ha.floor, ha.slab, ?_, ?_, ?_, trG_nil, rfl⟩, ⟨?_, ?_⟩, pipe_emptyN ha.pipeN, rfl⟩, ⟨.slice none 0 0, [], rowG_nil _ _, ?_⟩, rfl⟩, rfl⟩, ?_⟩
  · show rowG _ 1 p.sh (qs.map ShP.b).length ((qs.map ShP.b).map fun b => ptr' b) gR
    have := ha.row
    rw [h1, List.length_map, List.map_map]
    exact this
  · show qs.length = (List.replicate _ _).length
    rw [List.length_replicate]; exact hq
  · show FamP _ (qs.zip (List.replicate _ _)) g1
    rw [← hsn]; exact h2
  · show (List.replicate _ _).length = qs.length
    rw [List.length_replicate]; exact hq.symm
  · show FamP _ (qs.zip (List.replicate _ _)) g2
    rw [← hn]; exact h3
  · rw [ha.log]; simp
  · classical
    refine List.perm_iff_count.2 fun a => ?_
    have := (List.perm_iff_count.1 h4) a
    simp only [List.flatten_cons, List.flatten_nil, List.append_nil, List.count_append] at this ⊢
    omega
end Go.Proofs.YtblhfbcodbjgcaaGreat

namespace Go.Proofs.YtblhfbcodbjgcaaGreat
set_option linter.unusedVariables false
set_option linter.unusedSimpArgs false
open Go.RowKit Go.Shelf
def WEnt (P : EntS → Prop) (w : WheelS) : Prop := (∀ l ∈ w.lv, ∀ s ∈ l, ∀ e ∈ s, P e) ∧ ∀ e ∈ w.by_, P e
section
variable {P : EntS → Prop} {w : WheelS}
theorem mem_modify {α : Type} {f : α → α} {b : α} : ∀ {l : List α} {k : Nat}, b ∈ l.modify k f → b ∈ l ∨ ∃ a ∈ l, b = f a := by
  intro l k hb
  obtain ⟨i, hi⟩ := List.getElem?_of_mem hb
  rw [List.getElem?_modify] at hi
  cases ha : l[i]? with
  | none => rw [ha] at hi; simp at hi
  | some a =>
    rw [ha] at hi
    have hm := List.mem_of_getElem? ha
    by_cases hk : k = i
    · simp [hk] at hi; exact .inr ⟨a, hm, hi.symm⟩
    · simp [hk] at hi; exact .inl (hi ▸ hm)
theorem WEnt.place (h : WEnt P w) {e : EntS} (he : P e) : WEnt P (w.place e) := by
  unfold WheelS.place
  split
  · refine ⟨h.1, fun x hx => ?_⟩
    rcases List.mem_append.1 hx with hx | hx
    · exact h.2 x hx
    · rw [List.mem_singleton.1 hx]; exact he
  · refine ⟨fun l hl s hs x hx => ?_, h.2⟩
    rcases mem_modify hl with hl | ⟨l0, hl0, rfl⟩
    · exact h.1 l hl s hs x hx
    · rcases mem_modify hs with hs | ⟨s0, hs0, rfl⟩
      · exact h.1 l0 hl0 s hs x hx
      · rcases List.mem_append.1 hx with hx | hx
        · exact h.1 l0 hl0 s0 hs0 x hx
        · rw [List.mem_singleton.1 hx]; exact he
theorem WEnt.placeL : ∀ (l : List EntS) {w : WheelS}, WEnt P w → (∀ e ∈ l, P e) → WEnt P (w.placeL l)
  | [], _, h, _ => h
  | a :: l, w, h, hl => by
    show WEnt P ((w.place a).placeL l)
    exact WEnt.placeL l (h.place (hl a List.mem_cons_self)) fun e he => hl e (List.mem_cons_of_mem _ he)
theorem WEnt.slot (h : WEnt P w) (l k : Nat) : ∀ e ∈ w.slot l k, P e := by
  intro e he
  unfold WheelS.slot at he
  rw [List.getD_eq_getElem?_getD] at he
  cases h1 : (w.lv.getD l [])[k]? with
  | none => rw [h1] at he; cases he
  | some s =>
    rw [h1] at he
    have hs := List.mem_of_getElem? h1
    rw [List.getD_eq_getElem?_getD] at hs
    cases h2 : w.lv[l]? with
    | none => rw [h2] at hs; cases hs
    | some x => rw [h2] at hs; exact h.1 x (List.mem_of_getElem? h2) s hs e he
theorem WEnt.clear (h : WEnt P w) (l k : Nat) : WEnt P (w.clear l k) := by
  refine ⟨fun x hx s hs e he => ?_, h.2⟩
  rcases mem_modify hx with hx | ⟨l0, hl0, rfl⟩
  · exact h.1 x hx s hs e he
  · rcases List.mem_or_eq_of_mem_set hs with hs | rfl
    · exact h.1 l0 hl0 s hs e he
    · cases he
theorem WEnt.again (h : WEnt P w) (l : Nat) : WEnt P (w.again l) := WEnt.placeL _ (h.clear _ _) (h.slot _ _)
theorem WEnt.down : ∀ (n : Nat) {w : WheelS}, WEnt P w → WEnt P (w.down n)
  | 0, _, h => h
  | n + 1, _, h => WEnt.down n (h.again _)
theorem WEnt.adv (h : WEnt P w) : WEnt P w.adv.1 ∧ ∀ e ∈ w.adv.2, P e := by
  have h1 := WEnt.down (min (zerosT (w.now + 1)) 3) (show WEnt P { w with now := w.now + 1 } from h)
  exact ⟨h1.clear _ _, h1.slot _ _⟩
end
structure WheelN (N : Nat) (S : WheelS) : Prop where
  sh : S.Sh
  now : S.now ≤ N
  tot : totS S ≤ N
  ent : WEnt (fun e => TaskOk e.v) S
theorem WheelN.ok {N : Nat} {S : WheelS} (h : WheelN N S) (hN : N < 1000000) : WheelOk S := ⟨h.sh, by have := h.now; omega, by have := h.tot; omega⟩
theorem WheelN.mono {N M : Nat} {S : WheelS} (h : WheelN N S) (hm : N ≤ M) : WheelN M S := ⟨h.sh, by have := h.now; omega, by have := h.tot; omega, h.ent⟩
structure RestN (N : Nat) (x : CoreS) (ws : List WheelS) (p : PipeS) : Prop where
  now : 0 ≤ x.f.now ∧ x.f.now ≤ N
  busy : 0 ≤ x.f.busy ∧ x.f.busy ≤ N
  cap : x.f.cfg.cap = x.slab.recs.length
  wl : ws.length = x.shs.length
  wok : ∀ w ∈ ws, WheelN N w
  task : ∀ s ∈ x.shs, ∀ e ∈ s.ring.slots, TaskOk e.v
  turns : ∀ s ∈ x.shs, 0 ≤ s.turns ∧ s.turns ≤ N
  ch : p.ch.length ≤ p.room
  sp : p.sp.length ≤ N
structure ZN (N : Nat) (z : ZF) : Prop where
  core : CoreN N z.x
  rest : RestN N z.x z.ws z.p
  lg : z.lg.length ≤ N
theorem RestN.mono {N M : Nat} {x : CoreS} {ws : List WheelS} {p : PipeS} (h : RestN N x ws p) (hm : N ≤ M) : RestN M x ws p :=
  ⟨by have := h.now; omega, by have := h.busy; omega, h.cap, h.wl, fun w hw => (h.wok w hw).mono hm, h.task, fun s hs => by have := h.turns s hs; omega, h.ch, by have := h.sp; omega⟩
theorem ZN.mono {N M : Nat} {z : ZF} (h : ZN N z) (hm : N ≤ M) : ZN M z := ⟨h.core.mono hm, h.rest.mono hm, by have := h.lg; omega⟩
end Go.Proofs.YtblhfbcodbjgcaaGreat

namespace Go.Proofs.YtblhfbcodbjgcaaGreat
set_option linter.unusedVariables false
set_option linter.unusedSimpArgs false
open Go.RowKit Go.Shelf
set_option maxRecDepth 100000 in
theorem turnBegin_none (th no : Int) : DoesG Tryz.prog 29 #[.pointer none, .int .i64 th, .int .i64 no] [] fun e gs => e = .returned (.tuple #[.pointer none, .int .i64 6]) ∧ gs = [] := by
  intro w hw
  have T0 := TG.refl hw
  have HT := Lib.hid T0
  clear hw T0
  go_enter Tryz.func29, Tryz.ntmps29
  go_wp2
  go_ret2
  exact ⟨_, ⟨rfl, rfl⟩, HT.out⟩
set_option maxRecDepth 100000 in
theorem turnBegin_bad {L : Lay} (th no : Int) (h : th < 0) : DoesG Tryz.prog 29 #[ptr' L.fb, .int .i64 th, .int .i64 no] [] fun e gs => e = .returned (.tuple #[.pointer none, .int .i64 1]) ∧ gs = [] := by
  intro w hw
  have T0 := TG.refl hw
  have HT := Lib.hid T0
  clear hw T0
  go_enter Tryz.func29, Tryz.ntmps29
  go_wp2
  go_ret2
  exact ⟨_, ⟨rfl, rfl⟩, HT.out⟩
theorem turnMay_nil : ReadsG Tryz.prog 30 #[.pointer none] [] (.bool false) := by
  intro w hw
  clear hw
  go_enter Tryz.func30, Tryz.ntmps30
  go_wp2
  go_ret
  exact ⟨rfl, 0, rfl⟩
theorem turnStep_nil : ReadsG Tryz.prog 31 #[.pointer none] [] (.bool false) := by
  intro w hw
  clear hw
  go_enter Tryz.func31, Tryz.ntmps31
  go_wp2
  go_ret
  exact ⟨rfl, 0, rfl⟩
theorem turnDone_nil : ReadsG Tryz.prog 32 #[.pointer none] [] (.bool true) := by
  intro w hw
  clear hw
  go_enter Tryz.func32, Tryz.ntmps32
  go_wp2
  go_ret
  exact ⟨rfl, 0, rfl⟩
set_option maxRecDepth 100000 in
theorem turnAnswer_nil : DoesG Tryz.prog 28 #[.pointer none] [] fun e gs => e = .returned (.tuple #[.agg (ansS 0 false (.slice none 0 0)), .int .i64 6]) ∧ gs = [] := by
  intro w hw
  have T0 := TG.refl hw
  have HT := Lib.hid T0
  clear hw T0
  go_enter Tryz.func28, Tryz.ntmps28
  go_wp2
  exact bodyPost_ret (v := .tuple #[.agg (ansS 0 false (.slice none 0 0)), .int .i64 6]) (by simp [results, Tryz.results28, go_sem, ansS]) rfl ⟨_, ⟨rfl, rfl⟩, HT.out.alloc0 _⟩
end Go.Proofs.YtblhfbcodbjgcaaGreat

namespace Go.Proofs.YtblhfbcodbjgcaaGreat
set_option linter.unusedVariables false
set_option linter.unusedSimpArgs false
open Go.RowKit Go.Shelf
def TaskG (t : TaskS) : Prop := TaskOk t ∧ 0 ≤ t.slot
structure TurnN (N : Nat) (k : TurnS) (x : CoreS) : Prop where
  th : 0 ≤ k.th
  saw : 0 ≤ k.saw ∧ k.saw < 18446744073709551616 ∧ okW k.saw = true
  t : TaskOk k.t
  dl : k.due.length ≤ N
  due : ∀ t ∈ k.due, TaskG t
  sh : ∀ i, k.s = some i → i < x.shs.length
def WSlot (ws : List WheelS) : Prop := ∀ w ∈ ws, WEnt (fun e => 0 ≤ e.v.slot) w
structure TB (N : Nat) (z : ZT) : Prop where
  core : CoreN N z.x
  rest : RestN N z.x z.ws z.p
  k : TurnN N z.k z.x
  ws : WSlot z.ws
  sh4 : z.x.shs.length ≤ 4
def FitG (s : ST) (k : TurnS) : Prop := match s with
  | .at none .looks => 0 ≤ k.t.slot
  | .at none .claims => 0 ≤ k.t.slot
  | .thn (.row1 (.put _)) .claims2 => 0 ≤ k.t.slot
  | .at none .behind => 0 ≤ k.t.slot
  | .at none (.rearm1 next) => 0 ≤ k.t.slot ∧ 0 ≤ next ∧ next < 18446744073709551616 ∧ k.t.gen ≤ 4294967295
  | .at none .finishes => 0 ≤ k.t.slot
  | .row2 .rel .drop => 0 ≤ k.t.slot
  | .row1 .drop => 0 ≤ k.t.slot
  | _ => False
def FitP (s : ST) (k : TurnS) (i : Nat) : Prop := match s with
  | .at (some (.ready j)) (.pops1 n) => j = i ∧ 0 ≤ n ∧ n ≤ 1000000
  | .thn (.at none .rec1) (.pops11 n) => 0 ≤ k.t.slot ∧ 0 ≤ n ∧ n ≤ 1000000
  | .thn (.at none .rec11) (.pops11 n) => 0 ≤ k.t.slot ∧ 0 ≤ n ∧ n ≤ 1000000
  | _ => False
def Own (k : TurnS) (x : CoreS) : Prop := (x.shs.getD (k.s.getD 0) (newShard 1)).who = k.th + 1
def FitX (s : ST) (k : TurnS) (x : CoreS) (i : Nat) : Prop := match s with
  | .at (some .lock) (.one2 d) => CurK d k
  | .at none (.one21 d) => CurK d k ∧ Own k x
  | .thn (.row1 (.turnA d)) (.one2112 e) => CurK d k ∧ e = d ∧ Own k x
  | .thn P (.one211 d) => CurK d k ∧ Own k x ∧ FitP P k i
  | .thn (.thn G (.fires1 d n)) .one21121 => CurK d k ∧ Own k x ∧ n ≤ 1000000 ∧ n < k.due.length ∧ FitG G k
  | .row1 .unlock => Own k x
  | _ => False
where CurK (d : Nat) (k : TurnS) : Prop := k.nd = d + 1
def FitT (s : ST) (k : TurnS) (x : CoreS) : Prop := match s with
  | .nil => True
  | .at none .enter => x.f.closed = true ∨ k.th ≤ 1000000
  | .at none .gate => x.f.closed = true ∨ k.th ≤ 1000000
  | .at none .tick => k.th ≤ 1000000
  | .row2 .leave1 .answer => True
  | .row1 .answer => True
  | .thn X (.shards1 i) => k.s = some i ∧ i < x.shs.length ∧ k.th ≤ 1000000 ∧ FitX X k x i
  | _ => False
structure JT (N : Nat) (s : ST) (z : ZT) : Prop where
  b : TB N z
  fit : FitT s z.k z.x
theorem TurnN.mono {N M : Nat} {k : TurnS} {x : CoreS} (h : TurnN N k x) (hm : N ≤ M) : TurnN M k x := ⟨h.th, h.saw, h.t, by have := h.dl; omega, h.due, h.sh⟩
theorem TB.mono {N M : Nat} {z : ZT} (h : TB N z) (hm : N ≤ M) : TB M z := ⟨h.core.mono hm, h.rest.mono hm, h.k.mono hm, h.ws, h.sh4⟩
section
variable {N : Nat} {z : ZT}
theorem TB.ok (h : TB N z) (hN : N < 1000000) : TurnOk z :=
  ⟨h.core.ok (by omega), h.k.th, by have := h.rest.now; omega, h.k.saw, h.k.t, by have := h.k.dl; omega, h.rest.wl, fun w hw => (h.rest.wok w hw).ok hN, h.k.sh, fun s hs => by have := h.rest.turns s hs; omega, ⟨h.rest.ch, by have := h.rest.sp; omega⟩⟩
theorem TB.onK (h : TB N z) {k : TurnS} (hk : TurnN N k z.x) : TB N { z with k := k } := ⟨h.core, h.rest, hk, h.ws, h.sh4⟩
theorem TB.note (h : TB N z) (E : EvS) : TB (N + 1) (z.note E) := by
  have h1 := h.rest.mono (M := N + 1) (by omega)
  have h2 := h.k.mono (M := N + 1) (by omega)
  exact ⟨noteN h.core _, ⟨h1.now, h1.busy, h1.cap, h1.wl, h1.wok, h1.task, h1.turns, h1.ch, h1.sp⟩, ⟨h2.th, h2.saw, h2.t, h2.dl, h2.due, h2.sh⟩, h.ws, h.sh4⟩
theorem TB.slab (h : TB N z) {s : SlabS} (hs : SlabOk s) (hl : s.recs.length = z.x.slab.recs.length) : TB N { z with x := { z.x with slab := s } } := by
  have h1 := h.rest
  exact ⟨core_slab h.core hs, ⟨h1.now, h1.busy, by show z.x.f.cfg.cap = (s.recs.length : Int); rw [hl]; exact h1.cap, h1.wl, h1.wok, h1.task, h1.turns, h1.ch, h1.sp⟩, ⟨h.k.th, h.k.saw, h.k.t, h.k.dl, h.k.due, h.k.sh⟩, h.ws, h.sh4⟩
theorem TB.look (h : TB N z) (st : Int) : TB N (lookTu st z).1 := h.onK ⟨h.k.th, word_bd h.core.slab _, h.k.t, h.k.dl, h.k.due, h.k.sh⟩
theorem TB.try (h : TB N z) (ev : Int) : TB N (tryTu ev z).1 := by
  obtain ⟨a, b⟩ := try_ok h.core.slab z.k.t.slot z.k.saw ev
  exact h.slab a b
theorem shS_mem (h : TB N z) {i : Nat} (hi : z.k.s = some i) : z.shS ∈ z.x.shs ∧ z.sh = i := by
  have hlt := h.k.sh i hi
  have e : z.sh = i := by unfold ZT.sh; rw [hi]; rfl
  refine ⟨?_, e⟩
  unfold ZT.shS
  rw [e, List.getD_eq_getElem?_getD, List.getElem?_eq_getElem hlt]
  exact List.getElem_mem hlt
theorem wh_mem (h : TB N z) {i : Nat} (hi : z.k.s = some i) : z.wh ∈ z.ws := by
  have hlt := h.k.sh i hi
  have e : z.sh = i := by unfold ZT.sh; rw [hi]; rfl
  have hw : i < z.ws.length := by rw [h.rest.wl]; exact hlt
  unfold ZT.wh
  rw [e, List.getD_eq_getElem?_getD, List.getElem?_eq_getElem hw]
  exact List.getElem_mem hw
theorem TB.onSh (h : TB N z) {s : ShardS} (h1 : RingN (N + 1) s.ring) (h2 : ∀ e ∈ s.ring.slots, TaskOk e.v) (h3 : 0 ≤ s.turns ∧ s.turns ≤ N + 1) : TB (N + 1) (z.onSh s) := by
  have hr := h.rest.mono (M := N + 1) (by omega)
  have hk := h.k.mono (M := N + 1) (by omega)
  have hc := h.core.mono (M := N + 1) (by omega)
  refine ⟨⟨hc.slab, hc.i0, hc.i1, hc.tr, by show 1 ≤ (z.x.shs.set z.sh s).length; rw [List.length_set]; exact hc.sh, ring_set hc.ring h1⟩, ⟨hr.now, hr.busy, hr.cap, by show z.ws.length = (z.x.shs.set z.sh s).length; rw [List.length_set]; exact hr.wl, hr.wok, fun a ha => ?_, fun a ha => ?_, hr.ch, hr.sp⟩,
    ⟨hk.th, hk.saw, hk.t, hk.dl, hk.due, fun i hi => by show i < (z.x.shs.set z.sh s).length; rw [List.length_set]; exact hk.sh i hi⟩, h.ws, by show (z.x.shs.set z.sh s).length ≤ 4; rw [List.length_set]; exact h.sh4⟩
  · rcases List.mem_or_eq_of_mem_set ha with ha | rfl
    · exact hr.task a ha
    · exact h2
  · rcases List.mem_or_eq_of_mem_set ha with ha | rfl
    · exact hr.turns a ha
    · exact_mod_cast h3
theorem TB.onWh (h : TB N z) {w : WheelS} (h1 : WheelN (N + 1) w) (h2 : WEnt (fun e => 0 ≤ e.v.slot) w) : TB (N + 1) { z with ws := z.ws.set z.sh w } := by
  have hr := h.rest.mono (M := N + 1) (by omega)
  refine ⟨h.core.mono (M := N + 1) (by omega), ⟨hr.now, hr.busy, hr.cap, by show (z.ws.set z.sh w).length = _; rw [List.length_set]; exact hr.wl, fun a ha => ?_, hr.task, hr.turns, hr.ch, hr.sp⟩, h.k.mono (M := N + 1) (by omega), fun a ha => ?_, h.sh4⟩
  · rcases List.mem_or_eq_of_mem_set ha with ha | rfl
    · exact hr.wok a ha
    · exact h1
  · rcases List.mem_or_eq_of_mem_set ha with ha | rfl
    · exact h.ws a ha
    · exact h2
theorem armD_lt {w : WheelS} {t : TaskS} (ht : TaskOk t) (hn : w.now < 1000000) : (armD w t : Int) < 18446744073709551616 := by
  have := ht.dl
  unfold armD; omega
theorem arm_n (h : TB N z) (hN : N < 1000000) {i : Nat} (hi : z.k.s = some i) (hs : 0 ≤ z.k.t.slot) : TB (N + 1) { z with ws := z.ws.set z.sh (z.wh.place (armE z.wh z.k.t)) } := by
  have hm := wh_mem h hi
  have hw := h.rest.wok _ hm
  have hd := armD_lt (w := z.wh) h.k.t (by have := hw.now; omega)
  refine h.onWh ⟨WheelS.place_sh hw.sh _, ?_, ?_, hw.ent.place ⟨h.k.t.id, h.k.t.gen, ⟨Int.natCast_nonneg _, hd⟩, h.k.t.per⟩⟩ ((h.ws _ hm).place hs)
  · have e : (z.wh.place (armE z.wh z.k.t)).now = z.wh.now := WheelS.placeL_now [armE z.wh z.k.t] z.wh
    rw [e]; have := hw.now; omega
  · rw [totS_place hw.sh]; have := hw.tot; omega
theorem popR_n {N : Int} {r : RingS} (h : RingN N r) : RingN (N + 1) (popR r).1 := by
  unfold popR
  split
  · exact ⟨by simp only [List.length_set]; exact h.n0, by simp only [List.length_set]; exact h.n1, h.t0, by have := h.t1; simp only; omega, by have := h.h0; simp only; omega, by have := h.h1; simp only; omega⟩
  · exact h.mono (by omega)
theorem taskZ : TaskOk TaskS.zero := ⟨by decide, by decide, by decide, by decide⟩
theorem popR_t {r : RingS} (h : ∀ e ∈ r.slots, TaskOk e.v) : (∀ e ∈ (popR r).1.slots, TaskOk e.v) ∧ TaskOk (popR r).2.1 := by
  have hz := taskZ
  have hs : TaskOk (r.slot r.head).v := by
    unfold RingS.slot
    rw [List.getD_eq_getElem?_getD]
    cases h1 : r.slots[r.at r.head]? with
    | none => exact hz
    | some e => exact h e (List.mem_of_getElem? h1)
  unfold popR
  split
  · refine ⟨fun e he => ?_, hs⟩
    rcases List.mem_or_eq_of_mem_set he with he | rfl
    · exact h e he
    · exact hz
  · exact ⟨h, hz⟩
end
end Go.Proofs.YtblhfbcodbjgcaaGreat

namespace Go.Proofs.YtblhfbcodbjgcaaGreat
set_option linter.unusedVariables false
set_option linter.unusedSimpArgs false
open Go.RowKit Go.Shelf
structure SameT (z z' : ZT) : Prop where
  s : z'.k.s = z.k.s
  nd : z'.k.nd = z.k.nd
  th : z'.k.th = z.k.th
  due : z'.k.due = z.k.due
  who : ∀ j, (z'.x.shs.getD j (newShard 1)).who = (z.x.shs.getD j (newShard 1)).who
  len : z'.x.shs.length = z.x.shs.length
theorem SameT.refl (z : ZT) : SameT z z := ⟨rfl, rfl, rfl, rfl, fun _ => rfl, rfl⟩
theorem SameT.own {z z' : ZT} (h : SameT z z') (ho : Own z.k z.x) : Own z'.k z'.x := by
  unfold Own at ho ⊢
  rw [h.s, h.th, h.who]; exact ho
theorem getD_set {α : Type} (l : List α) (i j : Nat) (a d : α) (hi : i < l.length) : (l.set i a).getD j d = if i = j then a else l.getD j d := by
  rw [List.getD_eq_getElem?_getD, List.getElem?_set, List.getD_eq_getElem?_getD]
  by_cases h : i = j
  · subst h; simp [hi]
  · simp [h]
section
variable {N : Nat} {z : ZT} {i : Nat}
theorem SameT.onSh {z' : ZT} (h : SameT z z') (s : ShardS) (hs : s.who = z'.shS.who) (hi : z'.k.s = some i) (hlt : i < z'.x.shs.length) : SameT z (z'.onSh s) := by
  refine ⟨h.s, h.nd, h.th, h.due, fun j => ?_, by show (z'.x.shs.set z'.sh s).length = _; rw [List.length_set]; exact h.len⟩
  have e : z'.sh = i := by unfold ZT.sh; rw [hi]; rfl
  show ((z'.x.shs.set z'.sh s).getD j (newShard 1)).who = _
  rw [getD_set _ _ _ _ _ (by rw [e]; exact hlt), ← h.who]
  split
  · next hj => rw [hs, ← hj]; rfl
  · rfl
theorem TB.noteL (h : TB N z) (ht : z.x.tr.length + 1 ≤ N) (E : EvS) : TB N (z.note E) := by
  have hc := h.core
  have h1 := h.rest
  exact ⟨⟨hc.slab, hc.i0, hc.i1, by show (z.x.tr ++ [_]).length ≤ _; rw [List.length_append]; exact ht, hc.sh, hc.ring⟩, ⟨h1.now, h1.busy, h1.cap, h1.wl, h1.wok, h1.task, h1.turns, h1.ch, h1.sp⟩, ⟨h.k.th, h.k.saw, h.k.t, h.k.dl, h.k.due, h.k.sh⟩, h.ws, h.sh4⟩
theorem armT_n (h : TB N z) (hN : N < 1000000) (hi : z.k.s = some i) (hs : 0 ≤ z.k.t.slot) : TB (N + 1) (armT z) :=
  (arm_n h hN hi hs).noteL (by have := h.core.tr; show z.x.tr.length + 1 ≤ N + 1; omega) _
theorem put_n (h : TB N z) (f : FireS) : TB (N + 1) { z with p := (z.p.put f).1 } := by
  have h0 := h.mono (M := N + 1) (by omega)
  have h1 := h0.rest
  have h2 := h.rest
  refine ⟨h0.core, ⟨h1.now, h1.busy, h1.cap, h1.wl, h1.wok, h1.task, h1.turns, ?_, ?_⟩, h0.k, h0.ws, h0.sh4⟩
  · unfold PipeS.put
    split
    · exact h1.ch
    · split
      · next hh => simp only [List.length_append, List.length_cons, List.length_nil]; omega
      · exact h1.ch
  · unfold PipeS.put
    split
    · exact h1.sp
    · split
      · exact h1.sp
      · simp only [List.length_append, List.length_cons, List.length_nil]; have := h2.sp; omega
theorem gen_bd {w : Int} (hk : okW w = true) : genW w ≤ 4294967295 := by
  unfold genW
  rw [if_pos hk]
  simp only [okW, Bool.and_eq_true, decide_eq_true_eq] at hk
  omega
abbrev runX (s : ST) (z : ZT) : ST × ZT := St.run runT runAT s z
abbrev preX (s : ST) (z : ZT) : Prop := St.pre runT runAT preT preAT s z
structure OutG (N : Nat) (z : ZT) (F : ST → TurnS → Prop) (r : ST × ZT) : Prop where
  b : TB (N + 1) r.2
  same : SameT z r.2
  fit : r.1 = .nil ∨ F r.1 r.2.k
theorem stepG (h : TB N z) (hN : N < 999999) (hi : z.k.s = some i) {G : ST} (hf : FitG G z.k) : preX G z ∧ OutG N z FitG (runX G z) := by
  have ho := h.ok (by omega)
  have h1 := h.mono (M := N + 1) (by omega)
  match G, hf with
  | .at none .looks, hf =>
    refine ⟨⟨ho, trivial⟩, ?_⟩
    show OutG N z FitG (if (lookTu 3 z).2 = true then (.at none .claims, (lookTu 3 z).1) else (.nil, (lookTu 3 z).1))
    split
    · exact ⟨h1.look 3, ⟨rfl, rfl, rfl, rfl, fun _ => rfl, rfl⟩, .inr hf⟩
    · exact ⟨h1.look 3, ⟨rfl, rfl, rfl, rfl, fun _ => rfl, rfl⟩, .inl rfl⟩
  | .at none .claims, hf =>
    refine ⟨⟨ho, trivial⟩, ?_⟩
    show OutG N z FitG (if (tryTu 4 z).2 = true then _ else _)
    split
    · exact ⟨(h.try 4).note _, ⟨rfl, rfl, rfl, rfl, fun _ => rfl, rfl⟩, .inr hf⟩
    · exact ⟨h1.try 4, ⟨rfl, rfl, rfl, rfl, fun _ => rfl, rfl⟩, .inr hf⟩
  | .thn (.row1 (.put f)) .claims2, hf =>
    have hp := put_n h f
    exact ⟨⟨⟨ho, trivial⟩, fun _ => ⟨hp.ok (by omega), trivial⟩⟩, ⟨hp, ⟨rfl, rfl, rfl, rfl, fun _ => rfl, rfl⟩, .inr hf⟩⟩
  | .at none .behind, hf =>
    refine ⟨⟨ho, trivial⟩, ?_⟩
    have hw := word_bd h.core.slab z.k.t.slot
    have hb : TB (N + 1) { z with k := { z.k with saw := z.x.slab.word z.k.t.slot } } := h1.onK ⟨h1.k.th, hw, h1.k.t, h1.k.dl, h1.k.due, h1.k.sh⟩
    have hd := h.k.t.dl
    have hpr := h.k.t.per
    show OutG N z FitG (if stW (z.x.slab.word z.k.t.slot) ≠ 4 ∨ genW (z.x.slab.word z.k.t.slot) ≠ z.k.t.gen then _ else if _ then _ else _)
    split
    · exact ⟨hb, ⟨rfl, rfl, rfl, rfl, fun _ => rfl, rfl⟩, .inl rfl⟩
    · next hg =>
      split
      · next hc =>
        have hgb := gen_bd hw.2.2
        have e : genW (z.x.slab.word z.k.t.slot) = z.k.t.gen := Decidable.byContradiction fun h => hg (.inr h)
        exact ⟨hb, ⟨rfl, rfl, rfl, rfl, fun _ => rfl, rfl⟩, .inr ⟨hf, by omega, hc.2.2, by show z.k.t.gen ≤ _; omega⟩⟩
      · exact ⟨hb, ⟨rfl, rfl, rfl, rfl, fun _ => rfl, rfl⟩, .inr hf⟩
  | .at none (.rearm1 next), hf =>
    obtain ⟨hs, hn0, hn1, hg⟩ := hf
    refine ⟨⟨ho, ⟨i, hi⟩, hs, hn0, hn1⟩, ?_⟩
    show OutG N z FitG (if (tryTu 5 z).2 = true then _ else _)
    split
    · have ht := h.try 5
      have hb : TB N { (tryTu 5 z).1 with k := { z.k with t := { z.k.t with gen := z.k.t.gen + 1, dl := next } } } :=
        ht.onK ⟨h.k.th, h.k.saw, ⟨h.k.t.id, by have := h.k.t.gen; show 0 ≤ z.k.t.gen + 1 ∧ z.k.t.gen + 1 ≤ _; omega, ⟨hn0, hn1⟩, h.k.t.per⟩, h.k.dl, h.k.due, h.k.sh⟩
      exact ⟨armT_n hb (by omega) hi hs, ⟨rfl, rfl, rfl, rfl, fun _ => rfl, rfl⟩, .inl rfl⟩
    · exact ⟨h1.try 5, ⟨rfl, rfl, rfl, rfl, fun _ => rfl, rfl⟩, .inr hs⟩
  | .at none .finishes, hf =>
    refine ⟨⟨ho, trivial⟩, ?_⟩
    show OutG N z FitG (if (tryTu 9 z).2 = true then (_, if _ then _ else _) else _)
    split
    · split
      · exact ⟨(h.try 9).note _, ⟨rfl, rfl, rfl, rfl, fun _ => rfl, rfl⟩, .inr hf⟩
      · exact ⟨h1.try 9, ⟨rfl, rfl, rfl, rfl, fun _ => rfl, rfl⟩, .inr hf⟩
    · exact ⟨h1.try 9, ⟨rfl, rfl, rfl, rfl, fun _ => rfl, rfl⟩, .inr hf⟩
  | .row2 .rel .drop, hf =>
    obtain ⟨a, b⟩ := try_ok h1.core.slab z.k.t.slot (z.x.slab.word z.k.t.slot) 10
    exact ⟨⟨ho, trivial⟩, ⟨h1.slab a b, ⟨rfl, rfl, rfl, rfl, fun _ => rfl, rfl⟩, .inr hf⟩⟩
  | .row1 .drop, hf =>
    obtain ⟨a, b⟩ := drop_ok h1.core.slab
    exact ⟨⟨ho, trivial⟩, ⟨h1.slab a b, ⟨rfl, rfl, rfl, rfl, fun _ => rfl, rfl⟩, .inl rfl⟩⟩
theorem popsT_fit (hi : z.k.s = some i) {n : Int} (hn : n ≤ 1000000) (k : TurnS) : popsT n z = .nil ∨ FitP (popsT n z) k i := by
  have e : z.sh = i := by unfold ZT.sh; rw [hi]; rfl
  unfold popsT
  split
  · exact .inl rfl
  · exact .inr ⟨e, by omega, hn⟩
def popZ (z : ZT) : ZT := { (z.onSh { z.shS with ring := (popR z.shS.ring).1 }) with k := { z.k with t := (popR z.shS.ring).2.1 } }
theorem popZ_n (h : TB N z) (hi : z.k.s = some i) : TB (N + 1) (popZ z) ∧ SameT z (popZ z) := by
  obtain ⟨hm, he⟩ := shS_mem h hi
  have hr := h.core.ring _ hm
  obtain ⟨t1, t2⟩ := popR_t (h.rest.task _ hm)
  have hb := h.onSh (s := { z.shS with ring := (popR z.shS.ring).1 }) (popR_n hr) t1 (by have := h.rest.turns _ hm; show 0 ≤ z.shS.turns ∧ z.shS.turns ≤ _; omega)
  exact ⟨hb.onK ⟨hb.k.th, hb.k.saw, t2, hb.k.dl, hb.k.due, hb.k.sh⟩, (by
    have hs := (SameT.refl z).onSh { z.shS with ring := (popR z.shS.ring).1 } rfl hi (h.k.sh i hi)
    exact ⟨hs.s, hs.nd, hs.th, hs.due, hs.who, hs.len⟩)⟩
theorem stepP (h : TB N z) (hN : N < 999999) (hi : z.k.s = some i) {P : ST} (hf : FitP P z.k i) : preX P z ∧ OutG N z (fun s k => FitP s k i) (runX P z) := by
  have ho := h.ok (by omega)
  have h1 := h.mono (M := N + 1) (by omega)
  match P, hf with
  | .at (some (.ready j)) (.pops1 n), hf =>
    obtain ⟨hb, hs⟩ := popZ_n h hi
    obtain ⟨rfl, hn0, hn1⟩ := hf
    have e2 : (runT (.pops1 n) z).2 = popZ z := by dsimp only [runT, popZ]; split <;> rfl
    refine ⟨⟨ho, ⟨j, hi⟩, hn0, hn1, by rw [e2]; exact hb.ok (by omega)⟩, ?_⟩
    show OutG N z _ (if (popZ z).k.t.slot < 0 then (popsT (n - 1) (popZ z), popZ z) else (.thn (.at none .rec1) (.pops11 n), popZ z))
    split
    · exact ⟨hb, hs, popsT_fit (z := popZ z) hi (by omega) _⟩
    · next hh => exact ⟨hb, hs, .inr ⟨by show 0 ≤ (popZ z).k.t.slot; omega, hn0, hn1⟩⟩
  | .thn (.at none .rec1) (.pops11 n), hf =>
    obtain ⟨hs, hn0, hn1⟩ := hf
    have hl := h1.look 2
    refine ⟨⟨⟨ho, trivial⟩, fun _ => ⟨?_, ?_, hn0, hn1⟩⟩, ?_⟩
    · show TurnOk (if (lookTu 2 z).2 = true then (.at none .rec11, (lookTu 2 z).1) else (.nil, (lookTu 2 z).1) : ST × ZT).2
      split <;> exact hl.ok (by omega)
    · show HasSh (if (lookTu 2 z).2 = true then (.at none .rec11, (lookTu 2 z).1) else (.nil, (lookTu 2 z).1) : ST × ZT).2
      split <;> exact ⟨i, hi⟩
    · show OutG N z _ (thenSt runT (if (lookTu 2 z).2 = true then (.at none .rec11, (lookTu 2 z).1) else (.nil, (lookTu 2 z).1) : ST × ZT).1 (.pops11 n) (if (lookTu 2 z).2 = true then (.at none .rec11, (lookTu 2 z).1) else (.nil, (lookTu 2 z).1) : ST × ZT).2)
      split
      · exact ⟨hl, ⟨rfl, rfl, rfl, rfl, fun _ => rfl, rfl⟩, .inr ⟨hs, hn0, hn1⟩⟩
      · exact ⟨hl, ⟨rfl, rfl, rfl, rfl, fun _ => rfl, rfl⟩, popsT_fit (z := (lookTu 2 z).1) hi (by omega) _⟩
  | .thn (.at none .rec11) (.pops11 n), hf =>
    obtain ⟨hs, hn0, hn1⟩ := hf
    have ht := h.try 3
    have ha := armT_n ht (by omega) hi hs
    have h2 := h1.try 3
    have er : receivesT (tryTu 3 z).1 = .at none .rec1 := if_neg (by show ¬ z.k.t.slot < 0; omega)
    refine ⟨⟨⟨ho, ⟨i, hi⟩, hs⟩, fun _ => ⟨?_, ?_, hn0, hn1⟩⟩, ?_⟩
    · show TurnOk (if (tryTu 3 z).2 = true then (.nil, armT (tryTu 3 z).1) else (receivesT (tryTu 3 z).1, (tryTu 3 z).1) : ST × ZT).2
      split
      · exact ha.ok (by omega)
      · exact h2.ok (by omega)
    · show HasSh (if (tryTu 3 z).2 = true then (.nil, armT (tryTu 3 z).1) else (receivesT (tryTu 3 z).1, (tryTu 3 z).1) : ST × ZT).2
      split <;> exact ⟨i, hi⟩
    · show OutG N z _ (thenSt runT (if (tryTu 3 z).2 = true then (.nil, armT (tryTu 3 z).1) else (receivesT (tryTu 3 z).1, (tryTu 3 z).1) : ST × ZT).1 (.pops11 n) (if (tryTu 3 z).2 = true then (.nil, armT (tryTu 3 z).1) else (receivesT (tryTu 3 z).1, (tryTu 3 z).1) : ST × ZT).2)
      split
      · exact ⟨ha, ⟨rfl, rfl, rfl, rfl, fun _ => rfl, rfl⟩, popsT_fit (z := armT (tryTu 3 z).1) hi (by omega) _⟩
      · rw [er]
        exact ⟨h2, ⟨rfl, rfl, rfl, rfl, fun _ => rfl, rfl⟩, .inr ⟨hs, hn0, hn1⟩⟩
structure OutX (N : Nat) (z : ZT) (i : Nat) (r : ST × ZT) : Prop where
  b : TB (N + 1) r.2
  s : r.2.k.s = some i
  len : r.2.x.shs.length = z.x.shs.length
  th : r.2.k.th = z.k.th
  fit : r.1 = .nil ∨ FitX r.1 r.2.k r.2.x i
theorem OutG.x {r : ST × ZT} {F : ST → TurnS → Prop} (hi : z.k.s = some i) (o : OutG N z F r) {s' : ST} (hf : FitX s' r.2.k r.2.x i) : OutX N z i (s', r.2) := ⟨o.b, o.same.s.trans hi, o.same.len, o.same.th, .inr hf⟩
theorem one211_x {z' : ZT} (hb : TB (N + 1) z') (hs : z'.k.s = some i) (hl : z'.x.shs.length = z.x.shs.length) (ht : z'.k.th = z.k.th) {d : Nat} (hc : FitX.CurK d z'.k) (ho : Own z'.k z'.x) : OutX N z i (one211T d z') :=
  ⟨hb, hs, hl, ht, .inr ⟨hc, rfl, ho⟩⟩
theorem fires_x {z' : ZT} (hb : TB (N + 1) z') (hN : N < 999999) (hs : z'.k.s = some i) (hl : z'.x.shs.length = z.x.shs.length) (hth : z'.k.th = z.k.th) {d n : Nat} (hc : FitX.CurK d z'.k) (ho : Own z'.k z'.x) (hn : n ≤ z'.k.due.length) :
    ((firesT d n z').1 = .nil ∧ (firesT d n z').2 = z') ∨ ∃ t, z'.k.due[n]? = some t ∧ firesT d n z' = (.thn (.at none .looks) (.fires1 d n), { z' with k := { z'.k with t := t } }) ∧ OutX N z i (.thn (firesT d n z').1 .one21121, (firesT d n z').2) := by
  unfold firesT
  cases ht : z'.k.due[n]? with
  | none => exact .inl ⟨rfl, rfl⟩
  | some t =>
    have hlt := (List.getElem?_eq_some_iff.1 ht).1
    have htg := hb.k.due t (List.mem_of_getElem? ht)
    exact .inr ⟨t, rfl, rfl, hb.onK ⟨hb.k.th, hb.k.saw, htg.1, hb.k.dl, hb.k.due, hb.k.sh⟩, hs, hl, hth, .inr ⟨hc, ho, by have := hb.k.dl; omega, hlt, htg.2⟩⟩
theorem isNil_of {P : ST} {k : TurnS} {i : Nat} (h : FitP P k i) : P.isNil = false := by
  cases P <;> first | rfl | exact h.elim
theorem isNil_ofG {G : ST} {k : TurnS} (h : FitG G k) : G.isNil = false := by
  cases G <;> first | rfl | exact h.elim
theorem isNil_nil {α β γ : Type} {s : St α β γ} (h : s.isNil = true) : s = .nil := by cases s <;> first | rfl | cases h
theorem thenSt_not {M A Y α : Type} {runM : M → α → St M A Y × α} {s : St M A Y} (h : s.isNil = false) (m : M) (x : α) : thenSt runM s m x = (.thn s m, x) := by
  cases s <;> first | rfl | cases h
theorem FitX_pop {P : ST} {d : Nat} {k : TurnS} {x : CoreS} {i : Nat} (hc : FitX.CurK d k) (ho : Own k x) (h : FitP P k i) : FitX (.thn P (.one211 d)) k x i := by
  match P, h with
  | .at (some (.ready j)) (.pops1 n), h => exact ⟨hc, ho, h⟩
  | .thn (.at none .rec1) (.pops11 n), h => exact ⟨hc, ho, h⟩
  | .thn (.at none .rec11) (.pops11 n), h => exact ⟨hc, ho, h⟩
theorem popX (h : TB N z) (hN : N < 999999) (hi : z.k.s = some i) {d : Nat} (hc : FitX.CurK d z.k) (ho : Own z.k z.x) {P : ST} (q1 : preX P z) (q2 : OutG N z (fun s k => FitP s k i) (runX P z)) :
    preX (.thn P (.one211 d)) z ∧ OutX N z i (runX (.thn P (.one211 d)) z) := by
  refine ⟨⟨q1, fun _ => ⟨q2.b.ok (by omega), ⟨i, q2.same.s.trans hi⟩, q2.same.nd.trans hc⟩⟩, ?_⟩
  show OutX N z i (thenSt runT (runX P z).1 (.one211 d) (runX P z).2)
  rcases q2.fit with hn | hf
  · rw [hn]
    exact one211_x q2.b (q2.same.s.trans hi) q2.same.len q2.same.th (q2.same.nd.trans hc) (q2.same.own ho)
  · rw [thenSt_not (isNil_of hf)]
    exact ⟨q2.b, q2.same.s.trans hi, q2.same.len, q2.same.th, .inr (FitX_pop (q2.same.nd.trans hc) (q2.same.own ho) hf)⟩
theorem firesX (h : TB N z) (hN : N < 999999) (hi : z.k.s = some i) {d n : Nat} (hc : FitX.CurK d z.k) (ho : Own z.k z.x) (hn : n ≤ 1000000) (hnd : n < z.k.due.length) {G : ST} (q1 : preX G z) (q2 : OutG N z FitG (runX G z)) :
    preX (.thn (.thn G (.fires1 d n)) .one21121) z ∧ OutX N z i (runX (.thn (.thn G (.fires1 d n)) .one21121) z) := by
  have hs := q2.same.s.trans hi
  have hcc : FitX.CurK d (runX G z).2.k := q2.same.nd.trans hc
  have hoo := q2.same.own ho
  have hle : n + 1 ≤ (runX G z).2.k.due.length := by rw [q2.same.due]; omega
  have hp1 : (runX G z).1.isNil = true → preT (.fires1 d n) (runX G z).2 := fun _ => ⟨q2.b.ok (by omega), ⟨i, hs⟩, hcc, hn⟩
  have e0 : runX (.thn G (.fires1 d n)) z = thenSt runT (runX G z).1 (.fires1 d n) (runX G z).2 := rfl
  have e1 : runX (.thn (.thn G (.fires1 d n)) .one21121) z = thenSt runT (runX (.thn G (.fires1 d n)) z).1 .one21121 (runX (.thn G (.fires1 d n)) z).2 := rfl
  refine ⟨⟨⟨q1, hp1⟩, ?_⟩, ?_⟩
  · show (runX (.thn G (.fires1 d n)) z).1.isNil = true → preT .one21121 (runX (.thn G (.fires1 d n)) z).2
    rw [e0]
    rcases q2.fit with hnil | hf
    · rw [hnil]
      show (firesT d (n + 1) (runX G z).2).1.isNil = true → preT .one21121 (firesT d (n + 1) (runX G z).2).2
      rcases fires_x q2.b hN hs q2.same.len q2.same.th hcc hoo hle with ⟨h1, h2⟩ | ⟨t, h1, h2, h3⟩
      · rw [h2]; exact fun _ => ⟨q2.b.ok (by omega), i, hs⟩
      · rw [h2]; intro hh; cases hh
    · rw [thenSt_not (isNil_ofG hf)]; intro hh; cases hh
  · rw [e1, e0]
    rcases q2.fit with hnil | hf
    · rw [hnil]
      show OutX N z i (thenSt runT (firesT d (n + 1) (runX G z).2).1 .one21121 (firesT d (n + 1) (runX G z).2).2)
      rcases fires_x q2.b hN hs q2.same.len q2.same.th hcc hoo hle with ⟨h1, h2⟩ | ⟨t, h1, h2, h3⟩
      · rw [h1, h2]
        exact ⟨q2.b, hs, q2.same.len, q2.same.th, .inr hoo⟩
      · rw [h2] at h3 ⊢; exact h3
    · rw [thenSt_not (isNil_ofG hf)]
      exact ⟨q2.b, hs, q2.same.len, q2.same.th, .inr ⟨hcc, hoo, hn, by show n < (runX G z).2.k.due.length; omega, hf⟩⟩
set_option maxHeartbeats 1000000 in
theorem stepX (h : TB N z) (hN : N < 999999) (hth : z.k.th ≤ 1000000) (hi : z.k.s = some i) {X : ST} (hf : FitX X z.k z.x i) (hm : X.may mayT z = true) : preX X z ∧ OutX N z i (runX X z) := by
  have hok := h.ok (by omega)
  have h1 := h.mono (M := N + 1) (by omega)
  have hsh : HasSh z := ⟨i, hi⟩
  obtain ⟨hmem, hshe⟩ := shS_mem h hi
  match X, hf with
  | .at (some .lock) (.one2 d), hf =>
    have hmay : mayT .lock z = true := hm
    have hw : z.shS.who = 0 := by
      simp only [mayT, Bool.and_eq_true, beq_iff_eq] at hmay
      exact hmay.2
    refine ⟨⟨hok, hsh, hf, hth⟩, ?_⟩
    have ht := h.rest.turns _ hmem
    have hb := h.onSh (s := { z.shS with who := tryW z.shS.who z.k.th, turns := tryN z.shS.who z.shS.turns }) ((h.core.ring _ hmem).mono (by omega)) (h.rest.task z.shS hmem)
      (by show 0 ≤ tryN z.shS.who z.shS.turns ∧ tryN z.shS.who z.shS.turns ≤ _; unfold tryN; split <;> omega)
    refine ⟨hb, hi, by show (z.x.shs.set z.sh _).length = _; rw [List.length_set], rfl, .inr ⟨hf, ?_⟩⟩
    show ((z.x.shs.set z.sh { z.shS with who := tryW z.shS.who z.k.th, turns := tryN z.shS.who z.shS.turns }).getD (z.k.s.getD 0) (newShard 1)).who = z.k.th + 1
    have e : z.k.s.getD 0 = i := by rw [hi]; rfl
    rw [e, hshe, getD_set _ _ _ _ _ (h.k.sh i hi), if_pos rfl]
    show tryW z.shS.who z.k.th = _
    unfold tryW
    rw [if_pos hw]
  | .at none (.one21 d), hf =>
    obtain ⟨hc, ho⟩ := hf
    refine ⟨⟨hok, hsh, hc⟩, ?_⟩
    show OutX N z i (if z.shS.ring.tail - z.shS.ring.head ≤ 0 then one211T d z else (.thn (popsT (z.shS.ring.tail - z.shS.ring.head) z) (.one211 d), z))
    split
    · exact one211_x h1 hi rfl rfl hc ho
    · next hgt =>
      have hr := h.core.ring _ hmem
      have hn : z.shS.ring.tail - z.shS.ring.head ≤ 1000000 := by have := hr.t1; have := hr.h0; omega
      rcases popsT_fit hi hn z.k with hp | hp
      · exfalso
        unfold popsT at hp
        rw [if_neg hgt] at hp
        cases hp
      · have e : popsT (z.shS.ring.tail - z.shS.ring.head) z = .at (some (.ready z.sh)) (.pops1 (z.shS.ring.tail - z.shS.ring.head)) := if_neg hgt
        rw [e] at hp ⊢
        exact ⟨h1, hi, rfl, rfl, .inr ⟨hc, ho, hp⟩⟩
  | .thn (.row1 (.turnA d)) (.one2112 e), hf =>
    obtain ⟨hc, he, ho⟩ := hf
    obtain rfl : d = e := he.symm
    have hwm := wh_mem h hi
    have hw := h.rest.wok _ hwm
    obtain ⟨a1, a2, a3⟩ := adv_facts hw.sh
    obtain ⟨e1, e2⟩ := hw.ent.adv
    obtain ⟨f1, f2⟩ := (h.ws _ hwm).adv
    have hb0 := h.onWh (w := z.wh.adv.1) ⟨a1, by have := hw.now; omega, by have := hw.tot; omega, e1⟩ f1
    have hb : TB (N + 1) (runAT (.turnA d) z) := hb0.onK ⟨hb0.k.th, hb0.k.saw, hb0.k.t, by
      have := hw.tot; show (z.wh.adv.2.map EntS.v).length ≤ _; rw [List.length_map]; omega, fun t ht => by
        obtain ⟨en, hen, rfl⟩ := List.mem_map.1 ht
        exact ⟨e2 en hen, f2 en hen⟩, hb0.k.sh⟩
    refine ⟨⟨⟨hok, hsh, hc⟩, fun _ => ⟨hb.ok (by omega), ⟨i, hi⟩, hc⟩⟩, ?_⟩
    show OutX N z i (runT (.one2112 d) (runAT (.turnA d) z))
    generalize hz' : runAT (.turnA d) z = z' at hb
    have es : z'.k.s = some i := by rw [← hz']; exact hi
    have el : z'.x.shs.length = z.x.shs.length := by rw [← hz']; rfl
    have et : z'.k.th = z.k.th := by rw [← hz']; rfl
    have ec : FitX.CurK d z'.k := by rw [← hz']; exact hc
    have eo : Own z'.k z'.x := by rw [← hz']; exact ho
    show OutX N z i (match z'.k.due[0]? with | none => (.row1 .unlock, z') | some _ => (.thn (firesT d 0 z').1 .one21121, (firesT d 0 z').2))
    rcases fires_x hb hN es el et ec eo (Nat.zero_le _) with ⟨_, h2⟩ | ⟨t, h1, h2, h3⟩
    · cases hd : z'.k.due[0]? with
      | none => exact ⟨hb, es, el, et, .inr eo⟩
      | some t =>
        exfalso
        rename_i h0
        unfold firesT at h0
        rw [hd] at h0
        cases h0
    · rw [h1]; exact h3
  | .thn (.at (some (.ready j)) (.pops1 n)) (.one211 d), hf =>
    obtain ⟨hc, ho, hp⟩ := hf
    obtain ⟨q1, q2⟩ := stepP h hN hi hp
    exact popX h hN hi hc ho q1 q2
  | .thn (.thn (.at none .rec1) (.pops11 n)) (.one211 d), hf =>
    obtain ⟨hc, ho, hp⟩ := hf
    obtain ⟨q1, q2⟩ := stepP h hN hi hp
    exact popX h hN hi hc ho q1 q2
  | .thn (.thn (.at none .rec11) (.pops11 n)) (.one211 d), hf =>
    obtain ⟨hc, ho, hp⟩ := hf
    obtain ⟨q1, q2⟩ := stepP h hN hi hp
    exact popX h hN hi hc ho q1 q2
  | .thn (.thn G (.fires1 d n)) .one21121, hf =>
    obtain ⟨hc, ho, hn, hnd, hg⟩ := hf
    obtain ⟨q1, q2⟩ := stepG h hN hi hg
    exact firesX h hN hi hc ho hn hnd q1 q2
  | .row1 .unlock, ho =>
    have ht := h.rest.turns _ hmem
    have hb := h.onSh (s := { z.shS with who := 0 }) ((h.core.ring _ hmem).mono (by omega)) (h.rest.task z.shS hmem) (by show 0 ≤ z.shS.turns ∧ z.shS.turns ≤ _; omega)
    exact ⟨⟨hok, hsh, ho, hth⟩, ⟨hb, hi, by show (z.x.shs.set z.sh _).length = _; rw [List.length_set], rfl, .inl rfl⟩⟩
theorem shardsT_n {M : Nat} {z : ZT} (h : TB M z) (hth : z.k.th ≤ 1000000) (j : Nat) : JT M (shardsT j z).1 (shardsT j z).2 := by
  unfold shardsT
  split
  · next hj => exact ⟨h.onK ⟨h.k.th, h.k.saw, h.k.t, Nat.zero_le _, (fun t ht => by cases ht), fun i hi => by cases hi; exact hj⟩, rfl, hj, hth, rfl⟩
  · exact ⟨h.onK ⟨h.k.th, h.k.saw, h.k.t, h.k.dl, h.k.due, h.k.sh⟩, trivial⟩
theorem refuseT_n (h : TB N z) (e : Int) : JT (N + 1) (refuseT e z).1 (refuseT e z).2 := by
  have h1 := h.note { ev0 with kind := 9, err := e }
  exact ⟨h1.onK ⟨h1.k.th, h1.k.saw, h1.k.t, h1.k.dl, h1.k.due, h1.k.sh⟩, trivial⟩
theorem isNil_ofX {X : ST} {k : TurnS} {x : CoreS} {i : Nat} (h : FitX X k x i) : X.isNil = false := by
  cases X <;> first | rfl | exact h.elim
theorem JT.pre {s : ST} (h : JT N s z) (hN : N < 999999) (hm : maySt s z = true) : preST s z := by
  obtain ⟨hb, hf⟩ := h
  have ho := hb.ok (by omega)
  match s, hf with
  | .nil, _ => trivial
  | .at none .enter, _ => exact ⟨ho, trivial⟩
  | .at none .gate, _ => exact ⟨ho, trivial⟩
  | .at none .tick, _ => exact ⟨ho, trivial⟩
  | .row2 .leave1 .answer, _ => exact ⟨ho, trivial⟩
  | .row1 .answer, _ => exact ⟨ho, trivial⟩
  | .thn X (.shards1 i), hf =>
    obtain ⟨hi, hlt, hth, hx⟩ := hf
    obtain ⟨q1, q2⟩ := stepX hb hN hth hi hx hm
    exact ⟨q1, fun _ => ⟨q2.b.ok (by omega), by have := hb.sh4; show i ≤ 64; omega⟩⟩
set_option maxHeartbeats 4000000 in
theorem JT.preY {s : ST} (h : JT N s z) (hN : N < 999999) : preYS' s z := by
  obtain ⟨hb, hf⟩ := h
  have ho := hb.ok (by omega)
  match s, hf with
  | .nil, _ => trivial
  | .at none .enter, _ => trivial
  | .at none .gate, _ => trivial
  | .at none .tick, _ => trivial
  | .row2 .leave1 .answer, _ => trivial
  | .row1 .answer, _ => trivial
  | .thn X (.shards1 i), hf =>
    obtain ⟨hi, hlt, hth, hx⟩ := hf
    match X, hx with
    | .at (some .lock) (.one2 d), _ => exact ⟨ho, i, hi⟩
    | .at none (.one21 d), _ => trivial
    | .thn (.row1 (.turnA d)) (.one2112 e), _ => trivial
    | .thn (.at (some (.ready j)) (.pops1 n)) (.one211 d), hx => exact ⟨ho, by rw [hx.2.2.1]; exact hlt⟩
    | .thn (.thn (.at none .rec1) (.pops11 n)) (.one211 d), _ => trivial
    | .thn (.thn (.at none .rec11) (.pops11 n)) (.one211 d), _ => trivial
    | .thn (.thn G (.fires1 d n)) .one21121, hx =>
      obtain ⟨_, _, _, _, hg⟩ := hx
      match G, hg with
      | .at none .looks, _ => trivial
      | .at none .claims, _ => trivial
      | .thn (.row1 (.put f)) .claims2, _ => trivial
      | .at none .behind, _ => trivial
      | .at none (.rearm1 next), _ => trivial
      | .at none .finishes, _ => trivial
      | .row2 .rel .drop, _ => trivial
      | .row1 .drop, _ => trivial
    | .row1 .unlock, _ => trivial
set_option maxHeartbeats 4000000 in
theorem JT.step {s : ST} (h : JT N s z) (hN : N < 999999) (hm : maySt s z = true) : JT (N + 1) (stepTu s z).1 (stepTu s z).2 := by
  obtain ⟨hb, hf⟩ := h
  have h1 := hb.mono (M := N + 1) (by omega)
  match s, hf with
  | .nil, _ => exact ⟨h1, trivial⟩
  | .at none .enter, hf =>
    have hc := hb.core
    have hr := h1.rest
    exact ⟨⟨⟨hc.slab, by have := hc.i0; show 0 ≤ z.x.f.inside + 1; omega, by have := hc.i1; show z.x.f.inside + 1 ≤ _; omega, h1.core.tr, hc.sh, h1.core.ring⟩, ⟨hr.now, hr.busy, hr.cap, hr.wl, hr.wok, hr.task, hr.turns, hr.ch, hr.sp⟩, ⟨h1.k.th, h1.k.saw, h1.k.t, h1.k.dl, h1.k.due, h1.k.sh⟩, h1.ws, h1.sh4⟩, hf⟩
  | .at none .gate, hf =>
    show JT (N + 1) (if z.x.f.closed = true then refuseT 3 z else (.at none .tick, z)).1 (if z.x.f.closed = true then refuseT 3 z else (.at none .tick, z)).2
    split
    · exact refuseT_n hb 3
    · next hcl => exact ⟨h1, hf.resolve_left hcl⟩
  | .at none .tick, hf =>
    have hr := h1.rest
    have hn := hb.rest.now
    have hb2 : TB (N + 1) ({ z with x := { z.x with f := { z.x.f with now := z.x.f.now + 1 } }, k := { z.k with now := z.x.f.now + 1 } } : ZT) :=
      ⟨⟨h1.core.slab, h1.core.i0, h1.core.i1, h1.core.tr, h1.core.sh, h1.core.ring⟩, ⟨by show 0 ≤ z.x.f.now + 1 ∧ z.x.f.now + 1 ≤ _; omega, hr.busy, hr.cap, hr.wl, hr.wok, hr.task, hr.turns, hr.ch, hr.sp⟩, ⟨h1.k.th, h1.k.saw, h1.k.t, h1.k.dl, h1.k.due, h1.k.sh⟩, h1.ws, h1.sh4⟩
    exact shardsT_n (hb2.noteL (by have := hb.core.tr; show z.x.tr.length + 1 ≤ _; omega) _) hf 0
  | .row2 .leave1 .answer, _ =>
    have hc := hb.core
    have hr := h1.rest
    have hl : 0 ≤ lessN z.x.f.inside ∧ lessN z.x.f.inside ≤ N := by have := hc.i0; have := hc.i1; unfold lessN; split <;> omega
    exact ⟨⟨⟨hc.slab, hl.1, by have := hl.2; show lessN z.x.f.inside ≤ _; omega, h1.core.tr, hc.sh, h1.core.ring⟩, ⟨hr.now, hr.busy, hr.cap, hr.wl, hr.wok, hr.task, hr.turns, hr.ch, hr.sp⟩, ⟨h1.k.th, h1.k.saw, h1.k.t, h1.k.dl, h1.k.due, h1.k.sh⟩, h1.ws, h1.sh4⟩, trivial⟩
  | .row1 .answer, _ => exact ⟨hb.note _, trivial⟩
  | .thn X (.shards1 i), hf =>
    obtain ⟨hi, hlt, hth, hx⟩ := hf
    obtain ⟨q1, q2⟩ := stepX hb hN hth hi hx hm
    show JT (N + 1) (thenSt runT (runX X z).1 (.shards1 i) (runX X z).2).1 (thenSt runT (runX X z).1 (.shards1 i) (runX X z).2).2
    rcases q2.fit with hn | hfx
    · rw [hn]
      exact shardsT_n q2.b (by rw [q2.th]; exact hth) (i + 1)
    · rw [thenSt_not (isNil_ofX hfx)]
      exact ⟨q2.b, q2.s, by rw [q2.len]; exact hlt, by rw [q2.th]; exact hth, hfx⟩
end
end Go.Proofs.YtblhfbcodbjgcaaGreat

namespace Go.Proofs.YtblhfbcodbjgcaaGreat
set_option linter.unusedVariables false
set_option linter.unusedSimpArgs false
open Go.RowKit Go.Shelf
attribute [local go_sem] Oper.semAt_some
def itNodes (l : List Nd) (g : List Blk) (O : GH) : ItS where
  σ := Nat
  O _ O' := O' = O
  T _ H := ∃ i, H.getD i [] = g ∧ i < H.length
  step k x G k' := (∃ nd, l[k]? = some nd ∧ x = #[ptr' nd.b]) ∧ G = [] ∧ k' = k + 1
  fin k := k = l.length
theorem nodesB_at (T : TypeId) (hb : Nat) (q : Value) : ∀ (l : List Nd) (p : Value) (k : Nat) (nd : Nd), l[k]? = some nd →
    ∃ p', (nodesB T hb p q l)[k]? = some (cl nd.b T (nd.v ++ [p', nxV q (l.drop (k + 1)), ptr' hb]).toArray)
  | [], _, k, nd, h => by cases h
  | a :: l, p, 0, nd, h => by
    cases h
    exact ⟨p, rfl⟩
  | a :: l, p, k + 1, nd, h => by
    obtain ⟨p', h'⟩ := nodesB_at T hb q l (ptr' a.b) k nd h
    exact ⟨p', h'⟩
theorem nxV_drop (l : List Nd) (k : Nat) (nd : Nd) (h : l[k]? = some nd) (q : Value) : nxV q (l.drop k) = ptr' nd.b := by
  obtain ⟨h1, h2⟩ := List.getElem?_eq_some_iff.1 h
  rw [List.drop_eq_getElem_cons h1, h2]
  rfl
theorem node_cell {h H : GH} {w w' : World} (T : TG h w H w') {lb hb : Nat} {l : List Nd} {g : List Blk} (hg : isListF lb hb l g) (i : Nat) (hi : H.getD i [] = g) {k : Nat} {nd : Nd} (hk : l[k]? = some nd) :
    ∃ p', ∀ o, w'.cell? ⟨nd.b, o, none⟩ = (nd.v ++ [p', nxV (.pointer none) (l.drop (k + 1)), ptr' hb])[o]? := by
  obtain ⟨_, rfl⟩ := hg
  obtain ⟨p', h'⟩ := nodesB_at 320 hb (.pointer none) l (.pointer none) k nd hk
  refine ⟨p', fun o => ?_⟩
  have := T.cell i (k + 2) (b := nd.b) (T := 320) (C := (nd.v ++ [p', nxV (.pointer none) (l.drop (k + 1)), ptr' hb]).toArray) (by rw [hi]; exact h') o
  rw [this, List.getElem?_toArray]
theorem ptr_is_neq (b : Nat) (w : World) : (binOp .neq 245 (ptr' b) (.pointer none)).run Tryz.prog w = .ok (.bool true) w := by kernel_rfl
theorem ptr_no_neq (w : World) : (binOp .neq 245 (.pointer none) (.pointer none)).run Tryz.prog w = .ok (.bool false) w := by kernel_rfl
def nodesR (l : List Nd) (bx lb : Nat) (W : World) (H0 : GH) (J : Nat → GH → Prop) (n : Nat) (i : Value) (wr : World) : Prop :=
  ∃ (k : Nat) (H : GH), k ≤ l.length ∧ n = l.length - k ∧ i = nxV (.pointer none) (l.drop k) ∧ J k H ∧ TG (H0 ++ [[cl bx 170 #[ptr' lb]]]) W (H ++ [[cl bx 170 #[ptr' lb]]]) wr
set_option maxRecDepth 100000 in
set_option maxHeartbeats 4000000 in
theorem nodes_iter (bx lb hb : Nat) (l : List Nd) (g : List Blk) (hg : isListF lb hb l g) (hn : l.length ≤ 1000000) :
    IterY Tryz.prog 239 #[ptr' bx] (itNodes l g [[cl bx 170 #[ptr' lb]]]) (0 : Nat) := by
  intro ly J Jx hT hY H0 O0 W hJ0 hO hH
  have hO' : O0 = [[cl bx 170 #[ptr' lb]]] := hO
  subst hO'
  have T0 := TG.refl hH
  have c0 := (TG.refl hH.right).cell 0 0 rfl 0
  simp only [List.getElem?_toArray, List.getElem?_cons_zero] at c0
  obtain ⟨i0, hi0, hl0⟩ := hT (0 : Nat) H0 hJ0
  have f0 : W.cell? ⟨lb, 0, none⟩ = some (nxV (.pointer none) l) := by
    have := (TG.refl hH.left).cell i0 0 (b := lb) (by rw [hi0, hg.2]; rfl) 0
    simpa using this
  have HF := Lib.hid f0
  have HG := Lib.hid hg
  have HH := Lib.hid (And.intro hJ0 T0)
  have HTT := Lib.hid hT
  have HY := Lib.hid hY
  obtain ⟨v0, hv0⟩ : ∃ v0, nxV (.pointer none) l = v0 := ⟨_, rfl⟩
  rw [hv0] at f0
  have hp0 : ∃ o, v0 = .pointer o := by subst hv0; cases l <;> exact ⟨_, rfl⟩
  obtain ⟨o0, rfl⟩ := hp0
  have HV := Lib.hid hv0
  have q1 := ptr_no_neq
  clear hO hH hY hT hJ0 T0 hi0 hl0 hg hv0
  refine (callsIn_wide (n := 9)).1 (callsIn_of_wp Tryz.func239 rfl trivial ?_ rfl)
  simp only [Tryz.ntmps239, List.size_toArray, List.length_cons, List.length_nil, Nat.reduceAdd, Nat.reduceSub, Array.replicate_succ, Array.replicate_zero, List.push_toArray, List.append_toArray, List.nil_append, List.cons_append]
  gi_wp2
  gi_loopw [3, 4] (fun i _ wr => ∃ n, nodesR l bx lb W H0 J n i wr) (fun i _ wr => leastOf fun n => nodesR l bx lb W H0 J n i wr)
  case atStart => exact ⟨_, 0, H0, by omega, rfl, HV.out.symm, HH.out.1, HH.out.2⟩
  case round =>
    obtain ⟨k, H, hk, hm, rfl, hj, T⟩ := (leastOf_spec hrel).1
    obtain ⟨i, hi, hlt⟩ := HTT.out k H hj
    by_cases hkl : k < l.length
    · obtain ⟨nd, hnd⟩ : ∃ nd, l[k]? = some nd := ⟨_, List.getElem?_eq_getElem hkl⟩
      have hv := nxV_drop l k nd hnd (.pointer none)
      obtain ⟨p', hc⟩ := node_cell T HG.out i (by rw [List.getD_eq_getElem?_getD, List.getElem?_append_left hlt, ← List.getD_eq_getElem?_getD]; exact hi) hnd
      have hlen : nd.v.length = 4 := HG.out.1 nd (List.mem_of_getElem? hnd)
      have c5 := hc 5
      rw [List.getElem?_append_right (by omega), hlen] at c5
      simp only [Nat.reduceSub, List.getElem?_cons_succ, List.getElem?_cons_zero] at c5
      obtain ⟨v1, hv1⟩ : ∃ v1, nxV (.pointer none) (l.drop (k + 1)) = v1 := ⟨_, rfl⟩
      have hp1 : ∃ o, v1 = .pointer o := by rw [← hv1]; cases l.drop (k + 1) <;> exact ⟨_, rfl⟩
      obtain ⟨o1, rfl⟩ := hp1
      rw [hv1] at c5
      rw [hv] at hm ⊢
      have hy0 := HY.out k #[ptr' nd.b] [] (k + 1) H wr hj ⟨⟨nd, hnd, rfl⟩, rfl, rfl⟩ (by rw [List.append_nil]; exact T.has.left)
      obtain ⟨fn, tmps, assign, body, hy, hR⟩ := yield_any (n := 8) hy0
      have q2 := ptr_is_neq nd.b
      have HRR := Lib.hid hR
      have HT := Lib.hid T
      have HM := Lib.hid hm
      have HV1 := Lib.hid hv1
      clear hR T hy0 hc hnd hv hrel hm hi hlt hlen hj hv1
      gi_wp2
      refine HRR.out.mono ?_
      rintro e W' ⟨H', hT', hj'⟩
      have T2 := HT.out.trans ((hT'.app (a' := H) (by simp)).frame HT.out.has)
      have HT2 := Lib.hid T2
      have HJ := Lib.hid hj'
      clear hT' hj' T2 hy c5
      rcases HJ.out with ⟨rfl, hj'⟩ | ⟨rfl, hj'⟩
      · have HJ2 := Lib.hid hj'
        clear hj' HJ
        gi_wp2
        have hR' : nodesR l bx lb W H0 J (l.length - (k + 1)) (.pointer o1) W' := ⟨k + 1, H', by omega, rfl, HV1.out.symm, HJ2.out, HT2.out⟩
        have HR' := Lib.hid hR'
        clear hR'
        go_roundw
        case rel => exact ⟨_, HR'.out⟩
        case measure =>
          have h1 := (leastOf_spec (p := fun n => nodesR l bx lb W H0 J n (.pointer o1) W') ⟨_, HR'.out⟩).2 _ HR'.out
          have h2 := HM.out
          omega
      · have HJ2 := Lib.hid hj'
        clear hj' HJ
        gi_wp2
        refine bodyPost_ret (results_none rfl _ _ _) rfl ?_
        exact ⟨⟨_, rfl⟩, k + 1, H', _, HT2.out, .inr HJ2.out⟩
    · have hkk : k = l.length := by omega
      subst hkk
      have hv : nxV (.pointer none) (l.drop l.length) = .pointer none := by rw [List.drop_length]; rfl
      rw [hv]
      clear hm hrel
      gi_wp2
      go_end0
      exact ⟨⟨_, rfl⟩, l.length, H, _, T, .inl ⟨rfl, hj, rfl⟩⟩
theorem listNodes_g (lb : Nat) : DoesG Tryz.prog 213 #[ptr' lb] [] fun e gs => ∃ bx, e = .returned (.func (.func 239) #[] #[ptr' bx]) ∧ gs = [[cl bx 170 #[ptr' lb]]] := by
  intro w hw
  have T0 := TG.refl hw
  have HT := Lib.hid T0
  clear hw T0
  go_enter Tryz.func213, Tryz.ntmps213
  go_wp2
  go_ret
  exact ⟨_, ⟨_, rfl, rfl⟩, HT.out.alloc rfl _ _⟩
theorem fires_snoc (vs : List FireS) {k : Nat} {f : FireS} (h : vs[k]? = some f) : fires (vs.take (k + 1)) = fires (vs.take k) ++ f.vals := by
  obtain ⟨h1, h2⟩ := List.getElem?_eq_some_iff.1 h
  unfold fires flatV
  rw [List.take_succ_eq_append_getElem h1, h2]
  simp
set_option maxRecDepth 100000 in
set_option maxHeartbeats 4000000 in
theorem listAll_g {lb hb : Nat} {l : List Nd} {g : List Blk} (hg : isListF lb hb l g) (vs : List FireS) (hv : l.map Nd.v = vs.map FireS.vals) (hn : vs.length ≤ 1000000) :
    DoesG Tryz.prog 177 #[ptr' lb] [g] fun e gs => ∃ v gr, e = .returned v ∧ rowG 69 4 v vs.length (fires vs) gr ∧ gs = [g, gr] := by
  have hll : l.length = vs.length := by
    have := congrArg List.length hv
    simpa using this
  intro w hw
  have T0 := TG.refl hw
  have HT := Lib.hid T0
  clear hw T0
  have HG := Lib.hid hg
  have HV := Lib.hid hv
  have HI := Lib.hid (show ∀ bx, _ from fun bx => nodes_iter bx lb hb l g hg (by omega))
  clear hg hv
  refine calls_of_marks Tryz.func177 rfl ?_
  simp only [Tryz.ntmps177, List.size_toArray, List.length_cons, List.length_nil, Nat.reduceAdd, Nat.reduceSub, Array.replicate_succ, Array.replicate_zero, List.push_toArray, List.append_toArray, List.nil_append, List.cons_append]
  go_wp2_with fail
  obtain ⟨sb, hsb⟩ : ∃ sb, w.heap.size = sb := ⟨_, rfl⟩
  have HT := Lib.hid (HT.out.alloc (k := sb) hsb.symm 89 #[.slice none 0 0])
  rw [hsb]
  clear hsb
  go_wp2_with fail
  refine (DoesG.use (listNodes_g lb) (HT.out) [] rfl rfl).mono ?_
  rintro e w1 ⟨gs, ⟨bx, rfl, rfl⟩, Ta⟩
  simp only [PU] at Ta
  have HT := Lib.hid Ta
  clear Ta
  go_wp2_with fail
  have T0 := HT.out.sum (H' := [[cl sb 89 #[.slice none 0 0]], [], g] ++ [[cl bx 170 #[ptr' lb]]]) (fun n ha h0 h1 h2 => by simp only [SU, ha, h0, h1, h2] <;> omega)
  clear HT
  refine wp_rangeY (H0 := [[cl sb 89 #[.slice none 0 0]], [], g]) (O0 := [[cl bx 170 #[ptr' lb]]]) rfl (enters_of Tryz.func239 (by kernel_rfl) rfl) (HI.out bx) ?hps T0 ?hO (fun (k : Nat) H => ∃ v gr, H = [[cl sb 89 #[v]], gr, g] ∧ rowG 69 4 v k (fires (vs.take k)) gr) (fun _ _ _ => False) ?h0 ?hT ?hbody ?hdone ?hstop
  case hps => rintro s x G s' ⟨⟨c, _, rfl⟩, _⟩; rfl
  case hO => exact rfl
  case h0 => exact ⟨_, _, rfl, rowG_nil _ _⟩
  case hT => rintro s H K ⟨v, gr, rfl, _⟩; exact ⟨2, rfl, by simp⟩
  case hbody =>
    rintro (k : Nat) x G (k' : Nat) H W ly ⟨v, gr, rfl, hr⟩ ⟨⟨nd, hnd, rfl⟩, rfl, rfl⟩ hH
    have hk := (List.getElem?_eq_some_iff.1 hnd).1
    obtain ⟨f, hf⟩ : ∃ f, vs[k]? = some f := ⟨_, List.getElem?_eq_getElem (by omega)⟩
    have hvals : nd.v = f.vals := by
      have := congrArg (·[k]?) HV.out
      simp only [List.getElem?_map, hnd, hf, Option.map_some] at this
      exact Option.some.inj this
    have HH := Lib.hid hH
    have HR := Lib.hid hr
    have HC := Lib.hid (fires_snoc vs hf)
    have HND := Lib.hid (And.intro hnd hvals)
    obtain ⟨av, cap, hv⟩ := rowG.val hr
    subst hv
    clear hH hr hf hnd hvals
    refine wpIn_any (n := 9) ?_
    gi_wp2
    refine ⟨_, (TG.refl HH.out).eq (H' := [[cl sb 89 #[.slice av k cap]], gr, g]) (by simp), fun Wb hb => ?_⟩
    have HT := Lib.hid (TG.refl hb).drew
    clear hb HH
    refine wpIn_any (n := 9) ?_
    gi_wp2
    refine wpIn_region_orders rfl [[0, 1, 2, 3, 4, 5, 6, 7], [1, 0, 2, 3, 4, 5, 6, 7], [1, 2, 0, 3, 4, 5, 6, 7], [1, 2, 3, 0, 4, 5, 6, 7], [1, 2, 3, 4, 0, 5, 6, 7], [1, 2, 3, 4, 5, 0, 6, 7]] (by kernel_rfl) ?_
    generalize World.drew Wb = wd at HT ⊢
    obtain ⟨p', hc⟩ := node_cell HT.out HG.out 2 rfl HND.out.1
    have n0 := hc 0
    have n1 := hc 1
    have n2 := hc 2
    have n3 := hc 3
    rw [HND.out.2] at n0 n1 n2 n3
    simp only [FireS.vals, List.cons_append, List.getElem?_cons_succ, List.getElem?_cons_zero] at n0 n1 n2 n3
    have c0 := HT.out.cell 0 0 rfl 0
    have f0 := HT.out.free 0 0 rfl 0
    have lt0 := HT.out.lt 0 0 rfl
    simp only [] at lt0
    simp only [List.getElem?_toArray, List.getElem?_cons_zero] at c0
    clear hc
    simp only [List.mem_cons, List.not_mem_nil, or_false, forall_eq_or_imp, forall_eq]
    refine ⟨?_, ?_, ?_, ?_, ?_, ?_⟩
    all_goals
      simp only [List.filterMap_cons, List.filterMap_nil, List.getElem?_toArray, List.getElem?_cons_zero, List.getElem?_cons_succ]
      change wpListIn _ _ _ _ _ (_ :: _ :: _ :: _ :: _ :: _ :: _ :: _ :: []) _ _
      gi_wp2_with (
        gi_at_builtin
        with_reducible refine wpListIn_append_G rfl (.tmp 8) (.tmp 13) 89 rfl 69 4 32 _ Tryz.underlying89 fire_info rfl (by decide) (HT.out.alloc0 _) 1 rfl rfl HR.out rfl ⟨wd.heap.size, 0, none⟩ 1 1 [.int .u64 f.id, .int .u64 f.gen, .int .u64 f.dl, .int .u64 f.tick] rfl rfl (news_alloc _ _ _) (by simp [Value.oneCell']) (by unfold maxLen; omega) (by omega) ?_
        intro v1 w2 g1 r1 T1
        simp only [List.set_cons_zero, List.set_cons_succ] at T1
        have c1 := T1.cell 0 0 rfl 0
        have f1 := T1.free 0 0 rfl 0
        obtain ⟨a1, cap1, hv1⟩ := rowG.val r1
        subst hv1
        have T1 := Lib.hid T1
        have r1 := Lib.hid r1
        simp only [List.getElem?_toArray, List.getElem?_cons_zero] at c1)
      exact ⟨[[cl sb 89 #[.slice a1 (k + 1) cap1]], g1, g], ⟨_, _, rfl, by rw [HC.out]; exact r1.out⟩, ((T1.out.set 0 0 rfl 0 (.slice a1 (k + 1) cap1)).pick [0, 1, 2] rfl)⟩
  case hdone =>
    rintro (k : Nat) H O' W D hf ⟨v, gr, rfl, hr⟩ hO hT
    have hf' : k = l.length := hf
    subst hf'
    have hO' : O' = [[cl bx 170 #[ptr' lb]]] := hO
    subst hO'
    rw [hll, List.take_length] at hr
    have c0 := hT.cell 0 0 rfl 0
    simp only [List.getElem?_toArray, List.getElem?_cons_zero] at c0
    have HX := Lib.hid (And.intro hr hT)
    obtain ⟨av, cap, hv⟩ := rowG.val hr
    subst hv
    clear hf hO hr hT
    go_wp2
    obtain ⟨hr, hT⟩ := HX.out
    have T3 := hT.turnLast (.deferred none)
    exact post_mark (v := .slice av vs.length cap) hT.has.last (by simp [results, Tryz.results177, go_sem]) ⟨_, ⟨_, gr, rfl, hr, rfl⟩, T3.pick [2, 1] rfl⟩
  case hstop => intro s cd H O W D h; exact h.elim
end Go.Proofs.YtblhfbcodbjgcaaGreat
