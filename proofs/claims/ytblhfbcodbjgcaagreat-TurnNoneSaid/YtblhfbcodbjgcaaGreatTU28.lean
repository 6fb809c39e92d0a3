import Derived.Test.YtblhfbcodbjgcaaGreatTU26
import Derived.Test.YtblhfbcodbjgcaaGreatTU12
import Derived.Test.YtblhfbcodbjgcaaGreatTU27
namespace Go.Proofs.YtblhfbcodbjgcaaGreat
set_option linter.unusedVariables false
set_option linter.unusedSimpArgs false
open Go.RowKit Go.Shelf
structure KeepC (x x' : CoreS) : Prop where
  now : x'.f.now = x.f.now
  busy : x'.f.busy = x.f.busy
  cfg : x'.f.cfg = x.f.cfg
  closed : x'.f.closed = x.f.closed
  recs : x'.slab.recs.length = x.slab.recs.length
  len : x'.shs.length = x.shs.length
  who : ∀ j, (x'.shs.getD j (newShard 1)).who = (x.shs.getD j (newShard 1)).who
  sh : (∀ s ∈ x.shs, ∀ e ∈ s.ring.slots, TaskOk e.v) → ∀ s ∈ x'.shs, ∀ e ∈ s.ring.slots, TaskOk e.v
  turns : ∀ N : Nat, (∀ s ∈ x.shs, 0 ≤ s.turns ∧ s.turns ≤ N) → ∀ s ∈ x'.shs, 0 ≤ s.turns ∧ s.turns ≤ N
theorem KeepC.refl (x : CoreS) : KeepC x x := ⟨rfl, rfl, rfl, rfl, rfl, rfl, fun _ => rfl, fun h => h, fun _ h => h⟩
theorem KeepC.trans {x y z : CoreS} (a : KeepC x y) (b : KeepC y z) : KeepC x z :=
  ⟨b.now.trans a.now, b.busy.trans a.busy, b.cfg.trans a.cfg, b.closed.trans a.closed, b.recs.trans a.recs, b.len.trans a.len, fun j => (b.who j).trans (a.who j), fun h => b.sh (a.sh h), fun N h => b.turns N (a.turns N h)⟩
theorem KeepC.rest {N : Nat} {x x' : CoreS} {ws : List WheelS} {p : PipeS} (k : KeepC x x') (h : RestN N x ws p) : RestN N x' ws p :=
  ⟨by rw [k.now]; exact h.now, by rw [k.busy]; exact h.busy, by rw [k.cfg, k.recs]; exact h.cap, by rw [k.len]; exact h.wl, h.wok, k.sh h.task, k.turns N h.turns, h.ch, h.sp⟩
def GenN (k : WorkS) : Prop := 0 ≤ k.gen ∧ k.gen ≤ 4294967295
theorem genW_bd {w : Int} (h0 : 0 ≤ w) : 0 ≤ genW w ∧ genW w ≤ 4294967295 := by
  unfold genW
  split
  · next hk =>
    simp only [okW, Bool.and_eq_true, decide_eq_true_eq] at hk
    omega
  · omega
theorem try_nn {s : SlabS} (hs : SlabOk s) (k old ev : Int) (h0 : 0 ≤ old ∧ old < 18446744073709551616 ∧ okW old = true) : 0 ≤ (s.try k old ev).2.1 := by
  unfold SlabS.try
  split
  · next hh =>
    have hr : 0 ≤ (s.recs.getD k.toNat Rec.zero).w := by
      rw [List.getD_eq_getElem?_getD]
      cases h1 : s.recs[k.toNat]? with
      | none => show (0 : Int) ≤ 0; omega
      | some r => exact (hs.recs r (List.mem_of_getElem? h1)).w0
    simp only
    split
    · exact hr
    · next hx =>
      split
      · have := nextW_ok (e := ev) (p := decide (0 < (s.recs.getD k.toNat Rec.zero).p)) h0.1 h0.2.1 h0.2.2 (Decidable.byContradiction hx)
        exact this.2.2.2.2.2.2.2.1
      · exact hr
  · show (0 : Int) ≤ 0; omega
section
variable {N : Nat} {k : WorkS} {x : CoreS}
theorem keep_note (k : WorkS) (E : EvS) (x : CoreS) : KeepC x (noteC k E x) := ⟨rfl, rfl, rfl, rfl, rfl, rfl, fun _ => rfl, fun h => h, fun _ h => h⟩
theorem keep_slab {s : SlabS} (hl : s.recs.length = x.slab.recs.length) : KeepC x { x with slab := s } := ⟨rfl, rfl, rfl, rfl, hl, rfl, fun _ => rfl, fun h => h, fun _ h => h⟩
theorem keep_inside (n : Int) : KeepC x { x with f := { x.f with inside := n } } := ⟨rfl, rfl, rfl, rfl, rfl, rfl, fun _ => rfl, fun h => h, fun _ h => h⟩
theorem keep_ring {i : Nat} {s : ShardS} (hs : x.shs[i]? = some s) (r : RingS) (hr : (∀ e ∈ s.ring.slots, TaskOk e.v) → ∀ e ∈ r.slots, TaskOk e.v) : KeepC x { x with shs := x.shs.set i { s with ring := r } } := by
  have hlt := (List.getElem?_eq_some_iff.1 hs).1
  have hm := List.mem_of_getElem? hs
  refine ⟨rfl, rfl, rfl, rfl, rfl, List.length_set, fun j => ?_, fun h a ha => ?_, fun N h a ha => ?_⟩
  · show ((x.shs.set i _).getD j (newShard 1)).who = _
    rw [getD_set _ _ _ _ _ hlt]
    split
    · next hj => subst hj; rw [List.getD_eq_getElem?_getD, hs]; rfl
    · rfl
  · rcases List.mem_or_eq_of_mem_set ha with ha | rfl
    · exact h a ha
    · exact hr (h s hm)
  · rcases List.mem_or_eq_of_mem_set ha with ha | rfl
    · exact h a ha
    · exact h s hm
theorem stepT_slots (r : RingS) (t : TickS) : (stepT r t).1.slots = r.slots := by
  unfold stepT lookT weighT takeT
  split
  · rfl
  · split
    · rfl
    · split
      · rfl
      · split <;> rfl
theorem fillT_slots {r : RingS} {t : TickS} {v : TaskS} (hv : TaskOk v) (h : ∀ e ∈ r.slots, TaskOk e.v) : ∀ e ∈ (fillT r t v).1.slots, TaskOk e.v := by
  unfold fillT
  split
  · intro e he
    rcases List.mem_or_eq_of_mem_set he with he | rfl
    · exact h e he
    · exact hv
  · exact h
theorem keep_fill (k : WorkS) {v : TaskS} (hv : TaskOk v) : KeepC x (fillC v (k, x)).2 := by
  unfold fillC
  simp only
  split
  · exact KeepC.refl x
  · rename_i i t ht
    split
    · exact KeepC.refl x
    · rename_i s hs
      exact keep_ring hs _ (fun h => fillT_slots hv h)
theorem gen_fill {v : TaskS} (h : GenN k) : GenN (fillC v (k, x)).1 := by
  unfold fillC
  simp only
  split
  · exact h
  · split
    · exact h
    · exact h
theorem keep_event (hc : CoreN N x) (ev : Int) : KeepC x (eventC ev (k, x)).2 ∧ GenN (eventC ev (k, x)).1 := by
  obtain ⟨h1, h2⟩ := try_ok hc.slab k.slot (x.slab.word k.slot) ev
  exact ⟨keep_slab h2, genW_bd (try_nn hc.slab _ _ _ (word_bd hc.slab _))⟩
theorem taskC_ok (hc : CoreN N x) (hk : WorkN N k x) (hg : GenN k) : TaskOk (taskC (k, x)) := by
  refine ⟨hk.id, ⟨hg.1, by have := hg.2; show k.gen ≤ _; omega⟩, hk.c0, ?_⟩
  show 0 ≤ x.slab.period k.slot ∧ x.slab.period k.slot < _
  unfold SlabS.period
  split
  · rw [List.getD_eq_getElem?_getD]
    cases h1 : x.slab.recs[k.slot.toNat]? with
    | none => exact ⟨by show (0 : Int) ≤ 0; omega, by show (0 : Int) < _; omega⟩
    | some r => have := hc.slab.recs r (List.mem_of_getElem? h1); exact ⟨this.p0, this.p1⟩
  · omega
theorem taskN : TaskOk { TaskS.zero with slot := -1 } := ⟨by decide, by decide, by decide, by decide⟩
theorem actC_keep (hc : CoreN N x) (hk : WorkN N k x) (hg : GenN k) (a : AC) : KeepC x (runA a (k, x)).2 ∧ GenN (runA a (k, x)).1 := by
  cases a with
  | ends1 => exact ⟨keep_note _ _ _, hg⟩
  | leaves1 => exact ⟨keep_inside _, hg⟩
  | undo =>
    obtain ⟨h1, h2⟩ := keep_event (k := k) hc 9
    exact ⟨h1.trans (keep_note _ _ _), h2⟩
  | drop => exact ⟨keep_slab (drop_ok hc.slab).2, hg⟩
  | tries1 => exact keep_event (k := k) hc 10
  | again1 => exact ⟨keep_fill k taskN, gen_fill hg⟩
theorem look_gen (k : WorkS) (s : SlabS) : (lookW k s).1.gen = k.gen := by
  unfold lookW
  split
  · rfl
  · split <;> rfl
theorem methC_keep (hc : CoreN N x) (hk : WorkN N k x) (hg : GenN k) (m : MC) : KeepC x (runC m (k, x)).2.2 ∧ GenN (runC m (k, x)).2.1 := by
  cases m with
  | ends => exact ⟨KeepC.refl x, hg⟩
  | leaves => exact ⟨KeepC.refl x, hg⟩
  | right =>
    show KeepC x (if badC k then _ else _ : SC × ZC).2.2 ∧ GenN (if badC k then _ else _ : SC × ZC).2.1
    split
    · exact ⟨keep_note _ _ _, hg⟩
    · exact ⟨KeepC.refl x, hg⟩
  | enter => exact ⟨keep_inside _, hg⟩
  | gate =>
    show KeepC x (if x.f.closed = true then _ else _ : SC × ZC).2.2 ∧ GenN (if x.f.closed = true then _ else _ : SC × ZC).2.1
    split
    · exact ⟨keep_note _ _ _, hg⟩
    · split
      · exact ⟨KeepC.refl x, hg⟩
      · exact ⟨KeepC.refl x, hg⟩
  | asks =>
    show KeepC x (match k.rq with | none => _ | some q => _ : SC × ZC).2.2 ∧ GenN (match k.rq with | none => _ | some q => _ : SC × ZC).2.1
    split
    · exact ⟨KeepC.refl x, hg⟩
    · next q hq =>
      obtain ⟨h1, h2, h3⟩ := stepR_ok hc.slab (hk.rq q hq)
      unfold asksC
      simp only
      split
      · exact ⟨(keep_slab h3).trans (keep_note _ _ _), hg⟩
      · split
        · exact ⟨keep_slab h3, hg⟩
        · exact ⟨keep_slab h3, hg⟩
  | queues =>
    show KeepC x (match k.tk with | none => _ | some (i, t) => _ : SC × ZC).2.2 ∧ GenN (match k.tk with | none => _ | some (i, t) => _ : SC × ZC).2.1
    split
    · exact ⟨KeepC.refl x, hg⟩
    · next i t htk =>
      show KeepC x (match x.shs[i]? with | none => _ | some s => _ : SC × ZC).2.2 ∧ GenN (match x.shs[i]? with | none => _ | some s => _ : SC × ZC).2.1
      split
      · exact ⟨KeepC.refl x, hg⟩
      · next s hs =>
        have hr := keep_ring (x := x) hs (stepT s.ring t).1 (fun h => by rw [stepT_slots]; exact h)
        unfold queuesC
        simp only
        split
        · exact ⟨hr, hg⟩
        · split
          · exact ⟨hr.trans (keep_note _ _ _), hg⟩
          · split
            · exact ⟨hr, hg⟩
            · split
              · exact ⟨hr, hg⟩
              · exact ⟨hr, hg⟩
  | submits =>
    obtain ⟨h1, h2⟩ := keep_event (k := k) hc 2
    exact ⟨h1.trans (keep_note _ _ _), h2⟩
  | fills => exact ⟨keep_fill k (taskC_ok hc hk hg), gen_fill hg⟩
  | looks =>
    have hl : GenN (lookW k x.slab).1 := by unfold GenN; rw [look_gen]; exact hg
    show KeepC x (if (lookW k x.slab).2 = 0 then _ else _ : SC × ZC).2.2 ∧ GenN (if (lookW k x.slab).2 = 0 then _ else _ : SC × ZC).2.1
    split
    · show KeepC x (if k.kind = 3 then _ else _ : SC × ZC).2.2 ∧ GenN (if k.kind = 3 then _ else _ : SC × ZC).2.1
      split
      · exact ⟨KeepC.refl x, hl⟩
      · exact ⟨KeepC.refl x, hl⟩
    · show KeepC x (if (lookW k x.slab).2 = 1 then _ else _ : SC × ZC).2.2 ∧ GenN (if (lookW k x.slab).2 = 1 then _ else _ : SC × ZC).2.1
      split
      · exact ⟨keep_note _ _ _, hl⟩
      · exact ⟨keep_note _ _ _, hl⟩
  | again =>
    have hl : GenN (lookW k x.slab).1 := by unfold GenN; rw [look_gen]; exact hg
    show KeepC x (if (lookW k x.slab).2 = 0 then _ else _ : SC × ZC).2.2 ∧ GenN (if (lookW k x.slab).2 = 0 then _ else _ : SC × ZC).2.1
    split
    · exact ⟨KeepC.refl x, hl⟩
    · exact ⟨keep_note _ _ _, hl⟩
  | tries =>
    obtain ⟨h1, h2⟩ := try_ok hc.slab k.slot k.saw k.event
    have hs : KeepC x (tryC (k, x)).1.2 := keep_slab h2
    have hgn : GenN (tryC (k, x)).1.1 := genW_bd (try_nn hc.slab _ _ _ hk.saw)
    show KeepC x (if (tryC (k, x)).2 ≠ 0 then _ else _ : SC × ZC).2.2 ∧ GenN (if (tryC (k, x)).2 ≠ 0 then _ else _ : SC × ZC).2.1
    split
    · show KeepC x (if k.kind = 3 then _ else _ : SC × ZC).2.2 ∧ GenN (if k.kind = 3 then _ else _ : SC × ZC).2.1
      split
      · exact ⟨hs, hgn⟩
      · exact ⟨hs, hgn⟩
    · show KeepC x (if k.kind = 3 then _ else _ : SC × ZC).2.2 ∧ GenN (if k.kind = 3 then _ else _ : SC × ZC).2.1
      split
      · exact ⟨hs.trans (keep_note _ _ _), hgn⟩
      · show KeepC x (if k.kind = 5 then _ else _ : SC × ZC).2.2 ∧ GenN (if k.kind = 5 then _ else _ : SC × ZC).2.1
        split
        · exact ⟨hs.trans (keep_note _ _ _), hgn⟩
        · exact ⟨hs.trans (keep_note _ _ _), hgn⟩
theorem callKeep {s : SC} (h : JC N s (k, x)) (hg : GenN k) : KeepC x (stepC s (k, x)).2.2 ∧ GenN (stepC s (k, x)).2.1 := by
  obtain ⟨hc, hk, hf⟩ := h
  simp only at hc hk hf
  have ha := fun a => actC_keep hc hk hg a
  match s, hf with
  | .nil, _ => exact ⟨KeepC.refl x, hg⟩
  | .at none m, hf => exact methC_keep hc hk hg m
  | .row1 .ends1, _ => exact ha .ends1
  | .thn (.row1 .leaves1) .ends, _ => exact ha .leaves1
  | .thn (.row2 .undo .drop) .leaves, _ => exact ha .undo
  | .thn (.row1 .drop) .leaves, _ => exact ha .drop
  | .thn (.row1 .again1) .leaves, _ => exact ha .again1
  | .thn (.row2 .tries1 .drop) .ends, _ => exact ha .tries1
  | .thn (.row1 .drop) .ends, _ => exact ha .drop
theorem callKeep_it {s : SC} {z : ZC} : ∀ (j : Nat), JC N s z → GenN z.1 → KeepC z.2 (itC j s z).2.2 ∧ GenN (itC j s z).2.1 := by
  intro j
  induction j generalizing N s z with
  | zero => intro h hg; exact ⟨KeepC.refl _, hg⟩
  | succ j ih =>
    intro h hg
    obtain ⟨k, x⟩ := z
    obtain ⟨h1, h2⟩ := callKeep h hg
    obtain ⟨h3, h4⟩ := ih h.step h2
    exact ⟨h1.trans h3, h4⟩
end
end Go.Proofs.YtblhfbcodbjgcaaGreat

namespace Go.Proofs.YtblhfbcodbjgcaaGreat
set_option linter.unusedVariables false
set_option linter.unusedSimpArgs false
open Go.RowKit Go.Shelf
theorem rest17 : RestN 14 x17 (zf0 (plain17 1)).ws (zf0 (plain17 1)).p := by
  have h0 := (zf0_n (plain17 1) (by decide)).1.rest
  have h1 : RestN 0 z17.2 (zf0 (plain17 1)).ws (zf0 (plain17 1)).p := (keep_note _ _ _).rest h0
  exact ((callKeep_it 13 jc17 ⟨by decide, by decide⟩).1.rest h1).mono (by omega)
theorem jt17 : JT 15 firstT t17 := by
  have h := zf0_n (plain17 1) (by decide)
  exact JT.first (N := 14) (JC.it (N := 0) 13 jc17).core rest17 h.2.1 (by decide) (by decide) (.inr (by decide)) 2
theorem one17 : ∃ (x : CoreS) (t : ZT), (∀ (L : Lay) (gF : List Blk), isCore L (core0 (plain17 1)) gF → DoesG Tryz.prog 95 #[ptr' L.fb, .agg #[.int .i64 1, .int .u64 0, .int .u64 1, .int .u64 0]] [gF] fun e gs =>
      e = .returned (.agg #[.int .i64 0, .bool true, .int .u64 64, .int .u64 1, .slice none 0 0]) ∧ ∃ gF', isCore L x gF' ∧ gs = [gF']) ∧
    (∀ (L : Lay) (gF : List Blk), isTF L x (zf0 (plain17 1)).ws (zf0 (plain17 1)).p gF → DoesG Tryz.prog 96 #[ptr' L.fb] [gF] fun e gs => e = .returned (.bool true) ∧ ∃ gF', isTF L t.x t.ws t.p gF' ∧ gs = [gF']) ∧
    t.p.all = [⟨64, 1, 1, 1⟩] ∧ t.p.ch.length ≤ 1000000 ∧ t.p.sp.length ≤ 1000000 ∧ t.p.ch.length ≤ t.p.room ∧ t.x.slab.count = 0 := by
  obtain ⟨e1, e2, e3, e4, e5⟩ := end17t
  have hj := jt17.it 19 (by omega) (fun i hi => runs17t.1 i hi)
  refine ⟨x17, (itT 19 firstT t17).2, ?_, ?_, e4, ?_, ?_, hj.b.rest.ch, e5⟩
  · intro L gF hx
    have h := lawAlone17 hx call17 (by decide) (by decide) 13 1 (firstC 1) z17 rfl rfl jc17 (by decide) (by decide) runs17
    rw [end17.1, end17.2.1, end17.2.2.1, end17.2.2.2] at h
    exact h
  · intro L gF hx
    have h := lawTick hx 19 15 t17 rfl jt17 (by decide) (by decide) runs17t e1
    rw [e2, e3] at h
    exact h
  · have := congrArg List.length e4
    unfold PipeS.all at this
    rw [List.length_append] at this
    simp at this
    omega
  · have := congrArg List.length e4
    unfold PipeS.all at this
    rw [List.length_append] at this
    simp at this
    omega
set_option maxRecDepth 100000 in
set_option maxHeartbeats 1000000 in
theorem alive17_g : DoesG Tryz.prog 27 #[] [] fun e gs => e = .returned (.bool true) ∧ gs = [] := by
  obtain ⟨x, t, hal, htk, hall, hch, hsp, hrm, hct⟩ := one17
  have HA := Lib.hid hal
  have HK := Lib.hid htk
  have HN := Lib.hid (newFull (plain17 1) (by decide))
  have HS := Lib.hid (And.intro hall (And.intro hch (And.intro hsp (And.intro hrm hct))))
  clear hal htk hall hch hsp hrm hct
  intro w hw
  have T0 := TG.refl hw
  have HT := Lib.hid T0
  clear hw T0
  go_enter Tryz.func27, Tryz.ntmps27
  go_wp2_with fail
  refine (DoesG.use (plain17_g 1) (HT.out) [] rfl rfl).mono ?_
  rintro e w1 ⟨gs, ⟨rfl, rfl⟩, Ta⟩
  simp only [PU] at Ta
  have HT := Lib.hid Ta
  clear Ta
  go_wp2_with fail
  refine (DoesG.use (HN.out) (HT.out) [] rfl rfl).mono ?_
  rintro e w1 ⟨gs, ⟨L, g, rfl, hz, rfl⟩, Ta⟩
  simp only [PU] at Ta
  have HT := Lib.hid Ta
  clear Ta
  obtain ⟨gT, gL, ⟨gC, gW, gP, hx, hw, hp, rfl⟩, hl, rfl⟩ := hz
  have HT := Lib.hid (HT.out.sum (H' := [gC, gW ++ gP, gL]) (fun n ha h0 h1 h2 => by simp only [SU, ha, h0, h1, h2] <;> omega))
  have HX := Lib.hid hx
  have HW := Lib.hid (And.intro hw hp)
  clear hx hw hp hl
  go_wp2_with fail
  refine (DoesG.use (HA.out _ _ HX.out) (HT.out) [0] rfl rfl).mono ?_
  rintro e w1 ⟨gs, ⟨rfl, gC', hx', rfl⟩, Ta⟩
  simp only [PU] at Ta
  have HT := Lib.hid Ta
  clear Ta
  have HX := Lib.hid (show isTF L x (zf0 (plain17 1)).ws (zf0 (plain17 1)).p (gC' ++ (gW ++ gP)) from ⟨gC', gW, gP, hx', HW.out.1, HW.out.2, rfl⟩)
  have HT := Lib.hid (HT.out.sum (H' := [gC' ++ (gW ++ gP), gL]) (fun n ha h0 h1 h2 => by simp only [SU, ha, h0, h1, h2] <;> omega))
  clear hx' HW
  generalize w1 = wa at HT ⊢
  have HT2 := Lib.hid (HT.out.alloc (k := wa.heap.size) rfl 51 #[.int .i64 0, .bool true, .int .u64 64, .int .u64 1, .slice none 0 0])
  go_wp2_with fail
  refine (DoesG.use (HK.out _ _ HX.out) (HT2.out) [0] rfl rfl).mono ?_
  rintro e w1 ⟨gs, ⟨rfl, gF', hx', rfl⟩, Ta⟩
  simp only [PU] at Ta
  have HT := Lib.hid Ta
  clear Ta
  obtain ⟨gC2, gW2, gP2, hx2, hw2, hp2, rfl⟩ := hx'
  have HT := Lib.hid (HT.out.sum (H' := [gC2, gP2, gW2 ++ gL, [cl wa.heap.size 51 #[.int .i64 0, .bool true, .int .u64 64, .int .u64 1, .slice none 0 0]]]) (fun n ha h0 h1 h2 => by simp only [SU, ha, h0, h1, h2] <;> omega))
  have HPA := Lib.hid (pipeAll_g hp2 ⟨HS.out.2.1, HS.out.2.2.1⟩ HS.out.2.2.2.1)
  have HX := Lib.hid hx2
  clear hx2 hw2 hp2 HT2
  go_wp2_with fail
  refine (ReadsG.use (corePipe_r HX.out) (HT.out) [0] rfl rfl).mono ?_
  rintro e w1 ⟨rfl, mq, rfl⟩
  have HT := Lib.hid (HT.out.drewN mq)
  go_wp2_with fail
  refine (DoesG.use (HPA.out) (HT.out) [1] rfl rfl).mono ?_
  rintro e w1 ⟨gs, ⟨v, gr, g', rfl, hr, hp', rfl⟩, Ta⟩
  simp only [PU] at Ta
  have HT := Lib.hid Ta
  clear Ta
  rw [HS.out.1] at hr
  obtain ⟨av, cap, hv⟩ := rowG.val hr
  subst hv
  have HR := Lib.hid hr
  clear hr hp'
  generalize w1 = wb at HT ⊢
  have HT := Lib.hid (HT.out.alloc (k := wb.heap.size) rfl 69 #[.int .u64 64, .int .u64 1, .int .u64 1, .int .u64 1])
  have HLIT := Lib.hid (rowG_lit 69 4 wb.heap.size 1 1 #[.int .u64 64, .int .u64 1, .int .u64 1, .int .u64 1] (Nat.le_refl _) (by decide) rfl)
  go_wp2_with fail
  refine (ReadsG.use (sameF_r (l := [⟨64, 1, 1, 1⟩]) HR.out HLIT.out (by decide)) HT.out [4, 5] rfl rfl).mono ?_
  rintro e w2 ⟨rfl, mq2, rfl⟩
  have HT := Lib.hid (HT.out.drewN mq2)
  generalize World.drewN _ _ = wc at HT ⊢
  have hco := coreCount HX.out
  rw [HS.out.2.2.2.2] at hco
  have HCO := Lib.hid hco
  clear hco
  go_wp2_with fail
  refine (ReadsG.use (coreSlab_r HX.out) (HT.out) [0] rfl rfl).mono ?_
  rintro e w1 ⟨rfl, mq, rfl⟩
  have HT := Lib.hid (HT.out.drewN mq)
  go_wp2_with fail
  refine (DoesG.use (HCO.out) (HT.out) [0] rfl rfl).mono ?_
  rintro e w1 ⟨gs, ⟨rfl, g3, hx3, rfl⟩, Ta⟩
  simp only [PU] at Ta
  have HT := Lib.hid Ta
  clear Ta
  go_wp2
  go_ret
  exact ⟨[], ⟨rfl, rfl⟩, HT.out.pick [] rfl⟩
end Go.Proofs.YtblhfbcodbjgcaaGreat
