import Derived.Test.YthbjaoinklhikaaGreatCallsRefusedM16
import Derived.Test.YthbjaoinklhikaaGreatCallsRefusedM8
import Derived.Test.YthbjaoinklhikaaGreatCallsRefusedM2
import Derived.Test.YthbjaoinklhikaaGreatCallsRefusedM5
import Derived.Test.YthbjaoinklhikaaGreatCallsRefusedM9
namespace Go.Proofs.YthbjaoinklhikaaGreat
set_option linter.unusedVariables false
set_option linter.unusedSimpArgs false
open Go.RowKit Go.Shelf

theorem call5_wf : call5.wf := ⟨⟨by decide, by decide⟩, ⟨by decide, by decide⟩, ⟨by decide, by decide⟩⟩
theorem cfg1_ok : cfg1.ok = true := by decide
set_option maxRecDepth 100000 in
theorem alive16_g : DoesG Tryz.prog 12 #[] [] fun e gs => e = .returned (.bool true) ∧ gs = [] := by
  have hrun : ∀ (L : Lay) (gF : List Blk), isCore L (core0 cfg1) gF → DoesG Tryz.prog 24 #[ptr' L.fb, .agg #[.int .i64 1, .int .u64 0, .int .u64 5, .int .u64 0]] [gF] fun e gs =>
      e = .returned (.tuple #[.agg #[.int .i64 0, .bool true, .int .u64 64, .int .u64 1, .slice none 0 0], .int .i64 13, .bool true]) ∧ ∃ gF', isCore L (itC 13 (firstC 1) z5).2.2 gF' ∧ gs = [gF'] := by
    intro L gF hx
    have h := lawRun hx call5 (by decide) (by decide) 13 1 (firstC 1) z5 rfl rfl (JC.first (core0_n cfg1_ok) call5_wf 0 1) (by decide) (by decide) runs5
    rw [end5.1, end5.2.1, end5.2.2.1, end5.2.2.2] at h
    exact h
  have HR := Lib.hid hrun
  have HN := Lib.hid (newCore cfg1 cfg1_ok)
  clear hrun
  intro w hw
  have T0 := TG.refl hw
  have HT := Lib.hid T0
  clear hw T0
  go_enter Tryz.func12, Tryz.ntmps12
  go_wp2_with fail
  refine (DoesG.use (HN.out) (HT.out) [] rfl rfl).mono ?_
  rintro e w1 ⟨gs, ⟨L, gF, gP, gL, rfl, hx, hp, rfl, rfl⟩, Ta⟩
  simp only [putG, List.set_cons_zero, List.set_cons_succ, List.cons_append, List.nil_append, List.append_nil] at Ta
  have HX := Lib.hid hx
  clear hx hp
  have HT := Lib.hid Ta
  clear Ta
  go_wp2_with fail
  refine (DoesG.use (HR.out _ _ HX.out) (HT.out) [0] rfl rfl).mono ?_
  rintro e w1 ⟨gs, ⟨rfl, gF', hx', rfl⟩, Ta⟩
  simp only [putG, List.set_cons_zero, List.set_cons_succ, List.cons_append, List.nil_append, List.append_nil] at Ta
  clear hx'
  have HT := Lib.hid Ta
  clear Ta
  go_wp2
  go_ret
  exact ⟨[], ⟨rfl, rfl⟩, (HT.out.alloc0 _).pick [] rfl⟩
end Go.Proofs.YthbjaoinklhikaaGreat

namespace Go.Proofs.YthbjaoinklhikaaGreat
set_option linter.unusedVariables false
set_option linter.unusedSimpArgs false
open Go.RowKit Go.Shelf

/-! ## A law's run, by what is known of a call alone -/
theorem lawRunO {L : Lay} {x : CoreS} {gF : List Blk} (hx : isCore L x gF) {c : CallC} (hw : c.wf) (h1 : 1 ≤ c.kind) (h5 : c.kind ≤ 5) {n N : Nat} (hc : CoreN N x) (hN : N + 1 + n < 1000000) (hn : n ≤ 499)
    {f : FloorS} {S : SlabS} {H : List ShardS} {err : Int} {ok : Bool} {id gen : Int} (ho : Out (firstC c.kind) (begZ c x) n f S H err ok id gen) :
    DoesG Tryz.prog 24 #[ptr' L.fb, .agg c.cells] [gF] fun e gs =>
      e = .returned (.tuple #[.agg (ansC err ok id gen), .int .i64 n, .bool true]) ∧ ∃ x' gF', isCore L x' gF' ∧ CoreN (N + 1 + n) x' ∧ x'.f = f ∧ x'.slab = S ∧ x'.shs = H ∧ gs = [gF'] := by
  have hj : JC (N + 1) (firstC c.kind) (begZ c x) := JC.first hc hw 0 1
  obtain ⟨hr, hf, hS, hH, he, hk, hi, hg⟩ := ho
  refine (lawRun hx c h1 h5 n (N + 1) (firstC c.kind) (begZ c x) rfl rfl hj hN hn hr).mono ?_
  rintro e gs ⟨h2, gF', hx', h3⟩
  rw [he, hk, hi, hg] at h2
  exact ⟨h2, _, gF', hx', (hj.it (N := N + 1) n).core, hf, hS, hH, h3⟩
theorem plain16_fine {room ring : Int} (h1 : 1 ≤ room) (h2 : room ≤ 64) (h3 : 1 ≤ ring) (h4 : ring ≤ 64) : (plain16 room ring).ok = true := by
  simp [plain16, Cfg.ok, Cfg.fine, Cfg.pair]; omega
theorem ends_ne {kd : Int} : (firstC kd).isNil = false := by
  unfold firstC
  split
  · rfl
  · split <;> rfl
set_option maxRecDepth 100000 in
/-- of another kind none begins -/
theorem lawRunBad {L : Lay} {x : CoreS} {gF : List Blk} (hx : isCore L x gF) (c : CallC) (hk : c.kind < 1 ∨ 5 < c.kind) :
    DoesG Tryz.prog 24 #[ptr' L.fb, .agg c.cells] [gF] fun e gs => e = .returned (.tuple #[.agg (ansC 0 false 0 0), .int .i64 0, .bool false]) ∧ gs = [gF] := by
  have HB := Lib.hid (callBegin_bad hx 0 1 c hk)
  have HA := Lib.hid callAnswer_nil
  intro w hw
  have T0 := TG.refl hw
  have HT := Lib.hid T0
  clear hw T0
  clear hx hk
  simp only [CallC.cells] at HB ⊢
  go_enter Tryz.func24, Tryz.ntmps24
  go_wp2_with fail
  have HT := Lib.hid ((HT.out.alloc (k := w.heap.size) rfl 24 #[.int .i64 c.kind, .int .u64 c.id, .int .u64 c.dl, .int .u64 c.per]).alloc (k := w.heap.size + 1) (by simp) 30 #[.int .i64 0, .bool false, .int .u64 0, .int .u64 0, .slice none 0 0])
  go_wp2_with fail
  refine (DoesG.use (HB.out) (HT.out) [0] rfl rfl).mono ?_
  rintro e w1 ⟨gs, ⟨rfl, rfl⟩, Ta⟩
  simp only [putG, List.set_cons_zero, List.set_cons_succ, List.cons_append, List.nil_append, List.append_nil] at Ta
  have HT := Lib.hid Ta
  clear Ta
  go_wp2
  have T1 := HT.out
  go_loopw [9] (fun i wr => i = .int .i64 0 ∧ wr = w1) (fun i _ => 0)
  case atStart => exact ⟨rfl, rfl⟩
  case round =>
    obtain ⟨rfl, rfl⟩ := hrel
    have HT := Lib.hid T1
    clear T1
    go_wp2_with fail
    go_wp2_with fail
    refine (DoesG.use (HA.out) (HT.out) [] rfl rfl).mono ?_
    rintro e w1 ⟨gs, ⟨rfl, rfl⟩, Ta⟩
    simp only [putG, List.set_cons_zero, List.set_cons_succ, List.cons_append, List.nil_append, List.append_nil] at Ta
    have HT := Lib.hid Ta
    clear Ta
    have e0 := HT.out.cell 2 0 rfl 0
    have fe0 := HT.out.free 2 0 rfl 0
    have e1 := HT.out.cell 2 0 rfl 1
    have fe1 := HT.out.free 2 0 rfl 1
    have e2 := HT.out.cell 2 0 rfl 2
    have fe2 := HT.out.free 2 0 rfl 2
    have e3 := HT.out.cell 2 0 rfl 3
    have fe3 := HT.out.free 2 0 rfl 3
    have e4 := HT.out.cell 2 0 rfl 4
    have fe4 := HT.out.free 2 0 rfl 4
    simp only [List.getElem?_nil, List.getElem?_toArray, List.getElem?_cons_zero, List.getElem?_cons_succ] at e0 e1 e2 e3 e4
    have lte := HT.out.lt 2 0 rfl
    simp only [] at lte
    simp only [ansC]
    go_wp2_with fail
    have HT := Lib.hid (HT.out.alloc (k := w1.heap.size) rfl 30 (ansC 0 false 0 0))
    simp only [List.cons_append, List.nil_append, ansC] at HT
    generalize World.alloc _ _ = w5 at HT ⊢
    clear e0 e1 e2 e3 e4 fe0 fe1 fe2 fe3 fe4
    have e0 := HT.out.cell 2 0 rfl 0
    have fe0 := HT.out.free 2 0 rfl 0
    have e1 := HT.out.cell 2 0 rfl 1
    have fe1 := HT.out.free 2 0 rfl 1
    have e2 := HT.out.cell 2 0 rfl 2
    have fe2 := HT.out.free 2 0 rfl 2
    have e3 := HT.out.cell 2 0 rfl 3
    have fe3 := HT.out.free 2 0 rfl 3
    have e4 := HT.out.cell 2 0 rfl 4
    have fe4 := HT.out.free 2 0 rfl 4
    simp only [List.getElem?_nil, List.getElem?_toArray, List.getElem?_cons_zero, List.getElem?_cons_succ] at e0 e1 e2 e3 e4
    have a0 := HT.out.cell 3 0 rfl 0
    have a1 := HT.out.cell 3 0 rfl 1
    have a2 := HT.out.cell 3 0 rfl 2
    have a3 := HT.out.cell 3 0 rfl 3
    have a4 := HT.out.cell 3 0 rfl 4
    simp only [List.getElem?_nil, List.getElem?_toArray, List.getElem?_cons_zero, List.getElem?_cons_succ] at a0 a1 a2 a3 a4
    refine wp_region_mix1 12 (by kernel_rfl) (by kernel_rfl) ?_
    simp only [List.take_succ_cons, List.take_zero, List.drop_succ_cons, List.drop_zero]
    repeat (go_big_quiet_step ((fail)))
    refine wpQuiet_nil ?_
    intro _ hw'
    obtain ⟨nq, hw''⟩ := hw'
    subst hw''
    have HT := Lib.hid (HT.out.drewN nq)
    go_wp2_with fail
    refine ⟨rfl, ?_⟩
    go_wp2
    exact bodyPost_ret (v := .tuple #[.agg (ansC 0 false 0 0), .int .i64 0, .bool false]) (by simp [results, Tryz.results24, go_sem, e0, e1, e2, e3, e4, ansC]) rfl ⟨_, ⟨rfl, rfl⟩, ((((((HT.out.set 2 0 rfl 0 _).set 2 0 rfl 1 _).set 2 0 rfl 2 _).set 2 0 rfl 3 _).set 2 0 rfl 4 _).pick [0] rfl)⟩
end Go.Proofs.YthbjaoinklhikaaGreat

namespace Go.Proofs.YthbjaoinklhikaaGreat
set_option linter.unusedVariables false
set_option linter.unusedSimpArgs false

/-! ## Whatever call is made alone: what it leaves (plain) -/
def waitsH (H : List ShardS) : Int := (H.map fun s => s.ring.tail - s.ring.head).sum
theorem waits_set {H : List ShardS} {i : Nat} {s : ShardS} (hs : H[i]? = some s) (s' : ShardS) : waitsH (H.set i s') + (s.ring.tail - s.ring.head) = waitsH H + (s'.ring.tail - s'.ring.head) := by
  unfold waitsH
  induction H generalizing i with
  | nil => simp at hs
  | cons a l ih =>
    cases i with
    | zero =>
      simp only [List.getElem?_cons_zero, Option.some.injEq] at hs
      subst hs
      simp only [List.set_cons_zero, List.map_cons, List.sum_cons]
      omega
    | succ i =>
      simp only [List.getElem?_cons_succ] at hs
      have := ih hs
      simp only [List.set_cons_succ, List.map_cons, List.sum_cons]
      omega
section
variable {m : Nat} {T : Int} {x : CoreS} {c : CallC}
theorem Rest.mono (h : Rest m T x) {T' : Int} (ht : T ≤ T') : Rest m T' x := ⟨h.ok, fun r hr => ⟨(h.recs r hr).1, Int.le_trans (h.recs r hr).2 ht⟩, h.used, h.ins, h.sh, h.ring⟩
theorem Rest.upd (h : Rest m T x) {j : Nat} {r r' : Rec} (hj : x.slab.recs[j]? = some r) (hr : RecOk r') (hs : stW r'.w = 0 ∨ stW r'.w = 2) (hg : genW r'.w ≤ T + 1) {cnt : Int}
    (hc : cnt + (if busyB r then 1 else 0) = x.slab.count + (if busyB r' then 1 else 0)) {H : List ShardS} (hl : H.length = x.shs.length) (hR : ∀ s ∈ H, RingR m s.ring) :
    Rest m (T + 1) { x with slab := { recs := x.slab.recs.set j r', count := cnt }, shs := H } := by
  have hu := used_set r' hj
  have h1 := h.used
  have hle := used_le (x.slab.recs.set j r')
  rw [List.length_set] at hle
  have hcnt : ((usedS (x.slab.recs.set j r') : Nat) : Int) = cnt := by
    cases hb : busyB r <;> cases hb' : busyB r' <;> simp only [hb, hb', if_true, if_false, Bool.false_eq_true] at hu hc <;> omega
  refine ⟨⟨by simpa using h.ok.n0, by simpa using h.ok.n1, by show 0 ≤ cnt; omega, by show cnt ≤ ((x.slab.recs.set j r').length : Int); rw [List.length_set]; omega, fun q hq => ?_⟩, fun q hq => ?_, hcnt, h.ins, by show 1 ≤ H.length; rw [hl]; exact h.sh, hR⟩
  · rcases List.mem_or_eq_of_mem_set hq with h2 | rfl
    · exact h.ok.recs q h2
    · exact hr
  · rcases List.mem_or_eq_of_mem_set hq with h2 | rfl
    · exact ⟨(h.recs q h2).1, by have := (h.recs q h2).2; omega⟩
    · exact ⟨hs, hg⟩
theorem word_set {s : SlabS} {j : Nat} {r r' : Rec} (hj : s.recs[j]? = some r) {cnt i : Int} (hi : i ≠ j) : ({ recs := s.recs.set j r', count := cnt } : SlabS).word i = s.word i := by
  have hl : ({ recs := s.recs.set j r', count := cnt } : SlabS).has i ↔ s.has i := by unfold SlabS.has; show _ ∧ i < ((s.recs.set j r').length : Int) ↔ _; rw [List.length_set]
  unfold SlabS.word
  by_cases h : s.has i
  · rw [if_pos (hl.2 h), if_pos h]
    have h0 := h.1
    show ((s.recs.set j r').getD i.toNat Rec.zero).w = _
    rw [List.getD_eq_getElem?_getD, List.getElem?_set, if_neg (by omega), ← List.getD_eq_getElem?_getD]
  · rw [if_neg (fun q => h (hl.1 q)), if_neg h]
theorem word_at {s : SlabS} {j : Nat} {r r' : Rec} (hj : s.recs[j]? = some r) {cnt : Int} : ({ recs := s.recs.set j r', count := cnt } : SlabS).word (j : Int) = r'.w := word_of (s := { recs := s.recs.set j r', count := cnt }) (set_at hj)
/-- what a call alone leaves -/
structure Res (m : Nat) (T : Int) (x : CoreS) (c : CallC) (n : Nat) (S : SlabS) (H : List ShardS) (err : Int) (ok : Bool) (id gen : Int) : Prop where
  out : Out (firstC c.kind) (begZ c x) n x.f S H err ok id gen
  le : n ≤ 100
  rest : Rest m (T + 1) { x with slab := S, shs := H }
  len : S.recs.length = x.slab.recs.length
  hl : H.length = x.shs.length
  no : ok = false → S.count = x.slab.count ∧ waitsH H = waitsH x.shs ∧ ∀ i, S.word i = x.slab.word i ∨ (err = 2 ∧ stW (S.word i) = 0 ∧ stW (x.slab.word i) = 0)
  yes : ok = true → x.f.closed = false ∧ err = 0 ∧ 0 ≤ id ∧ id < 18446744073709551616 ∧ (∀ i, i ≠ id % 64 → S.word i = x.slab.word i) ∧ waitsH H = waitsH x.shs + (if c.kind = 4 ∨ c.kind = 5 then 0 else 1) ∧
    S.count = x.slab.count + (if c.kind = 4 then -1 else if c.kind = 3 ∨ c.kind = 5 then 0 else 1)
  shut : x.f.closed = true → ok = false ∧ (err = 3 ∨ err = 1)
  er : err = 0 ∨ err = 1 ∨ err = 2 ∨ err = 3
theorem res_same (R : Rest m T x) {n : Nat} {err : Int} (hn : n ≤ 100) (he : err = 0 ∨ err = 1 ∨ err = 2 ∨ err = 3) (hs : x.f.closed = true → err = 3 ∨ err = 1) (p : Out (firstC c.kind) (begZ c x) n x.f x.slab x.shs err false 0 0) :
    Res m T x c n x.slab x.shs err false 0 0 :=
  ⟨p, hn, (R.mono (by omega)).mono (Int.le_refl _), rfl, rfl, fun _ => ⟨rfl, rfl, fun i => .inl rfl⟩, (fun h => nomatch h), fun h => ⟨rfl, hs h⟩, he⟩
theorem over_le (k : Int) : overN k + 1 + gateN k ≤ 5 ∧ overN k + gateN k ≤ 5 := by
  unfold overN gateN
  split <;> split <;> omega
theorem put_rings {s : ShardS} (R : Rest m T x) {i : Nat} (hs : x.shs[i]? = some s) (ht : s.ring.tail < m) (v : TaskS) : (∀ a ∈ x.shs.set i { s with ring := filledR s.ring v }, RingR m a.ring) ∧ waitsH (x.shs.set i { s with ring := filledR s.ring v }) = waitsH x.shs + 1 := by
  constructor
  · intro a ha
    rcases List.mem_or_eq_of_mem_set ha with h | rfl
    · exact R.ring a h
    · exact (R.ring s (List.mem_of_getElem? hs)).fill ht v
  · have := waits_set hs { s with ring := filledR s.ring v }
    have h2 : ({ s with ring := filledR s.ring v } : ShardS).ring.tail = s.ring.tail + 1 := rfl
    have h3 : ({ s with ring := filledR s.ring v } : ShardS).ring.head = s.ring.head := rfl
    omega
/-- Schedule, and Periodic -/
theorem alone12 (R : Rest m T x) (hw : c.wf) (hT0 : 0 ≤ T) (hT : T < 1000000) (hk : c.kind = 1 ∨ c.kind = 2) (hn : x.slab.recs.length ≤ 64) : ∃ n S H err ok id gen, Res m T x c n S H err ok id gen := by
  by_cases hb : c.kind = 2 ∧ (c.per = 0 ∨ 18446744073709551616 ≤ c.dl + c.per)
  · exact ⟨_, _, _, _, _, _, _, res_same R (by omega) (.inr (.inl rfl)) (fun _ => .inr rfl) (out_bad hb.1 hb.2)⟩
  have hf : fitC c := by
    rcases hk with h | h
    · exact .inl h
    · exact .inr ⟨h, by omega, by omega⟩
  have hi : 0 ≤ x.f.inside := by rw [R.ins]; omega
  cases hc : x.f.closed with
  | true => exact ⟨_, _, _, _, _, _, _, res_same R (by omega) (.inr (.inr (.inr rfl))) (fun _ => .inl rfl) (out_shut12 hf hc hi)⟩
  | false =>
    have hcl : x.f.closed = true → False := fun h => by rw [hc] at h; cases h
    by_cases hfull : (x.slab.recs.length : Int) ≤ x.slab.count
    · exact ⟨_, _, _, _, _, _, _, res_same R (by omega) (.inr (.inr (.inl rfl))) (fun h => (hcl h).elim) (out_none12 hf hc hi hfull)⟩
    have hcnt : x.slab.count < x.slab.recs.length := by omega
    obtain ⟨j, r, hj, hbz, hlt⟩ := R.free hcnt
    obtain ⟨s, hs, hrr⟩ := R.home (j : Int)
    obtain ⟨ho, _, hgT⟩ := R.get hj
    have hjl := (List.getElem?_eq_some_iff.1 hj).1
    have hb0 := ok_bd r.w ho.w0 ho.ok
    obtain ⟨p0, p1⟩ := per_bd hw
    have hk3 : ¬ (c.kind = 4 ∨ c.kind = 5) ∧ ¬ c.kind = 4 ∧ ¬ (c.kind = 3 ∨ c.kind = 5) := by omega
    have mk : ∀ (st : Int), (st = 0 ∨ st = 2) → RecOk ⟨packW st (genW r.w + 1) false, r.g + 1, perC c⟩ ∧ stW (packW st (genW r.w + 1) false) = st ∧ genW (packW st (genW r.w + 1) false) = genW r.w + 1 := by
      intro st hst
      have hp := packW_parts st (genW r.w + 1) false (by omega) (by omega) (by omega) (by omega)
      exact ⟨⟨hp.2.2.2.2.1, hp.2.2.2.2.2, hp.1, by have := ho.g0; show 0 ≤ r.g + 1; omega, by show r.g + 1 ≤ genW (packW st (genW r.w + 1) false); rw [hp.2.2.1]; have := ho.g1; omega, p0, p1⟩, hp.2.1, hp.2.2.1⟩
    by_cases ht : s.ring.tail < m
    · have p := out_sched R hw hf hc hj hbz hlt (by omega) hcnt hs ht
      obtain ⟨h1, h2⟩ := put_rings R hs ht ⟨idR r j, j, genW r.w + 1, c.dl, perC c⟩
      obtain ⟨m1, m2, m3⟩ := mk 2 (.inr rfl)
      refine ⟨_, _, _, _, _, _, _, p, by omega, R.upd hj m1 (.inr m2) (by show genW (packW 2 _ _) ≤ _; rw [m3]; omega) ?_ (by simp) h1, by simp, by simp, (fun h => nomatch h), fun _ => ⟨hc, rfl, ?_, ?_, fun i hi => word_set hj (by rwa [idR_slot (r := r) (by omega)] at hi), by rw [h2, if_neg hk3.1], by show x.slab.count + 1 = _; rw [if_neg hk3.2.1, if_neg hk3.2.2]⟩, (fun h => (hcl h).elim), .inl rfl⟩
      · rw [hbz, busy_true (r := ⟨packW 2 (genW r.w + 1) false, r.g + 1, perC c⟩) (by show stW (packW 2 _ _) ≠ 0; rw [m2]; omega)]
        simp
      · have := ho.g0; show 0 ≤ (r.g + 1) * 64 + (j : Int); omega
      · have := ho.g1; show (r.g + 1) * 64 + (j : Int) < _; omega
    · have htm : s.ring.tail = m := by have := hrr.t1; omega
      have p := out_noring R hw hf hc hj hbz hlt (by omega) hcnt hs htm
      obtain ⟨m1, m2, m3⟩ := mk 0 (.inl rfl)
      refine ⟨_, _, _, _, _, _, _, p, by omega, R.upd hj m1 (.inl m2) (by show genW (packW 0 _ _) ≤ _; rw [m3]; omega) ?_ rfl R.ring, by simp, rfl, fun _ => ⟨rfl, rfl, fun i => ?_⟩, (fun h => nomatch h), (fun h => (hcl h).elim), .inr (.inr (.inl rfl))⟩
      · rw [hbz, busy_false (r := ⟨packW 0 (genW r.w + 1) false, r.g + 1, perC c⟩) m2]
      · by_cases hij : i = j
        · subst hij
          refine .inr ⟨rfl, ?_, ?_⟩
          · rw [word_at hj]; exact m2
          · rw [word_of hj]; exact of_free hbz
        · exact .inl (word_set hj hij)
/-- Reset, Cancel, Stop -/
theorem alone345 (R : Rest m T x) (hw : c.wf) (hT0 : 0 ≤ T) (hT : T < 1000000) (hk : 3 ≤ c.kind) (hk5 : c.kind ≤ 5) (hn : x.slab.recs.length ≤ 64) : ∃ n S H err ok id gen, Res m T x c n S H err ok id gen := by
  have hi : 0 ≤ x.f.inside := by rw [R.ins]; omega
  have hov := over_le c.kind
  cases hc : x.f.closed with
  | true => exact ⟨_, _, _, _, _, _, _, res_same R (by omega) (.inr (.inr (.inr rfl))) (fun _ => .inl rfl) (out_shut345 hk hk5 hc hi)⟩
  | false =>
    have hcl : x.f.closed = true → False := fun h => by rw [hc] at h; cases h
    by_cases hkn : x.slab.known c.id
    · have hid := hw.id
      have hd := hkn
      unfold SlabS.known at hd
      obtain ⟨hd1, hd2, hd3⟩ := hd
      obtain ⟨j, hjj⟩ := Int.eq_ofNat_of_zero_le (show 0 ≤ c.id % 64 by omega)
      have hjl : j < x.slab.recs.length := by omega
      obtain ⟨r, hj⟩ : ∃ r, x.slab.recs[j]? = some r := ⟨_, List.getElem?_eq_getElem hjl⟩
      have hgd : x.slab.recs.getD (c.id % 64).toNat Rec.zero = r := by rw [hjj]; exact getD_of hj
      rw [hgd] at hd3
      obtain ⟨ho, hst, hgT⟩ := R.get hj
      have hb0 := ok_bd r.w ho.w0 ho.ok
      have hgone : (lookW (newW 0 1 c) x.slab).2 = 7 → ∃ n S H err ok id gen, Res m T x c n S H err ok id gen := fun h7 =>
        ⟨_, _, _, _, _, _, _, res_same R (by omega) (.inl rfl) (fun h => (hcl h).elim) (out_gone hk hk5 hc hi (by omega) (by omega))⟩
      by_cases hg : c.id / 64 = r.g
      · have hl := look_live (k := newW 0 1 c) (s := x.slab) hj (by exact hjj) (by omega) hg
        have hev : (newW 0 1 c).event = if c.kind = 4 then 6 else if c.kind = 5 then 7 else 8 := rfl
        rcases hst with hst | hst
        · refine hgone ?_
          rw [hl, hev]
          have : ∀ (p : Bool) (e : Int), (e = 6 ∨ e = 7 ∨ e = 8) → (nextW r.w e p).2 = 7 := by
            intro p e he
            have h7 : (toW (stW r.w) e (p && !lastW r.w)).2.2 = false := by
              rw [hst]
              rcases he with rfl | rfl | rfl <;> cases p && !lastW r.w <;> rfl
            rw [next_no ho.ok (by omega) (by omega) h7]
          refine this _ _ ?_
          split
          · exact .inl rfl
          · split
            · exact .inr (.inl rfl)
            · exact .inr (.inr rfl)
        · have hL : Live x c j r := ⟨hj, hjj, hg, by omega, hst, ho⟩
          have hbusy : busyB r = true := busy_true (by omega)
          have hh : c.kind = 3 ∨ c.kind = 4 ∨ c.kind = 5 := by omega
          have hcnt : 1 ≤ x.slab.count := by
            have h1 := used_set r hj
            have h2 := R.used
            have : 1 ≤ usedS x.slab.recs := by
              unfold usedS
              exact List.countP_pos_iff.2 ⟨r, List.mem_of_getElem? hj, hbusy⟩
            omega
          have mk : ∀ (st g : Int) (l : Bool), (st = 0 ∨ st = 2) → genW r.w ≤ g → g ≤ genW r.w + 1 → RecOk { r with w := packW st g l } ∧ stW (packW st g l) = st ∧ genW (packW st g l) = g := by
            intro st g l h1 h2 h3
            have hp := packW_parts st g l (by omega) (by omega) (by omega) (by omega)
            exact ⟨⟨hp.2.2.2.2.1, hp.2.2.2.2.2, hp.1, ho.g0, by show r.g ≤ genW (packW st g l); rw [hp.2.2.1]; have := ho.g1; omega, ho.p0, ho.p1⟩, hp.2.1, hp.2.2.1⟩
          rcases hh with h | h | h
          · obtain ⟨s, hs, hrr⟩ := R.home (j : Int)
            by_cases ht : s.ring.tail < m
            · have p := out_reset h hc hi hL (by omega) hs hrr ht
              obtain ⟨h1, h2⟩ := put_rings R hs ht ⟨c.id, j, genW r.w + 1, c.dl, r.p⟩
              obtain ⟨m1, m2, m3⟩ := mk 2 (genW r.w + 1) (lastW r.w) (.inr rfl) (by omega) (by omega)
              refine ⟨_, _, _, _, _, _, _, p, by omega, R.upd hj m1 (.inr m2) (by show genW (packW 2 _ _) ≤ _; rw [m3]; omega) ?_ (by simp) h1, by simp, by simp, (fun h => nomatch h), fun _ => ⟨hc, rfl, hid.1, hid.2, fun i hi => word_set hj (by rwa [hjj] at hi), by rw [h2, if_neg (by omega)], by show x.slab.count = _; rw [if_neg (by omega), if_pos (by omega)]; omega⟩, (fun h => (hcl h).elim), .inl rfl⟩
              rw [hbusy, busy_true (r := { r with w := packW 2 (genW r.w + 1) (lastW r.w) }) (by show stW (packW 2 _ _) ≠ 0; rw [m2]; omega)]
            · have htm : s.ring.tail = m := by have := hrr.t1; omega
              exact ⟨_, _, _, _, _, _, _, res_same R (by omega) (.inr (.inr (.inl rfl))) (fun h => (hcl h).elim) (out_resetfull h hc hi hL (by omega) hs hrr htm)⟩
          · have p := out_cancelled h hc hL hcnt
            obtain ⟨m1, m2, m3⟩ := mk 0 (genW r.w) false (.inl rfl) (by omega) (by omega)
            refine ⟨_, _, _, _, _, _, _, p, by omega, R.upd hj m1 (.inl m2) (by show genW (packW 0 _ _) ≤ _; rw [m3]; omega) ?_ rfl R.ring, by simp, rfl, (fun h => nomatch h), fun _ => ⟨hc, rfl, hid.1, hid.2, fun i hi => word_set hj (by rwa [hjj] at hi), by rw [if_pos (by omega)]; omega, by show x.slab.count - 1 = _; rw [if_pos h]; omega⟩, (fun h => (hcl h).elim), .inl rfl⟩
            rw [hbusy, busy_false (r := { r with w := packW 0 (genW r.w) false }) m2]
            simp
          · cases hp : (decide (0 < r.p) && !lastW r.w) with
            | true =>
              have p := out_stopped h hc hL hp
              obtain ⟨m1, m2, m3⟩ := mk 2 (genW r.w) true (.inr rfl) (by omega) (by omega)
              refine ⟨_, _, _, _, _, _, _, p, by omega, R.upd hj m1 (.inr m2) (by show genW (packW 2 _ _) ≤ _; rw [m3]; omega) ?_ rfl R.ring, by simp, rfl, (fun h => nomatch h), fun _ => ⟨hc, rfl, hid.1, hid.2, fun i hi => word_set hj (by rwa [hjj] at hi), by rw [if_pos (by omega)]; omega, by show x.slab.count = _; rw [if_neg (by omega), if_pos (by omega)]; omega⟩, (fun h => (hcl h).elim), .inl rfl⟩
              rw [hbusy, busy_true (r := { r with w := packW 2 (genW r.w) true }) (by show stW (packW 2 _ _) ≠ 0; rw [m2]; omega)]
            | false =>
              refine hgone ?_
              have h1 : (if c.kind = 4 then (6 : Int) else if c.kind = 5 then 7 else 8) = 7 := by rw [if_neg (by omega), if_pos h]
              rw [hl, hev, h1]
              show (nextW r.w 7 (decide (0 < r.p))).2 = 7
              rw [next_stop ho.ok ho.w0 hst, if_neg (by simp [hp])]
      · refine hgone (look_stale (by exact hkn) ?_)
        show x.slab.mine c.id = false
        unfold SlabS.mine
        rw [hgd]
        simp [Ne.symm hg]
    · exact ⟨_, _, _, _, _, _, _, res_same R (by omega) (.inr (.inl rfl)) (fun h => (hcl h).elim) (out_unknown hk hk5 hc hi hkn)⟩
theorem alone (R : Rest m T x) (hw : c.wf) (hT0 : 0 ≤ T) (hT : T < 1000000) (h1 : 1 ≤ c.kind) (h5 : c.kind ≤ 5) : ∃ n S H err ok id gen, Res m T x c n S H err ok id gen := by
  by_cases h : c.kind = 1 ∨ c.kind = 2
  · exact alone12 R hw hT0 hT h R.ok.n1
  · exact alone345 R hw hT0 hT (by omega) h5 R.ok.n1
end
end Go.Proofs.YthbjaoinklhikaaGreat

namespace Go.Proofs.YthbjaoinklhikaaGreat
set_option linter.unusedVariables false
set_option linter.unusedSimpArgs false
open Go.RowKit Go.Shelf

/-! ## A ring's other end: Ready, Pop, Len -/
section
variable {rb sb : Nat} {r : RingS} {C D : Array Value} {g : List Blk}
set_option maxRecDepth 100000 in
theorem ringReady_g (hg : isRing rb r g) (hr : RingB r) : DoesG Tryz.prog 114 #[ptr' rb] [g] fun e gs => e = .returned (.bool r.ready) ∧ ∃ g', isRing rb r g' ∧ gs = [g'] := by
  obtain ⟨sb, C, D, rfl, hC, hD⟩ := hg.open
  obtain ⟨ha, hal, hav⟩ := ring_at hr.n0 r.head
  intro w hw
  have T0 := TG.refl hw
  have HT := Lib.hid T0
  clear hw T0
  have HT := Lib.hid (HT.out.eq (H' := [[cl rb 185 C], [cl sb 189 D]]) rfl)
  have HA := Lib.hid (show ∀ C', ringC sb r C' → _ from fun C' hC' => (ringAt_r (rb := rb) hC' hr r.head hr.h0 hr.h1).does)
  have HS := Lib.hid (show ∀ D', slotsD r.slots D' → cellAt D' (r.at r.head * 9) (.int .i64 (r.slot r.head).seq) from fun D' h => (h.at_ _ _ ha).1)
  have HK := Lib.hid ha
  have h0 := hr.h0
  have h1 := hr.h1
  have HR := Lib.hid (show r.ready = ((r.slot r.head).seq == 2 * r.head + 1) from rfl)
  have HC := Lib.hid hC
  have HD := Lib.hid hD
  clear hg hr hC hD ha hal hav
  go_enter Tryz.func114, Tryz.ntmps114
  go_wp2_with fail
  obtain ⟨ι, W, hW0, hend, hin⟩ : ∃ (ι : Type) (W : ι → World), (∃ i, World.drew _ = W i) ∧ (∀ i, ∃ Cx Dx, (ringC sb r Cx ∧ slotsD r.slots Dx) ∧ TG [[cl rb 185 C, cl sb 189 D]] w [[cl rb 185 Cx], [cl sb 189 Dx]] (W i)) ∧ (∀ w', (∃ Cx Dx, (ringC sb r Cx ∧ slotsD r.slots Dx) ∧ TG [[cl rb 185 C, cl sb 189 D]] w [[cl rb 185 Cx], [cl sb 189 Dx]] w') → ∃ i, w' = W i) := ⟨{w' // ∃ Cx Dx, (ringC sb r Cx ∧ slotsD r.slots Dx) ∧ TG [[cl rb 185 C, cl sb 189 D]] w [[cl rb 185 Cx], [cl sb 189 Dx]] w'}, Subtype.val, ⟨⟨_, C, D, ⟨HC.out, HD.out⟩, HT.out.drew⟩, rfl⟩, fun i => i.2, fun w' h => ⟨⟨w', h⟩, rfl⟩⟩
  have hne : Nonempty ι := hW0.elim fun i _ => ⟨i⟩
  have q5 : ∀ i, (W i).cell? ⟨rb, 5, none⟩ = some (.int .i64 r.head) := fun i => by obtain ⟨_, _, h, T⟩ := hend i; exact (T.cell 0 0 rfl 5).trans h.1.head
  have m1 : ∀ i, Calls Tryz.prog 115 #[ptr' rb, .int .i64 r.head] (W i) fun e w2 => e = .returned (.pointer (some ⟨sb, r.at r.head * 9, none⟩)) ∧ ∃ j, w2 = W j := fun i => by
    obtain ⟨Cx, Dx, h, T⟩ := hend i
    refine (DoesG.use (HA.out _ h.1) T [0] rfl rfl).mono ?_
    rintro e w2 ⟨gs, ⟨rfl, rfl⟩, T2⟩
    exact ⟨rfl, hin _ ⟨Cx, Dx, h, T2⟩⟩
  have m2 : ∀ i, Calls Tryz.prog 78 #[.pointer (some ⟨sb, r.at r.head * 9, none⟩)] (W i) fun e w2 => e = .returned (.int .i64 (r.slot r.head).seq) ∧ ∃ j, w2 = W j := fun i => by
    obtain ⟨Cx, Dx, h, T⟩ := hend i
    refine (DoesG.use (cellG (loadI_does sb (r.at r.head * 9) _ Dx _ (HS.out _ h.2))) T [1] rfl rfl).mono ?_
    rintro e w2 ⟨gs, ⟨rfl, D1, hr1, rfl⟩, T2⟩
    exact ⟨rfl, hin _ ⟨Cx, D1, ⟨h.1, h.2.same HK.out hr1⟩, T2⟩⟩
  refine wp_region_cls W (by kernel_rfl) (by kernel_rfl) hW0 ?_
  repeat (go_big_quiet_step ((first | (go_at_call 115; with_reducible exact m1 _) | (go_at_call 78; with_reducible exact m2 _))))
  refine wpQuiet_nil ?_
  intro _ hw
  obtain ⟨iq, hw2⟩ := hw
  subst hw2
  obtain ⟨Cx, Dx, h, T⟩ := hend iq
  have HT := Lib.hid T
  generalize W iq = w1 at HT ⊢
  clear T hend hin hW0 hne
  have HH := Lib.hid h
  clear h
  go_wp2
  go_ret
  exact ⟨_, ⟨by rw [HR.out]; rfl, _, isRing.mk' HH.out.1 HH.out.2, rfl⟩, HT.out.eq rfl⟩
set_option maxRecDepth 100000 in
theorem ringLen_g (hg : isRing rb r g) (hr : RingB r) : DoesG Tryz.prog 80 #[ptr' rb] [g] fun e gs => e = .returned (.int .i64 (r.tail - r.head)) ∧ ∃ g', isRing rb r g' ∧ gs = [g'] := by
  obtain ⟨sb, C, D, rfl, hC, hD⟩ := hg.open
  intro w hw
  have T0 := TG.refl hw
  have HT := Lib.hid T0
  clear hw T0
  have HT := Lib.hid (HT.out.eq (H' := [[cl rb 185 C], [cl sb 189 D]]) rfl)
  have h0 := hr.h0
  have h1 := hr.h1
  have h2 := hr.t0
  have h3 := hr.t1
  have HC := Lib.hid hC
  have HD := Lib.hid hD
  clear hg hr hC hD
  go_enter Tryz.func80, Tryz.ntmps80
  go_wp2_with fail
  obtain ⟨ι, W, hW0, hend, hin⟩ : ∃ (ι : Type) (W : ι → World), (∃ i, World.drew _ = W i) ∧ (∀ i, ∃ Cx, (ringC sb r Cx) ∧ TG [[cl rb 185 C, cl sb 189 D]] w [[cl rb 185 Cx], [cl sb 189 D]] (W i)) ∧ (∀ w', (∃ Cx, (ringC sb r Cx) ∧ TG [[cl rb 185 C, cl sb 189 D]] w [[cl rb 185 Cx], [cl sb 189 D]] w') → ∃ i, w' = W i) := ⟨{w' // ∃ Cx, (ringC sb r Cx) ∧ TG [[cl rb 185 C, cl sb 189 D]] w [[cl rb 185 Cx], [cl sb 189 D]] w'}, Subtype.val, ⟨⟨_, C, HC.out, HT.out.drew⟩, rfl⟩, fun i => i.2, fun w' h => ⟨⟨w', h⟩, rfl⟩⟩
  have hne : Nonempty ι := hW0.elim fun i _ => ⟨i⟩
  have q5 : ∀ i, (W i).cell? ⟨rb, 5, none⟩ = some (.int .i64 r.head) := fun i => by obtain ⟨_, h, T⟩ := hend i; exact (T.cell 0 0 rfl 5).trans h.head
  have m2 : ∀ i, Calls Tryz.prog 78 #[.pointer (some ⟨rb, 1, none⟩)] (W i) fun e w2 => e = .returned (.int .i64 r.tail) ∧ ∃ j, w2 = W j := fun i => by
    obtain ⟨Cx, h, T⟩ := hend i
    refine (DoesG.use (cellG (loadI_does rb 1 _ Cx _ h.tail)) T [0] rfl rfl).mono ?_
    rintro e w2 ⟨gs, ⟨rfl, C1, hr1, rfl⟩, T2⟩
    exact ⟨rfl, hin _ ⟨C1, h.tailR hr1, T2⟩⟩
  refine wp_region_cls W (by kernel_rfl) (by kernel_rfl) hW0 ?_
  repeat (go_big_quiet_step ((first | (go_at_call 78; with_reducible exact m2 _))))
  refine wpQuiet_nil ?_
  intro _ hw
  obtain ⟨iq, hw2⟩ := hw
  subst hw2
  obtain ⟨Cx, h, T⟩ := hend iq
  have HT := Lib.hid T
  generalize W iq = w1 at HT ⊢
  clear T hend hin hW0 hne
  have HH := Lib.hid h
  clear h
  go_wp2
  go_ret
  exact ⟨_, ⟨by rfl, _, isRing.mk' HH.out HD.out, rfl⟩, HT.out.eq rfl⟩
set_option maxRecDepth 100000 in
theorem ringPop_g (hg : isRing rb r g) (hr : RingB r) : DoesG Tryz.prog 82 #[ptr' rb] [g] fun e gs => e = .returned (.tuple #[.agg (popR r).2.1.cells, .int .i64 (popR r).2.2]) ∧ ∃ g', isRing rb (popR r).1 g' ∧ gs = [g'] := by
  have hrd := ringReady_g hg hr
  cases hb : r.ready with
  | false =>
    have HE := Lib.hid (show popR r = (r, TaskS.zero, 6) from if_neg (by rw [hb]; decide))
    rw [hb] at hrd
    intro w hw
    have T0 := TG.refl hw
    have HT := Lib.hid T0
    clear hw T0
    have HR := Lib.hid hrd
    clear hg hr hrd hb
    go_enter Tryz.func82, Tryz.ntmps82
    go_wp2_with fail
    have HT := Lib.hid ((HT.out.alloc (k := w.heap.size) rfl 67 TaskS.zero.cells).alloc (k := w.heap.size + 1) (by simp) 67 TaskS.zero.cells)
    go_wp2_with fail
    refine (DoesG.use (HR.out) (HT.out) [0] rfl rfl).mono ?_
    rintro e w1 ⟨gs, ⟨rfl, g1, hg1, rfl⟩, Ta⟩
    simp only [putG, List.set_cons_zero, List.set_cons_succ, List.cons_append, List.nil_append, List.append_nil] at Ta
    have HG := Lib.hid hg1
    clear hg1
    have HT := Lib.hid Ta
    clear Ta
    have a0 := HT.out.cell 1 0 rfl 0
    have fa0 := HT.out.free 1 0 rfl 0
    have a1 := HT.out.cell 1 0 rfl 1
    have fa1 := HT.out.free 1 0 rfl 1
    have a2 := HT.out.cell 1 0 rfl 2
    have fa2 := HT.out.free 1 0 rfl 2
    have a3 := HT.out.cell 1 0 rfl 3
    have fa3 := HT.out.free 1 0 rfl 3
    have a4 := HT.out.cell 1 0 rfl 4
    have fa4 := HT.out.free 1 0 rfl 4
    simp only [TaskS.cells, TaskS.zero, List.getElem?_toArray, List.getElem?_cons_zero, List.getElem?_cons_succ] at a0 a1 a2 a3 a4
    have b0 := HT.out.cell 2 0 rfl 0
    have fb0 := HT.out.free 2 0 rfl 0
    have b1 := HT.out.cell 2 0 rfl 1
    have fb1 := HT.out.free 2 0 rfl 1
    have b2 := HT.out.cell 2 0 rfl 2
    have fb2 := HT.out.free 2 0 rfl 2
    have b3 := HT.out.cell 2 0 rfl 3
    have fb3 := HT.out.free 2 0 rfl 3
    have b4 := HT.out.cell 2 0 rfl 4
    have fb4 := HT.out.free 2 0 rfl 4
    simp only [TaskS.cells, TaskS.zero, List.getElem?_toArray, List.getElem?_cons_zero, List.getElem?_cons_succ] at b0 b1 b2 b3 b4
    go_wp2
    exact bodyPost_ret (v := .tuple #[.agg TaskS.zero.cells, .int .i64 6]) (by simp [results, Tryz.results82, go_sem, a0, a1, a2, a3, a4, TaskS.cells, TaskS.zero]) rfl ⟨_, ⟨by rw [HE.out], g1, by rw [HE.out]; exact HG.out, rfl⟩, ((((((HT.out.set 1 0 rfl 0 _).set 1 0 rfl 1 _).set 1 0 rfl 2 _).set 1 0 rfl 3 _).set 1 0 rfl 4 _).pick [0] rfl)⟩
  | true =>
    have HE := Lib.hid (show popR r = ({ r with slots := r.slots.set (r.at r.head) ⟨2 * (r.head + r.slots.length), TaskS.zero⟩, head := r.head + 1 }, (r.slot r.head).v, 0) from if_pos hb)
    rw [hb] at hrd
    intro w hw
    have T0 := TG.refl hw
    have HT := Lib.hid T0
    clear hw T0
    have HR := Lib.hid hrd
    have HRB := Lib.hid hr
    clear hg hr hrd hb
    go_enter Tryz.func82, Tryz.ntmps82
    go_wp2_with fail
    have HT := Lib.hid ((HT.out.alloc (k := w.heap.size) rfl 67 TaskS.zero.cells).alloc (k := w.heap.size + 1) (by simp) 67 TaskS.zero.cells)
    go_wp2_with fail
    refine (DoesG.use (HR.out) (HT.out) [0] rfl rfl).mono ?_
    rintro e w1 ⟨gs, ⟨rfl, g1, hg1, rfl⟩, Ta⟩
    simp only [putG, List.set_cons_zero, List.set_cons_succ, List.cons_append, List.nil_append, List.append_nil] at Ta
    have HT := Lib.hid Ta
    clear Ta
    obtain ⟨sb, C, D, rfl, hC, hD⟩ := hg1.open
    have HT := Lib.hid (HT.out.sum (H' := [[cl rb 185 C], [cl sb 189 D], [cl w.heap.size 67 TaskS.zero.cells], [cl (w.heap.size + 1) 67 TaskS.zero.cells]]) (fun n ha h0 h1 h2 => by simp only [pickG, List.map_cons, List.map_nil, List.getD_cons_succ, List.getD_cons_zero, List.set_cons_succ, List.set_cons_zero, List.cons_append, List.flatten_append, List.flatten_cons, List.flatten_nil, List.append_nil, List.nil_append, ha, h0, h1, h2] <;> omega))
    obtain ⟨ha, hal, hav⟩ := ring_at HRB.out.n0 r.head
    have h0 := HRB.out.h0
    have h1 := HRB.out.h1
    have hn0 := HRB.out.n0
    have hn1 := HRB.out.n1
    have HC := Lib.hid hC
    have HD := Lib.hid hD
    have HA := Lib.hid (ringAt_r (rb := rb) hC HRB.out r.head h0 h1)
    have HV := Lib.hid (hD.fill ha TaskS.zero (2 * (r.head + r.slots.length)))
    have HCS := Lib.hid ((hC.withSlots (l := r.slots.set (r.at r.head) ⟨2 * (r.head + r.slots.length), TaskS.zero⟩) (List.length_set ..)).headR (r.head + 1))
    have hcell := (hD.at_ _ _ ha).1
    obtain ⟨e0, e1, e2, e3, e4⟩ := (hD.at_ _ _ ha).2
    generalize r.slot r.head = s at *
    generalize r.at r.head = k at *
    have HP := Lib.hid (show cellAt (putTask D (k * 9 + 4) TaskS.zero) (k * 9) (.int .i64 s.seq) from by
      obtain ⟨a0, l0, t0, u0, a1, a2, a3⟩ := hcell
      exact ⟨(putTask_ne (by omega)).trans a0, l0, t0, u0, (putTask_ne (by omega)).trans a1, (putTask_ne (by omega)).trans a2, (putTask_ne (by omega)).trans a3⟩)
    have HEE := Lib.hid (And.intro e0 (And.intro e1 (And.intro e2 (And.intro e3 e4))))
    have c5 := (HT.out.cell 0 0 rfl 5).trans hC.head
    clear hg1 hC hD ha hal hav e0 e1 e2 e3 e4 hcell
    go_wp2_with fail
    refine (ReadsG.use (HA.out) (HT.out) [0] rfl rfl).mono ?_
    rintro e w1 ⟨rfl, mq, rfl⟩
    have HT := Lib.hid (HT.out.drewN mq)
    generalize World.drewN _ _ = wq at HT ⊢
    clear c5
    have z0 := HT.out.cell 3 0 rfl 0
    have z1 := HT.out.cell 3 0 rfl 1
    have z2 := HT.out.cell 3 0 rfl 2
    have z3 := HT.out.cell 3 0 rfl 3
    have z4 := HT.out.cell 3 0 rfl 4
    simp only [TaskS.cells, TaskS.zero, List.getElem?_toArray, List.getElem?_cons_zero, List.getElem?_cons_succ] at z0 z1 z2 z3 z4
    have d0 := (HT.out.cell 1 0 rfl (k * 9 + 4)).trans HEE.out.1
    have d1 := (HT.out.cell 1 0 rfl (k * 9 + 4 + 1)).trans HEE.out.2.1
    have d2 := (HT.out.cell 1 0 rfl (k * 9 + 4 + 2)).trans HEE.out.2.2.1
    have d3 := (HT.out.cell 1 0 rfl (k * 9 + 4 + 3)).trans HEE.out.2.2.2.1
    have d4 := (HT.out.cell 1 0 rfl (k * 9 + 4 + 4)).trans HEE.out.2.2.2.2
    have g0 := HT.out.free 1 0 rfl (k * 9 + 4)
    have g1 := HT.out.free 1 0 rfl (k * 9 + 4 + 1)
    have g2 := HT.out.free 1 0 rfl (k * 9 + 4 + 2)
    have g3 := HT.out.free 1 0 rfl (k * 9 + 4 + 3)
    have g4 := HT.out.free 1 0 rfl (k * 9 + 4 + 4)
    have lt1 := HT.out.lt 1 0 rfl
    have lt3 := HT.out.lt 3 0 rfl
    simp only [] at lt1 lt3
    go_wp2
    have HT := Lib.hid (((((((HT.out.set 1 0 rfl (k * 9 + 4) (.int .u64 0)).set 1 0 rfl (k * 9 + 4 + 1) (.int .i64 0)).set 1 0 rfl (k * 9 + 4 + 2) (.int .u64 0)).set 1 0 rfl (k * 9 + 4 + 3) (.int .u64 0)).set 1 0 rfl (k * 9 + 4 + 4) (.int .u64 0)).alloc (k := wq.heap.size) (by simp) 67 s.v.cells).eq (H' := [[cl rb 185 C], [cl sb 189 (putTask D (k * 9 + 4) TaskS.zero)], [cl w.heap.size 67 TaskS.zero.cells], [cl (w.heap.size + 1) 67 TaskS.zero.cells], [cl wq.heap.size 67 s.v.cells]]) rfl)
    simp only [TaskS.cells] at HT
    clear z0 z1 z2 z3 z4 d0 d1 d2 d3 d4 g0 g1 g2 g3 g4 lt1 lt3
    generalize World.alloc _ _ = w2 at HT ⊢
    have c5 := (HT.out.cell 0 0 rfl 5).trans HC.out.head
    have c0 := (HT.out.cell 0 0 rfl 0).trans HC.out.sl
    refine wp_region_mix1 14 (by kernel_rfl) (by kernel_rfl) ?_
    simp only [List.take_succ_cons, List.take_zero, List.drop_succ_cons, List.drop_zero]
    repeat (go_big_quiet_step ((fail)))
    refine wpQuiet_nil ?_
    intro _ hw'
    obtain ⟨nq, hw''⟩ := hw'
    subst hw''
    have HT := Lib.hid (HT.out.drewN nq)
    go_wp2_with fail
    refine (DoesG.use (storeC_g _ _ _ _ _ _ HP.out) (HT.out) [1] rfl rfl).mono ?_
    rintro e w1 ⟨gs, ⟨rfl, rfl⟩, Ta⟩
    simp only [putG, List.set_cons_zero, List.set_cons_succ, List.cons_append, List.nil_append, List.append_nil] at Ta
    have HT := Lib.hid Ta
    clear Ta
    go_wp2_with fail
    refine ⟨rfl, ?_⟩
    have HT := Lib.hid (HT.out.eq (H' := [[cl rb 185 C], [cl sb 189 ((putTask D (k * 9 + 4) TaskS.zero).setIfInBounds (k * 9) (.int .i64 (2 * (r.head + r.slots.length))))], [cl w.heap.size 67 TaskS.zero.cells], [cl (w.heap.size + 1) 67 TaskS.zero.cells], [cl wq.heap.size 67 s.v.cells]]) rfl)
    clear c5 c0
    have c5 := (HT.out.cell 0 0 rfl 5).trans HC.out.head
    have f5 := HT.out.free 0 0 rfl 5
    have a0 := HT.out.cell 2 0 rfl 0
    have fa0 := HT.out.free 2 0 rfl 0
    have a1 := HT.out.cell 2 0 rfl 1
    have fa1 := HT.out.free 2 0 rfl 1
    have a2 := HT.out.cell 2 0 rfl 2
    have fa2 := HT.out.free 2 0 rfl 2
    have a3 := HT.out.cell 2 0 rfl 3
    have fa3 := HT.out.free 2 0 rfl 3
    have a4 := HT.out.cell 2 0 rfl 4
    have fa4 := HT.out.free 2 0 rfl 4
    simp only [TaskS.cells, TaskS.zero, List.getElem?_toArray, List.getElem?_cons_zero, List.getElem?_cons_succ] at a0 a1 a2 a3 a4
    have b0 := HT.out.cell 4 0 rfl 0
    have b1 := HT.out.cell 4 0 rfl 1
    have b2 := HT.out.cell 4 0 rfl 2
    have b3 := HT.out.cell 4 0 rfl 3
    have b4 := HT.out.cell 4 0 rfl 4
    simp only [TaskS.cells, List.getElem?_toArray, List.getElem?_cons_zero, List.getElem?_cons_succ] at b0 b1 b2 b3 b4
    have n1 := HT.out.ne 0 0 2 0 (by decide) rfl rfl
    have n2 := HT.out.ne 0 0 4 0 (by decide) rfl rfl
    have n3 := HT.out.ne 2 0 4 0 (by decide) rfl rfl
    simp only [] at n1 n2 n3
    go_wp2
    exact bodyPost_ret (v := .tuple #[.agg s.v.cells, .int .i64 0]) (by simp [results, Tryz.results82, go_sem, a0, a1, a2, a3, a4, TaskS.cells, n1]) rfl ⟨_, ⟨by rw [HE.out], _, by rw [HE.out]; exact isRing.mk' HCS.out HV.out, rfl⟩, (((((((HT.out.set 0 0 rfl 5 _).set 2 0 rfl 0 _).set 2 0 rfl 1 _).set 2 0 rfl 2 _).set 2 0 rfl 3 _).set 2 0 rfl 4 _).pick [0, 1] rfl).eq rfl⟩
end
end Go.Proofs.YthbjaoinklhikaaGreat

namespace Go.Proofs.YthbjaoinklhikaaGreat
set_option linter.unusedVariables false
set_option linter.unusedSimpArgs false
open Go.RowKit Go.Shelf

/-! ## What waits in a shard -/
section
variable {q : ShP} {s : ShardS} {g : List Blk}
set_option maxRecDepth 100000 in
theorem shardPop_g (hg : isSh q s g) (hr : RingB s.ring) : DoesG Tryz.prog 33 #[ptr' q.b] [g] fun e gs =>
    e = .returned (.tuple #[.agg (popR s.ring).2.1.cells, .int .i64 (popR s.ring).2.2]) ∧ ∃ g', isSh q { s with ring := (popR s.ring).1 } g' ∧ gs = [g'] := by
  obtain ⟨gr, gl, h1, h2, rfl⟩ := hg
  have hp := ringPop_g h1 hr
  generalize popR s.ring = p at *
  intro w hw
  have T0 := TG.refl hw
  have HT := Lib.hid T0
  clear hw T0
  have HT := Lib.hid (HT.out.sum (H' := [shardB q.b q.rb q.lb q.wb, gr, gl]) (fun n ha h0 h1 h2 => by simp only [pickG, List.map_cons, List.map_nil, List.getD_cons_succ, List.getD_cons_zero, List.set_cons_succ, List.set_cons_zero, List.cons_append, List.flatten_append, List.flatten_cons, List.flatten_nil, List.append_nil, List.nil_append, ha, h0, h1, h2] <;> omega))
  have HP := Lib.hid hp
  have HL := Lib.hid h2
  clear h1 h2 hp hr
  go_enter Tryz.func33, Tryz.ntmps33
  go_wp2_with fail
  refine (DoesG.use (shardParts_g q.b q.rb q.lb q.wb) (HT.out.alloc (k := w.heap.size) rfl 67 TaskS.zero.cells) [0] rfl rfl).mono ?_
  rintro e w1 ⟨gs, ⟨rfl, rfl⟩, Ta⟩
  simp only [putG, List.set_cons_zero, List.set_cons_succ, List.cons_append, List.nil_append, List.append_nil] at Ta
  have HT := Lib.hid Ta
  clear Ta
  have hf := fun w => (inner_field (ptr' q.rb) (ptr' q.lb) (ptr' q.wb) w).1
  go_wp2_with fail
  refine (DoesG.use (HP.out) (HT.out) [1] rfl rfl).mono ?_
  rintro e w1 ⟨gs, ⟨rfl, g1, hg1, rfl⟩, Ta⟩
  simp only [putG, List.set_cons_zero, List.set_cons_succ, List.cons_append, List.nil_append, List.append_nil] at Ta
  have HG := Lib.hid hg1
  clear hg1
  have HT := Lib.hid Ta
  clear Ta
  have a0 := HT.out.cell 3 0 rfl 0
  have fa0 := HT.out.free 3 0 rfl 0
  have a1 := HT.out.cell 3 0 rfl 1
  have fa1 := HT.out.free 3 0 rfl 1
  have a2 := HT.out.cell 3 0 rfl 2
  have fa2 := HT.out.free 3 0 rfl 2
  have a3 := HT.out.cell 3 0 rfl 3
  have fa3 := HT.out.free 3 0 rfl 3
  have a4 := HT.out.cell 3 0 rfl 4
  have fa4 := HT.out.free 3 0 rfl 4
  simp only [TaskS.cells, TaskS.zero, List.getElem?_toArray, List.getElem?_cons_zero, List.getElem?_cons_succ] at a0 a1 a2 a3 a4
  simp only [TaskS.cells]
  go_wp2
  exact bodyPost_ret (v := .tuple #[.agg p.2.1.cells, .int .i64 p.2.2]) (by simp [results, Tryz.results33, go_sem, a0, a1, a2, a3, a4, TaskS.cells]) rfl ⟨_, ⟨rfl, _, ⟨g1, gl, HG.out, HL.out, rfl⟩, rfl⟩, ((((((HT.out.set 3 0 rfl 0 _).set 3 0 rfl 1 _).set 3 0 rfl 2 _).set 3 0 rfl 3 _).set 3 0 rfl 4 _).pick [0, 1, 2] rfl).sum (fun n ha h0 h1 h2 => by simp only [pickG, List.map_cons, List.map_nil, List.getD_cons_succ, List.getD_cons_zero, List.set_cons_succ, List.set_cons_zero, List.cons_append, List.flatten_append, List.flatten_cons, List.flatten_nil, List.append_nil, List.nil_append, ha, h0, h1, h2] <;> omega)⟩
set_option maxRecDepth 100000 in
theorem shardWaiting_g (hg : isSh q s g) (hr : RingB s.ring) : DoesG Tryz.prog 30 #[ptr' q.b] [g] fun e gs => e = .returned (.int .i64 (s.ring.tail - s.ring.head)) ∧ ∃ g', isSh q s g' ∧ gs = [g'] := by
  obtain ⟨gr, gl, h1, h2, rfl⟩ := hg
  have hp := ringLen_g h1 hr
  intro w hw
  have T0 := TG.refl hw
  have HT := Lib.hid T0
  clear hw T0
  have HT := Lib.hid (HT.out.sum (H' := [shardB q.b q.rb q.lb q.wb, gr, gl]) (fun n ha h0 h1 h2 => by simp only [pickG, List.map_cons, List.map_nil, List.getD_cons_succ, List.getD_cons_zero, List.set_cons_succ, List.set_cons_zero, List.cons_append, List.flatten_append, List.flatten_cons, List.flatten_nil, List.append_nil, List.nil_append, ha, h0, h1, h2] <;> omega))
  have HP := Lib.hid hp
  have HL := Lib.hid h2
  clear h1 h2 hp hr
  go_enter Tryz.func30, Tryz.ntmps30
  go_wp2_with fail
  refine (DoesG.use (shardParts_g q.b q.rb q.lb q.wb) (HT.out) [0] rfl rfl).mono ?_
  rintro e w1 ⟨gs, ⟨rfl, rfl⟩, Ta⟩
  simp only [putG, List.set_cons_zero, List.set_cons_succ, List.cons_append, List.nil_append, List.append_nil] at Ta
  have HT := Lib.hid Ta
  clear Ta
  have hf := fun w => (inner_field (ptr' q.rb) (ptr' q.lb) (ptr' q.wb) w).1
  go_wp2_with fail
  refine (DoesG.use (HP.out) (HT.out) [1] rfl rfl).mono ?_
  rintro e w1 ⟨gs, ⟨rfl, g1, hg1, rfl⟩, Ta⟩
  simp only [putG, List.set_cons_zero, List.set_cons_succ, List.cons_append, List.nil_append, List.append_nil] at Ta
  have HG := Lib.hid hg1
  clear hg1
  have HT := Lib.hid Ta
  clear Ta
  go_wp2
  go_ret
  exact ⟨_, ⟨rfl, _, ⟨g1, gl, HG.out, HL.out, rfl⟩, rfl⟩, HT.out.sum (fun n ha h0 h1 h2 => by simp only [pickG, List.map_cons, List.map_nil, List.getD_cons_succ, List.getD_cons_zero, List.set_cons_succ, List.set_cons_zero, List.cons_append, List.flatten_append, List.flatten_cons, List.flatten_nil, List.append_nil, List.nil_append, ha, h0, h1, h2] <;> omega)⟩
set_option maxRecDepth 100000 in
theorem shardReady_g (hg : isSh q s g) (hr : RingB s.ring) : DoesG Tryz.prog 225 #[ptr' q.b] [g] fun e gs => e = .returned (.bool s.ring.ready) ∧ ∃ g', isSh q s g' ∧ gs = [g'] := by
  obtain ⟨gr, gl, h1, h2, rfl⟩ := hg
  have hp := ringReady_g h1 hr
  intro w hw
  have T0 := TG.refl hw
  have HT := Lib.hid T0
  clear hw T0
  have HT := Lib.hid (HT.out.sum (H' := [shardB q.b q.rb q.lb q.wb, gr, gl]) (fun n ha h0 h1 h2 => by simp only [pickG, List.map_cons, List.map_nil, List.getD_cons_succ, List.getD_cons_zero, List.set_cons_succ, List.set_cons_zero, List.cons_append, List.flatten_append, List.flatten_cons, List.flatten_nil, List.append_nil, List.nil_append, ha, h0, h1, h2] <;> omega))
  have HP := Lib.hid hp
  have HL := Lib.hid h2
  clear h1 h2 hp hr
  go_enter Tryz.func225, Tryz.ntmps225
  go_wp2_with fail
  refine (DoesG.use (shardParts_g q.b q.rb q.lb q.wb) (HT.out) [0] rfl rfl).mono ?_
  rintro e w1 ⟨gs, ⟨rfl, rfl⟩, Ta⟩
  simp only [putG, List.set_cons_zero, List.set_cons_succ, List.cons_append, List.nil_append, List.append_nil] at Ta
  have HT := Lib.hid Ta
  clear Ta
  have hf := fun w => (inner_field (ptr' q.rb) (ptr' q.lb) (ptr' q.wb) w).1
  go_wp2_with fail
  refine (DoesG.use (HP.out) (HT.out) [1] rfl rfl).mono ?_
  rintro e w1 ⟨gs, ⟨rfl, g1, hg1, rfl⟩, Ta⟩
  simp only [putG, List.set_cons_zero, List.set_cons_succ, List.cons_append, List.nil_append, List.append_nil] at Ta
  have HG := Lib.hid hg1
  clear hg1
  have HT := Lib.hid Ta
  clear Ta
  go_wp2
  go_ret
  exact ⟨_, ⟨rfl, _, ⟨g1, gl, HG.out, HL.out, rfl⟩, rfl⟩, HT.out.sum (fun n ha h0 h1 h2 => by simp only [pickG, List.map_cons, List.map_nil, List.getD_cons_succ, List.getD_cons_zero, List.set_cons_succ, List.set_cons_zero, List.cons_append, List.flatten_append, List.flatten_cons, List.flatten_nil, List.append_nil, List.nil_append, ha, h0, h1, h2] <;> omega)⟩
end
section
variable {L : Lay} {x : CoreS} {g : List Blk}
/-- of one shard of a core -/
theorem coreShard {F : Nat} {args : Array Value} {i : Nat} {q : ShP} {s s' : ShardS} {v : Value} (hx : isCore L x g) (hq : L.qs[i]? = some q) (hs : x.shs[i]? = some s)
    (hd : ∀ g, isSh q s g → DoesG Tryz.prog F args [g] fun e gs => e = .returned v ∧ ∃ g', isSh q s' g' ∧ gs = [g']) :
    DoesG Tryz.prog F args [g] fun e gs => e = .returned v ∧ ∃ g', isCore L { x with shs := x.shs.set i s' } g' ∧ gs = [g'] := by
  obtain ⟨tr, gF, gS, gR, gH, gT, h1, h2, h3, h4, h5, h6, rfl⟩ := hx
  have hz : (L.qs.zip x.shs)[i]? = some (q, s) := zip_at hq hs
  obtain ⟨u, y, hu, hp, hback⟩ := h5.out hz
  intro w hw
  have T := (((TG.refl hw).sum (H' := [gF ++ (gS ++ (gR ++ gT)), gH]) (fun n ha h0 h1 h2 => by simp only [pickG, List.map_cons, List.map_nil, List.getD_cons_succ, List.getD_cons_zero, List.set_cons_succ, List.set_cons_zero, List.cons_append, List.flatten_append, List.flatten_cons, List.flatten_nil, List.append_nil, List.nil_append, ha, h0, h1, h2] <;> omega)).permAt 1 rfl hp).sum (H' := [gF ++ (gS ++ (gR ++ gT)), u, y]) (fun n ha h0 h1 h2 => by simp only [pickG, List.map_cons, List.map_nil, List.getD_cons_succ, List.getD_cons_zero, List.set_cons_succ, List.set_cons_zero, List.cons_append, List.flatten_append, List.flatten_cons, List.flatten_nil, List.append_nil, List.nil_append, ha, h0, h1, h2] <;> omega)
  refine (DoesG.use (hd u hu) T [1] rfl rfl).mono ?_
  rintro e w' ⟨gs, ⟨he, g1, hn1, rfl⟩, T'⟩
  obtain ⟨gH', hf, hp'⟩ := hback (q, s') g1 hn1
  rw [zip_set i hq] at hf
  refine ⟨_, ⟨he, _, ⟨tr, gF, gS, gR, gH', gT, h1, h2, h3, by simpa using h4, hf, h6, rfl⟩, rfl⟩, ?_⟩
  exact ((TG.sum (H := [gF ++ (gS ++ (gR ++ gT)), g1, y]) (H' := [gF ++ (gS ++ (gR ++ gT)), g1 ++ y]) T' (fun n ha h0 h1 h2 => by simp only [pickG, List.map_cons, List.map_nil, List.getD_cons_succ, List.getD_cons_zero, List.set_cons_succ, List.set_cons_zero, List.cons_append, List.flatten_append, List.flatten_cons, List.flatten_nil, List.append_nil, List.nil_append, ha, h0, h1, h2] <;> omega)).permAt 1 rfl hp').sum (fun n ha h0 h1 h2 => by simp only [pickG, List.map_cons, List.map_nil, List.getD_cons_succ, List.getD_cons_zero, List.set_cons_succ, List.set_cons_zero, List.cons_append, List.flatten_append, List.flatten_cons, List.flatten_nil, List.append_nil, List.nil_append, ha, h0, h1, h2] <;> omega)
theorem core_shs_same {x : CoreS} {i : Nat} {s : ShardS} (hs : x.shs[i]? = some s) : ({ x with shs := x.shs.set i s } : CoreS) = x := by
  have : x.shs.set i s = x.shs := fam_set_same hs
  rw [this]
theorem corePop (hx : isCore L x g) {i : Nat} {q : ShP} {s : ShardS} (hq : L.qs[i]? = some q) (hs : x.shs[i]? = some s) (hr : RingB s.ring) : DoesG Tryz.prog 33 #[ptr' q.b] [g] fun e gs =>
    e = .returned (.tuple #[.agg (popR s.ring).2.1.cells, .int .i64 (popR s.ring).2.2]) ∧ ∃ g', isCore L { x with shs := x.shs.set i { s with ring := (popR s.ring).1 } } g' ∧ gs = [g'] :=
  coreShard hx hq hs fun g hg => shardPop_g hg hr
theorem coreWaiting (hx : isCore L x g) {i : Nat} {q : ShP} {s : ShardS} (hq : L.qs[i]? = some q) (hs : x.shs[i]? = some s) (hr : RingB s.ring) : DoesG Tryz.prog 30 #[ptr' q.b] [g] fun e gs =>
    e = .returned (.int .i64 (s.ring.tail - s.ring.head)) ∧ ∃ g', isCore L x g' ∧ gs = [g'] := by
  have := coreShard hx hq hs fun g hg => shardWaiting_g hg hr
  rwa [core_shs_same hs] at this
theorem coreReady (hx : isCore L x g) {i : Nat} {q : ShP} {s : ShardS} (hq : L.qs[i]? = some q) (hs : x.shs[i]? = some s) (hr : RingB s.ring) : DoesG Tryz.prog 225 #[ptr' q.b] [g] fun e gs =>
    e = .returned (.bool s.ring.ready) ∧ ∃ g', isCore L x g' ∧ gs = [g'] := by
  have := coreShard hx hq hs fun g hg => shardReady_g hg hr
  rwa [core_shs_same hs] at this
theorem coreShardAt_r (hx : isCore L x g) (i : Int) : ReadsG Tryz.prog 29 #[ptr' L.fb, .int .i64 i] [g] (shardV (L.qs.map ShP.b) i) := by
  obtain ⟨tr, gF, gS, gR, gH, gT, h1, h2, h3, h4, h5, h6, rfl⟩ := hx
  intro w hw
  have T := (TG.refl hw).sum (H' := [gF, gS, gR, gH, gT]) (fun n ha h0 h1 h2 => by simp only [pickG, List.map_cons, List.map_nil, List.getD_cons_succ, List.getD_cons_zero, List.set_cons_succ, List.set_cons_zero, List.cons_append, List.flatten_append, List.flatten_cons, List.flatten_nil, List.append_nil, List.nil_append, ha, h0, h1, h2] <;> omega)
  exact (floorShard_r h1 h3 i).use T [0, 2] rfl rfl
end
theorem core_q {L : Lay} {x : CoreS} {g : List Blk} (hx : isCore L x g) {i : Nat} (hi : i < x.shs.length) : ∃ q, L.qs[i]? = some q ∧ shardV (L.qs.map ShP.b) i = ptr' q.b := by
  obtain ⟨tr, gF, gS, gR, gH, gT, h1, h2, h3, h4, h5, h6, rfl⟩ := hx
  have hl : i < L.qs.length := by omega
  refine ⟨L.qs[i], List.getElem?_eq_getElem hl, ?_⟩
  unfold shardV
  rw [if_pos (by simp; omega)]
  simp [hl]
end Go.Proofs.YthbjaoinklhikaaGreat

namespace Go.Proofs.YthbjaoinklhikaaGreat
set_option linter.unusedVariables false
set_option linter.unusedSimpArgs false
open Go.RowKit Go.Shelf

/-! ## Calls that came in -/
def CallC.zero : CallC := ⟨0, 0, 0, 0⟩
def CallsAt (w : World) (a : Option Addr) (zs : List CallC) : Prop :=
  zs = [] ∨ ∃ b off, a = some ⟨b, off, none⟩ ∧ b < w.heap.size ∧ ∀ i j, i < zs.length → j < 4 → w.cell? ⟨b, off + (i * 4 + j), none⟩ = (zs.getD i CallC.zero).cells[j]?
theorem CallsAt.cells {w : World} {a : Option Addr} {zs : List CallC} (h : CallsAt w a zs) {k : Nat} (hk : k < zs.length) {H : GH} {w' : World} (T : TG [] w H w') :
    ∃ b off, a = some ⟨b, off, none⟩ ∧ b < w.heap.size ∧ ∃ z, zs.getD k CallC.zero = z ∧ z ∈ zs ∧
    w'.cell? ⟨b, off + k * 4, none⟩ = some (.int .i64 z.kind) ∧ w'.cell? ⟨b, off + k * 4 + 1, none⟩ = some (.int .u64 z.id) ∧ w'.cell? ⟨b, off + k * 4 + 2, none⟩ = some (.int .u64 z.dl) ∧ w'.cell? ⟨b, off + k * 4 + 3, none⟩ = some (.int .u64 z.per) := by
  rcases h with rfl | ⟨b, off, h1, h2, h3⟩
  · simp at hk
  · have hh := fun j (hj : j < 4) => (T.old (p := ⟨b, off + (k * 4 + j), none⟩) h2).trans (h3 k j hk hj)
    simp only [← Nat.add_assoc] at hh
    exact ⟨b, off, h1, h2, zs.getD k CallC.zero, rfl, by rw [List.getD_eq_getElem?_getD, List.getElem?_eq_getElem hk]; exact List.getElem_mem hk, hh 0 (by omega), hh 1 (by omega), hh 2 (by omega), hh 3 (by omega)⟩
end Go.Proofs.YthbjaoinklhikaaGreat
