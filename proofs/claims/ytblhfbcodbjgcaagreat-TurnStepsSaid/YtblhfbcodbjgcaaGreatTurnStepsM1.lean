import Derived.Test.YtblhfbcodbjgcaaGreatTV33
namespace Go.Proofs.YtblhfbcodbjgcaaGreat
set_option linter.unusedVariables false
set_option linter.unusedSimpArgs false
open Go.RowKit Go.Shelf
abbrev F3 : Type := CoreS × List WheelS × PipeS
def f30 (n : Int) : F3 := ((zf0 (plain17 n)).x, (zf0 (plain17 n)).ws, (zf0 (plain17 n)).p)
def begF (i : Nat) (f : F3) : ZT := begT 0 i f.1 f.2.1 f.2.2
def nextF (m i : Nat) (f : F3) : F3 := ((itT m firstT (begF i f)).2.x, (itT m firstT (begF i f)).2.ws, (itT m firstT (begF i f)).2.p)
def okF (n m i : Nat) (f : F3) : Bool := runsT m firstT (begF i f) && (itT m firstT (begF i f)).1.isNil
def doneF (n i : Nat) (f : F3) : Bool := (List.range n).all (fun s => (f.2.1.getD s wheel0S).now == i && (f.1.shs.getD s (newShard 1)).turns == (i : Int)) && f.2.2.ch.isEmpty && f.2.2.sp.isEmpty && f.1.f.inside == 0
def allF (n m : Nat) : Nat → Nat → F3 → Bool
  | 0, _, _ => true
  | k + 1, i, f => okF n m i f && (doneF n (i + 1) (nextF m i f) && allF n m k (i + 1) (nextF m i f))
def itF (m : Nat) : Nat → Nat → F3 → F3
  | 0, _, f => f
  | k + 1, i, f => itF m k (i + 1) (nextF m i f)
theorem allF1 : allF 1 9 20 0 (f30 1) = true := by kernel_rfl
theorem allF2 : allF 2 13 20 0 (f30 2) = true := by kernel_rfl
theorem allF3 : allF 3 17 20 0 (f30 3) = true := by kernel_rfl
theorem allF4 : allF 4 21 20 0 (f30 4) = true := by kernel_rfl
theorem itF_next (m : Nat) : ∀ (k i : Nat) (f : F3), itF m (k + 1) i f = nextF m (i + k) (itF m k i f)
  | 0, i, f => rfl
  | k + 1, i, f => by
    show itF m (k + 1) (i + 1) (nextF m i f) = _
    rw [itF_next m k]
    show nextF m (i + 1 + k) _ = nextF m (i + (k + 1)) _
    rw [show i + 1 + k = i + (k + 1) by omega]
    rfl
theorem allF_use {n m : Nat} : ∀ {k i : Nat} {f : F3}, allF n m k i f = true → ∀ j, j < k → okF n m (i + j) (itF m j i f) = true ∧ doneF n (i + j + 1) (itF m (j + 1) i f) = true
  | 0, _, _, _, j, hj => by omega
  | k + 1, i, f, h, j, hj => by
    simp only [allF, Bool.and_eq_true] at h
    cases j with
    | zero => exact ⟨h.1, h.2.1⟩
    | succ j =>
      have := allF_use h.2.2 j (by omega)
      rw [show i + 1 + j = i + (j + 1) by omega] at this
      exact this
structure QF (N : Nat) (f : F3) : Prop where
  core : CoreN N f.1
  rest : RestN N f.1 f.2.1 f.2.2
  ws : WSlot f.2.1
  len : f.1.shs.length ≤ 4
theorem QF.jt {N : Nat} {f : F3} (h : QF N f) (i : Nat) : JT (N + 1) firstT (begF i f) := JT.first h.core h.rest h.ws h.len (by decide) (.inr (by decide)) _
theorem QF.next {N n m i : Nat} {f : F3} (h : QF N f) (ho : okF n m i f = true) (hN : N + 1 + m < 999999) : QF (N + 1 + m) (nextF m i f) := by
  simp only [okF, Bool.and_eq_true] at ho
  have hj := (h.jt i).it m hN (runsT_is ho.1).1
  exact ⟨hj.b.core, hj.b.rest, hj.b.ws, hj.b.sh4⟩
theorem QF.it {n m : Nat} {f : F3} (h0 : QF 0 f) (hm : m ≤ 30) (ha : allF n m 20 0 f = true) : ∀ j, j ≤ 20 → QF (j * (m + 1)) (itF m j 0 f)
  | 0, _ => by rw [Nat.zero_mul]; exact h0
  | j + 1, hj => by
    have h1 := QF.it h0 hm ha j (by omega)
    have hb : j * (m + 1) ≤ 20 * 31 := Nat.mul_le_mul (by omega) (by omega)
    have h2 := h1.next (i := j) (by have := (allF_use ha j (by omega)).1; rwa [Nat.zero_add] at this) (by omega)
    rw [itF_next, Nat.zero_add]
    rw [show (j + 1) * (m + 1) = j * (m + 1) + 1 + m by rw [Nat.add_mul, Nat.one_mul]; omega]
    exact h2
structure GoodF (n m i : Nat) (f : F3) : Prop where
  tr : f.1.tr.length ≤ 1000000
  run : RunsT m firstT (begF i f)
  py : ∀ j, j < m → preYS' (itT j firstT (begF i f)).1 (itT j firstT (begF i f)).2
  pr : ∀ j, j < m → preST (itT j firstT (begF i f)).1 (itT j firstT (begF i f)).2
  nil : (itT m firstT (begF i f)).1.isNil = true
theorem getD_some {α : Type} {l : List α} {s : Nat} (h : s < l.length) (d : α) : l[s]? = some (l.getD s d) := by
  rw [List.getD_eq_getElem?_getD, List.getElem?_eq_getElem h]; rfl
structure DoneF (n i : Nat) (f : F3) : Prop where
  at_ : ∀ s, s < n → ∃ S q, f.2.1[s]? = some S ∧ f.1.shs[s]? = some q ∧ S.now = i ∧ q.turns = i
  ch : f.2.2.ch = []
  sp : f.2.2.sp = []
  inside : f.1.f.inside = 0
theorem doneF_is {n i : Nat} {f : F3} (h : doneF n i f = true) (hl : f.1.shs.length = n) (hw : f.2.1.length = n) : DoneF n i f := by
  simp only [doneF, Bool.and_eq_true, List.all_eq_true, beq_iff_eq, List.isEmpty_iff, List.mem_range] at h
  exact ⟨fun s hs => ⟨_, _, getD_some (by omega) wheel0S, getD_some (by omega) (newShard 1), (h.1.1.1 s hs).1, (h.1.1.1 s hs).2⟩, h.1.1.2, h.1.2, h.2⟩
theorem stepsF {n : Nat} {f : F3} (hm : 4 * n + 5 ≤ 30) (h0 : QF 0 f) (hd : DoneF n 0 f) (hl : ∀ j, j ≤ 20 → (itF (4 * n + 5) j 0 f).1.shs.length = n) (ha : allF n (4 * n + 5) 20 0 f = true) :
    (∀ j, j < 20 → GoodF n (4 * n + 5) j (itF (4 * n + 5) j 0 f)) ∧ ∀ j, j ≤ 20 → DoneF n j (itF (4 * n + 5) j 0 f) := by
  have hq := QF.it h0 hm ha
  refine ⟨fun j hj => ?_, fun j hj => ?_⟩
  · have h1 := hq j (by omega)
    have ho := (allF_use ha j hj).1
    rw [Nat.zero_add] at ho
    simp only [okF, Bool.and_eq_true] at ho
    have hb : j * (4 * n + 5 + 1) ≤ 20 * 31 := Nat.mul_le_mul (by omega) (by omega)
    have hr := runsT_is ho.1
    refine ⟨by have := h1.core.tr; omega, hr, fun i hi => ?_, fun i hi => ?_, ho.2⟩
    · exact ((h1.jt j).it i (by omega) (fun k hk => hr.1 k (by omega))).preY (by omega)
    · exact ((h1.jt j).it i (by omega) (fun k hk => hr.1 k (by omega))).pre (by omega) (hr.1 i hi)
  · cases j with
    | zero => exact hd
    | succ j =>
      have h2 := (allF_use ha j (by omega)).2
      rw [Nat.zero_add] at h2
      exact doneF_is h2 (hl _ hj) (by rw [(hq (j + 1) hj).rest.wl]; exact hl _ hj)
theorem lenF {m : Nat} (a : Nat) (f : F3) (h : (List.range 21).all (fun j => (itF m j 0 f).1.shs.length == a) = true) : ∀ j, j ≤ 20 → (itF m j 0 f).1.shs.length = a := by
  intro j hj
  simp only [List.all_eq_true, beq_iff_eq, List.mem_range] at h
  exact h j (by omega)
theorem f30_q (n : Int) (h : 1 ≤ n ∧ n ≤ 4) : QF 0 (f30 n) := by
  have hk : (plain17 n).ok = true := by
    have : n = 1 ∨ n = 2 ∨ n = 3 ∨ n = 4 := by omega
    rcases this with rfl | rfl | rfl | rfl <;> decide
  have := zf0_n (plain17 n) hk
  exact ⟨this.1.core, this.1.rest, this.2.1, this.2.2⟩
theorem steps17 (n : Nat) (h1 : 1 ≤ n) (h4 : n ≤ 4) : (∀ j, j < 20 → GoodF n (4 * n + 5) j (itF (4 * n + 5) j 0 (f30 n))) ∧ ∀ j, j ≤ 20 → DoneF n j (itF (4 * n + 5) j 0 (f30 n)) := by
  have : n = 1 ∨ n = 2 ∨ n = 3 ∨ n = 4 := by omega
  rcases this with rfl | rfl | rfl | rfl
  · exact stepsF (by decide) (f30_q 1 (by decide)) (doneF_is (by kernel_rfl) rfl rfl) (lenF 1 _ (by kernel_rfl)) allF1
  · exact stepsF (by decide) (f30_q 2 (by decide)) (doneF_is (by kernel_rfl) rfl rfl) (lenF 2 _ (by kernel_rfl)) allF2
  · exact stepsF (by decide) (f30_q 3 (by decide)) (doneF_is (by kernel_rfl) rfl rfl) (lenF 3 _ (by kernel_rfl)) allF3
  · exact stepsF (by decide) (f30_q 4 (by decide)) (doneF_is (by kernel_rfl) rfl rfl) (lenF 4 _ (by kernel_rfl)) allF4
end Go.Proofs.YtblhfbcodbjgcaaGreat

namespace Go.Proofs.YtblhfbcodbjgcaaGreat
set_option linter.unusedVariables false
set_option linter.unusedSimpArgs false
open Go.RowKit Go.Shelf
section
variable {L : Lay} {x : CoreS} {ws : List WheelS} {p : PipeS} {gC gW gF : List Blk}
theorem shardNow_g {b rb lb wb : Nat} {S : WheelS} {g : List Blk} (hg : isWheel wb S g) : DoesG Tryz.prog 37 #[ptr' b] [shardB b rb lb wb, g] fun e gs => e = .returned (.int .u64 S.now) ∧ gs = [shardB b rb lb wb, g] := by
  have HW := Lib.hid (wheelNow_r hg)
  clear hg
  intro w hw
  have T0 := TG.refl hw
  have HT := Lib.hid T0
  clear hw T0
  have hf := fun w => (inner_field (ptr' rb) (ptr' lb) (ptr' wb) w).2.2
  go_enter Tryz.func37, Tryz.ntmps37
  go_wp2_with fail
  refine (DoesG.use (shardParts_g b rb lb wb) (HT.out) [0] rfl rfl).mono ?_
  rintro e w1 ⟨gs, ⟨rfl, rfl⟩, Ta⟩
  simp only [PU] at Ta
  have HT := Lib.hid Ta
  clear Ta
  go_wp2_with fail
  refine (ReadsG.use (HW.out) (HT.out) [1] rfl rfl).mono ?_
  rintro e w1 ⟨rfl, mq, rfl⟩
  go_wp2
  go_ret
  exact ⟨_, ⟨rfl, rfl⟩, HT.out.drewN mq⟩
theorem coreNowOf (hx : isCore L x gC) (hw : isWheels L ws gW) {i : Nat} {q : ShP} {s : ShardS} {S : WheelS} (hq : L.qs[i]? = some q) (hs : x.shs[i]? = some s) (hS : ws[i]? = some S) :
    DoesG Tryz.prog 37 #[ptr' q.b] [gC, gW] fun e gs => e = .returned (.int .u64 S.now) ∧ ∃ gC' gW', isCore L x gC' ∧ isWheels L ws gW' ∧ gs = [gC', gW'] := by
  obtain ⟨tr, gF, gS, gR, gH, gT, h1, h2, h3, h4, h5, h6, rfl⟩ := hx
  obtain ⟨hwl, hwf⟩ := hw
  obtain ⟨u, y, ⟨gr, gl, hr, hl, rfl⟩, hp, hback⟩ := h5.out (zip_at hq hs)
  obtain ⟨u2, y2, hu2, hp2, hback2⟩ := hwf.out (zip_at hq hS)
  intro w hh
  have T := ((((TG.refl hh).sum (H' := [gF ++ (gS ++ (gR ++ gT)), gH, gW]) (fun n ha h0 h1 h2 => by simp only [SU, ha, h0, h1, h2] <;> omega)).permAt 1 rfl hp).permAt 2 rfl hp2).sum (H' := [gF ++ (gS ++ (gR ++ gT)), shardB q.b q.rb q.lb q.wb, gr, gl, y, u2, y2]) (fun n ha h0 h1 h2 => by simp only [SU, ha, h0, h1, h2] <;> omega)
  refine (DoesG.use (shardNow_g (b := q.b) (rb := q.rb) (lb := q.lb) hu2) T [1, 5] rfl rfl).mono ?_
  rintro e w' ⟨gs, ⟨he, rfl⟩, T'⟩
  obtain ⟨gH', hf, hp'⟩ := hback (q, s) (shardB q.b q.rb q.lb q.wb ++ (gr ++ gl)) ⟨gr, gl, hr, hl, rfl⟩
  rw [zip_set i hq] at hf
  obtain ⟨gW', hf2, hp2'⟩ := hback2 (q, S) u2 hu2
  rw [zip_set i hq] at hf2
  have hsame : x.shs.set i s = x.shs := fam_set_same hs
  rw [hsame] at hf
  have hsame2 : ws.set i S = ws := fam_set_same hS
  rw [hsame2] at hf2
  refine ⟨_, ⟨he, _, gW', ⟨tr, gF, gS, gR, gH', gT, h1, h2, h3, h4, hf, h6, rfl⟩, ⟨hwl, hf2⟩, rfl⟩, ?_⟩
  exact (((TG.sum (H := [gF ++ (gS ++ (gR ++ gT)), shardB q.b q.rb q.lb q.wb, gr, gl, y, u2, y2]) (H' := [gF ++ (gS ++ (gR ++ gT)), shardB q.b q.rb q.lb q.wb ++ (gr ++ gl) ++ y, u2 ++ y2]) T' (fun n ha h0 h1 h2 => by simp only [SU, ha, h0, h1, h2] <;> omega)).permAt 1 rfl hp').permAt 2 rfl hp2').sum (fun n ha h0 h1 h2 => by simp only [SU, ha, h0, h1, h2] <;> omega)
theorem tfNowOf {p : PipeS} (hx : isTF L x ws p gF) {i : Nat} {q : ShP} {s : ShardS} {S : WheelS} (hq : L.qs[i]? = some q) (hs : x.shs[i]? = some s) (hS : ws[i]? = some S) :
    DoesG Tryz.prog 37 #[ptr' q.b] [gF] fun e gs => e = .returned (.int .u64 S.now) ∧ ∃ gF', isTF L x ws p gF' ∧ gs = [gF'] := by
  obtain ⟨gC, gW, gP, hx, hw, hp, rfl⟩ := hx
  intro w hh
  have T := (TG.refl hh).sum (H' := [gC, gW, gP]) (fun n ha h0 h1 h2 => by simp only [SU, ha, h0, h1, h2] <;> omega)
  refine (DoesG.use (coreNowOf hx hw hq hs hS) T [0, 1] rfl rfl).mono ?_
  rintro e w' ⟨gs, ⟨he, gC', gW', hx', hw', rfl⟩, T'⟩
  exact ⟨_, ⟨he, _, ⟨gC', gW', gP, hx', hw', hp, rfl⟩, rfl⟩, TG.sum (H := [gC', gW', gP]) T' (fun n ha h0 h1 h2 => by simp only [SU, ha, h0, h1, h2] <;> omega)⟩
theorem tfCore {p : PipeS} {F : Nat} {args : Array Value} {v : Value} (hx : isTF L x ws p gF) (hd : ∀ g, isCore L x g → DoesG Tryz.prog F args [g] fun e gs => e = .returned v ∧ ∃ g', isCore L x g' ∧ gs = [g']) :
    DoesG Tryz.prog F args [gF] fun e gs => e = .returned v ∧ ∃ gF', isTF L x ws p gF' ∧ gs = [gF'] := by
  obtain ⟨gC, gW, gP, hx, hw, hp, rfl⟩ := hx
  intro w hh
  have T := (TG.refl hh).sum (H' := [gC, gW, gP]) (fun n ha h0 h1 h2 => by simp only [SU, ha, h0, h1, h2] <;> omega)
  refine (DoesG.use (hd gC hx) T [0] rfl rfl).mono ?_
  rintro e w' ⟨gs, ⟨he, gC', hx', rfl⟩, T'⟩
  exact ⟨_, ⟨he, _, ⟨gC', gW, gP, hx', hw, hp, rfl⟩, rfl⟩, TG.sum (H := [gC', gW, gP]) T' (fun n ha h0 h1 h2 => by simp only [SU, ha, h0, h1, h2] <;> omega)⟩
theorem tfCore_r {p : PipeS} {F : Nat} {args : Array Value} {v : Value} (hx : isTF L x ws p gF) (hd : ∀ g, isCore L x g → ReadsG Tryz.prog F args [g] v) : ReadsG Tryz.prog F args [gF] v := by
  obtain ⟨gC, gW, gP, hx, hw, hp, rfl⟩ := hx
  intro w hh
  have T := (TG.refl hh).sum (H' := [gC, gW, gP]) (fun n ha h0 h1 h2 => by simp only [SU, ha, h0, h1, h2] <;> omega)
  exact (hd gC hx).use T [0] rfl rfl
theorem tfPipe_r {p : PipeS} {F : Nat} {args : Array Value} {v : Value} (hx : isTF L x ws p gF) (hd : ∀ g, isPipe L.p.pb p g → ReadsG Tryz.prog F args [g] v) : ReadsG Tryz.prog F args [gF] v := by
  obtain ⟨gC, gW, gP, hx, hw, hp, rfl⟩ := hx
  intro w hh
  have T := (TG.refl hh).sum (H' := [gC, gW, gP]) (fun n ha h0 h1 h2 => by simp only [SU, ha, h0, h1, h2] <;> omega)
  exact (hd gP hp).use T [2] rfl rfl
theorem coreLockTurns (hx : isCore L x gC) {i : Nat} {q : ShP} {s : ShardS} (hq : L.qs[i]? = some q) (hs : x.shs[i]? = some s) :
    DoesG Tryz.prog 39 #[ptr' q.lb] [gC] fun e gs => e = .returned (.int .i64 s.turns) ∧ ∃ g', isCore L x g' ∧ gs = [g'] := by
  have := coreLockDo (F := 39) (args := #[ptr' q.lb]) (v := .int .i64 s.turns) (who' := s.who) (n' := s.turns) hx hq hs (fun g hg => (lockTurns_g hg).mono (by rintro e gs ⟨h, rfl⟩; exact ⟨h, g, hg, rfl⟩))
  rwa [core_shs_same hs] at this
end
set_option maxRecDepth 100000 in
set_option maxHeartbeats 1000000 in
theorem lawTurnSteps (sb tb : Int) (h0 : 0 ≤ sb ∧ sb ≤ 255) (h1 : 0 ≤ tb ∧ tb ≤ 255) : DoesG Tryz.prog 5 #[.int .u8 sb, .int .u8 tb] [] fun e gs => e = .returned (.bool true) := by
  obtain ⟨n0, hn0⟩ := Int.eq_ofNat_of_zero_le (show 0 ≤ sb.tmod 4 from Int.tmod_nonneg _ h0.1)
  obtain ⟨T, hT⟩ := Int.eq_ofNat_of_zero_le (show 0 ≤ tb.tmod 20 from Int.tmod_nonneg _ h1.1)
  have hn3 : n0 ≤ 3 := by have := Int.tmod_lt_of_pos sb (show (0 : Int) < 4 by decide); omega
  have hT19 : T ≤ 19 := by have := Int.tmod_lt_of_pos tb (show (0 : Int) < 20 by decide); omega
  obtain ⟨n, hn⟩ : ∃ n, n = n0 + 1 := ⟨_, rfl⟩
  have hnI : (1 : Int) + n0 = n := by omega
  obtain ⟨hgood, hdone⟩ := steps17 n (by omega) (by omega)
  obtain ⟨S, hS0, hS⟩ : ∃ S : Nat → F3, S 0 = f30 n ∧ ∀ j, S (j + 1) = nextF (4 * n + 5) j (S j) ∧ (j < 20 → GoodF n (4 * n + 5) j (S j)) ∧ (j ≤ 20 → DoneF n j (S j)) :=
    ⟨fun j => itF (4 * n + 5) j 0 (f30 n), rfl, fun j => ⟨by have := itF_next (4 * n + 5) j 0 (f30 n); rwa [Nat.zero_add] at this, hgood j, hdone j⟩⟩
  have HS := Lib.hid (And.intro hS0 hS)
  have HN := Lib.hid (newFull (plain17 n) (by
    have : n = 1 ∨ n = 2 ∨ n = 3 ∨ n = 4 := by omega
    rcases this with rfl | rfl | rfl | rfl <;> decide))
  clear hgood hdone hS0 hS
  have hnb : n ≤ 4 ∧ 1 ≤ n := by omega
  clear hn
  intro w hw
  have T0 := TG.refl hw
  have HT := Lib.hid T0
  clear hw T0
  go_enter Tryz.func5, Tryz.ntmps5
  go_wp2_with fail
  refine (DoesG.use (alive17_g) (HT.out) [] rfl rfl).mono ?_
  rintro e w1 ⟨gs, ⟨rfl, rfl⟩, Ta⟩
  simp only [PU] at Ta
  have HT := Lib.hid Ta
  clear Ta
  go_wp2_with fail
  refine (DoesG.use (plain17_g n) (HT.out) [] rfl rfl).mono ?_
  rintro e w1 ⟨gs, ⟨rfl, rfl⟩, Ta⟩
  simp only [PU] at Ta
  have HT := Lib.hid Ta
  clear Ta
  go_wp2_with fail
  refine (DoesG.use (HN.out) (HT.out) [] rfl rfl).mono ?_
  rintro e w1 ⟨gs, ⟨L, g, rfl, hz, rfl⟩, Ta⟩
  simp only [PU] at Ta
  have HT := Lib.hid Ta
  clear Ta
  obtain ⟨gT, gL, hx, hl, rfl⟩ := hz
  have HX := Lib.hid (show isTF L (S 0).1 (S 0).2.1 (S 0).2.2 gT from by rw [HS.out.1]; exact hx)
  have HT := Lib.hid (HT.out.sum (H' := [gT, gL]) (fun n ha h0 h1 h2 => by simp only [SU, ha, h0, h1, h2] <;> omega))
  have HT := Lib.hid (HT.out.pick [0] rfl)
  clear hx hl
  go_wp2
  go_loopw [8] (fun i wr => ∃ t : Nat, t ≤ T ∧ i = .int .i64 t ∧ ∃ gF, isTF L (S t).1 (S t).2.1 (S t).2.2 gF ∧ TG [] w [gF] wr) (fun i _ => T - (intOf i).toNat)
  case atStart => exact ⟨0, Nat.zero_le _, rfl, _, HX.out, HT.out⟩
  case round =>
    obtain ⟨t, ht, rfl, gF, hx, T1⟩ := hrel
    have HX := Lib.hid hx
    have HT := Lib.hid T1
    clear T1 hx
    by_cases hltT : t < T
    · have hG := (HS.out.2 t).2.1 (by omega)
      obtain ⟨z0, hz0⟩ : ∃ z0, z0 = begF t (S t) := ⟨_, rfl⟩
      obtain ⟨m, hm⟩ : ∃ m, m = 4 * n + 5 := ⟨_, rfl⟩
      have hS1 := (HS.out.2 t).1
      have hD := (HS.out.2 (t + 1)).2.2 (by omega)
      rw [← hm] at hG hS1
      have HB := Lib.hid (turnBegin HX.out hG.tr 0 t (by decide))
      have HZ := Lib.hid hz0
      obtain ⟨_, hr, hpy, hpr, hnl⟩ := hG
      rw [← hz0] at hr hpy hpr hnl
      have HRN := Lib.hid hr
      have HPY := Lib.hid hpy
      have HPR := Lib.hid hpr
      have HNL := Lib.hid hnl
      have HS1 := Lib.hid hS1
      have HD := Lib.hid hD
      have hmI : (m : Int) = 4 * (n : Int) + 5 := by omega
      have hm21 : m ≤ 21 := by omega
      have hlt2 : (decide ((t : Int) < (T : Int))) = true := decide_eq_true (by omega)
      clear hr hpy hpr hnl hz0 hS1 hD
      go_wp2_with fail
      refine (DoesG.use (HB.out) (HT.out) [0] rfl rfl).mono ?_
      rintro e w1 ⟨gs, ⟨kb, g, gF1, rfl, hc, hx1, rfl⟩, Ta⟩
      simp only [PU] at Ta
      have HT := Lib.hid Ta
      clear Ta
      have HT := Lib.hid (HT.out.pick [1, 0] rfl)
      have HC := Lib.hid (show isTurn L kb firstT 0 z0.k g from by rw [HZ.out]; exact hc)
      have HX := Lib.hid (show isTF L z0.x z0.ws z0.p gF1 from by rw [HZ.out]; exact hx1)
      clear hc hx1
      go_wp2
      go_loopw [11] (fun i wr => ∃ j : Nat, j ≤ m ∧ i = .int .i64 j ∧ ∃ g gF2, isTurn L kb (itT j firstT z0).1 j (itT j firstT z0).2.k g ∧ isTF L (itT j firstT z0).2.x (itT j firstT z0).2.ws (itT j firstT z0).2.p gF2 ∧ TG [] w ([gF2, g]) wr) (fun i _ => 100 - (intOf i).toNat)
      case atStart => exact ⟨0, Nat.zero_le _, rfl, _, _, HC.out, HX.out, HT.out⟩
      case round =>
        obtain ⟨j, hj, rfl, g2, gF2, hc2, hx2, T2⟩ := hrel
        have HC2 := Lib.hid hc2
        have HX2 := Lib.hid hx2
        have HT := Lib.hid T2
        clear T2 hc2 hx2
        by_cases hlt : j < m
        · have hst := turnStep HC2.out HX2.out (HPY.out j hlt) (HRN.out.1 j hlt) (HPR.out j hlt) ⟨by omega, by omega⟩
          rw [← itT_next] at hst
          have HST := Lib.hid hst
          clear hst
          go_wp2_with fail
          refine (DoesG.use HST.out HT.out [1, 0] rfl rfl).mono ?_
          rintro e w4 ⟨gs, ⟨g3, gF3, rfl, hc3, hx3, rfl⟩, Ta⟩
          simp only [PU] at Ta
          have HC3 := Lib.hid hc3
          have HX3 := Lib.hid hx3
          have HT := Lib.hid Ta
          clear Ta hc3 hx3
          go_wp2
          first
          | (go_roundw
             case rel => exact ⟨j + 1, by omega, by go_num, g3, gF3, by have := HC3.out; rwa [show ((j : Int) + 1) = ((j + 1 : Nat) : Int) by omega] at this, HX3.out, HT.out⟩
             case measure => simp [intOf]; omega)
          | exact ⟨⟨j + 1, by omega, by go_num, g3, gF3, by have := HC3.out; rwa [show ((j : Int) + 1) = ((j + 1 : Nat) : Int) by omega] at this, HX3.out, HT.out⟩, by simp [intOf]; omega⟩
          | ((repeat apply Exists.intro); exact ⟨⟨⟨j + 1, by omega, by go_num, g3, gF3, by have := HC3.out; rwa [show ((j : Int) + 1) = ((j + 1 : Nat) : Int) by omega] at this, HX3.out, HT.out⟩, rfl⟩, by simp [intOf]; omega⟩)
        · have hjn : j = m := by omega
          have hr2 := HRN.out.2
          have hnil := HNL.out
          rw [← hjn] at hr2 hnil
          have hst := turnNo HC2.out HX2.out (by
            have hs : (itT j firstT z0).1 = .nil := isNil_nil hnil
            rw [hs]; trivial) hr2
          clear hr2 hlt hj
          have HST := Lib.hid hst
          clear hst
          go_wp2_with fail
          refine (DoesG.use HST.out HT.out [1, 0] rfl rfl).mono ?_
          rintro e w4 ⟨gs, ⟨rfl, g3, gF3, hc3, hx3, rfl⟩, Ta⟩
          simp only [PU] at Ta
          have hdn := turnDone hc3
          rw [hnil] at hdn
          have HDN := Lib.hid hdn
          subst hjn
          have HX := Lib.hid (show isTF L (S (t + 1)).1 (S (t + 1)).2.1 (S (t + 1)).2.2 gF3 from by
            rw [HS1.out]
            show isTF L (itT j firstT (begF t (S t))).2.x (itT j firstT (begF t (S t))).2.ws (itT j firstT (begF t (S t))).2.p gF3
            rw [← HZ.out]
            exact hx3)
          have HT := Lib.hid Ta
          have hne : ((j : Int) != 4 * (n : Int) + 5) = false := by rw [hmI]; simp
          clear Ta hc3 hx3 hdn hnil
          go_wp2_with fail
          refine (ReadsG.use (HDN.out) (HT.out) [1] rfl rfl).mono ?_
          rintro e w1 ⟨rfl, mq, rfl⟩
          have HT := Lib.hid ((HT.out.drewN mq).pick [0] rfl)
          generalize World.drewN _ _ = w6 at HT ⊢
          clear HC HZ HRN HPY HPR HNL HS1 HB hmI hm21 hne
          go_wp2
          go_loopw [12] (fun i wr => ∃ s : Nat, s ≤ n ∧ i = .int .i64 s ∧ ∃ gF, isTF L (S (t + 1)).1 (S (t + 1)).2.1 (S (t + 1)).2.2 gF ∧ TG [] w [gF] wr) (fun i _ => n - (intOf i).toNat)
          case atStart => exact ⟨0, Nat.zero_le _, rfl, _, HX.out, HT.out⟩
          case round =>
            obtain ⟨s, hs, rfl, gF5, hx5, T5⟩ := hrel
            have HX := Lib.hid hx5
            have HT := Lib.hid T5
            clear T5 hx5
            by_cases hlts : s < n
            · obtain ⟨SW, qs, hSW, hqs, e1, e2⟩ := HD.out.at_ s hlts
              obtain ⟨gC, gW, gP, hxc, hwc, hpc, hgF⟩ := HX.out
              obtain ⟨q, hq, hqv⟩ := core_q hxc (i := s) (List.getElem?_eq_some_iff.1 hqs).1
              have HSD := Lib.hid (show ∀ g, isTF L (S (t + 1)).1 (S (t + 1)).2.1 (S (t + 1)).2.2 g → ReadsG Tryz.prog 20 #[ptr' L.fb, .int .i64 s] [g] (ptr' q.b) from fun g hg => tfCore_r hg (fun g' hg' => by rw [← hqv]; exact coreShardAt_r hg' s))
              have HNW := Lib.hid (show ∀ g, isTF L (S (t + 1)).1 (S (t + 1)).2.1 (S (t + 1)).2.2 g → DoesG Tryz.prog 37 #[ptr' q.b] [g] fun e gs => e = .returned (.int .u64 ((t : Int) + 1)) ∧ ∃ gF', isTF L (S (t + 1)).1 (S (t + 1)).2.1 (S (t + 1)).2.2 gF' ∧ gs = [gF'] from fun g hg => by
                have := tfNowOf hg hq hqs hSW
                rwa [e1, show ((t + 1 : Nat) : Int) = (t : Int) + 1 by omega] at this)
              have HLK := Lib.hid (show ∀ g, isTF L (S (t + 1)).1 (S (t + 1)).2.1 (S (t + 1)).2.2 g → _ from fun g hg => tfCore hg (fun g' hg' => coreLockOf_r hg' hq hqs))
              have HTN := Lib.hid (show ∀ g, isTF L (S (t + 1)).1 (S (t + 1)).2.1 (S (t + 1)).2.2 g → DoesG Tryz.prog 39 #[ptr' q.lb] [g] fun e gs => e = .returned (.int .i64 ((t : Int) + 1)) ∧ ∃ gF', isTF L (S (t + 1)).1 (S (t + 1)).2.1 (S (t + 1)).2.2 gF' ∧ gs = [gF'] from fun g hg => by
                have := tfCore hg (fun g' hg' => coreLockTurns hg' hq hqs)
                rwa [e2, show ((t + 1 : Nat) : Int) = (t : Int) + 1 by omega] at this)
              clear hSW hqs e1 e2 hxc hwc hpc hgF hq hqv
              go_wp2_with fail
              refine (ReadsG.use (HSD.out _ HX.out) (HT.out) [0] rfl rfl).mono ?_
              rintro e w1 ⟨rfl, mq, rfl⟩
              have HT := Lib.hid (HT.out.drewN mq)
              generalize World.drewN _ _ = wq at HT ⊢
              go_wp2_with fail
              refine (DoesG.use (HNW.out _ HX.out) (HT.out) [0] rfl rfl).mono ?_
              rintro e w1 ⟨gs, ⟨rfl, g7, hx7, rfl⟩, Ta⟩
              simp only [PU] at Ta
              have HX := Lib.hid hx7
              clear hx7
              have HT := Lib.hid Ta
              clear Ta
              go_wp2_with fail
              refine (ReadsG.use (HSD.out _ HX.out) (HT.out) [0] rfl rfl).mono ?_
              rintro e w1 ⟨rfl, mq, rfl⟩
              have HT := Lib.hid (HT.out.drewN mq)
              generalize World.drewN _ _ = wq at HT ⊢
              go_wp2_with fail
              refine (DoesG.use (HLK.out _ HX.out) (HT.out) [0] rfl rfl).mono ?_
              rintro e w1 ⟨gs, ⟨rfl, g8, hx8, rfl⟩, Ta⟩
              simp only [PU] at Ta
              have HX := Lib.hid hx8
              clear hx8
              have HT := Lib.hid Ta
              clear Ta
              go_wp2_with fail
              refine (DoesG.use (HTN.out _ HX.out) (HT.out) [0] rfl rfl).mono ?_
              rintro e w1 ⟨gs, ⟨rfl, g9, hx9, rfl⟩, Ta⟩
              simp only [PU] at Ta
              have HX := Lib.hid hx9
              clear hx9
              have HT := Lib.hid Ta
              clear Ta
              go_wp2
              first
              | (go_roundw
                 case rel => exact ⟨s + 1, by omega, by go_num, _, HX.out, HT.out⟩
                 case measure => simp [intOf]; omega)
              | exact ⟨⟨s + 1, by omega, by go_num, _, HX.out, HT.out⟩, by simp [intOf]; omega⟩
              | ((repeat apply Exists.intro); exact ⟨⟨⟨s + 1, by omega, by go_num, _, HX.out, HT.out⟩, rfl⟩, by simp [intOf]; omega⟩)
            · obtain rfl : s = n := by omega
              go_wp2
              first
              | (go_roundw
                 case rel => exact ⟨t + 1, by omega, by go_num, _, HX.out, HT.out⟩
                 case measure => simp [intOf]; omega)
              | exact ⟨⟨t + 1, by omega, by go_num, _, HX.out, HT.out⟩, by simp [intOf]; omega⟩
              | ((repeat apply Exists.intro); exact ⟨⟨⟨t + 1, by omega, by go_num, _, HX.out, HT.out⟩, rfl⟩, by simp [intOf]; omega⟩)
    · obtain rfl : t = T := by omega
      have hD := (HS.out.2 t).2.2 (by omega)
      have hpl := tfPipe_r HX.out (fun g hg => pipeLen_r hg (by rw [hD.ch, hD.sp]; exact ⟨by simp, by simp⟩))
      rw [hD.ch, hD.sp] at hpl
      have hpl : ReadsG Tryz.prog 41 #[ptr' L.p.pb] [gF] (.int .i64 0) := hpl
      have HPL := Lib.hid hpl
      have hin := tfCore HX.out (fun g hg => coreInside hg)
      rw [hD.inside] at hin
      have HIN := Lib.hid hin
      clear hin hpl hD
      go_wp2_with fail
      refine (ReadsG.use (tfCore_r HX.out (fun g hg => corePipe_r hg)) (HT.out) [0] rfl rfl).mono ?_
      rintro e w1 ⟨rfl, mq, rfl⟩
      have HT := Lib.hid (HT.out.drewN mq)
      generalize World.drewN _ _ = wq at HT ⊢
      go_wp2_with fail
      refine (ReadsG.use (HPL.out) (HT.out) [0] rfl rfl).mono ?_
      rintro e w1 ⟨rfl, mq, rfl⟩
      have HT := Lib.hid (HT.out.drewN mq)
      generalize World.drewN _ _ = wq at HT ⊢
      go_wp2_with fail
      refine (DoesG.use (HIN.out) (HT.out) [0] rfl rfl).mono ?_
      rintro e w1 ⟨gs, ⟨rfl, g8, hx8, rfl⟩, Ta⟩
      simp only [PU] at Ta
      have HT := Lib.hid Ta
      clear Ta
      go_wp2
      go_ret
      exact ⟨_, rfl, HT.out⟩
end Go.Proofs.YtblhfbcodbjgcaaGreat
