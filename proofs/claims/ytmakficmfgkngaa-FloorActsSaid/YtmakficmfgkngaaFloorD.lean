import Derived.Test.YtmakficmfgkngaaFloorW
namespace Go.Proofs.Ytmakficmfgkngaa
set_option linter.unusedVariables false
set_option linter.unusedSimpArgs false
open Go.RowKit Go.Shelf

/-! ## The document's floor: Do -/
structure ActF where
  kind : Int
  on : Bool
  e : EvS
abbrev ActF.cells (a : ActF) : Array Value := #[.int .i64 a.kind, .bool a.on, .int .i64 a.e.kind, .int .i64 a.e.thread, .int .i64 a.e.call, .int .i64 a.e.what, .int .u64 a.e.id, .int .u64 a.e.gen, .int .u64 a.e.dl, .int .u64 a.e.per, .int .u64 a.e.tick, .int .i64 a.e.err]
def ActF.zero : ActF := ⟨0, false, EvS.zero⟩
structure CntS where
  inside : Int
  busy : Int
  closed : Bool
  now : Int
  l : List EvS
def doF (a : ActF) (s : CntS) : CntS × Int × Bool :=
  if a.kind = 0 then ({ s with inside := s.inside + 1 }, 0, false)
  else if a.kind = 1 then ({ s with inside := lessN s.inside }, lessE s.inside, false)
  else if a.kind = 2 then if a.on then ({ s with busy := s.busy + 1 }, 0, false) else ({ s with busy := lessN s.busy }, lessE s.busy, false)
  else if a.kind = 3 then ({ s with closed := true }, 0, !s.closed)
  else if a.kind = 4 then ({ s with now := s.now + 1 }, 0, false)
  else if a.kind = 5 then ({ s with l := s.l ++ [a.e] }, 0, false)
  else (s, 0, false)
structure CntOk (s : CntS) (k : Nat) : Prop where
  i0 : 0 ≤ s.inside
  i1 : s.inside ≤ k
  b0 : 0 ≤ s.busy
  b1 : s.busy ≤ k
  n0 : 0 ≤ s.now
  n1 : s.now ≤ k
  l1 : s.l.length ≤ k
theorem lessN_le {n : Int} {k : Nat} (h0 : 0 ≤ n) (h1 : n ≤ k) : 0 ≤ lessN n ∧ lessN n ≤ k := by unfold lessN; split <;> omega
theorem doF_ok {s : CntS} {k : Nat} (h : CntOk s k) (a : ActF) : CntOk (doF a s).1 (k + 1) := by
  obtain ⟨h1, h2, h3, h4, h5, h6, h7⟩ := h
  have a1 := lessN_le h1 h2
  have a2 := lessN_le h3 h4
  unfold doF
  repeat' split
  all_goals (constructor <;> simp <;> omega)
abbrev refBlk (vb : Nat) (s : CntS) (tr : Value) : Blk := cl vb 55 #[.int .i64 s.inside, .int .i64 s.busy, .bool s.closed, .int .u64 s.now, tr]
def isRefF (vb : Nat) (s : CntS) (g gT : List Blk) : Prop := ∃ tr, g = [refBlk vb s tr] ∧ trG tr s.l gT
set_option maxRecDepth 100000 in
theorem refDo_0 {vb : Nat} {s : CntS} {tr : Value} (on : Bool) (E : EvS) {k : Nat} (hs : CntOk s k) (hk : k ≤ 1000)  :
    DoesG Try.prog 30 #[ptr' vb, .agg (ActF.cells ⟨0, on, E⟩)] [[refBlk vb s tr]] fun e gs => e = .returned (.tuple #[.int .i64 0, .bool false]) ∧ gs = [[refBlk vb { s with inside := s.inside + 1 } tr]] := by
  obtain ⟨h1, h2, h3, h4, h5, h6, h7⟩ := hs
  obtain ⟨si, sb, sc, sn, sl⟩ := s
  simp only at h1 h2 h3 h4 h5 h6
  intro w hw
  have T0 := TG.refl hw
  have HT := Lib.hid T0
  clear hw T0
  simp only [ActF.cells]
  have c0 := HT.out.cell 0 0 rfl
  have f0 := HT.out.free 0 0 rfl
  have l0 := HT.out.lt 0 0 rfl
  simp only [] at l0
  skip
  go_enter Try.func30, Try.ntmps30
  go_wp2
  go_ret2
  exact ⟨_, ⟨rfl, rfl⟩, ((HT.out.set 0 0 rfl 0 _).alloc0 _).pick [0] rfl⟩
set_option maxRecDepth 100000 in
theorem refDo_1a {vb : Nat} {s : CntS} {tr : Value} (on : Bool) (E : EvS) {k : Nat} (hs : CntOk s k) (hk : k ≤ 1000) (hz : s.inside = 0) :
    DoesG Try.prog 30 #[ptr' vb, .agg (ActF.cells ⟨1, on, E⟩)] [[refBlk vb s tr]] fun e gs => e = .returned (.tuple #[.int .i64 6, .bool false]) ∧ gs = [[refBlk vb s tr]] := by
  obtain ⟨h1, h2, h3, h4, h5, h6, h7⟩ := hs
  obtain ⟨si, sb, sc, sn, sl⟩ := s
  simp only at h1 h2 h3 h4 h5 h6
  intro w hw
  have T0 := TG.refl hw
  have HT := Lib.hid T0
  clear hw T0
  simp only [ActF.cells]
  have c0 := HT.out.cell 0 0 rfl
  have f0 := HT.out.free 0 0 rfl
  have l0 := HT.out.lt 0 0 rfl
  simp only [] at l0
  obtain rfl : si = 0 := hz
  go_enter Try.func30, Try.ntmps30
  go_wp2
  go_ret2
  exact ⟨_, ⟨rfl, rfl⟩, (HT.out.alloc0 _).pick [0] rfl⟩
set_option maxRecDepth 100000 in
theorem refDo_1b {vb : Nat} {s : CntS} {tr : Value} (on : Bool) (E : EvS) {k : Nat} (hs : CntOk s k) (hk : k ≤ 1000) (hz : s.inside ≠ 0) :
    DoesG Try.prog 30 #[ptr' vb, .agg (ActF.cells ⟨1, on, E⟩)] [[refBlk vb s tr]] fun e gs => e = .returned (.tuple #[.int .i64 0, .bool false]) ∧ gs = [[refBlk vb { s with inside := s.inside - 1 } tr]] := by
  obtain ⟨h1, h2, h3, h4, h5, h6, h7⟩ := hs
  obtain ⟨si, sb, sc, sn, sl⟩ := s
  simp only at h1 h2 h3 h4 h5 h6
  intro w hw
  have T0 := TG.refl hw
  have HT := Lib.hid T0
  clear hw T0
  simp only [ActF.cells]
  have c0 := HT.out.cell 0 0 rfl
  have f0 := HT.out.free 0 0 rfl
  have l0 := HT.out.lt 0 0 rfl
  simp only [] at l0
  have hb : (si == 0) = false := beq_eq_false_iff_ne.2 hz
  go_enter Try.func30, Try.ntmps30
  go_wp2
  go_ret2
  exact ⟨_, ⟨rfl, rfl⟩, ((HT.out.set 0 0 rfl 0 _).alloc0 _).pick [0] rfl⟩
set_option maxRecDepth 100000 in
theorem refDo_2 {vb : Nat} {s : CntS} {tr : Value}  (E : EvS) {k : Nat} (hs : CntOk s k) (hk : k ≤ 1000)  :
    DoesG Try.prog 30 #[ptr' vb, .agg (ActF.cells ⟨2, true, E⟩)] [[refBlk vb s tr]] fun e gs => e = .returned (.tuple #[.int .i64 0, .bool false]) ∧ gs = [[refBlk vb { s with busy := s.busy + 1 } tr]] := by
  obtain ⟨h1, h2, h3, h4, h5, h6, h7⟩ := hs
  obtain ⟨si, sb, sc, sn, sl⟩ := s
  simp only at h1 h2 h3 h4 h5 h6
  intro w hw
  have T0 := TG.refl hw
  have HT := Lib.hid T0
  clear hw T0
  simp only [ActF.cells]
  have c0 := HT.out.cell 0 0 rfl
  have f0 := HT.out.free 0 0 rfl
  have l0 := HT.out.lt 0 0 rfl
  simp only [] at l0
  skip
  go_enter Try.func30, Try.ntmps30
  go_wp2
  go_ret2
  exact ⟨_, ⟨rfl, rfl⟩, ((HT.out.set 0 0 rfl 1 _).alloc0 _).pick [0] rfl⟩
set_option maxRecDepth 100000 in
theorem refDo_2a {vb : Nat} {s : CntS} {tr : Value}  (E : EvS) {k : Nat} (hs : CntOk s k) (hk : k ≤ 1000) (hz : s.busy = 0) :
    DoesG Try.prog 30 #[ptr' vb, .agg (ActF.cells ⟨2, false, E⟩)] [[refBlk vb s tr]] fun e gs => e = .returned (.tuple #[.int .i64 6, .bool false]) ∧ gs = [[refBlk vb s tr]] := by
  obtain ⟨h1, h2, h3, h4, h5, h6, h7⟩ := hs
  obtain ⟨si, sb, sc, sn, sl⟩ := s
  simp only at h1 h2 h3 h4 h5 h6
  intro w hw
  have T0 := TG.refl hw
  have HT := Lib.hid T0
  clear hw T0
  simp only [ActF.cells]
  have c0 := HT.out.cell 0 0 rfl
  have f0 := HT.out.free 0 0 rfl
  have l0 := HT.out.lt 0 0 rfl
  simp only [] at l0
  obtain rfl : sb = 0 := hz
  go_enter Try.func30, Try.ntmps30
  go_wp2
  go_ret2
  exact ⟨_, ⟨rfl, rfl⟩, (HT.out.alloc0 _).pick [0] rfl⟩
set_option maxRecDepth 100000 in
theorem refDo_2b {vb : Nat} {s : CntS} {tr : Value}  (E : EvS) {k : Nat} (hs : CntOk s k) (hk : k ≤ 1000) (hz : s.busy ≠ 0) :
    DoesG Try.prog 30 #[ptr' vb, .agg (ActF.cells ⟨2, false, E⟩)] [[refBlk vb s tr]] fun e gs => e = .returned (.tuple #[.int .i64 0, .bool false]) ∧ gs = [[refBlk vb { s with busy := s.busy - 1 } tr]] := by
  obtain ⟨h1, h2, h3, h4, h5, h6, h7⟩ := hs
  obtain ⟨si, sb, sc, sn, sl⟩ := s
  simp only at h1 h2 h3 h4 h5 h6
  intro w hw
  have T0 := TG.refl hw
  have HT := Lib.hid T0
  clear hw T0
  simp only [ActF.cells]
  have c0 := HT.out.cell 0 0 rfl
  have f0 := HT.out.free 0 0 rfl
  have l0 := HT.out.lt 0 0 rfl
  simp only [] at l0
  have hb : (sb == 0) = false := beq_eq_false_iff_ne.2 hz
  go_enter Try.func30, Try.ntmps30
  go_wp2
  go_ret2
  exact ⟨_, ⟨rfl, rfl⟩, ((HT.out.set 0 0 rfl 1 _).alloc0 _).pick [0] rfl⟩
set_option maxRecDepth 100000 in
theorem refDo_3 {vb : Nat} {s : CntS} {tr : Value} (on : Bool) (E : EvS) {k : Nat} (hs : CntOk s k) (hk : k ≤ 1000)  :
    DoesG Try.prog 30 #[ptr' vb, .agg (ActF.cells ⟨3, on, E⟩)] [[refBlk vb s tr]] fun e gs => e = .returned (.tuple #[.int .i64 0, .bool (!s.closed)]) ∧ gs = [[refBlk vb { s with closed := true } tr]] := by
  obtain ⟨h1, h2, h3, h4, h5, h6, h7⟩ := hs
  obtain ⟨si, sb, sc, sn, sl⟩ := s
  simp only at h1 h2 h3 h4 h5 h6
  intro w hw
  have T0 := TG.refl hw
  have HT := Lib.hid T0
  clear hw T0
  simp only [ActF.cells]
  have c0 := HT.out.cell 0 0 rfl
  have f0 := HT.out.free 0 0 rfl
  have l0 := HT.out.lt 0 0 rfl
  simp only [] at l0
  skip
  go_enter Try.func30, Try.ntmps30
  go_wp2
  go_ret2
  exact ⟨_, ⟨rfl, rfl⟩, ((HT.out.set 0 0 rfl 2 _).alloc0 _).pick [0] rfl⟩
set_option maxRecDepth 100000 in
theorem refDo_4 {vb : Nat} {s : CntS} {tr : Value} (on : Bool) (E : EvS) {k : Nat} (hs : CntOk s k) (hk : k ≤ 1000)  :
    DoesG Try.prog 30 #[ptr' vb, .agg (ActF.cells ⟨4, on, E⟩)] [[refBlk vb s tr]] fun e gs => e = .returned (.tuple #[.int .i64 0, .bool false]) ∧ gs = [[refBlk vb { s with now := s.now + 1 } tr]] := by
  obtain ⟨h1, h2, h3, h4, h5, h6, h7⟩ := hs
  obtain ⟨si, sb, sc, sn, sl⟩ := s
  simp only at h1 h2 h3 h4 h5 h6
  intro w hw
  have T0 := TG.refl hw
  have HT := Lib.hid T0
  clear hw T0
  simp only [ActF.cells]
  have c0 := HT.out.cell 0 0 rfl
  have f0 := HT.out.free 0 0 rfl
  have l0 := HT.out.lt 0 0 rfl
  simp only [] at l0
  skip
  go_enter Try.func30, Try.ntmps30
  go_wp2
  go_ret2
  exact ⟨_, ⟨rfl, rfl⟩, ((HT.out.set 0 0 rfl 3 _).alloc0 _).pick [0] rfl⟩
set_option maxRecDepth 100000 in
theorem refDo_x {vb : Nat} {s : CntS} {tr : Value} (on : Bool) (kk : Int) (E : EvS) {k : Nat} (hs : CntOk s k) (hk : k ≤ 1000) (hz : (kk == 0) = false ∧ (kk == 1) = false ∧ (kk == 2) = false ∧ (kk == 3) = false ∧ (kk == 4) = false ∧ (kk == 5) = false) :
    DoesG Try.prog 30 #[ptr' vb, .agg (ActF.cells ⟨kk, on, E⟩)] [[refBlk vb s tr]] fun e gs => e = .returned (.tuple #[.int .i64 0, .bool false]) ∧ gs = [[refBlk vb s tr]] := by
  obtain ⟨h1, h2, h3, h4, h5, h6, h7⟩ := hs
  obtain ⟨si, sb, sc, sn, sl⟩ := s
  simp only at h1 h2 h3 h4 h5 h6
  intro w hw
  have T0 := TG.refl hw
  have HT := Lib.hid T0
  clear hw T0
  simp only [ActF.cells]
  have c0 := HT.out.cell 0 0 rfl
  have f0 := HT.out.free 0 0 rfl
  have l0 := HT.out.lt 0 0 rfl
  simp only [] at l0
  obtain ⟨z0, z1, z2, z3, z4, z5⟩ := hz
  go_enter Try.func30, Try.ntmps30
  go_wp2
  go_ret2
  exact ⟨_, ⟨rfl, rfl⟩, (HT.out.alloc0 _).pick [0] rfl⟩
set_option maxRecDepth 100000 in
theorem refDo_5 {vb : Nat} {s : CntS} {tr : Value} {gT : List Blk} (on : Bool) (E : EvS) {k : Nat} (hs : CntOk s k) (hk : k ≤ 1000) (hr : trG tr s.l gT) :
    DoesG Try.prog 30 #[ptr' vb, .agg (ActF.cells ⟨5, on, E⟩)] [[refBlk vb s tr], gT] fun e gs => e = .returned (.tuple #[.int .i64 0, .bool false]) ∧ ∃ tr' gT', trG tr' (s.l ++ [E]) gT' ∧ gs = [[refBlk vb s tr'], gT'] := by
  have h7 := hs.l1
  clear hs
  obtain ⟨si, sb, sc, sn, sl⟩ := s
  simp only at h7 hr
  obtain ⟨a, cap, rfl⟩ := rowG.val hr
  intro w hw
  have T0 := TG.refl hw
  have HT := Lib.hid T0
  clear hw T0
  simp only [ActF.cells]
  have HR := Lib.hid hr
  clear hr
  go_enter Try.func30, Try.ntmps30
  go_upto_region 20 with fail
  have HT := Lib.hid (HT.out.alloc (k := w.heap.size) rfl 59 #[.int .i64 5, .bool on, .int .i64 E.kind, .int .i64 E.thread, .int .i64 E.call, .int .i64 E.what, .int .u64 E.id, .int .u64 E.gen, .int .u64 E.dl, .int .u64 E.per, .int .u64 E.tick, .int .i64 E.err])
  generalize w.alloc _ = w1 at HT ⊢
  simp only [List.cons_append, List.nil_append] at HT
  have c0 := HT.out.cell 0 0 rfl 4
  simp only [List.getElem?_toArray, List.getElem?_cons_zero, List.getElem?_cons_succ] at c0
  have q := HT.out.cell 2 0 rfl
  have HT := Lib.hid HT.out.drew
  have f0 := HT.out.free 0 0 rfl
  have hl0 := HT.out.lt 0 0 rfl
  have hl1 := HT.out.lt 2 0 rfl
  simp only [World.drew] at hl0 hl1
  go_region_law (
    refine step_append_G rfl (.tmp 97) (.tmp 100) 53 rfl 10 80 _ Try.underlying53 Try.infoEvent rfl (by decide) (HT.out.alloc0 _) 1 rfl rfl HR.out rfl ⟨w1.heap.size, 0, none⟩ 1 1 [.int .i64 E.kind, .int .i64 E.thread, .int .i64 E.call, .int .i64 E.what, .int .u64 E.id, .int .u64 E.gen, .int .u64 E.dl, .int .u64 E.per, .int .u64 E.tick, .int .i64 E.err] rfl rfl (news_alloc _ _ _) (by simp [Value.oneCell']) (by unfold maxLen; omega) (by omega) ?_
    intro v w3 gT1 r T
    simp only [List.set_cons_zero, List.set_cons_succ] at T
    obtain ⟨a1, cap1, rfl⟩ := r.val
    have f1 := T.free 0 0 rfl
    have c1 := T.cell 0 0 rfl
    have T := Lib.hid T
    have r := Lib.hid r)
  all_goals go_wp2
  all_goals go_ret2
  all_goals exact ⟨_, ⟨rfl, _, _, trG.put r.out, rfl⟩, (T.out.set 0 0 rfl 4 _).pick [0, 1] rfl⟩
theorem refDo_g {vb : Nat} {s : CntS} {g gT : List Blk} {a : ActF} {k : Nat} (hg : isRefF vb s g gT) (hs : CntOk s k) (hk : k ≤ 1000) :
    DoesG Try.prog 30 #[ptr' vb, .agg a.cells] [g, gT] fun e gs => e = .returned (.tuple #[.int .i64 (doF a s).2.1, .bool (doF a s).2.2]) ∧ ∃ g' gT', isRefF vb (doF a s).1 g' gT' ∧ gs = [g', gT'] := by
  obtain ⟨tr, rfl, hr⟩ := hg
  obtain ⟨kk, on, E⟩ := a
  have lift : ∀ {x : Int} {b : Bool} {s' : CntS} {on : Bool} {kk : Int}, s'.l = s.l → DoesG Try.prog 30 #[ptr' vb, .agg (ActF.cells ⟨kk, on, E⟩)] [[refBlk vb s tr]] (fun e gs => e = .returned (.tuple #[.int .i64 x, .bool b]) ∧ gs = [[refBlk vb s' tr]]) → doF ⟨kk, on, E⟩ s = (s', x, b) →
      DoesG Try.prog 30 #[ptr' vb, .agg (ActF.cells ⟨kk, on, E⟩)] [[refBlk vb s tr], gT] fun e gs => e = .returned (.tuple #[.int .i64 (doF ⟨kk, on, E⟩ s).2.1, .bool (doF ⟨kk, on, E⟩ s).2.2]) ∧ ∃ g' gT', isRefF vb (doF ⟨kk, on, E⟩ s).1 g' gT' ∧ gs = [g', gT'] := by
    intro x b s' on kk hl hd he w hw
    rw [he]
    refine (DoesG.use hd (TG.refl hw) [0] rfl rfl).mono ?_
    rintro e w1 ⟨gs, ⟨rfl, rfl⟩, T⟩
    exact ⟨_, ⟨rfl, _, gT, ⟨tr, rfl, by rw [hl]; exact hr⟩, rfl⟩, T⟩
  by_cases k0 : kk = 0
  · subst k0; exact lift (s' := { s with inside := s.inside + 1 }) rfl (refDo_0 on E hs hk) rfl
  by_cases k1 : kk = 1
  · subst k1
    by_cases hz : s.inside = 0
    · exact lift rfl (refDo_1a on E hs hk hz) (by simp [doF, lessN, lessE, hz]; exact hz.symm ▸ rfl)
    · exact lift (s' := { s with inside := s.inside - 1 }) rfl (refDo_1b on E hs hk hz) (by simp [doF, lessN, lessE, hz])
  by_cases k2 : kk = 2
  · subst k2
    cases on
    · by_cases hz : s.busy = 0
      · exact lift rfl (refDo_2a E hs hk hz) (by simp [doF, lessN, lessE, hz]; exact hz.symm ▸ rfl)
      · exact lift (s' := { s with busy := s.busy - 1 }) rfl (refDo_2b E hs hk hz) (by simp [doF, lessN, lessE, hz])
    · exact lift (s' := { s with busy := s.busy + 1 }) rfl (refDo_2 E hs hk) rfl
  by_cases k3 : kk = 3
  · subst k3; exact lift (s' := { s with closed := true }) rfl (refDo_3 on E hs hk) rfl
  by_cases k4 : kk = 4
  · subst k4; exact lift (s' := { s with now := s.now + 1 }) rfl (refDo_4 on E hs hk) rfl
  by_cases k5 : kk = 5
  · subst k5
    refine (refDo_5 on E hs hk hr).mono ?_
    rintro e gs ⟨rfl, tr', gT', hr', rfl⟩
    exact ⟨rfl, _, gT', ⟨tr', rfl, hr'⟩, rfl⟩
  · exact lift rfl (refDo_x on kk E hs hk ⟨beq_eq_false_iff_ne.2 k0, beq_eq_false_iff_ne.2 k1, beq_eq_false_iff_ne.2 k2, beq_eq_false_iff_ne.2 k3, beq_eq_false_iff_ne.2 k4, beq_eq_false_iff_ne.2 k5⟩) (by simp [doF, k0, k1, k2, k3, k4, k5])
end Go.Proofs.Ytmakficmfgkngaa
