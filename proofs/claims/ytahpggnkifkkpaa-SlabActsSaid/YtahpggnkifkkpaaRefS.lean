import Derived.Test.YtahpggnkifkkpaaFlat
import Derived.Test.YtahpggnkifkkpaaReads
import Derived.Test.YtahpggnkifkkpaaSlabX
import Derived.Test.YtahpggnkifkkpaaSlabQ
import Derived.Test.YtahpggnkifkkpaaWordR
import Derived.Deep.RegionHeld3
import Derived.BigRegion
namespace Go.Proofs.Ytahpggnkifkkpaa
set_option linter.unusedVariables false
set_option linter.unusedSimpArgs false
open Go.RowKit Go.Shelf

/-! ## The document's slab -/
def atR (q : Req) : Int := if q.st = 1 then 3 else if q.st = 2 then 4 else q.next
def retR (q : Req) : Int := if q.st = 1 then 1 else if q.st = 2 then 2 else 0
def recV (r : Rec) : List Value := [.int .u64 r.w, .int .u64 r.g, .int .u64 r.p]
def reqV (q : Req) : List Value := [.int .i64 (atR q), .int .i64 q.saw, .int .i64 q.slot, .int .u64 q.id, .int .u64 q.p]
def Req.zero : Req := ⟨0, 0, 0, 0, 0, 0⟩
def RefS (vb : Nat) (s : SlabS) (qs : List Req) (gV gL gQ : List Blk) : Prop :=
  ∃ lb rv, gV = [cl vb 61 #[.slice (some ⟨lb, 0, none⟩) s.recs.length s.recs.length, .int .i64 s.count, rv]] ∧ gL = [cl lb 66 (s.recs.flatMap recV).toArray] ∧ rowG 63 5 rv qs.length (qs.flatMap reqV) gQ
theorem refDrop_g {vb : Nat} {s : SlabS} {qs : List Req} {gV gL gQ : List Blk} (h : RefS vb s qs gV gL gQ) (h0 : 0 ≤ s.count) (h1 : s.count ≤ 64) :
    DoesG Try.prog 25 #[ptr vb] [gV] fun e gs => e = .returned (.bool (decide (s.drop.2 = 0))) ∧ ∃ g', RefS vb s.drop.1 qs g' gL gQ ∧ gs = [g'] := by
  obtain ⟨lb, rv, rfl, rfl, hr⟩ := h
  by_cases hz : 0 < s.count
  · have HD := Lib.hid (show s.drop = ({ s with count := s.count - 1 }, 0) from if_pos hz)
    have hb : (s.count == 0) = false := beq_eq_false_iff_ne.2 (by omega)
    intro w hw
    have T0 := TG.refl hw
    have HT := Lib.hid T0
    clear hw T0
    have c0 := HT.out.cell 0 0 rfl
    have f0 := HT.out.free 0 0 rfl
    go_enter Try.func25, Try.ntmps25
    go_wp2
    go_ret
    rw [HD.out]
    exact ⟨_, ⟨rfl, _, ⟨lb, rv, rfl, rfl, hr⟩, rfl⟩, HT.out.set 0 0 rfl 1 _⟩
  · have hc : s.count = 0 := by omega
    obtain ⟨rs, n⟩ := s
    simp only at hc
    subst hc
    intro w hw
    have T0 := TG.refl hw
    have HT := Lib.hid T0
    clear hw T0
    have c0 := HT.out.cell 0 0 rfl
    go_enter Try.func25, Try.ntmps25
    go_wp2
    go_ret
    exact ⟨_, ⟨rfl, _, ⟨lb, rv, rfl, rfl, hr⟩, rfl⟩, HT.out⟩
theorem rec_at {h H : GH} {w w' : World} (T : TG h w H w') (i : Nat) {lb : Nat} {rs : List Rec} (hi : H.getD i [] = [cl lb 66 (rs.flatMap recV).toArray]) {k : Nat} (hk : k < rs.length) :
    ∃ r, rs.getD k Rec.zero = r ∧ w'.cell? ⟨lb, k * 3, none⟩ = some (.int .u64 r.w) ∧ w'.cell? ⟨lb, k * 3 + 1, none⟩ = some (.int .u64 r.g) ∧ w'.cell? ⟨lb, k * 3 + 2, none⟩ = some (.int .u64 r.p) := by
  have hh := fun j (hj : j < 3) => (T.cell (b := lb) i 0 (by rw [hi]; rfl) (k * 3 + j)).trans ((List.getElem?_toArray).trans (flat_at recV 3 Rec.zero (fun _ => rfl) rs k j hk hj))
  exact ⟨_, rfl, hh 0 (by omega), hh 1 (by omega), hh 2 (by omega)⟩
def SlabS.rslot (s : SlabS) (id : Int) : Int := if s.known id then id % 64 else -1
set_option maxRecDepth 100000 in
set_option maxHeartbeats 1000000 in
theorem refSlot_r {vb : Nat} {s : SlabS} {qs : List Req} {gV gL gQ : List Blk} (h : RefS vb s qs gV gL gQ) (hn : s.recs.length ≤ 64) (id : Int) (h0 : 0 ≤ id) (h1 : id < 18446744073709551616) :
    ReadsG Try.prog 40 #[ptr vb, .int .u64 id] [gV, gL] (.int .i64 (s.rslot id)) := by
  obtain ⟨lb, rv, rfl, rfl, hr⟩ := h
  clear hr
  intro w hw
  have HT := Lib.hid (TG.refl hw)
  clear hw
  have c0 := HT.out.cell 0 0 rfl 0
  simp only [List.getElem?_toArray, List.getElem?_cons_zero] at c0
  obtain ⟨j, hj⟩ : ∃ j : Nat, id % 64 = j := Int.eq_ofNat_of_zero_le (by omega)
  have hj64 : j < 64 := by omega
  obtain ⟨rs, cnt⟩ := s
  simp only at hn c0 HT
  generalize hl : rs.length = n at *
  have d1 : 0 ≤ id / 64 := by omega
  have d2 : id / 64 < 18446744073709551616 := by omega
  by_cases k1 : (n : Int) ≤ j
  · have HS := Lib.hid (show SlabS.rslot ⟨rs, cnt⟩ id = -1 from if_neg (fun h => by have := h.1; simp only [hl, hj] at this; omega))
    clear hl
    go_enter Try.func40, Try.ntmps40
    go_wp2
    go_ret
    exact ⟨by rw [HS.out]; rfl, 0, rfl⟩
  obtain ⟨r, hr, r0, r1, r2⟩ := rec_at HT.out 1 rfl (k := j) (by omega)
  by_cases k2 : id / 64 < 1
  · have HS := Lib.hid (show SlabS.rslot ⟨rs, cnt⟩ id = -1 from if_neg (fun h => by have := h.2.1; omega))
    clear hl hr
    go_enter Try.func40, Try.ntmps40
    go_wp2
    go_ret
    exact ⟨by rw [HS.out]; rfl, 0, rfl⟩
  by_cases k3 : r.g < id / 64
  · have HS := Lib.hid (show SlabS.rslot ⟨rs, cnt⟩ id = -1 from if_neg (fun h => by have := h.2.2; simp only [hj, Int.toNat_natCast, hr] at this; omega))
    clear hl hr
    go_enter Try.func40, Try.ntmps40
    go_wp2
    go_ret
    exact ⟨by rw [HS.out]; rfl, 0, rfl⟩
  · have HS := Lib.hid (show SlabS.rslot ⟨rs, cnt⟩ id = j from (if_pos ⟨by simp only [hl, hj]; omega, by omega, by simp only [hj, Int.toNat_natCast, hr]; omega⟩).trans hj)
    clear hl hr
    go_enter Try.func40, Try.ntmps40
    go_wp2
    go_ret
    exact ⟨by rw [HS.out]; rfl, 0, rfl⟩
theorem RefS.recs {vb : Nat} {s : SlabS} {qs : List Req} {gV gL gQ : List Blk} (h : RefS vb s qs gV gL gQ) : ∃ lb rv, gV = [cl vb 61 #[.slice (some ⟨lb, 0, none⟩) s.recs.length s.recs.length, .int .i64 s.count, rv]] ∧ gL = [cl lb 66 (s.recs.flatMap recV).toArray] := by
  obtain ⟨lb, rv, h1, h2, h3⟩ := h
  exact ⟨lb, rv, h1, h2⟩
theorem recs_set {rs : List Rec} {k : Nat} {r : Rec} (hk : k < rs.length) (hr : rs.getD k Rec.zero = r) (x : Int) : ((rs.flatMap recV).toArray).setIfInBounds (k * 3) (.int .u64 x) = ((rs.set k { r with w := x }).flatMap recV).toArray := by
  rw [List.setIfInBounds_toArray, show k * 3 = k * 3 + 0 from rfl, flat_set recV 3 Rec.zero (fun _ => rfl) rs k 0 hk (by decide) _ { r with w := x } (by rw [hr]; rfl)]
theorem refNext_g (n e : Int) (p : Bool) (h0 : 0 ≤ n) (h1 : n < 18446744073709551616) : DoesG Try.prog 37 #[.int .u64 n, .int .i64 e, .bool p] [] fun e' gs => e' = .returned (.tuple #[.int .u64 (nextW n e p).1, .int .i64 (nextW n e p).2]) ∧ gs = [] :=
  DoesG.below (Q := fun e' => e' = .returned (.tuple #[.int .u64 (nextW n e p).1, .int .i64 (nextW n e p).2])) (fun w => refNext_any n e p w h0 h1)
set_option maxRecDepth 100000 in
set_option maxHeartbeats 1000000 in
theorem refTry_g {vb : Nat} {s : SlabS} {qs : List Req} {gV gL gQ : List Blk} (h : RefS vb s qs gV gL gQ) (hs : SlabOk s) (k old ev : Int) (h0 : 0 ≤ old) (h1 : old < 18446744073709551616) :
    DoesG Try.prog 23 #[ptr vb, .int .i64 k, .int .u64 old, .int .i64 ev] [gV, gL] fun e gs => e = .returned (.tuple #[.int .u64 (s.try k old ev).2.1, .int .i64 (s.try k old ev).2.2]) ∧ ∃ gV' gL', RefS vb (s.try k old ev).1 qs gV' gL' gQ ∧ gs = [gV', gL'] := by
  have h' := h
  obtain ⟨lb, rv, rfl, rfl, hr⟩ := h
  by_cases hk : s.has k
  · have hk' := hk
    obtain ⟨j, rfl⟩ := SlabS.has_nat hk
    have hj : j < s.recs.length := by unfold SlabS.has at hk; omega
    have hn := hs.n1
    have hbr := hs.getD j
    obtain ⟨rs, cnt⟩ := s
    simp only at hj hn hbr
    intro w hw
    have HT := Lib.hid (TG.refl hw)
    clear hw
    simp only at HT
    have c0 := HT.out.cell 0 0 rfl 0
    simp only [List.getElem?_toArray, List.getElem?_cons_zero] at c0
    obtain ⟨r, hr, r0, r1, r2⟩ := rec_at HT.out 1 rfl hj
    rw [hr] at hbr
    have f1 := HT.out.free 1 0 rfl
    obtain ⟨t, ht⟩ : ∃ t, nextW old ev (decide (0 < r.p)) = t := ⟨_, rfl⟩
    obtain ⟨t1, t2⟩ := t
    have HTRY := Lib.hid (show SlabS.try ⟨rs, cnt⟩ j old ev = if t2 ≠ 0 then (⟨rs, cnt⟩, r.w, t2) else if r.w = old then (⟨rs.set j { r with w := t1 }, cnt⟩, t1, 0) else (⟨rs, cnt⟩, r.w, 10) by
      unfold SlabS.try
      rw [if_pos hk']
      simp only [Int.toNat_natCast, hr, ht])
    have HNX := Lib.hid (refNext_g old ev (decide (0 < r.p)) h0 h1)
    rw [ht] at HNX
    have HST := Lib.hid (fun x => recs_set hj hr x)
    have HH := Lib.hid h'
    generalize hl : rs.length = n at *
    have HL := Lib.hid hl
    have HRR := Lib.hid hr
    clear ht hl hr h' hk hk' hs hbr
    by_cases q1 : t2 = 0
    · subst q1
      by_cases q2 : r.w = old
      · have q3 : (r.w != old) = false := by simp [q2]
        have HT3 := Lib.hid (show SlabS.try ⟨rs, cnt⟩ j old ev = (⟨rs.set j { r with w := t1 }, cnt⟩, t1, 0) by rw [HTRY.out, if_neg (by simp), if_pos q2])
        clear q2
        go_enter Try.func23, Try.ntmps23
        go_wp2_with fail
        refine (DoesG.use (HNX.out) (HT.out) [] rfl rfl).mono ?_
        rintro e w1 ⟨gs, ⟨rfl, rfl⟩, Ta⟩
        simp only [putG, List.set_cons_zero, List.set_cons_succ, List.cons_append, List.nil_append, List.append_nil] at Ta
        have f1 := Ta.cell 1 0 rfl
        have ff1 := Ta.free 1 0 rfl
        have HT := Lib.hid Ta
        clear Ta
        clear f1
        have f1 := HT.out.free 1 0 rfl
        have c0 := HT.out.cell 0 0 rfl 0
        simp only [List.getElem?_toArray, List.getElem?_cons_zero] at c0
        obtain ⟨r', hr', r0, r1, r2⟩ := rec_at HT.out 1 rfl (k := j) (by rw [HL.out]; exact hj)
        rw [HRR.out] at hr'
        subst hr'
        go_wp2
        go_ret2
        rw [HT3.out]
        refine ⟨_, ⟨rfl, _, _, ⟨lb, rv, ?_, ?_, hr⟩, rfl⟩, HT.out.set 1 0 rfl (j * 3) _⟩
        · simp [HL.out]
        · exact congrArg (fun C => [cl lb 66 C]) (HST.out t1)
      · have q3 : (r.w != old) = true := by simpa using q2
        have HT3 := Lib.hid (show SlabS.try ⟨rs, cnt⟩ j old ev = (⟨rs, cnt⟩, r.w, 10) by rw [HTRY.out, if_neg (by simp), if_neg q2])
        clear q2
        go_enter Try.func23, Try.ntmps23
        go_wp2_with fail
        refine (DoesG.use (HNX.out) (HT.out) [] rfl rfl).mono ?_
        rintro e w1 ⟨gs, ⟨rfl, rfl⟩, Ta⟩
        simp only [putG, List.set_cons_zero, List.set_cons_succ, List.cons_append, List.nil_append, List.append_nil] at Ta
        have f1 := Ta.cell 1 0 rfl
        have ff1 := Ta.free 1 0 rfl
        have HT := Lib.hid Ta
        clear Ta
        clear f1
        have f1 := HT.out.free 1 0 rfl
        have c0 := HT.out.cell 0 0 rfl 0
        simp only [List.getElem?_toArray, List.getElem?_cons_zero] at c0
        obtain ⟨r', hr', r0, r1, r2⟩ := rec_at HT.out 1 rfl (k := j) (by rw [HL.out]; exact hj)
        rw [HRR.out] at hr'
        subst hr'
        go_wp2
        go_ret2
        rw [HT3.out]
        exact ⟨_, ⟨rfl, _, _, HH.out, rfl⟩, HT.out⟩
    · have q3 : (t2 != 0) = true := by simpa using q1
      have HT3 := Lib.hid (show SlabS.try ⟨rs, cnt⟩ j old ev = (⟨rs, cnt⟩, r.w, t2) by rw [HTRY.out, if_pos q1])
      clear q1
      go_enter Try.func23, Try.ntmps23
      go_wp2_with fail
      refine (DoesG.use (HNX.out) (HT.out) [] rfl rfl).mono ?_
      rintro e w1 ⟨gs, ⟨rfl, rfl⟩, Ta⟩
      simp only [putG, List.set_cons_zero, List.set_cons_succ, List.cons_append, List.nil_append, List.append_nil] at Ta
      have f1 := Ta.cell 1 0 rfl
      have ff1 := Ta.free 1 0 rfl
      have HT := Lib.hid Ta
      clear Ta
      clear f1
      have f1 := HT.out.free 1 0 rfl
      have c0 := HT.out.cell 0 0 rfl 0
      simp only [List.getElem?_toArray, List.getElem?_cons_zero] at c0
      obtain ⟨r', hr', r0, r1, r2⟩ := rec_at HT.out 1 rfl (k := j) (by rw [HL.out]; exact hj)
      rw [HRR.out] at hr'
      subst hr'
      go_wp2
      go_ret2
      rw [HT3.out]
      exact ⟨_, ⟨rfl, _, _, HH.out, rfl⟩, HT.out⟩
  · have HTRY := Lib.hid (show s.try k old ev = (s, 0, 4) from if_neg hk)
    have hkk : k < 0 ∨ (s.recs.length : Int) ≤ k := by unfold SlabS.has at hk; omega
    have hn := hs.n1
    clear hk hs
    intro w hw
    have HT := Lib.hid (TG.refl hw)
    clear hw
    have c0 := HT.out.cell 0 0 rfl 0
    simp only [List.getElem?_toArray, List.getElem?_cons_zero] at c0
    by_cases hlt : k < 0
    · clear hkk
      go_enter Try.func23, Try.ntmps23
      go_wp2
      go_ret2
      rw [HTRY.out]
      exact ⟨_, ⟨rfl, _, _, h', rfl⟩, HT.out⟩
    · have hge : (s.recs.length : Int) ≤ k := by omega
      clear hkk
      go_enter Try.func23, Try.ntmps23
      go_wp2
      go_ret2
      rw [HTRY.out]
      exact ⟨_, ⟨rfl, _, _, h', rfl⟩, HT.out⟩
theorem recs_up {rs : List Rec} {j : Nat} {r : Rec} (hj : j < rs.length) (hr : rs.getD j Rec.zero = r) (x : Int) :
    ((rs.flatMap recV).toArray).setIfInBounds (j * 3) (.int .u64 x) = ((rs.set j ⟨x, r.g, r.p⟩).flatMap recV).toArray ∧
    ((rs.flatMap recV).toArray).setIfInBounds (j * 3 + 1) (.int .u64 x) = ((rs.set j ⟨r.w, x, r.p⟩).flatMap recV).toArray ∧
    ((rs.flatMap recV).toArray).setIfInBounds (j * 3 + 2) (.int .u64 x) = ((rs.set j ⟨r.w, r.g, x⟩).flatMap recV).toArray := by
  refine ⟨?_, ?_, ?_⟩
  · rw [List.setIfInBounds_toArray, show j * 3 = j * 3 + 0 from rfl, flat_set recV 3 Rec.zero (fun _ => rfl) rs j 0 hj (by decide) _ ⟨x, r.g, r.p⟩ (by rw [hr]; rfl)]
  · rw [List.setIfInBounds_toArray, flat_set recV 3 Rec.zero (fun _ => rfl) rs j 1 hj (by decide) _ ⟨r.w, x, r.p⟩ (by rw [hr]; rfl)]
  · rw [List.setIfInBounds_toArray, flat_set recV 3 Rec.zero (fun _ => rfl) rs j 2 hj (by decide) _ ⟨r.w, r.g, x⟩ (by rw [hr]; rfl)]
theorem recs_up2 {rs : List Rec} {j : Nat} (hj : j < rs.length) (a b c x : Int) :
    (((rs.set j ⟨a, b, c⟩).flatMap recV).toArray).setIfInBounds (j * 3 + 1) (.int .u64 x) = ((rs.set j ⟨a, x, c⟩).flatMap recV).toArray ∧
    (((rs.set j ⟨a, b, c⟩).flatMap recV).toArray).setIfInBounds (j * 3 + 2) (.int .u64 x) = ((rs.set j ⟨a, b, x⟩).flatMap recV).toArray := by
  have h := recs_up (rs := rs.set j ⟨a, b, c⟩) (j := j) (r := ⟨a, b, c⟩) (by simpa using hj) (by rw [List.getD_eq_getElem?_getD, List.getElem?_set, if_pos rfl, if_pos hj]; rfl) x
  simp only [List.set_set] at h
  exact h.2
theorem getD_setR {rs : List Rec} {j : Nat} (hj : j < rs.length) (r : Rec) : (rs.set j r).getD j Rec.zero = r := by
  rw [List.getD_eq_getElem?_getD, List.getElem?_set, if_pos rfl, if_pos hj]; rfl
theorem req_at {h H : GH} {w w' : World} (T : TG h w H w') (i : Nat) {rv : Value} {qs : List Req} {g : List Blk} (hi : H.getD i [] = g) (hr : rowG 63 5 rv qs.length (qs.flatMap reqV) g) {k : Nat} (hk : k < qs.length) :
    ∃ b cap cur, rv = .slice (some ⟨b, 0, none⟩) qs.length cap ∧ g = [cl b 63 cur] ∧ qs.length ≤ cap ∧ cap ≤ maxLen ∧ ∃ q, qs.getD k Req.zero = q ∧ w'.cell? ⟨b, k * 5, none⟩ = some (.int .i64 (atR q)) ∧ w'.cell? ⟨b, k * 5 + 1, none⟩ = some (.int .i64 q.saw) ∧ w'.cell? ⟨b, k * 5 + 2, none⟩ = some (.int .i64 q.slot) ∧ w'.cell? ⟨b, k * 5 + 3, none⟩ = some (.int .u64 q.id) ∧ w'.cell? ⟨b, k * 5 + 4, none⟩ = some (.int .u64 q.p) := by
  obtain ⟨b, cap, cur, e1, e2, e3, e4, e5, e6⟩ := hr.open (by omega)
  have hh := fun j (hj : j < 5) => (T.cell (b := b) i 0 (by rw [hi, e2]; rfl) (k * 5 + j)).trans ((e6 (k * 5 + j) (by omega)).trans (flat_at reqV 5 Req.zero (fun _ => rfl) qs k j hk hj))
  exact ⟨b, cap, cur, e1, e2, e3, e4, _, rfl, hh 0 (by omega), hh 1 (by omega), hh 2 (by omega), hh 3 (by omega), hh 4 (by omega)⟩
set_option maxRecDepth 100000 in
set_option maxHeartbeats 2000000 in
theorem refStep_full {vb : Nat} {s : SlabS} {qs : List Req} {gV gL gQ : List Blk} (h : RefS vb s qs gV gL gQ) (hs : SlabOk s) {k : Nat} (hk : k < qs.length) {q : Req} (hq : qs.getD k Req.zero = q) (hok : ReqOk s.recs.length q) (k3 : q.st = 1) :
    DoesG Try.prog 22 #[ptr vb, .int .i64 k] [gV, gL, gQ] fun e gs => e = .returned (.int .i64 (retR (stepR s q).2)) ∧ ∃ gV' gL' gQ', RefS vb (stepR s q).1 (qs.set k (stepR s q).2) gV' gL' gQ' ∧ gs = [gV', gL', gQ'] := by
  have h' := h
  obtain ⟨lb, rv, rfl, rfl, hr⟩ := h
  intro w hw
  have HT := Lib.hid (TG.refl hw)
  clear hw
  obtain ⟨b, cap, cur, rfl, rfl, hm1, hm2, q', hq', q0, q1, q2, q3, q4⟩ := req_at HT.out 2 rfl hr hk
  rw [hq] at hq'
  subst hq'
  have HQ := Lib.hid hq
  have HR := Lib.hid hr
  have HH := Lib.hid h'
  clear hq hr h'
  have c0 := HT.out.cell 0 0 rfl
  have f0 := HT.out.free 0 0 rfl
  have f2 := HT.out.free 2 0 rfl
  have lv := HT.out.lt 0 0 rfl
  simp only [] at lv
  have hn := hs.n1
  have hn0 := hs.n0
  have hsl := hok.slot0
  have hsl1 := hok.slot1
  have hc0 := hs.c0
  have hc1 := hs.c1
  have HA := Lib.hid (show atR q = 3 from if_pos k3)
  have HB := Lib.hid HA.out
  have HC := Lib.hid (show retR q = 1 from if_pos k3)
  rw [HA.out] at q0
  have HS := Lib.hid (show stepR s q = (s, q) from if_pos (by omega))
  clear k3 hok hs
  go_enter Try.func22, Try.ntmps22
  go_wp2
  have HT := Lib.hid (HT.out.alloc (k := w.heap.size) rfl 63 #[.int .i64 3, .int .i64 q.saw, .int .i64 q.slot, .int .u64 q.id, .int .u64 q.p])
  generalize hww : w.alloc _ = w1 at HT ⊢
  generalize hbb : w.heap.size = bb at *
  simp only [List.cons_append, List.nil_append] at HT
  clear c0 f0 f2 q0 q1 q2 q3 q4 hww hbb
  have c0 := HT.out.cell 0 0 rfl
  have fv := HT.out.free 0 0 rfl
  have f2 := HT.out.free 2 0 rfl
  have b0 := HT.out.cell 3 0 rfl
  have fb := HT.out.free 3 0 rfl
  obtain ⟨_, _, _, e1, e2, _, _, q', hq', q0, q1, q2, q3, q4⟩ := req_at HT.out 2 rfl HR.out hk
  cases e1
  rw [HQ.out] at hq'
  subst hq'
  rw [HA.out] at q0
  clear e2
  go_region
  have hp := row_put (f := reqV) (fun _ => rfl) HT.out 2 rfl HR.out hk q
  obtain ⟨cur2, hr2, T2⟩ := hp
  simp only [reqV, HB.out, setsW] at T2
  skip
  generalize hww : World.drew _ = w2
  have HT := Lib.hid (show TG _ _ _ w2 by rw [← hww]; exact T2.drew)
  simp only [List.set_cons_zero, List.set_cons_succ] at HT
  have HR2 := Lib.hid hr2
  clear c0 fv f2 b0 fb q0 q1 q2 q3 q4 hww hr2 T2
  have b0 := HT.out.cell 3 0 rfl
  go_wp2
  go_ret
  rw [HS.out]
  exact ⟨_, ⟨by simp only [HC.out]; rfl, _, _, _, ⟨lb, _, rfl, rfl, HR2.out⟩, rfl⟩, HT.out.pick [0, 1, 2] rfl⟩
set_option maxRecDepth 100000 in
set_option maxHeartbeats 2000000 in
theorem refStep_held {vb : Nat} {s : SlabS} {qs : List Req} {gV gL gQ : List Blk} (h : RefS vb s qs gV gL gQ) (hs : SlabOk s) {k : Nat} (hk : k < qs.length) {q : Req} (hq : qs.getD k Req.zero = q) (hok : ReqOk s.recs.length q) (k4 : q.st = 2) :
    DoesG Try.prog 22 #[ptr vb, .int .i64 k] [gV, gL, gQ] fun e gs => e = .returned (.int .i64 (retR (stepR s q).2)) ∧ ∃ gV' gL' gQ', RefS vb (stepR s q).1 (qs.set k (stepR s q).2) gV' gL' gQ' ∧ gs = [gV', gL', gQ'] := by
  have h' := h
  obtain ⟨lb, rv, rfl, rfl, hr⟩ := h
  intro w hw
  have HT := Lib.hid (TG.refl hw)
  clear hw
  obtain ⟨b, cap, cur, rfl, rfl, hm1, hm2, q', hq', q0, q1, q2, q3, q4⟩ := req_at HT.out 2 rfl hr hk
  rw [hq] at hq'
  subst hq'
  have HQ := Lib.hid hq
  have HR := Lib.hid hr
  have HH := Lib.hid h'
  clear hq hr h'
  have c0 := HT.out.cell 0 0 rfl
  have f0 := HT.out.free 0 0 rfl
  have f2 := HT.out.free 2 0 rfl
  have lv := HT.out.lt 0 0 rfl
  simp only [] at lv
  have hn := hs.n1
  have hn0 := hs.n0
  have hsl := hok.slot0
  have hsl1 := hok.slot1
  have hc0 := hs.c0
  have hc1 := hs.c1
  have k3 : q.st ≠ 1 := by omega
  have HA := Lib.hid (show atR q = 4 from (if_neg k3).trans (if_pos k4))
  have HB := Lib.hid HA.out
  have HC := Lib.hid (show retR q = 2 from (if_neg k3).trans (if_pos k4))
  rw [HA.out] at q0
  have HS := Lib.hid (show stepR s q = (s, q) from if_pos (by omega))
  clear k3 k4 hok hs
  go_enter Try.func22, Try.ntmps22
  go_wp2
  have HT := Lib.hid (HT.out.alloc (k := w.heap.size) rfl 63 #[.int .i64 4, .int .i64 q.saw, .int .i64 q.slot, .int .u64 q.id, .int .u64 q.p])
  generalize hww : w.alloc _ = w1 at HT ⊢
  generalize hbb : w.heap.size = bb at *
  simp only [List.cons_append, List.nil_append] at HT
  clear c0 f0 f2 q0 q1 q2 q3 q4 hww hbb
  have c0 := HT.out.cell 0 0 rfl
  have fv := HT.out.free 0 0 rfl
  have f2 := HT.out.free 2 0 rfl
  have b0 := HT.out.cell 3 0 rfl
  have fb := HT.out.free 3 0 rfl
  obtain ⟨_, _, _, e1, e2, _, _, q', hq', q0, q1, q2, q3, q4⟩ := req_at HT.out 2 rfl HR.out hk
  cases e1
  rw [HQ.out] at hq'
  subst hq'
  rw [HA.out] at q0
  clear e2
  go_region
  have hp := row_put (f := reqV) (fun _ => rfl) HT.out 2 rfl HR.out hk q
  obtain ⟨cur2, hr2, T2⟩ := hp
  simp only [reqV, HB.out, setsW] at T2
  skip
  generalize hww : World.drew _ = w2
  have HT := Lib.hid (show TG _ _ _ w2 by rw [← hww]; exact T2.drew)
  simp only [List.set_cons_zero, List.set_cons_succ] at HT
  have HR2 := Lib.hid hr2
  clear c0 fv f2 b0 fb q0 q1 q2 q3 q4 hww hr2 T2
  have b0 := HT.out.cell 3 0 rfl
  go_wp2
  go_ret
  rw [HS.out]
  exact ⟨_, ⟨by simp only [HC.out]; rfl, _, _, _, ⟨lb, _, rfl, rfl, HR2.out⟩, rfl⟩, HT.out.pick [0, 1, 2] rfl⟩
set_option maxRecDepth 100000 in
set_option maxHeartbeats 2000000 in
theorem refStep_look {vb : Nat} {s : SlabS} {qs : List Req} {gV gL gQ : List Blk} (h : RefS vb s qs gV gL gQ) (hs : SlabOk s) {k : Nat} (hk : k < qs.length) {q : Req} (hq : qs.getD k Req.zero = q) (hok : ReqOk s.recs.length q) (k0 : q.st = 0) (kn : q.next = 0) :
    DoesG Try.prog 22 #[ptr vb, .int .i64 k] [gV, gL, gQ] fun e gs => e = .returned (.int .i64 (retR (stepR s q).2)) ∧ ∃ gV' gL' gQ', RefS vb (stepR s q).1 (qs.set k (stepR s q).2) gV' gL' gQ' ∧ gs = [gV', gL', gQ'] := by
  have h' := h
  obtain ⟨lb, rv, rfl, rfl, hr⟩ := h
  intro w hw
  have HT := Lib.hid (TG.refl hw)
  clear hw
  obtain ⟨b, cap, cur, rfl, rfl, hm1, hm2, q', hq', q0, q1, q2, q3, q4⟩ := req_at HT.out 2 rfl hr hk
  rw [hq] at hq'
  subst hq'
  have HQ := Lib.hid hq
  have HR := Lib.hid hr
  have HH := Lib.hid h'
  clear hq hr h'
  have c0 := HT.out.cell 0 0 rfl
  have f0 := HT.out.free 0 0 rfl
  have f2 := HT.out.free 2 0 rfl
  have lv := HT.out.lt 0 0 rfl
  simp only [] at lv
  have hn := hs.n1
  have hn0 := hs.n0
  have hsl := hok.slot0
  have hsl1 := hok.slot1
  have hc0 := hs.c0
  have hc1 := hs.c1
  have k3 : q.st ≠ 1 := by omega
  have k4 : q.st ≠ 2 := by omega
  have hAn : atR q = q.next := (if_neg k3).trans (if_neg k4)
  have HA := Lib.hid (hAn.trans kn)
  rw [HA.out] at q0
  by_cases hf : (s.recs.length : Int) ≤ s.count
  · have HS := Lib.hid (show stepR s q = (s, { q with saw := s.count, st := 1 }) by unfold stepR; rw [if_neg (by omega), if_pos kn]; unfold lookR; rw [if_pos hf])
    have HB := Lib.hid (show atR { q with saw := s.count, st := 1 } = 3 from rfl)
    have HC := Lib.hid (show retR { q with saw := s.count, st := 1 } = 1 from rfl)
    clear k3 k4 hok hs k0 hAn kn
    go_enter Try.func22, Try.ntmps22
    go_upto_region 6 with fail
    have HT := Lib.hid (HT.out.alloc (k := w.heap.size) rfl 63 #[.int .i64 1, .int .i64 s.count, .int .i64 q.slot, .int .u64 q.id, .int .u64 q.p])
    generalize hww : w.alloc _ = w1 at HT ⊢
    generalize hbb : w.heap.size = bb at *
    simp only [List.cons_append, List.nil_append] at HT
    clear c0 f0 f2 q0 q1 q2 q3 q4 hww hbb
    have c0 := HT.out.cell 0 0 rfl
    have fv := HT.out.free 0 0 rfl
    have f2 := HT.out.free 2 0 rfl
    have b0 := HT.out.cell 3 0 rfl
    have fb := HT.out.free 3 0 rfl
    obtain ⟨_, _, _, e1, e2, _, _, q', hq', q0, q1, q2, q3, q4⟩ := req_at HT.out 2 rfl HR.out hk
    cases e1
    rw [HQ.out] at hq'
    subst hq'
    rw [HA.out] at q0
    clear e2
    go_quiet (fail)
    go_upto_region 22 with fail
    generalize hww : World.setCell _ _ _ = w2 at ⊢
    have HT := Lib.hid (show TG _ _ _ w2 by rw [← hww]; exact (HT.out.drewN nq).set 3 0 rfl 0 _)
    simp only [List.set_cons_zero, List.set_cons_succ] at HT
    clear c0 fv f2 b0 fb q0 q1 q2 q3 q4 hww
    have c0 := HT.out.cell 0 0 rfl
    have fv := HT.out.free 0 0 rfl
    have f2 := HT.out.free 2 0 rfl
    have b0 := HT.out.cell 3 0 rfl
    have fb := HT.out.free 3 0 rfl
    obtain ⟨_, _, _, e1, e2, _, _, q', hq', q0, q1, q2, q3, q4⟩ := req_at HT.out 2 rfl HR.out hk
    cases e1
    rw [HQ.out] at hq'
    subst hq'
    rw [HA.out] at q0
    clear e2
    go_region
    have hp := row_put (f := reqV) (fun _ => rfl) HT.out 2 rfl HR.out hk { q with saw := s.count, st := 1 }
    obtain ⟨cur2, hr2, T2⟩ := hp
    simp only [reqV, HB.out, setsW] at T2
    skip
    generalize hww : World.drew _ = w2
    have HT := Lib.hid (show TG _ _ _ w2 by rw [← hww]; exact T2.drew)
    simp only [List.set_cons_zero, List.set_cons_succ] at HT
    have HR2 := Lib.hid hr2
    clear c0 fv f2 b0 fb q0 q1 q2 q3 q4 hww hr2 T2
    have b0 := HT.out.cell 3 0 rfl
    go_wp2
    go_ret
    rw [HS.out]
    exact ⟨_, ⟨by simp only [HC.out]; rfl, _, _, _, ⟨lb, _, rfl, rfl, HR2.out⟩, rfl⟩, HT.out.pick [0, 1, 2] rfl⟩
  · have HS := Lib.hid (show stepR s q = (s, { q with saw := s.count, next := 1 }) by unfold stepR; rw [if_neg (by omega), if_pos kn]; unfold lookR; rw [if_neg hf])
    have HB := Lib.hid (show atR { q with saw := s.count, next := 1 } = 1 from (if_neg k3).trans (if_neg k4))
    have HC := Lib.hid (show retR { q with saw := s.count, next := 1 } = 0 from (if_neg k3).trans (if_neg k4))
    have hf' : s.count < s.recs.length := by omega
    clear k3 k4 hok hs k0 hAn kn hf
    go_enter Try.func22, Try.ntmps22
    go_upto_region 6 with fail
    have HT := Lib.hid (HT.out.alloc (k := w.heap.size) rfl 63 #[.int .i64 1, .int .i64 s.count, .int .i64 q.slot, .int .u64 q.id, .int .u64 q.p])
    generalize hww : w.alloc _ = w1 at HT ⊢
    generalize hbb : w.heap.size = bb at *
    simp only [List.cons_append, List.nil_append] at HT
    clear c0 f0 f2 q0 q1 q2 q3 q4 hww hbb
    have c0 := HT.out.cell 0 0 rfl
    have fv := HT.out.free 0 0 rfl
    have f2 := HT.out.free 2 0 rfl
    have b0 := HT.out.cell 3 0 rfl
    have fb := HT.out.free 3 0 rfl
    obtain ⟨_, _, _, e1, e2, _, _, q', hq', q0, q1, q2, q3, q4⟩ := req_at HT.out 2 rfl HR.out hk
    cases e1
    rw [HQ.out] at hq'
    subst hq'
    rw [HA.out] at q0
    clear e2
    go_quiet (fail)
    go_upto_region 22 with fail
    generalize hww : World.drewN _ _ = w2 at ⊢
    have HT := Lib.hid (show TG _ _ _ w2 by rw [← hww]; exact HT.out.drewN _)
    clear c0 fv f2 b0 fb q0 q1 q2 q3 q4 hww
    have c0 := HT.out.cell 0 0 rfl
    have fv := HT.out.free 0 0 rfl
    have f2 := HT.out.free 2 0 rfl
    have b0 := HT.out.cell 3 0 rfl
    have fb := HT.out.free 3 0 rfl
    obtain ⟨_, _, _, e1, e2, _, _, q', hq', q0, q1, q2, q3, q4⟩ := req_at HT.out 2 rfl HR.out hk
    cases e1
    rw [HQ.out] at hq'
    subst hq'
    rw [HA.out] at q0
    clear e2
    go_region
    have hp := row_put (f := reqV) (fun _ => rfl) HT.out 2 rfl HR.out hk { q with saw := s.count, next := 1 }
    obtain ⟨cur2, hr2, T2⟩ := hp
    simp only [reqV, HB.out, setsW] at T2
    skip
    generalize hww : World.drew _ = w2
    have HT := Lib.hid (show TG _ _ _ w2 by rw [← hww]; exact T2.drew)
    simp only [List.set_cons_zero, List.set_cons_succ] at HT
    have HR2 := Lib.hid hr2
    clear c0 fv f2 b0 fb q0 q1 q2 q3 q4 hww hr2 T2
    have b0 := HT.out.cell 3 0 rfl
    go_wp2
    go_ret
    rw [HS.out]
    exact ⟨_, ⟨by simp only [HC.out]; rfl, _, _, _, ⟨lb, _, rfl, rfl, HR2.out⟩, rfl⟩, HT.out.pick [0, 1, 2] rfl⟩
set_option maxRecDepth 100000 in
set_option maxHeartbeats 2000000 in
theorem refStep_more {vb : Nat} {s : SlabS} {qs : List Req} {gV gL gQ : List Blk} (h : RefS vb s qs gV gL gQ) (hs : SlabOk s) {k : Nat} (hk : k < qs.length) {q : Req} (hq : qs.getD k Req.zero = q) (hok : ReqOk s.recs.length q) (k0 : q.st = 0) (kn : q.next = 1) :
    DoesG Try.prog 22 #[ptr vb, .int .i64 k] [gV, gL, gQ] fun e gs => e = .returned (.int .i64 (retR (stepR s q).2)) ∧ ∃ gV' gL' gQ', RefS vb (stepR s q).1 (qs.set k (stepR s q).2) gV' gL' gQ' ∧ gs = [gV', gL', gQ'] := by
  have h' := h
  obtain ⟨lb, rv, rfl, rfl, hr⟩ := h
  intro w hw
  have HT := Lib.hid (TG.refl hw)
  clear hw
  obtain ⟨b, cap, cur, rfl, rfl, hm1, hm2, q', hq', q0, q1, q2, q3, q4⟩ := req_at HT.out 2 rfl hr hk
  rw [hq] at hq'
  subst hq'
  have HQ := Lib.hid hq
  have HR := Lib.hid hr
  have HH := Lib.hid h'
  clear hq hr h'
  have c0 := HT.out.cell 0 0 rfl
  have f0 := HT.out.free 0 0 rfl
  have f2 := HT.out.free 2 0 rfl
  have lv := HT.out.lt 0 0 rfl
  simp only [] at lv
  have hn := hs.n1
  have hn0 := hs.n0
  have hsl := hok.slot0
  have hsl1 := hok.slot1
  have hc0 := hs.c0
  have hc1 := hs.c1
  have k3 : q.st ≠ 1 := by omega
  have k4 : q.st ≠ 2 := by omega
  have hAn : atR q = q.next := (if_neg k3).trans (if_neg k4)
  have HA := Lib.hid (hAn.trans kn)
  rw [HA.out] at q0
  by_cases hf : s.count = q.saw
  · have HS := Lib.hid (show stepR s q = ({ s with count := s.count + 1 }, { q with next := 2 }) by unfold stepR; rw [if_neg (by omega), if_neg (by omega), if_pos kn]; unfold moreR; rw [if_pos hf])
    have HB := Lib.hid (show atR { q with next := 2 } = 2 from (if_neg k3).trans (if_neg k4))
    have HC := Lib.hid (show retR { q with next := 2 } = 0 from (if_neg k3).trans (if_neg k4))
    have hfb : (s.count == q.saw) = true := beq_iff_eq.2 hf
    clear k3 k4 hok hs k0 hAn kn hf
    go_enter Try.func22, Try.ntmps22
    go_upto_region 10 with fail
    have HT := Lib.hid (HT.out.alloc (k := w.heap.size) rfl 63 #[.int .i64 0, .int .i64 q.saw, .int .i64 q.slot, .int .u64 q.id, .int .u64 q.p])
    generalize hww : w.alloc _ = w1 at HT ⊢
    generalize hbb : w.heap.size = bb at *
    simp only [List.cons_append, List.nil_append] at HT
    clear c0 f0 f2 q0 q1 q2 q3 q4 hww hbb
    have c0 := HT.out.cell 0 0 rfl
    have fv := HT.out.free 0 0 rfl
    have f2 := HT.out.free 2 0 rfl
    have b0 := HT.out.cell 3 0 rfl
    have fb := HT.out.free 3 0 rfl
    obtain ⟨_, _, _, e1, e2, _, _, q', hq', q0, q1, q2, q3, q4⟩ := req_at HT.out 2 rfl HR.out hk
    cases e1
    rw [HQ.out] at hq'
    subst hq'
    rw [HA.out] at q0
    clear e2
    go_quiet (fail)
    go_upto_region 22 with fail
    generalize hww : World.setCell _ _ _ = w2 at ⊢
    have HT := Lib.hid (show TG _ _ _ w2 by rw [← hww]; exact ((HT.out.drewN nq).set 0 0 rfl 1 _).set 3 0 rfl 0 _)
    simp only [List.set_cons_zero, List.set_cons_succ] at HT
    clear c0 fv f2 b0 fb q0 q1 q2 q3 q4 hww
    have c0 := HT.out.cell 0 0 rfl
    have fv := HT.out.free 0 0 rfl
    have f2 := HT.out.free 2 0 rfl
    have b0 := HT.out.cell 3 0 rfl
    have fb := HT.out.free 3 0 rfl
    obtain ⟨_, _, _, e1, e2, _, _, q', hq', q0, q1, q2, q3, q4⟩ := req_at HT.out 2 rfl HR.out hk
    cases e1
    rw [HQ.out] at hq'
    subst hq'
    rw [HA.out] at q0
    clear e2
    go_region
    have hp := row_put (f := reqV) (fun _ => rfl) HT.out 2 rfl HR.out hk { q with next := 2 }
    obtain ⟨cur2, hr2, T2⟩ := hp
    simp only [reqV, HB.out, setsW] at T2
    skip
    generalize hww : World.drew _ = w2
    have HT := Lib.hid (show TG _ _ _ w2 by rw [← hww]; exact T2.drew)
    simp only [List.set_cons_zero, List.set_cons_succ] at HT
    have HR2 := Lib.hid hr2
    clear c0 fv f2 b0 fb q0 q1 q2 q3 q4 hww hr2 T2
    have b0 := HT.out.cell 3 0 rfl
    go_wp2
    go_ret
    rw [HS.out]
    exact ⟨_, ⟨by simp only [HC.out]; rfl, _, _, _, ⟨lb, _, rfl, rfl, HR2.out⟩, rfl⟩, HT.out.pick [0, 1, 2] rfl⟩
  · have HS := Lib.hid (show stepR s q = (s, { q with next := 0 }) by unfold stepR; rw [if_neg (by omega), if_neg (by omega), if_pos kn]; unfold moreR; rw [if_neg hf])
    have HB := Lib.hid (show atR { q with next := 0 } = 0 from (if_neg k3).trans (if_neg k4))
    have HC := Lib.hid (show retR { q with next := 0 } = 0 from (if_neg k3).trans (if_neg k4))
    have hfb : (s.count == q.saw) = false := beq_eq_false_iff_ne.2 hf
    clear k3 k4 hok hs k0 hAn kn hf
    go_enter Try.func22, Try.ntmps22
    go_upto_region 10 with fail
    have HT := Lib.hid (HT.out.alloc (k := w.heap.size) rfl 63 #[.int .i64 0, .int .i64 q.saw, .int .i64 q.slot, .int .u64 q.id, .int .u64 q.p])
    generalize hww : w.alloc _ = w1 at HT ⊢
    generalize hbb : w.heap.size = bb at *
    simp only [List.cons_append, List.nil_append] at HT
    clear c0 f0 f2 q0 q1 q2 q3 q4 hww hbb
    have c0 := HT.out.cell 0 0 rfl
    have fv := HT.out.free 0 0 rfl
    have f2 := HT.out.free 2 0 rfl
    have b0 := HT.out.cell 3 0 rfl
    have fb := HT.out.free 3 0 rfl
    obtain ⟨_, _, _, e1, e2, _, _, q', hq', q0, q1, q2, q3, q4⟩ := req_at HT.out 2 rfl HR.out hk
    cases e1
    rw [HQ.out] at hq'
    subst hq'
    rw [HA.out] at q0
    clear e2
    go_quiet (fail)
    go_upto_region 22 with fail
    generalize hww : World.drewN _ _ = w2 at ⊢
    have HT := Lib.hid (show TG _ _ _ w2 by rw [← hww]; exact HT.out.drewN _)
    clear c0 fv f2 b0 fb q0 q1 q2 q3 q4 hww
    have c0 := HT.out.cell 0 0 rfl
    have fv := HT.out.free 0 0 rfl
    have f2 := HT.out.free 2 0 rfl
    have b0 := HT.out.cell 3 0 rfl
    have fb := HT.out.free 3 0 rfl
    obtain ⟨_, _, _, e1, e2, _, _, q', hq', q0, q1, q2, q3, q4⟩ := req_at HT.out 2 rfl HR.out hk
    cases e1
    rw [HQ.out] at hq'
    subst hq'
    rw [HA.out] at q0
    clear e2
    go_region
    have hp := row_put (f := reqV) (fun _ => rfl) HT.out 2 rfl HR.out hk { q with next := 0 }
    obtain ⟨cur2, hr2, T2⟩ := hp
    simp only [reqV, HB.out, setsW] at T2
    skip
    generalize hww : World.drew _ = w2
    have HT := Lib.hid (show TG _ _ _ w2 by rw [← hww]; exact T2.drew)
    simp only [List.set_cons_zero, List.set_cons_succ] at HT
    have HR2 := Lib.hid hr2
    clear c0 fv f2 b0 fb q0 q1 q2 q3 q4 hww hr2 T2
    have b0 := HT.out.cell 3 0 rfl
    go_wp2
    go_ret
    rw [HS.out]
    exact ⟨_, ⟨by simp only [HC.out]; rfl, _, _, _, ⟨lb, _, rfl, rfl, HR2.out⟩, rfl⟩, HT.out.pick [0, 1, 2] rfl⟩
set_option maxRecDepth 100000 in
set_option maxHeartbeats 2000000 in
theorem refStep_seekOk {vb : Nat} {s : SlabS} {qs : List Req} {gV gL gQ : List Blk} (h : RefS vb s qs gV gL gQ) (hs : SlabOk s) {k : Nat} (hk : k < qs.length) {q : Req} (hq : qs.getD k Req.zero = q) (hok : ReqOk s.recs.length q) (k0 : q.st = 0) (kn : q.next = 2) (hx : (nextW (s.recs.getD q.slot.toNat Rec.zero).w 1 (decide (0 < q.p))).2 = 0) :
    DoesG Try.prog 22 #[ptr vb, .int .i64 k] [gV, gL, gQ] fun e gs => e = .returned (.int .i64 (retR (stepR s q).2)) ∧ ∃ gV' gL' gQ', RefS vb (stepR s q).1 (qs.set k (stepR s q).2) gV' gL' gQ' ∧ gs = [gV', gL', gQ'] := by
  have h' := h
  obtain ⟨lb, rv, rfl, rfl, hr⟩ := h
  intro w hw
  have HT := Lib.hid (TG.refl hw)
  clear hw
  obtain ⟨b, cap, cur, rfl, rfl, hm1, hm2, q', hq', q0, q1, q2, q3, q4⟩ := req_at HT.out 2 rfl hr hk
  rw [hq] at hq'
  subst hq'
  have HQ := Lib.hid hq
  have HR := Lib.hid hr
  have HH := Lib.hid h'
  clear hq hr h'
  have c0 := HT.out.cell 0 0 rfl
  have f0 := HT.out.free 0 0 rfl
  have f2 := HT.out.free 2 0 rfl
  have lv := HT.out.lt 0 0 rfl
  simp only [] at lv
  have hn := hs.n1
  have hn0 := hs.n0
  have hsl := hok.slot0
  have hsl1 := hok.slot1
  have hc0 := hs.c0
  have hc1 := hs.c1
  have k3 : q.st ≠ 1 := by omega
  have k4 : q.st ≠ 2 := by omega
  have hAn : atR q = q.next := (if_neg k3).trans (if_neg k4)
  have HA := Lib.hid (hAn.trans kn)
  rw [HA.out] at q0
  obtain ⟨j, hj⟩ := Int.eq_ofNat_of_zero_le hok.slot0
  have hjn : j < s.recs.length := by omega
  have hbr := hs.getD j
  obtain ⟨r, hr, r0, r1, r2⟩ := rec_at HT.out 1 rfl hjn
  rw [hr] at hbr
  have hg1 := hbr.g1
  have hg2 : genW r.w ≤ 4294967295 := (ok_bd _ hbr.w0 hbr.ok).2.2.2
  have hg0 := hbr.g0
  obtain ⟨t, ht⟩ : ∃ t, nextW r.w 1 (decide (0 < q.p)) = t := ⟨_, rfl⟩
  obtain ⟨t1, t2⟩ := t
  have HZ := Lib.hid hx
  simp only [hj, Int.toNat_natCast, hr, ht] at HZ
  clear hx
  have HNX := Lib.hid (refNext_g r.w 1 (decide (0 < q.p)) hbr.w0 hbr.w1)
  rw [ht] at HNX
  have hseek : stepR s q = if t2 = 0 then ({ s with recs := s.recs.set j ⟨t1, r.g + 1, q.p⟩ }, { q with id := (r.g + 1) * 64 + j, st := 2 }) else (s, { q with slot := (j + 1) % s.recs.length }) := by
    unfold stepR
    rw [if_neg (by omega), if_neg (by omega), if_neg (by omega)]
    unfold seekR
    simp only [hj, Int.toNat_natCast, hr, ht]
  have HSK := Lib.hid hseek
  have HJ := Lib.hid hj
  have HRR := Lib.hid hr
  have hst1 : (if q.st = 1 then (1 : Int) else if q.st = 2 then 2 else 0) = 0 := by rw [if_neg k3, if_neg k4]
  have HK := Lib.hid (And.intro k3 k4)
  rw [hj] at q2 hsl hsl1
  clear hok hs k0 hAn kn hseek hj hr ht k3 k4 hst1 hbr
  have z2 : t2 = 0 := HZ.out
  subst z2
  have HS := Lib.hid (HSK.out.trans (if_pos rfl))
  have HB := Lib.hid (show atR { q with id := (r.g + 1) * 64 + j, st := 2 } = 4 from rfl)
  have HC := Lib.hid (show retR { q with id := (r.g + 1) * 64 + j, st := 2 } = 2 from rfl)
  go_enter Try.func22, Try.ntmps22
  go_upto_region 14 with fail
  have HT := Lib.hid (HT.out.alloc (k := w.heap.size) rfl 63 #[.int .i64 2, .int .i64 q.saw, .int .i64 (j : Int), .int .u64 q.id, .int .u64 q.p])
  generalize hww : w.alloc _ = w1 at HT ⊢
  generalize hbb : w.heap.size = bb at *
  simp only [List.cons_append, List.nil_append] at HT
  clear c0 f0 f2 q0 q1 q2 q3 q4 hww hbb
  have c0 := HT.out.cell 0 0 rfl
  have fv := HT.out.free 0 0 rfl
  have f2 := HT.out.free 2 0 rfl
  have b0 := HT.out.cell 3 0 rfl
  have fb := HT.out.free 3 0 rfl
  obtain ⟨_, _, _, e1, e2, _, _, q', hq', q0, q1, q2, q3, q4⟩ := req_at HT.out 2 rfl HR.out hk
  cases e1
  rw [HQ.out] at hq'
  subst hq'
  rw [HA.out] at q0
  clear e2
  clear r0 r1 r2
  rw [HJ.out] at q2
  obtain ⟨r', hr', r0, r1, r2⟩ := rec_at HT.out 1 rfl (k := j) hjn
  rw [HRR.out] at hr'
  subst hr'
  have fl := HT.out.free 1 0 rfl
  go_region_held3 (fun w' => w'.cell? ⟨vb, 0, none⟩ = some (.slice (some ⟨lb, 0, none⟩) s.recs.length s.recs.length) ∧ w'.cell? ⟨bb, 2, none⟩ = some (.int .i64 j) ∧ w'.cell? ⟨bb, 4, none⟩ = some (.int .u64 q.p) ∧ w'.cell? ⟨lb, j * 3, none⟩ = some (.int .u64 r.w))
    (first | exact ⟨c0 0, b0 2, b0 4, r0⟩ | exact ⟨HT.out.cell 0 0 rfl 0, HT.out.cell 3 0 rfl 2, HT.out.cell 3 0 rfl 4, q9⟩)
    (first
    | (go_at_call 37
       refine (DoesG.use HNX.out HT.out.drew [] rfl rfl).mono ?_
       rintro e w2 ⟨gs, ⟨rfl, rfl⟩, Ta⟩
       simp only [putG, List.append_nil] at Ta
       obtain ⟨r', hr', q9, _, _⟩ := rec_at Ta 1 rfl (k := j) hjn
       rw [HRR.out] at hr'
       subst hr'
       have HT := Lib.hid Ta
       clear Ta))
  clear c0 fv f2 b0 fb q0 q1 q2 q3 q4 r0 r1 r2 fl q9
  have c0 := HT.out.cell 0 0 rfl
  have fv := HT.out.free 0 0 rfl
  have f2 := HT.out.free 2 0 rfl
  have b0 := HT.out.cell 3 0 rfl
  have fb := HT.out.free 3 0 rfl
  obtain ⟨_, _, _, e1, e2, _, _, q', hq', q0, q1, q2, q3, q4⟩ := req_at HT.out 2 rfl HR.out hk
  cases e1
  rw [HQ.out] at hq'
  subst hq'
  rw [HA.out] at q0
  clear e2
  rw [HJ.out] at q2
  obtain ⟨r', hr', r0, r1, r2⟩ := rec_at HT.out 1 rfl (k := j) (by simpa using hjn)
  first
  | rw [HRR.out] at hr'
  | rw [getD_setR hjn] at hr'
  subst hr'
  try simp only at r0 r1 r2
  have fl := HT.out.free 1 0 rfl
  go_upto_region 16 with fail
  clear q0 q1 q2 q3 q4
  go_region
  have q0 := trivial; have q1 := trivial; have q2 := trivial; have q3 := trivial; have q4 := trivial
  generalize hww : World.drew _ = w2
  have HT := Lib.hid (show TG _ _ _ w2 by rw [← hww]; exact (HT.out.setAs 1 rfl (j * 3) _ (recs_up hjn HRR.out t1).1).drew)
  simp only [List.set_cons_zero, List.set_cons_succ] at HT
  clear c0 fv f2 b0 fb q0 q1 q2 q3 q4 hww r0 r1 r2 fl
  have c0 := HT.out.cell 0 0 rfl
  have fv := HT.out.free 0 0 rfl
  have f2 := HT.out.free 2 0 rfl
  have b0 := HT.out.cell 3 0 rfl
  have fb := HT.out.free 3 0 rfl
  obtain ⟨_, _, _, e1, e2, _, _, q', hq', q0, q1, q2, q3, q4⟩ := req_at HT.out 2 rfl HR.out hk
  cases e1
  rw [HQ.out] at hq'
  subst hq'
  rw [HA.out] at q0
  clear e2
  rw [HJ.out] at q2
  obtain ⟨r', hr', r0, r1, r2⟩ := rec_at HT.out 1 rfl (k := j) (by simpa using hjn)
  first
  | rw [HRR.out] at hr'
  | rw [getD_setR hjn] at hr'
  subst hr'
  try simp only at r0 r1 r2
  have fl := HT.out.free 1 0 rfl
  have z1 : (0 : Int) ≤ r.g + 1 := by omega
  have z0 : IntKind.u64.wrap (r.g + 1) = r.g + 1 := wrapU _ (by omega) (by omega)
  go_upto_region 17 with fail
  clear q0 q1 q2 q3 q4
  go_region
  have q0 := trivial; have q1 := trivial; have q2 := trivial; have q3 := trivial; have q4 := trivial
  clear z0
  generalize hww : World.drew _ = w2
  have HT := Lib.hid (show TG _ _ _ w2 by rw [← hww]; exact (HT.out.setAs 1 rfl (j * 3 + 1) _ (recs_up2 hjn _ _ _ _).1).drew)
  simp only [List.set_cons_zero, List.set_cons_succ] at HT
  clear c0 fv f2 b0 fb q0 q1 q2 q3 q4 hww r0 r1 r2 fl
  have c0 := HT.out.cell 0 0 rfl
  have fv := HT.out.free 0 0 rfl
  have f2 := HT.out.free 2 0 rfl
  have b0 := HT.out.cell 3 0 rfl
  have fb := HT.out.free 3 0 rfl
  obtain ⟨_, _, _, e1, e2, _, _, q', hq', q0, q1, q2, q3, q4⟩ := req_at HT.out 2 rfl HR.out hk
  cases e1
  rw [HQ.out] at hq'
  subst hq'
  rw [HA.out] at q0
  clear e2
  rw [HJ.out] at q2
  obtain ⟨r', hr', r0, r1, r2⟩ := rec_at HT.out 1 rfl (k := j) (by simpa using hjn)
  first
  | rw [HRR.out] at hr'
  | rw [getD_setR hjn] at hr'
  subst hr'
  try simp only at r0 r1 r2
  have fl := HT.out.free 1 0 rfl
  go_upto_region 18 with fail
  clear q0 q1 q2 q3 q4
  go_region
  have q0 := trivial; have q1 := trivial; have q2 := trivial; have q3 := trivial; have q4 := trivial
  generalize hww : World.drew _ = w2
  have HT := Lib.hid (show TG _ _ _ w2 by rw [← hww]; exact (HT.out.setAs 1 rfl (j * 3 + 2) _ (recs_up2 hjn _ _ _ _).2).drew)
  simp only [List.set_cons_zero, List.set_cons_succ] at HT
  clear c0 fv f2 b0 fb q0 q1 q2 q3 q4 hww r0 r1 r2 fl
  have c0 := HT.out.cell 0 0 rfl
  have fv := HT.out.free 0 0 rfl
  have f2 := HT.out.free 2 0 rfl
  have b0 := HT.out.cell 3 0 rfl
  have fb := HT.out.free 3 0 rfl
  obtain ⟨_, _, _, e1, e2, _, _, q', hq', q0, q1, q2, q3, q4⟩ := req_at HT.out 2 rfl HR.out hk
  cases e1
  rw [HQ.out] at hq'
  subst hq'
  rw [HA.out] at q0
  clear e2
  rw [HJ.out] at q2
  obtain ⟨r', hr', r0, r1, r2⟩ := rec_at HT.out 1 rfl (k := j) (by simpa using hjn)
  first
  | rw [HRR.out] at hr'
  | rw [getD_setR hjn] at hr'
  subst hr'
  try simp only at r0 r1 r2
  have fl := HT.out.free 1 0 rfl
  have y1 : (0 : Int) ≤ (r.g + 1) * 64 := by omega
  have y2 : (0 : Int) ≤ (r.g + 1) * 64 + j := by omega
  have y5 : IntKind.u64.wrap (j : Int) = j := wrapU _ (by omega) (by omega)
  have y3 : IntKind.u64.wrap ((r.g + 1) * 64) = (r.g + 1) * 64 := wrapU _ (by omega) (by omega)
  have y4 : IntKind.u64.wrap ((r.g + 1) * 64 + j) = (r.g + 1) * 64 + j := wrapU _ (by omega) (by omega)
  go_upto_region 19 with fail
  clear q0 q1 q2 q3 q4
  go_region
  have q0 := trivial; have q1 := trivial; have q2 := trivial; have q3 := trivial; have q4 := trivial
  clear y3 y4 y5
  generalize hww : World.drew _ = w2
  have HT := Lib.hid (show TG _ _ _ w2 by rw [← hww]; exact (HT.out.set 3 0 rfl 3 _).drew)
  simp only [List.set_cons_zero, List.set_cons_succ] at HT
  clear c0 fv f2 b0 fb q0 q1 q2 q3 q4 hww r0 r1 r2 fl
  have c0 := HT.out.cell 0 0 rfl
  have fv := HT.out.free 0 0 rfl
  have f2 := HT.out.free 2 0 rfl
  have b0 := HT.out.cell 3 0 rfl
  have fb := HT.out.free 3 0 rfl
  obtain ⟨_, _, _, e1, e2, _, _, q', hq', q0, q1, q2, q3, q4⟩ := req_at HT.out 2 rfl HR.out hk
  cases e1
  rw [HQ.out] at hq'
  subst hq'
  rw [HA.out] at q0
  clear e2
  rw [HJ.out] at q2
  obtain ⟨r', hr', r0, r1, r2⟩ := rec_at HT.out 1 rfl (k := j) (by simpa using hjn)
  first
  | rw [HRR.out] at hr'
  | rw [getD_setR hjn] at hr'
  subst hr'
  try simp only at r0 r1 r2
  have fl := HT.out.free 1 0 rfl
  clear q0 q1 q2 q3 q4
  go_upto_region 22 with fail
  generalize hww : World.setCell _ _ _ = w2 at ⊢
  have HT := Lib.hid (show TG _ _ _ w2 by rw [← hww]; exact HT.out.set 3 0 rfl 0 _)
  simp only [List.set_cons_zero, List.set_cons_succ] at HT
  clear c0 fv f2 b0 fb hww r0 r1 r2 fl
  have c0 := HT.out.cell 0 0 rfl
  have fv := HT.out.free 0 0 rfl
  have f2 := HT.out.free 2 0 rfl
  have b0 := HT.out.cell 3 0 rfl
  have fb := HT.out.free 3 0 rfl
  obtain ⟨_, _, _, e1, e2, _, _, q', hq', q0, q1, q2, q3, q4⟩ := req_at HT.out 2 rfl HR.out hk
  cases e1
  rw [HQ.out] at hq'
  subst hq'
  rw [HA.out] at q0
  clear e2
  rw [HJ.out] at q2
  obtain ⟨r', hr', r0, r1, r2⟩ := rec_at HT.out 1 rfl (k := j) (by simpa using hjn)
  first
  | rw [HRR.out] at hr'
  | rw [getD_setR hjn] at hr'
  subst hr'
  try simp only at r0 r1 r2
  have fl := HT.out.free 1 0 rfl
  clear r0 r1 r2 fl
  go_region
  have hp := row_put (f := reqV) (fun _ => rfl) HT.out 2 rfl HR.out hk { q with id := (r.g + 1) * 64 + j, st := 2 }
  obtain ⟨cur2, hr2, T2⟩ := hp
  simp only [reqV, HB.out, setsW] at T2
  simp only [HJ.out] at T2
  generalize hww : World.drew _ = w2
  have HT := Lib.hid (show TG _ _ _ w2 by rw [← hww]; exact T2.drew)
  simp only [List.set_cons_zero, List.set_cons_succ] at HT
  have HR2 := Lib.hid hr2
  clear c0 fv f2 b0 fb q0 q1 q2 q3 q4 hww hr2 T2
  have b0 := HT.out.cell 3 0 rfl
  go_wp2
  go_ret
  rw [HS.out]
  exact ⟨_, ⟨by simp only [HC.out]; rfl, [cl vb 61 #[.slice (some ⟨lb, 0, none⟩) s.recs.length s.recs.length, .int .i64 s.count, .slice (some ⟨b, 0, none⟩) qs.length cap]], _, _, ⟨lb, _, (by rw [List.length_set]), rfl, HR2.out⟩, rfl⟩, HT.out.pick [0, 1, 2] rfl⟩
set_option maxRecDepth 100000 in
set_option maxHeartbeats 2000000 in
theorem refStep_seekNo {vb : Nat} {s : SlabS} {qs : List Req} {gV gL gQ : List Blk} (h : RefS vb s qs gV gL gQ) (hs : SlabOk s) {k : Nat} (hk : k < qs.length) {q : Req} (hq : qs.getD k Req.zero = q) (hok : ReqOk s.recs.length q) (k0 : q.st = 0) (kn : q.next = 2) (hx : (nextW (s.recs.getD q.slot.toNat Rec.zero).w 1 (decide (0 < q.p))).2 ≠ 0) :
    DoesG Try.prog 22 #[ptr vb, .int .i64 k] [gV, gL, gQ] fun e gs => e = .returned (.int .i64 (retR (stepR s q).2)) ∧ ∃ gV' gL' gQ', RefS vb (stepR s q).1 (qs.set k (stepR s q).2) gV' gL' gQ' ∧ gs = [gV', gL', gQ'] := by
  have h' := h
  obtain ⟨lb, rv, rfl, rfl, hr⟩ := h
  intro w hw
  have HT := Lib.hid (TG.refl hw)
  clear hw
  obtain ⟨b, cap, cur, rfl, rfl, hm1, hm2, q', hq', q0, q1, q2, q3, q4⟩ := req_at HT.out 2 rfl hr hk
  rw [hq] at hq'
  subst hq'
  have HQ := Lib.hid hq
  have HR := Lib.hid hr
  have HH := Lib.hid h'
  clear hq hr h'
  have c0 := HT.out.cell 0 0 rfl
  have f0 := HT.out.free 0 0 rfl
  have f2 := HT.out.free 2 0 rfl
  have lv := HT.out.lt 0 0 rfl
  simp only [] at lv
  have hn := hs.n1
  have hn0 := hs.n0
  have hsl := hok.slot0
  have hsl1 := hok.slot1
  have hc0 := hs.c0
  have hc1 := hs.c1
  have k3 : q.st ≠ 1 := by omega
  have k4 : q.st ≠ 2 := by omega
  have hAn : atR q = q.next := (if_neg k3).trans (if_neg k4)
  have HA := Lib.hid (hAn.trans kn)
  rw [HA.out] at q0
  obtain ⟨j, hj⟩ := Int.eq_ofNat_of_zero_le hok.slot0
  have hjn : j < s.recs.length := by omega
  have hbr := hs.getD j
  obtain ⟨r, hr, r0, r1, r2⟩ := rec_at HT.out 1 rfl hjn
  rw [hr] at hbr
  have hg1 := hbr.g1
  have hg2 : genW r.w ≤ 4294967295 := (ok_bd _ hbr.w0 hbr.ok).2.2.2
  have hg0 := hbr.g0
  obtain ⟨t, ht⟩ : ∃ t, nextW r.w 1 (decide (0 < q.p)) = t := ⟨_, rfl⟩
  obtain ⟨t1, t2⟩ := t
  have HZ := Lib.hid hx
  simp only [hj, Int.toNat_natCast, hr, ht] at HZ
  clear hx
  have HNX := Lib.hid (refNext_g r.w 1 (decide (0 < q.p)) hbr.w0 hbr.w1)
  rw [ht] at HNX
  have hseek : stepR s q = if t2 = 0 then ({ s with recs := s.recs.set j ⟨t1, r.g + 1, q.p⟩ }, { q with id := (r.g + 1) * 64 + j, st := 2 }) else (s, { q with slot := (j + 1) % s.recs.length }) := by
    unfold stepR
    rw [if_neg (by omega), if_neg (by omega), if_neg (by omega)]
    unfold seekR
    simp only [hj, Int.toNat_natCast, hr, ht]
  have HSK := Lib.hid hseek
  have HJ := Lib.hid hj
  have HRR := Lib.hid hr
  have hst1 : (if q.st = 1 then (1 : Int) else if q.st = 2 then 2 else 0) = 0 := by rw [if_neg k3, if_neg k4]
  have HK := Lib.hid (And.intro k3 k4)
  rw [hj] at q2 hsl hsl1
  clear hok hs k0 hAn kn hseek hj hr ht k3 k4 hst1 hbr
  have z2 : t2 ≠ 0 := HZ.out
  have HS := Lib.hid (HSK.out.trans (if_neg z2))
  have HB := Lib.hid (show atR { q with slot := (j + 1) % s.recs.length } = 2 from ((if_neg HK.out.1).trans (if_neg HK.out.2)).trans (HA.out ▸ ((if_neg HK.out.1).trans (if_neg HK.out.2)).symm))
  have HC := Lib.hid (show retR { q with slot := (j + 1) % s.recs.length } = 0 from (if_neg HK.out.1).trans (if_neg HK.out.2))
  have z3 : (t2 == 0) = false := beq_eq_false_iff_ne.2 z2
  clear z2
  go_enter Try.func22, Try.ntmps22
  go_upto_region 14 with fail
  have HT := Lib.hid (HT.out.alloc (k := w.heap.size) rfl 63 #[.int .i64 2, .int .i64 q.saw, .int .i64 (j : Int), .int .u64 q.id, .int .u64 q.p])
  generalize hww : w.alloc _ = w1 at HT ⊢
  generalize hbb : w.heap.size = bb at *
  simp only [List.cons_append, List.nil_append] at HT
  clear c0 f0 f2 q0 q1 q2 q3 q4 hww hbb
  have c0 := HT.out.cell 0 0 rfl
  have fv := HT.out.free 0 0 rfl
  have f2 := HT.out.free 2 0 rfl
  have b0 := HT.out.cell 3 0 rfl
  have fb := HT.out.free 3 0 rfl
  obtain ⟨_, _, _, e1, e2, _, _, q', hq', q0, q1, q2, q3, q4⟩ := req_at HT.out 2 rfl HR.out hk
  cases e1
  rw [HQ.out] at hq'
  subst hq'
  rw [HA.out] at q0
  clear e2
  clear r0 r1 r2
  rw [HJ.out] at q2
  obtain ⟨r', hr', r0, r1, r2⟩ := rec_at HT.out 1 rfl (k := j) hjn
  rw [HRR.out] at hr'
  subst hr'
  have fl := HT.out.free 1 0 rfl
  go_region_held3 (fun w' => w'.cell? ⟨vb, 0, none⟩ = some (.slice (some ⟨lb, 0, none⟩) s.recs.length s.recs.length) ∧ w'.cell? ⟨bb, 2, none⟩ = some (.int .i64 j) ∧ w'.cell? ⟨bb, 4, none⟩ = some (.int .u64 q.p) ∧ w'.cell? ⟨lb, j * 3, none⟩ = some (.int .u64 r.w))
    (first | exact ⟨c0 0, b0 2, b0 4, r0⟩ | exact ⟨HT.out.cell 0 0 rfl 0, HT.out.cell 3 0 rfl 2, HT.out.cell 3 0 rfl 4, q9⟩)
    (first
    | (go_at_call 37
       refine (DoesG.use HNX.out HT.out.drew [] rfl rfl).mono ?_
       rintro e w2 ⟨gs, ⟨rfl, rfl⟩, Ta⟩
       simp only [putG, List.append_nil] at Ta
       obtain ⟨r', hr', q9, _, _⟩ := rec_at Ta 1 rfl (k := j) hjn
       rw [HRR.out] at hr'
       subst hr'
       have HT := Lib.hid Ta
       clear Ta))
  clear c0 fv f2 b0 fb q0 q1 q2 q3 q4 r0 r1 r2 fl q9
  have c0 := HT.out.cell 0 0 rfl
  have fv := HT.out.free 0 0 rfl
  have f2 := HT.out.free 2 0 rfl
  have b0 := HT.out.cell 3 0 rfl
  have fb := HT.out.free 3 0 rfl
  obtain ⟨_, _, _, e1, e2, _, _, q', hq', q0, q1, q2, q3, q4⟩ := req_at HT.out 2 rfl HR.out hk
  cases e1
  rw [HQ.out] at hq'
  subst hq'
  rw [HA.out] at q0
  clear e2
  rw [HJ.out] at q2
  obtain ⟨r', hr', r0, r1, r2⟩ := rec_at HT.out 1 rfl (k := j) (by simpa using hjn)
  first
  | rw [HRR.out] at hr'
  | rw [getD_setR hjn] at hr'
  subst hr'
  try simp only at r0 r1 r2
  have fl := HT.out.free 1 0 rfl
  go_upto_region 21 with fail
  have z7 : (0 : Int) ≤ (j : Int) + 1 := by omega
  have z5 : ((s.recs.length : Int) == 0) = false := beq_eq_false_iff_ne.2 (by omega)
  have z6 : ¬ (s.recs.length = 0) := by omega
  have z8 : ((j : Int) + 1).tmod s.recs.length = ((j : Int) + 1) % s.recs.length := Int.tmod_eq_emod_of_nonneg z7
  have z4 : IntKind.i64.wrap ((j : Int) + 1) = (j : Int) + 1 := wrapI _ (by omega) (by omega)
  clear q0 q1 q2 q3 q4
  go_region
  clear z4 z5 z6 z7 z8
  have q0 := trivial; have q1 := trivial; have q2 := trivial; have q3 := trivial; have q4 := trivial
  generalize hww : World.drew _ = w2
  have HT := Lib.hid (show TG _ _ _ w2 by rw [← hww]; exact (HT.out.set 3 0 rfl 2 _).drew)
  simp only [List.set_cons_zero, List.set_cons_succ] at HT
  clear c0 fv f2 b0 fb q0 q1 q2 q3 q4 hww r0 r1 r2 fl
  have c0 := HT.out.cell 0 0 rfl
  have fv := HT.out.free 0 0 rfl
  have f2 := HT.out.free 2 0 rfl
  have b0 := HT.out.cell 3 0 rfl
  have fb := HT.out.free 3 0 rfl
  obtain ⟨_, _, _, e1, e2, _, _, q', hq', q0, q1, q2, q3, q4⟩ := req_at HT.out 2 rfl HR.out hk
  cases e1
  rw [HQ.out] at hq'
  subst hq'
  rw [HA.out] at q0
  clear e2
  rw [HJ.out] at q2
  obtain ⟨r', hr', r0, r1, r2⟩ := rec_at HT.out 1 rfl (k := j) (by simpa using hjn)
  first
  | rw [HRR.out] at hr'
  | rw [getD_setR hjn] at hr'
  subst hr'
  try simp only at r0 r1 r2
  have fl := HT.out.free 1 0 rfl
  clear r0 r1 r2 fl
  go_upto_region 22 with fail
  go_region
  have hp := row_put (f := reqV) (fun _ => rfl) HT.out 2 rfl HR.out hk { q with slot := (j + 1) % s.recs.length }
  obtain ⟨cur2, hr2, T2⟩ := hp
  simp only [reqV, HB.out, setsW] at T2
  skip
  generalize hww : World.drew _ = w2
  have HT := Lib.hid (show TG _ _ _ w2 by rw [← hww]; exact T2.drew)
  simp only [List.set_cons_zero, List.set_cons_succ] at HT
  have HR2 := Lib.hid hr2
  clear c0 fv f2 b0 fb q0 q1 q2 q3 q4 hww hr2 T2
  have b0 := HT.out.cell 3 0 rfl
  go_wp2
  go_ret
  rw [HS.out]
  exact ⟨_, ⟨by simp only [HC.out]; rfl, _, _, _, ⟨lb, _, rfl, rfl, HR2.out⟩, rfl⟩, HT.out.pick [0, 1, 2] rfl⟩
theorem refStep_g {vb : Nat} {s : SlabS} {qs : List Req} {gV gL gQ : List Blk} (h : RefS vb s qs gV gL gQ) (hs : SlabOk s) {k : Nat} (hk : k < qs.length) {q : Req} (hq : qs.getD k Req.zero = q) (hok : ReqOk s.recs.length q) (hst : q.st = 0 ∨ q.st = 1 ∨ q.st = 2) :
    DoesG Try.prog 22 #[ptr vb, .int .i64 k] [gV, gL, gQ] fun e gs => e = .returned (.int .i64 (retR (stepR s q).2)) ∧ ∃ gV' gL' gQ', RefS vb (stepR s q).1 (qs.set k (stepR s q).2) gV' gL' gQ' ∧ gs = [gV', gL', gQ'] := by
  rcases hst with k0 | k1 | k2
  · rcases hok.next with kn | ⟨kn, _, _⟩ | kn
    · exact refStep_look h hs hk hq hok k0 kn
    · exact refStep_more h hs hk hq hok k0 kn
    · by_cases hx : (nextW (s.recs.getD q.slot.toNat Rec.zero).w 1 (decide (0 < q.p))).2 = 0
      · exact refStep_seekOk h hs hk hq hok k0 kn hx
      · exact refStep_seekNo h hs hk hq hok k0 kn hx
  · exact refStep_full h hs hk hq hok k1
  · exact refStep_held h hs hk hq hok k2
end Go.Proofs.Ytahpggnkifkkpaa
