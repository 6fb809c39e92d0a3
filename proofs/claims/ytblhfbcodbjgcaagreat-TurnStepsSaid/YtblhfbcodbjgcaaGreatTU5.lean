import Derived.Test.YtblhfbcodbjgcaaGreatTU4
import Derived.Test.YtblhfbcodbjgcaaGreatTU1
import Derived.Test.YtblhfbcodbjgcaaGreatTU3
namespace Go.Proofs.YtblhfbcodbjgcaaGreat
set_option linter.unusedVariables false
set_option linter.unusedSimpArgs false
open Go.RowKit
theorem more_does (qb sb rb : Nat) (s : SlabS) (q : Req) (b0 : 0 ≤ q.saw) (b1 : q.saw < 64) :
    Does Tryz.prog 195 #[.pointer (some ⟨qb, 0, none⟩)] (reqH qb sb q :: slabH sb rb s) fun e h' => e = .returned (.tuple #[]) ∧ h' = reqH qb sb (moreR s q).2 :: slabH sb rb (moreR s q).1 := by
  intro w hw
  obtain ⟨o, ⟨C, rfl, hs, h0, hc⟩, T0⟩ := (Turned.refl hw).openAt 1 rfl
  have q0 := blk_cell (T0.blk 0 rfl)
  have qf0 := blk_free (T0.blk 0 rfl)
  have hne : qb ≠ sb := T0.ne 0 1 rfl rfl (by decide)
  simp only [reqC] at q0
  have HT := Lib.hid T0
  have HC := Lib.hid (And.intro hs (And.intro h0 hc))
  clear hw hs h0 hc T0
  have hwr : wrap64 (q.saw + 1) = q.saw + 1 := by unfold wrap64; omega
  by_cases hk : s.count = q.saw
  · have HK := Lib.hid (show moreR s q = _ from if_pos hk)
    go_enter Tryz.func195, Tryz.ntmps195
    go_wp2
    go_region_held3 (fun w' => w'.cell? ⟨qb, 0, none⟩ = some (.pointer (some ⟨sb, 0, none⟩)) ∧ w'.cell? ⟨qb, 3, none⟩ = some (.int .i64 q.saw)) (first | exact ⟨(HT.out.setAt 0 rfl 2 _).drew.cell 0 rfl 0, (HT.out.setAt 0 rfl 2 _).drew.cell 0 rfl 3⟩ | exact ⟨q1 0, q1 3⟩) ((
      go_at_call 225
      rw [wrapI (q.saw + 1) (by omega) (by omega)]
      refine ((swapI_does sb 1 _ C s.count q.saw (q.saw + 1) HC.out.2.2).at (HT.out.setAt 0 rfl 2 _).drew 1 rfl).mono ?_
      rintro e w1 ⟨h', ⟨rfl, C1, rfl, hr1⟩, Ta⟩
      have T1 := Ta _ rfl
      clear Ta
      have q1 := blk_cell (T1.blk 0 rfl)
      have qf := blk_free (T1.blk 0 rfl)
      rw [if_pos hk] at hr1
      have HR1 := Lib.hid hr1
      have HT1 := Lib.hid T1
      clear hr1 T1 q0))
    go_wp2
    refine bodyPost_end (results_none rfl _ _ _) rfl ⟨_, ⟨rfl, ?_⟩, (HT1.out.setAt 0 rfl 2 _).sayAt 1 rfl _ (fun o ho => by cases ho; exact slabP_recell HC.out.1 HC.out.2.1 HR1.out)⟩
    rw [HK.out, hk]; rfl
  · have HK := Lib.hid (show moreR s q = _ from if_neg hk)
    go_enter Tryz.func195, Tryz.ntmps195
    go_wp2
    go_region_held3 (fun w' => w'.cell? ⟨qb, 0, none⟩ = some (.pointer (some ⟨sb, 0, none⟩)) ∧ w'.cell? ⟨qb, 3, none⟩ = some (.int .i64 q.saw)) (first | exact ⟨(HT.out.setAt 0 rfl 2 _).drew.cell 0 rfl 0, (HT.out.setAt 0 rfl 2 _).drew.cell 0 rfl 3⟩ | exact ⟨q1 0, q1 3⟩) ((
      go_at_call 225
      rw [wrapI (q.saw + 1) (by omega) (by omega)]
      refine ((swapI_does sb 1 _ C s.count q.saw (q.saw + 1) HC.out.2.2).at (HT.out.setAt 0 rfl 2 _).drew 1 rfl).mono ?_
      rintro e w1 ⟨h', ⟨rfl, C1, rfl, hr1⟩, Ta⟩
      have T1 := Ta _ rfl
      clear Ta
      have q1 := blk_cell (T1.blk 0 rfl)
      have qf := blk_free (T1.blk 0 rfl)
      rw [if_neg hk] at hr1
      have HR1 := Lib.hid hr1
      have HT1 := Lib.hid T1
      clear hr1 T1 q0))
    go_wp2
    refine bodyPost_end (results_none rfl _ _ _) rfl ⟨_, ⟨rfl, ?_⟩, HT1.out.sayAt 1 rfl _ (fun o ho => by cases ho; exact slabP_recell HC.out.1 HC.out.2.1 HR1.out)⟩
    rw [HK.out]; rfl
end Go.Proofs.YtblhfbcodbjgcaaGreat

namespace Go.Proofs.YtblhfbcodbjgcaaGreat
set_option linter.unusedVariables false
set_option linter.unusedSimpArgs false
open Go.RowKit
theorem seek1_does (xb qb sb : Nat) (q : Req) (n : Int) (h0 : 0 ≤ n) (h1 : n < 18446744073709551616) :
    Does Tryz.prog 228 #[.int .u64 n, .pointer (some ⟨xb, 0, none⟩)] [pt xb 141 #[.pointer (some ⟨qb, 0, none⟩)], reqH qb sb q] fun e h' =>
      e = .returned (.tuple #[.int .u64 (nextW n 1 (decide (0 < q.p))).1, .bool ((nextW n 1 (decide (0 < q.p))).2 == 0)]) ∧ h' = [pt xb 141 #[.pointer (some ⟨qb, 0, none⟩)], reqH qb sb q] := by
  intro w hw
  have T0 := Turned.refl hw
  have x0 := T0.cell 0 rfl 0
  have q0 := T0.cell 1 (show _ = some (pt qb _ _) from rfl) 1
  simp [reqC] at x0 q0
  have HT := Lib.hid T0
  clear hw T0
  go_enter Tryz.func228, Tryz.ntmps228
  go_wp2_with (
    go_at_call 205
    refine (next_calls _ _ _ _ h0 h1).mono ?_
    rintro e w1 ⟨rfl, rfl⟩)
  all_goals go_ret2
  all_goals exact ⟨_, ⟨by simp_all, rfl⟩, HT.out⟩
end Go.Proofs.YtblhfbcodbjgcaaGreat

namespace Go.Proofs.YtblhfbcodbjgcaaGreat
set_option linter.unusedVariables false
set_option linter.unusedSimpArgs false
open Go.RowKit
set_option maxHeartbeats 1000000 in
theorem seek_does (qb sb rb : Nat) (s : SlabS) (q : Req) (k : Nat) (r : Rec) (hk : q.slot = k) (hr : s.recs[k]? = some r) (ho : RecOk r) (hn : s.recs.length ≤ 64) :
    Does Tryz.prog 196 #[.pointer (some ⟨qb, 0, none⟩)] (reqH qb sb q :: slabH sb rb s) fun e h' => e = .returned (.tuple #[]) ∧ h' = reqH qb sb (seekR s q).2 :: slabH sb rb (seekR s q).1 := by
  intro w hw
  obtain ⟨o, ⟨C, rfl, hs, h0, hc⟩, T0⟩ := (Turned.refl hw).openAt 1 rfl
  obtain ⟨o, ⟨D, rfl, hd, hD⟩, T0⟩ := T0.openAt 2 rfl
  have q0 := T0.cell 0 (show _ = some (pt qb _ _) from rfl)
  have s0 : w.cell? ⟨sb, 0, none⟩ = _ := (T0.cell 1 (show _ = some (pt sb _ _) from rfl) 0).trans h0
  have hqs : qb ≠ sb := T0.ne 0 1 rfl rfl (by decide)
  have hqr : qb ≠ rb := T0.ne 0 2 rfl rfl (by decide)
  have hkl := (List.getElem?_eq_some_iff.1 hr).1
  simp only [reqC] at q0
  have HT := Lib.hid T0
  have HC := Lib.hid (And.intro hs (And.intro h0 hc))
  have HD := Lib.hid (And.intro hd hD)
  have HR := Lib.hid hr
  have HO := Lib.hid ho
  have hlq := T0.lt 0 (show _ = some (pt qb _ _) from rfl)
  have hls := T0.lt 1 (show _ = some (pt sb _ _) from rfl)
  simp only [] at hlq hls
  clear hw hs h0 hc T0 hd hD hr ho
  obtain ⟨v, hv⟩ : ∃ v, nextW r.w 1 (decide (0 < q.p)) = v := ⟨_, rfl⟩
  obtain ⟨n1, e1⟩ := v
  have HV := Lib.hid hv; clear hv
  rw [hk] at q0
  have hperm : ∀ (b x : Piece) (D' : Array Value), [b, x, (sb, fun o => o = Obj.cells C 160 (0, 0)), pt rb 178 D'].Perm ((pt rb 178 D' :: [b, x]) ++ [(sb, fun o => o = Obj.cells C 160 (0, 0))]) :=
    fun b x D' => (pull 3 rfl rfl)
  obtain ⟨hg0, hg1⟩ : 0 ≤ r.g ∧ r.g ≤ 4294967295 := ⟨HO.out.g0, Int.le_trans HO.out.g1 (ok_bd _ HO.out.w0 HO.out.ok).2.2.2⟩
  by_cases he : e1 = 0
  · subst he
    have HK := Lib.hid (show seekR s q = ({ s with recs := s.recs.set k ⟨n1, r.g + 1, q.p⟩ }, { q with id := (r.g + 1) * 64 + q.slot, st := 2 }) from by
      unfold seekR; simp only [hk, Int.toNat_natCast, List.getD_eq_getElem?_getD, HR.out, Option.getD_some, HV.out]; rfl)
    go_enter Tryz.func196, Tryz.ntmps196
    go_wp2
    go_region
    go_wp2_with (
      go_at_call 227
      refine ((turnW_does rb (k * 6) 178 D r.w n1 true 228 #[.pointer (some ⟨w.heap.size, 0, none⟩)] [pt w.heap.size 141 #[.pointer (some ⟨qb, 0, none⟩)], reqH qb sb q]
        (HD.out.2 k r HR.out).1 (enters_of Tryz.func228 (by kernel_rfl) rfl)
        ((seek1_does w.heap.size qb sb q r.w HO.out.w0 HO.out.w1).mono (fun e h' hh => by rw [HV.out] at hh; exact hh))).use (HT.out.alloc rfl _ _).drew (hperm _ _ _)).mono ?_
      rintro e w1 ⟨h', ⟨rfl, D1, rfl, hr1⟩, T1⟩
      have q1 := T1.cell 2 (show _ = some (pt qb _ _) from rfl)
      have x1 := T1.cell 1 (show _ = some (pt w.heap.size _ _) from rfl)
      have s1 : w1.cell? ⟨sb, 0, none⟩ = _ := (T1.cell 3 (show _ = some (pt sb _ _) from rfl) 0).trans HC.out.2.1
      have g1 := (T1.cell 0 (show _ = some (pt rb _ _) from rfl) (k * 6 + 4)).trans ((hr1.other (k * 6 + 4) (by omega)).trans (HD.out.2 k r HR.out).2.1)
      have p1 := (T1.cell 0 (show _ = some (pt rb _ _) from rfl) (k * 6 + 5)).trans ((hr1.other (k * 6 + 5) (by omega)).trans (HD.out.2 k r HR.out).2.2)
      have f1 := T1.free 0 (show _ = some (pt rb _ _) from rfl)
      have f2 := T1.free 2 (show _ = some (pt qb _ _) from rfl)
      simp only [reqC, hk] at q1
      have HR1 := Lib.hid hr1
      have HT1 := Lib.hid T1
      clear hr1 T1)
    go_region
    go_wp2
    refine bodyPost_end (results_none rfl _ _ _) rfl ⟨_, ⟨rfl, ?_⟩, Turned.drop1 (((((((HT1.out.setAt 0 rfl (k * 6 + 4) _).setAt 0 rfl (k * 6 + 5) _).setAt 2 rfl 5 _).setAt 2 rfl 6 _).drew.sayAt 0 rfl
      (recsP (s.recs.set k ⟨n1, r.g + 1, q.p⟩)) ?_).sayAt 3 rfl (slabP rb (s.recs.set k ⟨n1, r.g + 1, q.p⟩).length s.count) ?_).perm (List.perm_append_comm (l₁ := [_]) (l₂ := [_, _, _])))⟩
    · rw [HK.out, ← hk]; rfl
    · intro o ho; cases ho
      exact ⟨_, rfl, recs_given HD.out.1 HD.out.2 HR.out HR1.out⟩
    · intro o ho; cases ho; rw [List.length_set]; exact ⟨C, rfl, HC.out⟩
  · have HK := Lib.hid (show seekR s q = (s, { q with slot := (q.slot + 1) % s.recs.length }) from by
      unfold seekR; simp only [hk, Int.toNat_natCast, List.getD_eq_getElem?_getD, HR.out, Option.getD_some, HV.out]; exact if_neg he)
    go_enter Tryz.func196, Tryz.ntmps196
    go_wp2
    go_region
    go_wp2_with (
      go_at_call 227
      refine ((turnW_does rb (k * 6) 178 D r.w n1 false 228 #[.pointer (some ⟨w.heap.size, 0, none⟩)] [pt w.heap.size 141 #[.pointer (some ⟨qb, 0, none⟩)], reqH qb sb q]
        (HD.out.2 k r HR.out).1 (enters_of Tryz.func228 (by kernel_rfl) rfl)
        ((seek1_does w.heap.size qb sb q r.w HO.out.w0 HO.out.w1).mono (fun e h' hh => by rw [HV.out, show ((e1 == 0) = false) from by simpa using he] at hh; exact hh))).use (HT.out.alloc rfl _ _).drew (hperm _ _ _)).mono ?_
      rintro e w1 ⟨h', ⟨rfl, D1, rfl, hr1⟩, T1⟩
      have q1 := T1.cell 2 (show _ = some (pt qb _ _) from rfl)
      have x1 := T1.cell 1 (show _ = some (pt w.heap.size _ _) from rfl)
      have s1 : w1.cell? ⟨sb, 0, none⟩ = _ := (T1.cell 3 (show _ = some (pt sb _ _) from rfl) 0).trans HC.out.2.1
      have g1 := (T1.cell 0 (show _ = some (pt rb _ _) from rfl) (k * 6 + 4)).trans ((hr1.other (k * 6 + 4) (by omega)).trans (HD.out.2 k r HR.out).2.1)
      have p1 := (T1.cell 0 (show _ = some (pt rb _ _) from rfl) (k * 6 + 5)).trans ((hr1.other (k * 6 + 5) (by omega)).trans (HD.out.2 k r HR.out).2.2)
      have f1 := T1.free 0 (show _ = some (pt rb _ _) from rfl)
      have f2 := T1.free 2 (show _ = some (pt qb _ _) from rfl)
      simp only [reqC, hk] at q1
      have HR1 := Lib.hid hr1
      have HT1 := Lib.hid T1
      clear hr1 T1)
    go_region
    go_wp2
    refine bodyPost_ret (results_none rfl _ _ _) rfl ⟨_, ⟨rfl, ?_⟩, Turned.drop1 (((((HT1.out.setAt 2 rfl 4 _).drew.sayAt 0 rfl
      (recsP s.recs) ?_).sayAt 3 rfl (slabP rb s.recs.length s.count) ?_).perm (List.perm_append_comm (l₁ := [_]) (l₂ := [_, _, _]))))⟩
    · rw [HK.out, hk]; rfl
    · intro o ho; cases ho
      exact ⟨_, rfl, recs_same HD.out.1 HD.out.2 HR.out HR1.out⟩
    · intro o ho; cases ho; exact ⟨C, rfl, HC.out⟩
end Go.Proofs.YtblhfbcodbjgcaaGreat

namespace Go.Proofs.YtblhfbcodbjgcaaGreat
set_option linter.unusedVariables false
set_option linter.unusedSimpArgs false
open Go.RowKit
def atV (rb n : Nat) (k : Int) : Value := if 0 ≤ k ∧ k < n then .pointer (some ⟨rb, k.toNat * 6, none⟩) else .pointer none
theorem atV_has (rb : Nat) {s : SlabS} {j : Nat} (h : s.has j) : atV rb s.recs.length j = .pointer (some ⟨rb, j * 6, none⟩) := (if_pos h).trans (by simp)
theorem atV_not (rb : Nat) {s : SlabS} {k : Int} (h : ¬ s.has k) : atV rb s.recs.length k = .pointer none := if_neg h
theorem slabAt_does (sb rb n : Nat) (c : Int) (k : Int) (hn : n ≤ 64) :
    Does Tryz.prog 109 #[.pointer (some ⟨sb, 0, none⟩), .int .i64 k] [(sb, slabP rb n c)] fun e h' => e = .returned (atV rb n k) ∧ h' = [(sb, slabP rb n c)] := by
  intro w hw
  obtain ⟨o, ⟨C, rfl, hs, h0, hc⟩, T0⟩ := (Turned.refl hw).openAt 0 rfl
  have s0 : w.cell? ⟨sb, 0, none⟩ = _ := (T0.cell 0 (show _ = some (pt sb _ _) from rfl) 0).trans h0
  have HT := Lib.hid (T0.sayAt 0 rfl (slabP rb n c) (fun o ho => by cases ho; exact ⟨C, rfl, hs, h0, hc⟩))
  clear hw hs h0 hc T0
  by_cases h1 : 0 ≤ k
  · obtain ⟨j, rfl⟩ := Int.eq_ofNat_of_zero_le h1
    by_cases h2 : j < n
    · have HV := Lib.hid (show atV rb n (j : Int) = .pointer (some ⟨rb, j * 6, none⟩) from by unfold atV; rw [if_pos ⟨h1, by omega⟩]; simp)
      go_enter Tryz.func109, Tryz.ntmps109
      go_wp2
      all_goals go_ret
      all_goals exact ⟨_, ⟨by rw [HV.out]; rfl, rfl⟩, HT.out⟩
    · have HV := Lib.hid (show atV rb n (j : Int) = .pointer none from by unfold atV; rw [if_neg (by omega)])
      go_enter Tryz.func109, Tryz.ntmps109
      go_wp2
      all_goals go_ret
      all_goals exact ⟨_, ⟨by rw [HV.out]; rfl, rfl⟩, HT.out⟩
  · have HV := Lib.hid (show atV rb n k = .pointer none from by unfold atV; rw [if_neg (by omega)])
    go_enter Tryz.func109, Tryz.ntmps109
    go_wp2
    all_goals go_ret
    all_goals exact ⟨_, ⟨by rw [HV.out]; rfl, rfl⟩, HT.out⟩
theorem reqId_does (qb sb : Nat) (q : Req) :
    Does Tryz.prog 170 #[.pointer (some ⟨qb, 0, none⟩)] [reqH qb sb q] fun e h' =>
      e = .returned (.tuple #[.int .u64 (if q.st = 2 then q.id else 0), .int .i64 (if q.st = 2 then 0 else 7)]) ∧ h' = [reqH qb sb q] := by
  intro w hw
  have T0 := Turned.refl hw
  have q0 := T0.cell 0 (show _ = some (pt qb _ _) from rfl)
  simp only [reqC] at q0
  have HT := Lib.hid T0
  clear hw T0
  by_cases h2 : q.st = 2
  all_goals
    go_enter Tryz.func170, Tryz.ntmps170
    go_wp2
    all_goals go_ret2
    all_goals exact ⟨_, ⟨by simp [h2], rfl⟩, HT.out⟩
theorem slabBegin_does (sb : Nat) (p : Int) :
    Does Tryz.prog 138 #[.pointer (some ⟨sb, 0, none⟩), .int .u64 p] [] fun e h' =>
      ∃ qb, e = .returned (.pointer (some ⟨qb, 0, none⟩)) ∧ h' = [reqH qb sb ⟨p, 0, 0, 0, 0, 0⟩] := by
  intro w hw
  have HT := Lib.hid (Turned.refl hw)
  clear hw
  go_enter Tryz.func138, Tryz.ntmps138
  go_wp2
  go_ret
  exact ⟨_, ⟨_, rfl, rfl⟩, HT.out.alloc rfl _ _⟩
theorem slabWord_does (sb rb : Nat) (s : SlabS) (k : Int) (hn : s.recs.length ≤ 64) :
    Does Tryz.prog 46 #[.pointer (some ⟨sb, 0, none⟩), .int .i64 k] (slabH sb rb s) fun e h' =>
      e = .returned (.tuple #[.int .u64 (s.word k), .int .i64 (s.werr k)]) ∧ h' = slabH sb rb s := by
  intro w hw
  have HT := Lib.hid (Turned.refl hw)
  clear hw
  by_cases h : s.has k
  · obtain ⟨j, rfl⟩ := SlabS.has_nat h
    obtain ⟨r, hr, hrd⟩ := SlabS.has_at h
    have HV := Lib.hid (atV_has rb h)
    have HP := Lib.hid (show s.word j = r.w ∧ s.werr j = 0 from ⟨by unfold SlabS.word; rw [if_pos h, hrd], if_pos h⟩)
    clear hrd h
    have HR := Lib.hid hr; clear hr
    go_enter Tryz.func46, Tryz.ntmps46
    go_wp2_with (first
      | (go_at_call 109
         refine ((slabAt_does sb rb s.recs.length s.count j hn).at HT.out 0 rfl).mono ?_
         rintro e w1 ⟨h', ⟨he, rfl⟩, Ta⟩
         rw [HV.out] at he
         subst he
         obtain ⟨o, ⟨D, rfl, hd, hD⟩, T1⟩ := (Ta _ rfl).openAt 1 rfl
         have HD := Lib.hid (And.intro hd hD)
         have HT1 := Lib.hid T1
         clear T1 hd hD Ta)
      | (go_at_call 110
         refine ((loadW_does rb (j * 6) _ D r.w (HD.out.2 j r HR.out).1).at HT1.out 1 rfl).mono ?_
         rintro e w2 ⟨h', ⟨rfl, C1, rfl, hr1⟩, Ta⟩
         have HR1 := Lib.hid hr1
         have HT2 := Lib.hid ((Ta _ rfl).sayAt 1 rfl (recsP s.recs) (fun o ho => by cases ho; exact ⟨C1, rfl, recs_same HD.out.1 HD.out.2 HR.out HR1.out⟩))
         clear Ta hr1))
    go_ret2
    exact ⟨_, ⟨by rw [HP.out.1, HP.out.2]; rfl, rfl⟩, HT2.out⟩
  · have HV := Lib.hid (atV_not rb h)
    have HP := Lib.hid (show s.word k = 0 ∧ s.werr k = 4 from ⟨if_neg h, if_neg h⟩)
    clear h
    go_enter Tryz.func46, Tryz.ntmps46
    go_wp2_with (
      go_at_call 109
      refine ((slabAt_does sb rb s.recs.length s.count k hn).at HT.out 0 rfl).mono ?_
      rintro e w1 ⟨h', ⟨he, rfl⟩, Ta⟩
      rw [HV.out] at he
      subst he
      have HT1 := Lib.hid (Ta _ rfl)
      clear Ta)
    go_ret2
    exact ⟨_, ⟨by rw [HP.out.1, HP.out.2]; rfl, rfl⟩, HT1.out⟩
end Go.Proofs.YtblhfbcodbjgcaaGreat

namespace Go.Proofs.YtblhfbcodbjgcaaGreat
set_option linter.unusedVariables false
set_option linter.unusedSimpArgs false
open Go.RowKit
theorem SlabS.known_at {s : SlabS} {id : Int} (h0 : 0 ≤ id) (h : s.known id) : ∃ (j : Nat) (r : Rec), id % 64 = j ∧ s.recs[j]? = some r ∧ 1 ≤ id / 64 ∧ id / 64 ≤ r.g ∧ s.has j ∧ s.recs.getD (id % 64).toNat Rec.zero = r := by
  have h1 : 0 ≤ id % 64 := by omega
  have hh : s.has (id % 64) := ⟨h1, h.1⟩
  obtain ⟨j, hj⟩ := SlabS.has_nat hh
  rw [hj] at hh
  obtain ⟨r, hr, hg⟩ := SlabS.has_at hh
  rw [← hj] at hg
  have h3 := h.2.2
  rw [hg] at h3
  exact ⟨j, r, hj, hr, h.2.1, h3, hh, hg⟩
theorem slabSlot_does (sb rb : Nat) (s : SlabS) (id : Int) (hn : s.recs.length ≤ 64) (h0 : 0 ≤ id) (h1 : id < 18446744073709551616) :
    Does Tryz.prog 203 #[.pointer (some ⟨sb, 0, none⟩), .int .u64 id] (slabH sb rb s) fun e h' =>
      e = .returned (.tuple #[.int .i64 (s.slot id), .int .i64 (s.serr id)]) ∧ h' = slabH sb rb s := by
  intro w hw
  have HT := Lib.hid (Turned.refl hw)
  clear hw
  have hm0 : 0 ≤ id % 64 := by omega
  obtain ⟨j, hj⟩ := Int.eq_ofNat_of_zero_le hm0
  by_cases hh : s.has (j : Int)
  · obtain ⟨r, hr, hg⟩ := SlabS.has_at hh
    have HV := Lib.hid (atV_has rb hh)
    have HR := Lib.hid hr
    have hkn : s.known id ↔ 1 ≤ id / 64 ∧ id / 64 ≤ r.g := by
      unfold SlabS.known; rw [hj, hg]; exact ⟨fun x => x.2, fun x => ⟨hh.2, x⟩⟩
    by_cases hk : 1 ≤ id / 64 ∧ id / 64 ≤ r.g
    · have HP := Lib.hid (show s.slot id = j ∧ s.serr id = 0 from ⟨(if_pos (hkn.2 hk)).trans hj, if_pos (hkn.2 hk)⟩)
      obtain ⟨k1, k2⟩ := hk
      clear hh hr hg hkn
      go_enter Tryz.func203, Tryz.ntmps203
      go_wp2_with (
        go_at_call 109
        refine ((slabAt_does sb rb s.recs.length s.count _ hn).at HT.out 0 rfl).mono ?_
        rintro e w1 ⟨h', ⟨he, rfl⟩, Ta⟩
        rw [HV.out] at he
        subst he
        obtain ⟨o, ⟨D, rfl, hd, hD⟩, T1⟩ := (Ta _ rfl).openAt 1 rfl
        have d1 : w1.cell? ⟨rb, j * 6 + 4, none⟩ = _ := (T1.cell 1 (show _ = some (pt rb _ _) from rfl) _).trans (hD j r HR.out).2.1
        have HT1 := Lib.hid (T1.sayAt 1 rfl (recsP s.recs) (fun o ho => by cases ho; exact ⟨D, rfl, hd, hD⟩))
        clear T1 hd hD Ta)
      all_goals go_ret2
      all_goals exact ⟨_, ⟨by rw [HP.out.1, HP.out.2, ← hj]; rfl, rfl⟩, HT1.out⟩
    · have HP := Lib.hid (show s.slot id = 0 ∧ s.serr id = 1 from ⟨if_neg (fun x => hk (hkn.1 x)), if_neg (fun x => hk (hkn.1 x))⟩)
      clear hh hr hg hkn
      by_cases k1 : 1 ≤ id / 64
      · have k2 : ¬ id / 64 ≤ r.g := fun x => hk ⟨k1, x⟩
        clear hk
        go_enter Tryz.func203, Tryz.ntmps203
        go_wp2_with (
          go_at_call 109
          refine ((slabAt_does sb rb s.recs.length s.count _ hn).at HT.out 0 rfl).mono ?_
          rintro e w1 ⟨h', ⟨he, rfl⟩, Ta⟩
          rw [HV.out] at he
          subst he
          obtain ⟨o, ⟨D, rfl, hd, hD⟩, T1⟩ := (Ta _ rfl).openAt 1 rfl
          have d1 : w1.cell? ⟨rb, j * 6 + 4, none⟩ = _ := (T1.cell 1 (show _ = some (pt rb _ _) from rfl) _).trans (hD j r HR.out).2.1
          have HT1 := Lib.hid (T1.sayAt 1 rfl (recsP s.recs) (fun o ho => by cases ho; exact ⟨D, rfl, hd, hD⟩))
          clear T1 hd hD Ta)
        all_goals go_ret2
        all_goals exact ⟨_, ⟨by rw [HP.out.1, HP.out.2]; rfl, rfl⟩, HT1.out⟩
      · clear hk
        go_enter Tryz.func203, Tryz.ntmps203
        go_wp2_with (
          go_at_call 109
          refine ((slabAt_does sb rb s.recs.length s.count _ hn).at HT.out 0 rfl).mono ?_
          rintro e w1 ⟨h', ⟨he, rfl⟩, Ta⟩
          rw [HV.out] at he
          subst he
          obtain ⟨o, ⟨D, rfl, hd, hD⟩, T1⟩ := (Ta _ rfl).openAt 1 rfl
          have d1 : w1.cell? ⟨rb, j * 6 + 4, none⟩ = _ := (T1.cell 1 (show _ = some (pt rb _ _) from rfl) _).trans (hD j r HR.out).2.1
          have HT1 := Lib.hid (T1.sayAt 1 rfl (recsP s.recs) (fun o ho => by cases ho; exact ⟨D, rfl, hd, hD⟩))
          clear T1 hd hD Ta)
        all_goals go_ret2
        all_goals exact ⟨_, ⟨by rw [HP.out.1, HP.out.2]; rfl, rfl⟩, HT1.out⟩
  · have HV := Lib.hid (atV_not rb hh)
    have HP := Lib.hid (show s.slot id = 0 ∧ s.serr id = 1 from ⟨if_neg (fun x => hh (by rw [← hj]; exact ⟨hm0, x.1⟩)), if_neg (fun x => hh (by rw [← hj]; exact ⟨hm0, x.1⟩))⟩)
    clear hh
    go_enter Tryz.func203, Tryz.ntmps203
    go_wp2_with (
      go_at_call 109
      refine ((slabAt_does sb rb s.recs.length s.count _ hn).at HT.out 0 rfl).mono ?_
      rintro e w1 ⟨h', ⟨he, rfl⟩, Ta⟩
      rw [HV.out] at he
      subst he
      have HT1 := Lib.hid (Ta _ rfl)
      clear Ta)
    all_goals go_ret2
    all_goals exact ⟨_, ⟨by rw [HP.out.1, HP.out.2]; rfl, rfl⟩, HT1.out⟩
theorem slabMine_does (sb rb : Nat) (s : SlabS) (id : Int) (hn : s.recs.length ≤ 64) (h0 : 0 ≤ id) (h1 : id < 18446744073709551616) :
    Does Tryz.prog 204 #[.pointer (some ⟨sb, 0, none⟩), .int .u64 id] (slabH sb rb s) fun e h' =>
      e = .returned (.bool (s.mine id)) ∧ h' = slabH sb rb s := by
  intro w hw
  have HT := Lib.hid (Turned.refl hw)
  clear hw
  by_cases hk : s.known id
  · obtain ⟨j, r, hj, hr, k1, k2, hh, hg⟩ := SlabS.known_at h0 hk
    have HP := Lib.hid (show s.slot id = j ∧ s.serr id = 0 ∧ s.mine id = decide (r.g = id / 64) from ⟨(if_pos hk).trans hj, if_pos hk, by unfold SlabS.mine; rw [hg, decide_eq_true hk]; rfl⟩)
    have HR := Lib.hid hr
    have hjl : j < s.recs.length := by have := hh.2; omega
    clear hk hj hr hh hg
    go_enter Tryz.func204, Tryz.ntmps204
    go_wp2_with (
      go_at_call 203
      refine ((slabSlot_does sb rb s id hn h0 h1).use HT.out (List.Perm.refl _)).mono ?_
      rw [HP.out.1, HP.out.2.1]
      rintro e w1 ⟨h', ⟨rfl, rfl⟩, Ta⟩
      obtain ⟨o, ⟨C, rfl, hs, hc0, hc⟩, T1⟩ := Ta.openAt 0 rfl
      have s1 : w1.cell? ⟨sb, 0, none⟩ = _ := (T1.cell 0 (show _ = some (pt sb _ _) from rfl) 0).trans hc0
      have T1 := T1.sayAt 0 rfl (slabP rb s.recs.length s.count) (fun o ho => by cases ho; exact ⟨C, rfl, hs, hc0, hc⟩)
      obtain ⟨o, ⟨D, rfl, hd, hD⟩, T1⟩ := T1.openAt 1 rfl
      have d1 : w1.cell? ⟨rb, j * 6 + 4, none⟩ = _ := (T1.cell 1 (show _ = some (pt rb _ _) from rfl) _).trans (hD j r HR.out).2.1
      have HT1 := Lib.hid (T1.sayAt 1 rfl (recsP s.recs) (fun o ho => by cases ho; exact ⟨D, rfl, hd, hD⟩))
      clear T1 hd hD Ta hs hc0 hc)
    go_ret
    exact ⟨_, ⟨by rw [HP.out.2.2]; rfl, rfl⟩, HT1.out⟩
  · have HP := Lib.hid (show s.slot id = 0 ∧ s.serr id = 1 ∧ s.mine id = false from ⟨if_neg hk, if_neg hk, by unfold SlabS.mine; rw [decide_eq_false hk]; rfl⟩)
    clear hk
    go_enter Tryz.func204, Tryz.ntmps204
    go_wp2_with (
      go_at_call 203
      refine ((slabSlot_does sb rb s id hn h0 h1).use HT.out (List.Perm.refl _)).mono ?_
      rw [HP.out.1, HP.out.2.1]
      rintro e w1 ⟨h', ⟨rfl, rfl⟩, Ta⟩
      have HT1 := Lib.hid Ta
      clear Ta)
    go_ret
    exact ⟨_, ⟨by rw [HP.out.2.2]; rfl, rfl⟩, HT1.out⟩
theorem slabDrop1_does (n : Int) (h0 : 0 ≤ n) (h1 : n ≤ 64) :
    Does Tryz.prog 252 #[.int .i64 n] [] fun e h' => e = .returned (.tuple #[.int .i64 (n - 1), .bool (decide (0 < n))]) ∧ h' = [] := by
  intro w hw
  have HT := Lib.hid (Turned.refl hw)
  clear hw
  go_enter Tryz.func252, Tryz.ntmps252
  go_wp2
  all_goals go_ret2
  all_goals exact ⟨_, ⟨rfl, rfl⟩, HT.out⟩
theorem slabDrop_does (sb rb : Nat) (s : SlabS) (h0 : 0 ≤ s.count) (h1 : s.count ≤ 64) :
    Does Tryz.prog 232 #[.pointer (some ⟨sb, 0, none⟩)] (slabH sb rb s) fun e h' => e = .returned (.int .i64 s.drop.2) ∧ h' = slabH sb rb s.drop.1 := by
  intro w hw
  obtain ⟨o, ⟨C, rfl, hs, hc0, hc⟩, T0⟩ := (Turned.refl hw).openAt 0 rfl
  have HT := Lib.hid T0
  have HC := Lib.hid (And.intro hs (And.intro hc0 hc))
  have HD := Lib.hid (slabDrop1_does s.count h0 h1)
  clear hw hs hc0 hc T0
  by_cases hk : 0 < s.count
  all_goals
    go_enter Tryz.func232, Tryz.ntmps232
    go_wp2_with (
      go_at_call 189
      refine ((turnI_does sb 1 160 C s.count (s.count - 1) (decide (0 < s.count)) 252 #[] [] HC.out.2.2 (enters_of Tryz.func252 (by kernel_rfl) rfl) HD.out).at HT.out 0 rfl).mono ?_
      rintro e w1 ⟨h', ⟨rfl, C1, rfl, hr1⟩, Ta⟩
      simp only [hk] at hr1 ⊢
      have HR1 := Lib.hid hr1
      have HT1 := Lib.hid (Ta _ rfl)
      clear Ta hr1)
    all_goals go_ret
  · have HP := show s.drop = _ from if_pos hk
    exact ⟨_, ⟨by rw [HP]; rfl, by rw [HP]; rfl⟩, HT1.out.sayAt 0 rfl (slabP rb s.recs.length (s.count - 1)) (fun o ho => by cases ho; exact slabP_recell HC.out.1 HC.out.2.1 (by simpa using HR1.out))⟩
  · have HP := show s.drop = _ from if_neg (by omega)
    exact ⟨_, ⟨by rw [HP]; rfl, by rw [HP]; rfl⟩, HT1.out.sayAt 0 rfl (slabP rb s.recs.length s.count) (fun o ho => by cases ho; exact slabP_recell HC.out.1 HC.out.2.1 (by simpa using HR1.out))⟩
theorem swapW_at {s : SlabS} {C C' : Array Value} {j : Nat} {r : Rec} {old n : Int} (hs : C.size = s.recs.length * 6) (h : ∀ i r, s.recs[i]? = some r → recAt C i r) (hr : s.recs[j]? = some r)
    (hc : Recell C (j * 6) (.int .u64 (if r.w = old then n else r.w)) C') : recsP (if r.w = old then s.recs.set j { r with w := n } else s.recs) (.cells C' 178 (0, 0)) := by
  by_cases e : r.w = old
  · rw [if_pos e] at hc ⊢; exact ⟨C', rfl, recs_recell hs h hr hc⟩
  · rw [if_neg e] at hc ⊢; exact ⟨C', rfl, recs_same hs h hr hc⟩
theorem slabTry_does (sb rb : Nat) (s : SlabS) (k old ev : Int) (hn : s.recs.length ≤ 64) (h0 : 0 ≤ old) (h1 : old < 18446744073709551616) :
    Does Tryz.prog 208 #[.pointer (some ⟨sb, 0, none⟩), .int .i64 k, .int .u64 old, .int .i64 ev] (slabH sb rb s) fun e h' =>
      e = .returned (.tuple #[.int .u64 (s.try k old ev).2.1, .int .i64 (s.try k old ev).2.2]) ∧ h' = slabH sb rb (s.try k old ev).1 := by
  intro w hw
  have HT := Lib.hid (Turned.refl hw)
  clear hw
  by_cases hh : s.has k
  · obtain ⟨j, rfl⟩ := SlabS.has_nat hh
    obtain ⟨r, hr, hg⟩ := SlabS.has_at hh
    have HV := Lib.hid (atV_has rb hh)
    have HR := Lib.hid hr
    have HW := Lib.hid (show s.word j = r.w ∧ s.werr j = 0 from ⟨by unfold SlabS.word; rw [if_pos hh, hg], if_pos hh⟩)
    obtain ⟨t, ht⟩ : ∃ t, nextW old ev (decide (0 < r.p)) = t := ⟨_, rfl⟩
    obtain ⟨n1, e1⟩ := t
    have HN := Lib.hid ht
    have HP := Lib.hid (show s.try j old ev = if e1 ≠ 0 then (s, r.w, e1) else if r.w = old then ({ s with recs := s.recs.set j { r with w := n1 } }, n1, 0) else (s, r.w, 10) from by
      unfold SlabS.try; rw [if_pos hh]; dsimp only; rw [hg, ht]; rfl)
    clear hh hr hg ht
    by_cases he : e1 = 0
    · subst he
      by_cases ho : r.w = old
      all_goals
        go_enter Tryz.func208, Tryz.ntmps208
        go_wp2_with (first
          | (go_at_call 46
             refine ((slabWord_does sb rb s j hn).use HT.out (List.Perm.refl _)).mono ?_
             rw [HW.out.1, HW.out.2]
             rintro e w1 ⟨h', ⟨rfl, rfl⟩, Ta⟩
             have HT1 := Lib.hid Ta
             clear Ta)
          | (go_at_call 109
             refine ((slabAt_does sb rb s.recs.length s.count j hn).at HT1.out 0 rfl).mono ?_
             rintro e w2 ⟨h', ⟨he, rfl⟩, Ta⟩
             rw [HV.out] at he
             subst he
             obtain ⟨o, ⟨D, rfl, hd, hD⟩, T1⟩ := (Ta _ rfl).openAt 1 rfl
             have d1 : w2.cell? ⟨rb, j * 6 + 5, none⟩ = _ := (T1.cell 1 (show _ = some (pt rb _ _) from rfl) _).trans (hD j r HR.out).2.2
             have HD := Lib.hid (And.intro hd hD)
             have HT2 := Lib.hid T1
             clear T1 hd hD Ta)
          | (go_at_call 205; refine (next_calls _ _ _ _ h0 h1).mono ?_; rw [HN.out]; rintro e w3 ⟨rfl, rfl⟩)
          | (go_at_call 238
             refine ((swapW_does rb (j * 6) _ D r.w old n1 (HD.out.2 j r HR.out).1).at HT2.out 1 rfl).mono ?_
             rintro e w4 ⟨h', ⟨rfl, C1, rfl, hr1⟩, Ta⟩
             have HR1 := Lib.hid (swapW_at HD.out.1 HD.out.2 HR.out hr1)
             have HT3 := Lib.hid (Ta _ rfl)
             clear Ta hr1))
        go_ret2
      · rw [if_pos ho] at HR1
        exact ⟨_, ⟨by rw [HP.out, if_neg (by simp), if_pos ho]; rfl, by rw [HP.out, if_neg (by simp), if_pos ho]; rfl⟩, (HT3.out.sayAt 1 rfl (recsP (s.recs.set j { r with w := n1 })) (fun o hx => by cases hx; exact HR1.out)).sayAt 0 rfl
          (slabP rb (s.recs.set j { r with w := n1 }).length s.count) (fun o hx => by rw [List.length_set]; exact hx)⟩
      · rw [if_neg ho] at HR1
        exact ⟨_, ⟨by rw [HP.out, if_neg (by simp), if_neg ho]; rfl, by rw [HP.out, if_neg (by simp), if_neg ho]; rfl⟩, HT3.out.sayAt 1 rfl (recsP s.recs) (fun o hx => by cases hx; exact HR1.out)⟩
    · skip
      go_enter Tryz.func208, Tryz.ntmps208
      go_wp2_with (first
        | (go_at_call 46
           refine ((slabWord_does sb rb s j hn).use HT.out (List.Perm.refl _)).mono ?_
           rw [HW.out.1, HW.out.2]
           rintro e w1 ⟨h', ⟨rfl, rfl⟩, Ta⟩
           have HT1 := Lib.hid Ta
           clear Ta)
        | (go_at_call 109
           refine ((slabAt_does sb rb s.recs.length s.count j hn).at HT1.out 0 rfl).mono ?_
           rintro e w2 ⟨h', ⟨he, rfl⟩, Ta⟩
           rw [HV.out] at he
           subst he
           obtain ⟨o, ⟨D, rfl, hd, hD⟩, T1⟩ := (Ta _ rfl).openAt 1 rfl
           have d1 : w2.cell? ⟨rb, j * 6 + 5, none⟩ = _ := (T1.cell 1 (show _ = some (pt rb _ _) from rfl) _).trans (hD j r HR.out).2.2
           have HD := Lib.hid (And.intro hd hD)
           have HT2 := Lib.hid T1
           clear T1 hd hD Ta)
        | (go_at_call 205; refine (next_calls _ _ _ _ h0 h1).mono ?_; rw [HN.out]; rintro e w3 ⟨rfl, rfl⟩)
        | (go_at_call 238
           refine ((swapW_does rb (j * 6) _ D r.w old n1 (HD.out.2 j r HR.out).1).at HT2.out 1 rfl).mono ?_
           rintro e w4 ⟨h', ⟨rfl, C1, rfl, hr1⟩, Ta⟩
           have HR1 := Lib.hid (swapW_at HD.out.1 HD.out.2 HR.out hr1)
           have HT3 := Lib.hid (Ta _ rfl)
           clear Ta hr1))
      go_ret2
      exact ⟨_, ⟨by rw [HP.out, if_pos he]; rfl, by rw [HP.out, if_pos he]; rfl⟩, HT2.out.sayAt 1 rfl (recsP s.recs) (fun o hx => by cases hx; exact ⟨D, rfl, HD.out⟩)⟩
  · have HW := Lib.hid (show s.word k = 0 ∧ s.werr k = 4 from ⟨if_neg hh, if_neg hh⟩)
    have HP := Lib.hid (show s.try k old ev = (s, 0, 4) from if_neg hh)
    clear hh
    go_enter Tryz.func208, Tryz.ntmps208
    go_wp2_with (
      go_at_call 46
      refine ((slabWord_does sb rb s k hn).use HT.out (List.Perm.refl _)).mono ?_
      rw [HW.out.1, HW.out.2]
      rintro e w1 ⟨h', ⟨rfl, rfl⟩, Ta⟩
      have HT1 := Lib.hid Ta
      clear Ta)
    go_ret2
    exact ⟨_, ⟨by rw [HP.out]; rfl, by rw [HP.out]; rfl⟩, HT1.out⟩
end Go.Proofs.YtblhfbcodbjgcaaGreat

namespace Go.Proofs.YtblhfbcodbjgcaaGreat
set_option linter.unusedVariables false
set_option linter.unusedSimpArgs false
open Go.RowKit
theorem reqStep_does (qb sb rb : Nat) (s : SlabS) (q : Req) (hs : SlabOk s) (hq : ReqOk s.recs.length q) :
    Does Tryz.prog 169 #[.pointer (some ⟨qb, 0, none⟩)] (reqH qb sb q :: slabH sb rb s) fun e h' => e = .returned (.int .i64 (stepR s q).2.st) ∧ h' = reqH qb sb (stepR s q).2 :: slabH sb rb (stepR s q).1 := by
  intro w hw
  have T0 := Turned.refl hw
  have q0 := T0.cell 0 (show _ = some (pt qb _ _) from rfl)
  simp only [reqC] at q0
  have hlq := T0.lt 0 (show _ = some (pt qb _ _) from rfl)
  simp only [] at hlq
  have HT := Lib.hid T0
  clear hw T0
  have hn1 := hs.n1
  by_cases hst : q.st = 0
  · rcases hq.next with hn | ⟨hn, b0, b1⟩ | hn
    · have HK := Lib.hid (show stepR s q = (s, lookR s q) from by unfold stepR; rw [if_neg (by simp [hst]), if_pos hn])
      rw [hn, hst] at q0
      go_enter Tryz.func169, Tryz.ntmps169
      go_wp2_with (
        go_at_call 194
        refine ((look_does qb sb rb s q).use (HT.out.alloc0 _) (List.Perm.refl _)).mono ?_
        rintro e w1 ⟨h', ⟨rfl, rfl⟩, Ta⟩
        have q1 := Ta.cell 0 (show _ = some (pt qb _ _) from rfl) 6
        simp [reqC] at q1
        have HT1 := Lib.hid Ta
        clear Ta)
      go_ret
      exact ⟨_, ⟨by rw [HK.out]; rfl, by rw [HK.out]; rfl⟩, HT1.out⟩
    · have b2 : q.saw < 64 := by omega
      have HK := Lib.hid (show stepR s q = moreR s q from by unfold stepR; rw [if_neg (by simp [hst]), if_neg (by omega), if_pos hn])
      rw [hn, hst] at q0
      go_enter Tryz.func169, Tryz.ntmps169
      go_wp2_with (
        go_at_call 195
        refine ((more_does qb sb rb s q b0 b2).use (HT.out.alloc0 _) (List.Perm.refl _)).mono ?_
        rintro e w1 ⟨h', ⟨rfl, rfl⟩, Ta⟩
        have q1 := Ta.cell 0 (show _ = some (pt qb _ _) from rfl) 6
        simp [reqC] at q1
        have HT1 := Lib.hid Ta
        clear Ta)
      go_ret
      exact ⟨_, ⟨by rw [HK.out]; rfl, by rw [HK.out]; rfl⟩, HT1.out⟩
    · obtain ⟨k, hk⟩ := Int.eq_ofNat_of_zero_le hq.slot0
      have hkl : k < s.recs.length := by have := hq.slot1; omega
      have hr : s.recs[k]? = some (s.recs[k]) := List.getElem?_eq_getElem hkl
      have HX := Lib.hid (seek_does qb sb rb s q k _ hk hr (hs.recs _ (List.getElem_mem _)) hn1)
      have HK := Lib.hid (show stepR s q = seekR s q from by unfold stepR; rw [if_neg (by simp [hst]), if_neg (by omega), if_neg (by omega)])
      rw [hn, hst] at q0
      clear hr
      go_enter Tryz.func169, Tryz.ntmps169
      go_wp2_with (
        go_at_call 196
        refine (HX.out.use (HT.out.alloc0 _) (List.Perm.refl _)).mono ?_
        rintro e w1 ⟨h', ⟨rfl, rfl⟩, Ta⟩
        have q1 := Ta.cell 0 (show _ = some (pt qb _ _) from rfl) 6
        simp [reqC] at q1
        have HT1 := Lib.hid Ta
        clear Ta)
      go_ret
      exact ⟨_, ⟨by rw [HK.out]; rfl, by rw [HK.out]; rfl⟩, HT1.out⟩
  · have HK := Lib.hid (show stepR s q = (s, q) from if_pos hst)
    go_enter Tryz.func169, Tryz.ntmps169
    go_wp2
    go_ret
    exact ⟨_, ⟨by rw [HK.out]; rfl, by rw [HK.out]⟩, HT.out.alloc0 _⟩
def recC : Array Value := #[.int .u64 0, .int .i64 0, .int .i64 0, .int .i64 0, .int .u64 0, .int .u64 0]
theorem rec_info : (Tryz.prog.info? 178).map (fun i => (i.zero, i.size, i.bytes)) = some (some (.agg recC), 6, 48) := by kernel_rfl
theorem new_recs (k : Nat) : (madeCells recC (k * 6)).size = (newSlab k).recs.length * 6 ∧ ∀ i r, (newSlab k).recs[i]? = some r → recAt (madeCells recC (k * 6)) i r := by
  refine ⟨by simp [size_madeCells, newSlab], fun i r hr => ?_⟩
  have hi : i < k := by have := (List.getElem?_eq_some_iff.1 hr).1; simpa [newSlab] using this
  have hz : recC.size = 6 := rfl
  have hr' : r = Rec.zero := by simp [newSlab, hi] at hr; exact hr.symm
  subst hr'
  exact ⟨⟨made_get _ k 6 i 0 hz hi (by omega), 0, 0, 0, made_get _ k 6 i 1 hz hi (by omega), made_get _ k 6 i 2 hz hi (by omega), made_get _ k 6 i 3 hz hi (by omega)⟩, made_get _ k 6 i 4 hz hi (by omega), made_get _ k 6 i 5 hz hi (by omega)⟩
set_option maxRecDepth 100000 in
theorem slabNew_does (n : Int) :
    Does Tryz.prog 81 #[.int .i64 n] [] fun e h' =>
      if 1 ≤ n ∧ n ≤ 64 then ∃ sb rb, e = .returned (.tuple #[.pointer (some ⟨sb, 0, none⟩), .int .i64 0]) ∧ h' = slabH sb rb (newSlab n.toNat) else e = .returned (.tuple #[.pointer none, .int .i64 4]) ∧ h' = [] := by
  intro w hw
  have HT := Lib.hid (Turned.refl hw)
  clear hw
  by_cases h : 1 ≤ n ∧ n ≤ 64
  · simp only [if_pos h]
    obtain ⟨h1, h2⟩ := h
    obtain ⟨k, rfl⟩ := Int.eq_ofNat_of_zero_le (show 0 ≤ n by omega)
    have hk1 : k ≤ 64 := by omega
    have hmk : ∀ w, (Instr.makeSlice 158 (.int .i64 (k : Int)) (.int .i64 (k : Int))).run Tryz.prog w = .ok (.slice (some ⟨w.heap.size, 0, none⟩) k k) (w.alloc (.cells (madeCells recC (k * 6)) 178)) := run_make_n (P := Tryz.prog) 158 178 (.agg recC) 6 48 Tryz.underlying158 rec_info k (by omega) (by omega)
    have hd1 : decide ((k : Int) < 1) = false := by simp; omega
    have hd2 : decide (64 < (k : Int)) = false := by simp; omega
    go_enter Tryz.func81, Tryz.ntmps81
    go_wp2
    go_ret2
    exact ⟨_, ⟨w.heap.size + 1, w.heap.size, rfl, by simp [newSlab, slabH]⟩, (((HT.out.alloc rfl _ _).sayAt 0 rfl (recsP (newSlab k).recs) (fun o ho => by cases ho; exact ⟨_, rfl, new_recs k⟩)).alloc rfl _ _).sayAt 0 rfl (slabP w.heap.size (newSlab k).recs.length 0) (fun o ho => by
      cases ho; exact ⟨_, rfl, rfl, by simp [newSlab], rfl, 0, 0, 0, rfl, rfl, rfl⟩)⟩
  · simp only [if_neg h]
    by_cases h1 : n < 1
    · clear h
      go_enter Tryz.func81, Tryz.ntmps81
      go_wp2
      go_ret2
      exact ⟨_, ⟨rfl, rfl⟩, HT.out⟩
    · have h2 : 64 < n := by omega
      clear h
      go_enter Tryz.func81, Tryz.ntmps81
      go_wp2
      go_ret2
      exact ⟨_, ⟨rfl, rfl⟩, HT.out⟩
end Go.Proofs.YtblhfbcodbjgcaaGreat

namespace Go.Proofs.YtblhfbcodbjgcaaGreat
set_option linter.unusedVariables false
set_option linter.unusedSimpArgs false
open Go.RowKit
abbrev ptr (b : Nat) : Value := .pointer (some ⟨b, 0, none⟩)
def isSlab (sb : Nat) (s : SlabS) (g : List Blk) : Prop := ∃ rb, Match (slabH sb rb s) g
def reqG (qb sb : Nat) (q : Req) : List Blk := [cl qb 279 (reqC sb q)]
theorem reqM (qb sb : Nat) (q : Req) : Match [reqH qb sb q] (reqG qb sb q) := Match.of_pt _ _ _
section
variable {sb : Nat} {s : SlabS} {g : List Blk}
theorem slabCount_g (hg : isSlab sb s g) : DoesG Tryz.prog 23 #[ptr sb] [g] fun e gs => e = .returned (.int .i64 s.count) ∧ ∃ g', isSlab sb s g' ∧ gs = [g'] := by
  obtain ⟨rb, m⟩ := hg
  exact (Does.G1 (slabCount_does sb rb s) m).mono fun e gs ⟨he, x, mx, hx⟩ => ⟨he, x, ⟨rb, mx⟩, hx⟩
theorem slabWord_g (hg : isSlab sb s g) (hn : s.recs.length ≤ 64) (k : Int) : DoesG Tryz.prog 46 #[ptr sb, .int .i64 k] [g] fun e gs => e = .returned (.tuple #[.int .u64 (s.word k), .int .i64 (s.werr k)]) ∧ ∃ g', isSlab sb s g' ∧ gs = [g'] := by
  obtain ⟨rb, m⟩ := hg
  exact (Does.G1 (slabWord_does sb rb s k hn) m).mono fun e gs ⟨he, x, mx, hx⟩ => ⟨he, x, ⟨rb, mx⟩, hx⟩
theorem slabSlot_g (hg : isSlab sb s g) (hn : s.recs.length ≤ 64) (id : Int) (h0 : 0 ≤ id) (h1 : id < 18446744073709551616) : DoesG Tryz.prog 203 #[ptr sb, .int .u64 id] [g] fun e gs => e = .returned (.tuple #[.int .i64 (s.slot id), .int .i64 (s.serr id)]) ∧ ∃ g', isSlab sb s g' ∧ gs = [g'] := by
  obtain ⟨rb, m⟩ := hg
  exact (Does.G1 (slabSlot_does sb rb s id hn h0 h1) m).mono fun e gs ⟨he, x, mx, hx⟩ => ⟨he, x, ⟨rb, mx⟩, hx⟩
theorem slabMine_g (hg : isSlab sb s g) (hn : s.recs.length ≤ 64) (id : Int) (h0 : 0 ≤ id) (h1 : id < 18446744073709551616) : DoesG Tryz.prog 204 #[ptr sb, .int .u64 id] [g] fun e gs => e = .returned (.bool (s.mine id)) ∧ ∃ g', isSlab sb s g' ∧ gs = [g'] := by
  obtain ⟨rb, m⟩ := hg
  exact (Does.G1 (slabMine_does sb rb s id hn h0 h1) m).mono fun e gs ⟨he, x, mx, hx⟩ => ⟨he, x, ⟨rb, mx⟩, hx⟩
theorem slabDrop_g (hg : isSlab sb s g) (h0 : 0 ≤ s.count) (h1 : s.count ≤ 64) : DoesG Tryz.prog 232 #[ptr sb] [g] fun e gs => e = .returned (.int .i64 s.drop.2) ∧ ∃ g', isSlab sb s.drop.1 g' ∧ gs = [g'] := by
  obtain ⟨rb, m⟩ := hg
  exact (Does.G1 (slabDrop_does sb rb s h0 h1) m).mono fun e gs ⟨he, x, mx, hx⟩ => ⟨he, x, ⟨rb, mx⟩, hx⟩
theorem slabTry_g (hg : isSlab sb s g) (hn : s.recs.length ≤ 64) (k old ev : Int) (h0 : 0 ≤ old) (h1 : old < 18446744073709551616) :
    DoesG Tryz.prog 208 #[ptr sb, .int .i64 k, .int .u64 old, .int .i64 ev] [g] fun e gs => e = .returned (.tuple #[.int .u64 (s.try k old ev).2.1, .int .i64 (s.try k old ev).2.2]) ∧ ∃ g', isSlab sb (s.try k old ev).1 g' ∧ gs = [g'] := by
  obtain ⟨rb, m⟩ := hg
  exact (Does.G1 (slabTry_does sb rb s k old ev hn h0 h1) m).mono fun e gs ⟨he, x, mx, hx⟩ => ⟨he, x, ⟨rb, mx⟩, hx⟩
theorem reqStep_g (qb : Nat) (q : Req) (hg : isSlab sb s g) (hs : SlabOk s) (hq : ReqOk s.recs.length q) :
    DoesG Tryz.prog 169 #[ptr qb] [reqG qb sb q, g] fun e gs => e = .returned (.int .i64 (stepR s q).2.st) ∧ ∃ g', isSlab sb (stepR s q).1 g' ∧ gs = [reqG qb sb (stepR s q).2, g'] := by
  obtain ⟨rb, m⟩ := hg
  refine (Does.G2 (a := [reqH qb sb q]) (a' := [reqH qb sb (stepR s q).2]) (reqStep_does qb sb rb s q hs hq) (reqM _ _ _) m).mono ?_
  rintro e gs ⟨he, x, y, mx, my, rfl⟩
  exact ⟨he, y, ⟨rb, my⟩, by rw [mx.isPt]; rfl⟩
end
theorem reqId_g (qb sb : Nat) (q : Req) : DoesG Tryz.prog 170 #[ptr qb] [reqG qb sb q] fun e gs => e = .returned (.tuple #[.int .u64 (if q.st = 2 then q.id else 0), .int .i64 (if q.st = 2 then 0 else 7)]) ∧ gs = [reqG qb sb q] :=
  (Does.G1 (reqId_does qb sb q) (reqM _ _ _)).mono fun e gs ⟨he, x, mx, hx⟩ => ⟨he, by rw [hx, mx.isPt]; rfl⟩
theorem slabBegin_g (sb : Nat) (p : Int) : DoesG Tryz.prog 138 #[ptr sb, .int .u64 p] [] fun e gs => ∃ qb, e = .returned (ptr qb) ∧ gs = [reqG qb sb ⟨p, 0, 0, 0, 0, 0⟩] := by
  refine ((slabBegin_does sb p).G (gs := []) .nil).mono ?_
  rintro e gs ⟨h', g, ⟨qb, he, rfl⟩, m, rfl⟩
  exact ⟨qb, he, by rw [m.isPt]; rfl⟩
theorem slabNew_g (n : Int) : DoesG Tryz.prog 81 #[.int .i64 n] [] fun e gs =>
    (1 ≤ n ∧ n ≤ 64 ∧ ∃ sb g, e = .returned (.tuple #[ptr sb, .int .i64 0]) ∧ isSlab sb (newSlab n.toNat) g ∧ gs = [g]) ∨ (¬ (1 ≤ n ∧ n ≤ 64) ∧ e = .returned (.tuple #[.pointer none, .int .i64 4]) ∧ gs = []) := by
  refine ((slabNew_does n).G (gs := []) .nil).post ?_
  rintro e gs ⟨h', g, hr, m, rfl⟩
  by_cases hn : 1 ≤ n ∧ n ≤ 64
  · rw [if_pos hn] at hr
    obtain ⟨sb, rb, he, rfl⟩ := hr
    exact ⟨[g], .inl ⟨hn.1, hn.2, sb, g, he, ⟨rb, m⟩, rfl⟩, List.Perm.refl _⟩
  · rw [if_neg hn] at hr
    obtain ⟨he, rfl⟩ := hr
    cases m
    exact ⟨[], .inr ⟨hn, he, rfl⟩, by simp⟩
theorem slabNew_at (n : Nat) (h1 : 1 ≤ n) (h2 : n ≤ 64) : DoesG Tryz.prog 81 #[.int .i64 n] [] fun e gs => ∃ sb g, e = .returned (.tuple #[ptr sb, .int .i64 0]) ∧ isSlab sb (newSlab n) g ∧ gs = [g] := by
  refine (slabNew_g n).mono ?_
  rintro e gs (⟨_, _, sb, g, he, hs, hg⟩ | ⟨hn, _⟩)
  · exact ⟨sb, g, he, by simpa using hs, hg⟩
  · exact absurd ⟨by omega, by omega⟩ hn
end Go.Proofs.YtblhfbcodbjgcaaGreat

namespace Go.Proofs.YtblhfbcodbjgcaaGreat
set_option linter.unusedVariables false
set_option linter.unusedSimpArgs false
open Go.RowKit
theorem loadB_does (b o : Nat) (T : TypeId) (C : Array Value) (n : Bool) (hc : cellAt C o (.bool n)) :
    Does Tryz.prog 167 #[.pointer (some ⟨b, o, none⟩)] [pt b T C] (CellPost b T C o (.bool n) (.bool n)) := by
  intro w hw
  obtain ⟨h0, l, t, u, h1, h2, h3⟩ := hc
  have T0 := Turned.refl hw
  have hb := T0.blk 0 rfl
  have c0 : w.cell? ⟨b, o, none⟩ = some (.bool n) := (blk_cell hb o).trans h0
  have c1 : w.cell? ⟨b, o + 1, none⟩ = some (.int .i64 l) := (blk_cell hb (o + 1)).trans h1
  have f1 := blk_free hb (o + 1)
  have T1 := Lib.hid T0
  have H := Lib.hid (And.intro h0 (And.intro h1 (And.intro h2 h3)))
  clear T0 hb hw h0 h1 h2 h3
  go_enter Tryz.func167, Tryz.ntmps167
  go_wp2
  go_ret
  obtain ⟨h0, h1, h2, h3⟩ := H.out
  exact ⟨_, ⟨rfl, _, rfl, recell_loads h0 h1 h2 h3⟩, T1.out.set (o + 1) _⟩
theorem swapB_does (b o : Nat) (T : TypeId) (C : Array Value) (n old new : Bool) (hc : cellAt C o (.bool n)) :
    Does Tryz.prog 103 #[.pointer (some ⟨b, o, none⟩), .bool old, .bool new] [pt b T C] (CellPost b T C o (.bool (if n = old then new else n)) (.bool (decide (n = old)))) := by
  intro w hw
  obtain ⟨h0, l, t, u, h1, h2, h3⟩ := hc
  have T0 := Turned.refl hw
  have hb := T0.blk 0 rfl
  have c0 : w.cell? ⟨b, o, none⟩ = some (.bool n) := (blk_cell hb o).trans h0
  have c2 : w.cell? ⟨b, o + 2, none⟩ = some (.int .i64 t) := (blk_cell hb (o + 2)).trans h2
  have c3 : w.cell? ⟨b, o + 3, none⟩ = some (.int .i64 u) := (blk_cell hb (o + 3)).trans h3
  have f0 := blk_free hb o
  have f2 := blk_free hb (o + 2)
  have f3 := blk_free hb (o + 3)
  have T1 := Lib.hid T0
  have H := Lib.hid (And.intro h0 (And.intro h1 (And.intro h2 h3)))
  clear T0 hb hw h0 h1 h2 h3
  by_cases he : n = old
  · subst he
    cases n
    all_goals
      go_enter Tryz.func103, Tryz.ntmps103
      go_wp2
      go_ret
      obtain ⟨h0, h1, h2, h3⟩ := H.out
      exact ⟨_, ⟨by simp, _, rfl, recell_swap h0 h1 h2 h3⟩, ((T1.out.set (o + 2) _).set o _).set (o + 3) _⟩
  · cases n <;> cases old <;> first | exact absurd rfl he | skip
    all_goals
      go_enter Tryz.func103, Tryz.ntmps103
      go_wp2
      go_ret
      obtain ⟨h0, h1, h2, h3⟩ := H.out
      exact ⟨_, ⟨by simp [he], _, rfl, recell_tries h0 h1 h2 h3⟩, T1.out.set (o + 2) _⟩
end Go.Proofs.YtblhfbcodbjgcaaGreat

namespace Go.Proofs.YtblhfbcodbjgcaaGreat
set_option linter.unusedVariables false
set_option linter.unusedSimpArgs false
open Go.RowKit
theorem loadU_does (b o : Nat) (T : TypeId) (C : Array Value) (n : Int) (hc : cellAt C o (.int .u64 n)) :
    Does Tryz.prog 105 #[.pointer (some ⟨b, o, none⟩)] [pt b T C] (CellPost b T C o (.int .u64 n) (.int .u64 n)) := by
  intro w hw
  obtain ⟨h0, l, t, u, h1, h2, h3⟩ := hc
  have T0 := Turned.refl hw
  have hb := T0.blk 0 rfl
  have c0 : w.cell? ⟨b, o, none⟩ = some (.int .u64 n) := (blk_cell hb o).trans h0
  have c1 : w.cell? ⟨b, o + 1, none⟩ = some (.int .i64 l) := (blk_cell hb (o + 1)).trans h1
  have f1 := blk_free hb (o + 1)
  have T1 := Lib.hid T0
  have H := Lib.hid (And.intro h0 (And.intro h1 (And.intro h2 h3)))
  clear T0 hb hw h0 h1 h2 h3
  go_enter Tryz.func105, Tryz.ntmps105
  go_wp2
  go_ret
  obtain ⟨h0, h1, h2, h3⟩ := H.out
  exact ⟨_, ⟨rfl, _, rfl, recell_loads h0 h1 h2 h3⟩, T1.out.set (o + 1) _⟩
end Go.Proofs.YtblhfbcodbjgcaaGreat

namespace Go.Proofs.YtblhfbcodbjgcaaGreat
set_option linter.unusedVariables false
set_option linter.unusedSimpArgs false
open Go.RowKit Go.Shelf
def emptyPipe (pb : Nat) (g : List Blk) : Prop := ∃ cb lb hb n : Nat, g = [cl pb 172 #[.chan (some cb), ptr' lb, .int .i64 0, .bool false], (cb, .chan n #[] false 0 0 false)] ++ noList lb hb
def emptyPipeN (n pb : Nat) (g : List Blk) : Prop := ∃ cb lb hb : Nat, g = [cl pb 172 #[.chan (some cb), ptr' lb, .int .i64 0, .bool false], (cb, .chan n #[] false 0 0 false)] ++ noList lb hb
theorem emptyPipeN.is {n pb : Nat} {g : List Blk} (h : emptyPipeN n pb g) : emptyPipe pb g := by obtain ⟨cb, lb, hb, e⟩ := h; exact ⟨cb, lb, hb, n, e⟩
theorem fire_info : (Tryz.prog.info? 69).map (fun i => (i.zero, i.size, i.bytes)) = some (some (.agg #[.int .u64 0, .int .u64 0, .int .u64 0, .int .u64 0]), 4, 32) := by kernel_rfl
theorem run_makeChan_n (n : Nat) (hn : n ≤ 16) (w : World) : (Instr.makeChan 169 (.int .i64 (n : Int))).run Tryz.prog w = .ok (.chan (some w.heap.size)) (w.alloc (.chan n #[] false 0 0 false)) := by
  obtain ⟨i, hi, _, _, hb⟩ := info_parts fire_info
  have hw : IntKind.i64.wrap (n : Int) = n := by rw [IntKind.wrap_i64]; omega
  have h1 : ¬ ((n : Int) < 0) := by omega
  have h2 : ¬ (9223372036854775807 < (n : Int)) := by omega
  have h3 : ¬ (281474976710544 < 32 * (n : Int)) := by omega
  simp [Instr.makeChan, asInt, asIntOf, run_underlying Tryz.underlying169, typeInfo, hi, hb, hw, h1, h2, h3, newObj, IntKind.max, IntKind.bits, IntKind.signed]
  rfl
set_option maxRecDepth 100000 in
set_option maxHeartbeats 4000000 in
theorem pipeNew_g (n : Nat) (h1 : 1 ≤ n) (h2 : n ≤ 16) : DoesG Tryz.prog 82 #[.int .i64 n] [] fun e gs => ∃ b g, e = .returned (.tuple #[ptr' b, .int .i64 0]) ∧ emptyPipeN n b g ∧ gs = [g] := by
  intro w hw
  have T0 := TG.refl hw
  have HT := Lib.hid T0
  clear hw T0
  have hmk := run_makeChan_n n h2
  have hd1 : decide ((n : Int) < 1) = false := by simp; omega
  have hd2 : decide (16 < (n : Int)) = false := by simp; omega
  go_enter Tryz.func82, Tryz.ntmps82
  go_wp2
  go_region_with (
    go_at_call 128
    first
    | (refine (DoesG.use fireListNew_g (HT.out.drew.put rfl (.chan n #[] false 0 0 false)) [] rfl rfl).mono ?_
       rintro e w1 ⟨gs, ⟨lb, hb, rfl, rfl⟩, Ta⟩
       have HT1 := Lib.hid Ta
       clear Ta)
    | (refine (DoesG.use fireListNew_g HT.out.drew [] rfl rfl).mono ?_
       rintro e w1 ⟨gs, ⟨lb, hb, rfl, rfl⟩, Ta⟩
       have HT1 := Lib.hid Ta
       clear Ta))
  · go_wp2
    go_ret2
    refine ⟨_, ⟨_, _, rfl, ⟨w.heap.size, lb, hb, rfl⟩, rfl⟩, (HT1.out.alloc (k := w1.heap.size) rfl 172 #[.chan (some w.heap.size), ptr' lb, .int .i64 0, .bool false]).re ?_⟩
    simp only [putG, List.nil_append, List.append_nil, List.cons_append, List.flatten_cons, List.flatten_nil, noList]
    exact (List.perm_append_comm (l₁ := [_, _, _]) (l₂ := [_]))
  · go_wp2
    go_ret2
    refine ⟨_, ⟨_, _, rfl, ⟨w1.heap.size, lb, hb, rfl⟩, rfl⟩, ((HT1.out.put (k := w1.heap.size) rfl (.chan n #[] false 0 0 false)).alloc (k := w1.heap.size + 1) (by simp) 172 #[.chan (some w1.heap.size), ptr' lb, .int .i64 0, .bool false]).re ?_⟩
    simp only [putG, List.nil_append, List.append_nil, List.cons_append, List.flatten_cons, List.flatten_nil, noList]
    exact (List.perm_append_comm (l₁ := [_, _]) (l₂ := [_, _])).trans (List.Perm.swap _ _ _)
end Go.Proofs.YtblhfbcodbjgcaaGreat
