import Derived.Test.YtnemggminanbbaaSlabC
namespace Go.Proofs.Ytnemggminanbbaa
set_option linter.unusedVariables false
set_option linter.unusedSimpArgs false
open Go.RowKit

set_option maxHeartbeats 1000000 in
theorem seek_does (qb sb rb : Nat) (s : SlabS) (q : Req) (k : Nat) (r : Rec) (hk : q.slot = k) (hr : s.recs[k]? = some r) (ho : RecOk r) (hn : s.recs.length ≤ 64) :
    Does Try.prog 56 #[.pointer (some ⟨qb, 0, none⟩)] (reqH qb sb q :: slabH sb rb s) fun e h' => e = .returned (.tuple #[]) ∧ h' = reqH qb sb (seekR s q).2 :: slabH sb rb (seekR s q).1 := by
  intro w hw
  obtain ⟨o, ⟨C, rfl, hs, h0, hc⟩, T0⟩ := (Turned.refl hw).openAt 1 rfl
  obtain ⟨o, ⟨D, rfl, hd, hD⟩, T0⟩ := T0.openAt 2 rfl
  have q0 := T0.cell 0 (show _ = some (pt qb _ _) from rfl)
  have s0 : w.cell? ⟨sb, 0, none⟩ = _ := (T0.cell 1 (show _ = some (pt sb _ _) from rfl) 0).trans h0
  have hqs : qb ≠ sb := T0.ne 0 1 rfl rfl (by decide)
  have hqr : qb ≠ rb := T0.ne 0 2 rfl rfl (by decide)
  have hkl := (List.getElem?_eq_some_iff.1 hr).1
  simp only [reqC] at q0
  have HT := Lib.hid T0
  have HC := Lib.hid (And.intro hs (And.intro h0 hc))
  have HD := Lib.hid (And.intro hd hD)
  have HR := Lib.hid hr
  have HO := Lib.hid ho
  have hlq := T0.lt 0 (show _ = some (pt qb _ _) from rfl)
  have hls := T0.lt 1 (show _ = some (pt sb _ _) from rfl)
  simp only [] at hlq hls
  clear hw hs h0 hc T0 hd hD hr ho
  obtain ⟨v, hv⟩ : ∃ v, nextW r.w 1 (decide (0 < q.p)) = v := ⟨_, rfl⟩
  obtain ⟨n1, e1⟩ := v
  have HV := Lib.hid hv; clear hv
  rw [hk] at q0
  have hperm : ∀ (b x : Piece) (D' : Array Value), [b, x, (sb, fun o => o = Obj.cells C 139 (0, 0)), pt rb 165 D'].Perm ((pt rb 165 D' :: [b, x]) ++ [(sb, fun o => o = Obj.cells C 139 (0, 0))]) :=
    fun b x D' => (pull 3 rfl rfl)
  obtain ⟨hg0, hg1⟩ : 0 ≤ r.g ∧ r.g ≤ 4294967295 := ⟨HO.out.g0, Int.le_trans HO.out.g1 (ok_bd _ HO.out.w0 HO.out.ok).2.2.2⟩
  by_cases he : e1 = 0
  · subst he
    have HK := Lib.hid (show seekR s q = ({ s with recs := s.recs.set k ⟨n1, r.g + 1, q.p⟩ }, { q with id := (r.g + 1) * 64 + q.slot, st := 2 }) from by
      unfold seekR; simp only [hk, Int.toNat_natCast, List.getD_eq_getElem?_getD, HR.out, Option.getD_some, HV.out]; rfl)
    go_enter Try.func56, Try.ntmps56
    go_wp2
    go_region
    go_wp2_with (
      go_at_call 80
      refine ((turnW_does rb (k * 6) 165 D r.w n1 true 81 #[.pointer (some ⟨w.heap.size, 0, none⟩)] [pt w.heap.size 58 #[.pointer (some ⟨qb, 0, none⟩)], reqH qb sb q]
        (HD.out.2 k r HR.out).1 (enters_of Try.func81 (by kernel_rfl) rfl)
        ((seek1_does w.heap.size qb sb q r.w HO.out.w0 HO.out.w1).mono (fun e h' hh => by rw [HV.out] at hh; exact hh))).use (HT.out.alloc rfl _ _).drew (hperm _ _ _)).mono ?_
      rintro e w1 ⟨h', ⟨rfl, D1, rfl, hr1⟩, T1⟩
      have q1 := T1.cell 2 (show _ = some (pt qb _ _) from rfl)
      have x1 := T1.cell 1 (show _ = some (pt w.heap.size _ _) from rfl)
      have s1 : w1.cell? ⟨sb, 0, none⟩ = _ := (T1.cell 3 (show _ = some (pt sb _ _) from rfl) 0).trans HC.out.2.1
      have g1 := (T1.cell 0 (show _ = some (pt rb _ _) from rfl) (k * 6 + 4)).trans ((hr1.other (k * 6 + 4) (by omega)).trans (HD.out.2 k r HR.out).2.1)
      have p1 := (T1.cell 0 (show _ = some (pt rb _ _) from rfl) (k * 6 + 5)).trans ((hr1.other (k * 6 + 5) (by omega)).trans (HD.out.2 k r HR.out).2.2)
      have f1 := T1.free 0 (show _ = some (pt rb _ _) from rfl)
      have f2 := T1.free 2 (show _ = some (pt qb _ _) from rfl)
      simp only [reqC, hk] at q1
      have HR1 := Lib.hid hr1
      have HT1 := Lib.hid T1
      clear hr1 T1)
    go_region
    go_wp2
    refine bodyPost_end (results_none rfl _ _ _) rfl ⟨_, ⟨rfl, ?_⟩, Turned.drop1 (((((((HT1.out.setAt 0 rfl (k * 6 + 4) _).setAt 0 rfl (k * 6 + 5) _).setAt 2 rfl 5 _).setAt 2 rfl 6 _).drew.sayAt 0 rfl
      (recsP (s.recs.set k ⟨n1, r.g + 1, q.p⟩)) ?_).sayAt 3 rfl (slabP rb (s.recs.set k ⟨n1, r.g + 1, q.p⟩).length s.count) ?_).perm (List.perm_append_comm (l₁ := [_]) (l₂ := [_, _, _])))⟩
    · rw [HK.out, ← hk]; rfl
    · intro o ho; cases ho
      exact ⟨_, rfl, recs_given HD.out.1 HD.out.2 HR.out HR1.out⟩
    · intro o ho; cases ho; rw [List.length_set]; exact ⟨C, rfl, HC.out⟩
  · have HK := Lib.hid (show seekR s q = (s, { q with slot := (q.slot + 1) % s.recs.length }) from by
      unfold seekR; simp only [hk, Int.toNat_natCast, List.getD_eq_getElem?_getD, HR.out, Option.getD_some, HV.out]; exact if_neg he)
    go_enter Try.func56, Try.ntmps56
    go_wp2
    go_region
    go_wp2_with (
      go_at_call 80
      refine ((turnW_does rb (k * 6) 165 D r.w n1 false 81 #[.pointer (some ⟨w.heap.size, 0, none⟩)] [pt w.heap.size 58 #[.pointer (some ⟨qb, 0, none⟩)], reqH qb sb q]
        (HD.out.2 k r HR.out).1 (enters_of Try.func81 (by kernel_rfl) rfl)
        ((seek1_does w.heap.size qb sb q r.w HO.out.w0 HO.out.w1).mono (fun e h' hh => by rw [HV.out, show ((e1 == 0) = false) from by simpa using he] at hh; exact hh))).use (HT.out.alloc rfl _ _).drew (hperm _ _ _)).mono ?_
      rintro e w1 ⟨h', ⟨rfl, D1, rfl, hr1⟩, T1⟩
      have q1 := T1.cell 2 (show _ = some (pt qb _ _) from rfl)
      have x1 := T1.cell 1 (show _ = some (pt w.heap.size _ _) from rfl)
      have s1 : w1.cell? ⟨sb, 0, none⟩ = _ := (T1.cell 3 (show _ = some (pt sb _ _) from rfl) 0).trans HC.out.2.1
      have g1 := (T1.cell 0 (show _ = some (pt rb _ _) from rfl) (k * 6 + 4)).trans ((hr1.other (k * 6 + 4) (by omega)).trans (HD.out.2 k r HR.out).2.1)
      have p1 := (T1.cell 0 (show _ = some (pt rb _ _) from rfl) (k * 6 + 5)).trans ((hr1.other (k * 6 + 5) (by omega)).trans (HD.out.2 k r HR.out).2.2)
      have f1 := T1.free 0 (show _ = some (pt rb _ _) from rfl)
      have f2 := T1.free 2 (show _ = some (pt qb _ _) from rfl)
      simp only [reqC, hk] at q1
      have HR1 := Lib.hid hr1
      have HT1 := Lib.hid T1
      clear hr1 T1)
    go_region
    go_wp2
    refine bodyPost_ret (results_none rfl _ _ _) rfl ⟨_, ⟨rfl, ?_⟩, Turned.drop1 (((((HT1.out.setAt 2 rfl 4 _).drew.sayAt 0 rfl
      (recsP s.recs) ?_).sayAt 3 rfl (slabP rb s.recs.length s.count) ?_).perm (List.perm_append_comm (l₁ := [_]) (l₂ := [_, _, _]))))⟩
    · rw [HK.out, hk]; rfl
    · intro o ho; cases ho
      exact ⟨_, rfl, recs_same HD.out.1 HD.out.2 HR.out HR1.out⟩
    · intro o ho; cases ho; exact ⟨C, rfl, HC.out⟩
end Go.Proofs.Ytnemggminanbbaa
