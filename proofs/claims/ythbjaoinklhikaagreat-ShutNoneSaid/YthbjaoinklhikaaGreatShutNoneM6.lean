import Derived.Test.YthbjaoinklhikaaGreatShutNoneM5
import Derived.Test.YthbjaoinklhikaaGreatShutNoneM2
import Derived.Test.YthbjaoinklhikaaGreatShutNoneM3
import Derived.Test.YthbjaoinklhikaaGreatShutNoneM4
namespace Go.Proofs.YthbjaoinklhikaaGreat
set_option linter.unusedVariables false
set_option linter.unusedSimpArgs false
open Go.RowKit

theorem SlabS.known_at {s : SlabS} {id : Int} (h0 : 0 ≤ id) (h : s.known id) : ∃ (j : Nat) (r : Rec), id % 64 = j ∧ s.recs[j]? = some r ∧ 1 ≤ id / 64 ∧ id / 64 ≤ r.g ∧ s.has j ∧ s.recs.getD (id % 64).toNat Rec.zero = r := by
  have h1 : 0 ≤ id % 64 := by omega
  have hh : s.has (id % 64) := ⟨h1, h.1⟩
  obtain ⟨j, hj⟩ := SlabS.has_nat hh
  rw [hj] at hh
  obtain ⟨r, hr, hg⟩ := SlabS.has_at hh
  rw [← hj] at hg
  have h3 := h.2.2
  rw [hg] at h3
  exact ⟨j, r, hj, hr, h.2.1, h3, hh, hg⟩

theorem slabSlot_does (sb rb : Nat) (s : SlabS) (id : Int) (hn : s.recs.length ≤ 64) (h0 : 0 ≤ id) (h1 : id < 18446744073709551616) :
    Does Tryz.prog 165 #[.pointer (some ⟨sb, 0, none⟩), .int .u64 id] (slabH sb rb s) fun e h' =>
      e = .returned (.tuple #[.int .i64 (s.slot id), .int .i64 (s.serr id)]) ∧ h' = slabH sb rb s := by
  intro w hw
  have HT := Lib.hid (Turned.refl hw)
  clear hw
  have hm0 : 0 ≤ id % 64 := by omega
  obtain ⟨j, hj⟩ := Int.eq_ofNat_of_zero_le hm0
  by_cases hh : s.has (j : Int)
  · obtain ⟨r, hr, hg⟩ := SlabS.has_at hh
    have HV := Lib.hid (atV_has rb hh)
    have HR := Lib.hid hr
    have hkn : s.known id ↔ 1 ≤ id / 64 ∧ id / 64 ≤ r.g := by
      unfold SlabS.known; rw [hj, hg]; exact ⟨fun x => x.2, fun x => ⟨hh.2, x⟩⟩
    by_cases hk : 1 ≤ id / 64 ∧ id / 64 ≤ r.g
    · have HP := Lib.hid (show s.slot id = j ∧ s.serr id = 0 from ⟨(if_pos (hkn.2 hk)).trans hj, if_pos (hkn.2 hk)⟩)
      obtain ⟨k1, k2⟩ := hk
      clear hh hr hg hkn
      go_enter Tryz.func165, Tryz.ntmps165
      go_wp2_with (
        go_at_call 76
        refine ((slabAt_does sb rb s.recs.length s.count _ hn).at HT.out 0 rfl).mono ?_
        rintro e w1 ⟨h', ⟨he, rfl⟩, Ta⟩
        rw [HV.out] at he
        subst he
        obtain ⟨o, ⟨D, rfl, hd, hD⟩, T1⟩ := (Ta _ rfl).openAt 1 rfl
        have d1 : w1.cell? ⟨rb, j * 6 + 4, none⟩ = _ := (T1.cell 1 (show _ = some (pt rb _ _) from rfl) _).trans (hD j r HR.out).2.1
        have HT1 := Lib.hid (T1.sayAt 1 rfl (recsP s.recs) (fun o ho => by cases ho; exact ⟨D, rfl, hd, hD⟩))
        clear T1 hd hD Ta)
      all_goals go_ret2
      all_goals exact ⟨_, ⟨by rw [HP.out.1, HP.out.2, ← hj]; rfl, rfl⟩, HT1.out⟩
    · have HP := Lib.hid (show s.slot id = 0 ∧ s.serr id = 1 from ⟨if_neg (fun x => hk (hkn.1 x)), if_neg (fun x => hk (hkn.1 x))⟩)
      clear hh hr hg hkn
      by_cases k1 : 1 ≤ id / 64
      · have k2 : ¬ id / 64 ≤ r.g := fun x => hk ⟨k1, x⟩
        clear hk
        go_enter Tryz.func165, Tryz.ntmps165
        go_wp2_with (
          go_at_call 76
          refine ((slabAt_does sb rb s.recs.length s.count _ hn).at HT.out 0 rfl).mono ?_
          rintro e w1 ⟨h', ⟨he, rfl⟩, Ta⟩
          rw [HV.out] at he
          subst he
          obtain ⟨o, ⟨D, rfl, hd, hD⟩, T1⟩ := (Ta _ rfl).openAt 1 rfl
          have d1 : w1.cell? ⟨rb, j * 6 + 4, none⟩ = _ := (T1.cell 1 (show _ = some (pt rb _ _) from rfl) _).trans (hD j r HR.out).2.1
          have HT1 := Lib.hid (T1.sayAt 1 rfl (recsP s.recs) (fun o ho => by cases ho; exact ⟨D, rfl, hd, hD⟩))
          clear T1 hd hD Ta)
        all_goals go_ret2
        all_goals exact ⟨_, ⟨by rw [HP.out.1, HP.out.2]; rfl, rfl⟩, HT1.out⟩
      · clear hk
        go_enter Tryz.func165, Tryz.ntmps165
        go_wp2_with (
          go_at_call 76
          refine ((slabAt_does sb rb s.recs.length s.count _ hn).at HT.out 0 rfl).mono ?_
          rintro e w1 ⟨h', ⟨he, rfl⟩, Ta⟩
          rw [HV.out] at he
          subst he
          obtain ⟨o, ⟨D, rfl, hd, hD⟩, T1⟩ := (Ta _ rfl).openAt 1 rfl
          have d1 : w1.cell? ⟨rb, j * 6 + 4, none⟩ = _ := (T1.cell 1 (show _ = some (pt rb _ _) from rfl) _).trans (hD j r HR.out).2.1
          have HT1 := Lib.hid (T1.sayAt 1 rfl (recsP s.recs) (fun o ho => by cases ho; exact ⟨D, rfl, hd, hD⟩))
          clear T1 hd hD Ta)
        all_goals go_ret2
        all_goals exact ⟨_, ⟨by rw [HP.out.1, HP.out.2]; rfl, rfl⟩, HT1.out⟩
  · have HV := Lib.hid (atV_not rb hh)
    have HP := Lib.hid (show s.slot id = 0 ∧ s.serr id = 1 from ⟨if_neg (fun x => hh (by rw [← hj]; exact ⟨hm0, x.1⟩)), if_neg (fun x => hh (by rw [← hj]; exact ⟨hm0, x.1⟩))⟩)
    clear hh
    go_enter Tryz.func165, Tryz.ntmps165
    go_wp2_with (
      go_at_call 76
      refine ((slabAt_does sb rb s.recs.length s.count _ hn).at HT.out 0 rfl).mono ?_
      rintro e w1 ⟨h', ⟨he, rfl⟩, Ta⟩
      rw [HV.out] at he
      subst he
      have HT1 := Lib.hid (Ta _ rfl)
      clear Ta)
    all_goals go_ret2
    all_goals exact ⟨_, ⟨by rw [HP.out.1, HP.out.2]; rfl, rfl⟩, HT1.out⟩

theorem slabMine_does (sb rb : Nat) (s : SlabS) (id : Int) (hn : s.recs.length ≤ 64) (h0 : 0 ≤ id) (h1 : id < 18446744073709551616) :
    Does Tryz.prog 166 #[.pointer (some ⟨sb, 0, none⟩), .int .u64 id] (slabH sb rb s) fun e h' =>
      e = .returned (.bool (s.mine id)) ∧ h' = slabH sb rb s := by
  intro w hw
  have HT := Lib.hid (Turned.refl hw)
  clear hw
  by_cases hk : s.known id
  · obtain ⟨j, r, hj, hr, k1, k2, hh, hg⟩ := SlabS.known_at h0 hk
    have HP := Lib.hid (show s.slot id = j ∧ s.serr id = 0 ∧ s.mine id = decide (r.g = id / 64) from ⟨(if_pos hk).trans hj, if_pos hk, by unfold SlabS.mine; rw [hg, decide_eq_true hk]; rfl⟩)
    have HR := Lib.hid hr
    have hjl : j < s.recs.length := by have := hh.2; omega
    clear hk hj hr hh hg
    go_enter Tryz.func166, Tryz.ntmps166
    go_wp2_with (
      go_at_call 165
      refine ((slabSlot_does sb rb s id hn h0 h1).use HT.out (List.Perm.refl _)).mono ?_
      rw [HP.out.1, HP.out.2.1]
      rintro e w1 ⟨h', ⟨rfl, rfl⟩, Ta⟩
      obtain ⟨o, ⟨C, rfl, hs, hc0, hc⟩, T1⟩ := Ta.openAt 0 rfl
      have s1 : w1.cell? ⟨sb, 0, none⟩ = _ := (T1.cell 0 (show _ = some (pt sb _ _) from rfl) 0).trans hc0
      have T1 := T1.sayAt 0 rfl (slabP rb s.recs.length s.count) (fun o ho => by cases ho; exact ⟨C, rfl, hs, hc0, hc⟩)
      obtain ⟨o, ⟨D, rfl, hd, hD⟩, T1⟩ := T1.openAt 1 rfl
      have d1 : w1.cell? ⟨rb, j * 6 + 4, none⟩ = _ := (T1.cell 1 (show _ = some (pt rb _ _) from rfl) _).trans (hD j r HR.out).2.1
      have HT1 := Lib.hid (T1.sayAt 1 rfl (recsP s.recs) (fun o ho => by cases ho; exact ⟨D, rfl, hd, hD⟩))
      clear T1 hd hD Ta hs hc0 hc)
    go_ret
    exact ⟨_, ⟨by rw [HP.out.2.2]; rfl, rfl⟩, HT1.out⟩
  · have HP := Lib.hid (show s.slot id = 0 ∧ s.serr id = 1 ∧ s.mine id = false from ⟨if_neg hk, if_neg hk, by unfold SlabS.mine; rw [decide_eq_false hk]; rfl⟩)
    clear hk
    go_enter Tryz.func166, Tryz.ntmps166
    go_wp2_with (
      go_at_call 165
      refine ((slabSlot_does sb rb s id hn h0 h1).use HT.out (List.Perm.refl _)).mono ?_
      rw [HP.out.1, HP.out.2.1]
      rintro e w1 ⟨h', ⟨rfl, rfl⟩, Ta⟩
      have HT1 := Lib.hid Ta
      clear Ta)
    go_ret
    exact ⟨_, ⟨by rw [HP.out.2.2]; rfl, rfl⟩, HT1.out⟩

theorem slabDrop1_does (n : Int) (h0 : 0 ≤ n) (h1 : n ≤ 64) :
    Does Tryz.prog 208 #[.int .i64 n] [] fun e h' => e = .returned (.tuple #[.int .i64 (n - 1), .bool (decide (0 < n))]) ∧ h' = [] := by
  intro w hw
  have HT := Lib.hid (Turned.refl hw)
  clear hw
  go_enter Tryz.func208, Tryz.ntmps208
  go_wp2
  all_goals go_ret2
  all_goals exact ⟨_, ⟨rfl, rfl⟩, HT.out⟩

theorem slabDrop_does (sb rb : Nat) (s : SlabS) (h0 : 0 ≤ s.count) (h1 : s.count ≤ 64) :
    Does Tryz.prog 192 #[.pointer (some ⟨sb, 0, none⟩)] (slabH sb rb s) fun e h' => e = .returned (.int .i64 s.drop.2) ∧ h' = slabH sb rb s.drop.1 := by
  intro w hw
  obtain ⟨o, ⟨C, rfl, hs, hc0, hc⟩, T0⟩ := (Turned.refl hw).openAt 0 rfl
  have HT := Lib.hid T0
  have HC := Lib.hid (And.intro hs (And.intro hc0 hc))
  have HD := Lib.hid (slabDrop1_does s.count h0 h1)
  clear hw hs hc0 hc T0
  by_cases hk : 0 < s.count
  all_goals
    go_enter Tryz.func192, Tryz.ntmps192
    go_wp2_with (
      go_at_call 122
      refine ((turnI_does sb 1 138 C s.count (s.count - 1) (decide (0 < s.count)) 208 #[] [] HC.out.2.2 (enters_of Tryz.func208 (by kernel_rfl) rfl) HD.out).at HT.out 0 rfl).mono ?_
      rintro e w1 ⟨h', ⟨rfl, C1, rfl, hr1⟩, Ta⟩
      simp only [hk] at hr1 ⊢
      have HR1 := Lib.hid hr1
      have HT1 := Lib.hid (Ta _ rfl)
      clear Ta hr1)
    all_goals go_ret
  · have HP := show s.drop = _ from if_pos hk
    exact ⟨_, ⟨by rw [HP]; rfl, by rw [HP]; rfl⟩, HT1.out.sayAt 0 rfl (slabP rb s.recs.length (s.count - 1)) (fun o ho => by cases ho; exact slabP_recell HC.out.1 HC.out.2.1 (by simpa using HR1.out))⟩
  · have HP := show s.drop = _ from if_neg (by omega)
    exact ⟨_, ⟨by rw [HP]; rfl, by rw [HP]; rfl⟩, HT1.out.sayAt 0 rfl (slabP rb s.recs.length s.count) (fun o ho => by cases ho; exact slabP_recell HC.out.1 HC.out.2.1 (by simpa using HR1.out))⟩

theorem swapW_at {s : SlabS} {C C' : Array Value} {j : Nat} {r : Rec} {old n : Int} (hs : C.size = s.recs.length * 6) (h : ∀ i r, s.recs[i]? = some r → recAt C i r) (hr : s.recs[j]? = some r)
    (hc : Recell C (j * 6) (.int .u64 (if r.w = old then n else r.w)) C') : recsP (if r.w = old then s.recs.set j { r with w := n } else s.recs) (.cells C' 134 (0, 0)) := by
  by_cases e : r.w = old
  · rw [if_pos e] at hc ⊢; exact ⟨C', rfl, recs_recell hs h hr hc⟩
  · rw [if_neg e] at hc ⊢; exact ⟨C', rfl, recs_same hs h hr hc⟩

theorem slabTry_does (sb rb : Nat) (s : SlabS) (k old ev : Int) (hn : s.recs.length ≤ 64) (h0 : 0 ≤ old) (h1 : old < 18446744073709551616) :
    Does Tryz.prog 170 #[.pointer (some ⟨sb, 0, none⟩), .int .i64 k, .int .u64 old, .int .i64 ev] (slabH sb rb s) fun e h' =>
      e = .returned (.tuple #[.int .u64 (s.try k old ev).2.1, .int .i64 (s.try k old ev).2.2]) ∧ h' = slabH sb rb (s.try k old ev).1 := by
  intro w hw
  have HT := Lib.hid (Turned.refl hw)
  clear hw
  by_cases hh : s.has k
  · obtain ⟨j, rfl⟩ := SlabS.has_nat hh
    obtain ⟨r, hr, hg⟩ := SlabS.has_at hh
    have HV := Lib.hid (atV_has rb hh)
    have HR := Lib.hid hr
    have HW := Lib.hid (show s.word j = r.w ∧ s.werr j = 0 from ⟨by unfold SlabS.word; rw [if_pos hh, hg], if_pos hh⟩)
    obtain ⟨t, ht⟩ : ∃ t, nextW old ev (decide (0 < r.p)) = t := ⟨_, rfl⟩
    obtain ⟨n1, e1⟩ := t
    have HN := Lib.hid ht
    have HP := Lib.hid (show s.try j old ev = if e1 ≠ 0 then (s, r.w, e1) else if r.w = old then ({ s with recs := s.recs.set j { r with w := n1 } }, n1, 0) else (s, r.w, 10) from by
      unfold SlabS.try; rw [if_pos hh]; dsimp only; rw [hg, ht]; rfl)
    clear hh hr hg ht
    by_cases he : e1 = 0
    · subst he
      by_cases ho : r.w = old
      all_goals
        go_enter Tryz.func170, Tryz.ntmps170
        go_wp2_with (first
          | (go_at_call 27
             refine ((slabWord_does sb rb s j hn).use HT.out (List.Perm.refl _)).mono ?_
             rw [HW.out.1, HW.out.2]
             rintro e w1 ⟨h', ⟨rfl, rfl⟩, Ta⟩
             have HT1 := Lib.hid Ta
             clear Ta)
          | (go_at_call 76
             refine ((slabAt_does sb rb s.recs.length s.count j hn).at HT1.out 0 rfl).mono ?_
             rintro e w2 ⟨h', ⟨he, rfl⟩, Ta⟩
             rw [HV.out] at he
             subst he
             obtain ⟨o, ⟨D, rfl, hd, hD⟩, T1⟩ := (Ta _ rfl).openAt 1 rfl
             have d1 : w2.cell? ⟨rb, j * 6 + 5, none⟩ = _ := (T1.cell 1 (show _ = some (pt rb _ _) from rfl) _).trans (hD j r HR.out).2.2
             have HD := Lib.hid (And.intro hd hD)
             have HT2 := Lib.hid T1
             clear T1 hd hD Ta)
          | (go_at_call 167; refine (next_calls _ _ _ _ h0 h1).mono ?_; rw [HN.out]; rintro e w3 ⟨rfl, rfl⟩)
          | (go_at_call 198
             refine ((swapW_does rb (j * 6) _ D r.w old n1 (HD.out.2 j r HR.out).1).at HT2.out 1 rfl).mono ?_
             rintro e w4 ⟨h', ⟨rfl, C1, rfl, hr1⟩, Ta⟩
             have HR1 := Lib.hid (swapW_at HD.out.1 HD.out.2 HR.out hr1)
             have HT3 := Lib.hid (Ta _ rfl)
             clear Ta hr1))
        go_ret2
      · rw [if_pos ho] at HR1
        exact ⟨_, ⟨by rw [HP.out, if_neg (by simp), if_pos ho]; rfl, by rw [HP.out, if_neg (by simp), if_pos ho]; rfl⟩, (HT3.out.sayAt 1 rfl (recsP (s.recs.set j { r with w := n1 })) (fun o hx => by cases hx; exact HR1.out)).sayAt 0 rfl
          (slabP rb (s.recs.set j { r with w := n1 }).length s.count) (fun o hx => by rw [List.length_set]; exact hx)⟩
      · rw [if_neg ho] at HR1
        exact ⟨_, ⟨by rw [HP.out, if_neg (by simp), if_neg ho]; rfl, by rw [HP.out, if_neg (by simp), if_neg ho]; rfl⟩, HT3.out.sayAt 1 rfl (recsP s.recs) (fun o hx => by cases hx; exact HR1.out)⟩
    · skip
      go_enter Tryz.func170, Tryz.ntmps170
      go_wp2_with (first
        | (go_at_call 27
           refine ((slabWord_does sb rb s j hn).use HT.out (List.Perm.refl _)).mono ?_
           rw [HW.out.1, HW.out.2]
           rintro e w1 ⟨h', ⟨rfl, rfl⟩, Ta⟩
           have HT1 := Lib.hid Ta
           clear Ta)
        | (go_at_call 76
           refine ((slabAt_does sb rb s.recs.length s.count j hn).at HT1.out 0 rfl).mono ?_
           rintro e w2 ⟨h', ⟨he, rfl⟩, Ta⟩
           rw [HV.out] at he
           subst he
           obtain ⟨o, ⟨D, rfl, hd, hD⟩, T1⟩ := (Ta _ rfl).openAt 1 rfl
           have d1 : w2.cell? ⟨rb, j * 6 + 5, none⟩ = _ := (T1.cell 1 (show _ = some (pt rb _ _) from rfl) _).trans (hD j r HR.out).2.2
           have HD := Lib.hid (And.intro hd hD)
           have HT2 := Lib.hid T1
           clear T1 hd hD Ta)
        | (go_at_call 167; refine (next_calls _ _ _ _ h0 h1).mono ?_; rw [HN.out]; rintro e w3 ⟨rfl, rfl⟩)
        | (go_at_call 198
           refine ((swapW_does rb (j * 6) _ D r.w old n1 (HD.out.2 j r HR.out).1).at HT2.out 1 rfl).mono ?_
           rintro e w4 ⟨h', ⟨rfl, C1, rfl, hr1⟩, Ta⟩
           have HR1 := Lib.hid (swapW_at HD.out.1 HD.out.2 HR.out hr1)
           have HT3 := Lib.hid (Ta _ rfl)
           clear Ta hr1))
      go_ret2
      exact ⟨_, ⟨by rw [HP.out, if_pos he]; rfl, by rw [HP.out, if_pos he]; rfl⟩, HT2.out.sayAt 1 rfl (recsP s.recs) (fun o hx => by cases hx; exact ⟨D, rfl, HD.out⟩)⟩
  · have HW := Lib.hid (show s.word k = 0 ∧ s.werr k = 4 from ⟨if_neg hh, if_neg hh⟩)
    have HP := Lib.hid (show s.try k old ev = (s, 0, 4) from if_neg hh)
    clear hh
    go_enter Tryz.func170, Tryz.ntmps170
    go_wp2_with (
      go_at_call 27
      refine ((slabWord_does sb rb s k hn).use HT.out (List.Perm.refl _)).mono ?_
      rw [HW.out.1, HW.out.2]
      rintro e w1 ⟨h', ⟨rfl, rfl⟩, Ta⟩
      have HT1 := Lib.hid Ta
      clear Ta)
    go_ret2
    exact ⟨_, ⟨by rw [HP.out]; rfl, by rw [HP.out]; rfl⟩, HT1.out⟩
end Go.Proofs.YthbjaoinklhikaaGreat

namespace Go.Proofs.YthbjaoinklhikaaGreat
set_option linter.unusedVariables false
set_option linter.unusedSimpArgs false
open Go.RowKit

theorem reqStep_does (qb sb rb : Nat) (s : SlabS) (q : Req) (hs : SlabOk s) (hq : ReqOk s.recs.length q) :
    Does Tryz.prog 131 #[.pointer (some ⟨qb, 0, none⟩)] (reqH qb sb q :: slabH sb rb s) fun e h' => e = .returned (.int .i64 (stepR s q).2.st) ∧ h' = reqH qb sb (stepR s q).2 :: slabH sb rb (stepR s q).1 := by
  intro w hw
  have T0 := Turned.refl hw
  have q0 := T0.cell 0 (show _ = some (pt qb _ _) from rfl)
  simp only [reqC] at q0
  have hlq := T0.lt 0 (show _ = some (pt qb _ _) from rfl)
  simp only [] at hlq
  have HT := Lib.hid T0
  clear hw T0
  have hn1 := hs.n1
  by_cases hst : q.st = 0
  · rcases hq.next with hn | ⟨hn, b0, b1⟩ | hn
    · have HK := Lib.hid (show stepR s q = (s, lookR s q) from by unfold stepR; rw [if_neg (by simp [hst]), if_pos hn])
      rw [hn, hst] at q0
      go_enter Tryz.func131, Tryz.ntmps131
      go_wp2_with (
        go_at_call 156
        refine ((look_does qb sb rb s q).use (HT.out.alloc0 _) (List.Perm.refl _)).mono ?_
        rintro e w1 ⟨h', ⟨rfl, rfl⟩, Ta⟩
        have q1 := Ta.cell 0 (show _ = some (pt qb _ _) from rfl) 6
        simp [reqC] at q1
        have HT1 := Lib.hid Ta
        clear Ta)
      go_ret
      exact ⟨_, ⟨by rw [HK.out]; rfl, by rw [HK.out]; rfl⟩, HT1.out⟩
    · have b2 : q.saw < 64 := by omega
      have HK := Lib.hid (show stepR s q = moreR s q from by unfold stepR; rw [if_neg (by simp [hst]), if_neg (by omega), if_pos hn])
      rw [hn, hst] at q0
      go_enter Tryz.func131, Tryz.ntmps131
      go_wp2_with (
        go_at_call 157
        refine ((more_does qb sb rb s q b0 b2).use (HT.out.alloc0 _) (List.Perm.refl _)).mono ?_
        rintro e w1 ⟨h', ⟨rfl, rfl⟩, Ta⟩
        have q1 := Ta.cell 0 (show _ = some (pt qb _ _) from rfl) 6
        simp [reqC] at q1
        have HT1 := Lib.hid Ta
        clear Ta)
      go_ret
      exact ⟨_, ⟨by rw [HK.out]; rfl, by rw [HK.out]; rfl⟩, HT1.out⟩
    · obtain ⟨k, hk⟩ := Int.eq_ofNat_of_zero_le hq.slot0
      have hkl : k < s.recs.length := by have := hq.slot1; omega
      have hr : s.recs[k]? = some (s.recs[k]) := List.getElem?_eq_getElem hkl
      have HX := Lib.hid (seek_does qb sb rb s q k _ hk hr (hs.recs _ (List.getElem_mem _)) hn1)
      have HK := Lib.hid (show stepR s q = seekR s q from by unfold stepR; rw [if_neg (by simp [hst]), if_neg (by omega), if_neg (by omega)])
      rw [hn, hst] at q0
      clear hr
      go_enter Tryz.func131, Tryz.ntmps131
      go_wp2_with (
        go_at_call 158
        refine (HX.out.use (HT.out.alloc0 _) (List.Perm.refl _)).mono ?_
        rintro e w1 ⟨h', ⟨rfl, rfl⟩, Ta⟩
        have q1 := Ta.cell 0 (show _ = some (pt qb _ _) from rfl) 6
        simp [reqC] at q1
        have HT1 := Lib.hid Ta
        clear Ta)
      go_ret
      exact ⟨_, ⟨by rw [HK.out]; rfl, by rw [HK.out]; rfl⟩, HT1.out⟩
  · have HK := Lib.hid (show stepR s q = (s, q) from if_pos hst)
    go_enter Tryz.func131, Tryz.ntmps131
    go_wp2
    go_ret
    exact ⟨_, ⟨by rw [HK.out]; rfl, by rw [HK.out]⟩, HT.out.alloc0 _⟩



def recC : Array Value := #[.int .u64 0, .int .i64 0, .int .i64 0, .int .i64 0, .int .u64 0, .int .u64 0]
theorem rec_info : (Tryz.prog.info? 134).map (fun i => (i.zero, i.size, i.bytes)) = some (some (.agg recC), 6, 48) := by kernel_rfl
theorem new_recs (k : Nat) : (madeCells recC (k * 6)).size = (newSlab k).recs.length * 6 ∧ ∀ i r, (newSlab k).recs[i]? = some r → recAt (madeCells recC (k * 6)) i r := by
  refine ⟨by simp [size_madeCells, newSlab], fun i r hr => ?_⟩
  have hi : i < k := by have := (List.getElem?_eq_some_iff.1 hr).1; simpa [newSlab] using this
  have hz : recC.size = 6 := rfl
  have hr' : r = Rec.zero := by simp [newSlab, hi] at hr; exact hr.symm
  subst hr'
  exact ⟨⟨made_get _ k 6 i 0 hz hi (by omega), 0, 0, 0, made_get _ k 6 i 1 hz hi (by omega), made_get _ k 6 i 2 hz hi (by omega), made_get _ k 6 i 3 hz hi (by omega)⟩, made_get _ k 6 i 4 hz hi (by omega), made_get _ k 6 i 5 hz hi (by omega)⟩
set_option maxRecDepth 100000 in
theorem slabNew_does (n : Int) :
    Does Tryz.prog 71 #[.int .i64 n] [] fun e h' =>
      if 1 ≤ n ∧ n ≤ 64 then ∃ sb rb, e = .returned (.tuple #[.pointer (some ⟨sb, 0, none⟩), .int .i64 0]) ∧ h' = slabH sb rb (newSlab n.toNat) else e = .returned (.tuple #[.pointer none, .int .i64 4]) ∧ h' = [] := by
  intro w hw
  have HT := Lib.hid (Turned.refl hw)
  clear hw
  by_cases h : 1 ≤ n ∧ n ≤ 64
  · simp only [if_pos h]
    obtain ⟨h1, h2⟩ := h
    obtain ⟨k, rfl⟩ := Int.eq_ofNat_of_zero_le (show 0 ≤ n by omega)
    have hk1 : k ≤ 64 := by omega
    have hmk : ∀ w, (Instr.makeSlice 136 (.int .i64 (k : Int)) (.int .i64 (k : Int))).run Tryz.prog w = .ok (.slice (some ⟨w.heap.size, 0, none⟩) k k) (w.alloc (.cells (madeCells recC (k * 6)) 134)) := run_make_n (P := Tryz.prog) 136 134 (.agg recC) 6 48 Tryz.underlying136 rec_info k (by omega) (by omega)
    have hd1 : decide ((k : Int) < 1) = false := by simp; omega
    have hd2 : decide (64 < (k : Int)) = false := by simp; omega
    go_enter Tryz.func71, Tryz.ntmps71
    go_wp2
    go_ret2
    exact ⟨_, ⟨w.heap.size + 1, w.heap.size, rfl, by simp [newSlab, slabH]⟩, (((HT.out.alloc rfl _ _).sayAt 0 rfl (recsP (newSlab k).recs) (fun o ho => by cases ho; exact ⟨_, rfl, new_recs k⟩)).alloc rfl _ _).sayAt 0 rfl (slabP w.heap.size (newSlab k).recs.length 0) (fun o ho => by
      cases ho; exact ⟨_, rfl, rfl, by simp [newSlab], rfl, 0, 0, 0, rfl, rfl, rfl⟩)⟩
  · simp only [if_neg h]
    by_cases h1 : n < 1
    · clear h
      go_enter Tryz.func71, Tryz.ntmps71
      go_wp2
      go_ret2
      exact ⟨_, ⟨rfl, rfl⟩, HT.out⟩
    · have h2 : 64 < n := by omega
      clear h
      go_enter Tryz.func71, Tryz.ntmps71
      go_wp2
      go_ret2
      exact ⟨_, ⟨rfl, rfl⟩, HT.out⟩
end Go.Proofs.YthbjaoinklhikaaGreat

namespace Go.Proofs.YthbjaoinklhikaaGreat
set_option linter.unusedVariables false
set_option linter.unusedSimpArgs false
open Go.RowKit

/-! ## A slab's contracts, on groups -/
/-- a pointer to a block's head -/
abbrev ptr (b : Nat) : Value := .pointer (some ⟨b, 0, none⟩)
def isSlab (sb : Nat) (s : SlabS) (g : List Blk) : Prop := ∃ rb, Match (slabH sb rb s) g
def reqG (qb sb : Nat) (q : Req) : List Blk := [cl qb 213 (reqC sb q)]
theorem reqM (qb sb : Nat) (q : Req) : Match [reqH qb sb q] (reqG qb sb q) := Match.of_pt _ _ _

section
variable {sb : Nat} {s : SlabS} {g : List Blk}
theorem slabCount_g (hg : isSlab sb s g) : DoesG Tryz.prog 28 #[ptr sb] [g] fun e gs => e = .returned (.int .i64 s.count) ∧ ∃ g', isSlab sb s g' ∧ gs = [g'] := by
  obtain ⟨rb, m⟩ := hg
  exact (Does.G1 (slabCount_does sb rb s) m).mono fun e gs ⟨he, x, mx, hx⟩ => ⟨he, x, ⟨rb, mx⟩, hx⟩
theorem slabPeriod_g (hg : isSlab sb s g) (hn : s.recs.length ≤ 64) (k : Int) : DoesG Tryz.prog 169 #[ptr sb, .int .i64 k] [g] fun e gs => e = .returned (.int .u64 (s.period k)) ∧ ∃ g', isSlab sb s g' ∧ gs = [g'] := by
  obtain ⟨rb, m⟩ := hg
  exact (Does.G1 (slabPeriod_does sb rb s k hn) m).mono fun e gs ⟨he, x, mx, hx⟩ => ⟨he, x, ⟨rb, mx⟩, hx⟩
theorem slabWord_g (hg : isSlab sb s g) (hn : s.recs.length ≤ 64) (k : Int) : DoesG Tryz.prog 27 #[ptr sb, .int .i64 k] [g] fun e gs => e = .returned (.tuple #[.int .u64 (s.word k), .int .i64 (s.werr k)]) ∧ ∃ g', isSlab sb s g' ∧ gs = [g'] := by
  obtain ⟨rb, m⟩ := hg
  exact (Does.G1 (slabWord_does sb rb s k hn) m).mono fun e gs ⟨he, x, mx, hx⟩ => ⟨he, x, ⟨rb, mx⟩, hx⟩
theorem slabSlot_g (hg : isSlab sb s g) (hn : s.recs.length ≤ 64) (id : Int) (h0 : 0 ≤ id) (h1 : id < 18446744073709551616) : DoesG Tryz.prog 165 #[ptr sb, .int .u64 id] [g] fun e gs => e = .returned (.tuple #[.int .i64 (s.slot id), .int .i64 (s.serr id)]) ∧ ∃ g', isSlab sb s g' ∧ gs = [g'] := by
  obtain ⟨rb, m⟩ := hg
  exact (Does.G1 (slabSlot_does sb rb s id hn h0 h1) m).mono fun e gs ⟨he, x, mx, hx⟩ => ⟨he, x, ⟨rb, mx⟩, hx⟩
theorem slabMine_g (hg : isSlab sb s g) (hn : s.recs.length ≤ 64) (id : Int) (h0 : 0 ≤ id) (h1 : id < 18446744073709551616) : DoesG Tryz.prog 166 #[ptr sb, .int .u64 id] [g] fun e gs => e = .returned (.bool (s.mine id)) ∧ ∃ g', isSlab sb s g' ∧ gs = [g'] := by
  obtain ⟨rb, m⟩ := hg
  exact (Does.G1 (slabMine_does sb rb s id hn h0 h1) m).mono fun e gs ⟨he, x, mx, hx⟩ => ⟨he, x, ⟨rb, mx⟩, hx⟩
theorem slabDrop_g (hg : isSlab sb s g) (h0 : 0 ≤ s.count) (h1 : s.count ≤ 64) : DoesG Tryz.prog 192 #[ptr sb] [g] fun e gs => e = .returned (.int .i64 s.drop.2) ∧ ∃ g', isSlab sb s.drop.1 g' ∧ gs = [g'] := by
  obtain ⟨rb, m⟩ := hg
  exact (Does.G1 (slabDrop_does sb rb s h0 h1) m).mono fun e gs ⟨he, x, mx, hx⟩ => ⟨he, x, ⟨rb, mx⟩, hx⟩
theorem slabTry_g (hg : isSlab sb s g) (hn : s.recs.length ≤ 64) (k old ev : Int) (h0 : 0 ≤ old) (h1 : old < 18446744073709551616) :
    DoesG Tryz.prog 170 #[ptr sb, .int .i64 k, .int .u64 old, .int .i64 ev] [g] fun e gs => e = .returned (.tuple #[.int .u64 (s.try k old ev).2.1, .int .i64 (s.try k old ev).2.2]) ∧ ∃ g', isSlab sb (s.try k old ev).1 g' ∧ gs = [g'] := by
  obtain ⟨rb, m⟩ := hg
  exact (Does.G1 (slabTry_does sb rb s k old ev hn h0 h1) m).mono fun e gs ⟨he, x, mx, hx⟩ => ⟨he, x, ⟨rb, mx⟩, hx⟩
theorem reqStep_g (qb : Nat) (q : Req) (hg : isSlab sb s g) (hs : SlabOk s) (hq : ReqOk s.recs.length q) :
    DoesG Tryz.prog 131 #[ptr qb] [reqG qb sb q, g] fun e gs => e = .returned (.int .i64 (stepR s q).2.st) ∧ ∃ g', isSlab sb (stepR s q).1 g' ∧ gs = [reqG qb sb (stepR s q).2, g'] := by
  obtain ⟨rb, m⟩ := hg
  refine (Does.G2 (a := [reqH qb sb q]) (a' := [reqH qb sb (stepR s q).2]) (reqStep_does qb sb rb s q hs hq) (reqM _ _ _) m).mono ?_
  rintro e gs ⟨he, x, y, mx, my, rfl⟩
  exact ⟨he, y, ⟨rb, my⟩, by rw [mx.isPt]; rfl⟩
end
theorem reqId_g (qb sb : Nat) (q : Req) : DoesG Tryz.prog 132 #[ptr qb] [reqG qb sb q] fun e gs => e = .returned (.tuple #[.int .u64 (if q.st = 2 then q.id else 0), .int .i64 (if q.st = 2 then 0 else 7)]) ∧ gs = [reqG qb sb q] :=
  (Does.G1 (reqId_does qb sb q) (reqM _ _ _)).mono fun e gs ⟨he, x, mx, hx⟩ => ⟨he, by rw [hx, mx.isPt]; rfl⟩
theorem slabBegin_g (sb : Nat) (p : Int) : DoesG Tryz.prog 104 #[ptr sb, .int .u64 p] [] fun e gs => ∃ qb, e = .returned (ptr qb) ∧ gs = [reqG qb sb ⟨p, 0, 0, 0, 0, 0⟩] := by
  refine ((slabBegin_does sb p).G (gs := []) .nil).mono ?_
  rintro e gs ⟨h', g, ⟨qb, he, rfl⟩, m, rfl⟩
  exact ⟨qb, he, by rw [m.isPt]; rfl⟩
theorem slabNew_g (n : Int) : DoesG Tryz.prog 71 #[.int .i64 n] [] fun e gs =>
    (1 ≤ n ∧ n ≤ 64 ∧ ∃ sb g, e = .returned (.tuple #[ptr sb, .int .i64 0]) ∧ isSlab sb (newSlab n.toNat) g ∧ gs = [g]) ∨ (¬ (1 ≤ n ∧ n ≤ 64) ∧ e = .returned (.tuple #[.pointer none, .int .i64 4]) ∧ gs = []) := by
  refine ((slabNew_does n).G (gs := []) .nil).post ?_
  rintro e gs ⟨h', g, hr, m, rfl⟩
  by_cases hn : 1 ≤ n ∧ n ≤ 64
  · rw [if_pos hn] at hr
    obtain ⟨sb, rb, he, rfl⟩ := hr
    exact ⟨[g], .inl ⟨hn.1, hn.2, sb, g, he, ⟨rb, m⟩, rfl⟩, List.Perm.refl _⟩
  · rw [if_neg hn] at hr
    obtain ⟨he, rfl⟩ := hr
    cases m
    exact ⟨[], .inr ⟨hn, he, rfl⟩, by simp⟩
theorem slabNew_at (n : Nat) (h1 : 1 ≤ n) (h2 : n ≤ 64) : DoesG Tryz.prog 71 #[.int .i64 n] [] fun e gs => ∃ sb g, e = .returned (.tuple #[ptr sb, .int .i64 0]) ∧ isSlab sb (newSlab n) g ∧ gs = [g] := by
  refine (slabNew_g n).mono ?_
  rintro e gs (⟨_, _, sb, g, he, hs, hg⟩ | ⟨hn, _⟩)
  · exact ⟨sb, g, he, by simpa using hs, hg⟩
  · exact absurd ⟨by omega, by omega⟩ hn

/-! ## Of none -/
theorem slabCount_nil : DoesG Tryz.prog 28 #[.pointer none] [] fun e gs => e = .returned (.int .i64 0) ∧ gs = [] := by
  intro w hw
  have HT := Lib.hid (TG.refl hw)
  clear hw
  go_enter Tryz.func28, Tryz.ntmps28
  go_wp2
  go_ret
  exact ⟨_, ⟨rfl, rfl⟩, HT.out⟩
theorem slabBegin_nil : DoesG Tryz.prog 104 #[.pointer none, .int .u64 1] [] fun e gs => e = .returned (.pointer none) ∧ gs = [] := by
  intro w hw
  have HT := Lib.hid (TG.refl hw)
  clear hw
  go_enter Tryz.func104, Tryz.ntmps104
  go_wp2
  go_ret
  exact ⟨_, ⟨rfl, rfl⟩, HT.out⟩
theorem reqStep_nil : DoesG Tryz.prog 131 #[.pointer none] [] fun e gs => e = .returned (.int .i64 1) ∧ gs = [] := by
  intro w hw
  have HT := Lib.hid (TG.refl hw)
  clear hw
  go_enter Tryz.func131, Tryz.ntmps131
  go_wp2
  go_ret
  exact ⟨_, ⟨rfl, rfl⟩, HT.out⟩
theorem reqId_nil : DoesG Tryz.prog 132 #[.pointer none] [] fun e gs => e = .returned (.tuple #[.int .u64 0, .int .i64 7]) ∧ gs = [] := by
  intro w hw
  have HT := Lib.hid (TG.refl hw)
  clear hw
  go_enter Tryz.func132, Tryz.ntmps132
  go_wp2
  go_ret2
  exact ⟨_, ⟨rfl, rfl⟩, HT.out⟩
theorem slabSlot_nil (id : Int) : DoesG Tryz.prog 165 #[.pointer none, .int .u64 id] [] fun e gs => e = .returned (.tuple #[.int .i64 0, .int .i64 6]) ∧ gs = [] := by
  intro w hw
  have T0 := TG.refl hw
  have HT := Lib.hid T0
  clear hw T0
  go_enter Tryz.func165, Tryz.ntmps165
  go_wp2
  go_ret2
  exact ⟨_, ⟨rfl, rfl⟩, HT.out⟩
theorem slabAt_nil (k : Int) : DoesG Tryz.prog 76 #[.pointer none, .int .i64 k] [] fun e gs => e = .returned (.pointer none) ∧ gs = [] := by
  intro w hw
  have T0 := TG.refl hw
  have HT := Lib.hid T0
  clear hw T0
  go_enter Tryz.func76, Tryz.ntmps76
  go_wp2
  go_ret
  exact ⟨_, ⟨rfl, rfl⟩, HT.out⟩
theorem slabWord_nil (k : Int) : DoesG Tryz.prog 27 #[.pointer none, .int .i64 k] [] fun e gs => e = .returned (.tuple #[.int .u64 0, .int .i64 6]) ∧ gs = [] := by
  intro w hw
  have T0 := TG.refl hw
  have HT := Lib.hid T0
  clear hw T0
  go_enter Tryz.func27, Tryz.ntmps27
  go_wp2
  go_ret2
  exact ⟨_, ⟨rfl, rfl⟩, HT.out⟩
theorem slabMine_nil (id : Int) : DoesG Tryz.prog 166 #[.pointer none, .int .u64 id] [] fun e gs => e = .returned (.bool false) ∧ gs = [] := by
  intro w hw
  have T0 := TG.refl hw
  have HT := Lib.hid T0
  clear hw T0
  go_enter Tryz.func166, Tryz.ntmps166
  go_wp2_with (
    go_at_call 165
    refine (DoesG.use (slabSlot_nil id) (HT.out) [] rfl rfl).mono ?_
    rintro e w1 ⟨gs, ⟨rfl, rfl⟩, Ta⟩
    simp only [putG, List.set_cons_zero, List.set_cons_succ, List.cons_append, List.nil_append, List.append_nil] at Ta
    have HT := Lib.hid Ta
    clear Ta
    skip)
  go_ret
  exact ⟨_, ⟨rfl, rfl⟩, HT.out⟩
theorem slabPeriod_nil (k : Int) : DoesG Tryz.prog 169 #[.pointer none, .int .i64 k] [] fun e gs => e = .returned (.int .u64 0) ∧ gs = [] := by
  intro w hw
  have T0 := TG.refl hw
  have HT := Lib.hid T0
  clear hw T0
  go_enter Tryz.func169, Tryz.ntmps169
  go_wp2_with (
    go_at_call 76
    refine (DoesG.use (slabAt_nil k) (HT.out) [] rfl rfl).mono ?_
    rintro e w1 ⟨gs, ⟨rfl, rfl⟩, Ta⟩
    simp only [putG, List.set_cons_zero, List.set_cons_succ, List.cons_append, List.nil_append, List.append_nil] at Ta
    have HT := Lib.hid Ta
    clear Ta
    skip)
  go_ret
  exact ⟨_, ⟨rfl, rfl⟩, HT.out⟩
theorem slabTry_nil (k n ev : Int) : DoesG Tryz.prog 170 #[.pointer none, .int .i64 k, .int .u64 n, .int .i64 ev] [] fun e gs => e = .returned (.tuple #[.int .u64 0, .int .i64 6]) ∧ gs = [] := by
  intro w hw
  have T0 := TG.refl hw
  have HT := Lib.hid T0
  clear hw T0
  go_enter Tryz.func170, Tryz.ntmps170
  go_wp2_with (
    go_at_call 27
    refine (DoesG.use (slabWord_nil k) (HT.out) [] rfl rfl).mono ?_
    rintro e w1 ⟨gs, ⟨rfl, rfl⟩, Ta⟩
    simp only [putG, List.set_cons_zero, List.set_cons_succ, List.cons_append, List.nil_append, List.append_nil] at Ta
    have HT := Lib.hid Ta
    clear Ta
    skip)
  go_ret2
  exact ⟨_, ⟨rfl, rfl⟩, HT.out⟩
theorem slabDrop_nil : DoesG Tryz.prog 192 #[.pointer none] [] fun e gs => e = .returned (.int .i64 6) ∧ gs = [] := by
  intro w hw
  have HT := Lib.hid (TG.refl hw)
  clear hw
  go_enter Tryz.func192, Tryz.ntmps192
  go_wp2
  go_ret
  exact ⟨_, ⟨rfl, rfl⟩, HT.out⟩
end Go.Proofs.YthbjaoinklhikaaGreat

namespace Go.Proofs.YthbjaoinklhikaaGreat
set_option linter.unusedVariables false
set_option linter.unusedSimpArgs false
open Go.RowKit

theorem loadB_does (b o : Nat) (T : TypeId) (C : Array Value) (n : Bool) (hc : cellAt C o (.bool n)) :
    Does Tryz.prog 129 #[.pointer (some ⟨b, o, none⟩)] [pt b T C] (CellPost b T C o (.bool n) (.bool n)) := by
  intro w hw
  obtain ⟨h0, l, t, u, h1, h2, h3⟩ := hc
  have T0 := Turned.refl hw
  have hb := T0.blk 0 rfl
  have c0 : w.cell? ⟨b, o, none⟩ = some (.bool n) := (blk_cell hb o).trans h0
  have c1 : w.cell? ⟨b, o + 1, none⟩ = some (.int .i64 l) := (blk_cell hb (o + 1)).trans h1
  have f1 := blk_free hb (o + 1)
  have T1 := Lib.hid T0
  have H := Lib.hid (And.intro h0 (And.intro h1 (And.intro h2 h3)))
  clear T0 hb hw h0 h1 h2 h3
  go_enter Tryz.func129, Tryz.ntmps129
  go_wp2
  go_ret
  obtain ⟨h0, h1, h2, h3⟩ := H.out
  exact ⟨_, ⟨rfl, _, rfl, recell_loads h0 h1 h2 h3⟩, T1.out.set (o + 1) _⟩

theorem swapB_does (b o : Nat) (T : TypeId) (C : Array Value) (n old new : Bool) (hc : cellAt C o (.bool n)) :
    Does Tryz.prog 75 #[.pointer (some ⟨b, o, none⟩), .bool old, .bool new] [pt b T C] (CellPost b T C o (.bool (if n = old then new else n)) (.bool (decide (n = old)))) := by
  intro w hw
  obtain ⟨h0, l, t, u, h1, h2, h3⟩ := hc
  have T0 := Turned.refl hw
  have hb := T0.blk 0 rfl
  have c0 : w.cell? ⟨b, o, none⟩ = some (.bool n) := (blk_cell hb o).trans h0
  have c2 : w.cell? ⟨b, o + 2, none⟩ = some (.int .i64 t) := (blk_cell hb (o + 2)).trans h2
  have c3 : w.cell? ⟨b, o + 3, none⟩ = some (.int .i64 u) := (blk_cell hb (o + 3)).trans h3
  have f0 := blk_free hb o
  have f2 := blk_free hb (o + 2)
  have f3 := blk_free hb (o + 3)
  have T1 := Lib.hid T0
  have H := Lib.hid (And.intro h0 (And.intro h1 (And.intro h2 h3)))
  clear T0 hb hw h0 h1 h2 h3
  by_cases he : n = old
  · subst he
    cases n
    all_goals
      go_enter Tryz.func75, Tryz.ntmps75
      go_wp2
      go_ret
      obtain ⟨h0, h1, h2, h3⟩ := H.out
      exact ⟨_, ⟨by simp, _, rfl, recell_swap h0 h1 h2 h3⟩, ((T1.out.set (o + 2) _).set o _).set (o + 3) _⟩
  · cases n <;> cases old <;> first | exact absurd rfl he | skip
    all_goals
      go_enter Tryz.func75, Tryz.ntmps75
      go_wp2
      go_ret
      obtain ⟨h0, h1, h2, h3⟩ := H.out
      exact ⟨_, ⟨by simp [he], _, rfl, recell_tries h0 h1 h2 h3⟩, T1.out.set (o + 2) _⟩

end Go.Proofs.YthbjaoinklhikaaGreat

namespace Go.Proofs.YthbjaoinklhikaaGreat
set_option linter.unusedVariables false
set_option linter.unusedSimpArgs false
open Go.RowKit

theorem loadU_does (b o : Nat) (T : TypeId) (C : Array Value) (n : Int) (hc : cellAt C o (.int .u64 n)) :
    Does Tryz.prog 96 #[.pointer (some ⟨b, o, none⟩)] [pt b T C] (CellPost b T C o (.int .u64 n) (.int .u64 n)) := by
  intro w hw
  obtain ⟨h0, l, t, u, h1, h2, h3⟩ := hc
  have T0 := Turned.refl hw
  have hb := T0.blk 0 rfl
  have c0 : w.cell? ⟨b, o, none⟩ = some (.int .u64 n) := (blk_cell hb o).trans h0
  have c1 : w.cell? ⟨b, o + 1, none⟩ = some (.int .i64 l) := (blk_cell hb (o + 1)).trans h1
  have f1 := blk_free hb (o + 1)
  have T1 := Lib.hid T0
  have H := Lib.hid (And.intro h0 (And.intro h1 (And.intro h2 h3)))
  clear T0 hb hw h0 h1 h2 h3
  go_enter Tryz.func96, Tryz.ntmps96
  go_wp2
  go_ret
  obtain ⟨h0, h1, h2, h3⟩ := H.out
  exact ⟨_, ⟨rfl, _, rfl, recell_loads h0 h1 h2 h3⟩, T1.out.set (o + 1) _⟩


end Go.Proofs.YthbjaoinklhikaaGreat

namespace Go.Proofs.YthbjaoinklhikaaGreat
set_option linter.unusedVariables false
set_option linter.unusedSimpArgs false
open Go.RowKit Go.Shelf

/-! ### A pipe in which nothing is -/
def emptyPipe (pb : Nat) (g : List Blk) : Prop := ∃ cb lb hb n : Nat, g = [cl pb 163 #[.chan (some cb), ptr' lb, .int .i64 0, .bool false], (cb, .chan n #[] false 0 0 false)] ++ noList lb hb
theorem fire_info : (Tryz.prog.info? 92).map (fun i => (i.zero, i.size, i.bytes)) = some (some (.agg #[.int .u64 0, .int .u64 0, .int .u64 0, .int .u64 0]), 4, 32) := by kernel_rfl
theorem run_makeChan_n (n : Nat) (hn : n ≤ 16) (w : World) : (Instr.makeChan 160 (.int .i64 (n : Int))).run Tryz.prog w = .ok (.chan (some w.heap.size)) (w.alloc (.chan n #[] false 0 0 false)) := by
  obtain ⟨i, hi, _, _, hb⟩ := info_parts fire_info
  have hw : IntKind.i64.wrap (n : Int) = n := by rw [IntKind.wrap_i64]; omega
  have h1 : ¬ ((n : Int) < 0) := by omega
  have h2 : ¬ (9223372036854775807 < (n : Int)) := by omega
  have h3 : ¬ (281474976710544 < 32 * (n : Int)) := by omega
  simp [Instr.makeChan, asInt, asIntOf, run_underlying Tryz.underlying160, typeInfo, hi, hb, hw, h1, h2, h3, newObj, IntKind.max, IntKind.bits, IntKind.signed]
  rfl
set_option maxRecDepth 100000 in
set_option maxHeartbeats 4000000 in
theorem pipeNew_g (n : Nat) (h1 : 1 ≤ n) (h2 : n ≤ 16) : DoesG Tryz.prog 72 #[.int .i64 n] [] fun e gs => ∃ b g, e = .returned (.tuple #[ptr' b, .int .i64 0]) ∧ emptyPipe b g ∧ gs = [g] := by
  intro w hw
  have T0 := TG.refl hw
  have HT := Lib.hid T0
  clear hw T0
  have hmk := run_makeChan_n n h2
  have hd1 : decide ((n : Int) < 1) = false := by simp; omega
  have hd2 : decide (16 < (n : Int)) = false := by simp; omega
  go_enter Tryz.func72, Tryz.ntmps72
  go_wp2
  go_region_with (
    go_at_call 110
    first
    | (refine (DoesG.use fireListNew_g (HT.out.drew.put rfl (.chan n #[] false 0 0 false)) [] rfl rfl).mono ?_
       rintro e w1 ⟨gs, ⟨lb, hb, rfl, rfl⟩, Ta⟩
       have HT1 := Lib.hid Ta
       clear Ta)
    | (refine (DoesG.use fireListNew_g HT.out.drew [] rfl rfl).mono ?_
       rintro e w1 ⟨gs, ⟨lb, hb, rfl, rfl⟩, Ta⟩
       have HT1 := Lib.hid Ta
       clear Ta))
  · go_wp2
    go_ret2
    refine ⟨_, ⟨_, _, rfl, ⟨w.heap.size, lb, hb, n, rfl⟩, rfl⟩, (HT1.out.alloc (k := w1.heap.size) rfl 163 #[.chan (some w.heap.size), ptr' lb, .int .i64 0, .bool false]).re ?_⟩
    simp only [putG, List.nil_append, List.append_nil, List.cons_append, List.flatten_cons, List.flatten_nil, noList]
    exact (List.perm_append_comm (l₁ := [_, _, _]) (l₂ := [_]))
  · go_wp2
    go_ret2
    refine ⟨_, ⟨_, _, rfl, ⟨w1.heap.size, lb, hb, n, rfl⟩, rfl⟩, ((HT1.out.put (k := w1.heap.size) rfl (.chan n #[] false 0 0 false)).alloc (k := w1.heap.size + 1) (by simp) 163 #[.chan (some w1.heap.size), ptr' lb, .int .i64 0, .bool false]).re ?_⟩
    simp only [putG, List.nil_append, List.append_nil, List.cons_append, List.flatten_cons, List.flatten_nil, noList]
    exact (List.perm_append_comm (l₁ := [_, _]) (l₂ := [_, _])).trans (List.Perm.swap _ _ _)
end Go.Proofs.YthbjaoinklhikaaGreat

namespace Go.Proofs.YthbjaoinklhikaaGreat
set_option linter.unusedVariables false
set_option linter.unusedSimpArgs false
open Go.RowKit Go.Shelf

/-! ### A shard (of its wheel nothing is said) -/
structure ShardS where
  ring : RingS
  who : Int
  turns : Int
def newShard (n : Nat) : ShardS := ⟨newRing n, 0, 0⟩
def isShard (b : Nat) (s : ShardS) (g : List Blk) : Prop := ∃ rb lb wb gr gl, isRing rb s.ring gr ∧ isLock lb s.who s.turns gl ∧ g = [cl b 180 #[ptr' rb, ptr' lb, ptr' wb]] ++ gr ++ gl
set_option maxRecDepth 100000 in
set_option maxHeartbeats 4000000 in
theorem shardNew_g (n : Nat) (h1 : 1 ≤ n) (h2 : n ≤ 64) : DoesG Tryz.prog 73 #[.int .i64 n] [] fun e gs => ∃ b g, e = .returned (.tuple #[ptr' b, .int .i64 0]) ∧ isShard b (newShard n) g ∧ gs = [g] := by
  intro w hw
  have T0 := TG.refl hw
  have HT := Lib.hid T0
  clear hw T0
  go_enter Tryz.func73, Tryz.ntmps73
  go_wp2_with fail
  refine (DoesG.use (ringNew_g n h1 h2) (HT.out) [] rfl rfl).mono ?_
  rintro e w1 ⟨gs, ⟨rb, gr, rfl, hgr, rfl⟩, Ta⟩
  simp only [putG, List.set_cons_zero, List.set_cons_succ, List.cons_append, List.nil_append, List.append_nil] at Ta
  have HT := Lib.hid Ta
  clear Ta
  go_wp2_with fail
  refine (DoesG.use (lockNew_g) (HT.out) [] rfl rfl).mono ?_
  rintro e w1 ⟨gs, ⟨lb, gl, rfl, hgl, rfl⟩, Ta⟩
  simp only [putG, List.set_cons_zero, List.set_cons_succ, List.cons_append, List.nil_append, List.append_nil] at Ta
  have HT := Lib.hid Ta
  clear Ta
  go_wp2_with fail
  refine (DoesG.use (wheelNew0_g 0) (HT.out) [] rfl rfl).mono ?_
  rintro e w1 ⟨gs, ⟨wb, rfl, rfl⟩, Ta⟩
  simp only [putG, List.set_cons_zero, List.set_cons_succ, List.cons_append, List.nil_append, List.append_nil] at Ta
  have HT := Lib.hid Ta
  clear Ta
  go_wp2
  go_ret2
  refine ⟨_, ⟨_, _, rfl, ⟨rb, lb, wb, gr, gl, hgr, hgl, rfl⟩, rfl⟩, (HT.out.alloc (k := w1.heap.size) rfl 180 #[ptr' rb, ptr' lb, ptr' wb]).re ?_⟩
  simp only [List.append_nil, List.cons_append, List.nil_append, List.flatten_cons, List.flatten_nil]
  rw [← List.append_assoc]
  exact List.perm_append_comm

/-! ### A floor -/
structure FPtr where
  sb : Nat
  pb : Nat
  lb : Nat
  sh : Value
structure FloorS where
  cfg : Cfg
  closed : Bool
  inside : Int
  busy : Int
  now : Int
structure floorC (p : FPtr) (f : FloorS) (tr : Value) (C : Array Value) : Prop where
  size : C.size = 27
  cfg : ∀ i, i < 6 → C[i]? = f.cfg.cells[i]?
  slab : C[6]? = some (ptr' p.sb)
  sh : C[7]? = some p.sh
  pipe : C[8]? = some (ptr' p.pb)
  log : C[9]? = some (ptr' p.lb)
  closed : cellAt C 10 (.bool f.closed)
  inside : cellAt C 14 (.int .i64 f.inside)
  busy : cellAt C 18 (.int .i64 f.busy)
  now : cellAt C 22 (.int .u64 f.now)
  tr : C[26]? = some tr
def isFloor (fb : Nat) (p : FPtr) (f : FloorS) (tr : Value) (g : List Blk) : Prop := ∃ C, g = [cl fb 120 C] ∧ floorC p f tr C
theorem floorNew_no (c : Cfg) (hk : c.ok = false) : DoesG Tryz.prog 20 #[.agg c.cells] [] fun e gs => e = .returned (.tuple #[.pointer none, .int .i64 8]) ∧ gs = [] := by
  intro w hw
  have T0 := TG.refl hw
  have HT := Lib.hid T0
  clear hw T0
  have HB := Lib.hid (check_g c)
  obtain ⟨C, hC⟩ : ∃ C, C = c.cells := ⟨_, rfl⟩
  have hC' := hC
  simp only [Cfg.cells] at hC'
  rw [← hC, hk] at HB
  simp only [Cfg.cells]
  go_enter Tryz.func20, Tryz.ntmps20
  go_wp2_with fail
  rw [← hC']
  clear hC hC'
  refine (DoesG.use HB.out (HT.out.alloc0 _) [] rfl rfl).mono ?_
  rintro e w1 ⟨gs, ⟨rfl, rfl⟩, Ta⟩
  have HT := Lib.hid Ta
  clear Ta
  go_wp2
  go_ret2
  exact ⟨_, ⟨rfl, rfl⟩, HT.out⟩
/-- all of a floor -/
structure FloorAll (fb : Nat) (p : FPtr) (f : FloorS) (tr : Value) (s : SlabS) (shs : List (Nat × ShardS)) (gF gS gR gH gP gL : List Blk) : Prop where
  floor : isFloor fb p f tr gF
  slab : isSlab p.sb s gS
  row : rowG 61 1 p.sh shs.length (shs.map fun x => ptr' x.1) gR
  shards : FamP (fun x => isShard x.1 x.2) shs gH
  pipe : emptyPipe p.pb gP
  log : gL = [cl p.lb 174 #[.slice none 0 0]]
def floorLit (nsh ncap nring nroom wk cli : Int) (sb pb lb : Nat) (v : Value) : Array Value := #[.int .i64 nsh, .int .i64 ncap, .int .i64 nring, .int .i64 nroom, .int .i64 wk, .int .i64 cli, ptr' sb, v, ptr' pb, ptr' lb, .bool false, .int .i64 0, .int .i64 0, .int .i64 0, .int .i64 0, .int .i64 0, .int .i64 0, .int .i64 0, .int .i64 0, .int .i64 0, .int .i64 0, .int .i64 0, .int .u64 0, .int .i64 0, .int .i64 0, .int .i64 0, .slice none 0 0]
theorem floorLit_C (c : Cfg) (sb pb lb : Nat) (v : Value) : floorC ⟨sb, pb, lb, v⟩ ⟨c, false, 0, 0, 0⟩ (.slice none 0 0) (floorLit c.sh c.cap c.ring c.room c.wk c.cli sb pb lb v) := by
  refine ⟨rfl, fun i hi => ?_, rfl, rfl, rfl, rfl, ⟨rfl, 0, 0, 0, rfl, rfl, rfl⟩, ⟨rfl, 0, 0, 0, rfl, rfl, rfl⟩, ⟨rfl, 0, 0, 0, rfl, rfl, rfl⟩, ⟨rfl, 0, 0, 0, rfl, rfl, rfl⟩, rfl⟩
  have : i = 0 ∨ i = 1 ∨ i = 2 ∨ i = 3 ∨ i = 4 ∨ i = 5 := by omega
  rcases this with rfl | rfl | rfl | rfl | rfl | rfl <;> rfl
theorem Tryz.infoShard : (Tryz.prog.info? 61).map (fun i => (i.zero, i.size, i.bytes)) = some (some (.pointer none), 1, 8) := by kernel_rfl
theorem Cfg.bd {c : Cfg} (hk : c.ok = true) : (1 ≤ c.sh ∧ c.sh ≤ 4) ∧ (1 ≤ c.cap ∧ c.cap ≤ 64) ∧ (1 ≤ c.ring ∧ c.ring ≤ 64) ∧ (1 ≤ c.room ∧ c.room ≤ 16) ∧ (1 ≤ c.wk ∧ c.wk ≤ 4) ∧ (1 ≤ c.cli ∧ c.cli ≤ 8) := by
  simpa [Cfg.ok, Cfg.fine, Cfg.pair, and_assoc] using hk
set_option maxRecDepth 100000 in
set_option maxHeartbeats 4000000 in
theorem floorNew_g (c : Cfg) (hk : c.ok = true) : DoesG Tryz.prog 20 #[.agg c.cells] [] fun e gs =>
    ∃ fb p shs gF gS gR gH gP gL, e = .returned (.tuple #[ptr' fb, .int .i64 0]) ∧ FloorAll fb p ⟨c, false, 0, 0, 0⟩ (.slice none 0 0) (newSlab c.cap.toNat) shs gF gS gR gH gP gL ∧ (shs.length : Int) = c.sh ∧ (∀ x ∈ shs, x.2 = newShard c.ring.toNat) ∧ gs = [gF, gS, gR, gH, gP, gL] := by
  intro w hw
  have T0 := TG.refl hw
  have HT := Lib.hid T0
  clear hw T0
  obtain ⟨hk1, hk2, hk3, hk4, hk5, hk6⟩ := Cfg.bd hk
  obtain ⟨csh, ccap, cring, croom, cwk, ccli⟩ := c
  simp only [] at hk1 hk2 hk3 hk4 hk5 hk6
  obtain ⟨nsh, rfl⟩ := Int.eq_ofNat_of_zero_le (show 0 ≤ csh by omega)
  obtain ⟨ncap, rfl⟩ := Int.eq_ofNat_of_zero_le (show 0 ≤ ccap by omega)
  obtain ⟨nring, rfl⟩ := Int.eq_ofNat_of_zero_le (show 0 ≤ cring by omega)
  obtain ⟨nroom, rfl⟩ := Int.eq_ofNat_of_zero_le (show 0 ≤ croom by omega)
  have HCAP := Lib.hid (show 1 ≤ ncap ∧ ncap ≤ 64 by omega)
  have HRING := Lib.hid (show 1 ≤ nring ∧ nring ≤ 64 by omega)
  have HROOM := Lib.hid (show 1 ≤ nroom ∧ nroom ≤ 16 by omega)
  have HSH := Lib.hid (show 1 ≤ nsh ∧ nsh ≤ 4 by omega)
  clear hk1 hk2 hk3 hk4 hk5 hk6
  obtain ⟨c, hcd⟩ : ∃ c : Cfg, c = ⟨nsh, ncap, nring, nroom, cwk, ccli⟩ := ⟨_, rfl⟩
  rw [← hcd] at hk ⊢
  have HB := Lib.hid (check_g c)
  obtain ⟨C, hC⟩ : ∃ C, C = c.cells := ⟨_, rfl⟩
  have hC' := hC
  simp only [Cfg.cells] at hC'
  rw [← hC, hk] at HB
  rw [hcd] at hC'
  simp only [] at hC'
  have HCC := Lib.hid hC'
  have HCD := Lib.hid hcd
  simp only [Cfg.cells, hcd]
  go_enter Tryz.func20, Tryz.ntmps20
  go_wp2_with fail
  rw [← hC']
  clear hC hC' hk hcd
  refine (DoesG.use HB.out (HT.out.alloc (k := w.heap.size) rfl 41 C) [] rfl rfl).mono ?_
  rintro e w1 ⟨gs, ⟨rfl, rfl⟩, Ta⟩
  simp only [putG, List.nil_append, List.append_nil, if_true] at Ta
  have hc0 := Ta.cell 0 0 rfl
  simp only [HCC.out] at hc0
  have HT := Lib.hid Ta
  clear Ta
  obtain ⟨b0, hb0⟩ : ∃ b0, b0 = w.heap.size := ⟨_, rfl⟩
  rw [← hb0] at HT hc0 ⊢
  clear hb0
  go_wp2
  go_region_with (
    go_at_call 70
    refine (DoesG.use logNew_g HT.out.drew [] rfl rfl).mono ?_
    rintro e w2 ⟨gs, ⟨lb, rfl, rfl⟩, Ta⟩
    simp only [putG, List.nil_append, List.append_nil, List.cons_append] at Ta
    have hc1 := Ta.cell 0 0 rfl
    simp only [HCC.out] at hc1
    have hlt1 := Ta.lt 0 0 rfl
    simp only [] at hlt1
    have HT1 := Lib.hid Ta
    clear Ta hc0)
  all_goals
    go_wp2_with fail
    have HT2 := Lib.hid (HT1.out.alloc (k := w2.heap.size) rfl 120 #[.int .i64 nsh, .int .i64 ncap, .int .i64 nring, .int .i64 nroom, .int .i64 cwk, .int .i64 ccli, .pointer none, .slice none 0 0, .pointer none, ptr' lb, .bool false, .int .i64 0, .int .i64 0, .int .i64 0, .int .i64 0, .int .i64 0, .int .i64 0, .int .i64 0, .int .i64 0, .int .i64 0, .int .i64 0, .int .i64 0, .int .u64 0, .int .i64 0, .int .i64 0, .int .i64 0, .slice none 0 0])
    simp only [List.cons_append, List.nil_append] at HT2
    obtain ⟨fb, hfb⟩ : ∃ fb, fb = w2.heap.size := ⟨_, rfl⟩
    rw [← hfb] at HT2 ⊢
    refine (DoesG.use (slabNew_at ncap HCAP.out.1 HCAP.out.2) HT2.out [] rfl rfl).mono ?_
    rintro e w3 ⟨gs, ⟨sb, gS, rfl, hgS, rfl⟩, Ta⟩
    simp only [putG, List.nil_append, List.append_nil, List.cons_append] at Ta
    have hc2 := Ta.cell 0 0 rfl
    simp only [HCC.out] at hc2
    have fF := Ta.free 2 0 rfl
    have hF := Ta.cell 2 0 rfl
    have HT3 := Lib.hid Ta
    clear Ta hc1 hfb hlt1
    go_wp2_with fail
    refine (DoesG.use (pipeNew_g nroom HROOM.out.1 HROOM.out.2) (HT3.out.set 2 0 rfl 6 (ptr' sb)) [] rfl rfl).mono ?_
    rintro e w4 ⟨gs, ⟨pb, gP, rfl, hgP, rfl⟩, Ta⟩
    simp only [putG, List.nil_append, List.append_nil, List.cons_append, List.set_cons_zero, List.set_cons_succ, List.getD_cons_succ, List.getD_cons_zero] at Ta
    have hc3 := Ta.cell 0 0 rfl
    simp only [HCC.out] at hc3
    have fF4 := Ta.free 2 0 rfl
    have hF4 := Ta.cell 2 0 rfl
    have hne := Ta.ne 0 0 2 0 (by decide) rfl rfl
    simp only [] at hne
    have HT4 := Lib.hid (Ta.set 2 0 rfl 8 (ptr' pb))
    simp only [List.set_cons_zero, List.set_cons_succ, List.getD_cons_succ, List.getD_cons_zero] at HT4
    clear Ta hc2 fF hF
    go_wp2
    have T5 : TG [] w [[cl b0 41 C], [cl lb 174 #[.slice none 0 0]], [cl fb 120 (floorLit nsh ncap nring nroom cwk ccli sb pb lb (.slice none 0 0))], gS, gP] (w4.setCell ⟨fb, 8, none⟩ (ptr' pb)) := HT4.out
    go_loopw [6, 7, 37] (fun _ _ i wr => ∃ (k : Nat) (shs : List (Nat × ShardS)) (v : Value) (gR gH : List Blk), k ≤ nsh ∧ shs.length = k ∧ i = .int .i64 k ∧ (∀ x ∈ shs, x.2 = newShard nring) ∧ rowG 61 1 v k (shs.map fun x => ptr' x.1) gR ∧ FamP (fun (x : Nat × ShardS) => isShard x.1 x.2) shs gH ∧
        TG [] w [[cl b0 41 C], [cl lb 174 #[.slice none 0 0]], [cl fb 120 (floorLit nsh ncap nring nroom cwk ccli sb pb lb v)], gS, gP, gR, gH] wr) (fun _ _ i _ => nsh + 1 - (intOf i).toNat)
    case atStart => exact ⟨0, [], .slice none 0 0, [], [], by omega, rfl, rfl, fun x hx => by (cases hx), rowG_nil _ _, rfl, T5.eq (by simp)⟩
    case round =>
      clear T5 HT4 hc3 fF4 hF4
      obtain ⟨k, shs, v, gR, gH, hk, hl, rfl, hnew, hr, hfam, T⟩ := hrel
      have HT := Lib.hid T
      have HR := Lib.hid hr
      have HF := Lib.hid hfam
      have HN := Lib.hid hnew
      have HL := Lib.hid hl
      have hc4 := T.cell 0 0 rfl
      simp only [HCC.out] at hc4
      clear T hr hfam hnew hl
      have hk4 := HSH.out.2
      by_cases hlt : k < nsh
      · go_wp2_with fail
        refine (DoesG.use (shardNew_g nring HRING.out.1 HRING.out.2) (HT.out) [] rfl rfl).mono ?_
        rintro e w1 ⟨gs, ⟨shb, gsh, rfl, hgsh, rfl⟩, Ta⟩
        simp only [putG, List.set_cons_zero, List.set_cons_succ, List.cons_append, List.nil_append, List.append_nil] at Ta
        have hF := Ta.cell 2 0 rfl
        simp only [floorLit] at hF
        have fhF := Ta.free 2 0 rfl
        have HT := Lib.hid Ta
        clear Ta
        go_wp2_with (
          at_builtin
          (with_reducible refine wpList_append_G rfl (.tmp 49) (.tmp 51) 112 rfl 61 1 8 _ Tryz.underlying112 Tryz.infoShard rfl (by decide) ((HT.out).alloc0 _) 5 rfl rfl HR.out rfl ⟨w1.heap.size, 0, none⟩ 1 1 [ptr' shb] rfl rfl (news_alloc _ _ _) (by simp [Value.oneCell']) (by unfold maxLen; omega) (by omega) ?_)
          intro v1 w2 gR1 r1 T1
          obtain ⟨a1, c1, rfl⟩ := r1.val
          simp only [List.set_cons_zero, List.set_cons_succ] at T1
          have hF1 := T1.cell 2 0 rfl
          have fF1 := T1.free 2 0 rfl
          simp only [floorLit] at hF1
          have HT1 := Lib.hid T1
          have HR1 := Lib.hid r1
          clear T1 r1)
        have HT2 := Lib.hid (HT1.out.set 2 0 rfl 7 (.slice a1 (k + 1) c1))
        simp only [List.set_cons_zero, List.set_cons_succ, List.getD_cons_succ, List.getD_cons_zero] at HT2
        have HT3 := Lib.hid (HT2.out.merge 6 7 (by decide) rfl rfl)
        simp only [List.set_cons_zero, List.set_cons_succ, List.getD_cons_succ, List.getD_cons_zero] at HT3
        have HT3 := Lib.hid (HT3.out.pick [0, 1, 2, 3, 4, 5, 6] rfl)
        first
        | (go_roundw
           case rel => exact ⟨k + 1, shs ++ [(shb, newShard nring)], .slice a1 (k + 1) c1, gR1, gH ++ gsh, by omega, by rw [List.length_append, HL.out]; rfl, by go_num, fun x hx => by (rcases List.mem_append.1 hx with h | h; exact HN.out x h; rw [List.mem_singleton.1 h]), by simpa using HR1.out, HF.out.snoc hgsh, HT3.out⟩
           case measure => simp [intOf]; omega)
        | exact ⟨⟨k + 1, shs ++ [(shb, newShard nring)], .slice a1 (k + 1) c1, gR1, gH ++ gsh, by omega, by rw [List.length_append, HL.out]; rfl, by go_num, fun x hx => by (rcases List.mem_append.1 hx with h | h; exact HN.out x h; rw [List.mem_singleton.1 h]), by simpa using HR1.out, HF.out.snoc hgsh, HT3.out⟩, by simp [intOf]; omega⟩
        | ((repeat apply Exists.intro); exact ⟨⟨⟨k + 1, shs ++ [(shb, newShard nring)], .slice a1 (k + 1) c1, gR1, gH ++ gsh, by omega, by rw [List.length_append, HL.out]; rfl, by go_num, fun x hx => by (rcases List.mem_append.1 hx with h | h; exact HN.out x h; rw [List.mem_singleton.1 h]), by simpa using HR1.out, HF.out.snoc hgsh, HT3.out⟩, rfl⟩, by simp [intOf]; omega⟩)
      · obtain rfl : k = nsh := by omega
        have hF5 := HT.out.cell 2 0 rfl
        go_wp2
        go_ret2
        refine ⟨[[cl fb 120 (floorLit k ncap nring nroom cwk ccli sb pb lb v)], gS, gR, gH, gP, [cl lb 174 #[.slice none 0 0]]], ⟨fb, ⟨sb, pb, lb, v⟩, shs, _, gS, gR, gH, gP, _, rfl, ⟨⟨_, rfl, ?_⟩, ?_, ?_, HF.out, hgP, rfl⟩, ?_, ?_, rfl⟩, HT.out.pick [2, 3, 5, 6, 4, 1] rfl⟩
        · exact floorLit_C ⟨k, ncap, nring, nroom, cwk, ccli⟩ sb pb lb v
        · simpa using hgS
        · rw [HL.out]; exact HR.out
        · rw [HL.out]
        · simpa using HN.out
end Go.Proofs.YthbjaoinklhikaaGreat
