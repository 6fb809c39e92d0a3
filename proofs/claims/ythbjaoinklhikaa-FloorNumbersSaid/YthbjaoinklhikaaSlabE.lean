import Derived.Test.YthbjaoinklhikaaSlabD
namespace Go.Proofs.Ythbjaoinklhikaa
set_option linter.unusedVariables false
set_option linter.unusedSimpArgs false
open Go.RowKit

def atV (rb n : Nat) (k : Int) : Value := if 0 ≤ k ∧ k < n then .pointer (some ⟨rb, k.toNat * 6, none⟩) else .pointer none
theorem atV_has (rb : Nat) {s : SlabS} {j : Nat} (h : s.has j) : atV rb s.recs.length j = .pointer (some ⟨rb, j * 6, none⟩) := (if_pos h).trans (by simp)
theorem atV_not (rb : Nat) {s : SlabS} {k : Int} (h : ¬ s.has k) : atV rb s.recs.length k = .pointer none := if_neg h
theorem slabAt_does (sb rb n : Nat) (c : Int) (k : Int) (hn : n ≤ 64) :
    Does Try.prog 59 #[.pointer (some ⟨sb, 0, none⟩), .int .i64 k] [(sb, slabP rb n c)] fun e h' => e = .returned (atV rb n k) ∧ h' = [(sb, slabP rb n c)] := by
  intro w hw
  obtain ⟨o, ⟨C, rfl, hs, h0, hc⟩, T0⟩ := (Turned.refl hw).openAt 0 rfl
  have s0 : w.cell? ⟨sb, 0, none⟩ = _ := (T0.cell 0 (show _ = some (pt sb _ _) from rfl) 0).trans h0
  have HT := Lib.hid (T0.sayAt 0 rfl (slabP rb n c) (fun o ho => by cases ho; exact ⟨C, rfl, hs, h0, hc⟩))
  clear hw hs h0 hc T0
  by_cases h1 : 0 ≤ k
  · obtain ⟨j, rfl⟩ := Int.eq_ofNat_of_zero_le h1
    by_cases h2 : j < n
    · have HV := Lib.hid (show atV rb n (j : Int) = .pointer (some ⟨rb, j * 6, none⟩) from by unfold atV; rw [if_pos ⟨h1, by omega⟩]; simp)
      go_enter Try.func59, Try.ntmps59
      go_wp2
      all_goals go_ret
      all_goals exact ⟨_, ⟨by rw [HV.out]; rfl, rfl⟩, HT.out⟩
    · have HV := Lib.hid (show atV rb n (j : Int) = .pointer none from by unfold atV; rw [if_neg (by omega)])
      go_enter Try.func59, Try.ntmps59
      go_wp2
      all_goals go_ret
      all_goals exact ⟨_, ⟨by rw [HV.out]; rfl, rfl⟩, HT.out⟩
  · have HV := Lib.hid (show atV rb n k = .pointer none from by unfold atV; rw [if_neg (by omega)])
    go_enter Try.func59, Try.ntmps59
    go_wp2
    all_goals go_ret
    all_goals exact ⟨_, ⟨by rw [HV.out]; rfl, rfl⟩, HT.out⟩

theorem reqId_does (qb sb : Nat) (q : Req) :
    Does Try.prog 18 #[.pointer (some ⟨qb, 0, none⟩)] [reqH qb sb q] fun e h' =>
      e = .returned (.tuple #[.int .u64 (if q.st = 2 then q.id else 0), .int .i64 (if q.st = 2 then 0 else 7)]) ∧ h' = [reqH qb sb q] := by
  intro w hw
  have T0 := Turned.refl hw
  have q0 := T0.cell 0 (show _ = some (pt qb _ _) from rfl)
  simp only [reqC] at q0
  have HT := Lib.hid T0
  clear hw T0
  by_cases h2 : q.st = 2
  all_goals
    go_enter Try.func18, Try.ntmps18
    go_wp2
    all_goals go_ret2
    all_goals exact ⟨_, ⟨by simp [h2], rfl⟩, HT.out⟩

theorem slabBegin_does (sb : Nat) (p : Int) :
    Does Try.prog 16 #[.pointer (some ⟨sb, 0, none⟩), .int .u64 p] [] fun e h' =>
      ∃ qb, e = .returned (.pointer (some ⟨qb, 0, none⟩)) ∧ h' = [reqH qb sb ⟨p, 0, 0, 0, 0, 0⟩] := by
  intro w hw
  have HT := Lib.hid (Turned.refl hw)
  clear hw
  go_enter Try.func16, Try.ntmps16
  go_wp2
  go_ret
  exact ⟨_, ⟨_, rfl, rfl⟩, HT.out.alloc rfl _ _⟩


theorem slabWord_does (sb rb : Nat) (s : SlabS) (k : Int) (hn : s.recs.length ≤ 64) :
    Does Try.prog 19 #[.pointer (some ⟨sb, 0, none⟩), .int .i64 k] (slabH sb rb s) fun e h' =>
      e = .returned (.tuple #[.int .u64 (s.word k), .int .i64 (s.werr k)]) ∧ h' = slabH sb rb s := by
  intro w hw
  have HT := Lib.hid (Turned.refl hw)
  clear hw
  by_cases h : s.has k
  · obtain ⟨j, rfl⟩ := SlabS.has_nat h
    obtain ⟨r, hr, hrd⟩ := SlabS.has_at h
    have HV := Lib.hid (atV_has rb h)
    have HP := Lib.hid (show s.word j = r.w ∧ s.werr j = 0 from ⟨by unfold SlabS.word; rw [if_pos h, hrd], if_pos h⟩)
    clear hrd h
    have HR := Lib.hid hr; clear hr
    go_enter Try.func19, Try.ntmps19
    go_wp2_with (first
      | (go_at_call 59
         refine ((slabAt_does sb rb s.recs.length s.count j hn).at HT.out 0 rfl).mono ?_
         rintro e w1 ⟨h', ⟨he, rfl⟩, Ta⟩
         rw [HV.out] at he
         subst he
         obtain ⟨o, ⟨D, rfl, hd, hD⟩, T1⟩ := (Ta _ rfl).openAt 1 rfl
         have HD := Lib.hid (And.intro hd hD)
         have HT1 := Lib.hid T1
         clear T1 hd hD Ta)
      | (go_at_call 60
         refine ((loadW_does rb (j * 6) _ D r.w (HD.out.2 j r HR.out).1).at HT1.out 1 rfl).mono ?_
         rintro e w2 ⟨h', ⟨rfl, C1, rfl, hr1⟩, Ta⟩
         have HR1 := Lib.hid hr1
         have HT2 := Lib.hid ((Ta _ rfl).sayAt 1 rfl (recsP s.recs) (fun o ho => by cases ho; exact ⟨C1, rfl, recs_same HD.out.1 HD.out.2 HR.out HR1.out⟩))
         clear Ta hr1))
    go_ret2
    exact ⟨_, ⟨by rw [HP.out.1, HP.out.2]; rfl, rfl⟩, HT2.out⟩
  · have HV := Lib.hid (atV_not rb h)
    have HP := Lib.hid (show s.word k = 0 ∧ s.werr k = 4 from ⟨if_neg h, if_neg h⟩)
    clear h
    go_enter Try.func19, Try.ntmps19
    go_wp2_with (
      go_at_call 59
      refine ((slabAt_does sb rb s.recs.length s.count k hn).at HT.out 0 rfl).mono ?_
      rintro e w1 ⟨h', ⟨he, rfl⟩, Ta⟩
      rw [HV.out] at he
      subst he
      have HT1 := Lib.hid (Ta _ rfl)
      clear Ta)
    go_ret2
    exact ⟨_, ⟨by rw [HP.out.1, HP.out.2]; rfl, rfl⟩, HT1.out⟩
end Go.Proofs.Ythbjaoinklhikaa
