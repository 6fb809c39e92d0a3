import Derived.Test.YtnemggminanbbaaSlabP
namespace Go.Proofs.Ytnemggminanbbaa
set_option linter.unusedVariables false
set_option linter.unusedSimpArgs false
open Go.RowKit

theorem slabCount_does (sb rb : Nat) (s : SlabS) :
    Does Try.prog 36 #[.pointer (some ⟨sb, 0, none⟩)] (slabH sb rb s) fun e h' => e = .returned (.int .i64 s.count) ∧ h' = slabH sb rb s := by
  intro w hw
  obtain ⟨o, ⟨C, rfl, hs, h0, hc⟩, T0⟩ := (Turned.refl hw).openAt 0 rfl
  have T0 := Lib.hid T0
  have HC := Lib.hid (And.intro hs (And.intro h0 hc))
  clear hw hs h0 hc
  go_enter Try.func36, Try.ntmps36
  go_wp2_with (go_at_call 63; refine ((loadI_does sb 1 _ C s.count HC.out.2.2).at T0.out 0 rfl).mono ?_
               rintro e w1 ⟨h', ⟨rfl, C1, rfl, hr1⟩, T1⟩; have HR1 := Lib.hid hr1; clear hr1; have T1 := Lib.hid (T1 _ rfl))
  go_ret
  exact ⟨_, ⟨rfl, rfl⟩, T1.out.sayAt 0 rfl _ (fun o ho => by cases ho; exact slabP_recell HC.out.1 HC.out.2.1 HR1.out)⟩

theorem look_does (qb sb rb : Nat) (s : SlabS) (q : Req) :
    Does Try.prog 54 #[.pointer (some ⟨qb, 0, none⟩)] (reqH qb sb q :: slabH sb rb s) fun e h' => e = .returned (.tuple #[]) ∧ h' = reqH qb sb (lookR s q) :: slabH sb rb s := by
  intro w hw
  obtain ⟨o, ⟨C, rfl, hs, h0, hc⟩, T0⟩ := (Turned.refl hw).openAt 1 rfl
  have q0 := blk_cell (T0.blk 0 rfl)
  have hne : qb ≠ sb := T0.ne 0 1 rfl rfl (by decide)
  simp only [reqC] at q0
  have HT := Lib.hid T0
  have HC := Lib.hid (And.intro hs (And.intro h0 hc))
  clear hw hs h0 hc T0
  by_cases hk : (s.recs.length : Int) ≤ s.count
  · skip
    have HK := Lib.hid (show lookR s q = _ from if_pos hk)
    go_enter Try.func54, Try.ntmps54
    go_wp2_with (
      go_at_call 63
      refine ((loadI_does sb 1 _ C s.count HC.out.2.2).at HT.out 1 rfl).mono ?_
      rintro e w1 ⟨h', ⟨rfl, C1, rfl, hr1⟩, Ta⟩
      have T1 := Ta _ rfl
      clear Ta
      have q1 := blk_cell (T1.blk 0 rfl)
      have qf := blk_free (T1.blk 0 rfl)
      simp only [reqC] at q1
      have s1 := (blk_cell (T1.blk 1 rfl) 0).trans ((hr1.other 0 (by omega)).trans HC.out.2.1)
      have HR1 := Lib.hid hr1
      have HT1 := Lib.hid T1
      clear hr1 T1 q0)
    go_region
    go_wp2
    refine bodyPost_ret (results_none rfl _ _ _) rfl ⟨_, ⟨rfl, ?_⟩, (((HT1.out.setAt 0 rfl 3 _).drew).setAt 0 rfl 6 _).sayAt 1 rfl _ (fun o ho => by cases ho; exact slabP_recell HC.out.1 HC.out.2.1 HR1.out)⟩
    rw [HK.out]; rfl
  · skip
    have HK := Lib.hid (show lookR s q = _ from if_neg hk)
    go_enter Try.func54, Try.ntmps54
    go_wp2_with (
      go_at_call 63
      refine ((loadI_does sb 1 _ C s.count HC.out.2.2).at HT.out 1 rfl).mono ?_
      rintro e w1 ⟨h', ⟨rfl, C1, rfl, hr1⟩, Ta⟩
      have T1 := Ta _ rfl
      clear Ta
      have q1 := blk_cell (T1.blk 0 rfl)
      have qf := blk_free (T1.blk 0 rfl)
      simp only [reqC] at q1
      have s1 := (blk_cell (T1.blk 1 rfl) 0).trans ((hr1.other 0 (by omega)).trans HC.out.2.1)
      have HR1 := Lib.hid hr1
      have HT1 := Lib.hid T1
      clear hr1 T1 q0)
    go_region
    go_wp2
    refine bodyPost_end (results_none rfl _ _ _) rfl ⟨_, ⟨rfl, ?_⟩, (((HT1.out.setAt 0 rfl 3 _).drew).setAt 0 rfl 2 _).sayAt 1 rfl _ (fun o ho => by cases ho; exact slabP_recell HC.out.1 HC.out.2.1 HR1.out)⟩
    rw [HK.out]; rfl
end Go.Proofs.Ytnemggminanbbaa
