import Derived.Test.YtnemggminanbbaaSlabA
namespace Go.Proofs.Ytnemggminanbbaa
set_option linter.unusedVariables false
set_option linter.unusedSimpArgs false
open Go.RowKit

theorem more_does (qb sb rb : Nat) (s : SlabS) (q : Req) (b0 : 0 ≤ q.saw) (b1 : q.saw < 64) :
    Does Try.prog 55 #[.pointer (some ⟨qb, 0, none⟩)] (reqH qb sb q :: slabH sb rb s) fun e h' => e = .returned (.tuple #[]) ∧ h' = reqH qb sb (moreR s q).2 :: slabH sb rb (moreR s q).1 := by
  intro w hw
  obtain ⟨o, ⟨C, rfl, hs, h0, hc⟩, T0⟩ := (Turned.refl hw).openAt 1 rfl
  have q0 := blk_cell (T0.blk 0 rfl)
  have qf0 := blk_free (T0.blk 0 rfl)
  have hne : qb ≠ sb := T0.ne 0 1 rfl rfl (by decide)
  simp only [reqC] at q0
  have HT := Lib.hid T0
  have HC := Lib.hid (And.intro hs (And.intro h0 hc))
  clear hw hs h0 hc T0
  have hwr : wrap64 (q.saw + 1) = q.saw + 1 := by unfold wrap64; omega
  by_cases hk : s.count = q.saw
  · have HK := Lib.hid (show moreR s q = _ from if_pos hk)
    go_enter Try.func55, Try.ntmps55
    go_wp2
    go_region_held3 (fun w' => w'.cell? ⟨qb, 0, none⟩ = some (.pointer (some ⟨sb, 0, none⟩)) ∧ w'.cell? ⟨qb, 3, none⟩ = some (.int .i64 q.saw)) (first | exact ⟨(HT.out.setAt 0 rfl 2 _).drew.cell 0 rfl 0, (HT.out.setAt 0 rfl 2 _).drew.cell 0 rfl 3⟩ | exact ⟨q1 0, q1 3⟩) ((
      go_at_call 79
      rw [wrapI (q.saw + 1) (by omega) (by omega)]
      refine ((swapI_does sb 1 _ C s.count q.saw (q.saw + 1) HC.out.2.2).at (HT.out.setAt 0 rfl 2 _).drew 1 rfl).mono ?_
      rintro e w1 ⟨h', ⟨rfl, C1, rfl, hr1⟩, Ta⟩
      have T1 := Ta _ rfl
      clear Ta
      have q1 := blk_cell (T1.blk 0 rfl)
      have qf := blk_free (T1.blk 0 rfl)
      rw [if_pos hk] at hr1
      have HR1 := Lib.hid hr1
      have HT1 := Lib.hid T1
      clear hr1 T1 q0))
    go_wp2
    refine bodyPost_end (results_none rfl _ _ _) rfl ⟨_, ⟨rfl, ?_⟩, (HT1.out.setAt 0 rfl 2 _).sayAt 1 rfl _ (fun o ho => by cases ho; exact slabP_recell HC.out.1 HC.out.2.1 HR1.out)⟩
    rw [HK.out, hk]; rfl
  · have HK := Lib.hid (show moreR s q = _ from if_neg hk)
    go_enter Try.func55, Try.ntmps55
    go_wp2
    go_region_held3 (fun w' => w'.cell? ⟨qb, 0, none⟩ = some (.pointer (some ⟨sb, 0, none⟩)) ∧ w'.cell? ⟨qb, 3, none⟩ = some (.int .i64 q.saw)) (first | exact ⟨(HT.out.setAt 0 rfl 2 _).drew.cell 0 rfl 0, (HT.out.setAt 0 rfl 2 _).drew.cell 0 rfl 3⟩ | exact ⟨q1 0, q1 3⟩) ((
      go_at_call 79
      rw [wrapI (q.saw + 1) (by omega) (by omega)]
      refine ((swapI_does sb 1 _ C s.count q.saw (q.saw + 1) HC.out.2.2).at (HT.out.setAt 0 rfl 2 _).drew 1 rfl).mono ?_
      rintro e w1 ⟨h', ⟨rfl, C1, rfl, hr1⟩, Ta⟩
      have T1 := Ta _ rfl
      clear Ta
      have q1 := blk_cell (T1.blk 0 rfl)
      have qf := blk_free (T1.blk 0 rfl)
      rw [if_neg hk] at hr1
      have HR1 := Lib.hid hr1
      have HT1 := Lib.hid T1
      clear hr1 T1 q0))
    go_wp2
    refine bodyPost_end (results_none rfl _ _ _) rfl ⟨_, ⟨rfl, ?_⟩, HT1.out.sayAt 1 rfl _ (fun o ho => by cases ho; exact slabP_recell HC.out.1 HC.out.2.1 HR1.out)⟩
    rw [HK.out]; rfl
end Go.Proofs.Ytnemggminanbbaa
