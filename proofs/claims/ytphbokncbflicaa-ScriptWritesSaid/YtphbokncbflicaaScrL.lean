import Derived.Test.YtphbokncbflicaaScrK
import Derived.BigQuiet
import Derived.Deep.RegionWith
namespace Go.Proofs.Ytphbokncbflicaa
set_option linter.unusedVariables false
set_option linter.unusedSimpArgs false
open Go.RowKit Go.Shelf

set_option maxRecDepth 100000 in
set_option maxHeartbeats 8000000 in
theorem lawBack_walk (a b : Option Addr) (ca cb : Nat) (A : List Int) (L : List Ent) (w : World) (ha : InU8 w a ca A) (hb : EntsAt w b L) (hw : ∀ e ∈ L, e.wf) (hL9 : L.length ≤ 9223372036854775807) :
    Calls Try.prog 6 #[.slice a A.length ca, .slice b L.length cb] w fun e w' => e = .returned (.bool true) ∧ Grew w w' := by
  have hA9 : A.length ≤ 9223372036854775807 := Nat.le_trans ha.le ha.max
  by_cases c1 : 5000 < A.length
  · go_enter Try.func6, Try.ntmps6
    go_wp2_with (go_at_call 7; refine (alive_calls _).mono ?_; rintro e w' ⟨rfl, hg⟩)
    go_ret
    exact ⟨rfl, hg⟩
  by_cases c2 : 500 < L.length
  · go_enter Try.func6, Try.ntmps6
    go_wp2_with (go_at_call 7; refine (alive_calls _).mono ?_; rintro e w' ⟨rfl, hg⟩)
    go_ret
    exact ⟨rfl, hg⟩
  have hN : chunkN A.length ≤ 834 := by unfold chunkN; omega
  have eN : ((A.length : Int) + 5) / 6 = (chunkN A.length : Int) := by unfold chunkN; omega
  have hgood := entsK_good A (chunkN A.length) ha.bytes.1
  have hall := all_ok_of _ hgood
  have hrt := entsK_bytesOf _ hgood
  rw [entsK_length] at hrt
  have lP := entsK_length A (chunkN A.length)
  have P1 := Lib.hid (fun (w1 : World) (h : Grew w w1) => parse_calls a ca A (by omega) ha.le ha.max w1 (ha.bytes.grew h))
  generalize hNn : chunkN A.length = N at *
  generalize hPP : entsK A N = P at *
  have hP6 : chunkN (6 * N) = N := chunkN_mul N
  have HP6 := Lib.hid hP6; clear hP6
  have HALL := Lib.hid hall; have HRT := Lib.hid hrt; have LP := Lib.hid lP; have HGOOD := Lib.hid hgood
  have HB := Lib.hid hb; have HW := Lib.hid hw
  have EN := Lib.hid eN
  clear hNn hPP hall hrt lP hgood hb hw eN ha
  go_enter Try.func6, Try.ntmps6
  go_wp2_with (go_at_call 7; refine (alive_calls _).mono ?_; rintro e w1 ⟨rfl, hg⟩)
  refine (P1.out w1 hg).mono ?_
  rintro e w2 ⟨vp, rfl, hrp, hg2⟩
  have G2 := Lib.hid (Only.trans hg hg2)
  obtain ⟨ap, cp, rfl, _, hpe⟩ := EntsAt.of_row hrp
  rw [LP.out]
  have HPE := Lib.hid hpe
  clear hrp hg hg2 P1 hpe
  go_wp2_with fail
  have ENC := encode_calls ap cp P w2 (by rw [LP.out]; omega) HPE.out
  rw [LP.out] at ENC
  refine ENC.mono ?_
  rintro e w3 ⟨hg3, ⟨_, vc, rfl, hrc⟩ | ⟨hno, _⟩⟩
  case inr => rw [HALL.out] at hno; cases hno
  obtain ⟨ac, cc, rfl, hlc, hci⟩ := row_bytes hrc (bytesOf_range P)
  rw [LP.out] at hlc hrc ⊢
  have G3 := Lib.hid (Only.trans G2.out hg3)
  have HPE3 := Lib.hid (HPE.out.grew hg3)
  have PC := parse_calls ac cc (bytesOf P) (by omega) hci.le hci.max w3 hci.bytes
  rw [hlc, HP6.out, HRT.out] at PC
  have PCC := Lib.hid PC
  clear ENC HPE hg3 hrc hci hlc PC
  go_wp2_with fail
  refine PCC.out.mono ?_
  rintro e w4 ⟨vq, rfl, hrq, hg4⟩
  obtain ⟨aq, cq, rfl, _, hqe⟩ := EntsAt.of_row hrq
  rw [LP.out]
  have G4 := Lib.hid (Only.trans G3.out hg4)
  have HPE4 := Lib.hid (HPE3.out.grew hg4)
  have HQE := Lib.hid hqe
  clear hrq hg4 hqe PCC HPE3
  have eN2 := EN.out
  go_wp2
  clear eN2
  go_loopw [9] (fun i wr => ∃ k : Nat, k ≤ N ∧ i = .int .i64 k ∧ Grew w4 wr) (fun i _ => N - (intOf i).toNat)
  case atStart => exact ⟨0, Nat.zero_le _, rfl, Only.refl _ _⟩
  case round =>
    obtain ⟨k, hk, rfl, hG⟩ := hrel
    by_cases hlt : k < N
    · obtain ⟨gp, op, rfl, hgp, p0, p1, p2, p3, p4, p5⟩ := (HPE4.out.grew hG).cells (i := k) (by rw [LP.out]; exact hlt)
      obtain ⟨gq, oq, rfl, hgq, q0, q1, q2, q3, q4, q5⟩ := (HQE.out.grew hG).cells (i := k) (by rw [LP.out]; exact hlt)
      have hok : (P.getD k Ent.zero).ok = true := by
        rw [List.getD_eq_getElem?_getD, List.getElem?_eq_getElem (by rw [LP.out]; exact hlt)]
        exact (HGOOD.out _ (List.getElem_mem _)).1
      generalize P.getD k Ent.zero = e at *
      obtain ⟨f1, f2, f3, f4, f5, f6⟩ := e
      simp only at p0 p1 p2 p3 p4 p5 q0 q1 q2 q3 q4 q5
      have HGW := Lib.hid hG; clear hG
      go_wp2
      go_region_with (go_at_call 15; refine (scrOk_calls _ _ _ _ _ _ _).mono ?_; rw [hok]; rintro e w5 ⟨rfl, hg5⟩; have HG5 := Lib.hid hg5; clear hg5)
      all_goals
        have HG6 := Lib.hid (Only.trans HGW.out.drew HG5.out)
        clear p0 p1 p2 p3 p4 p5 q0 q1 q2 q3 q4 q5 hok
      all_goals go_wp2
      all_goals
        go_roundw
        case rel => exact ⟨k + 1, by omega, by go_num, HG6.out⟩
        case measure => simp [intOf]; omega
    · have HGW := Lib.hid hG; clear hG
      go_wp2
      obtain ⟨wo, rfl⟩ : ∃ wo : World, wo = wr := ⟨_, rfl⟩
      obtain ⟨i0, hi, hz0, hz1, hz2⟩ := info_parts Try.infoEnt
      have INF := Lib.hid (And.intro hi (And.intro hz0 (And.intro hz1 hz2)))
      clear hi hz0 hz1 hz2
      have HB5 := Lib.hid (HB.out.grew (Only.trans G4.out HGW.out))
      have LR := Lib.hid hL9; clear hL9
      have hl500 : L.length ≤ 500 := by omega
      have HPE5 := Lib.hid (HPE4.out.grew HGW.out)
      have G5 := Lib.hid (Only.trans G4.out HGW.out)
      clear HPE4 HQE HGW HB
      go_loopw [10, 11] (fun v i wr => ∃ k : Nat, k ≤ L.length ∧ i = .int .i64 k ∧ wr.ownsRow wo.heap.size 34 6 v k (cellsOf (L.take k)) ∧ Grew wo wr) (fun _ i _ => L.length - (intOf i).toNat)
      case atStart => exact ⟨0, Nat.zero_le _, rfl, World.ownsRow_nil _ _ _ _, Only.refl _ _⟩
      case round =>
        obtain ⟨k2, hk2, rfl, hrow, hG⟩ := hrel
        by_cases hlt2 : k2 < L.length
        · obtain ⟨gl, ol, rfl, hgl, p0, p1, p2, p3, p4, p5⟩ := (HB5.out.grew hG).cells hlt2
          have HT := Lib.hid (take_snocE L k2 hlt2)
          generalize L.getD k2 Ent.zero = e at *
          obtain ⟨f1, f2, f3, f4, f5, f6⟩ := e
          simp only at p0 p1 p2 p3 p4 p5
          have HROW := Lib.hid hrow; have HGW := Lib.hid hG
          clear hrow hG
          go_wp2_with fail
          refine (of_calls _ _ _ _ _ _ _).mono ?_
          rintro e w5 ⟨rfl, hg5⟩
          simp only [Ent.val]
          have HG5 := Lib.hid hg5
          have HROW5 := Lib.hid (row_only HROW.out hg5 (fun _ _ x => x))
          have hs5 := hg5.size
          have hs0 := HGW.out.size
          clear hg5 p0 p1 p2 p3 p4 p5
          go_wp2_with (
            at_builtin
            refine wpList_append_own _ rfl (.tmp 90) (.tmp 96) 24 rfl wo.heap.size 34 i0 _ 6 48 Try.underlying24 INF.out.1 INF.out.2.1 INF.out.2.2.1 INF.out.2.2.2 rfl (by decide) _ k2 _ rfl (HROW5.out.alloc _) ⟨w5.heap.size, 0, none⟩ 1 1 (Ent.cells ⟨f1, f2, f3, f4, f5, f6⟩) rfl rfl (cells_new _ _ _ _ rfl) (by simp [Ent.cells, Value.oneCell']) (by unfold maxLen; omega) (by omega) (by simp; omega) ?_
            intro v' w6 hown' hgrow _
            have K6 := Lib.hid (Only.trans (Only.trans (HG5.out.mono (S' := fun j => wo.heap.size ≤ j) (fun _ _ x => x.elim)) ((Only.refl _ w5).alloc _)) ((Only.of_grownBy hgrow).mono (fun j _ e => row_block HROW5.out e)))
            have OWN := Lib.hid hown'
            clear hgrow hown')
          go_roundw
          case rel =>
            refine ⟨k2 + 1, by omega, by go_num, ?_, Only.of_new K6.out HGW.out (fun i h => h)⟩
            rw [HT.out, cellsOf_snoc]; exact OWN.out
          case measure => simp [intOf]; omega
        · have hk2' : k2 = L.length := by omega
          subst hk2'
          rw [List.take_length] at hrow
          obtain ⟨ai, ci, rfl, _, hie⟩ := EntsAt.of_row hrow
          have HIE := Lib.hid hie
          have G6 := Lib.hid (Only.trans G5.out hG)
          clear hrow hie hG HPE5 HB5
          cases hLok : L.all Ent.ok
          · go_wp2_with fail
            refine (encode_calls ai ci L _ (by omega) HIE.out).mono ?_
            rintro e w7 ⟨hg7, ⟨hyes, _⟩ | ⟨_, rfl⟩⟩
            · rw [hLok] at hyes; cases hyes
            · have HG7 := Lib.hid hg7; clear hg7
              go_wp2
              go_ret
              exact ⟨rfl, Only.trans G6.out HG7.out⟩
          · go_wp2_with fail
            refine (encode_calls ai ci L _ (by omega) HIE.out).mono ?_
            rintro e w7 ⟨hg7, ⟨_, vd, rfl, hrd⟩ | ⟨hno, _⟩⟩
            case inr => rw [hLok] at hno; cases hno
            obtain ⟨ad, cd, rfl, hld, hdi⟩ := row_bytes hrd (bytesOf_range L)
            have hLgood : ∀ e ∈ L, e.ok = true ∧ e.wf := fun e he => ⟨by rw [List.all_eq_true] at hLok; exact hLok e he, HW.out e he⟩
            have hrtL := entsK_bytesOf L hLgood
            have PD := parse_calls ad cd (bytesOf L) (by omega) hdi.le hdi.max w7 hdi.bytes
            rw [hld, chunkN_mul, hrtL] at PD
            have PDD := Lib.hid PD
            have HG7 := Lib.hid (Only.trans G6.out hg7)
            have HIE7 := Lib.hid (HIE.out.grew hg7)
            clear PD hg7 hrd hdi hld hrtL hLgood G6 HIE hLok
            go_wp2_with fail
            refine PDD.out.mono ?_
            rintro e w8 ⟨vr, rfl, hrr, hg8⟩
            obtain ⟨ar, cr, rfl, _, hre⟩ := EntsAt.of_row hrr
            have HG8 := Lib.hid (Only.trans HG7.out hg8)
            have HIE8 := Lib.hid (HIE7.out.grew hg8)
            have HRE := Lib.hid hre
            clear hrr hg8 hre PDD HG7 HIE7
            go_wp2
            obtain ⟨wq, rfl⟩ : ∃ wq : World, wq = w8 := ⟨_, rfl⟩
            go_loopw [15] (fun i wr => ∃ k : Nat, k ≤ L.length ∧ i = .int .i64 k ∧ Grew wq wr) (fun i _ => L.length - (intOf i).toNat)
            case atStart => exact ⟨0, Nat.zero_le _, rfl, Only.refl _ _⟩
            case round =>
              obtain ⟨k3, hk3, rfl, hG⟩ := hrel
              by_cases hlt3 : k3 < L.length
              · obtain ⟨gi, oi, rfl, hgi, p0, p1, p2, p3, p4, p5⟩ := (HIE8.out.grew hG).cells hlt3
                obtain ⟨gr, or, rfl, hgr, q0, q1, q2, q3, q4, q5⟩ := (HRE.out.grew hG).cells hlt3
                generalize L.getD k3 Ent.zero = e at *
                have HGW := Lib.hid hG; clear hG
                go_wp2
                go_quiet (fail)
                clear p0 p1 p2 p3 p4 p5 q0 q1 q2 q3 q4 q5
                go_wp2
                go_roundw
                case rel => exact ⟨k3 + 1, by omega, by go_num, HGW.out.drewN _⟩
                case measure => simp [intOf]; omega
              · have HGW := Lib.hid hG; clear hG
                go_wp2
                go_ret
                exact ⟨rfl, Only.trans HG8.out HGW.out⟩
end Go.Proofs.Ytphbokncbflicaa
