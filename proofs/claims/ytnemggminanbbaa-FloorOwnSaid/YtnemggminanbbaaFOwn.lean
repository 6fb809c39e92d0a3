import Derived.Test.YtnemggminanbbaaFloorActs
import Derived.Test.YtnemggminanbbaaFloorL
import Derived.Test.YtnemggminanbbaaFloorR
import Derived.Test.YtnemggminanbbaaFloorN
import Derived.Test.YtnemggminanbbaaFloorU
import Derived.Test.YtnemggminanbbaaLock
import Derived.Test.YtnemggminanbbaaPipeP
import Derived.Test.YtnemggminanbbaaSlabX
import Derived.Test.YtnemggminanbbaaSlabL
namespace Go.Proofs.Ytnemggminanbbaa
set_option linter.unusedVariables false
set_option linter.unusedSimpArgs false
open Go.RowKit Go.Shelf

/-! ## Two floors: what is done to one leaves the other -/
def flatV (l : List (Array Value)) : List Value := l.flatMap Array.toList
def fires (l : List FireS) : List Value := flatV (l.map fun f => f.vals.toArray)
def isLog (lb : Nat) (l : List FireS) (g : List Blk) : Prop := ∃ v gr, rowG 68 4 v l.length (fires l) gr ∧ g = [cl lb 123 #[v]] ++ gr
section
variable {lb : Nat} {l hs : List FireS} {g gh : List Blk} {hv : Value}
theorem fires_app (a b : List FireS) : fires (a ++ b) = fires a ++ fires b := by simp [fires, flatV]
theorem fires_len (a : List FireS) : (fires a).length = a.length * 4 := by
  induction a with
  | nil => rfl
  | cons x a ih =>
    show (x.vals ++ fires a).length = _
    rw [List.length_append, ih]
    show 4 + _ = _
    rw [List.length_cons]; omega
theorem fires_one (a : List FireS) : ∀ u ∈ fires a, u.oneCell' = true := by
  induction a with
  | nil => intro u hu; cases hu
  | cons x a ih =>
    intro u hu
    rcases List.mem_append.1 (show u ∈ x.vals ++ fires a from hu) with hu | hu
    · simp only [FireS.vals, List.mem_cons, List.not_mem_nil, or_false] at hu
      rcases hu with rfl | rfl | rfl | rfl <;> rfl
    · exact ih u hu
set_option maxRecDepth 100000 in
theorem logPut_g (hg : isLog lb l g) (hh : rowG 68 4 hv hs.length (fires hs) gh) (h0 : 0 < hs.length) (hn : l.length + hs.length ≤ 2000000) :
    DoesG Try.prog 26 #[ptr' lb, hv] [g, gh] fun e gs => e = .returned (.tuple #[]) ∧ ∃ g', isLog lb (l ++ hs) g' ∧ gs = [g', gh] := by
  obtain ⟨v, gr, hr, rfl⟩ := hg
  have HH := Lib.hid hh
  obtain ⟨hb, hcap, hcur, rfl, rfl, hc1, hc2, hc3, hc4⟩ := hh.open h0
  obtain ⟨av, cap, hv⟩ := rowG.val hr
  subst hv
  intro w hw
  have T0 := TG.refl hw
  have HT := Lib.hid T0
  clear hw T0
  have HT := Lib.hid (HT.out.sum (H' := [[cl lb 123 #[.slice av l.length cap]], gr, [cl hb 68 hcur]]) (fun n ha h0 h1 h2 => by simp only [SU, ha, h0, h1, h2] <;> omega))
  have c0 := HT.out.cell 0 0 rfl 0
  have f0 := HT.out.free 0 0 rfl 0
  simp only [List.getElem?_toArray, List.getElem?_cons_zero] at c0
  have hnews : ∀ j u, (fires hs)[j]? = some u → w.cell? ((⟨hb, 0, none⟩ : Addr).add j) = some u := fun j u hu => by
    have hj := (List.getElem?_eq_some_iff.1 hu).1
    rw [fires_len] at hj
    have := (HT.out.cell 2 0 rfl j).trans ((hc4 j hj).trans hu)
    have e : (⟨hb, 0, none⟩ : Addr).add j = ⟨hb, j, none⟩ := by
      unfold Addr.add
      split
      · next h => subst h; rfl
      · simp
    rw [e]; exact this
  have HR := Lib.hid hr
  have HNW := Lib.hid hnews
  have HO := Lib.hid (fires_one hs)
  have HL := Lib.hid (fires_len hs)
  have HF := Lib.hid (fires_app l hs)
  clear hr hh hc3 hc4 hnews
  go_enter Try.func26, Try.ntmps26
  go_wp2_with (
    at_builtin
    (with_reducible refine wpList_append_G rfl (.tmp 10) (.tmp 11) 121 rfl 68 4 32 _ Try.underlying121 fire_info rfl (by decide) HT.out 1 rfl rfl HR.out rfl ⟨hb, 0, none⟩ hs.length hcap (fires hs) rfl HL.out HNW.out HO.out (by unfold maxLen; omega) (by omega) ?_)
    intro v1 w2 g2 r1 T1
    simp only [List.set_cons_zero, List.set_cons_succ] at T1
    have c1 := T1.cell 0 0 rfl 0
    have f1 := T1.free 0 0 rfl 0
    have lt1 := T1.lt 0 0 rfl
    obtain ⟨a1, cap1, hv1⟩ := rowG.val r1
    subst hv1
    have T1 := Lib.hid T1
    have r1 := Lib.hid r1
    simp only [List.getElem?_toArray, List.getElem?_cons_zero] at c1)
  go_end0
  exact ⟨_, ⟨rfl, [cl lb 123 #[.slice a1 (l.length + hs.length) cap1]] ++ g2, ⟨_, g2, by rw [List.length_append, HF.out]; exact r1.out, rfl⟩, rfl⟩, (((T1.out.set 0 0 rfl 0 (.slice a1 (l.length + hs.length) cap1)).eq (H' := [[cl lb 123 #[.slice a1 (l.length + hs.length) cap1]], g2, [cl hb 68 hcur]]) rfl).sum (fun n ha h0 h1 h2 => by simp only [SU, ha, h0, h1, h2] <;> omega))⟩
end
theorem pipe_emptyN' {n pb : Nat} {g : List Blk} (h : emptyPipeN n pb g) : isPipe pb (newPipe n) g := by
  obtain ⟨cb, lb, hb, rfl⟩ := h
  exact ⟨cb, lb, hb, 0, 0, [], _, ⟨(by intro a h; cases h), rfl⟩, rfl, by simp [noList, nodesB, nxV, lsV, pipeB, newPipe]⟩
/-- the shard that is a slot's home, its lock apart -/
theorem own_home {shs : List (Nat × ShardS)} {gH : List Blk} {n : Nat} (hs : FamP (fun x => isShard x.1 x.2) shs gH) (hl : (shs.length : Int) = 2) (hnew : ∀ x ∈ shs, x.2 = newShard n) (i : Int) (h0 : 0 ≤ i) :
    ∃ b rb lb wb gl rest, homeV (shs.map Prod.fst) i = ptr' b ∧ isLock lb 0 0 gl ∧ gH.Perm (shardB b rb lb wb ++ (gl ++ rest)) := by
  have hm0 : 0 ≤ i % 2 := Int.emod_nonneg _ (by omega)
  have hm1 : i % 2 < 2 := Int.emod_lt_of_pos _ (by omega)
  obtain ⟨k, hk⟩ := Int.eq_ofNat_of_zero_le hm0
  have hkl : k < shs.length := by omega
  obtain ⟨x, y, hx, hp, _⟩ := hs.out (List.getElem?_eq_getElem hkl)
  obtain ⟨rb, lb, wb, gr, gl, _, h2, rfl⟩ := hx
  rw [hnew _ (List.getElem_mem hkl)] at h2
  refine ⟨shs[k].1, rb, lb, wb, gl, gr ++ y, ?_, h2, ?_⟩
  · unfold homeV
    rw [if_pos h0, List.length_map, hl, hk, Int.toNat_natCast, List.getD_eq_getElem?_getD, List.getElem?_map, List.getElem?_eq_getElem hkl]
    rfl
  · refine hp.trans ?_
    classical
    refine List.perm_iff_count.2 fun a => ?_
    simp only [shardB, List.count_append]
    omega
theorem doF_nt {s : CntS} {z : ActF} {k : Nat} (h : CntOk s k) : CntOk (doF z s).1 (k + 1) := doF_ok h z
set_option maxRecDepth 100000 in
set_option maxHeartbeats 8000000 in
theorem lawOwn_walk (a : Option Addr) (cap : Nat) (zs : List ActF) (sl : Int) (w : World) (ha : ActsAt w a zs) (h9 : zs.length ≤ 9223372036854775807) (hs0 : 0 ≤ sl) (hs1 : sl ≤ 255) :
    Calls Try.prog 4 #[.slice a zs.length cap, .int .u8 sl] w fun e w' => e = .returned (.bool true) ∧ Below w.heap.size w w' := by
  have HT := Lib.hid (TG.ofW (w := w))
  have HA := Lib.hid ha
  clear ha
  by_cases hbig : 200 < zs.length
  · go_enter Try.func4, Try.ntmps4
    go_wp2_with fail
    refine (DoesG.use (alive_g) (HT.out) [] rfl rfl).mono ?_
    rintro e w1 ⟨gs, ⟨rfl, rfl⟩, Ta⟩
    simp only [PU] at Ta
    have HT := Lib.hid Ta
    clear Ta
    go_wp2
    go_ret
    exact ⟨rfl, HT.out.bel⟩
  generalize hn : zs.length = n at *
  have HN := Lib.hid hn
  clear hn
  go_enter Try.func4, Try.ntmps4
  go_wp2_with fail
  refine (DoesG.use (alive_g) (HT.out) [] rfl rfl).mono ?_
  rintro e w1 ⟨gs, ⟨rfl, rfl⟩, Ta⟩
  simp only [PU] at Ta
  have HT := Lib.hid Ta
  clear Ta
  go_wp2_with fail
  refine (DoesG.use (plain_g 2 8) (HT.out) [] rfl rfl).mono ?_
  rintro e w1 ⟨gs, ⟨rfl, rfl⟩, Ta⟩
  simp only [PU] at Ta
  have HT := Lib.hid Ta
  clear Ta
  go_wp2_with fail
  refine (DoesG.use (floorNew_g (plainCfg 2 8) (by decide)) (HT.out) [] rfl rfl).mono ?_
  rintro e w1 ⟨gs, ⟨fa, pa, sha, aF, aS, aR, aH, aP, aL, rfl, hall, hlen, hnew, rfl⟩, Ta⟩
  simp only [PU] at Ta
  have HT := Lib.hid Ta
  clear Ta
  have hF := Lib.hid hall.floor
  have AS := Lib.hid hall.slab
  have AR := Lib.hid hall.row'
  have AP := Lib.hid (pipe_emptyN' hall.pipeN)
  have AL := Lib.hid (show isLog pa.lb [] aL from ⟨.slice none 0 0, [], rowG_nil _ _, by rw [hall.log]; simp⟩)
  have AH := Lib.hid (own_home hall.shards hlen hnew sl hs0)
  have AN := Lib.hid (show 1 ≤ (sha.map Prod.fst).length by rw [List.length_map]; have : (sha.length : Int) = 2 := hlen; omega)
  clear hall hlen hnew
  go_wp2_with fail
  refine (DoesG.use (plain_g 2 8) (HT.out) [] rfl rfl).mono ?_
  rintro e w1 ⟨gs, ⟨rfl, rfl⟩, Ta⟩
  simp only [PU] at Ta
  have HT := Lib.hid Ta
  clear Ta
  go_wp2_with fail
  refine (DoesG.use (floorNew_g (plainCfg 2 8) (by decide)) (HT.out) [] rfl rfl).mono ?_
  rintro e w1 ⟨gs, ⟨fb, pb, shb, bF, bS, bR, bH, bP, bL, rfl, hall, hlen, hnew, rfl⟩, Ta⟩
  simp only [PU] at Ta
  have HT := Lib.hid Ta
  clear Ta
  have BF := Lib.hid hall.floor
  have BS := Lib.hid hall.slab
  have BR := Lib.hid hall.row'
  have BP := Lib.hid hall.pipeN.is
  have BL := Lib.hid hall.log
  have BH := Lib.hid (own_home hall.shards hlen hnew sl hs0)
  have BN := Lib.hid (show 1 ≤ (shb.map Prod.fst).length by rw [List.length_map]; have : (shb.length : Int) = 2 := hlen; omega)
  clear hall hlen hnew
  have HR := Lib.hid (show ∃ s gF gT tr, CntOk s 0 ∧ isFloor fa pa (flOf (plainCfg 2 8) s) tr gF ∧ trG tr s.l gT ∧ TG [] w ([gF, gT] ++ [aS, aR, aH, aP, aL, bF, bS, bR, bH, bP, bL]) w1 from ⟨cnt0, aF, [], _, cnt0_ok, hF.out, trG_nil, HT.out.sum (fun n ha h0 h1 h2 => by simp only [SU, ha, h0, h1, h2] <;> omega)⟩)
  clear HT hF
  go_wp2
  go_loopw [9] (fun i wr => ∃ k : Nat, k ≤ n ∧ i = .int .i64 k ∧ ∃ s gF gT tr, CntOk s k ∧ isFloor fa pa (flOf (plainCfg 2 8) s) tr gF ∧ trG tr s.l gT ∧ TG [] w ([gF, gT] ++ [aS, aR, aH, aP, aL, bF, bS, bR, bH, bP, bL]) wr) (fun i _ => n - (intOf i).toNat)
  case atStart => exact ⟨0, Nat.zero_le _, rfl, HR.out⟩
  case round =>
    obtain ⟨k, hk, rfl, s, gF, gT, tr, hok, hF, hT, T⟩ := hrel
    by_cases hlt : k < n
    · obtain ⟨b, off, ea, hb, ⟨kk, on, E⟩, hz, c0, c1, c2, c3, c4, c5, c6, c7, c8, c9, c10, c11⟩ := HA.out.cells (k := k) (by rw [HN.out]; exact hlt) T
      cases ea
      simp only at c0 c1 c2 c3 c4 c5 c6 c7 c8 c9 c10 c11
      have HT := Lib.hid T
      have hF := Lib.hid hF
      have hT := Lib.hid hT
      have HK := Lib.hid hok
      clear T hok hz HR
      by_cases k0 : kk = 0
      · subst k0
        go_wp2_with fail
        refine (DoesG.use (floorEnter_g hF.out ⟨HK.out.i0, by have := HK.out.i1; show s.inside ≤ 1000000; omega⟩) (HT.out) [0] rfl rfl).mono ?_
        rintro e w1 ⟨gs, ⟨rfl, gF1, hF1, rfl⟩, Ta⟩
        simp only [PU] at Ta
        have HT := Lib.hid Ta
        clear Ta
        go_wp2
        go_roundw
        case rel => exact ⟨k + 1, by omega, by go_num, _, _, _, _, doF_ok HK.out ⟨0, on, E⟩, hF1, hT.out, HT.out⟩
        case measure => simp [intOf]; omega
      by_cases k1 : kk = 1
      · subst k1
        go_wp2_with fail
        refine (DoesG.use (floorLeave_g hF.out ⟨HK.out.i0, by have := HK.out.i1; show s.inside ≤ 1000000; omega⟩) (HT.out) [0] rfl rfl).mono ?_
        rintro e w1 ⟨gs, ⟨rfl, gF1, hF1, rfl⟩, Ta⟩
        simp only [PU] at Ta
        have HT := Lib.hid Ta
        clear Ta
        go_wp2
        go_roundw
        case rel => exact ⟨k + 1, by omega, by go_num, _, _, _, _, doF_ok HK.out ⟨1, on, E⟩, hF1, hT.out, HT.out⟩
        case measure => simp [intOf]; omega
      by_cases k2 : kk = 2
      · subst k2
        cases on
        · go_wp2_with fail
          refine (DoesG.use (floorRest_g hF.out ⟨HK.out.b0, by have := HK.out.b1; show s.busy ≤ 1000000; omega⟩) (HT.out) [0] rfl rfl).mono ?_
          rintro e w1 ⟨gs, ⟨rfl, gF1, hF1, rfl⟩, Ta⟩
          simp only [PU] at Ta
          have HT := Lib.hid Ta
          clear Ta
          go_wp2
          go_roundw
          case rel => exact ⟨k + 1, by omega, by go_num, _, _, _, _, doF_ok HK.out ⟨2, false, E⟩, hF1, hT.out, HT.out⟩
          case measure => simp [intOf]; omega
        · go_wp2_with fail
          refine (DoesG.use (floorWork_g hF.out ⟨HK.out.b0, by have := HK.out.b1; show s.busy ≤ 1000000; omega⟩) (HT.out) [0] rfl rfl).mono ?_
          rintro e w1 ⟨gs, ⟨rfl, gF1, hF1, rfl⟩, Ta⟩
          simp only [PU] at Ta
          have HT := Lib.hid Ta
          clear Ta
          go_wp2
          go_roundw
          case rel => exact ⟨k + 1, by omega, by go_num, _, _, _, _, doF_ok HK.out ⟨2, true, E⟩, hF1, hT.out, HT.out⟩
          case measure => simp [intOf]; omega
      by_cases k3 : kk = 3
      · subst k3
        go_wp2_with fail
        refine (DoesG.use (floorShut_g hF.out) (HT.out) [0] rfl rfl).mono ?_
        rintro e w1 ⟨gs, ⟨rfl, gF1, hF1, rfl⟩, Ta⟩
        simp only [PU] at Ta
        have HT := Lib.hid Ta
        clear Ta
        go_wp2
        go_roundw
        case rel => exact ⟨k + 1, by omega, by go_num, _, _, _, _, doF_ok HK.out ⟨3, on, E⟩, hF1, hT.out, HT.out⟩
        case measure => simp [intOf]; omega
      by_cases k4 : kk = 4
      · subst k4
        go_wp2_with fail
        refine (DoesG.use (floorTurn_g hF.out ⟨HK.out.n0, by have := HK.out.n1; show s.now < _; omega⟩) (HT.out) [0] rfl rfl).mono ?_
        rintro e w1 ⟨gs, ⟨rfl, gF1, hF1, rfl⟩, Ta⟩
        simp only [PU] at Ta
        have HT := Lib.hid Ta
        clear Ta
        go_wp2
        go_roundw
        case rel => exact ⟨k + 1, by omega, by go_num, _, _, _, _, doF_ok HK.out ⟨4, on, E⟩, hF1, hT.out, HT.out⟩
        case measure => simp [intOf]; omega
      by_cases k5 : kk = 5
      · subst k5
        go_wp2_with fail
        refine (DoesG.use (floorNote_g E hF.out hT.out (by have := HK.out.l1; omega)) (HT.out) [0, 1] rfl rfl).mono ?_
        rintro e w1 ⟨gs, ⟨rfl, tr1, gF1, gT1, hF1, hT1, rfl⟩, Ta⟩
        simp only [PU] at Ta
        have HT := Lib.hid Ta
        clear Ta
        go_wp2
        go_roundw
        case rel => exact ⟨k + 1, by omega, by go_num, _, _, _, _, doF_ok HK.out ⟨5, on, E⟩, hF1, (trG.put hT1), HT.out⟩
        case measure => simp [intOf]; omega
      · have z0 : (kk == 0) = false := beq_eq_false_iff_ne.2 k0
        have z1 : (kk == 1) = false := beq_eq_false_iff_ne.2 k1
        have z2 : (kk == 2) = false := beq_eq_false_iff_ne.2 k2
        have z3 : (kk == 3) = false := beq_eq_false_iff_ne.2 k3
        have z4 : (kk == 4) = false := beq_eq_false_iff_ne.2 k4
        have z5 : (kk == 5) = false := beq_eq_false_iff_ne.2 k5
        have hok' : CntOk s (k + 1) := ⟨HK.out.i0, by have := HK.out.i1; omega, HK.out.b0, by have := HK.out.b1; omega, HK.out.n0, by have := HK.out.n1; omega, by have := HK.out.l1; omega⟩
        have HK' := Lib.hid hok'
        clear hok'
        go_wp2
        go_roundw
        case rel => exact ⟨k + 1, by omega, by go_num, s, _, _, _, HK'.out, hF.out, hT.out, HT.out⟩
        case measure => simp [intOf]; omega
    · obtain ⟨ab, arb, alb, awb, agl, arest, ah1, ah2, ah3⟩ := AH.out
      obtain ⟨bb, brb, blb, bwb, bgl, brest, bh1, bh2, bh3⟩ := BH.out
      have HT := Lib.hid (((T.permAt 4 rfl ah3).permAt 10 rfl bh3).sum (H' := [gF, aR, shardB ab arb alb awb, agl, aS, aP, aL, bF, bR, shardB bb brb blb bwb, bgl, bS, bP, bL, gT ++ (arest ++ brest), []]) (fun n ha h0 h1 h2 => by simp only [SU, ha, h0, h1, h2] <;> omega))
      have HF := Lib.hid hF
      have HAH := Lib.hid (floorHome_c ah1 hF AR.out AN.out)
      have HBH := Lib.hid (floorHome_c bh1 BF.out BR.out BN.out)
      have AL2 := Lib.hid ah2
      have BL2 := Lib.hid bh2
      have BLE := BL.out
      subst BLE
      clear T AH BH ah1 ah2 ah3 bh1 bh2 bh3 hok hT HR HA hF BL
      go_wp2_with fail
      refine (DoesG.use (floorSlab_g HF.out) (HT.out) [0] rfl rfl).mono ?_
      rintro e w1 ⟨gs, ⟨rfl, rfl⟩, Ta⟩
      simp only [PU] at Ta
      have HT := Lib.hid Ta
      clear Ta
      go_wp2_with fail
      refine (DoesG.use (slabBegin_g pa.sb 0) (HT.out) [] rfl rfl).mono ?_
      rintro e w1 ⟨gs, ⟨qb, rfl, rfl⟩, Ta⟩
      simp only [PU] at Ta
      have HT := Lib.hid Ta
      clear Ta
      go_wp2_with fail
      refine (DoesG.use (reqStep_g qb ⟨0, 0, 0, 0, 0, 0⟩ AS.out (SlabOk.of (by decide)) (ReqOk.of (by decide))) (HT.out) [16, 4] rfl rfl).mono ?_
      rintro e w1 ⟨gs, ⟨rfl, aS1, aS2, rfl⟩, Ta⟩
      simp only [PU] at Ta
      have HT := Lib.hid Ta
      clear Ta
      go_wp2_with fail
      refine (DoesG.use (floorPipe_g HF.out) (HT.out) [0] rfl rfl).mono ?_
      rintro e w1 ⟨gs, ⟨rfl, rfl⟩, Ta⟩
      simp only [PU] at Ta
      have HT := Lib.hid Ta
      clear Ta
      go_wp2_with fail
      refine (DoesG.use (pipePut_g AP.out ⟨1, 0, 0, 0⟩ (by decide)) (HT.out) [5] rfl rfl).mono ?_
      rintro e w1 ⟨gs, ⟨rfl, aP1, aP2, rfl⟩, Ta⟩
      simp only [PU] at Ta
      have HT := Lib.hid Ta
      clear Ta
      go_wp2_with fail
      refine (DoesG.use (floorLog_g HF.out) (HT.out) [0] rfl rfl).mono ?_
      rintro e w1 ⟨gs, ⟨rfl, rfl⟩, Ta⟩
      simp only [PU] at Ta
      have HT := Lib.hid Ta
      clear Ta
      go_wp2_with fail
      refine (DoesG.use (logPut_g AL.out (show rowG 68 4 _ ([⟨1, 0, 0, 0⟩] : List FireS).length (fires [⟨1, 0, 0, 0⟩]) _ from rowG_lit _ 4 w1.heap.size 1 1 #[.int .u64 1, .int .u64 0, .int .u64 0, .int .u64 0] (by decide) (by decide) rfl) (by decide) (by decide)) (HT.out.alloc (k := w1.heap.size) rfl 68 #[.int .u64 1, .int .u64 0, .int .u64 0, .int .u64 0]) [6, 17] rfl rfl).mono ?_
      rintro e w1 ⟨gs, ⟨rfl, aL1, aL2, rfl⟩, Ta⟩
      simp only [PU] at Ta
      have HT := Lib.hid Ta
      clear Ta
      go_wp2_with fail
      refine (DoesG.use (HAH.out) (HT.out) [0, 1] rfl rfl).mono ?_
      rintro e w1 ⟨gs, ⟨rfl, rfl⟩, Ta⟩
      simp only [PU] at Ta
      have HT := Lib.hid Ta
      clear Ta
      go_wp2_with fail
      refine (DoesG.use (shardLock_g ab arb alb awb) (HT.out) [2] rfl rfl).mono ?_
      rintro e w1 ⟨gs, ⟨rfl, rfl⟩, Ta⟩
      simp only [PU] at Ta
      have HT := Lib.hid Ta
      clear Ta
      go_wp2_with fail
      refine (DoesG.use (lockTry_g 3 AL2.out (by decide) (by decide)) (HT.out) [3] rfl rfl).mono ?_
      rintro e w1 ⟨gs, ⟨rfl, agl1, al3, rfl⟩, Ta⟩
      simp only [PU] at Ta
      have HT := Lib.hid Ta
      clear Ta
      go_wp2_with fail
      refine (DoesG.use (HBH.out) (HT.out) [7, 8] rfl rfl).mono ?_
      rintro e w1 ⟨gs, ⟨rfl, rfl⟩, Ta⟩
      simp only [PU] at Ta
      have HT := Lib.hid Ta
      clear Ta
      go_wp2_with fail
      refine (DoesG.use (shardLock_g bb brb blb bwb) (HT.out) [9] rfl rfl).mono ?_
      rintro e w1 ⟨gs, ⟨rfl, rfl⟩, Ta⟩
      simp only [PU] at Ta
      have HT := Lib.hid Ta
      clear Ta
      go_wp2_with fail
      refine (DoesG.use (lockOwner_no BL2.out) (HT.out) [10] rfl rfl).mono ?_
      rintro e w1 ⟨gs, ⟨rfl, bgl1, bl3, rfl⟩, Ta⟩
      simp only [PU] at Ta
      have HT := Lib.hid Ta
      clear Ta
      go_wp2_with fail
      refine (DoesG.use (floorInside_g BF.out) (HT.out) [7] rfl rfl).mono ?_
      rintro e w1 ⟨gs, ⟨rfl, bF1, BF1, rfl⟩, Ta⟩
      simp only [PU] at Ta
      have HT := Lib.hid Ta
      clear Ta
      go_wp2_with fail
      refine (DoesG.use (floorBusy_g BF1) (HT.out) [7] rfl rfl).mono ?_
      rintro e w1 ⟨gs, ⟨rfl, bF2, BF2, rfl⟩, Ta⟩
      simp only [PU] at Ta
      have HT := Lib.hid Ta
      clear Ta
      go_wp2_with fail
      refine (DoesG.use (floorTrace_g BF2 trG_nil (by decide)) (HT.out) [7, 15] rfl rfl).mono ?_
      rintro e w1 ⟨gs, ⟨vt, gvt, rfl, hvt, rfl⟩, Ta⟩
      simp only [PU] at Ta
      have HT := Lib.hid Ta
      clear Ta
      obtain ⟨va, vc, hv⟩ := rowG.val hvt
      subst hv
      clear hvt
      go_wp2_with fail
      refine (DoesG.use (floorPipe_g BF2) (HT.out) [7] rfl rfl).mono ?_
      rintro e w1 ⟨gs, ⟨rfl, rfl⟩, Ta⟩
      simp only [PU] at Ta
      have HT := Lib.hid Ta
      clear Ta
      go_wp2_with fail
      refine (DoesG.use ((pipeLen0_r BP.out).does) (HT.out) [12] rfl rfl).mono ?_
      rintro e w1 ⟨gs, ⟨rfl, rfl⟩, Ta⟩
      simp only [PU] at Ta
      have HT := Lib.hid Ta
      clear Ta
      go_wp2_with fail
      refine (DoesG.use (floorLog_g BF2) (HT.out) [7] rfl rfl).mono ?_
      rintro e w1 ⟨gs, ⟨rfl, rfl⟩, Ta⟩
      simp only [PU] at Ta
      have HT := Lib.hid Ta
      clear Ta
      go_wp2_with fail
      refine (DoesG.use (logLen0_g pb.lb) (HT.out) [13] rfl rfl).mono ?_
      rintro e w1 ⟨gs, ⟨rfl, rfl⟩, Ta⟩
      simp only [PU] at Ta
      have HT := Lib.hid Ta
      clear Ta
      go_wp2_with fail
      refine (DoesG.use (floorSlab_g BF2) (HT.out) [7] rfl rfl).mono ?_
      rintro e w1 ⟨gs, ⟨rfl, rfl⟩, Ta⟩
      simp only [PU] at Ta
      have HT := Lib.hid Ta
      clear Ta
      go_wp2_with fail
      refine (DoesG.use ((show DoesG Try.prog 36 #[ptr pb.sb] [bS] fun e gs => e = .returned (.int .i64 0) ∧ ∃ g', isSlab pb.sb (newSlab (plainCfg 2 8).cap.toNat) g' ∧ gs = [g'] from slabCount_g BS.out)) (HT.out) [11] rfl rfl).mono ?_
      rintro e w1 ⟨gs, ⟨rfl, bS1, BS1, rfl⟩, Ta⟩
      simp only [PU] at Ta
      have HT := Lib.hid Ta
      clear Ta
      go_wp2_with fail
      refine (DoesG.use (floorClosed_g BF2) (HT.out) [7] rfl rfl).mono ?_
      rintro e w1 ⟨gs, ⟨rfl, bF3, BF3, rfl⟩, Ta⟩
      simp only [PU] at Ta
      have HT := Lib.hid Ta
      clear Ta
      go_wp2_with fail
      refine (DoesG.use (floorNow_g BF3) (HT.out) [7] rfl rfl).mono ?_
      rintro e w1 ⟨gs, ⟨rfl, bF4, BF4, rfl⟩, Ta⟩
      simp only [PU] at Ta
      have HT := Lib.hid Ta
      clear Ta
      go_wp2
      go_ret
      exact ⟨rfl, HT.out.bel⟩
end Go.Proofs.Ytnemggminanbbaa
