import Derived.Test.YtgdfmhchbkgfgaaFloorR
import Derived.Test.YtgdfmhchbkgfgaaArg
namespace Go.Proofs.Ytgdfmhchbkgfgaa
set_option linter.unusedVariables false
set_option linter.unusedSimpArgs false
open Go.RowKit Go.Shelf

theorem getD_inj {l : List Nat} (hn : l.Nodup) {i j : Nat} (hi : i < l.length) (hj : j < l.length) (h : l.getD i 0 = l.getD j 0) : i = j := by
  rw [List.getD_eq_getElem?_getD, List.getD_eq_getElem?_getD, List.getElem?_eq_getElem hi, List.getElem?_eq_getElem hj] at h
  exact nodup_idx hn (List.getElem?_eq_getElem hi) (by rw [List.getElem?_eq_getElem hj]; exact congrArg some h.symm)
theorem homes_div {n i j : Nat} {a b d : Int} (h1 : 1 ≤ n) (h2 : n ≤ 4) (hi : a % (n : Int) = i) (hj : b % (n : Int) = j) (hd : d = a - b ∨ d = b - a) : d % (n : Int) = 0 ↔ i = j := by
  have hn4 : n = 1 ∨ n = 2 ∨ n = 3 ∨ n = 4 := by omega
  rcases hn4 with rfl | rfl | rfl | rfl
  · have : ((1 : Nat) : Int) = 1 := rfl
    rw [this] at *; omega
  · have : ((2 : Nat) : Int) = 2 := rfl
    rw [this] at *; omega
  · have : ((3 : Nat) : Int) = 3 := rfl
    rw [this] at *; omega
  · have : ((4 : Nat) : Int) = 4 := rfl
    rw [this] at *; omega
theorem homeR {fb : Nat} {p : FPtr} {f : FloorS} {tr : Value} {g : List Blk} {shs : List Nat} {gR : List Blk} {i : Int} {v : Value} (E : homeV shs i = v) (hg : isFloor fb p f tr g) (hr : rowG 31 1 p.sh shs.length (shs.map fun x => ptr' x) gR) (hn : 1 ≤ shs.length) :
    ReadsG Try.prog 12 #[ptr' fb, .int .i64 i] [g, gR] v := by
  have := floorHome_r hg hr hn i; rwa [E] at this
set_option maxRecDepth 100000 in
set_option maxHeartbeats 4000000 in
theorem lawHomes_g (sh a b : Int) (h0 : 0 ≤ sh) (h1 : sh ≤ 255) (a0 : 0 ≤ a) (a1 : a ≤ 65535) (b0 : 0 ≤ b) (b1 : b ≤ 65535) :
    DoesG Try.prog 3 #[.int .u8 sh, .int .u16 a, .int .u16 b] [] fun e gs => e = .returned (.bool true) ∧ gs = [] := by
  obtain ⟨n, hn⟩ : ∃ n : Nat, (n : Int) = 1 + sh % 4 := ⟨(1 + sh % 4).toNat, by omega⟩
  have hn1 : 1 ≤ n := by omega
  have hn2 : n ≤ 4 := by omega
  have HN := Lib.hid hn
  clear hn
  intro w hw
  have T0 := TG.refl hw
  have HT := Lib.hid T0
  clear hw T0
  go_enter Try.func3, Try.ntmps3
  go_wp2_with fail
  refine (DoesG.use (alive_g) (HT.out) [] rfl rfl).mono ?_
  rintro e w1 ⟨gs, ⟨rfl, rfl⟩, Ta⟩
  simp only [putG, List.set_cons_zero, List.set_cons_succ, List.cons_append, List.nil_append, List.append_nil] at Ta
  have HT := Lib.hid Ta
  clear Ta
  go_wp2_with fail
  rw [← HN.out]
  go_wp2_with fail
  refine (DoesG.use (plain_g n 8) (HT.out) [] rfl rfl).mono ?_
  rintro e w1 ⟨gs, ⟨rfl, rfl⟩, Ta⟩
  simp only [putG, List.set_cons_zero, List.set_cons_succ, List.cons_append, List.nil_append, List.append_nil] at Ta
  have HT := Lib.hid Ta
  clear Ta
  go_wp2_with fail
  refine (DoesG.use (floorNew_g (plainCfg n 8) (plain_ok (by omega) (by omega) (by decide) (by decide))) (HT.out) [] rfl rfl).mono ?_
  rintro e w1 ⟨gs, ⟨fb, p, shs, gF, gS, gR, gH, gP, gL, rfl, hall, hlen, hnew, rfl⟩, Ta⟩
  simp only [putG, List.set_cons_zero, List.set_cons_succ, List.cons_append, List.nil_append, List.append_nil] at Ta
  have HT := Lib.hid Ta
  clear Ta
  have hF := hall.floor
  have hR := hall.row'
  have hl : (shs.map Prod.fst).length = n := by rw [List.length_map]; have : (shs.length : Int) = n := hlen; omega
  have hnd := hall.roots (HT.out.sub 3 rfl)
  obtain ⟨l, hl'⟩ : ∃ l, shs.map Prod.fst = l := ⟨_, rfl⟩
  rw [hl'] at hR hl hnd
  have hSh := hall.shards
  have hmem : ∀ i, i < l.length → l.getD i 0 ∈ shs.map Prod.fst := fun i hi => by rw [hl', List.getD_eq_getElem?_getD, List.getElem?_eq_getElem hi]; exact List.getElem_mem hi
  clear hall hlen hnew hl'
  have x0 : 0 ≤ a % (n : Int) := Int.emod_nonneg _ (by omega)
  have x1 : a % (n : Int) < n := Int.emod_lt_of_pos _ (by omega)
  have y0 : 0 ≤ b % (n : Int) := Int.emod_nonneg _ (by omega)
  have y1 : b % (n : Int) < n := Int.emod_lt_of_pos _ (by omega)
  obtain ⟨i, hi⟩ := Int.eq_ofNat_of_zero_le x0
  obtain ⟨j, hj⟩ := Int.eq_ofNat_of_zero_le y0
  obtain ⟨u, hu⟩ : ∃ u, l.getD i 0 = u := ⟨_, rfl⟩
  obtain ⟨v, hv⟩ : ∃ v, l.getD j 0 = v := ⟨_, rfl⟩
  have HA := Lib.hid (show homeV l a = ptr' u from by unfold homeV; rw [if_pos a0, hl, hi, Int.toNat_natCast, hu])
  have HB := Lib.hid (show homeV l b = ptr' v from by unfold homeV; rw [if_pos b0, hl, hj, Int.toNat_natCast, hv])
  have hn4 : n = 1 ∨ n = 2 ∨ n = 3 ∨ n = 4 := by omega
  have hdiv : ∀ d : Int, (d = a - b ∨ d = b - a) → (d % (n : Int) = 0 ↔ i = j) := by
    intro d hd
    exact homes_div hn1 hn2 hi hj hd
  have huv : u = v ↔ i = j := by
    constructor
    · intro e; exact getD_inj hnd (by omega) (by omega) (by rw [hu, hv, e])
    · rintro rfl; rw [← hu, ← hv]
  have HMU := Lib.hid (show u ∈ shs.map Prod.fst from hu ▸ hmem i (by omega))
  have HMV := Lib.hid (show v ∈ shs.map Prod.fst from hv ▸ hmem j (by omega))
  have HSH := Lib.hid hSh
  have HD := Lib.hid hdiv
  have HUV := Lib.hid huv
  clear hSh hmem hdiv huv hu hv hi hj x0 x1 y0 y1 hn4 hnd
  have hln : 1 ≤ l.length := by omega
  have HL := Lib.hid hl
  clear hl
  obtain ⟨d, hd⟩ : ∃ d, d = (if a - b < 0 then b - a else a - b) := ⟨_, rfl⟩
  have hdz := HD.out d (by rw [hd]; split <;> simp)
  by_cases hij : i = j
  · have hz : d % (n : Int) = 0 := hdz.2 hij
    have huv := HUV.out.2 hij
    subst huv
    have hsame := fun k => shard_same u (w1.drewN k)
    by_cases hlt : a - b < 0
    · rw [if_pos hlt] at hd
      subst hd
      have bz : ((b - a) % (n : Int) == 0) = true := by simpa using hz
      have e1 : -(a - b) = b - a := by omega
      clear hz hdz hij
      go_wp2_with fail
      have qa := fun n => ReadsG.quiet (homeR HA.out hF hR hln) HT.out n [0, 2] rfl rfl
      have qb := fun n => ReadsG.quiet (homeR HB.out hF hR hln) HT.out n [0, 2] rfl rfl
      go_quiet (first
        | (go_at_call 12; with_reducible exact qa _)
        | (go_at_call 12; with_reducible exact qb _))
      go_wp2
      go_ret
      exact ⟨[], ⟨rfl, rfl⟩, (HT.out.drewN _).pick [] rfl⟩
    · rw [if_neg hlt] at hd
      subst hd
      have bz : ((a - b) % (n : Int) == 0) = true := by simpa using hz
      clear hz hdz hij
      go_wp2_with fail
      have qa := fun n => ReadsG.quiet (homeR HA.out hF hR hln) HT.out n [0, 2] rfl rfl
      have qb := fun n => ReadsG.quiet (homeR HB.out hF hR hln) HT.out n [0, 2] rfl rfl
      go_quiet (first
        | (go_at_call 12; with_reducible exact qa _)
        | (go_at_call 12; with_reducible exact qb _))
      go_wp2
      go_ret
      exact ⟨[], ⟨rfl, rfl⟩, (HT.out.drewN _).pick [] rfl⟩
  · have hz : d % (n : Int) ≠ 0 := fun h => hij (hdz.1 h)
    have huv : u ≠ v := fun h => hij (HUV.out.1 h)
    have hsame : ∀ k, (binOp .eql 31 (ptr' u) (ptr' v)).run Try.prog (w1.drewN k) = .ok (.bool false) (w1.drewN k) := by
      intro k
      obtain ⟨cu, hcu⟩ := (HT.out.drewN k).shardBlk 3 rfl HSH.out HMU.out
      obtain ⟨cv, hcv⟩ := (HT.out.drewN k).shardBlk 3 rfl HSH.out HMV.out
      exact shard_other _ huv hcu hcv
    by_cases hlt : a - b < 0
    · rw [if_pos hlt] at hd
      subst hd
      have bz : ((b - a) % (n : Int) == 0) = false := by simpa using hz
      have e1 : -(a - b) = b - a := by omega
      clear hz hdz hij huv
      go_wp2_with fail
      have qa := fun n => ReadsG.quiet (homeR HA.out hF hR hln) HT.out n [0, 2] rfl rfl
      have qb := fun n => ReadsG.quiet (homeR HB.out hF hR hln) HT.out n [0, 2] rfl rfl
      go_quiet (first
        | (go_at_call 12; with_reducible exact qa _)
        | (go_at_call 12; with_reducible exact qb _))
      go_wp2
      go_ret
      exact ⟨[], ⟨rfl, rfl⟩, (HT.out.drewN _).pick [] rfl⟩
    · rw [if_neg hlt] at hd
      subst hd
      have bz : ((a - b) % (n : Int) == 0) = false := by simpa using hz
      clear hz hdz hij huv
      go_wp2_with fail
      have qa := fun n => ReadsG.quiet (homeR HA.out hF hR hln) HT.out n [0, 2] rfl rfl
      have qb := fun n => ReadsG.quiet (homeR HB.out hF hR hln) HT.out n [0, 2] rfl rfl
      go_quiet (first
        | (go_at_call 12; with_reducible exact qa _)
        | (go_at_call 12; with_reducible exact qb _))
      go_wp2
      go_ret
      exact ⟨[], ⟨rfl, rfl⟩, (HT.out.drewN _).pick [] rfl⟩
end Go.Proofs.Ytgdfmhchbkgfgaa
