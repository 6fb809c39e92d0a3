import Derived.Test.YtnemggminanbbaaCtorC
namespace Go.Proofs.Ytnemggminanbbaa
set_option linter.unusedVariables false
set_option linter.unusedSimpArgs false
open Go.RowKit Go.Shelf

/-! ## The floor's methods -/
theorem cellG {P : Program} {f : Nat} {args : Array Value} {b o : Nat} {T : TypeId} {C : Array Value} {v r : Value} (hd : Does P f args [pt b T C] (CellPost b T C o v r)) :
    DoesG P f args [[cl b T C]] fun e gs => e = .returned r ∧ ∃ C', Recell C o v C' ∧ gs = [[cl b T C']] := by
  refine (hd.G (gs := [[cl b T C]]) (by simpa using Match.of_pt b T C)).mono ?_
  rintro e gs ⟨h', g, ⟨he, C', rfl, hr⟩, m, rfl⟩
  exact ⟨he, C', hr, by rw [m.isPt]⟩
theorem floorC.closedR {p : FPtr} {f : FloorS} {tr : Value} {C C' : Array Value} (h : floorC p f tr C) {x : Bool} (r : Recell C 10 (.bool x) C') : floorC p { f with closed := x } tr C' :=
  ⟨r.size.trans h.size, fun i hi => (r.other i (by omega)).trans (h.cfg i hi), (r.other _ (by omega)).trans h.slab, (r.other _ (by omega)).trans h.sh, (r.other _ (by omega)).trans h.pipe, (r.other _ (by omega)).trans h.log,
    r.cell,
    r.cellOther h.inside (by omega),
    r.cellOther h.busy (by omega),
    r.cellOther h.now (by omega),
    (r.other _ (by omega)).trans h.tr⟩
theorem floorC.closedS {p : FPtr} {f : FloorS} {tr : Value} {C C' : Array Value} (h : floorC p f tr C) (r : Recell C 10 (.bool f.closed) C') : floorC p f tr C' := h.closedR r
theorem floorC.insideR {p : FPtr} {f : FloorS} {tr : Value} {C C' : Array Value} (h : floorC p f tr C) {x : Int} (r : Recell C 14 (.int .i64 x) C') : floorC p { f with inside := x } tr C' :=
  ⟨r.size.trans h.size, fun i hi => (r.other i (by omega)).trans (h.cfg i hi), (r.other _ (by omega)).trans h.slab, (r.other _ (by omega)).trans h.sh, (r.other _ (by omega)).trans h.pipe, (r.other _ (by omega)).trans h.log,
    r.cellOther h.closed (by omega),
    r.cell,
    r.cellOther h.busy (by omega),
    r.cellOther h.now (by omega),
    (r.other _ (by omega)).trans h.tr⟩
theorem floorC.insideS {p : FPtr} {f : FloorS} {tr : Value} {C C' : Array Value} (h : floorC p f tr C) (r : Recell C 14 (.int .i64 f.inside) C') : floorC p f tr C' := h.insideR r
theorem floorC.busyR {p : FPtr} {f : FloorS} {tr : Value} {C C' : Array Value} (h : floorC p f tr C) {x : Int} (r : Recell C 18 (.int .i64 x) C') : floorC p { f with busy := x } tr C' :=
  ⟨r.size.trans h.size, fun i hi => (r.other i (by omega)).trans (h.cfg i hi), (r.other _ (by omega)).trans h.slab, (r.other _ (by omega)).trans h.sh, (r.other _ (by omega)).trans h.pipe, (r.other _ (by omega)).trans h.log,
    r.cellOther h.closed (by omega),
    r.cellOther h.inside (by omega),
    r.cell,
    r.cellOther h.now (by omega),
    (r.other _ (by omega)).trans h.tr⟩
theorem floorC.busyS {p : FPtr} {f : FloorS} {tr : Value} {C C' : Array Value} (h : floorC p f tr C) (r : Recell C 18 (.int .i64 f.busy) C') : floorC p f tr C' := h.busyR r
theorem floorC.nowR {p : FPtr} {f : FloorS} {tr : Value} {C C' : Array Value} (h : floorC p f tr C) {x : Int} (r : Recell C 22 (.int .u64 x) C') : floorC p { f with now := x } tr C' :=
  ⟨r.size.trans h.size, fun i hi => (r.other i (by omega)).trans (h.cfg i hi), (r.other _ (by omega)).trans h.slab, (r.other _ (by omega)).trans h.sh, (r.other _ (by omega)).trans h.pipe, (r.other _ (by omega)).trans h.log,
    r.cellOther h.closed (by omega),
    r.cellOther h.inside (by omega),
    r.cellOther h.busy (by omega),
    r.cell,
    (r.other _ (by omega)).trans h.tr⟩
theorem floorC.nowS {p : FPtr} {f : FloorS} {tr : Value} {C C' : Array Value} (h : floorC p f tr C) (r : Recell C 22 (.int .u64 f.now) C') : floorC p f tr C' := h.nowR r
theorem floorSlab_g {fb : Nat} {p : FPtr} {f : FloorS} {tr : Value} {g : List Blk} (hg : isFloor fb p f tr g) : DoesG Try.prog 20 #[ptr' fb] [g] fun e gs => e = .returned (ptr' p.sb) ∧ gs = [g] := by
  obtain ⟨C, rfl, hc⟩ := hg
  intro w hw
  have T0 := TG.refl hw
  have HT := Lib.hid T0
  clear hw T0
  have c0 := (HT.out.cell 0 0 rfl 6).trans hc.slab
  clear hc
  go_enter Try.func20, Try.ntmps20
  go_wp2
  go_ret
  exact ⟨_, ⟨rfl, rfl⟩, HT.out⟩
theorem floorSlab_nil : DoesG Try.prog 20 #[.pointer none] [] fun e gs => e = .returned (.pointer none) ∧ gs = [] := by
  intro w hw
  have T0 := TG.refl hw
  have HT := Lib.hid T0
  clear hw T0
  go_enter Try.func20, Try.ntmps20
  go_wp2
  go_ret
  exact ⟨_, ⟨rfl, rfl⟩, HT.out⟩
theorem floorPipe_g {fb : Nat} {p : FPtr} {f : FloorS} {tr : Value} {g : List Blk} (hg : isFloor fb p f tr g) : DoesG Try.prog 23 #[ptr' fb] [g] fun e gs => e = .returned (ptr' p.pb) ∧ gs = [g] := by
  obtain ⟨C, rfl, hc⟩ := hg
  intro w hw
  have T0 := TG.refl hw
  have HT := Lib.hid T0
  clear hw T0
  have c0 := (HT.out.cell 0 0 rfl 8).trans hc.pipe
  clear hc
  go_enter Try.func23, Try.ntmps23
  go_wp2
  go_ret
  exact ⟨_, ⟨rfl, rfl⟩, HT.out⟩
theorem floorPipe_nil : DoesG Try.prog 23 #[.pointer none] [] fun e gs => e = .returned (.pointer none) ∧ gs = [] := by
  intro w hw
  have T0 := TG.refl hw
  have HT := Lib.hid T0
  clear hw T0
  go_enter Try.func23, Try.ntmps23
  go_wp2
  go_ret
  exact ⟨_, ⟨rfl, rfl⟩, HT.out⟩
theorem floorLog_g {fb : Nat} {p : FPtr} {f : FloorS} {tr : Value} {g : List Blk} (hg : isFloor fb p f tr g) : DoesG Try.prog 25 #[ptr' fb] [g] fun e gs => e = .returned (ptr' p.lb) ∧ gs = [g] := by
  obtain ⟨C, rfl, hc⟩ := hg
  intro w hw
  have T0 := TG.refl hw
  have HT := Lib.hid T0
  clear hw T0
  have c0 := (HT.out.cell 0 0 rfl 9).trans hc.log
  clear hc
  go_enter Try.func25, Try.ntmps25
  go_wp2
  go_ret
  exact ⟨_, ⟨rfl, rfl⟩, HT.out⟩
theorem floorLog_nil : DoesG Try.prog 25 #[.pointer none] [] fun e gs => e = .returned (.pointer none) ∧ gs = [] := by
  intro w hw
  have T0 := TG.refl hw
  have HT := Lib.hid T0
  clear hw T0
  go_enter Try.func25, Try.ntmps25
  go_wp2
  go_ret
  exact ⟨_, ⟨rfl, rfl⟩, HT.out⟩
theorem floorInside_g {fb : Nat} {p : FPtr} {f : FloorS} {tr : Value} {g : List Blk} (hg : isFloor fb p f tr g) : DoesG Try.prog 31 #[ptr' fb] [g] fun e gs => e = .returned (.int .i64 f.inside) ∧ ∃ g', isFloor fb p f tr g' ∧ gs = [g'] := by
  obtain ⟨C, rfl, hc⟩ := hg
  intro w hw
  have T0 := TG.refl hw
  have HT := Lib.hid T0
  clear hw T0
  have HC := Lib.hid hc
  clear hc
  go_enter Try.func31, Try.ntmps31
  go_wp2_with fail
  refine (DoesG.use (cellG (loadI_does fb 14 _ C f.inside HC.out.inside)) (HT.out) [0] rfl rfl).mono ?_
  rintro e w1 ⟨gs, ⟨rfl, C1, hr, rfl⟩, Ta⟩
  simp only [PU] at Ta
  have HT := Lib.hid Ta
  clear Ta
  have HR := Lib.hid hr
  clear hr
  go_wp2
  go_ret
  exact ⟨_, ⟨rfl, _, ⟨C1, rfl, HC.out.insideS HR.out⟩, rfl⟩, HT.out⟩
theorem floorInside_nil : DoesG Try.prog 31 #[.pointer none] [] fun e gs => e = .returned (.int .i64 0) ∧ gs = [] := by
  intro w hw
  have T0 := TG.refl hw
  have HT := Lib.hid T0
  clear hw T0
  go_enter Try.func31, Try.ntmps31
  go_wp2
  go_ret
  exact ⟨_, ⟨rfl, rfl⟩, HT.out⟩
theorem floorBusy_g {fb : Nat} {p : FPtr} {f : FloorS} {tr : Value} {g : List Blk} (hg : isFloor fb p f tr g) : DoesG Try.prog 32 #[ptr' fb] [g] fun e gs => e = .returned (.int .i64 f.busy) ∧ ∃ g', isFloor fb p f tr g' ∧ gs = [g'] := by
  obtain ⟨C, rfl, hc⟩ := hg
  intro w hw
  have T0 := TG.refl hw
  have HT := Lib.hid T0
  clear hw T0
  have HC := Lib.hid hc
  clear hc
  go_enter Try.func32, Try.ntmps32
  go_wp2_with fail
  refine (DoesG.use (cellG (loadI_does fb 18 _ C f.busy HC.out.busy)) (HT.out) [0] rfl rfl).mono ?_
  rintro e w1 ⟨gs, ⟨rfl, C1, hr, rfl⟩, Ta⟩
  simp only [PU] at Ta
  have HT := Lib.hid Ta
  clear Ta
  have HR := Lib.hid hr
  clear hr
  go_wp2
  go_ret
  exact ⟨_, ⟨rfl, _, ⟨C1, rfl, HC.out.busyS HR.out⟩, rfl⟩, HT.out⟩
theorem floorBusy_nil : DoesG Try.prog 32 #[.pointer none] [] fun e gs => e = .returned (.int .i64 0) ∧ gs = [] := by
  intro w hw
  have T0 := TG.refl hw
  have HT := Lib.hid T0
  clear hw T0
  go_enter Try.func32, Try.ntmps32
  go_wp2
  go_ret
  exact ⟨_, ⟨rfl, rfl⟩, HT.out⟩
theorem floorNow_g {fb : Nat} {p : FPtr} {f : FloorS} {tr : Value} {g : List Blk} (hg : isFloor fb p f tr g) : DoesG Try.prog 38 #[ptr' fb] [g] fun e gs => e = .returned (.int .u64 f.now) ∧ ∃ g', isFloor fb p f tr g' ∧ gs = [g'] := by
  obtain ⟨C, rfl, hc⟩ := hg
  intro w hw
  have T0 := TG.refl hw
  have HT := Lib.hid T0
  clear hw T0
  have HC := Lib.hid hc
  clear hc
  go_enter Try.func38, Try.ntmps38
  go_wp2_with fail
  refine (DoesG.use (cellG (loadU_does fb 22 _ C f.now HC.out.now)) (HT.out) [0] rfl rfl).mono ?_
  rintro e w1 ⟨gs, ⟨rfl, C1, hr, rfl⟩, Ta⟩
  simp only [PU] at Ta
  have HT := Lib.hid Ta
  clear Ta
  have HR := Lib.hid hr
  clear hr
  go_wp2
  go_ret
  exact ⟨_, ⟨rfl, _, ⟨C1, rfl, HC.out.nowS HR.out⟩, rfl⟩, HT.out⟩
theorem floorNow_nil : DoesG Try.prog 38 #[.pointer none] [] fun e gs => e = .returned (.int .u64 0) ∧ gs = [] := by
  intro w hw
  have T0 := TG.refl hw
  have HT := Lib.hid T0
  clear hw T0
  go_enter Try.func38, Try.ntmps38
  go_wp2
  go_ret
  exact ⟨_, ⟨rfl, rfl⟩, HT.out⟩
theorem floorClosed_g {fb : Nat} {p : FPtr} {f : FloorS} {tr : Value} {g : List Blk} (hg : isFloor fb p f tr g) : DoesG Try.prog 37 #[ptr' fb] [g] fun e gs => e = .returned (.bool f.closed) ∧ ∃ g', isFloor fb p f tr g' ∧ gs = [g'] := by
  obtain ⟨C, rfl, hc⟩ := hg
  intro w hw
  have T0 := TG.refl hw
  have HT := Lib.hid T0
  clear hw T0
  have HC := Lib.hid hc
  clear hc
  go_enter Try.func37, Try.ntmps37
  go_wp2_with fail
  refine (DoesG.use (cellG (loadB_does fb 10 _ C f.closed HC.out.closed)) (HT.out) [0] rfl rfl).mono ?_
  rintro e w1 ⟨gs, ⟨rfl, C1, hr, rfl⟩, Ta⟩
  simp only [PU] at Ta
  have HT := Lib.hid Ta
  clear Ta
  have HR := Lib.hid hr
  clear hr
  go_wp2
  go_ret
  exact ⟨_, ⟨rfl, _, ⟨C1, rfl, HC.out.closedS HR.out⟩, rfl⟩, HT.out⟩
theorem floorClosed_nil : DoesG Try.prog 37 #[.pointer none] [] fun e gs => e = .returned (.bool false) ∧ gs = [] := by
  intro w hw
  have T0 := TG.refl hw
  have HT := Lib.hid T0
  clear hw T0
  go_enter Try.func37, Try.ntmps37
  go_wp2
  go_ret
  exact ⟨_, ⟨rfl, rfl⟩, HT.out⟩
theorem floorShut_g {fb : Nat} {p : FPtr} {f : FloorS} {tr : Value} {g : List Blk} (hg : isFloor fb p f tr g) : DoesG Try.prog 17 #[ptr' fb] [g] fun e gs => e = .returned (.bool (!f.closed)) ∧ ∃ g', isFloor fb p { f with closed := true } tr g' ∧ gs = [g'] := by
  obtain ⟨C, rfl, hc⟩ := hg
  intro w hw
  have T0 := TG.refl hw
  have HT := Lib.hid T0
  clear hw T0
  have HC := Lib.hid hc
  clear hc
  go_enter Try.func17, Try.ntmps17
  go_wp2_with fail
  refine (DoesG.use (cellG (swapB_does fb 10 _ C f.closed false true HC.out.closed)) (HT.out) [0] rfl rfl).mono ?_
  rintro e w1 ⟨gs, ⟨rfl, C1, hr, rfl⟩, Ta⟩
  simp only [PU] at Ta
  have HT := Lib.hid Ta
  clear Ta
  have HR := Lib.hid (show Recell C 10 (.bool true) C1 from by cases hb : f.closed <;> simp [hb] at hr <;> exact hr)
  clear hr
  go_wp2
  go_ret
  exact ⟨_, ⟨by cases hb : f.closed <;> simp [hb], _, ⟨C1, rfl, HC.out.closedR HR.out⟩, rfl⟩, HT.out⟩
theorem floorShut_nil : DoesG Try.prog 17 #[.pointer none] [] fun e gs => e = .returned (.bool false) ∧ gs = [] := by
  intro w hw
  have T0 := TG.refl hw
  have HT := Lib.hid T0
  clear hw T0
  go_enter Try.func17, Try.ntmps17
  go_wp2
  go_ret
  exact ⟨_, ⟨rfl, rfl⟩, HT.out⟩
/-- the shards' slice -/
theorem row_at {e : TypeId} {v : Value} {n : Nat} {xs : List Value} {g : List Blk} (r : rowG e 1 v n xs g) {i : Nat} {u : Value} (hi : xs[i]? = some u) :
    ∃ b cap cur, v = .slice (some ⟨b, 0, none⟩) n cap ∧ g = [cl b e cur] ∧ cur[i]? = some u ∧ i < n := by
  have hl := r.1
  have hin : i < n := by have := (List.getElem?_eq_some_iff.1 hi).1; omega
  obtain ⟨b, cap, cur, h1, h2, _, _, _, h6⟩ := r.open (by omega)
  exact ⟨b, cap, cur, h1, h2, (h6 i (by omega)).trans hi, hin⟩
def shardV (shs : List Nat) (i : Int) : Value := if 0 ≤ i ∧ i < shs.length then ptr' (shs.getD i.toNat 0) else .pointer none
def homeV (shs : List Nat) (i : Int) : Value := if 0 ≤ i then ptr' (shs.getD (i % shs.length).toNat 0) else .pointer none
theorem floorShard_g {fb : Nat} {p : FPtr} {f : FloorS} {tr : Value} {g : List Blk} {shs : List Nat} {gR : List Blk} (hg : isFloor fb p f tr g) (hr : rowG 73 1 p.sh shs.length (shs.map fun x => ptr' x) gR) (i : Int) : DoesG Try.prog 43 #[ptr' fb, .int .i64 i] [g, gR] fun e gs =>
    e = .returned (shardV shs i) ∧ gs = [g, gR] := by
  obtain ⟨C, rfl, hc⟩ := hg
  by_cases h0 : 0 ≤ i
  · obtain ⟨k, rfl⟩ := Int.eq_ofNat_of_zero_le h0
    by_cases hk : k < shs.length
    · have hget := List.getElem?_eq_getElem hk
      obtain ⟨x, hx⟩ : ∃ x, shs[k] = x := ⟨_, rfl⟩
      rw [hx] at hget
      have hi : (shs.map fun x => ptr' x)[k]? = some (ptr' x) := by rw [List.getElem?_map, hget]; rfl
      obtain ⟨b, cap, cur, hv, rfl, hcu, _⟩ := row_at hr hi
      have HV := Lib.hid (show shardV shs k = ptr' x from by
        unfold shardV
        rw [if_pos ⟨h0, by omega⟩, Int.toNat_natCast, List.getD_eq_getElem?_getD, hget]; rfl)
      have hsh := hc.sh
      rw [hv] at hsh
      intro w hw
      have T0 := TG.refl hw
      have HT := Lib.hid T0
      clear hw T0
      have c0 := (HT.out.cell 0 0 rfl 7).trans hsh
      have c1 := (HT.out.cell 1 0 rfl k).trans hcu
      clear hc hr hget hi hv hsh hcu hx
      go_enter Try.func43, Try.ntmps43
      go_wp2
      go_ret
      exact ⟨_, ⟨by rw [HV.out]; rfl, rfl⟩, HT.out⟩
    · have HV := Lib.hid (show shardV shs k = .pointer none from if_neg (by omega))
      obtain ⟨a, cap, hv⟩ := hr.val
      have hsh := hc.sh
      rw [hv] at hsh
      intro w hw
      have T0 := TG.refl hw
      have HT := Lib.hid T0
      clear hw T0
      have c0 := (HT.out.cell 0 0 rfl 7).trans hsh
      clear hc hr hv hsh
      go_enter Try.func43, Try.ntmps43
      go_wp2
      go_ret
      exact ⟨_, ⟨by rw [HV.out]; rfl, rfl⟩, HT.out⟩
  · have HV := Lib.hid (show shardV shs i = .pointer none from if_neg (by omega))
    intro w hw
    have T0 := TG.refl hw
    have HT := Lib.hid T0
    clear hw T0
    clear hc hr
    go_enter Try.func43, Try.ntmps43
    go_wp2
    go_ret
    exact ⟨_, ⟨by rw [HV.out]; rfl, rfl⟩, HT.out⟩
theorem floorHome_g {fb : Nat} {p : FPtr} {f : FloorS} {tr : Value} {g : List Blk} {shs : List Nat} {gR : List Blk} (hg : isFloor fb p f tr g) (hr : rowG 73 1 p.sh shs.length (shs.map fun x => ptr' x) gR) (hn : 1 ≤ shs.length) (i : Int) : DoesG Try.prog 27 #[ptr' fb, .int .i64 i] [g, gR] fun e gs =>
    e = .returned (homeV shs i) ∧ gs = [g, gR] := by
  by_cases h0 : 0 ≤ i
  · have hs := floorShard_g hg hr (i % shs.length)
    have hm0 : 0 ≤ i % (shs.length : Int) := Int.emod_nonneg _ (by omega)
    have hm1 : i % (shs.length : Int) < shs.length := Int.emod_lt_of_pos _ (by omega)
    obtain ⟨x, hx⟩ : ∃ x, ptr' (shs.getD (i % shs.length).toNat 0) = x := ⟨_, rfl⟩
    have HV := Lib.hid (show homeV shs i = x from (if_pos h0).trans hx)
    rw [show shardV shs (i % shs.length) = x from (if_pos ⟨hm0, hm1⟩).trans hx] at hs
    have HS := Lib.hid hs
    obtain ⟨C, rfl, hc⟩ := hg
    obtain ⟨a, cap, hv⟩ := hr.val
    have hsh := hc.sh
    rw [hv] at hsh
    intro w hw
    have T0 := TG.refl hw
    have HT := Lib.hid T0
    clear hw T0
    have c0 := (HT.out.cell 0 0 rfl 7).trans hsh
    clear hc hr hv hsh hs hm0 hm1 hx
    go_enter Try.func27, Try.ntmps27
    go_wp2_with fail
    refine (DoesG.use (HS.out) (HT.out) [0, 1] rfl rfl).mono ?_
    rintro e w1 ⟨gs, ⟨rfl, rfl⟩, Ta⟩
    simp only [PU] at Ta
    have HT := Lib.hid Ta
    clear Ta
    go_wp2
    go_ret
    exact ⟨_, ⟨by rw [HV.out]; rfl, rfl⟩, HT.out⟩
  · have HV := Lib.hid (show homeV shs i = .pointer none from if_neg h0)
    intro w hw
    have T0 := TG.refl hw
    have HT := Lib.hid T0
    clear hw T0
    clear hg hr
    go_enter Try.func27, Try.ntmps27
    go_wp2
    go_ret
    exact ⟨_, ⟨by rw [HV.out]; rfl, rfl⟩, HT.out⟩
end Go.Proofs.Ytnemggminanbbaa
