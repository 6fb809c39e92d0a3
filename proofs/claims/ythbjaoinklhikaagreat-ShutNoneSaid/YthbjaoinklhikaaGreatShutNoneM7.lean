import Derived.Test.YthbjaoinklhikaaGreatShutNoneM6
import Derived.LaidEqlPtr
import Derived.Test.YthbjaoinklhikaaGreatShutNoneM2
import Derived.ProofKit
import Derived.OpenShut
import Derived.Test.YthbjaoinklhikaaGreatShutNoneM4
namespace Go.Proofs.YthbjaoinklhikaaGreat
set_option linter.unusedVariables false
set_option linter.unusedSimpArgs false
open Go.RowKit Go.Shelf

/-! ## The floor's methods -/
theorem cellG {P : Program} {f : Nat} {args : Array Value} {b o : Nat} {T : TypeId} {C : Array Value} {v r : Value} (hd : Does P f args [pt b T C] (CellPost b T C o v r)) :
    DoesG P f args [[cl b T C]] fun e gs => e = .returned r ∧ ∃ C', Recell C o v C' ∧ gs = [[cl b T C']] := by
  refine (hd.G (gs := [[cl b T C]]) (by simpa using Match.of_pt b T C)).mono ?_
  rintro e gs ⟨h', g, ⟨he, C', rfl, hr⟩, m, rfl⟩
  exact ⟨he, C', hr, by rw [m.isPt]⟩
theorem floorC.closedR {p : FPtr} {f : FloorS} {tr : Value} {C C' : Array Value} (h : floorC p f tr C) {x : Bool} (r : Recell C 10 (.bool x) C') : floorC p { f with closed := x } tr C' :=
  ⟨r.size.trans h.size, fun i hi => (r.other i (by omega)).trans (h.cfg i hi), (r.other _ (by omega)).trans h.slab, (r.other _ (by omega)).trans h.sh, (r.other _ (by omega)).trans h.pipe, (r.other _ (by omega)).trans h.log,
    r.cell,
    r.cellOther h.inside (by omega),
    r.cellOther h.busy (by omega),
    r.cellOther h.now (by omega),
    (r.other _ (by omega)).trans h.tr⟩
theorem floorC.closedS {p : FPtr} {f : FloorS} {tr : Value} {C C' : Array Value} (h : floorC p f tr C) (r : Recell C 10 (.bool f.closed) C') : floorC p f tr C' := h.closedR r
theorem floorC.insideR {p : FPtr} {f : FloorS} {tr : Value} {C C' : Array Value} (h : floorC p f tr C) {x : Int} (r : Recell C 14 (.int .i64 x) C') : floorC p { f with inside := x } tr C' :=
  ⟨r.size.trans h.size, fun i hi => (r.other i (by omega)).trans (h.cfg i hi), (r.other _ (by omega)).trans h.slab, (r.other _ (by omega)).trans h.sh, (r.other _ (by omega)).trans h.pipe, (r.other _ (by omega)).trans h.log,
    r.cellOther h.closed (by omega),
    r.cell,
    r.cellOther h.busy (by omega),
    r.cellOther h.now (by omega),
    (r.other _ (by omega)).trans h.tr⟩
theorem floorC.insideS {p : FPtr} {f : FloorS} {tr : Value} {C C' : Array Value} (h : floorC p f tr C) (r : Recell C 14 (.int .i64 f.inside) C') : floorC p f tr C' := h.insideR r
theorem floorC.busyR {p : FPtr} {f : FloorS} {tr : Value} {C C' : Array Value} (h : floorC p f tr C) {x : Int} (r : Recell C 18 (.int .i64 x) C') : floorC p { f with busy := x } tr C' :=
  ⟨r.size.trans h.size, fun i hi => (r.other i (by omega)).trans (h.cfg i hi), (r.other _ (by omega)).trans h.slab, (r.other _ (by omega)).trans h.sh, (r.other _ (by omega)).trans h.pipe, (r.other _ (by omega)).trans h.log,
    r.cellOther h.closed (by omega),
    r.cellOther h.inside (by omega),
    r.cell,
    r.cellOther h.now (by omega),
    (r.other _ (by omega)).trans h.tr⟩
theorem floorC.busyS {p : FPtr} {f : FloorS} {tr : Value} {C C' : Array Value} (h : floorC p f tr C) (r : Recell C 18 (.int .i64 f.busy) C') : floorC p f tr C' := h.busyR r
theorem floorC.nowR {p : FPtr} {f : FloorS} {tr : Value} {C C' : Array Value} (h : floorC p f tr C) {x : Int} (r : Recell C 22 (.int .u64 x) C') : floorC p { f with now := x } tr C' :=
  ⟨r.size.trans h.size, fun i hi => (r.other i (by omega)).trans (h.cfg i hi), (r.other _ (by omega)).trans h.slab, (r.other _ (by omega)).trans h.sh, (r.other _ (by omega)).trans h.pipe, (r.other _ (by omega)).trans h.log,
    r.cellOther h.closed (by omega),
    r.cellOther h.inside (by omega),
    r.cellOther h.busy (by omega),
    r.cell,
    (r.other _ (by omega)).trans h.tr⟩
theorem floorC.nowS {p : FPtr} {f : FloorS} {tr : Value} {C C' : Array Value} (h : floorC p f tr C) (r : Recell C 22 (.int .u64 f.now) C') : floorC p f tr C' := h.nowR r
theorem floorSlab_g {fb : Nat} {p : FPtr} {f : FloorS} {tr : Value} {g : List Blk} (hg : isFloor fb p f tr g) : DoesG Tryz.prog 26 #[ptr' fb] [g] fun e gs => e = .returned (ptr' p.sb) ∧ gs = [g] := by
  obtain ⟨C, rfl, hc⟩ := hg
  intro w hw
  have T0 := TG.refl hw
  have HT := Lib.hid T0
  clear hw T0
  have c0 := (HT.out.cell 0 0 rfl 6).trans hc.slab
  clear hc
  go_enter Tryz.func26, Tryz.ntmps26
  go_wp2
  go_ret
  exact ⟨_, ⟨rfl, rfl⟩, HT.out⟩
theorem floorSlab_nil : DoesG Tryz.prog 26 #[.pointer none] [] fun e gs => e = .returned (.pointer none) ∧ gs = [] := by
  intro w hw
  have T0 := TG.refl hw
  have HT := Lib.hid T0
  clear hw T0
  go_enter Tryz.func26, Tryz.ntmps26
  go_wp2
  go_ret
  exact ⟨_, ⟨rfl, rfl⟩, HT.out⟩
theorem floorPipe_g {fb : Nat} {p : FPtr} {f : FloorS} {tr : Value} {g : List Blk} (hg : isFloor fb p f tr g) : DoesG Tryz.prog 55 #[ptr' fb] [g] fun e gs => e = .returned (ptr' p.pb) ∧ gs = [g] := by
  obtain ⟨C, rfl, hc⟩ := hg
  intro w hw
  have T0 := TG.refl hw
  have HT := Lib.hid T0
  clear hw T0
  have c0 := (HT.out.cell 0 0 rfl 8).trans hc.pipe
  clear hc
  go_enter Tryz.func55, Tryz.ntmps55
  go_wp2
  go_ret
  exact ⟨_, ⟨rfl, rfl⟩, HT.out⟩
theorem floorPipe_nil : DoesG Tryz.prog 55 #[.pointer none] [] fun e gs => e = .returned (.pointer none) ∧ gs = [] := by
  intro w hw
  have T0 := TG.refl hw
  have HT := Lib.hid T0
  clear hw T0
  go_enter Tryz.func55, Tryz.ntmps55
  go_wp2
  go_ret
  exact ⟨_, ⟨rfl, rfl⟩, HT.out⟩
theorem floorInside_g {fb : Nat} {p : FPtr} {f : FloorS} {tr : Value} {g : List Blk} (hg : isFloor fb p f tr g) : DoesG Tryz.prog 31 #[ptr' fb] [g] fun e gs => e = .returned (.int .i64 f.inside) ∧ ∃ g', isFloor fb p f tr g' ∧ gs = [g'] := by
  obtain ⟨C, rfl, hc⟩ := hg
  intro w hw
  have T0 := TG.refl hw
  have HT := Lib.hid T0
  clear hw T0
  have HC := Lib.hid hc
  clear hc
  go_enter Tryz.func31, Tryz.ntmps31
  go_wp2_with fail
  refine (DoesG.use (cellG (loadI_does fb 14 _ C f.inside HC.out.inside)) (HT.out) [0] rfl rfl).mono ?_
  rintro e w1 ⟨gs, ⟨rfl, C1, hr, rfl⟩, Ta⟩
  simp only [putG, List.set_cons_zero, List.set_cons_succ, List.cons_append, List.nil_append, List.append_nil] at Ta
  have HT := Lib.hid Ta
  clear Ta
  have HR := Lib.hid hr
  clear hr
  go_wp2
  go_ret
  exact ⟨_, ⟨rfl, _, ⟨C1, rfl, HC.out.insideS HR.out⟩, rfl⟩, HT.out⟩
theorem floorInside_nil : DoesG Tryz.prog 31 #[.pointer none] [] fun e gs => e = .returned (.int .i64 0) ∧ gs = [] := by
  intro w hw
  have T0 := TG.refl hw
  have HT := Lib.hid T0
  clear hw T0
  go_enter Tryz.func31, Tryz.ntmps31
  go_wp2
  go_ret
  exact ⟨_, ⟨rfl, rfl⟩, HT.out⟩
theorem floorBusy_g {fb : Nat} {p : FPtr} {f : FloorS} {tr : Value} {g : List Blk} (hg : isFloor fb p f tr g) : DoesG Tryz.prog 178 #[ptr' fb] [g] fun e gs => e = .returned (.int .i64 f.busy) ∧ ∃ g', isFloor fb p f tr g' ∧ gs = [g'] := by
  obtain ⟨C, rfl, hc⟩ := hg
  intro w hw
  have T0 := TG.refl hw
  have HT := Lib.hid T0
  clear hw T0
  have HC := Lib.hid hc
  clear hc
  go_enter Tryz.func178, Tryz.ntmps178
  go_wp2_with fail
  refine (DoesG.use (cellG (loadI_does fb 18 _ C f.busy HC.out.busy)) (HT.out) [0] rfl rfl).mono ?_
  rintro e w1 ⟨gs, ⟨rfl, C1, hr, rfl⟩, Ta⟩
  simp only [putG, List.set_cons_zero, List.set_cons_succ, List.cons_append, List.nil_append, List.append_nil] at Ta
  have HT := Lib.hid Ta
  clear Ta
  have HR := Lib.hid hr
  clear hr
  go_wp2
  go_ret
  exact ⟨_, ⟨rfl, _, ⟨C1, rfl, HC.out.busyS HR.out⟩, rfl⟩, HT.out⟩
theorem floorBusy_nil : DoesG Tryz.prog 178 #[.pointer none] [] fun e gs => e = .returned (.int .i64 0) ∧ gs = [] := by
  intro w hw
  have T0 := TG.refl hw
  have HT := Lib.hid T0
  clear hw T0
  go_enter Tryz.func178, Tryz.ntmps178
  go_wp2
  go_ret
  exact ⟨_, ⟨rfl, rfl⟩, HT.out⟩
theorem floorNow_g {fb : Nat} {p : FPtr} {f : FloorS} {tr : Value} {g : List Blk} (hg : isFloor fb p f tr g) : DoesG Tryz.prog 51 #[ptr' fb] [g] fun e gs => e = .returned (.int .u64 f.now) ∧ ∃ g', isFloor fb p f tr g' ∧ gs = [g'] := by
  obtain ⟨C, rfl, hc⟩ := hg
  intro w hw
  have T0 := TG.refl hw
  have HT := Lib.hid T0
  clear hw T0
  have HC := Lib.hid hc
  clear hc
  go_enter Tryz.func51, Tryz.ntmps51
  go_wp2_with fail
  refine (DoesG.use (cellG (loadU_does fb 22 _ C f.now HC.out.now)) (HT.out) [0] rfl rfl).mono ?_
  rintro e w1 ⟨gs, ⟨rfl, C1, hr, rfl⟩, Ta⟩
  simp only [putG, List.set_cons_zero, List.set_cons_succ, List.cons_append, List.nil_append, List.append_nil] at Ta
  have HT := Lib.hid Ta
  clear Ta
  have HR := Lib.hid hr
  clear hr
  go_wp2
  go_ret
  exact ⟨_, ⟨rfl, _, ⟨C1, rfl, HC.out.nowS HR.out⟩, rfl⟩, HT.out⟩
theorem floorNow_nil : DoesG Tryz.prog 51 #[.pointer none] [] fun e gs => e = .returned (.int .u64 0) ∧ gs = [] := by
  intro w hw
  have T0 := TG.refl hw
  have HT := Lib.hid T0
  clear hw T0
  go_enter Tryz.func51, Tryz.ntmps51
  go_wp2
  go_ret
  exact ⟨_, ⟨rfl, rfl⟩, HT.out⟩
theorem floorClosed_g {fb : Nat} {p : FPtr} {f : FloorS} {tr : Value} {g : List Blk} (hg : isFloor fb p f tr g) : DoesG Tryz.prog 102 #[ptr' fb] [g] fun e gs => e = .returned (.bool f.closed) ∧ ∃ g', isFloor fb p f tr g' ∧ gs = [g'] := by
  obtain ⟨C, rfl, hc⟩ := hg
  intro w hw
  have T0 := TG.refl hw
  have HT := Lib.hid T0
  clear hw T0
  have HC := Lib.hid hc
  clear hc
  go_enter Tryz.func102, Tryz.ntmps102
  go_wp2_with fail
  refine (DoesG.use (cellG (loadB_does fb 10 _ C f.closed HC.out.closed)) (HT.out) [0] rfl rfl).mono ?_
  rintro e w1 ⟨gs, ⟨rfl, C1, hr, rfl⟩, Ta⟩
  simp only [putG, List.set_cons_zero, List.set_cons_succ, List.cons_append, List.nil_append, List.append_nil] at Ta
  have HT := Lib.hid Ta
  clear Ta
  have HR := Lib.hid hr
  clear hr
  go_wp2
  go_ret
  exact ⟨_, ⟨rfl, _, ⟨C1, rfl, HC.out.closedS HR.out⟩, rfl⟩, HT.out⟩
theorem floorClosed_nil : DoesG Tryz.prog 102 #[.pointer none] [] fun e gs => e = .returned (.bool false) ∧ gs = [] := by
  intro w hw
  have T0 := TG.refl hw
  have HT := Lib.hid T0
  clear hw T0
  go_enter Tryz.func102, Tryz.ntmps102
  go_wp2
  go_ret
  exact ⟨_, ⟨rfl, rfl⟩, HT.out⟩
theorem floorShut_g {fb : Nat} {p : FPtr} {f : FloorS} {tr : Value} {g : List Blk} (hg : isFloor fb p f tr g) : DoesG Tryz.prog 25 #[ptr' fb] [g] fun e gs => e = .returned (.bool (!f.closed)) ∧ ∃ g', isFloor fb p { f with closed := true } tr g' ∧ gs = [g'] := by
  obtain ⟨C, rfl, hc⟩ := hg
  intro w hw
  have T0 := TG.refl hw
  have HT := Lib.hid T0
  clear hw T0
  have HC := Lib.hid hc
  clear hc
  go_enter Tryz.func25, Tryz.ntmps25
  go_wp2_with fail
  refine (DoesG.use (cellG (swapB_does fb 10 _ C f.closed false true HC.out.closed)) (HT.out) [0] rfl rfl).mono ?_
  rintro e w1 ⟨gs, ⟨rfl, C1, hr, rfl⟩, Ta⟩
  simp only [putG, List.set_cons_zero, List.set_cons_succ, List.cons_append, List.nil_append, List.append_nil] at Ta
  have HT := Lib.hid Ta
  clear Ta
  have HR := Lib.hid (show Recell C 10 (.bool true) C1 from by cases hb : f.closed <;> simp [hb] at hr <;> exact hr)
  clear hr
  go_wp2
  go_ret
  exact ⟨_, ⟨by cases hb : f.closed <;> simp [hb], _, ⟨C1, rfl, HC.out.closedR HR.out⟩, rfl⟩, HT.out⟩
theorem floorShut_nil : DoesG Tryz.prog 25 #[.pointer none] [] fun e gs => e = .returned (.bool false) ∧ gs = [] := by
  intro w hw
  have T0 := TG.refl hw
  have HT := Lib.hid T0
  clear hw T0
  go_enter Tryz.func25, Tryz.ntmps25
  go_wp2
  go_ret
  exact ⟨_, ⟨rfl, rfl⟩, HT.out⟩
/-- the shards' slice -/
theorem row_at {e : TypeId} {v : Value} {n : Nat} {xs : List Value} {g : List Blk} (r : rowG e 1 v n xs g) {i : Nat} {u : Value} (hi : xs[i]? = some u) :
    ∃ b cap cur, v = .slice (some ⟨b, 0, none⟩) n cap ∧ g = [cl b e cur] ∧ cur[i]? = some u ∧ i < n := by
  have hl := r.1
  have hin : i < n := by have := (List.getElem?_eq_some_iff.1 hi).1; omega
  obtain ⟨b, cap, cur, h1, h2, _, _, _, h6⟩ := r.open (by omega)
  exact ⟨b, cap, cur, h1, h2, (h6 i (by omega)).trans hi, hin⟩
def shardV (shs : List Nat) (i : Int) : Value := if 0 ≤ i ∧ i < shs.length then ptr' (shs.getD i.toNat 0) else .pointer none
def homeV (shs : List Nat) (i : Int) : Value := if 0 ≤ i then ptr' (shs.getD (i % shs.length).toNat 0) else .pointer none
theorem floorShard_g {fb : Nat} {p : FPtr} {f : FloorS} {tr : Value} {g : List Blk} {shs : List Nat} {gR : List Blk} (hg : isFloor fb p f tr g) (hr : rowG 61 1 p.sh shs.length (shs.map fun x => ptr' x) gR) (i : Int) : DoesG Tryz.prog 29 #[ptr' fb, .int .i64 i] [g, gR] fun e gs =>
    e = .returned (shardV shs i) ∧ gs = [g, gR] := by
  obtain ⟨C, rfl, hc⟩ := hg
  by_cases h0 : 0 ≤ i
  · obtain ⟨k, rfl⟩ := Int.eq_ofNat_of_zero_le h0
    by_cases hk : k < shs.length
    · have hget := List.getElem?_eq_getElem hk
      obtain ⟨x, hx⟩ : ∃ x, shs[k] = x := ⟨_, rfl⟩
      rw [hx] at hget
      have hi : (shs.map fun x => ptr' x)[k]? = some (ptr' x) := by rw [List.getElem?_map, hget]; rfl
      obtain ⟨b, cap, cur, hv, rfl, hcu, _⟩ := row_at hr hi
      have HV := Lib.hid (show shardV shs k = ptr' x from by
        unfold shardV
        rw [if_pos ⟨h0, by omega⟩, Int.toNat_natCast, List.getD_eq_getElem?_getD, hget]; rfl)
      have hsh := hc.sh
      rw [hv] at hsh
      intro w hw
      have T0 := TG.refl hw
      have HT := Lib.hid T0
      clear hw T0
      have c0 := (HT.out.cell 0 0 rfl 7).trans hsh
      have c1 := (HT.out.cell 1 0 rfl k).trans hcu
      clear hc hr hget hi hv hsh hcu hx
      go_enter Tryz.func29, Tryz.ntmps29
      go_wp2
      go_ret
      exact ⟨_, ⟨by rw [HV.out]; rfl, rfl⟩, HT.out⟩
    · have HV := Lib.hid (show shardV shs k = .pointer none from if_neg (by omega))
      obtain ⟨a, cap, hv⟩ := hr.val
      have hsh := hc.sh
      rw [hv] at hsh
      intro w hw
      have T0 := TG.refl hw
      have HT := Lib.hid T0
      clear hw T0
      have c0 := (HT.out.cell 0 0 rfl 7).trans hsh
      clear hc hr hv hsh
      go_enter Tryz.func29, Tryz.ntmps29
      go_wp2
      go_ret
      exact ⟨_, ⟨by rw [HV.out]; rfl, rfl⟩, HT.out⟩
  · have HV := Lib.hid (show shardV shs i = .pointer none from if_neg (by omega))
    intro w hw
    have T0 := TG.refl hw
    have HT := Lib.hid T0
    clear hw T0
    clear hc hr
    go_enter Tryz.func29, Tryz.ntmps29
    go_wp2
    go_ret
    exact ⟨_, ⟨by rw [HV.out]; rfl, rfl⟩, HT.out⟩
theorem floorHome_g {fb : Nat} {p : FPtr} {f : FloorS} {tr : Value} {g : List Blk} {shs : List Nat} {gR : List Blk} (hg : isFloor fb p f tr g) (hr : rowG 61 1 p.sh shs.length (shs.map fun x => ptr' x) gR) (hn : 1 ≤ shs.length) (i : Int) : DoesG Tryz.prog 133 #[ptr' fb, .int .i64 i] [g, gR] fun e gs =>
    e = .returned (homeV shs i) ∧ gs = [g, gR] := by
  by_cases h0 : 0 ≤ i
  · have hs := floorShard_g hg hr (i % shs.length)
    have hm0 : 0 ≤ i % (shs.length : Int) := Int.emod_nonneg _ (by omega)
    have hm1 : i % (shs.length : Int) < shs.length := Int.emod_lt_of_pos _ (by omega)
    obtain ⟨x, hx⟩ : ∃ x, ptr' (shs.getD (i % shs.length).toNat 0) = x := ⟨_, rfl⟩
    have HV := Lib.hid (show homeV shs i = x from (if_pos h0).trans hx)
    rw [show shardV shs (i % shs.length) = x from (if_pos ⟨hm0, hm1⟩).trans hx] at hs
    have HS := Lib.hid hs
    obtain ⟨C, rfl, hc⟩ := hg
    obtain ⟨a, cap, hv⟩ := hr.val
    have hsh := hc.sh
    rw [hv] at hsh
    intro w hw
    have T0 := TG.refl hw
    have HT := Lib.hid T0
    clear hw T0
    have c0 := (HT.out.cell 0 0 rfl 7).trans hsh
    clear hc hr hv hsh hs hm0 hm1 hx
    go_enter Tryz.func133, Tryz.ntmps133
    go_wp2_with fail
    refine (DoesG.use (HS.out) (HT.out) [0, 1] rfl rfl).mono ?_
    rintro e w1 ⟨gs, ⟨rfl, rfl⟩, Ta⟩
    simp only [putG, List.set_cons_zero, List.set_cons_succ, List.cons_append, List.nil_append, List.append_nil] at Ta
    have HT := Lib.hid Ta
    clear Ta
    go_wp2
    go_ret
    exact ⟨_, ⟨by rw [HV.out]; rfl, rfl⟩, HT.out⟩
  · have HV := Lib.hid (show homeV shs i = .pointer none from if_neg h0)
    intro w hw
    have T0 := TG.refl hw
    have HT := Lib.hid T0
    clear hw T0
    clear hg hr
    go_enter Tryz.func133, Tryz.ntmps133
    go_wp2
    go_ret
    exact ⟨_, ⟨by rw [HV.out]; rfl, rfl⟩, HT.out⟩
end Go.Proofs.YthbjaoinklhikaaGreat

namespace Go.Proofs.YthbjaoinklhikaaGreat
set_option linter.unusedVariables false
set_option linter.unusedSimpArgs false
open Go.RowKit Go.Shelf

def plainCfg (sh room : Int) : Cfg := ⟨sh, room, 4, 4, 2, 4⟩
theorem plain_ok {sh room : Int} (h1 : 1 ≤ sh) (h2 : sh ≤ 4) (h3 : 1 ≤ room) (h4 : room ≤ 64) : (plainCfg sh room).ok = true := by
  simp [Cfg.ok, Cfg.fine, Cfg.pair, plainCfg]; omega
/-- the shards' blocks differ -/
theorem fam_roots {α : Type} {P : α → List Blk → Prop} {root : α → Nat} (hp : ∀ a x, P a x → root a ∈ x.map Prod.fst) : ∀ {l : List α} {g : List Blk}, FamP P l g → (g.map Prod.fst).Nodup → (l.map root).Nodup ∧ ∀ a ∈ l, root a ∈ g.map Prod.fst
  | [], g, _, _ => ⟨List.nodup_nil, fun a h => by cases h⟩
  | a :: l, g, ⟨x, y, hx, hy, hg⟩, hn => by
    subst hg
    rw [List.map_append] at hn ⊢
    obtain ⟨n1, n2, n3⟩ := List.nodup_append.1 hn
    obtain ⟨i1, i2⟩ := fam_roots hp hy n2
    refine ⟨List.nodup_cons.2 ⟨fun hm => ?_, i1⟩, fun b hb => ?_⟩
    · obtain ⟨b, hb, hbe⟩ := List.mem_map.1 hm
      have := i2 b hb
      rw [hbe] at this
      exact n3 _ (hp a x hx) _ this rfl
    · rcases List.mem_cons.1 hb with rfl | hb
      · exact List.mem_append_left _ (hp _ _ hx)
      · exact List.mem_append_right _ (i2 b hb)
theorem shard_root (x : Nat × ShardS) (g : List Blk) (h : isShard x.1 x.2 g) : x.1 ∈ g.map Prod.fst := by
  obtain ⟨rb, lb, wb, gr, gl, _, _, rfl⟩ := h
  simp
theorem TG.sub {h H : GH} {w w' : World} (T : TG h w H w') (i : Nat) (hi : decide (i < H.length) = true) : ((H.getD i []).map Prod.fst).Nodup := by
  have hn := T.nodup
  have hp := (perm_at (of_decide_eq_true hi)).map Prod.fst
  have := (hp.nodup_iff).1 hn
  rw [List.map_append] at this
  exact (List.nodup_append.1 this).1
theorem FloorAll.roots {fb : Nat} {p : FPtr} {f : FloorS} {tr : Value} {s : SlabS} {shs : List (Nat × ShardS)} {gF gS gR gH gP gL : List Blk} (a : FloorAll fb p f tr s shs gF gS gR gH gP gL) (hn : (gH.map Prod.fst).Nodup) : (shs.map Prod.fst).Nodup :=
  (fam_roots (root := Prod.fst) shard_root a.shards hn).1
theorem FloorAll.row' {fb : Nat} {p : FPtr} {f : FloorS} {tr : Value} {s : SlabS} {shs : List (Nat × ShardS)} {gF gS gR gH gP gL : List Blk} (a : FloorAll fb p f tr s shs gF gS gR gH gP gL) : rowG 61 1 p.sh (shs.map Prod.fst).length ((shs.map Prod.fst).map fun x => ptr' x) gR := by
  have := a.row
  rw [List.length_map, List.map_map]; exact this
theorem floorHome_c {fb : Nat} {p : FPtr} {f : FloorS} {tr : Value} {g : List Blk} {shs : List Nat} {gR : List Blk} {i : Int} {v : Value} (E : homeV shs i = v) (hg : isFloor fb p f tr g) (hr : rowG 61 1 p.sh shs.length (shs.map fun x => ptr' x) gR) (hn : 1 ≤ shs.length) :
    DoesG Tryz.prog 133 #[ptr' fb, .int .i64 i] [g, gR] fun e gs => e = .returned v ∧ gs = [g, gR] := by
  have := floorHome_g hg hr hn i; rwa [E] at this
theorem floorShard_c {fb : Nat} {p : FPtr} {f : FloorS} {tr : Value} {g : List Blk} {shs : List Nat} {gR : List Blk} {i : Int} {v : Value} (E : shardV shs i = v) (hg : isFloor fb p f tr g) (hr : rowG 61 1 p.sh shs.length (shs.map fun x => ptr' x) gR) :
    DoesG Tryz.prog 29 #[ptr' fb, .int .i64 i] [g, gR] fun e gs => e = .returned v ∧ gs = [g, gR] := by
  have := floorShard_g hg hr i; rwa [E] at this

theorem Tryz.infoShardT : (Tryz.prog.info? 180).map (fun i => (i.zero, i.size, i.bytes)) = some (some (.agg #[.pointer none, .pointer none, .pointer none]), 3, 24) := by kernel_rfl
theorem shard_same (b : Nat) (w : World) : (binOp .eql 61 (ptr' b) (ptr' b)).run Tryz.prog w = .ok (.bool true) w := by
  obtain ⟨i, hi, _, _, _⟩ := info_parts Tryz.infoShardT
  exact run_eql_ptr_same w ⟨b, 0, none⟩ Tryz.underlying61 hi
theorem shard_other {u v : Nat} (w : World) (hne : u ≠ v) {cu cv : Array Value} {tu tv : TypeId} (hu : w.heap[u]? = some (.cells cu tu (0, 0))) (hv : w.heap[v]? = some (.cells cv tv (0, 0))) : (binOp .eql 61 (ptr' u) (ptr' v)).run Tryz.prog w = .ok (.bool false) w := by
  obtain ⟨i, hi, _, hs, _⟩ := info_parts Tryz.infoShardT
  exact run_eql_ptr_other w (a := ⟨u, 0, none⟩) (b := ⟨v, 0, none⟩) Tryz.underlying61 hi (by rw [hs]; decide) (fun e => hne (by injection e)) hu hv
/-- a shard's block -/
theorem fam_mem {l : List (Nat × ShardS)} {g : List Blk} (h : FamP (fun (x : Nat × ShardS) => isShard x.1 x.2) l g) {b : Nat} (hb : b ∈ l.map Prod.fst) : ∃ C, cl b 180 C ∈ g := by
  induction l generalizing g with
  | nil => simp at hb
  | cons a l ih =>
    obtain ⟨x, y, hx, hy, rfl⟩ := h
    rcases List.mem_cons.1 hb with rfl | hb
    · obtain ⟨rb, lb, wb, gr, gl, _, _, rfl⟩ := hx
      exact ⟨_, List.mem_append_left _ List.mem_cons_self⟩
    · obtain ⟨C, hC⟩ := ih hy hb
      exact ⟨C, List.mem_append_right _ hC⟩
theorem TG.shardBlk {h H : GH} {w w' : World} (T : TG h w H w') (i : Nat) {l : List (Nat × ShardS)} {g : List Blk} (hg : H.getD i [] = g) (hf : FamP (fun (x : Nat × ShardS) => isShard x.1 x.2) l g) {b : Nat} (hb : b ∈ l.map Prod.fst) : ∃ C, w'.heap[b]? = some (.cells C 180 (0, 0)) := by
  obtain ⟨C, hC⟩ := fam_mem hf hb
  obtain ⟨j, hj⟩ := List.mem_iff_getElem?.1 hC
  exact ⟨C, T.obj i j (p := cl b 180 C) (by rw [hg]; exact hj)⟩

end Go.Proofs.YthbjaoinklhikaaGreat

namespace Go.Proofs.YthbjaoinklhikaaGreat
set_option linter.unusedVariables false
set_option linter.unusedSimpArgs false
open Go.RowKit Go.Shelf

theorem floorShard_r {fb : Nat} {p : FPtr} {f : FloorS} {tr : Value} {g : List Blk} {shs : List Nat} {gR : List Blk} (hg : isFloor fb p f tr g) (hr : rowG 61 1 p.sh shs.length (shs.map fun x => ptr' x) gR) (i : Int) : ReadsG Tryz.prog 29 #[ptr' fb, .int .i64 i] [g, gR] (shardV shs i) := by
  obtain ⟨C, rfl, hc⟩ := hg
  by_cases h0 : 0 ≤ i
  · obtain ⟨k, rfl⟩ := Int.eq_ofNat_of_zero_le h0
    by_cases hk : k < shs.length
    · have hget := List.getElem?_eq_getElem hk
      obtain ⟨x, hx⟩ : ∃ x, shs[k] = x := ⟨_, rfl⟩
      rw [hx] at hget
      have hi : (shs.map fun x => ptr' x)[k]? = some (ptr' x) := by rw [List.getElem?_map, hget]; rfl
      obtain ⟨b, cap, cur, hv, rfl, hcu, _⟩ := row_at hr hi
      have HV := Lib.hid (show shardV shs k = ptr' x from by
        unfold shardV
        rw [if_pos ⟨h0, by omega⟩, Int.toNat_natCast, List.getD_eq_getElem?_getD, hget]; rfl)
      have hsh := hc.sh
      rw [hv] at hsh
      intro w hw
      have T0 := TG.refl hw
      have HT := Lib.hid T0
      clear hw T0
      have c0 := (HT.out.cell 0 0 rfl 7).trans hsh
      have c1 := (HT.out.cell 1 0 rfl k).trans hcu
      clear hc hr hget hi hv hsh hcu hx
      go_enter Tryz.func29, Tryz.ntmps29
      go_wp2
      go_ret
      first | exact ⟨by rw [HV.out]; rfl, 0, rfl⟩ | exact ⟨by rw [HV.out]; rfl, _, rfl⟩
    · have HV := Lib.hid (show shardV shs k = .pointer none from if_neg (by omega))
      obtain ⟨a, cap, hv⟩ := hr.val
      have hsh := hc.sh
      rw [hv] at hsh
      intro w hw
      have T0 := TG.refl hw
      have HT := Lib.hid T0
      clear hw T0
      have c0 := (HT.out.cell 0 0 rfl 7).trans hsh
      clear hc hr hv hsh
      go_enter Tryz.func29, Tryz.ntmps29
      go_wp2
      go_ret
      first | exact ⟨by rw [HV.out]; rfl, 0, rfl⟩ | exact ⟨by rw [HV.out]; rfl, _, rfl⟩
  · have HV := Lib.hid (show shardV shs i = .pointer none from if_neg (by omega))
    intro w hw
    have T0 := TG.refl hw
    have HT := Lib.hid T0
    clear hw T0
    clear hc hr
    go_enter Tryz.func29, Tryz.ntmps29
    go_wp2
    go_ret
    first | exact ⟨by rw [HV.out]; rfl, 0, rfl⟩ | exact ⟨by rw [HV.out]; rfl, _, rfl⟩
theorem floorHome_r {fb : Nat} {p : FPtr} {f : FloorS} {tr : Value} {g : List Blk} {shs : List Nat} {gR : List Blk} (hg : isFloor fb p f tr g) (hr : rowG 61 1 p.sh shs.length (shs.map fun x => ptr' x) gR) (hn : 1 ≤ shs.length) (i : Int) : ReadsG Tryz.prog 133 #[ptr' fb, .int .i64 i] [g, gR] (homeV shs i) := by
  by_cases h0 : 0 ≤ i
  · have hs := floorShard_r hg hr (i % shs.length)
    have hm0 : 0 ≤ i % (shs.length : Int) := Int.emod_nonneg _ (by omega)
    have hm1 : i % (shs.length : Int) < shs.length := Int.emod_lt_of_pos _ (by omega)
    obtain ⟨x, hx⟩ : ∃ x, ptr' (shs.getD (i % shs.length).toNat 0) = x := ⟨_, rfl⟩
    have HV := Lib.hid (show homeV shs i = x from (if_pos h0).trans hx)
    rw [show shardV shs (i % shs.length) = x from (if_pos ⟨hm0, hm1⟩).trans hx] at hs
    have HS := Lib.hid hs
    obtain ⟨C, rfl, hc⟩ := hg
    obtain ⟨a, cap, hv⟩ := hr.val
    have hsh := hc.sh
    rw [hv] at hsh
    intro w hw
    have T0 := TG.refl hw
    have HT := Lib.hid T0
    clear hw T0
    have c0 := (HT.out.cell 0 0 rfl 7).trans hsh
    clear hc hr hv hsh hs hm0 hm1 hx
    go_enter Tryz.func133, Tryz.ntmps133
    go_wp2_with fail
    refine (ReadsG.use (HS.out) (HT.out) [0, 1] rfl rfl).mono ?_
    rintro e w1 ⟨rfl, mq, rfl⟩
    go_wp2
    go_ret
    first | exact ⟨by rw [HV.out]; rfl, 0, rfl⟩ | exact ⟨by rw [HV.out]; rfl, _, rfl⟩
  · have HV := Lib.hid (show homeV shs i = .pointer none from if_neg h0)
    intro w hw
    have T0 := TG.refl hw
    have HT := Lib.hid T0
    clear hw T0
    clear hg hr
    go_enter Tryz.func133, Tryz.ntmps133
    go_wp2
    go_ret
    first | exact ⟨by rw [HV.out]; rfl, 0, rfl⟩ | exact ⟨by rw [HV.out]; rfl, _, rfl⟩
end Go.Proofs.YthbjaoinklhikaaGreat

namespace Go.Proofs.YthbjaoinklhikaaGreat
set_option linter.unusedVariables false
set_option linter.unusedSimpArgs false
open Go.RowKit Go.ChangeShapes

/-! ## A slice of bytes that came in -/
def ArgU8 (w : World) (a : Option Addr) (zs : List Int) : Prop :=
  (∀ x ∈ zs, 0 ≤ x ∧ x ≤ 255) ∧ (zs = [] ∨ ∃ b off, a = some ⟨b, off, none⟩ ∧ b < w.heap.size ∧ ∀ (i : Nat) (x : Int), zs[i]? = some x → w.cell? ⟨b, off + i, none⟩ = some (.int .u8 x))
theorem TG.old {H : GH} {w w' : World} (T : TG [] w H w') {p : Addr} (hp : p.block < w.heap.size) : w'.cell? p = w.cell? p :=
  (Turned.below T).cell hp
theorem TG.ofW {w : World} : TG [] w [] w := TG.refl (HasG.nil w)
theorem TG.bel {H : GH} {w w' : World} (T : TG [] w H w') : Below w.heap.size w w' := Turned.below T
/-- one of its elements, in a later world -/
theorem ArgU8.at {w : World} {a : Option Addr} {zs : List Int} (h : ArgU8 w a zs) {i : Nat} (hi : i < zs.length) :
    ∃ (b off : Nat) (x : Int), a = some ⟨b, off, none⟩ ∧ zs[i]? = some x ∧ 0 ≤ x ∧ x ≤ 255 ∧ ∀ {H : GH} {w' : World}, TG [] w H w' → w'.cell? ⟨b, off + i, none⟩ = some (.int .u8 x) := by
  have hg := List.getElem?_eq_getElem hi
  have hb := h.1 _ (List.getElem_mem hi)
  rcases h.2 with h0 | ⟨b, off, ha, hlt, hc⟩
  · subst h0; exact absurd hi (Nat.not_lt_zero _)
  · exact ⟨b, off, zs[i], ha, hg, hb.1, hb.2, fun T => (T.old hlt).trans (hc i _ hg)⟩
theorem argU8_of {w : World} {a : Option Addr} {len cap : Nat} {z : List Int} (h : (a = none ∧ len = 0 ∧ cap = 0 ∧ z = []) ∨ ∃ x, a = some x ∧ len ≤ cap ∧ cap ≤ maxLen ∧ z.length = cap ∧ (∀ i, i < z.length → w.cell? (x.add i) = some (.int .u8 (z.getD i 0))) ∧ ∀ n ∈ z, (Lit.int .u8 n).wf = true) : ∃ zs, zs.length = len ∧ ArgU8 w a zs ∧ len ≤ maxLen := by
  rcases h with ⟨rfl, rfl, rfl, rfl⟩ | ⟨x, rfl, hl, hm, hz, hc, hwf⟩
  · exact ⟨[], rfl, ⟨fun x hx => (by cases hx), .inl rfl⟩, Nat.zero_le _⟩
  · refine ⟨z.take len, by rw [List.length_take]; omega, ⟨fun x hx => bounds_u8 (hwf x (List.mem_of_mem_take hx)), ?_⟩, by omega⟩
    by_cases h0 : len = 0
    · exact .inl (by subst h0; rfl)
    · obtain ⟨b, off, rfl, hc'⟩ := ints_at hc (by omega)
      refine .inr ⟨b, off, rfl, ?_, fun i x hi => ?_⟩
      · obtain ⟨o, ho, _⟩ := cells_of_cell (hc' 0 (by omega))
        exact (Array.getElem?_eq_some_iff.1 ho).1
      · have hil : i < len := by have := (List.getElem?_eq_some_iff.1 hi).1; rw [List.length_take] at this; omega
        rw [List.getElem?_take, if_pos hil] at hi
        rw [hc' i (by omega), List.getD_eq_getElem?_getD, hi]
        rfl
end Go.Proofs.YthbjaoinklhikaaGreat

namespace Go.Proofs.YthbjaoinklhikaaGreat
set_option linter.unusedVariables false
set_option linter.unusedSimpArgs false
open Go.RowKit Go.Shelf

/-! ## The floor that is none: every method -/
structure EvS where
  kind : Int
  thread : Int
  call : Int
  what : Int
  id : Int
  gen : Int
  dl : Int
  per : Int
  tick : Int
  err : Int
def EvS.cells (e : EvS) : Array Value := #[.int .i64 e.kind, .int .i64 e.thread, .int .i64 e.call, .int .i64 e.what, .int .u64 e.id, .int .u64 e.gen, .int .u64 e.dl, .int .u64 e.per, .int .u64 e.tick, .int .i64 e.err]
def noCfg : Cfg := ⟨0, 0, 0, 0, 0, 0⟩
theorem floorConfig_nil : DoesG Tryz.prog 142 #[.pointer none] [] fun e gs => e = .returned (.agg noCfg.cells) ∧ gs = [] := by
  intro w hw
  have T0 := TG.refl hw
  have HT := Lib.hid T0
  clear hw T0
  go_enter Tryz.func142, Tryz.ntmps142
  go_wp2
  exact bodyPost_ret (v := .agg noCfg.cells) (by simp [results, Tryz.results142, go_sem, noCfg, Cfg.cells]) rfl ⟨_, ⟨rfl, rfl⟩, HT.out.alloc0 _⟩
theorem floorConfig_nil' : DoesG Tryz.prog 142 #[.pointer none] [] fun e gs => e = .returned (.agg #[.int .i64 0, .int .i64 0, .int .i64 0, .int .i64 0, .int .i64 0, .int .i64 0]) ∧ gs = [] := floorConfig_nil
theorem floorEnter_nil : DoesG Tryz.prog 41 #[.pointer none] [] fun e gs => e = .returned (.tuple #[]) ∧ gs = [] := by
  intro w hw
  have T0 := TG.refl hw
  have HT := Lib.hid T0
  clear hw T0
  go_enter Tryz.func41, Tryz.ntmps41
  go_wp2
  exact bodyPost_end (results_none rfl _ _ _) rfl ⟨_, ⟨rfl, rfl⟩, HT.out⟩
theorem floorLeave_nil : DoesG Tryz.prog 43 #[.pointer none] [] fun e gs => e = .returned (.int .i64 6) ∧ gs = [] := by
  intro w hw
  have HT := Lib.hid (TG.refl hw)
  clear hw
  go_enter Tryz.func43, Tryz.ntmps43
  go_wp2
  go_ret
  exact ⟨_, ⟨rfl, rfl⟩, HT.out⟩
theorem floorWork_nil (b : Bool) : DoesG Tryz.prog 42 #[.pointer none, .bool b] [] fun e gs => e = .returned (.int .i64 6) ∧ gs = [] := by
  intro w hw
  have T0 := TG.refl hw
  have HT := Lib.hid T0
  clear hw T0
  go_enter Tryz.func42, Tryz.ntmps42
  go_wp2
  go_ret
  exact ⟨_, ⟨rfl, rfl⟩, HT.out⟩
theorem floorTurn_nil : DoesG Tryz.prog 185 #[.pointer none] [] fun e gs => e = .returned (.tuple #[.int .u64 0, .int .i64 6]) ∧ gs = [] := by
  intro w hw
  have HT := Lib.hid (TG.refl hw)
  clear hw
  go_enter Tryz.func185, Tryz.ntmps185
  go_wp2
  go_ret2
  exact ⟨_, ⟨rfl, rfl⟩, HT.out⟩
theorem floorTrace_nil : DoesG Tryz.prog 22 #[.pointer none] [] fun e gs => e = .returned (.slice none 0 0) ∧ gs = [] := by
  intro w hw
  have HT := Lib.hid (TG.refl hw)
  clear hw
  go_enter Tryz.func22, Tryz.ntmps22
  go_wp2
  go_ret
  exact ⟨_, ⟨rfl, rfl⟩, HT.out⟩
theorem floorNumber_nil (i : Int) : DoesG Tryz.prog 199 #[.pointer none, .int .i64 i] [] fun e gs => e = .returned (.tuple #[.int .u64 0, .int .i64 6]) ∧ gs = [] := by
  intro w hw
  have T0 := TG.refl hw
  have HT := Lib.hid T0
  clear hw T0
  go_enter Tryz.func199, Tryz.ntmps199
  go_wp2
  go_ret2
  exact ⟨_, ⟨rfl, rfl⟩, HT.out⟩
theorem floorNote_nil (E : EvS) : DoesG Tryz.prog 108 #[.pointer none, .agg E.cells] [] fun e gs => e = .returned (.tuple #[]) ∧ gs = [] := by
  intro w hw
  have T0 := TG.refl hw
  have HT := Lib.hid T0
  clear hw T0
  simp only [EvS.cells]
  go_enter Tryz.func108, Tryz.ntmps108
  go_wp2
  exact bodyPost_end (results_none rfl _ _ _) rfl ⟨_, ⟨rfl, rfl⟩, HT.out.alloc0 _⟩
theorem floorShard_nil (i : Int) : DoesG Tryz.prog 29 #[.pointer none, .int .i64 i] [] fun e gs => e = .returned (.pointer none) ∧ gs = [] := by
  intro w hw
  have T0 := TG.refl hw
  have HT := Lib.hid T0
  clear hw T0
  go_enter Tryz.func29, Tryz.ntmps29
  go_wp2
  go_ret
  exact ⟨_, ⟨rfl, rfl⟩, HT.out⟩
theorem floorHome_nil (i : Int) : DoesG Tryz.prog 133 #[.pointer none, .int .i64 i] [] fun e gs => e = .returned (.pointer none) ∧ gs = [] := by
  intro w hw
  have T0 := TG.refl hw
  have HT := Lib.hid T0
  clear hw T0
  go_enter Tryz.func133, Tryz.ntmps133
  go_wp2
  go_ret
  exact ⟨_, ⟨rfl, rfl⟩, HT.out⟩
end Go.Proofs.YthbjaoinklhikaaGreat

namespace Go.Proofs.YthbjaoinklhikaaGreat
set_option linter.unusedVariables false
set_option linter.unusedSimpArgs false
open Go.RowKit Go.Shelf

/-! ## Enter, Leave, Work -/
/-- a contract on groups, said on pieces -/
theorem DoesG.toDoes {P : Program} {f : Nat} {args : Array Value} {g : List Blk} {h : PH} {R : Ending → Prop} (hd : DoesG P f args [g] fun e gs => R e ∧ gs = [g]) (e : ex g = h) :
    Does P f args h fun e h' => R e ∧ h' = h := by
  subst e
  intro w hw
  refine (hd w (by unfold HasG; simpa using hw)).mono ?_
  rintro e w' ⟨gs, ⟨he, rfl⟩, T⟩
  exact ⟨_, ⟨he, rfl⟩, by simpa [TG] using T⟩
theorem count1_g (bb : Nat) (n d : Int) (h : -1000000000 ≤ n ∧ n ≤ 1000000000 ∧ -1000000000 ≤ d ∧ d ≤ 1000000000) :
    DoesG Tryz.prog 123 #[.int .i64 n, ptr' bb] [[cl bb 3 #[.int .i64 d]]] fun e gs => e = .returned (.tuple #[.int .i64 (n + d), .bool (decide (0 ≤ n + d))]) ∧ gs = [[cl bb 3 #[.int .i64 d]]] := by
  intro w hw
  have T0 := TG.refl hw
  have HT := Lib.hid T0
  clear hw T0
  have c0 := HT.out.cell 0 0 rfl 0
  simp only [List.getElem?_toArray, List.getElem?_cons_zero] at c0
  obtain ⟨h1, h2, h3, h4⟩ := h
  go_enter Tryz.func123, Tryz.ntmps123
  go_wp2
  go_quiet (fail)
  go_wp2
  go_ret2
  exact ⟨_, ⟨by simp, rfl⟩, HT.out.drewN _⟩
theorem turnI_g {b o bb : Nat} {T T2 : TypeId} {C D : Array Value} {n v : Int} {ok : Bool} {g : Nat} {caps : Array Value} (hc : cellAt C o (.int .i64 n))
    (eg : ∀ args w, (callFunc g args).run Tryz.prog w = .ok (.enter g args) w)
    (hg : DoesG Tryz.prog g (#[.int .i64 n] ++ caps) [[cl bb T2 D]] fun e gs => e = .returned (.tuple #[.int .i64 v, .bool ok]) ∧ gs = [[cl bb T2 D]]) :
    DoesG Tryz.prog 122 #[.pointer (some ⟨b, o, none⟩), .func (.func g) #[] caps] [[cl b T C], [cl bb T2 D]] fun e gs =>
      e = .returned (.tuple #[.int .i64 n, .bool ok]) ∧ ∃ C', Recell C o (.int .i64 (if ok = true then v else n)) C' ∧ gs = [[cl b T C'], [cl bb T2 D]] := by
  refine ((turnI_does b o T C n v ok g caps [pt bb T2 D] hc eg (hg.toDoes rfl)).G (gs := [[cl b T C], [cl bb T2 D]]) (by simpa using (Match.of_pt b T C).join (Match.of_pt bb T2 D))).post ?_
  rintro e gs ⟨h', g, ⟨he, C', rfl, hr⟩, m, rfl⟩
  obtain ⟨x, y, rfl, m1, m2⟩ := Match.append (a := [pt b T C']) (b := [pt bb T2 D]) m
  exact ⟨[[cl b T C'], [cl bb T2 D]], ⟨he, C', hr, rfl⟩, by rw [m1.isPt, m2.isPt]; simp⟩
abbrev Bd (n d : Int) : Prop := -1000000000 ≤ n ∧ n ≤ 1000000000 ∧ -1000000000 ≤ d ∧ d ≤ 1000000000
def lessE (n : Int) : Int := if n = 0 then 6 else 0
def lessN (n : Int) : Int := if n = 0 then 0 else n - 1
set_option maxRecDepth 100000 in
set_option maxHeartbeats 200000 in
theorem count_yes {fb o : Nat} {T : TypeId} {C : Array Value} {n m : Int} (d : Int) (h : Bd n d) (hm : n + d = m) (hk : 0 ≤ m) (hc : cellAt C o (.int .i64 n)) :
    DoesG Tryz.prog 88 #[.pointer (some ⟨fb, o, none⟩), .int .i64 d] [[cl fb T C]] fun e gs => e = .returned (.int .i64 0) ∧ ∃ C', Recell C o (.int .i64 m) C' ∧ gs = [[cl fb T C']] := by
  subst hm
  intro w hw
  have T0 := TG.refl hw
  have HT := Lib.hid T0
  clear hw T0
  have HC := Lib.hid hc
  have HB0 := count1_g w.heap.size n d h
  have hd : decide (0 ≤ n + d) = true := by simpa using hk
  rw [hd] at HB0
  have HB := Lib.hid HB0
  clear hc h HB0 hd hk
  go_enter Tryz.func88, Tryz.ntmps88
  go_wp2_with fail
  refine (DoesG.use (turnI_g (caps := #[ptr' w.heap.size]) (g := 123) (bb := w.heap.size) (D := #[.int .i64 d]) HC.out (enters_of Tryz.func123 (by kernel_rfl) rfl) HB.out) ((HT.out.alloc rfl _ _)) [0, 1] rfl rfl).mono ?_
  rintro e w1 ⟨gs, ⟨rfl, C1, hr, rfl⟩, Ta⟩
  simp only [putG, List.set_cons_zero, List.set_cons_succ, List.cons_append, List.nil_append, List.append_nil] at Ta
  have HT := Lib.hid Ta
  clear Ta
  have HR := Lib.hid hr
  clear hr
  go_wp2
  go_ret
  exact ⟨_, ⟨rfl, C1, HR.out, rfl⟩, HT.out.pick [0] rfl⟩
set_option maxRecDepth 100000 in
set_option maxHeartbeats 200000 in
theorem count_no {fb o : Nat} {T : TypeId} {C : Array Value} {n : Int} (d : Int) (h : Bd n d) (hk : n + d < 0) (hc : cellAt C o (.int .i64 n)) :
    DoesG Tryz.prog 88 #[.pointer (some ⟨fb, o, none⟩), .int .i64 d] [[cl fb T C]] fun e gs => e = .returned (.int .i64 6) ∧ ∃ C', Recell C o (.int .i64 n) C' ∧ gs = [[cl fb T C']] := by
  intro w hw
  have T0 := TG.refl hw
  have HT := Lib.hid T0
  clear hw T0
  have HC := Lib.hid hc
  have HB0 := count1_g w.heap.size n d h
  have hd : decide (0 ≤ n + d) = false := by simpa using hk
  rw [hd] at HB0
  have HB := Lib.hid HB0
  clear hc h HB0 hd hk
  go_enter Tryz.func88, Tryz.ntmps88
  go_wp2_with fail
  refine (DoesG.use (turnI_g (caps := #[ptr' w.heap.size]) (g := 123) (bb := w.heap.size) (D := #[.int .i64 d]) HC.out (enters_of Tryz.func123 (by kernel_rfl) rfl) HB.out) ((HT.out.alloc rfl _ _)) [0, 1] rfl rfl).mono ?_
  rintro e w1 ⟨gs, ⟨rfl, C1, hr, rfl⟩, Ta⟩
  simp only [putG, List.set_cons_zero, List.set_cons_succ, List.cons_append, List.nil_append, List.append_nil] at Ta
  have HT := Lib.hid Ta
  clear Ta
  have HR := Lib.hid hr
  clear hr
  go_wp2
  go_ret
  exact ⟨_, ⟨rfl, C1, HR.out, rfl⟩, HT.out.pick [0] rfl⟩
theorem floorEnter_g {fb : Nat} {p : FPtr} {f : FloorS} {tr : Value} {g : List Blk} (hg : isFloor fb p f tr g) (h : 0 ≤ f.inside ∧ f.inside ≤ 1000000) : DoesG Tryz.prog 41 #[ptr' fb] [g] fun e gs => e = .returned (.tuple #[]) ∧ ∃ g', isFloor fb p { f with inside := f.inside + 1 } tr g' ∧ gs = [g'] := by
  obtain ⟨C, rfl, hc⟩ := hg
  intro w hw
  have T0 := TG.refl hw
  have HT := Lib.hid T0
  clear hw T0
  have HC := Lib.hid hc
  have HB := Lib.hid h
  clear hc h
  go_enter Tryz.func41, Tryz.ntmps41
  go_wp2_with fail
  refine (DoesG.use (count_yes (n := f.inside) 1 (by have := HB.out; unfold Bd; omega) rfl (by have := HB.out; omega) HC.out.inside) (HT.out) [0] rfl rfl).mono ?_
  rintro e w1 ⟨gs, ⟨rfl, C1, hr, rfl⟩, Ta⟩
  simp only [putG, List.set_cons_zero, List.set_cons_succ, List.cons_append, List.nil_append, List.append_nil] at Ta
  have HT := Lib.hid Ta
  clear Ta
  have HR := Lib.hid hr
  clear hr
  go_wp2
  exact bodyPost_end (results_none rfl _ _ _) rfl ⟨_, ⟨rfl, _, ⟨C1, rfl, HC.out.insideR HR.out⟩, rfl⟩, HT.out⟩
theorem floorLeave_g {fb : Nat} {p : FPtr} {f : FloorS} {tr : Value} {g : List Blk} (hg : isFloor fb p f tr g) (h : 0 ≤ f.inside ∧ f.inside ≤ 1000000) : DoesG Tryz.prog 43 #[ptr' fb] [g] fun e gs =>
    e = .returned (.int .i64 (lessE f.inside)) ∧ ∃ g', isFloor fb p { f with inside := lessN f.inside } tr g' ∧ gs = [g'] := by
  obtain ⟨C, rfl, hc⟩ := hg
  intro w hw
  have T0 := TG.refl hw
  have HT := Lib.hid T0
  clear hw T0
  have HC := Lib.hid hc
  have HB := Lib.hid h
  clear hc h
  by_cases hz : f.inside = 0
  · have HE := Lib.hid (show lessE f.inside = 6 from if_pos hz)
    have HN := Lib.hid (show lessN f.inside = f.inside from (if_pos hz).trans hz.symm)
    have HL := Lib.hid (show f.inside + (-1) < 0 by omega)
    clear hz
    go_enter Tryz.func43, Tryz.ntmps43
    go_wp2_with fail
    refine (DoesG.use (count_no (n := f.inside) (-1) (by have := HB.out; unfold Bd; omega) HL.out HC.out.inside) (HT.out) [0] rfl rfl).mono ?_
    rintro e w1 ⟨gs, ⟨rfl, C1, hr, rfl⟩, Ta⟩
    simp only [putG, List.set_cons_zero, List.set_cons_succ, List.cons_append, List.nil_append, List.append_nil] at Ta
    have HT := Lib.hid Ta
    clear Ta
    rw [← HN.out] at hr
    have HR := Lib.hid (HC.out.insideR hr)
    clear hr
    go_wp2
    go_ret
    exact ⟨_, ⟨by rw [HE.out]; rfl, _, ⟨C1, rfl, HR.out⟩, rfl⟩, HT.out⟩
  · have HE := Lib.hid (show lessE f.inside = 0 from if_neg hz)
    have HN := Lib.hid (show f.inside + (-1) = lessN f.inside from by unfold lessN; rw [if_neg hz]; omega)
    have HL := Lib.hid (show 0 ≤ lessN f.inside from by have := HB.out; unfold lessN; rw [if_neg hz]; omega)
    clear hz
    go_enter Tryz.func43, Tryz.ntmps43
    go_wp2_with fail
    refine (DoesG.use (count_yes (n := f.inside) (-1) (by have := HB.out; unfold Bd; omega) HN.out HL.out HC.out.inside) (HT.out) [0] rfl rfl).mono ?_
    rintro e w1 ⟨gs, ⟨rfl, C1, hr, rfl⟩, Ta⟩
    simp only [putG, List.set_cons_zero, List.set_cons_succ, List.cons_append, List.nil_append, List.append_nil] at Ta
    have HT := Lib.hid Ta
    clear Ta
    have HR := Lib.hid (HC.out.insideR hr)
    clear hr
    go_wp2
    go_ret
    exact ⟨_, ⟨by rw [HE.out]; rfl, _, ⟨C1, rfl, HR.out⟩, rfl⟩, HT.out⟩
theorem floorRest_g {fb : Nat} {p : FPtr} {f : FloorS} {tr : Value} {g : List Blk} (hg : isFloor fb p f tr g) (h : 0 ≤ f.busy ∧ f.busy ≤ 1000000) : DoesG Tryz.prog 42 #[ptr' fb, .bool false] [g] fun e gs =>
    e = .returned (.int .i64 (lessE f.busy)) ∧ ∃ g', isFloor fb p { f with busy := lessN f.busy } tr g' ∧ gs = [g'] := by
  obtain ⟨C, rfl, hc⟩ := hg
  intro w hw
  have T0 := TG.refl hw
  have HT := Lib.hid T0
  clear hw T0
  have HC := Lib.hid hc
  have HB := Lib.hid h
  clear hc h
  by_cases hz : f.busy = 0
  · have HE := Lib.hid (show lessE f.busy = 6 from if_pos hz)
    have HN := Lib.hid (show lessN f.busy = f.busy from (if_pos hz).trans hz.symm)
    have HL := Lib.hid (show f.busy + (-1) < 0 by omega)
    clear hz
    go_enter Tryz.func42, Tryz.ntmps42
    go_wp2_with fail
    refine (DoesG.use (count_no (n := f.busy) (-1) (by have := HB.out; unfold Bd; omega) HL.out HC.out.busy) (HT.out) [0] rfl rfl).mono ?_
    rintro e w1 ⟨gs, ⟨rfl, C1, hr, rfl⟩, Ta⟩
    simp only [putG, List.set_cons_zero, List.set_cons_succ, List.cons_append, List.nil_append, List.append_nil] at Ta
    have HT := Lib.hid Ta
    clear Ta
    rw [← HN.out] at hr
    have HR := Lib.hid (HC.out.busyR hr)
    clear hr
    go_wp2
    go_ret
    exact ⟨_, ⟨by rw [HE.out]; rfl, _, ⟨C1, rfl, HR.out⟩, rfl⟩, HT.out⟩
  · have HE := Lib.hid (show lessE f.busy = 0 from if_neg hz)
    have HN := Lib.hid (show f.busy + (-1) = lessN f.busy from by unfold lessN; rw [if_neg hz]; omega)
    have HL := Lib.hid (show 0 ≤ lessN f.busy from by have := HB.out; unfold lessN; rw [if_neg hz]; omega)
    clear hz
    go_enter Tryz.func42, Tryz.ntmps42
    go_wp2_with fail
    refine (DoesG.use (count_yes (n := f.busy) (-1) (by have := HB.out; unfold Bd; omega) HN.out HL.out HC.out.busy) (HT.out) [0] rfl rfl).mono ?_
    rintro e w1 ⟨gs, ⟨rfl, C1, hr, rfl⟩, Ta⟩
    simp only [putG, List.set_cons_zero, List.set_cons_succ, List.cons_append, List.nil_append, List.append_nil] at Ta
    have HT := Lib.hid Ta
    clear Ta
    have HR := Lib.hid (HC.out.busyR hr)
    clear hr
    go_wp2
    go_ret
    exact ⟨_, ⟨by rw [HE.out]; rfl, _, ⟨C1, rfl, HR.out⟩, rfl⟩, HT.out⟩
theorem floorWork_g {fb : Nat} {p : FPtr} {f : FloorS} {tr : Value} {g : List Blk} (hg : isFloor fb p f tr g) (h : 0 ≤ f.busy ∧ f.busy ≤ 1000000) : DoesG Tryz.prog 42 #[ptr' fb, .bool true] [g] fun e gs => e = .returned (.int .i64 0) ∧ ∃ g', isFloor fb p { f with busy := f.busy + 1 } tr g' ∧ gs = [g'] := by
  obtain ⟨C, rfl, hc⟩ := hg
  intro w hw
  have T0 := TG.refl hw
  have HT := Lib.hid T0
  clear hw T0
  have HC := Lib.hid hc
  have HB := Lib.hid h
  clear hc h
  go_enter Tryz.func42, Tryz.ntmps42
  go_wp2_with fail
  refine (DoesG.use (count_yes (n := f.busy) 1 (by have := HB.out; unfold Bd; omega) rfl (by have := HB.out; omega) HC.out.busy) (HT.out) [0] rfl rfl).mono ?_
  rintro e w1 ⟨gs, ⟨rfl, C1, hr, rfl⟩, Ta⟩
  simp only [putG, List.set_cons_zero, List.set_cons_succ, List.cons_append, List.nil_append, List.append_nil] at Ta
  have HT := Lib.hid Ta
  clear Ta
  have HR := Lib.hid hr
  clear hr
  go_wp2
  go_ret
  exact ⟨_, ⟨rfl, _, ⟨C1, rfl, HC.out.busyR HR.out⟩, rfl⟩, HT.out⟩
end Go.Proofs.YthbjaoinklhikaaGreat
