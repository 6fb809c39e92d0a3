import Derived.Test.YtnemggminanbbaaFloorM
import Derived.LaidEqlPtr
namespace Go.Proofs.Ytnemggminanbbaa
set_option linter.unusedVariables false
set_option linter.unusedSimpArgs false
open Go.RowKit Go.Shelf

def plainCfg (sh room : Int) : Cfg := ⟨sh, room, 4, 4, 2, 4⟩
theorem plain_g (sh room : Int) : DoesG Try.prog 13 #[.int .i64 sh, .int .i64 room] [] fun e gs => e = .returned (.agg (plainCfg sh room).cells) ∧ gs = [] := by
  intro w hw
  have T0 := TG.refl hw
  have HT := Lib.hid T0
  clear hw T0
  go_enter Try.func13, Try.ntmps13
  go_wp2
  exact bodyPost_ret (v := .agg (plainCfg sh room).cells) (by simp [results, Try.results13, go_sem, plainCfg, Cfg.cells]) rfl ⟨_, ⟨rfl, rfl⟩, HT.out.alloc0 _⟩
theorem plain_ok {sh room : Int} (h1 : 1 ≤ sh) (h2 : sh ≤ 4) (h3 : 1 ≤ room) (h4 : room ≤ 64) : (plainCfg sh room).ok = true := by
  simp [Cfg.ok, Cfg.fine, Cfg.pair, plainCfg]; omega
/-- the shards' blocks differ -/
theorem fam_roots {α : Type} {P : α → List Blk → Prop} {root : α → Nat} (hp : ∀ a x, P a x → root a ∈ x.map Prod.fst) : ∀ {l : List α} {g : List Blk}, FamP P l g → (g.map Prod.fst).Nodup → (l.map root).Nodup ∧ ∀ a ∈ l, root a ∈ g.map Prod.fst
  | [], g, _, _ => ⟨List.nodup_nil, fun a h => by cases h⟩
  | a :: l, g, ⟨x, y, hx, hy, hg⟩, hn => by
    subst hg
    rw [List.map_append] at hn ⊢
    obtain ⟨n1, n2, n3⟩ := List.nodup_append.1 hn
    obtain ⟨i1, i2⟩ := fam_roots hp hy n2
    refine ⟨List.nodup_cons.2 ⟨fun hm => ?_, i1⟩, fun b hb => ?_⟩
    · obtain ⟨b, hb, hbe⟩ := List.mem_map.1 hm
      have := i2 b hb
      rw [hbe] at this
      exact n3 _ (hp a x hx) _ this rfl
    · rcases List.mem_cons.1 hb with rfl | hb
      · exact List.mem_append_left _ (hp _ _ hx)
      · exact List.mem_append_right _ (i2 b hb)
theorem shard_root (x : Nat × ShardS) (g : List Blk) (h : isShard x.1 x.2 g) : x.1 ∈ g.map Prod.fst := by
  obtain ⟨rb, lb, wb, gr, gl, _, _, rfl⟩ := h
  simp
theorem TG.sub {h H : GH} {w w' : World} (T : TG h w H w') (i : Nat) (hi : decide (i < H.length) = true) : ((H.getD i []).map Prod.fst).Nodup := by
  have hn := T.nodup
  have hp := (perm_at (of_decide_eq_true hi)).map Prod.fst
  have := (hp.nodup_iff).1 hn
  rw [List.map_append] at this
  exact (List.nodup_append.1 this).1
theorem FloorAll.roots {fb : Nat} {p : FPtr} {f : FloorS} {tr : Value} {s : SlabS} {shs : List (Nat × ShardS)} {gF gS gR gH gP gL : List Blk} (a : FloorAll fb p f tr s shs gF gS gR gH gP gL) (hn : (gH.map Prod.fst).Nodup) : (shs.map Prod.fst).Nodup :=
  (fam_roots (root := Prod.fst) shard_root a.shards hn).1
theorem FloorAll.row' {fb : Nat} {p : FPtr} {f : FloorS} {tr : Value} {s : SlabS} {shs : List (Nat × ShardS)} {gF gS gR gH gP gL : List Blk} (a : FloorAll fb p f tr s shs gF gS gR gH gP gL) : rowG 73 1 p.sh (shs.map Prod.fst).length ((shs.map Prod.fst).map fun x => ptr' x) gR := by
  have := a.row
  rw [List.length_map, List.map_map]; exact this
theorem floorHome_c {fb : Nat} {p : FPtr} {f : FloorS} {tr : Value} {g : List Blk} {shs : List Nat} {gR : List Blk} {i : Int} {v : Value} (E : homeV shs i = v) (hg : isFloor fb p f tr g) (hr : rowG 73 1 p.sh shs.length (shs.map fun x => ptr' x) gR) (hn : 1 ≤ shs.length) :
    DoesG Try.prog 27 #[ptr' fb, .int .i64 i] [g, gR] fun e gs => e = .returned v ∧ gs = [g, gR] := by
  have := floorHome_g hg hr hn i; rwa [E] at this
theorem floorShard_c {fb : Nat} {p : FPtr} {f : FloorS} {tr : Value} {g : List Blk} {shs : List Nat} {gR : List Blk} {i : Int} {v : Value} (E : shardV shs i = v) (hg : isFloor fb p f tr g) (hr : rowG 73 1 p.sh shs.length (shs.map fun x => ptr' x) gR) :
    DoesG Try.prog 43 #[ptr' fb, .int .i64 i] [g, gR] fun e gs => e = .returned v ∧ gs = [g, gR] := by
  have := floorShard_g hg hr i; rwa [E] at this

theorem Try.infoShardT : (Try.prog.info? 154).map (fun i => (i.zero, i.size, i.bytes)) = some (some (.agg #[.pointer none, .pointer none, .pointer none]), 3, 24) := by kernel_rfl
theorem shard_same (b : Nat) (w : World) : (binOp .eql 73 (ptr' b) (ptr' b)).run Try.prog w = .ok (.bool true) w := by
  obtain ⟨i, hi, _, _, _⟩ := info_parts Try.infoShardT
  exact run_eql_ptr_same w ⟨b, 0, none⟩ Try.underlying73 hi
theorem shard_other {u v : Nat} (w : World) (hne : u ≠ v) {cu cv : Array Value} {tu tv : TypeId} (hu : w.heap[u]? = some (.cells cu tu (0, 0))) (hv : w.heap[v]? = some (.cells cv tv (0, 0))) : (binOp .eql 73 (ptr' u) (ptr' v)).run Try.prog w = .ok (.bool false) w := by
  obtain ⟨i, hi, _, hs, _⟩ := info_parts Try.infoShardT
  exact run_eql_ptr_other w (a := ⟨u, 0, none⟩) (b := ⟨v, 0, none⟩) Try.underlying73 hi (by rw [hs]; decide) (fun e => hne (by injection e)) hu hv
/-- a shard's block -/
theorem fam_mem {l : List (Nat × ShardS)} {g : List Blk} (h : FamP (fun (x : Nat × ShardS) => isShard x.1 x.2) l g) {b : Nat} (hb : b ∈ l.map Prod.fst) : ∃ C, cl b 154 C ∈ g := by
  induction l generalizing g with
  | nil => simp at hb
  | cons a l ih =>
    obtain ⟨x, y, hx, hy, rfl⟩ := h
    rcases List.mem_cons.1 hb with rfl | hb
    · obtain ⟨rb, lb, wb, gr, gl, _, _, rfl⟩ := hx
      exact ⟨_, List.mem_append_left _ List.mem_cons_self⟩
    · obtain ⟨C, hC⟩ := ih hy hb
      exact ⟨C, List.mem_append_right _ hC⟩
theorem TG.shardBlk {h H : GH} {w w' : World} (T : TG h w H w') (i : Nat) {l : List (Nat × ShardS)} {g : List Blk} (hg : H.getD i [] = g) (hf : FamP (fun (x : Nat × ShardS) => isShard x.1 x.2) l g) {b : Nat} (hb : b ∈ l.map Prod.fst) : ∃ C, w'.heap[b]? = some (.cells C 154 (0, 0)) := by
  obtain ⟨C, hC⟩ := fam_mem hf hb
  obtain ⟨j, hj⟩ := List.mem_iff_getElem?.1 hC
  exact ⟨C, T.obj i j (p := cl b 154 C) (by rw [hg]; exact hj)⟩

set_option maxRecDepth 100000 in
set_option maxHeartbeats 4000000 in
theorem alive_g : DoesG Try.prog 11 #[] [] fun e gs => e = .returned (.bool true) ∧ gs = [] := by
  intro w hw
  have T0 := TG.refl hw
  have HT := Lib.hid T0
  clear hw T0
  go_enter Try.func11, Try.ntmps11
  go_wp2_with fail
  refine (DoesG.use (plain_g 2 8) (HT.out) [] rfl rfl).mono ?_
  rintro e w1 ⟨gs, ⟨rfl, rfl⟩, Ta⟩
  simp only [PU] at Ta
  have HT := Lib.hid Ta
  clear Ta
  go_wp2_with fail
  refine (DoesG.use (floorNew_g (plainCfg 2 8) (by decide)) (HT.out) [] rfl rfl).mono ?_
  rintro e w1 ⟨gs, ⟨fb, p, shs, gF, gS, gR, gH, gP, gL, rfl, hall, hlen, hnew, rfl⟩, Ta⟩
  simp only [PU] at Ta
  have HT := Lib.hid Ta
  clear Ta
  have hF := hall.floor
  have hR := hall.row'
  have hl2 : (shs.map Prod.fst).length = 2 := by rw [List.length_map]; have : (shs.length : Int) = 2 := hlen; omega
  obtain ⟨x, y, hxy⟩ : ∃ x y, shs.map Prod.fst = [x, y] := by
    match h : shs.map Prod.fst, hl2 with
    | [x, y], _ => exact ⟨x, y, rfl⟩
  rw [hxy] at hR
  clear hall hlen hnew hl2 hxy
  have hsame := shard_same y
  go_wp2_with fail
  refine (DoesG.use (floorShard_c (v := ptr' y) rfl hF hR) (HT.out) [0, 2] rfl rfl).mono ?_
  rintro e w1 ⟨gs, ⟨rfl, rfl⟩, Ta⟩
  simp only [PU] at Ta
  have HT := Lib.hid Ta
  clear Ta
  go_wp2_with fail
  refine (DoesG.use (floorHome_c (v := ptr' y) (by simp [homeV]) hF hR (show 1 ≤ 2 by decide)) (HT.out) [0, 2] rfl rfl).mono ?_
  rintro e w1 ⟨gs, ⟨rfl, rfl⟩, Ta⟩
  simp only [PU] at Ta
  have HT := Lib.hid Ta
  clear Ta
  go_wp2_with fail
  refine (DoesG.use (floorShard_c (v := ptr' y) rfl hF hR) (HT.out) [0, 2] rfl rfl).mono ?_
  rintro e w1 ⟨gs, ⟨rfl, rfl⟩, Ta⟩
  simp only [PU] at Ta
  have HT := Lib.hid Ta
  clear Ta
  go_wp2_with fail
  refine (DoesG.use (floorShut_g hF) (HT.out) [0] rfl rfl).mono ?_
  rintro e w1 ⟨gs, ⟨rfl, gF1, hF1, rfl⟩, Ta⟩
  simp only [PU] at Ta
  have HT := Lib.hid Ta
  clear Ta
  go_wp2_with fail
  refine (DoesG.use (floorShut_g hF1) (HT.out) [0] rfl rfl).mono ?_
  rintro e w1 ⟨gs, ⟨rfl, gF2, hF2, rfl⟩, Ta⟩
  simp only [PU] at Ta
  have HT := Lib.hid Ta
  clear Ta
  go_wp2
  go_ret
  exact ⟨[], ⟨rfl, rfl⟩, HT.out.pick [] rfl⟩
end Go.Proofs.Ytnemggminanbbaa
