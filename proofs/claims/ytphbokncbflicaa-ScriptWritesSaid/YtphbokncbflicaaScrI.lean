import Derived.Test.YtphbokncbflicaaScrH
import Derived.BigQuiet
namespace Go.Proofs.Ytphbokncbflicaa
set_option linter.unusedVariables false
set_option linter.unusedSimpArgs false
open Go.RowKit Go.Shelf

theorem six_append_left {A B : List Int} {m k : Nat} (hA : A.length = 6 * m) (hk : k < m) : six (A ++ B) k = six A k := by
  unfold six
  rw [List.drop_append_of_le_length (by omega), List.take_append_of_le_length (by rw [List.length_drop]; omega)]
theorem six_append_right {A B : List Int} {m k : Nat} (hA : A.length = 6 * m) : six (A ++ B) (m + k) = six B k := by
  unfold six
  rw [show 6 * (m + k) = A.length + 6 * k by omega, List.drop_append, List.drop_eq_nil_of_le (by omega)]
  simp
theorem entsK_append {A B : List Int} {m n : Nat} (hA : A.length = 6 * m) : entsK (A ++ B) (m + n) = entsK A m ++ entsK B n := by
  unfold entsK
  rw [List.range_add, List.map_append, List.map_map]
  congr 1
  · refine List.map_congr_left (fun k hk => ?_)
    rw [six_append_left hA (List.mem_range.1 hk)]
  · refine List.map_congr_left (fun k hk => ?_)
    simp only [Function.comp]
    rw [six_append_right hA]
theorem chunkN_mul (m : Nat) : chunkN (6 * m) = m := by unfold chunkN; omega
theorem chunkN_add (m n : Nat) : chunkN (6 * m + n) = m + chunkN n := by unfold chunkN; omega

theorem cellsOf_at (l : List Ent) (i j : Nat) (hi : i < l.length) (hj : j < 6) : (cellsOf l)[i * 6 + j]? = (l.getD i Ent.zero).cells[j]? := by
  induction l generalizing i with
  | nil => simp at hi
  | cons e l ih =>
    have hc : cellsOf (e :: l) = e.cells ++ cellsOf l := by simp [cellsOf]
    have he : e.cells.length = 6 := rfl
    rw [hc]
    cases i with
    | zero =>
      rw [show 0 * 6 + j = j by omega, List.getElem?_append_left (by omega)]
      rfl
    | succ i =>
      rw [List.getElem?_append_right (by omega), show (i + 1) * 6 + j - e.cells.length = i * 6 + j by omega, ih i (by simpa using hi)]
      rfl

/-- the cells of entry i, each alone, in the walk's form -/
theorem ent_cells {w : World} {g n : Nat} {l : List Ent} (h : ∀ j, j < n * 6 → w.cell? ⟨g, j, none⟩ = (cellsOf l)[j]?) (hn : l.length = n) (i : Nat) (hi : i < n) :
    w.cell? ⟨g, i * 6, none⟩ = some (.int .i64 (l.getD i Ent.zero).k) ∧ w.cell? ⟨g, i * 6 + 1, none⟩ = some (.int .i64 (l.getD i Ent.zero).n) ∧ w.cell? ⟨g, i * 6 + 2, none⟩ = some (.int .i64 (l.getD i Ent.zero).c) ∧
    w.cell? ⟨g, i * 6 + 3, none⟩ = some (.int .u64 (l.getD i Ent.zero).i) ∧ w.cell? ⟨g, i * 6 + 4, none⟩ = some (.int .u64 (l.getD i Ent.zero).d) ∧ w.cell? ⟨g, i * 6 + 5, none⟩ = some (.int .u64 (l.getD i Ent.zero).p) := by
  subst hn
  have hh := fun j (hj : j < 6) => (h (i * 6 + j) (by omega)).trans (cellsOf_at l i j hi hj)
  exact ⟨hh 0 (by omega), hh 1 (by omega), hh 2 (by omega), hh 3 (by omega), hh 4 (by omega), hh 5 (by omega)⟩

/-- a slice of bytes that came in, of any capacity -/
structure InU8 (w : World) (a : Option Addr) (cap : Nat) (zs : List Int) : Prop where
  bytes : Bytes w a zs
  le : zs.length ≤ cap
  max : cap ≤ 9223372036854775807
  nil : a = none → cap = 0
theorem InU8.src {w : World} {a : Option Addr} {cap n : Nat} {zs : List Int} (h : InU8 w a cap zs) (hn : zs.length = n) {w' : World} (hg : Grew w w') :
    (a = none ∧ n = 0 ∧ cap = 0) ∨ ∃ ad, a = some ad ∧ ∀ j u, (zs.map (Value.int .u8))[j]? = some u → w'.cell? (ad.add j) = some u := by
  cases a with
  | none => exact .inl ⟨rfl, by have := h.nil rfl; have := h.le; omega, h.nil rfl⟩
  | some ad =>
    refine .inr ⟨ad, rfl, fun j u hu => ?_⟩
    rcases (h.bytes.grew hg).2 with rfl | ⟨b, off, he, hb, hc⟩
    · simp at hu
    · cases he
      have hj : j < zs.length := by
        rcases Nat.lt_or_ge j zs.length with hj | hj
        · exact hj
        · rw [List.getElem?_eq_none (by simpa using hj)] at hu; cases hu
      rw [show (⟨b, off, none⟩ : Addr).add j = ⟨b, off + j, none⟩ from Go.WideShapes.add_plain _ _ _, hc j hj]
      rw [List.getElem?_map, List.getElem?_eq_getElem hj] at hu
      rw [List.getD_eq_getElem?_getD, List.getElem?_eq_getElem hj]
      simpa using hu

theorem row_bytes {w : World} {base : Nat} {e : TypeId} {v : Value} {n : Nat} {zs : List Int} (h : w.ownsRow base e 1 v n (zs.map (Value.int .u8))) (hz : ∀ x ∈ zs, 0 ≤ x ∧ x ≤ 255) :
    ∃ a cap, v = .slice a n cap ∧ zs.length = n ∧ InU8 w a cap zs := by
  have hl : zs.length = n := by have := h.1; simpa using this
  have h' := h
  rcases h.2 with ⟨rfl, rfl⟩ | ⟨g, cap, cur, rfl, h1, h2, h3, h4, h5, h6⟩
  · exact ⟨none, 0, rfl, hl, ⟨⟨hz, .inl (List.eq_nil_of_length_eq_zero hl)⟩, by omega, by omega, fun _ => rfl⟩⟩
  · refine ⟨some ⟨g, 0, none⟩, cap, rfl, hl, ⟨⟨hz, .inr ⟨g, 0, rfl, (Array.getElem?_eq_some_iff.1 h2).1, fun i hi => ?_⟩⟩, by omega, h4, fun x => by cases x⟩⟩
    have := h'.cellAt i (by omega)
    rw [Nat.zero_add, this, List.getElem?_map, List.getElem?_eq_getElem hi, List.getD_eq_getElem?_getD, List.getElem?_eq_getElem hi]
    rfl

theorem row_only' {S : Nat → Prop} {w w' : World} {base : Nat} {e : TypeId} {size : Nat} {v : Value} {n : Nat} {xs : List Value} (h : w.ownsRow base e size v n xs) (ho : Only S w w') (hn : ∀ g, base ≤ g → g < w.heap.size → ¬ S g) : w'.ownsRow base e size v n xs := by
  refine ⟨h.1, h.2.imp id ?_⟩
  rintro ⟨g, cap, cur, h1, h2, h3, h4⟩
  exact ⟨g, cap, cur, h1, h2, ho.blk h3 (hn g h2 (Array.getElem?_eq_some_iff.1 h3).1), h4⟩
theorem row_slice {w : World} {base : Nat} {e : TypeId} {size : Nat} {v : Value} {n : Nat} {xs : List Value} (h : w.ownsRow base e size v n xs) :
    ∃ a cap, v = .slice a n cap ∧ (0 < n → ∃ g, a = some ⟨g, 0, none⟩ ∧ base ≤ g ∧ g < w.heap.size ∧ ∀ j, j < n * size → w.cell? ⟨g, j, none⟩ = xs[j]?) := by
  have h' := h
  rcases h.2 with ⟨rfl, rfl⟩ | ⟨g, cap, cur, rfl, h1, h2, h3⟩
  · exact ⟨none, 0, rfl, fun x => by omega⟩
  · exact ⟨_, cap, rfl, fun _ => ⟨g, rfl, h1, (Array.getElem?_eq_some_iff.1 h2).1, fun j hj => h'.cellAt j hj⟩⟩

set_option maxRecDepth 100000 in
set_option maxHeartbeats 4000000 in
theorem lawParts_walk (a b : Option Addr) (ca cb : Nat) (A B : List Int) (w : World) (ha : InU8 w a ca A) (hb : InU8 w b cb B) :
    Calls Try.prog 4 #[.slice a A.length ca, .slice b B.length cb] w fun e w' => e = .returned (.bool true) ∧ Grew w w' := by
  have hA9 : A.length ≤ 9223372036854775807 := Nat.le_trans ha.le ha.max
  have hB9 : B.length ≤ 9223372036854775807 := Nat.le_trans hb.le hb.max
  by_cases c1 : 2000 < A.length
  · go_enter Try.func4, Try.ntmps4
    go_wp2_with (go_at_call 7; refine (alive_calls _).mono ?_; rintro e w' ⟨rfl, hg⟩)
    go_ret
    exact ⟨rfl, hg⟩
  by_cases c2 : 2000 < B.length
  · go_enter Try.func4, Try.ntmps4
    go_wp2_with (go_at_call 7; refine (alive_calls _).mono ?_; rintro e w' ⟨rfl, hg⟩)
    go_ret
    exact ⟨rfl, hg⟩
  obtain ⟨m, r, hm, hr⟩ : ∃ m r, A.length = 6 * m + r ∧ r < 6 := ⟨A.length / 6, A.length % 6, by omega, by omega⟩
  have ha' : InU8 w a ca (A.take (6 * m)) := ⟨⟨fun x hx => ha.bytes.1 x (List.mem_of_mem_take hx), by
    rcases ha.bytes.2 with h | ⟨b, off, h1, h2, h3⟩
    · exact .inl (by rw [h]; simp)
    · refine .inr ⟨b, off, h1, h2, fun i hi => ?_⟩
      rw [List.length_take] at hi
      rw [h3 i (by omega), List.getD_eq_getElem?_getD, List.getD_eq_getElem?_getD, List.getElem?_take, if_pos (by omega)]⟩, by rw [List.length_take]; have := ha.le; omega, ha.max, ha.nil⟩
  have hlen : (A.take (6 * m)).length = 6 * m := by rw [List.length_take]; omega
  have hAca := ha.le
  generalize A.take (6 * m) = A' at ha' hlen
  generalize hla : A.length = la at *
  have e1 : ((la : Int) / 6) = (m : Int) := by omega
  have e2 : (((m : Int) * 6)).toNat = 6 * m := by omega
  have e3 : (m : Int) * 6 ≤ ca := by omega
  have P1 := Lib.hid (fun (w1 : World) (h : Grew w w1) => parse_calls a ca A' (by omega) ha'.le ha'.max w1 (ha'.bytes.grew h))
  have P2 := Lib.hid (fun (w1 : World) (h : Grew w w1) => parse_calls b cb B (by omega) hb.le hb.max w1 (hb.bytes.grew h))
  have HA := Lib.hid ha'; have HB := Lib.hid hb
  have HL := Lib.hid hlen
  clear ha ha' hb hlen hm
  simp only [HL.out] at P1
  go_enter Try.func4, Try.ntmps4
  go_wp2_with (go_at_call 7; refine (alive_calls _).mono ?_; rintro e w1 ⟨rfl, hg⟩)
  refine (P1.out w1 hg).mono ?_
  rintro e w2 ⟨vx, rfl, hrx, hg2⟩
  have G2 := Lib.hid (Only.trans hg hg2)
  rw [chunkN_mul, entsK_length] at hrx
  have RX := Lib.hid hrx
  clear hrx hg hg2 P1
  go_wp2_with fail
  refine (P2.out w2 G2.out).mono ?_
  rintro e w3 ⟨vy, rfl, hry, hg3⟩
  rw [entsK_length] at hry
  have G3 := Lib.hid (Only.trans G2.out hg3)
  have RX3 := Lib.hid (row_only RX.out hg3 (fun _ _ x => x))
  have RY := Lib.hid hry
  clear RX hry hg3 P2
  obtain ⟨i0, hi, hz0, hz1, hz2⟩ := info_parts Try.infoU8
  have U := Lib.hid (show ∀ l : List Int, ∀ u ∈ l.map (Value.int .u8), u.oneCell' = true from fun l u hu => by obtain ⟨x, _, rfl⟩ := List.mem_map.1 hu; rfl)
  go_wp2_with (first
    | (at_builtin
       refine wpList_append_src rfl (.tmp 29) (.tmp 30) 22 rfl w3.heap.size 5 i0 _ 1 1 Try.underlying22 hi hz0 hz1 hz2 rfl (by decide) _ 0 [] rfl (World.ownsRow_lit (base := w3.heap.size) (size := 1) w3 #[] 0 (Nat.le_refl _) (by decide) rfl) a (6 * m) ca (A'.map (Value.int .u8)) rfl (by simp [HL.out]) (HA.out.src HL.out (G3.out.alloc _)) (U.out _) (by unfold maxLen; omega) (by omega) (by simp) ?_
       intro v1 w4 hown1 hgr1
       have OWN1 := Lib.hid hown1
       have G4 := Lib.hid (Only.of_new ((Only.of_grownBy hgr1).mono (S' := fun j => w3.heap.size ≤ j) (fun j _ e => by cases e; exact Nat.le_refl _)) (G3.out.alloc _) (fun i h => Nat.le_trans G3.out.size h))
       have K4 := Lib.hid (Only.trans ((Only.refl (fun j => w3.heap.size ≤ j) w3).alloc _) ((Only.of_grownBy hgr1).mono (fun j _ e => by cases e; exact Nat.le_refl _)))
       clear hown1 hgr1)
    | (at_builtin
       refine wpList_append_src rfl (.tmp 31) (.tmp 32) 22 rfl w3.heap.size 5 i0 _ 1 1 Try.underlying22 hi hz0 hz1 hz2 rfl (by decide) _ (0 + 6 * m) _ rfl OWN1.out b B.length cb (B.map (Value.int .u8)) rfl (by simp) (HB.out.src rfl G4.out) (U.out _) (by unfold maxLen; omega) (by omega) (by have := K4.out.size; omega) ?_
       intro v2 w5 hown2 hgr2
       have K5 := Lib.hid (Only.trans K4.out ((Only.of_grownBy hgr2).mono (S' := fun j => w3.heap.size ≤ j) (fun j _ e => row_block OWN1.out e)))
       rw [List.nil_append, ← List.map_append, Nat.zero_add] at hown2
       have OWN2 := Lib.hid hown2
       clear hown2 hgr2 OWN1 K4 G4))
  have G5 := Lib.hid (Only.of_new K5.out G3.out (fun i h => Nat.le_trans G3.out.size h))
  have RX5 := Lib.hid (row_only' RX3.out K5.out (fun g h1 h2 => by omega))
  have RY5 := Lib.hid (row_only' RY.out K5.out (fun g h1 h2 => by omega))
  have hC : ∀ x ∈ A' ++ B, 0 ≤ x ∧ x ≤ 255 := fun x hx => (List.mem_append.1 hx).elim (HA.out.bytes.1 x) (HB.out.bytes.1 x)
  obtain ⟨az, cz, rfl, hlz, hin⟩ := row_bytes OWN2.out hC
  have P3 := parse_calls az cz (A' ++ B) (by omega) hin.le hin.max w5 hin.bytes
  rw [hlz] at P3
  refine P3.mono ?_
  rintro e w6 ⟨vz, rfl, hrz, hg6⟩
  rw [entsK_length, chunkN_add, entsK_append HL.out] at hrz
  have G6 := Lib.hid (Only.trans G5.out hg6)
  obtain ⟨zx, zc, rfl, hz⟩ := row_slice hrz
  obtain ⟨xx, xc, rfl, hx⟩ := row_slice (row_only RX5.out hg6 (fun _ _ x => x))
  obtain ⟨yx, yc, rfl, hy⟩ := row_slice (row_only RY5.out hg6 (fun _ _ x => x))
  have lX := entsK_length A' m
  have lY := entsK_length B (chunkN B.length)
  have lnb : chunkN B.length ≤ 334 := by unfold chunkN; omega
  generalize entsK A' m = X at hx hz lX
  generalize entsK B (chunkN B.length) = Y at hy hz lY
  generalize chunkN B.length = nb at *
  have HX := Lib.hid hx; have HY := Lib.hid hy; have HZ := Lib.hid hz
  have LX := Lib.hid lX; have LY := Lib.hid lY
  clear hx hy hz lX lY hrz hg6 P3 hin hlz hC RX5 RY5 K5 G5 RX3 RY OWN2 HA HB HL U hi hz0 hz1 hz2
  have hm3 : m ≤ 334 := by omega
  clear e1 e2 e3
  go_wp2
  go_loopw [8] (fun i wr => ∃ k : Nat, k ≤ m + nb ∧ i = .int .i64 k ∧ Grew w6 wr) (fun i _ => m + nb - (intOf i).toNat)
  case atStart => exact ⟨0, Nat.zero_le _, rfl, Only.refl _ _⟩
  case round =>
    obtain ⟨k, hk, rfl, hG⟩ := hrel
    by_cases hlt : k < m + nb
    · obtain ⟨gz, rfl, _, hgz, hz⟩ := HZ.out (by omega)
      obtain ⟨z0, z1, z2, z3, z4, z5⟩ := ent_cells hz (by rw [List.length_append, LX.out, LY.out]) k hlt
      have zz := fun o => (hG.facts.1 gz o hgz)
      rw [← zz] at z0 z1 z2 z3 z4 z5
      by_cases hkm : k < m
      · obtain ⟨gx, rfl, _, hgx, hx⟩ := HX.out (by omega)
        obtain ⟨x0, x1, x2, x3, x4, x5⟩ := ent_cells hx LX.out k hkm
        have xx := fun o => (hG.facts.1 gx o hgx)
        rw [← xx] at x0 x1 x2 x3 x4 x5
        have he : (X ++ Y).getD k Ent.zero = X.getD k Ent.zero := by rw [List.getD_eq_getElem?_getD, List.getD_eq_getElem?_getD, List.getElem?_append_left (by rw [LX.out]; omega)]
        rw [he] at z0 z1 z2 z3 z4 z5
        generalize X.getD k Ent.zero = e at *
        clear he xx zz hz hx
        have t1 : decide ((k : Int) < m) = true := by simp; omega
        have t2 : decide ((m : Int) ≤ k) = false := by simp; omega
        have t1n : decide (k < m) = true := by simp; omega
        have t2n : decide (m ≤ k) = false := by simp; omega
        go_wp2
        go_quiet (fail)
        go_wp2
        go_roundw
        case rel => exact ⟨k + 1, by omega, by go_num, hG.drewN _⟩
        case measure => simp [intOf]; omega
      · obtain ⟨gy, rfl, _, hgy, hy⟩ := HY.out (by omega)
        obtain ⟨y0, y1, y2, y3, y4, y5⟩ := ent_cells hy LY.out (k - m) (by omega)
        have yy := fun o => (hG.facts.1 gy o hgy)
        rw [← yy] at y0 y1 y2 y3 y4 y5
        have he : (X ++ Y).getD k Ent.zero = Y.getD (k - m) Ent.zero := by rw [List.getD_eq_getElem?_getD, List.getD_eq_getElem?_getD, List.getElem?_append_right (by rw [LX.out]; omega), LX.out]
        rw [he] at z0 z1 z2 z3 z4 z5
        generalize Y.getD (k - m) Ent.zero = e at *
        clear he yy zz hz hy
        have t1 : decide ((k : Int) < m) = false := by simp; omega
        have t2 : decide ((m : Int) ≤ k) = true := by simp; omega
        have t1n : decide (k < m) = false := by simp; omega
        have t2n : decide (m ≤ k) = true := by simp; omega
        have t3 : ((k : Int) - m).toNat = k - m := by omega
        have t4 : IntKind.i64.wrap ((k : Int) - m) = (k : Int) - m := IntWalk.i64_in _ (by omega)
        have t5 : (0 : Int) ≤ (k : Int) - m := by omega
        have t6 : ((k : Int) - m) < nb := by omega
        go_wp2
        go_quiet (fail)
        clear t3 t4 t5 t6
        go_wp2
        go_roundw
        case rel => exact ⟨k + 1, by omega, by go_num, hG.drewN _⟩
        case measure => simp [intOf]; omega
    · go_wp2
      go_ret
      exact ⟨rfl, Only.trans G6.out hG⟩
end Go.Proofs.Ytphbokncbflicaa
