import Derived.Test.YtphbokncbflicaaScrI
namespace Go.Proofs.Ytphbokncbflicaa
set_option linter.unusedVariables false
set_option linter.unusedSimpArgs false
open Go.RowKit Go.Shelf

/-- a slice of entries: where there is one, its cells -/
def EntsAt (w : World) (a : Option Addr) (es : List Ent) : Prop :=
  es = [] ∨ ∃ g off, a = some ⟨g, off, none⟩ ∧ g < w.heap.size ∧ ∀ j, j < es.length * 6 → w.cell? ⟨g, off + j, none⟩ = (cellsOf es)[j]?
theorem EntsAt.grew {w w' : World} {a : Option Addr} {es : List Ent} (h : EntsAt w a es) (hg : Grew w w') : EntsAt w' a es := by
  refine h.imp id ?_
  rintro ⟨g, off, h1, h2, h3⟩
  exact ⟨g, off, h1, Nat.lt_of_lt_of_le h2 hg.size, fun j hj => (hg.facts.1 g (off + j) h2).trans (h3 j hj)⟩
theorem EntsAt.of_row {w : World} {base : Nat} {e : TypeId} {v : Value} {n : Nat} {es : List Ent} (h : w.ownsRow base e 6 v n (cellsOf es)) : ∃ a cap, v = .slice a n cap ∧ es.length = n ∧ EntsAt w a es := by
  have hl : es.length = n := by have := h.1; rw [cellsOf_length] at this; omega
  obtain ⟨a, cap, rfl, hc⟩ := row_slice h
  refine ⟨a, cap, rfl, hl, ?_⟩
  by_cases h0 : 0 < n
  · obtain ⟨g, rfl, _, hg, hx⟩ := hc h0
    exact .inr ⟨g, 0, rfl, hg, fun j hj => by rw [Nat.zero_add]; exact hx j (by omega)⟩
  · exact .inl (List.eq_nil_of_length_eq_zero (by omega))
/-- the cells of entry i, each alone -/
theorem EntsAt.cells {w : World} {a : Option Addr} {es : List Ent} (h : EntsAt w a es) {i : Nat} (hi : i < es.length) : ∃ g off, a = some ⟨g, off, none⟩ ∧ g < w.heap.size ∧
    (w.cell? ⟨g, off + i * 6, none⟩ = some (.int .i64 (es.getD i Ent.zero).k) ∧ w.cell? ⟨g, off + i * 6 + 1, none⟩ = some (.int .i64 (es.getD i Ent.zero).n) ∧ w.cell? ⟨g, off + i * 6 + 2, none⟩ = some (.int .i64 (es.getD i Ent.zero).c) ∧
    w.cell? ⟨g, off + i * 6 + 3, none⟩ = some (.int .u64 (es.getD i Ent.zero).i) ∧ w.cell? ⟨g, off + i * 6 + 4, none⟩ = some (.int .u64 (es.getD i Ent.zero).d) ∧ w.cell? ⟨g, off + i * 6 + 5, none⟩ = some (.int .u64 (es.getD i Ent.zero).p)) := by
  rcases h with rfl | ⟨g, off, h1, h2, h3⟩
  · simp at hi
  · have hh := fun j (hj : j < 6) => (h3 (i * 6 + j) (by omega)).trans (cellsOf_at es i j hi hj)
    simp only [← Nat.add_assoc] at hh
    exact ⟨g, off, h1, h2, hh 0 (by omega), hh 1 (by omega), hh 2 (by omega), hh 3 (by omega), hh 4 (by omega), hh 5 (by omega)⟩

def bytesOf (l : List Ent) : List Int := l.flatMap Ent.bytes
theorem bytesOf_length (l : List Ent) : (bytesOf l).length = 6 * l.length := by
  induction l with
  | nil => rfl
  | cons e l ih => simp only [bytesOf, List.flatMap_cons, List.length_append, List.length_cons] at ih ⊢; rw [ih, Ent.bytes_length]; omega
theorem bytesOf_snoc (l : List Ent) (e : Ent) : bytesOf (l ++ [e]) = bytesOf l ++ e.bytes := by simp [bytesOf]
theorem bytesOf_range (l : List Ent) : ∀ x ∈ bytesOf l, 0 ≤ x ∧ x ≤ 255 := by
  intro x hx
  obtain ⟨e, _, h⟩ := List.mem_flatMap.1 hx
  exact e.bytes_range x h
theorem take_snocE (l : List Ent) (k : Nat) (h : k < l.length) : l.take (k + 1) = l.take k ++ [l.getD k Ent.zero] := by
  rw [List.take_succ_eq_append_getElem h, List.getD_eq_getElem?_getD, List.getElem?_eq_getElem h]; rfl

/-- what Encode hands back -/
def EncPost (w : World) (es : List Ent) (e : Ending) (w' : World) : Prop :=
  Grew w w' ∧ ((es.all Ent.ok = true ∧ ∃ v, e = .returned (.tuple #[v, .int .i64 0]) ∧ w'.ownsRow w.heap.size 5 1 v (6 * es.length) ((bytesOf es).map (Value.int .u8))) ∨
    (es.all Ent.ok = false ∧ e = .returned (.tuple #[.slice none 0 0, .int .i64 5])))

set_option maxRecDepth 100000 in
set_option maxHeartbeats 4000000 in
theorem encode_calls (a : Option Addr) (cap : Nat) (es : List Ent) (w : World) (hl : es.length ≤ 1000000) (h : EntsAt w a es) :
    Calls Try.prog 16 #[.slice a es.length cap] w (EncPost w es) := by
  have H := Lib.hid h; clear h
  obtain ⟨i0, hi, hz0, hz1, hz2⟩ := info_parts Try.infoU8
  have INF := Lib.hid (And.intro hi (And.intro hz0 (And.intro hz1 hz2)))
  clear hi hz0 hz1 hz2
  have U := Lib.hid (show ∀ l : List Int, ∀ u ∈ l.map (Value.int .u8), u.oneCell' = true from fun l u hu => by obtain ⟨x, _, rfl⟩ := List.mem_map.1 hu; rfl)
  go_enter Try.func16, Try.ntmps16
  go_wp2
  go_loopw [4, 9] (fun v i wr => ∃ k : Nat, k ≤ es.length ∧ i = .int .i64 k ∧ Hid ((es.take k).all Ent.ok = true) ∧ wr.ownsRow w.heap.size 5 1 v (6 * k) ((bytesOf (es.take k)).map (Value.int .u8)) ∧ Grew w wr) (fun _ i _ => es.length - (intOf i).toNat)
  case atStart => exact ⟨0, Nat.zero_le _, rfl, rfl, World.ownsRow_nil _ _ _ _, Only.refl _ _⟩
  case round =>
    obtain ⟨k, hk, rfl, hok, hrow, hG⟩ := hrel
    by_cases hlt : k < es.length
    · obtain ⟨g, off, rfl, hg, c0, c1, c2, c3, c4, c5⟩ := (H.out.grew hG).cells hlt
      have HT := Lib.hid (take_snocE es k hlt)
      have hmem : es.getD k Ent.zero ∈ es := by rw [List.getD_eq_getElem?_getD, List.getElem?_eq_getElem hlt]; exact List.getElem_mem hlt
      have HM := Lib.hid hmem; clear hmem
      generalize es.getD k Ent.zero = e at *
      obtain ⟨e1, e2, e3, e4, e5, e6⟩ := e
      simp only at c0 c1 c2 c3 c4 c5
      have HROW := Lib.hid hrow; clear hrow
      have HGG := Lib.hid hG; clear hG
      have hg1 : g < wr.heap.size + 1 := by omega
      cases hoke : Ent.ok ⟨e1, e2, e3, e4, e5, e6⟩
      · go_wp2_with (go_at_call 15; refine (scrOk_calls _ _ _ _ _ _ _).mono ?_; rw [hoke]; rintro e w1 ⟨rfl, hg⟩; have HG1 := Lib.hid hg; clear hg)
        go_ret2
        refine ⟨Only.trans (HGG.out.alloc _) HG1.out, .inr ⟨?_, rfl⟩⟩
        rw [List.all_eq_false]
        exact ⟨_, HM.out, by rw [hoke]; simp⟩
      · go_wp2_with fail
        refine (scrOk_calls _ _ _ _ _ _ _).mono ?_
        rw [hoke]
        rintro e w1 ⟨rfl, hg⟩
        have k6 := hg.blk (B := wr.heap.size) (alloc_new _ rfl) (fun x => x)
        have q6 := blk_cell k6
        have HG1 := Lib.hid (Only.trans ((Only.refl (fun _ => False) wr).alloc _) hg)
        clear hg c0 c1 c2 c3 c4 c5
        go_wp2_with fail
        refine (scrWrite_calls _ _ _ _ _ _ _).mono ?_
        rintro e w2 ⟨rfl, hw2, hg2⟩
        have HG2 := Lib.hid (Only.trans HG1.out hg2)
        have hs1 := HG1.out.size
        have hs2 := hg2.size
        have hs0 := HGG.out.size
        have HROW2 := Lib.hid (row_only HROW.out HG2.out (fun _ _ x => x))
        have HW2 := Lib.hid (Bytes.new (Ent.bytes_range _) hw2)
        have hsrc := (show InU8 w2 (some ⟨w1.heap.size + 1, 0, none⟩) 6 (Ent.bytes ⟨e1, e2, e3, e4, e5, e6⟩) from ⟨HW2.out, by rw [Ent.bytes_length]; omega, by omega, fun h => by cases h⟩).src (Ent.bytes_length _) (Only.refl _ w2)
        have HS := Lib.hid hsrc
        clear hsrc hw2 hg2 q6 k6
        go_wp2_with (
          at_builtin
          refine wpList_append_src rfl (.tmp 16) (.tmp 18) 22 rfl w.heap.size 5 i0 _ 1 1 Try.underlying22 INF.out.1 INF.out.2.1 INF.out.2.2.1 INF.out.2.2.2 rfl (by decide) _ (6 * k) _ rfl HROW2.out (some ⟨w1.heap.size + 1, 0, none⟩) 6 6 ((Ent.bytes ⟨e1, e2, e3, e4, e5, e6⟩).map (Value.int .u8)) rfl (by rw [List.length_map, Ent.bytes_length]) HS.out (U.out _) (by unfold maxLen; omega) (by omega) (by omega) ?_
          intro v2 w5 hown2 hgr2
          have K5 := Lib.hid (Only.trans (HG2.out.mono (S' := fun j => w.heap.size ≤ j) (fun _ _ x => x.elim)) ((Only.of_grownBy hgr2).mono (fun j _ e => row_block HROW2.out e)))
          have OWN2 := Lib.hid hown2
          clear hown2 hgr2)
        go_roundw
        case rel =>
          refine ⟨k + 1, by omega, by go_num, ?_, ?_, ?_⟩
          · exact Lib.hid (by rw [HT.out, List.all_append, hok.out]; simp [hoke])
          · rw [HT.out, bytesOf_snoc, List.map_append]; exact OWN2.out
          · exact Only.of_new K5.out HGG.out (fun i h => h)
        case measure => simp [intOf]; omega
    · have hk' : k = es.length := by omega
      subst hk'
      rw [List.take_length] at hrow hok
      have HROW := Lib.hid hrow; clear hrow
      go_wp2
      go_ret2
      exact ⟨hG, .inl ⟨hok.out, _, rfl, HROW.out⟩⟩

theorem six_new {w : World} {B : Nat} {T : TypeId} {c0 c1 c2 c3 c4 c5 : Value} (h : w.heap[B]? = some (.cells #[c0, c1, c2, c3, c4, c5] T (0, 0))) :
    w.cell? ⟨B, 0, none⟩ = some c0 ∧ w.cell? ⟨B, 1, none⟩ = some c1 ∧ w.cell? ⟨B, 2, none⟩ = some c2 ∧ w.cell? ⟨B, 3, none⟩ = some c3 ∧ w.cell? ⟨B, 4, none⟩ = some c4 ∧ w.cell? ⟨B, 5, none⟩ = some c5 := by
  have hk := blk_cell h
  exact ⟨hk 0, hk 1, hk 2, hk 3, hk 4, hk 5⟩
theorem ret32 {fn : Func} {tmps : Array Value} {W : World} {B : Nat} {p : Tmp} {v0 v1 v2 v3 v4 v5 : Value} (hres : fn.results = #[.cell p 32]) (hp : tmps.getD p undef = .pointer (some ⟨B, 0, none⟩))
    (h : W.cell? ⟨B, 0, none⟩ = some v0 ∧ W.cell? ⟨B, 1, none⟩ = some v1 ∧ W.cell? ⟨B, 2, none⟩ = some v2 ∧ W.cell? ⟨B, 3, none⟩ = some v3 ∧ W.cell? ⟨B, 4, none⟩ = some v4 ∧ W.cell? ⟨B, 5, none⟩ = some v5) :
    (results fn tmps).run Try.prog W = .ok (.agg #[v0, v1, v2, v3, v4, v5]) W := by
  obtain ⟨h0, h1, h2, h3, h4, h5⟩ := h
  have hp' : tmps[p]?.getD undef = .pointer (some ⟨B, 0, none⟩) := by simpa using hp
  simp only [results, hres]
  simp [hp', go_sem, h0, h1, h2, h3, h4, h5]

set_option maxHeartbeats 1000000 in
theorem of_calls (e1 e2 e3 e4 e5 e6 : Int) (w : World) : Calls Try.prog 13 #[.agg #[.int .i64 e1, .int .i64 e2, .int .i64 e3, .int .u64 e4, .int .u64 e5, .int .u64 e6]] w (RetEnt ⟨e1, e2, e3, e4, e5, e6⟩ w) := by
  go_enter Try.func13, Try.ntmps13
  go_wp2
  exact bodyPost_ret (v := Ent.val ⟨e1, e2, e3, e4, e5, e6⟩) (ret34 rfl rfl (six_new (alloc_new _ (by simp)))) rfl ⟨rfl, ((Only.refl _ _).alloc _).alloc _⟩

set_option maxHeartbeats 1000000 in
theorem plain_calls (e1 e2 e3 e4 e5 e6 : Int) (w : World) : Calls Try.prog 10 #[.agg #[.int .i64 e1, .int .i64 e2, .int .i64 e3, .int .u64 e4, .int .u64 e5, .int .u64 e6]] w (RetEnt ⟨e1, e2, e3, e4, e5, e6⟩ w) := by
  go_enter Try.func10, Try.ntmps10
  go_wp2
  exact bodyPost_ret (v := Ent.val ⟨e1, e2, e3, e4, e5, e6⟩) (ret32 rfl rfl (six_new (alloc_new _ (by simp)))) rfl ⟨rfl, ((Only.refl _ _).alloc _).alloc _⟩
end Go.Proofs.Ytphbokncbflicaa
