import Derived.Test.YtnemggminanbbaaScrF
import Derived.Maps.AppendAt
namespace Go.Proofs.Ytnemggminanbbaa
set_option linter.unusedVariables false
set_option linter.unusedSimpArgs false
open Go.RowKit Go.Shelf
attribute [local go_sem] Oper.semAt_some

def Ent.cells (e : Ent) : List Value := [.int .i64 e.k, .int .i64 e.n, .int .i64 e.c, .int .u64 e.i, .int .u64 e.d, .int .u64 e.p]
def cellsOf (l : List Ent) : List Value := l.flatMap Ent.cells
theorem cellsOf_length (l : List Ent) : (cellsOf l).length = l.length * 6 := by
  induction l with
  | nil => rfl
  | cons e l ih => simp only [cellsOf, List.flatMap_cons, List.length_append, List.length_cons] at ih ⊢; rw [ih]; simp [Ent.cells]; omega
theorem cellsOf_snoc (l : List Ent) (e : Ent) : cellsOf (l ++ [e]) = cellsOf l ++ e.cells := by simp [cellsOf]
/-- the first k entries of some bytes -/
def entsK (zs : List Int) (k : Nat) : List Ent := (List.range k).map fun j => readE (six zs j)
theorem entsK_succ (zs : List Int) (k : Nat) : entsK zs (k + 1) = entsK zs k ++ [readE (six zs k)] := by simp [entsK, List.range_succ]
theorem entsK_length (zs : List Int) (k : Nat) : (entsK zs k).length = k := by simp [entsK]

theorem Try.infoEnt : (Try.prog.info? 34).map (fun i => (i.zero, i.size, i.bytes)) = some (some (.agg #[.int .i64 0, .int .i64 0, .int .i64 0, .int .u64 0, .int .u64 0, .int .u64 0]), 6, 48) := by kernel_rfl

theorem cells_new (W : World) (C : Array Value) (T : TypeId) (xs : List Value) (h : C = xs.toArray) : ∀ j u, xs[j]? = some u → (W.alloc (.cells C T)).cell? ((⟨W.heap.size, 0, none⟩ : Addr).add j) = some u := by
  intro j u hj
  subst h
  rw [show (⟨W.heap.size, 0, none⟩ : Addr).add j = ⟨W.heap.size, 0 + j, none⟩ from Go.WideShapes.add_plain _ _ _, World.cell?_alloc_new]
  simpa using hj

/-- what Parse hands back -/
def ParsePost (w : World) (es : List Ent) (e : Ending) (w' : World) : Prop :=
  ∃ v, e = .returned v ∧ w'.ownsRow w.heap.size 34 6 v es.length (cellsOf es) ∧ Grew w w'

set_option maxRecDepth 100000 in
set_option maxHeartbeats 4000000 in
theorem parse_calls (a : Option Addr) (cap : Nat) (zs : List Int) (hl : zs.length ≤ 1000000) (hcap : zs.length ≤ cap) (hc : cap ≤ 9223372036854775807) (w : World) (hb : Bytes w a zs) :
    Calls Try.prog 6 #[.slice a zs.length cap] w (ParsePost w (entsK zs (chunkN zs.length))) := by
  refine calls_of_marks Try.func6 rfl ?_
  simp only [Try.ntmps6, List.size_toArray, List.length_cons, List.length_nil, Nat.reduceAdd, Nat.reduceSub, Array.replicate_succ, Array.replicate_zero, List.push_toArray, List.append_toArray, List.nil_append, List.cons_append]
  go_wp2_with (go_at_call 9; refine (all_calls _ _ _ _).mono ?_; rintro e w' ⟨rfl, rfl⟩)
  refine wp_range rfl (enters_of Try.func40 (by kernel_rfl) rfl) 6 (chunkN zs.length) (fun k => #[.int .i64 k, (readE (six zs k)).val])
    (fun _ W' => W'.cell? ⟨w.heap.size + 1, 0, none⟩ = some (.slice a zs.length cap) ∧ w.heap.size + 1 < w.heap.size + 4 ∧ Bytes W' a zs) ?hit (fun _ _ => rfl)
    (fun k W' => ∃ v, W'.heap[w.heap.size]? = some (.cells #[v] 24 (0, 0)) ∧ W'.ownsRow (w.heap.size + 10) 34 6 v k (cellsOf (entsK zs k)) ∧
      W'.heap[w.heap.size + 1]? = some (.cells #[.slice a zs.length cap] 22 (0, 0)) ∧ Grew w W')
    (fun k cd W' => False) ?hI (fun _ _ _ _ h _ _ => h) ?hT ?h0 ?hbody ?hdone (fun _ _ _ _ h => h.elim)
  case hit =>
    intro W1 ho hz
    have := all_iter a (w.heap.size + 1) cap zs hl hcap hc W1
    simp only [World.size_alloc] at hz
    intro l J Jx h1 h2 h3
    exact this l J Jx h1 h2 (fun k W' hk hj => ⟨(h3 k W' hk hj).1, by omega, (h3 k W' hk hj).2.2⟩)
  case hI =>
    rintro k A B ⟨v, h1, h2, h3, h4⟩ hle ho
    simp only [World.size_alloc] at hle ho
    refine ⟨v, ho.blk h1 (fun h => by have := h.1; omega), row_only h2 ho (fun g hg h => by have := h.2; omega), ho.blk h3 (fun h => by have := h.1; omega), Only.of_new ho h4 (fun i h => by have := h.1; omega)⟩
  case hT =>
    rintro k A hk ⟨v, h1, h2, h3, h4⟩
    exact ⟨by rw [blk_cell h3]; rfl, by omega, hb.grew h4⟩
  case h0 =>
    refine ⟨.slice none 0 0, alloc_old (alloc_new _ rfl) _, by simp [entsK, cellsOf, World.ownsRow_nil], alloc_new _ (by simp), ((Only.refl _ _).alloc _).alloc _⟩
  case hdone =>
    rintro W' ⟨v, h1, h2, h3, h4⟩ hK
    simp only [World.size_alloc] at hK ⊢
    have c1 := blk_cell h1
    have hlt := (Array.getElem?_eq_some_iff.1 hK).1
    have H1 := Lib.hid h1; have H2 := Lib.hid h2; have H4 := Lib.hid h4
    clear h1 h2 h3 h4
    go_wp2
    refine post_mark hK (results_tmp rfl _ _ _) ⟨v, rfl, ?_, ?_⟩
    · rw [entsK_length]
      exact row_base (row_only H2.out (Only.putObj (S := fun j => j = w.heap.size + 1 + 1) (Only.refl _ _) _ (.inl rfl) _) (fun g hg h => by omega)) (by omega)
    · exact Only.of_new (Only.putObj (S := fun j => j = w.heap.size + 1 + 1) (Only.refl _ _) _ (.inl rfl) _) H4.out (fun i h => by omega)
  case hbody =>
    rintro k hk A ⟨v, h1, h2, h3, h4⟩ hz hrec
    simp only [World.size_alloc] at hz hrec ⊢
    obtain ⟨e, he⟩ : ∃ e, readE (six zs k) = e := ⟨_, rfl⟩
    have HE := Lib.hid he
    rw [he]
    clear he
    obtain ⟨e1, e2, e3, e4, e5, e6⟩ := e
    simp only [Ent.val]
    have H1 := Lib.hid h1; have H2 := Lib.hid h2; have H3 := Lib.hid h3; have H4 := Lib.hid h4
    clear h1 h2 h3 h4 hrec
    have hk1 : k < 1000000 := by unfold chunkN at hk; omega
    refine wpIn_any (n := 9) ?_
    gi_wp2
    refine ⟨KeptWin.of_only ((Only.refl (fun _ => False) _).alloc _) (by omega) (fun _ _ _ x => x), fun Wb hb hbz hrb => ?_⟩
    simp only [World.size_alloc] at hbz
    have k1 := hb.blk (alloc_old H1.out _) (by omega)
    have k3 := hb.blk (alloc_old H3.out _) (by omega)
    have k2 := row_only (H2.out.alloc _) hb (fun g hg => by omega)
    have k5 := hb.blk (alloc_new (B := A.heap.size) _ rfl) (by omega)
    have c1 := blk_cell k1
    have f1 := blk_free k1
    have c5 := blk_cell k5
    have K2 := Lib.hid k2
    have K4 := Lib.hid (Only.of_new hb (H4.out.alloc _) (fun i h => by omega))
    clear k2
    have hzb : A.heap.size < Wb.heap.size := by omega
    have HBZ := Lib.hid hbz; clear hbz
    obtain ⟨i0, hi, hz0, hz1, hz2⟩ := info_parts Try.infoEnt
    refine wpIn_any (n := 9) ?_
    gi_wp2_with (
      gi_at_builtin
      refine wpListIn_append_own _ rfl (.tmp 10) (.tmp 12) 24 rfl (w.heap.size + 10) 34 i0 _ 6 48 Try.underlying24 hi hz0 hz1 hz2 rfl (by decide) v k _ rfl (K2.out.alloc _) ⟨Wb.heap.size, 0, none⟩ 1 1 (Ent.cells ⟨e1, e2, e3, e4, e5, e6⟩) rfl rfl (cells_new _ _ _ _ rfl) (by simp [Ent.cells, Value.oneCell']) (by unfold maxLen; omega) (by omega) (by simp; omega) ?_
      intro v' w1 hown' hgrow _
      obtain ⟨g', cap', rfl⟩ := ownsRow_succ hown'
      have hb1 := (hgrow.block _ (by simp; omega) (fun e => by have := row_block K2.out e.symm; omega)).trans (alloc_old k1 _)
      have hb3 := (hgrow.block _ (by simp; omega) (fun e => by have := row_block K2.out e.symm; omega)).trans (alloc_old k3 _)
      have cc := blk_cell hb1
      have ff := blk_free hb1
      have HG := Lib.hid hgrow
      have HO := Lib.hid hown'
      have HB1 := Lib.hid (And.intro hb1 hb3)
      clear hgrow hown' hb1 hb3 c1 f1 c5)
    have hgo := HG.out
    have hrow := HO.out
    have hz1 := hgo.size
    simp only [World.size_alloc] at hz1
    refine ⟨?_, _, set_same HB1.out.1 _, ?_, set_other HB1.out.2 (by omega) _, ?_⟩
    · refine KeptWin.trans (KeptWin.of_only (Only.trans ((Only.refl (fun j => w.heap.size + 10 ≤ j) Wb).alloc _) ((Only.of_grownBy hgo).mono (fun j _ e => row_block K2.out e))) (by omega) (fun j h1 h2 h => by omega)) ?_
      exact KeptWin.of_only (Only.setCell (S := fun j => j = w.heap.size) (Only.refl _ _) _ (.inl rfl) _) (by omega) (fun j h1 h2 h => by omega)
    · rw [entsK_succ, cellsOf_snoc, HE.out]
      exact row_only hrow (Only.setCell (S := fun j => j = w.heap.size) (Only.refl _ _) _ (.inl rfl) _) (fun g hg h => by omega)
    · refine Only.of_new (Only.setCell (S := fun j => j = w.heap.size) (Only.refl _ _) _ (.inl rfl) _) ?_ (fun i h => by omega)
      refine Only.of_new ((Only.of_grownBy hgo).mono (S' := fun j => w.heap.size ≤ j) (fun j _ e => by have := row_block K2.out e; omega)) (K4.out.alloc _) (fun i h => h)
end Go.Proofs.Ytnemggminanbbaa
