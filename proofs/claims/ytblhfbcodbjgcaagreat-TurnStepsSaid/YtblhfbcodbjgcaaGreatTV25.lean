import Derived.Test.YtblhfbcodbjgcaaGreatTV8
import Derived.Test.YtblhfbcodbjgcaaGreatTV14
import Derived.TacticsIn
import Derived.OrdersIn
namespace Go.Proofs.YtblhfbcodbjgcaaGreat
set_option linter.unusedVariables false
set_option linter.unusedSimpArgs false
open Go Go.RowKit Go.Conc
def wpNO (P : Program) (ops : Array Oper) (Q : Exit → Act → World → Prop) (l : List Nat) (a : Act) (w : World) : Prop :=
  ∀ (b : Frame), b.kind = .normal → ∀ (k : List Item) (cs : List Frame), ∃ e a' w', Q e a' w' ∧ Arrives P (lone (b.at a (.inRegion ops l :: k)) cs w) b k cs e a' w'
section
variable {P : Program} {ops : Array Oper} {Q : Exit → Act → World → Prop} {a : Act} {w w' w1 : World} {o : Oper} {i : Nat} {rest : List Nat} {v : Value}
theorem wpNO_ops {l : List Nat} (h : wpOps P ops Q l a w) : wpNO P ops Q l a w := fun b _ k cs => wp_ops _ _ _ h b k cs
theorem wpNO_nil (h : Q .normal a w) : wpNO P ops Q [] a w := fun b _ k cs => ⟨.normal, a, w, h, .one step_region_end⟩
theorem wpNO_val (ho : ops[i]? = some o) (hw : Region.wanted o (yielded ops a.tmps) = true) (hr : (execOp a.eval o).run P w = .ok (.value v) w') (h : wpNO P ops Q rest (a.put o.dst v) w') : wpNO P ops Q (i :: rest) a w := by
  intro b hb k cs
  have hg := stepG_op (P := P) (b := b) (k := k) (cs := cs) (w := w) (rest := rest) ho hw
  have hfin : (b.at a (.inRegion ops (i :: rest) :: k)).finish v = b.at (a.put o.dst v) (.inRegion ops rest :: k) := by rw [Frame.finish_at, ho]; rfl
  obtain ⟨e, a', w'', hq, harr⟩ := h b hb k cs
  refine ⟨e, a', w'', hq, .of_steps (.one (step_lone_go ?_)) harr⟩
  rw [hg, ← hfin]; simp [stepG.apply, hr]
theorem wpNO_comm {cases : Array CommCase} {blocking : Bool} {shape : CommShape} (ho : ops[i]? = some o)
    (hw : Region.wanted o (yielded ops a.tmps) = true) (hr : (execOp a.eval o).run P w = .ok (.comm cases blocking shape) w1)
    (hs : ∀ (fr : Frame) (cs : List Frame) (es : Array Event), stepG P true (G fr cs) w = .comm (G fr cs) cases blocking shape w1 es → step P (solo (G fr cs) w) = .next (solo (G (fr.finish v) cs) w'))
    (h : wpNO P ops Q rest (a.put o.dst v) w') : wpNO P ops Q (i :: rest) a w := by
  intro b hb k cs
  have hg := stepG_comm (P := P) (main := true) (a := a) (w := w) (b := b) (k := k) (cs := cs) (ops := ops) (i := i) (rest := rest) ho hw (by rw [hb]; decide) hr
  have hst := hs _ cs _ hg
  have hfin : (b.at a (.inRegion ops (i :: rest) :: k)).finish v = b.at (a.put o.dst v) (.inRegion ops rest :: k) := by rw [Frame.finish_at, ho]; rfl
  rw [hfin] at hst
  obtain ⟨e, a', w'', hq, harr⟩ := h b hb k cs
  refine ⟨e, a', w'', hq, .of_steps (.one ?_) harr⟩
  rw [lone_eq_solo, lone_eq_solo]
  exact hst
theorem wpN_region_no {id : Nat} (h : wpNO P ops Q (List.range ops.size) a w) : wpN P (Code.region id ops false) Q a w := by
  intro b hb k cs
  obtain ⟨e, a', w', hq, harr⟩ := h b hb k cs
  exact ⟨e, a', w', hq, .of_steps (.one step_region) harr⟩
theorem wpN_region_draw {id : Nat} (hm : P.follows .mixedOrders = true) (L : List (List Nat)) (hL : ∀ t, Region.schedule true ops t ∈ L) (h : ∀ l ∈ L, wpNO P ops Q l a w.drew) : wpN P (Code.region id ops true) Q a w := by
  intro b hb k cs
  obtain ⟨e, a', w', hq, harr⟩ := h _ (hL (w.tape w.drawn (.order b.fn id))) b hb k cs
  refine ⟨e, a', w', hq, .of_steps (.one ?_) harr⟩
  have := step_region_draw (P := P) (b := b) (a := a) (k := k) (cs := cs) (w := w) (id := id) (ops := ops)
  rw [hm] at this
  exact this
theorem wpNO_tail (k : Nat) (hk : k ≤ ops.size) (h : wpList P ops Q (ops.toList.drop k) a w) : wpNO P ops Q (List.range' k (ops.size - k)) a w := by
  have e := wpOps_eq_wpList (P := P) (ops := ops) (Q := Q) (ops.toList.drop k) k (fun j => by rw [List.getElem?_drop]; simp)
  have hl : (ops.toList.drop k).length = ops.size - k := by simp
  rw [hl] at e
  exact wpNO_ops (by rw [e]; exact h)
theorem TG.frameL {H H' K : GH} {w w' : World} (T : TG H w H' w') (hK : HasG (K ++ H) w) : TG (K ++ H) w (K ++ H') w' := by
  have fc : ∀ A B : GH, (A ++ B).flatten.Perm (B ++ A).flatten := fun A B => by
    rw [List.flatten_append, List.flatten_append]; exact List.perm_append_comm
  have h1 : HasG (H ++ K) w := hK.re (fc _ _)
  exact ((T.frame h1).basePerm (fc _ _)).re (fc _ _)
end
end Go.Proofs.YtblhfbcodbjgcaaGreat

namespace Go.Proofs.YtblhfbcodbjgcaaGreat
set_option linter.unusedVariables false
set_option linter.unusedSimpArgs false
open Go Go.RowKit Go.Conc
def ordersF (ops : Array Oper) : Nat → Array Bool → List (List Nat)
  | 0, _ => [[]]
  | fuel + 1, listed => match Region.ready .any ops listed with
    | [] => [[]]
    | r :: rs => (r :: rs).flatMap fun i => (ordersF ops fuel (listed.setIfInBounds i true)).map (i :: ·)
def orders (ops : Array Oper) : List (List Nat) := ordersF ops ops.size (Array.replicate ops.size false)
theorem go_mem (ops : Array Oper) : ∀ (fuel t : Nat) (listed : Array Bool), Region.linearise.go .any ops fuel t listed [] ∈ ordersF ops fuel listed
  | 0, t, listed => by simp [Region.linearise.go, ordersF]
  | fuel + 1, t, listed => by
    have e : Region.linearise.go .any ops (fuel + 1) t listed [] = match (Region.ready .any ops listed)[t % (Region.ready .any ops listed).length]? with
      | some i => Region.linearise.go .any ops fuel (t / (Region.ready .any ops listed).length) (listed.setIfInBounds i true) [i]
      | none => [].reverse := rfl
    rw [e]
    unfold ordersF
    cases hr : Region.ready .any ops listed with
    | nil => simp
    | cons r rs =>
      simp only []
      have hlt : t % (r :: rs).length < (r :: rs).length := Nat.mod_lt _ (by simp)
      rw [List.getElem?_eq_getElem hlt]
      simp only []
      rw [linearise_go_acc, List.reverse_singleton, List.singleton_append]
      exact List.mem_flatMap.2 ⟨_, List.getElem_mem hlt, List.mem_map.2 ⟨_, go_mem ops fuel _ _, rfl⟩⟩
theorem orders_mem (ops : Array Oper) (t : Nat) : Region.schedule true ops t ∈ orders ops := by
  simp only [Region.schedule, Bool.true_or, if_true]
  exact go_mem ops _ _ _
section
variable {P : Program} {ops : Array Oper} {Q : Exit → Act → World → Prop} {a : Act} {w : World} {F : Fence} {n : Nat}
theorem wpOpsIn_pick : ∀ (l : List Nat) (a : Act) (w : World), wpListIn F n P ops Q (l.filterMap (ops[·]?)) a w → wpOpsIn F n P ops Q l a w := by
  intro l
  induction l with
  | nil => intro a w h; exact h
  | cons i l ih =>
    intro a w h
    simp only [wpOpsIn]
    cases ho : ops[i]? with
    | none => rw [List.filterMap_cons_none ho] at h; exact ih _ _ h
    | some o =>
      rw [List.filterMap_cons_some ho] at h
      simp only [wpListIn] at h
      simp only []
      split
      · next hw => rw [if_pos hw] at h; exact Oper.wpIn_mono ih h
      · next hw => rw [if_neg hw] at h; exact ⟨h.1, ih _ _ h.2⟩
theorem wpIn_region_orders {id : Nat} (hm : P.follows .mixedOrders = true) (L : List (List Nat)) (hL : orders ops = L) (h : ∀ l ∈ L, wpListIn F n P ops Q (l.filterMap (ops[·]?)) a w.drew) : (Code.region id ops true).wpIn F n P Q a w :=
  wpIn_region_draw fun t => by
    rw [hm]
    exact wpOpsIn_pick _ _ _ (h _ (hL ▸ orders_mem ops t))
theorem wpN_region_orders {id : Nat} (hm : P.follows .mixedOrders = true) (L : List (List Nat)) (hL : orders ops = L) (h : ∀ l ∈ L, wpNO P ops Q l a w.drew) : wpN P (Code.region id ops true) Q a w :=
  wpN_region_draw hm L (fun t => hL ▸ orders_mem ops t) h
end
end Go.Proofs.YtblhfbcodbjgcaaGreat
