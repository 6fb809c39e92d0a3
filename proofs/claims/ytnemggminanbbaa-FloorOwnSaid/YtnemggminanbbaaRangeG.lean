import Derived.Test.YtnemggminanbbaaRow
namespace Go.Proofs.Ytnemggminanbbaa
set_option linter.unusedVariables false
set_option linter.unusedSimpArgs false
open Go.RowKit Go.Shelf

/-! ## A range over a function, on groups -/
/-- no block of these groups lies in the window -/
def Away (lo c : Nat) (H : GH) : Prop := ∀ k, k ∈ keys (ex H.flatten) → ¬ Win lo c k
section
variable {h H H' : GH} {w w' w'' : World} {lo c : Nat}
theorem HasG.lt (a : HasG H w) {k : Nat} (hk : k ∈ keys (ex H.flatten)) : k < w.heap.size := Has.lt a hk
theorem Away.of_lt (a : HasG H w) (hw : w.heap.size ≤ lo) : Away lo c H := fun k hk hx => by have := a.lt hk; have := hx.1; omega
theorem Away.next (a : Away lo c H) (T : TG H w H' w') (hw : lo + c ≤ w.heap.size) : Away lo c H' := fun k hk hx => by
  rcases Turned.news T k hk with h1 | h1
  · exact a k h1 hx
  · have := hx.2; omega
theorem TG.kept (T : TG H w H' w') (a : Away lo c H) (hw : lo + c ≤ w.heap.size) : KeptWin lo c w w' :=
  KeptWin.of_only (Turned.only T) hw (fun k h1 h2 hk => a k hk ⟨h1, h2⟩)
/-- what becomes of the window, or of what isn't ours, says nothing of the groups -/
theorem HasG.only {S : Nat → Prop} (a : HasG H w) (ho : Only S w w') (hs : ∀ k, k ∈ keys (ex H.flatten) → ¬ S k) : HasG H w' := Has.only a ho hs
theorem TG.other {S : Nat → Prop} (T : TG h w H w') (ho : Only S w' w'') (hs : ∀ k, k ∈ keys (ex H.flatten) → ¬ S k) (hn : ∀ k, S k → w.heap.size ≤ k) : TG h w H w'' :=
  ⟨T.has.only ho hs, (Turned.only T).trans' ho (fun k hk hx => by have := hn k hx; omega), Turned.news T⟩
end

/-- how a round may be left: the groups, anew -/
def outG (J : Nat → GH → Prop) (Jx : Nat → Code → GH → Prop) (k : Nat) (H : GH) (W : World) : Exit → Act → World → Prop
  | .normal, _, W' => ∃ H', J k H' ∧ TG H W H' W'
  | .ret, _, W' => ∃ H', Jx k .ret H' ∧ TG H W H' W'
  | .exit id, _, W' => ∃ H', Jx k (.exit id) H' ∧ TG H W H' W'
  | .goto t, _, W' => ∃ H', Jx k (.goto t) H' ∧ TG H W H' W'
  | .panic _, _, _ => False
  | .outgrown, _, _ => False

/-- an iterator's contract, on groups: T k: the groups that it reads ahead of round k -/
def IterG (P : Program) (g : Nat) (lb : Array Value) (c N : Nat) (xs : Nat → Array Value) (T : Nat → GH → Prop) : Prop :=
  ∀ W, Iter P g lb c N xs (fun k W' => ∃ H, T k H ∧ HasG H W') W

/-- the block that the loop keeps for itself is none of ours -/
def DOut (w0 : World) (D : Nat) (H : GH) (W : World) : Prop := w0.heap.size ≤ D ∧ D < W.heap.size ∧ D ∉ keys (ex H.flatten)
theorem TG.fin {h H H' : GH} {w0 W W' : World} {D : Nat} (T : TG h w0 H W) (hA : DOut w0 D H W) (T2 : TG H W H' W') (o : Obj) : TG h w0 H' (W'.putObj D o) :=
  (T.trans T2).other (Only.putObj (S := fun j => j = D) (Only.refl _ _) _ (.inl rfl) o) (fun k hk e => by
    subst e
    rcases Turned.news T2 k hk with h1 | h1
    · exact hA.2.2 h1
    · have := hA.2.1; omega) (fun k e => by rw [e]; exact hA.1)
theorem putObj_cell {W : World} {D : Nat} {o : Obj} {p : Addr} (h : p.block ≠ D) : (W.putObj D o).cell? p = W.cell? p := World.cell?_of_block (World.putObj_heap_other h)

theorem wp_rangeG {P : Program} {g : Operand} {ps : Array Tmp} {assign body : Code} {Q : Exit → Act → World → Prop} {a : Act} {w0 w : World} {gf : Nat} {lb : Array Value}
    (hg : a.eval g = .func (.func gf) #[] lb) (eg : ∀ args w, (callFunc gf args).run P w = .ok (.enter gf args) w)
    {c N : Nat} {xs : Nat → Array Value} {T : Nat → GH → Prop} (hit : IterG P gf lb c N xs T) (hps : ∀ (k : Nat), k < N → (xs k).size = ps.size)
    {h H0 : GH} (T0 : TG h w0 H0 w) (J : Nat → GH → Prop) (Jx : Nat → Code → GH → Prop) (h0 : J 0 H0) (hT : ∀ k H, k ≤ N → J k H → T k H)
    (hbody : ∀ (k : Nat), k < N → ∀ (H : GH) (W : World) (l : Nat), J k H → HasG H W →
      assign.wpIn (Fence.wide.inRound l) 0 P (Exit.then (fun a₁ Wa => ∃ Ha, TG H W Ha Wa ∧
        ∀ Wb, HasG Ha Wb → body.wpIn (Fence.wide.inRound l) 0 P (outG J Jx (k + 1) Ha Wb) a₁ Wb) (fun _ _ _ => False))
        { tmps := (ps.zip (xs k)).foldl (fun t (p, v) => t.setIfInBounds p v) a.tmps, defers := [] } W)
    (hdone : ∀ H W D, J N H → TG h w0 H W → DOut w0 D H W → W.heap[D]? = some (.deferred (some [])) → Q .normal { a with defers := markOf D :: a.defers } W)
    (hstop : ∀ k cd H W D, k < N → Jx (k + 1) cd H → TG h w0 H W → DOut w0 D H W → W.heap[D]? = some (.deferred (some [])) → cd.wp P Q { a with defers := markOf D :: a.defers } W) :
    (Code.rangeFunc g ps assign body).wp P Q a w := by
  have hw0 : w0.heap.size ≤ w.heap.size := (Turned.only T0).size
  refine wp_range hg eg c N xs (fun k W' => ∃ H, T k H ∧ HasG H W') (fun W1 _ _ => hit W1) hps
    (fun k W => ∃ H, J k H ∧ TG h w0 H W ∧ Away w.heap.size (2 + c) H)
    (fun k cd W => ∃ H, Jx k cd H ∧ TG h w0 H W ∧ Away w.heap.size (2 + c) H) ?_ ?_ ?_ ?_ ?_ ?_ ?_
  · rintro k A B ⟨H, hJ, hTG, hA⟩ hle ho
    exact ⟨H, hJ, hTG.other ho (fun i hi hx => hA i hi hx) (fun i hx => Nat.le_trans hw0 hx.1), hA⟩
  · rintro cd k A B ⟨H, hJ, hTG, hA⟩ hle ho
    exact ⟨H, hJ, hTG.other ho (fun i hi hx => hA i hi hx) (fun i hx => Nat.le_trans hw0 hx.1), hA⟩
  · rintro k W hk ⟨H, hJ, hTG, _⟩
    exact ⟨H, hT k H hk hJ, hTG.has⟩
  · exact ⟨H0, h0, T0, Away.of_lt T0.has (Nat.le_refl _)⟩
  · rintro k hk W ⟨H, hJ, hTG, hA⟩ hz hr
    refine wpIn_mono (hbody k hk H W (w.heap.size + 1) hJ hTG.has) ?_
    intro e a₁ Wa hex
    cases e with
    | normal =>
      obtain ⟨Ha, hTa, hb⟩ := hex
      have hza := (Turned.only hTa).size
      have hAa := hA.next hTa (by omega)
      refine ⟨hTa.kept hA (by omega), fun Wb ho hzb _ => ?_⟩
      have hHb : HasG Ha Wb := hTa.has.only ho (fun i hi e => hAa i hi ⟨by omega, by omega⟩)
      have hTb : TG h w0 Ha Wb := (hTG.trans hTa).other ho (fun i hi e => hAa i hi ⟨by omega, by omega⟩) (fun i e => by omega)
      refine wpIn_mono (hb Wb hHb) ?_
      intro e2 a₂ W3 h3
      have fin : ∀ H', TG Ha Wb H' W3 → KeptWin w.heap.size (2 + c) Wb W3 ∧ TG h w0 H' W3 ∧ Away w.heap.size (2 + c) H' := fun H' hT3 =>
        ⟨hT3.kept hAa (by omega), hTb.trans hT3, hAa.next hT3 (by omega)⟩
      cases e2 with
      | normal => obtain ⟨H', hJ', hT3⟩ := h3; obtain ⟨f1, f2, f3⟩ := fin H' hT3; exact ⟨f1, H', hJ', f2, f3⟩
      | ret => obtain ⟨H', hJ', hT3⟩ := h3; obtain ⟨f1, f2, f3⟩ := fin H' hT3; exact ⟨f1, H', hJ', f2, f3⟩
      | exit id => obtain ⟨H', hJ', hT3⟩ := h3; obtain ⟨f1, f2, f3⟩ := fin H' hT3; exact ⟨f1, H', hJ', f2, f3⟩
      | goto t => obtain ⟨H', hJ', hT3⟩ := h3; obtain ⟨f1, f2, f3⟩ := fin H' hT3; exact ⟨f1, H', hJ', f2, f3⟩
      | panic ch => exact h3.elim
      | outgrown => exact h3.elim
    | ret => exact hex.elim
    | exit id => exact hex.elim
    | goto t => exact hex.elim
    | panic ch => exact hex.elim
    | outgrown => exact hex.elim
  · rintro W ⟨H, hJ, hTG, hA⟩ hK
    have hTD : DOut w0 w.heap.size H W := ⟨hw0, (Array.getElem?_eq_some_iff.1 hK).1, fun hk => hA _ hk ⟨Nat.le_refl _, by omega⟩⟩
    exact hdone H W _ hJ hTG hTD hK
  · rintro k cd W hk ⟨H, hJ, hTG, hA⟩ hK
    have hTD : DOut w0 w.heap.size H W := ⟨hw0, (Array.getElem?_eq_some_iff.1 hK).1, fun hk => hA _ hk ⟨Nat.le_refl _, by omega⟩⟩
    exact hstop k cd H W _ hk hJ hTG hTD hK
end Go.Proofs.Ytnemggminanbbaa
