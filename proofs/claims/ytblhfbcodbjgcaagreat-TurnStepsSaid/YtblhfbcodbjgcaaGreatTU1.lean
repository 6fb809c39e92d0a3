import Derived.RangeFuncIn
import Derived.RangeFuncOwn
import Derived.RangeFuncLeaves
import Derived.RangeFuncCalls
import Derived.RangeFuncBound
import Derived.Shelf.Abstract
import Derived.Deep.QuietTactic
import Derived.RangeFuncBox
import Derived.Deep.RegionHeld3
import Derived.BigQuiet
import Derived.Deep.Light
import Derived.Lib.Hide
import Derived.Laws.EntriesVeiled
import Derived.OwnWalk
import Derived.Laws.MakeOwn
namespace Go.Proofs.YtblhfbcodbjgcaaGreat
set_option linter.unusedVariables false
open Go.RowKit Go.Shelf
structure Only (S : Nat → Prop) (w w' : World) : Prop where
  os : w'.os = w.os
  tape : w'.tape = w.tape
  output : w'.output = w.output
  size : w.heap.size ≤ w'.heap.size
  block : ∀ k, k < w.heap.size → ¬ S k → w'.heap[k]? = w.heap[k]?
section
variable {S S' : Nat → Prop} {a b c w w' : World}
theorem Only.refl (S : Nat → Prop) (w : World) : Only S w w := ⟨rfl, rfl, rfl, Nat.le_refl _, fun _ _ _ => rfl⟩
theorem Only.trans (h : Only S a b) (k : Only S b c) : Only S a c :=
  ⟨k.os.trans h.os, k.tape.trans h.tape, k.output.trans h.output, Nat.le_trans h.size k.size, fun i hi hs => (k.block i (Nat.lt_of_lt_of_le hi h.size) hs).trans (h.block i hi hs)⟩
theorem Only.mono (h : Only S a b) (hs : ∀ k, k < a.heap.size → S k → S' k) : Only S' a b :=
  ⟨h.os, h.tape, h.output, h.size, fun k hk hn => h.block k hk (fun x => hn (hs k hk x))⟩
theorem Only.trans' (h : Only S a b) (k : Only S' b c) (hs : ∀ k, k < a.heap.size → S' k → S k) : Only S a c :=
  ⟨k.os.trans h.os, k.tape.trans h.tape, k.output.trans h.output, Nat.le_trans h.size k.size, fun i hi hn => (k.block i (Nat.lt_of_lt_of_le hi h.size) (fun x => hn (hs i hi x))).trans (h.block i hi hn)⟩
theorem Only.drew (h : Only S a w) : Only S a w.drew := ⟨h.os, h.tape, h.output, h.size, h.block⟩
theorem Only.drewN (h : Only S a w) (n : Nat) : Only S a (w.drewN n) := ⟨h.os, h.tape, h.output, h.size, h.block⟩
theorem Only.alloc (h : Only S a w) (o : Obj) : Only S a (w.alloc o) :=
  ⟨h.os, h.tape, h.output, by rw [World.size_alloc]; exact Nat.le_succ_of_le h.size, fun k hk hn => (Below.heap_alloc w o k (Nat.lt_of_lt_of_le hk h.size)).trans (h.block k hk hn)⟩
theorem heap_size_setCell (w : World) (p : Addr) (v : Value) : (w.setCell p v).heap.size = w.heap.size := by
  show (w.heap.modify _ _).size = _; rw [Array.size_modify]
theorem Only.setCell (h : Only S a w) (p : Addr) (hp : S p.block ∨ a.heap.size ≤ p.block) (v : Value) : Only S a (w.setCell p v) :=
  ⟨h.os, h.tape, h.output, by rw [heap_size_setCell]; exact h.size, fun k hk hn => (Below.heap_setCell w p v k (fun e => by
    rcases hp with hp | hp
    · exact hn (e ▸ hp)
    · omega)).trans (h.block k hk hn)⟩
theorem Only.putObj (h : Only S a w) (r : Nat) (hp : S r ∨ a.heap.size ≤ r) (o : Obj) : Only S a (w.putObj r o) :=
  ⟨h.os, h.tape, h.output, by rw [World.putObj_size]; exact h.size, fun k hk hn => (World.putObj_heap_other (fun e => by
    rcases hp with hp | hp
    · exact hn (e ▸ hp)
    · omega)).trans (h.block k hk hn)⟩
theorem Only.below {B : Nat} (h : Only S a b) (hs : ∀ k, k < a.heap.size → S k → B ≤ k) (hB : B ≤ a.heap.size) : Below B a b :=
  ⟨h.os, h.tape, h.output, h.size, fun k hk => h.block k (Nat.lt_of_lt_of_le hk hB) (fun x => by have := hs k (Nat.lt_of_lt_of_le hk hB) x; omega)⟩
theorem Only.cell (h : Only S a b) {p : Addr} (hp : p.block < a.heap.size) (hn : ¬ S p.block) : b.cell? p = a.cell? p := World.cell?_of_block (h.block _ hp hn)
theorem Only.frozen (h : Only S a b) {p : Addr} (hp : p.block < a.heap.size) (hn : ¬ S p.block) : b.frozen? p = a.frozen? p := World.frozen?_of_block (h.block _ hp hn)
end
theorem blk_cell {w : World} {B : Nat} {C : Array Value} {T : TypeId} {fr : Nat × Nat} (h : w.heap[B]? = some (.cells C T fr)) (o : Nat) : w.cell? ⟨B, o, none⟩ = C[o]? := by
  simp [World.cell?, h]
theorem blk_free {w : World} {B : Nat} {C : Array Value} {T : TypeId} (h : w.heap[B]? = some (.cells C T (0, 0))) (o : Nat) : w.frozen? ⟨B, o, none⟩ = false := by
  simp [World.frozen?, h]
theorem Only.blk {S : Nat → Prop} {a b : World} (h : Only S a b) {B : Nat} {o : Obj} (hB : a.heap[B]? = some o) (hn : ¬ S B) : b.heap[B]? = some o :=
  (h.block B (Array.getElem?_eq_some_iff.1 hB).1 hn).trans hB
theorem alloc_old {w : World} {B : Nat} {o : Obj} (hB : w.heap[B]? = some o) (o' : Obj) : (w.alloc o').heap[B]? = some o :=
  (Below.heap_alloc w o' B (Array.getElem?_eq_some_iff.1 hB).1).trans hB
theorem alloc_new {w : World} {B : Nat} (o : Obj) (hB : B = w.heap.size) : (w.alloc o).heap[B]? = some o := by subst hB; exact World.alloc_heap_new w o
def Win (lo c k : Nat) : Prop := lo ≤ k ∧ k < lo + c
def Stands (lo c : Nat) (J : Nat → World → Prop) : Prop := ∀ k W W', J k W → lo ≤ W.heap.size → Only (Win lo c) W W' → J k W'
structure KeptWin (lo c : Nat) (W W' : World) : Prop where
  size : W.heap.size ≤ W'.heap.size
  block : ∀ k, lo ≤ k → k < lo + c → W'.heap[k]? = W.heap[k]?
theorem KeptWin.refl (lo c : Nat) (W : World) : KeptWin lo c W W := ⟨Nat.le_refl _, fun _ _ _ => rfl⟩
theorem KeptWin.trans {lo c : Nat} {A B C : World} (h : KeptWin lo c A B) (k : KeptWin lo c B C) : KeptWin lo c A C :=
  ⟨Nat.le_trans h.size k.size, fun i h1 h2 => (k.block i h1 h2).trans (h.block i h1 h2)⟩
theorem KeptWin.mono {lo c lo' c' : Nat} {A B : World} (h : KeptWin lo c A B) (h1 : lo ≤ lo') (h2 : lo' + c' ≤ lo + c) : KeptWin lo' c' A B :=
  ⟨h.size, fun i a b => h.block i (by omega) (by omega)⟩
theorem KeptWin.of_only {lo c : Nat} {S : Nat → Prop} {A B : World} (h : Only S A B) (hl : lo + c ≤ A.heap.size) (hs : ∀ k, lo ≤ k → k < lo + c → ¬ S k) : KeptWin lo c A B :=
  ⟨h.size, fun i a b => h.block i (by omega) (hs i a b)⟩
def Iter (P : Program) (g : Nat) (lb : Array Value) (c : Nat) (N : Nat) (xs : Nat → Array Value) (T : Nat → World → Prop) (W : World) : Prop :=
  ∀ (l : Nat) (J Jx : Nat → World → Prop), Stands W.heap.size c J → Stands W.heap.size c Jx → (∀ k W', k ≤ N → J k W' → T k W') →
    (∀ (k : Nat) (hk : k < N) (W1 : World), J k W1 → W.heap.size + c ≤ W1.heap.size → YieldAt Fence.wide 0 P l (xs k) W1 fun e W' =>
      KeptWin W.heap.size c W1 W' ∧ ((e = .returned (.bool true) ∧ J (k + 1) W') ∨ (e = .returned (.bool false) ∧ Jx (k + 1) W'))) →
    J 0 W →
    Calls P g (#[.func (.yield l) #[] #[]] ++ lb) W fun e W' => (∃ v, e = .returned v) ∧ (J N W' ∨ ∃ k, k < N ∧ Jx (k + 1) W')
def rangeOut (lo c : Nat) (I : Nat → World → Prop) (Ix : Nat → Code → World → Prop) (k : Nat) (W : World) : Exit → Act → World → Prop
  | .normal, _, W' => KeptWin lo c W W' ∧ I k W'
  | .ret, _, W' => KeptWin lo c W W' ∧ Ix k .ret W'
  | .exit id, _, W' => KeptWin lo c W W' ∧ Ix k (.exit id) W'
  | .goto t, _, W' => KeptWin lo c W W' ∧ Ix k (.goto t) W'
  | .panic _, _, _ => False
  | .outgrown, _, _ => False
theorem range_core {F : Fence} {P : Program} {gf : Nat} {lb : Array Value} {c : Nat} {N : Nat} {xs : Nat → Array Value} {T : Nat → World → Prop} {ps : Array Tmp} {assign body : Code}
    {Q : Exit → Act → World → Prop} {a' : Act} {W1 : World} {lo m L fn dd : Nat} {tmps : Array Value} (rec : LoopState → Option Code → Loop)
    (hrec : rec = fun st pe => { state := st, pending := pe, fn, tmps, params := ps, assign, body, defers := dd })
    (hlo : lo ≤ L) (hL : L < lo + m) (hsz : W1.heap.size = lo + m) (hl1 : W1.heap[L]? = some (.loop (rec .ready none)))
    (hit : Iter P gf lb c N xs T W1) (hps : ∀ (k : Nat) (hk : k < N), (xs k).size = ps.size)
    (I : Nat → World → Prop) (Ix : Nat → Code → World → Prop) (hI : Stands lo (m + c) I) (hIx : ∀ cd, Stands lo (m + c) (fun k => Ix k cd))
    (hT : ∀ k W, k ≤ N → I k W → T k W) (h0 : I 0 W1)
    (hbody : ∀ (k : Nat) (hk : k < N) (W : World), I k W → lo + m + c ≤ W.heap.size → (∃ r, W.heap[L]? = some (.loop r) ∧ r.defers = dd) →
      assign.wpIn (Fence.wide.inRound L) 0 P (Exit.then (fun a₁ Wa => KeptWin lo (m + c) W Wa ∧
        ∀ Wb, Only (fun j => j = L) Wa Wb → Wb.heap.size = Wa.heap.size → (∃ r, Wb.heap[L]? = some (.loop r) ∧ r.defers = dd) → body.wpIn (Fence.wide.inRound L) 0 P (rangeOut lo (m + c) I Ix (k + 1) Wb) a₁ Wb) (fun _ _ _ => False))
        { tmps := (ps.zip (xs k)).foldl (fun t (p, v) => t.setIfInBounds p v) tmps, defers := [] } W)
    (hdone : ∀ W, I N W → (∀ j, lo ≤ j → j < lo + m → j ≠ L → W.heap[j]? = W1.heap[j]?) → Q .normal a' W)
    (hstop : ∀ k cd W, k < N → Ix (k + 1) cd W → (∀ j, lo ≤ j → j < lo + m → j ≠ L → W.heap[j]? = W1.heap[j]?) → cd.wpIn F 0 P Q a' W) :
    Calls P gf (#[.func (.yield L) #[] #[]] ++ lb) W1 (rangePost F 0 P L Q a') := by
  have hwin : ∀ k, Win (lo + m) c k → Win lo (m + c) k := fun k h => ⟨by have := h.1; omega, by have := h.2; omega⟩
  -- the turn of the record
  have hput : ∀ (W : World) (o : Obj), Only (Win lo (m + c)) W (W.putObj L o) := fun W o => (Only.refl _ W).putObj L (.inl ⟨hlo, by omega⟩) o
  have hputL : ∀ (W : World) (o : Obj), Only (fun j => j = L) W (W.putObj L o) := fun W o => Only.putObj (S := fun j => j = L) (Only.refl _ W) L (.inl rfl) o
  refine (hit L (fun k W => I k W ∧ W.heap[L]? = some (.loop (rec .ready none)) ∧ (∀ j, lo ≤ j → j < lo + m → j ≠ L → W.heap[j]? = W1.heap[j]?) ∧ lo + m ≤ W.heap.size)
    (fun k W => ∃ cd, Ix k cd W ∧ W.heap[L]? = some (.loop (rec .done (some cd))) ∧ (∀ j, lo ≤ j → j < lo + m → j ≠ L → W.heap[j]? = W1.heap[j]?) ∧ lo + m ≤ W.heap.size) ?_ ?_ ?_ ?_ ?_).mono ?_
  · rintro k W W' ⟨hi, hr, hs, hz⟩ hle ho
    rw [hsz] at ho
    refine ⟨hI k W W' hi (by omega) (ho.mono fun k _ h => hwin k h), (ho.block L (by omega) (fun x => by have := x.1; omega)).trans hr, fun j h1 h2 h3 => (ho.block j (by omega) (fun x => by have := x.1; omega)).trans (hs j h1 h2 h3), Nat.le_trans hz ho.size⟩
  · rintro k W W' ⟨cd, hi, hr, hs, hz⟩ hle ho
    rw [hsz] at ho
    refine ⟨cd, hIx cd k W W' hi (by omega) (ho.mono fun k _ h => hwin k h), (ho.block L (by omega) (fun x => by have := x.1; omega)).trans hr, fun j h1 h2 h3 => (ho.block j (by omega) (fun x => by have := x.1; omega)).trans (hs j h1 h2 h3), Nat.le_trans hz ho.size⟩
  · rintro k W hk ⟨hi, _⟩; exact hT k W hk hi
  · rintro k hk W ⟨hi, hr, hs, hz⟩ hle
    rw [hsz] at hle ⊢
    have hy := run_yield (P := P) (args := (xs k)) hr (by rw [hrec]; exact hps k hk)
    rw [hrec] at hy
    refine ⟨fn, _, assign, body, hy, roundIn_of_wpIn trivial ?_⟩
    clear hy
    refine wpIn_mono (hbody k hk W hi hle ⟨_, hr, by rw [hrec]⟩) ?_
    intro e a₁ Wa hex
    cases e with
    | normal =>
      obtain ⟨hka, hb⟩ := hex
      have hra : Wa.heap[L]? = some (.loop (rec .ready none)) := (hka.block L hlo (by omega)).trans hr
      have hLa : L < Wa.heap.size := (Array.getElem?_eq_some_iff.1 hra).1
      refine ⟨_, run_beginRound hra (by rw [hrec]), ?_⟩
      have hr2 : (Wa.putObj L (.loop { rec .ready none with state := .busy })).heap[L]? = some (.loop { rec .ready none with state := .busy }) := World.putObj_heap_same hLa
      refine wpIn_mono (hb _ (hputL _ _) World.putObj_size ⟨_, hr2, by rw [hrec]⟩) ?_
      have fin : ∀ (jump : Option Code) (W3 : World), KeptWin lo (m + c) (Wa.putObj L (.loop { rec .ready none with state := .busy })) W3 →
          (Instr.endRound L jump).run P W3 = .ok (.bool jump.isNone) (W3.putObj L (.loop (rec (if jump.isNone then .ready else .done) jump))) ∧
          (W3.putObj L (.loop (rec (if jump.isNone then .ready else .done) jump))).heap[L]? = some (.loop (rec (if jump.isNone then .ready else .done) jump)) ∧
          KeptWin (lo + m) c W (W3.putObj L (.loop (rec (if jump.isNone then .ready else .done) jump))) ∧
          (∀ j, lo ≤ j → j < lo + m → j ≠ L → (W3.putObj L (.loop (rec (if jump.isNone then .ready else .done) jump))).heap[j]? = W1.heap[j]?) ∧
          lo + m ≤ (W3.putObj L (.loop (rec (if jump.isNone then .ready else .done) jump))).heap.size ∧ lo ≤ W3.heap.size := by
        intro jump W3 hk3
        have hr3 : W3.heap[L]? = some (.loop { rec .ready none with state := .busy }) := (hk3.block L hlo (by omega)).trans hr2
        have hz3 := hk3.size
        rw [World.putObj_size] at hz3
        have hza := hka.size
        have he := run_endRound (P := P) jump hr3
        refine ⟨?_, World.putObj_heap_same (Array.getElem?_eq_some_iff.1 hr3).1, ⟨by rw [World.putObj_size]; omega, fun j h1 h2 => ?_⟩, fun j h1 h2 h3 => ?_, by rw [World.putObj_size]; omega, by omega⟩
        · rw [hrec] at he ⊢; exact he
        · exact (World.putObj_heap_other (by omega)).trans (((hk3.block j (by omega) (by omega)).trans (World.putObj_heap_other (by omega))).trans (hka.block j (by omega) (by omega)))
        · exact (World.putObj_heap_other h3).trans (((hk3.block j h1 (by omega)).trans (World.putObj_heap_other h3)).trans ((hka.block j h1 (by omega)).trans (hs j h1 h2 h3)))
      intro ex a₂ W3 hp
      cases ex with
      | normal =>
        obtain ⟨hk3, hi3⟩ := hp
        obtain ⟨h1, h2, h3, h4, h5, h6⟩ := fin none W3 hk3
        exact ⟨_, _, h1, h3, .inl ⟨rfl, hI _ _ _ hi3 h6 (hput _ _), h2, h4, h5⟩⟩
      | ret =>
        obtain ⟨hk3, hi3⟩ := hp
        obtain ⟨h1, h2, h3, h4, h5, h6⟩ := fin (some .ret) W3 hk3
        exact ⟨_, _, h1, h3, .inr ⟨rfl, .ret, hIx _ _ _ _ hi3 h6 (hput _ _), h2, h4, h5⟩⟩
      | exit id =>
        obtain ⟨hk3, hi3⟩ := hp
        obtain ⟨h1, h2, h3, h4, h5, h6⟩ := fin (some (.exit id)) W3 hk3
        exact ⟨_, _, h1, h3, .inr ⟨rfl, .exit id, hIx _ _ _ _ hi3 h6 (hput _ _), h2, h4, h5⟩⟩
      | goto t =>
        obtain ⟨hk3, hi3⟩ := hp
        obtain ⟨h1, h2, h3, h4, h5, h6⟩ := fin (some (.goto t)) W3 hk3
        exact ⟨_, _, h1, h3, .inr ⟨rfl, .goto t, hIx _ _ _ _ hi3 h6 (hput _ _), h2, h4, h5⟩⟩
      | panic ch => exact hp.elim
      | outgrown => exact hp.elim
    | ret => exact hex.elim
    | exit id => exact hex.elim
    | goto t => exact hex.elim
    | panic ch => exact hex.elim
    | outgrown => exact hex.elim
  · exact ⟨h0, hl1, fun _ _ _ _ => rfl, by omega⟩
  · rintro e W2 ⟨⟨v, rfl⟩, (⟨hi, hr, hs, hz⟩ | ⟨k, hk, cd, hi, hr, hs, hz⟩)⟩
    · have he := run_endLoop (P := P) hr (by rw [hrec]; simp)
      have hp : (rec .ready none).pending = none := by rw [hrec]
      refine ⟨none, _, by rw [he, hp], ?_⟩
      exact hdone _ (hI _ _ _ hi (by omega) (hput _ _)) (fun j h1 h2 h3 => (World.putObj_heap_other h3).trans (hs j h1 h2 h3))
    · have he := run_endLoop (P := P) hr (by rw [hrec]; simp)
      have hp : (rec .done (some cd)).pending = some cd := by rw [hrec]
      refine ⟨some cd, _, by rw [he, hp], ?_⟩
      exact hstop k cd _ hk (hIx cd _ _ _ hi (by omega) (hput _ _)) (fun j h1 h2 h3 => (World.putObj_heap_other h3).trans (hs j h1 h2 h3))
abbrev markOf (B : Nat) : Deferred := { target := .collected B, args := #[] }
theorem wp_range {P : Program} {g : Operand} {ps : Array Tmp} {assign body : Code} {Q : Exit → Act → World → Prop} {a : Act} {w : World} {gf : Nat} {lb : Array Value}
    (hg : a.eval g = .func (.func gf) #[] lb) (eg : ∀ args w, (callFunc gf args).run P w = .ok (.enter gf args) w)
    (c : Nat) (N : Nat) (xs : Nat → Array Value) (T : Nat → World → Prop)
    (hit : ∀ W1, Only (fun _ => False) w W1 → W1.heap.size = w.heap.size + 2 → Iter P gf lb c N xs T W1)
    (hps : ∀ (k : Nat) (hk : k < N), (xs k).size = ps.size)
    (I : Nat → World → Prop) (Ix : Nat → Code → World → Prop) (hI : Stands w.heap.size (2 + c) I) (hIx : ∀ cd, Stands w.heap.size (2 + c) (fun k => Ix k cd))
    (hT : ∀ k W, k ≤ N → I k W → T k W) (h0 : I 0 w)
    (hbody : ∀ (k : Nat) (hk : k < N) (W : World), I k W → w.heap.size + 2 + c ≤ W.heap.size → (∃ r, W.heap[w.heap.size + 1]? = some (.loop r) ∧ r.defers = w.heap.size) →
      assign.wpIn (Fence.wide.inRound (w.heap.size + 1)) 0 P (Exit.then (fun a₁ Wa => KeptWin w.heap.size (2 + c) W Wa ∧
        ∀ Wb, Only (fun j => j = w.heap.size + 1) Wa Wb → Wb.heap.size = Wa.heap.size → (∃ r, Wb.heap[w.heap.size + 1]? = some (.loop r) ∧ r.defers = w.heap.size) →
          body.wpIn (Fence.wide.inRound (w.heap.size + 1)) 0 P (rangeOut w.heap.size (2 + c) I Ix (k + 1) Wb) a₁ Wb) (fun _ _ _ => False))
        { tmps := (ps.zip (xs k)).foldl (fun t (p, v) => t.setIfInBounds p v) a.tmps, defers := [] } W)
    (hdone : ∀ W, I N W → W.heap[w.heap.size]? = some (.deferred (some [])) → Q .normal { a with defers := markOf w.heap.size :: a.defers } W)
    (hstop : ∀ k cd W, k < N → Ix (k + 1) cd W → W.heap[w.heap.size]? = some (.deferred (some [])) → cd.wp P Q { a with defers := markOf w.heap.size :: a.defers } W) :
    (Code.rangeFunc g ps assign body).wp P Q a w := by
  refine (wpIn_wide (n := 0)).1 (wpIn_rangeFunc ?_)
  intro fn hfn
  obtain ⟨rec, hrec⟩ : ∃ rec : LoopState → Option Code → Loop, rec = fun st pe => { state := st, pending := pe, fn, tmps := a.tmps, params := ps, assign, body, defers := w.heap.size } := ⟨_, rfl⟩
  obtain ⟨W1, hW1⟩ : ∃ W1, (w.alloc (.deferred (some []))).alloc (.loop (rec .ready none)) = W1 := ⟨_, rfl⟩
  have hsz : W1.heap.size = w.heap.size + 2 := by rw [← hW1]; simp
  have hL1 : W1.heap[w.heap.size + 1]? = some (.loop (rec .ready none)) := by
    rw [← hW1]; have := World.alloc_heap_new (w.alloc (.deferred (some []))) (.loop (rec .ready none)); rwa [World.size_alloc] at this
  have hK1 : W1.heap[w.heap.size]? = some (.deferred (some [])) := by
    rw [← hW1]; exact (Below.heap_alloc _ _ _ (by simp)).trans (World.alloc_heap_new w _)
  have ho : ∀ S, Only S w W1 := fun S => by rw [← hW1]; exact ((Only.refl S w).alloc _).alloc _
  refine ⟨w.heap.size + 1, [markOf w.heap.size], W1, { target := .fn (.func gf) lb, args := #[.func (.yield (w.heap.size + 1)) #[] #[]] }, W1, gf,
    #[.func (.yield (w.heap.size + 1)) #[] #[]] ++ lb, W1, ?_, ?_, ?_, ?_, ?_, ?_⟩
  · rw [← hW1, hrec]; exact run_enterLoop_outer _ _ _ _ _
  · simp only [resolve, hg]
    simp [go_sem]
  · intro f' hf'; trivial
  · simp [invoke, go_sem, eg]
  · intro h; simp [Fence.wide] at h
  · refine callsIn_wide.2 (range_core rec hrec (lo := w.heap.size) (m := 2) (by omega) (by omega) hsz hL1 (hit W1 (ho _) hsz) hps I Ix hI hIx hT (hI 0 w W1 h0 (Nat.le_refl _) (ho _)) hbody ?_ ?_)
    · intro W hi hs
      exact hdone W hi ((hs _ (by omega) (by omega) (by omega)).trans hK1)
    · intro k cd W hk hi hs
      exact (wpIn_wide (n := 0)).2 (hstop k cd W hk hi ((hs _ (by omega) (by omega) (by omega)).trans hK1))
theorem calls_of_marks {P : Program} {f : FuncId} {fn : Func} {c : Code} {args : Array Value} {w : World} {R : Ending → World → Prop}
    (hf : P.funcs[f]? = some fn) (hb : fn.body = some c)
    (h : c.wp P (bodyPostM Fence.wide 0 P fn R) { tmps := args ++ Array.replicate (fn.ntmps - args.size) undef, defers := [] } w) : Calls P f args w R :=
  (callsIn_wide (n := 0)).1 (callsIn_of_wp_marks hf hb trivial (wpIn_wide.2 h))
theorem post_mark {P : Program} {fn : Func} {R : Ending → World → Prop} {tmps : Array Value} {W : World} {D : Nat} {v : Value} (hK : W.heap[D]? = some (.deferred (some [])))
    (hres : (results fn tmps).run P (W.putObj D (.deferred none)) = .ok v (W.putObj D (.deferred none))) (hR : R (.returned v) (W.putObj D (.deferred none))) :
    bodyPostM Fence.wide 0 P fn R .ret { tmps, defers := [markOf D] } W :=
  ⟨by simp, .inl ⟨_, _, rfl, run_takeDeferred hK, ⟨_, hres, hR⟩⟩⟩
theorem room_wideR (l n : Nat) : (Fence.wide.inRound l).room n := fun _ h => by simp [Fence.wide, Fence.inRound] at h
theorem wpIn_any {l n : Nat} {P : Program} {c : Code} {Q : Exit → Act → World → Prop} {a : Act} {w : World} (h : c.wpIn (Fence.wide.inRound l) n P Q a w) : c.wpIn (Fence.wide.inRound l) 0 P Q a w :=
  fun b k cs hro hb _ => h b k cs hro hb (room_wideR l _)
theorem yield_any {m n : Nat} {P : Program} {l : Nat} {args : Array Value} {W : World} {R : Ending → World → Prop} (h : YieldAt Fence.wide m P l args W R) : YieldAt Fence.wide n P l args W R := by
  obtain ⟨fn, tmps, assign, body, hy, hF, hR⟩ := h
  exact ⟨fn, tmps, assign, body, hy, hF, fun c cs _ => hR c cs (room_wide _)⟩
end Go.Proofs.YtblhfbcodbjgcaaGreat

namespace Go.Proofs.YtblhfbcodbjgcaaGreat
set_option linter.unusedVariables false
set_option linter.unusedSimpArgs false
open Go.RowKit Go.Shelf
abbrev Piece := Nat × (Obj → Prop)
abbrev PH := List Piece
def keys (h : PH) : List Nat := h.map Prod.fst
def cellsAre (T : TypeId) (C : Array Value) : Obj → Prop := fun o => o = .cells C T (0, 0)
abbrev pt (b : Nat) (T : TypeId) (C : Array Value) : Piece := (b, cellsAre T C)
structure Has (h : PH) (w : World) : Prop where
  nodup : (keys h).Nodup
  holds : ∀ p ∈ h, ∃ o, w.heap[p.1]? = some o ∧ p.2 o
structure Turned (h : PH) (w : World) (h' : PH) (w' : World) : Prop where
  has : Has h' w'
  only : Only (fun k => k ∈ keys h) w w'
  news : ∀ k, k ∈ keys h' → k ∈ keys h ∨ w.heap.size ≤ k
theorem nodup_idx {l : List Nat} (h : l.Nodup) : ∀ {i j : Nat} {x : Nat}, l[i]? = some x → l[j]? = some x → i = j := by
  induction l with
  | nil => intro i j x hi _; simp at hi
  | cons a l ih =>
    obtain ⟨h1, h2⟩ := List.nodup_cons.1 h
    intro i j x hi hj
    cases i with
    | zero =>
      cases j with
      | zero => rfl
      | succ j => simp at hi hj; subst hi; exact absurd (List.mem_of_getElem? hj) h1
    | succ i =>
      cases j with
      | zero => simp at hi hj; subst hj; exact absurd (List.mem_of_getElem? hi) h1
      | succ j => simp at hi hj; rw [ih h2 hi hj]
section
variable {h h' h'' F : PH} {w w' w'' : World}
theorem Has.nil (w : World) : Has [] w := ⟨List.nodup_nil, fun _ h => by simp at h⟩
theorem Has.perm (H : Has h w) (p : h.Perm h') : Has h' w :=
  ⟨(List.Perm.nodup_iff (p.map _)).1 H.nodup, fun q hq => H.holds q (p.mem_iff.2 hq)⟩
theorem Has.lt (H : Has h w) {k : Nat} (hk : k ∈ keys h) : k < w.heap.size := by
  obtain ⟨p, hp, rfl⟩ := List.mem_map.1 hk
  obtain ⟨o, ho, _⟩ := H.holds p hp
  exact (Array.getElem?_eq_some_iff.1 ho).1
theorem keys_append (a b : PH) : keys (a ++ b) = keys a ++ keys b := List.map_append
theorem Has.left (H : Has (h ++ F) w) : Has h w :=
  ⟨(List.nodup_append.1 (keys_append h F ▸ H.nodup)).1, fun p hp => H.holds p (List.mem_append_left _ hp)⟩
theorem Has.right (H : Has (h ++ F) w) : Has F w :=
  ⟨(List.nodup_append.1 (keys_append h F ▸ H.nodup)).2.1, fun p hp => H.holds p (List.mem_append_right _ hp)⟩
theorem Has.apart (H : Has (h ++ F) w) {k : Nat} (h1 : k ∈ keys h) (h2 : k ∈ keys F) : False :=
  (List.nodup_append.1 (keys_append h F ▸ H.nodup)).2.2 k h1 k h2 rfl
theorem Has.drop (H : Has (h ++ F) w) : Has F w := H.right
theorem Has.drew (H : Has h w) : Has h w.drew := ⟨H.nodup, H.holds⟩
theorem Has.only {S : Nat → Prop} (H : Has h w) (ho : Only S w w') (hs : ∀ k ∈ keys h, ¬ S k) : Has h w' :=
  ⟨H.nodup, fun p hp => by
    obtain ⟨o, h1, h2⟩ := H.holds p hp
    exact ⟨o, ho.blk h1 (hs _ (List.mem_map.2 ⟨p, hp, rfl⟩)), h2⟩⟩
theorem Turned.refl (H : Has h w) : Turned h w h w := ⟨H, Only.refl _ _, fun _ hk => .inl hk⟩
theorem Turned.trans (a : Turned h w h' w') (b : Turned h' w' h'' w'') : Turned h w h'' w'' :=
  ⟨b.has, a.only.trans' b.only (fun k hk hs => (a.news k hs).resolve_right (by omega)), fun k hk => by
    rcases b.news k hk with h1 | h1
    · exact a.news k h1
    · exact .inr (Nat.le_trans a.only.size h1)⟩
theorem Turned.frame (a : Turned h w h' w') (H : Has (h ++ F) w) : Turned (h ++ F) w (h' ++ F) w' := by
  have hF : Has F w' := H.right.only a.only (fun k h1 h2 => H.apart h2 h1)
  refine ⟨⟨?_, ?_⟩, a.only.mono (fun k _ hk => by rw [keys_append]; exact List.mem_append_left _ hk), fun k hk => ?_⟩
  · rw [keys_append]
    refine List.nodup_append.2 ⟨a.has.nodup, hF.nodup, fun x hx y hy he => ?_⟩
    subst he
    rcases a.news x hx with h1 | h1
    · exact H.apart h1 hy
    · exact absurd (H.right.lt hy) (by omega)
  · intro p hp
    rcases List.mem_append.1 hp with h1 | h1
    · exact a.has.holds p h1
    · exact hF.holds p h1
  · rw [keys_append] at hk ⊢
    rcases List.mem_append.1 hk with h1 | h1
    · rcases a.news k h1 with h2 | h2
      · exact .inl (List.mem_append_left _ h2)
      · exact .inr h2
    · exact .inl (List.mem_append_right _ h1)
theorem Turned.perm (a : Turned h w h' w') (p : h'.Perm h'') : Turned h w h'' w' :=
  ⟨a.has.perm p, a.only, fun k hk => a.news k ((p.map Prod.fst).mem_iff.2 hk)⟩
theorem Turned.drop (a : Turned h w (h' ++ h'') w') : Turned h w h'' w' :=
  ⟨a.has.right, a.only, fun k hk => a.news k (by rw [keys_append]; exact List.mem_append_right _ hk)⟩
theorem Turned.dropR (a : Turned h w (h' ++ h'') w') : Turned h w h' w' :=
  ⟨a.has.left, a.only, fun k hk => a.news k (by rw [keys_append]; exact List.mem_append_left _ hk)⟩
theorem Turned.drop1 {p : Piece} (a : Turned h w (p :: h'') w') : Turned h w h'' w' := Turned.drop (h' := [p]) a
theorem Turned.drew (a : Turned h w h' w') : Turned h w h' w'.drew := ⟨a.has.drew, a.only.drew, a.news⟩
theorem Turned.alloc0 (a : Turned h w h' w') (o : Obj) : Turned h w h' (w'.alloc o) :=
  ⟨⟨a.has.nodup, fun p hp => by obtain ⟨o', h1, h2⟩ := a.has.holds p hp; exact ⟨o', alloc_old h1 o, h2⟩⟩, a.only.alloc o, a.news⟩
theorem Turned.alloc (a : Turned h w h' w') {k : Nat} (hk : k = w'.heap.size) (T : TypeId) (C : Array Value) : Turned h w (pt k T C :: h') (w'.alloc (.cells C T)) := by
  subst hk
  refine ⟨⟨?_, ?_⟩, a.only.alloc _, ?_⟩
  · refine List.nodup_cons.2 ⟨fun hm => absurd (a.has.lt hm) (Nat.lt_irrefl _), a.has.nodup⟩
  · intro p hp
    rcases List.mem_cons.1 hp with rfl | hp
    · exact ⟨_, alloc_new _ rfl, rfl⟩
    · obtain ⟨o', h1, h2⟩ := a.has.holds p hp
      exact ⟨o', alloc_old h1 _, h2⟩
  · intro k hk
    rcases List.mem_cons.1 hk with rfl | hk
    · exact .inr a.only.size
    · exact a.news k hk
theorem setCell_blk {w : World} {b : Nat} {C : Array Value} {T : TypeId} (hb : w.heap[b]? = some (.cells C T (0, 0))) (i : Nat) (v : Value) :
    (w.setCell ⟨b, i, none⟩ v).heap[b]? = some (.cells (C.setIfInBounds i v) T (0, 0)) := by
  show (w.heap.modify b _)[b]? = _
  rw [Array.getElem?_modify, if_pos rfl, hb]
  rfl
theorem set_otherC {w : World} {B B' : Nat} {o : Obj} (h : w.heap[B]? = some o) (hne : B ≠ B') {i : Nat} (v : Value) : (w.setCell ⟨B', i, none⟩ v).heap[B]? = some o :=
  (Below.heap_setCell w ⟨B', i, none⟩ v B hne).trans h
theorem Turned.set {b : Nat} {T : TypeId} {C : Array Value} (a : Turned h w (pt b T C :: h') w') (i : Nat) (v : Value) : Turned h w (pt b T (C.setIfInBounds i v) :: h') (w'.setCell ⟨b, i, none⟩ v) := by
  obtain ⟨o, ho, rfl⟩ := a.has.holds (pt b T C) List.mem_cons_self
  have hnd := List.nodup_cons.1 a.has.nodup
  refine ⟨⟨a.has.nodup, ?_⟩, a.only.setCell _ ?_ v, a.news⟩
  · intro p hp
    rcases List.mem_cons.1 hp with rfl | hp
    · exact ⟨_, setCell_blk ho i v, rfl⟩
    · obtain ⟨o', h1, h2⟩ := a.has.holds p (List.mem_cons_of_mem _ hp)
      exact ⟨o', set_otherC h1 (fun e => hnd.1 (List.mem_map.2 ⟨p, hp, e⟩)) v, h2⟩
  · rcases a.news b (List.mem_cons_self) with h1 | h1
    · exact .inl h1
    · exact .inr h1
theorem Turned.say {b : Nat} {p q : Obj → Prop} (a : Turned h w ((b, p) :: h') w') (hpq : ∀ o, p o → q o) : Turned h w ((b, q) :: h') w' :=
  ⟨⟨a.has.nodup, fun x hx => by
    rcases List.mem_cons.1 hx with rfl | hx
    · obtain ⟨o, h1, h2⟩ := a.has.holds (b, p) List.mem_cons_self; exact ⟨o, h1, hpq o h2⟩
    · exact a.has.holds x (List.mem_cons_of_mem _ hx)⟩, a.only, a.news⟩
theorem Turned.open {b : Nat} {p : Obj → Prop} (a : Turned h w ((b, p) :: h') w') : ∃ o, p o ∧ Turned h w ((b, (· = o)) :: h') w' := by
  obtain ⟨o, h1, h2⟩ := a.has.holds (b, p) List.mem_cons_self
  refine ⟨o, h2, ⟨⟨a.has.nodup, fun x hx => ?_⟩, a.only, a.news⟩⟩
  rcases List.mem_cons.1 hx with rfl | hx
  · exact ⟨o, h1, rfl⟩
  · exact a.has.holds x (List.mem_cons_of_mem _ hx)
theorem Turned.blk (a : Turned h w h' w') (i : Nat) {b : Nat} {T : TypeId} {C : Array Value} (hi : h'[i]? = some (pt b T C)) : w'.heap[b]? = some (.cells C T (0, 0)) := by
  obtain ⟨o, h1, h2⟩ := a.has.holds _ (List.mem_of_getElem? hi)
  exact h2 ▸ h1
theorem Turned.cell (a : Turned h w h' w') (i : Nat) {b : Nat} {T : TypeId} {C : Array Value} (hi : h'[i]? = some (pt b T C)) (o : Nat) : w'.cell? ⟨b, o, none⟩ = C[o]? := blk_cell (a.blk i hi) o
theorem Turned.free (a : Turned h w h' w') (i : Nat) {b : Nat} {T : TypeId} {C : Array Value} (hi : h'[i]? = some (pt b T C)) (o : Nat) : w'.frozen? ⟨b, o, none⟩ = false := blk_free (a.blk i hi) o
theorem Turned.lt (a : Turned h w h' w') (i : Nat) {p : Piece} (hi : h'[i]? = some p) : p.1 < w'.heap.size :=
  a.has.lt (List.mem_map.2 ⟨p, List.mem_of_getElem? hi, rfl⟩)
theorem Turned.ne (a : Turned h w h' w') (i j : Nat) {p q : Piece} (hi : h'[i]? = some p) (hj : h'[j]? = some q) (hij : i ≠ j) : p.1 ≠ q.1 := by
  intro e
  have hn := a.has.nodup
  have h1 : (keys h')[i]? = some p.1 := by simp [keys, hi]
  have h2 : (keys h')[j]? = some q.1 := by simp [keys, hj]
  rw [← e] at h2
  exact hij (nodup_idx hn h1 h2)
theorem Turned.below (a : Turned [] w h' w') : Below w.heap.size w w' := a.only.below (fun k _ hk => by simp [keys] at hk) (Nat.le_refl _)
theorem Turned.old (a : Turned h w h' w') {k : Nat} {o : Obj} (hk : w.heap[k]? = some o) (hn : k ∉ keys h) : w'.heap[k]? = some o := a.only.blk hk hn
end
theorem pull {H F : PH} (i : Nat) {p : Piece} (h1 : H[i]? = some p) (h2 : H.eraseIdx i = F) : H.Perm (p :: F) := by
  subst h2
  induction H generalizing i with
  | nil => simp at h1
  | cons x l ih =>
    cases i with
    | zero => simp at h1; subst h1; exact List.Perm.refl _
    | succ n =>
      simp only [List.getElem?_cons_succ] at h1
      simp only [List.eraseIdx_cons_succ]
      exact ((ih n h1).cons x).trans (List.Perm.swap p x _)
theorem wrapI (n : Int) (h0 : -9223372036854775808 ≤ n) (h1 : n < 9223372036854775808) : IntKind.i64.wrap n = n := by
  rw [IntKind.wrap_i64]; omega
theorem put_back {H : PH} (i : Nat) {p q : Piece} (h1 : H[i]? = some p) : (q :: H.eraseIdx i).Perm (H.set i q) := by
  induction H generalizing i with
  | nil => simp at h1
  | cons x l ih =>
    cases i with
    | zero => exact List.Perm.refl _
    | succ n =>
      simp only [List.getElem?_cons_succ] at h1
      simp only [List.eraseIdx_cons_succ, List.set_cons_succ]
      exact (List.Perm.swap x q _).trans ((ih n h1).cons x)
section
variable {h H : PH} {w w' : World}
theorem Turned.setAt (a : Turned h w H w') (i : Nat) {b : Nat} {T : TypeId} {C : Array Value} (hi : H[i]? = some (pt b T C)) (o : Nat) (v : Value) :
    Turned h w (H.set i (pt b T (C.setIfInBounds o v))) (w'.setCell ⟨b, o, none⟩ v) :=
  ((a.perm (pull i hi rfl)).set o v).perm (put_back i hi)
theorem Turned.sayAt (a : Turned h w H w') (i : Nat) {b : Nat} {p : Obj → Prop} (hi : H[i]? = some (b, p)) (q : Obj → Prop) (hpq : ∀ o, p o → q o) :
    Turned h w (H.set i (b, q)) w' :=
  ((a.perm (pull i hi rfl)).say hpq).perm (put_back i hi)
theorem Turned.openAt (a : Turned h w H w') (i : Nat) {b : Nat} {p : Obj → Prop} (hi : H[i]? = some (b, p)) :
    ∃ o, p o ∧ Turned h w (H.set i (b, (· = o))) w' := by
  obtain ⟨o, h1, h2⟩ := (a.perm (pull i hi rfl)).open
  exact ⟨o, h1, h2.perm (put_back i hi)⟩
end
def Does (P : Program) (f : Nat) (args : Array Value) (h : PH) (R : Ending → PH → Prop) : Prop :=
  ∀ w, Has h w → Calls P f args w fun e w' => ∃ h', R e h' ∧ Turned h w h' w'
theorem Does.use {P : Program} {f : Nat} {args : Array Value} {hc F h H : PH} {R : Ending → PH → Prop} {w w1 : World} (hd : Does P f args hc R)
    (T : Turned h w H w1) (hp : H.Perm (hc ++ F)) : Calls P f args w1 fun e w2 => ∃ h', R e h' ∧ Turned h w (h' ++ F) w2 := by
  have T' := T.perm hp
  refine (hd w1 T'.has.left).mono ?_
  rintro e w2 ⟨h', hr, ht⟩
  exact ⟨h', hr, T'.trans (ht.frame T'.has)⟩
theorem Does.at {P : Program} {f : Nat} {args : Array Value} {p : Piece} {h H : PH} {R : Ending → PH → Prop} {w w1 : World} (hd : Does P f args [p] R)
    (T : Turned h w H w1) (i : Nat) (hi : H[i]? = some p) : Calls P f args w1 fun e w2 => ∃ h', R e h' ∧ ∀ q, h' = [q] → Turned h w (H.set i q) w2 := by
  refine (hd.use T (pull i hi rfl)).mono ?_
  rintro e w2 ⟨h', hr, ht⟩
  exact ⟨h', hr, fun q hq => by subst hq; exact ht.perm (put_back i hi)⟩
theorem Does.off {P : Program} {f : Nat} {args : Array Value} {h H : PH} {R : Ending → PH → Prop} {w w1 : World} (hd : Does P f args [] R)
    (T : Turned h w H w1) : Calls P f args w1 fun e w2 => ∃ h', R e h' ∧ Turned h w (h' ++ H) w2 := hd.use T (List.Perm.refl _)
theorem Does.mono {P : Program} {f : Nat} {args : Array Value} {h : PH} {R R' : Ending → PH → Prop} (hd : Does P f args h R) (hr : ∀ e h', R e h' → R' e h') : Does P f args h R' :=
  fun w hw => (hd w hw).mono fun e w' ⟨h', a, b⟩ => ⟨h', hr _ _ a, b⟩
theorem run_make_n {P : Program} (t e : TypeId) (z : Value) (size bytes : Nat) (ht : P.underlying t = some (.slice e)) (hinfo : (P.info? e).map (fun i => (i.zero, i.size, i.bytes)) = some (some z, size, bytes))
    (n : Nat) (hbytes : bytes * n ≤ 281474976710656) (h63 : n ≤ 9223372036854775807) (w : World) :
    (Instr.makeSlice t (.int .i64 (n : Int)) (.int .i64 (n : Int))).run P w = .ok (.slice (some ⟨w.heap.size, 0, none⟩) n n) (w.alloc (.cells (madeCells z.cells (n * size)) e)) := by
  obtain ⟨i, hi, hz0, hz1, hz2⟩ := info_parts hinfo
  have h := run_make (P := P) w t e i z ht hi hz0 .i64 .i64 n n (by omega) (Int.le_refl _) (by rw [hz2]; omega) (by omega)
  simpa [hz1] using h
theorem made_get (z : Array Value) (n s i j : Nat) (hz : z.size = s) (hi : i < n) (hj : j < s) : (madeCells z (n * s))[i * s + j]? = z[j]? := by
  have hlt : i * s + j < n * s := by
    have h1 : (i + 1) * s ≤ n * s := Nat.mul_le_mul_right _ hi
    rw [Nat.add_mul, Nat.one_mul] at h1
    omega
  have hm : (i * s + j) % s = j := by rw [Nat.add_comm, Nat.add_mul_mod_self_right, Nat.mod_eq_of_lt hj]
  have hjz : j < z.size := by omega
  simp only [madeCells, Array.getElem?_map, Array.getElem?_range, hlt, if_true, Option.map_some, hz, hm]
  rw [Array.getElem?_eq_getElem hjz, getElem!_pos z j hjz]
end Go.Proofs.YtblhfbcodbjgcaaGreat

namespace Go.Proofs.YtblhfbcodbjgcaaGreat
set_option linter.unusedVariables false
set_option linter.unusedSimpArgs false
open Go.RowKit Go.Shelf
abbrev Blk := Nat × Obj
abbrev GH := List (List Blk)
def ex (g : List Blk) : PH := g.map fun p => (p.1, (· = p.2))
abbrev cl (b : Nat) (T : TypeId) (C : Array Value) : Blk := (b, .cells C T (0, 0))
theorem ex_append (a b : List Blk) : ex (a ++ b) = ex a ++ ex b := List.map_append
theorem ex_perm {a b : List Blk} (h : a.Perm b) : (ex a).Perm (ex b) := h.map _
def TG (h : GH) (w : World) (H : GH) (w' : World) : Prop := Turned (ex h.flatten) w (ex H.flatten) w'
def HasG (H : GH) (w : World) : Prop := Has (ex H.flatten) w
def holesG : GH → List Nat → GH
  | H, [] => H
  | H, i :: is => holesG (H.set i []) is
def putG : GH → List Nat → GH → GH
  | H, [], gs => H ++ gs
  | H, i :: is, [] => putG (H.set i []) is []
  | H, i :: is, g :: gs => putG (H.set i g) is gs
def pickG (H : GH) (is : List Nat) : GH := is.map fun i => H.getD i []
theorem SU : (∀ (H : GH) (is : List Nat), pickG H is = is.map fun i => H.getD i []) ∧ (∀ (α β : Type) (f : α → β) (a : α) (l : List α), (a :: l).map f = f a :: l.map f) ∧ (∀ (α β : Type) (f : α → β), ([] : List α).map f = []) ∧
    (∀ (α : Type) (x : α) (l : List α) (n : Nat) (d : α), (x :: l).getD (n + 1) d = l.getD n d) ∧ (∀ (α : Type) (x : α) (l : List α) (d : α), (x :: l).getD 0 d = x) ∧
    (∀ (α : Type) (x : α) (l : List α) (n : Nat) (d : α), (x :: l).set (n + 1) d = x :: l.set n d) ∧ (∀ (α : Type) (x : α) (l : List α) (d : α), (x :: l).set 0 d = d :: l) ∧
    (∀ (α : Type) (x : α) (l m : List α), x :: l ++ m = x :: (l ++ m)) ∧ (∀ l m : GH, (l ++ m).flatten = l.flatten ++ m.flatten) ∧ (∀ (a : List Blk) (l : GH), (a :: l).flatten = a ++ l.flatten) ∧ (([] : GH).flatten = []) ∧
    (∀ (α : Type) (l : List α), l ++ [] = l) ∧ (∀ (α : Type) (l : List α), [] ++ l = l) :=
  ⟨fun _ _ => rfl, fun _ _ _ _ _ => rfl, fun _ _ _ => rfl, fun _ _ _ _ _ => rfl, fun _ _ _ _ => rfl, fun _ _ _ _ _ => rfl, fun _ _ _ _ => rfl, fun _ _ _ _ => rfl, fun _ _ => List.flatten_append, fun _ _ => rfl, rfl, fun _ l => List.append_nil l, fun _ _ => rfl⟩
theorem PU : (∀ (H : GH) (gs : GH), putG H [] gs = H ++ gs) ∧ (∀ (H : GH) (i : Nat) (is : List Nat), putG H (i :: is) [] = putG (H.set i []) is []) ∧ (∀ (H : GH) (i : Nat) (is : List Nat) (g : List Blk) (gs : GH), putG H (i :: is) (g :: gs) = putG (H.set i g) is gs) ∧
    (∀ (α : Type) (x : α) (l : List α) (n : Nat) (d : α), (x :: l).set (n + 1) d = x :: l.set n d) ∧ (∀ (α : Type) (x : α) (l : List α) (d : α), (x :: l).set 0 d = d :: l) ∧ (∀ (α : Type) (x : α) (l m : List α), x :: l ++ m = x :: (l ++ m)) ∧
    (∀ (α : Type) (l : List α), l ++ [] = l) ∧ (∀ (α : Type) (l : List α), [] ++ l = l) :=
  ⟨fun _ _ => rfl, fun _ _ _ => rfl, fun _ _ _ _ _ => rfl, fun _ _ _ _ _ => rfl, fun _ _ _ _ => rfl, fun _ _ _ _ => rfl, fun _ l => List.append_nil l, fun _ _ => rfl⟩
def nodupB : List Nat → Bool
  | [] => true
  | i :: is => !is.contains i && nodupB is
def fineG (H : GH) (is : List Nat) : Bool := nodupB is && is.all fun i => decide (i < H.length)
theorem perm_set {H : GH} : ∀ {i : Nat} (g : List Blk), i < H.length → (H.set i g).flatten.Perm (g ++ (H.set i []).flatten) := by
  induction H with
  | nil => intro i g h; simp at h
  | cons a l ih =>
    intro i g h
    cases i with
    | zero => simp only [List.set_cons_zero, List.flatten_cons, List.nil_append]; exact List.Perm.refl _
    | succ n =>
      simp only [List.set_cons_succ, List.flatten_cons]
      refine ((ih g (by simpa using h)).append_left a).trans ?_
      rw [← List.append_assoc, ← List.append_assoc]
      exact List.perm_append_comm.append_right _
theorem set_self {H : GH} {i : Nat} (h : i < H.length) : H.set i (H.getD i []) = H := by
  apply List.ext_getElem?
  intro k
  rw [List.getElem?_set]
  split
  · next e => subst e; simp [h]
  · rfl
theorem perm_at {H : GH} {i : Nat} (h : i < H.length) : H.flatten.Perm (H.getD i [] ++ (H.set i []).flatten) := by
  have := perm_set (H.getD i []) h
  rwa [set_self h] at this
theorem holesG_set {is : List Nat} : ∀ {H : GH} {i : Nat} {g : List Blk}, i ∉ is → holesG (H.set i g) is = (holesG H is).set i g := by
  induction is with
  | nil => intro H i g _; rfl
  | cons j is ih =>
    intro H i g hi
    have hj : i ≠ j := fun e => hi (e ▸ List.mem_cons_self)
    simp only [holesG]
    rw [List.set_comm _ _ hj, ih (fun h => hi (List.mem_cons_of_mem _ h))]
theorem holesG_length {is : List Nat} : ∀ {H : GH}, (holesG H is).length = H.length := by
  induction is with
  | nil => intro H; rfl
  | cons j is ih => intro H; simp only [holesG]; rw [ih, List.length_set]
theorem nodupB_cons {i : Nat} {is : List Nat} (h : nodupB (i :: is) = true) : i ∉ is ∧ nodupB is = true := by
  simp only [nodupB, Bool.and_eq_true, Bool.not_eq_true', List.contains_eq_mem, decide_eq_false_iff_not] at h
  exact h
theorem pick_perm {is : List Nat} : ∀ {H : GH}, fineG H is = true → H.flatten.Perm ((pickG H is).flatten ++ (holesG H is).flatten) := by
  induction is with
  | nil => intro H _; exact List.Perm.refl _
  | cons i is ih =>
    intro H h
    simp only [fineG, Bool.and_eq_true, List.all_cons, decide_eq_true_eq] at h
    obtain ⟨hn, hi, hl⟩ := h
    obtain ⟨h1, h2⟩ := nodupB_cons hn
    refine (perm_at hi).trans ?_
    simp only [pickG, List.map_cons, List.flatten_cons, holesG, List.append_assoc]
    refine List.Perm.append_left _ ?_
    refine (ih (H := H.set i []) (by simp only [fineG, Bool.and_eq_true, List.length_set]; exact ⟨h2, hl⟩)).trans ?_
    have e : pickG (H.set i []) is = pickG H is := by
      apply List.map_congr_left
      intro j hj
      have hij : i ≠ j := by rintro rfl; exact h1 hj
      rw [List.getD_eq_getElem?_getD, List.getD_eq_getElem?_getD, List.getElem?_set, if_neg hij]
    rw [e]
    exact List.Perm.refl _
theorem put_perm {is : List Nat} : ∀ {H : GH} {gs : GH}, fineG H is = true → (putG H is gs).flatten.Perm (gs.flatten ++ (holesG H is).flatten) := by
  induction is with
  | nil => intro H gs _; simp only [putG, holesG, List.flatten_append]; exact List.perm_append_comm
  | cons i is ih =>
    intro H gs h
    simp only [fineG, Bool.and_eq_true, List.all_cons, decide_eq_true_eq] at h
    obtain ⟨hn, hi, hl⟩ := h
    obtain ⟨h1, h2⟩ := nodupB_cons hn
    have hf : ∀ g, fineG (H.set i g) is = true := fun g => by simp only [fineG, Bool.and_eq_true, List.length_set]; exact ⟨h2, hl⟩
    cases gs with
    | nil => simp only [putG, holesG]; exact ih (hf _)
    | cons g gs =>
      simp only [putG, holesG, List.flatten_cons]
      refine (ih (hf g)).trans ?_
      rw [holesG_set h1, holesG_set h1]
      have := perm_set (H := holesG H is) (i := i) g (by rw [holesG_length]; exact hi)
      refine (this.append_left _).trans ?_
      rw [← List.append_assoc]
      exact List.perm_append_comm.append_right _
section
variable {h H : GH} {w w' : World}
theorem TG.refl (a : HasG H w) : TG H w H w := Turned.refl a
theorem TG.trans {H' : GH} {w'' : World} (a : TG h w H w') (b : TG H w' H' w'') : TG h w H' w'' := Turned.trans a b
theorem TG.has (a : TG h w H w') : HasG H w' := Turned.has a
theorem TG.re (a : TG h w H w') {H' : GH} (p : H.flatten.Perm H'.flatten) : TG h w H' w' := Turned.perm a (ex_perm p)
theorem TG.eq (a : TG h w H w') {H' : GH} (p : H.flatten = H'.flatten) : TG h w H' w' := a.re (p ▸ List.Perm.refl _)
theorem TG.base (a : TG h w H w') {h' : GH} (p : h.flatten = h'.flatten) : TG h' w H w' := by unfold TG at a ⊢; rwa [← p]
theorem TG.pick (a : TG h w H w') (is : List Nat) (f : fineG H is = true) : TG h w (pickG H is) w' := by
  have b : Turned _ _ _ _ := Turned.perm a (ex_perm (pick_perm f))
  rw [ex_append] at b
  exact b.dropR
theorem TG.drew (a : TG h w H w') : TG h w H w'.drew := Turned.drew a
theorem TG.drewN (a : TG h w H w') (n : Nat) : TG h w H (w'.drewN n) := ⟨⟨a.has.nodup, a.has.holds⟩, Turned.only a |>.drewN n, Turned.news a⟩
theorem TG.alloc0 (a : TG h w H w') (o : Obj) : TG h w H (w'.alloc o) := Turned.alloc0 a o
theorem TG.put (a : TG h w H w') {k : Nat} (hk : k = w'.heap.size) (o : Obj) : TG h w (H ++ [[(k, o)]]) (w'.alloc o) := by
  subst hk
  have b : Turned (ex h.flatten) w ((w'.heap.size, (· = o)) :: ex H.flatten) (w'.alloc o) := by
    have a' : Turned _ _ _ _ := a
    refine ⟨⟨?_, ?_⟩, a'.only.alloc _, ?_⟩
    · exact List.nodup_cons.2 ⟨fun hm => absurd (a'.has.lt hm) (Nat.lt_irrefl _), a'.has.nodup⟩
    · intro p hp
      rcases List.mem_cons.1 hp with rfl | hp
      · exact ⟨_, alloc_new _ rfl, rfl⟩
      · obtain ⟨o', h1, h2⟩ := a'.has.holds p hp
        exact ⟨o', alloc_old h1 _, h2⟩
    · intro k hk
      rcases List.mem_cons.1 hk with rfl | hk
      · exact .inr a'.only.size
      · exact a'.news k hk
  have e : (H ++ [[(w'.heap.size, o)]]).flatten = H.flatten ++ [(w'.heap.size, o)] := by simp
  unfold TG
  rw [e, ex_append]
  exact b.perm (List.perm_append_comm (l₁ := [_]))
theorem TG.alloc (a : TG h w H w') {k : Nat} (hk : k = w'.heap.size) (T : TypeId) (C : Array Value) : TG h w (H ++ [[cl k T C]]) (w'.alloc (.cells C T)) := a.put hk _
theorem at_lt {i j : Nat} {p : Blk} (hij : (H.getD i [])[j]? = some p) : i < H.length := by
  rcases Nat.lt_or_ge i H.length with h1 | h1
  · exact h1
  · have e : H.getD i [] = [] := by rw [List.getD_eq_getElem?_getD, List.getElem?_eq_none h1]; rfl
    rw [e] at hij; cases hij
theorem mem_flat {i j : Nat} {p : Blk} (hij : (H.getD i [])[j]? = some p) : p ∈ H.flatten := by
  have h1 := List.mem_of_getElem? hij
  have h2 := at_lt hij
  exact List.mem_flatten.2 ⟨_, by rw [List.getD_eq_getElem?_getD, List.getElem?_eq_getElem h2]; exact List.getElem_mem h2, h1⟩
theorem HasG.obj (a : HasG H w) (i j : Nat) {p : Blk} (hij : (H.getD i [])[j]? = some p) : w.heap[p.1]? = some p.2 := by
  obtain ⟨o, h1, h2⟩ := Has.holds a (p.1, (· = p.2)) (List.mem_map.2 ⟨p, mem_flat hij, rfl⟩)
  exact h2 ▸ h1
theorem TG.obj (a : TG h w H w') (i j : Nat) {p : Blk} (hij : (H.getD i [])[j]? = some p) : w'.heap[p.1]? = some p.2 := a.has.obj i j hij
theorem TG.cell (a : TG h w H w') (i j : Nat) {b : Nat} {T : TypeId} {C : Array Value} (hij : (H.getD i [])[j]? = some (cl b T C)) (o : Nat) : w'.cell? ⟨b, o, none⟩ = C[o]? := blk_cell (a.obj i j hij) o
theorem TG.free (a : TG h w H w') (i j : Nat) {b : Nat} {T : TypeId} {C : Array Value} (hij : (H.getD i [])[j]? = some (cl b T C)) (o : Nat) : w'.frozen? ⟨b, o, none⟩ = false := blk_free (a.obj i j hij) o
theorem TG.lt (a : TG h w H w') (i j : Nat) {p : Blk} (hij : (H.getD i [])[j]? = some p) : p.1 < w'.heap.size := (Array.getElem?_eq_some_iff.1 (a.obj i j hij)).1
theorem keys_ex (g : List Blk) : keys (ex g) = g.map Prod.fst := by simp [keys, ex, Function.comp_def]
theorem TG.nodup (a : TG h w H w') : (H.flatten.map Prod.fst).Nodup := keys_ex _ ▸ Has.nodup (Turned.has a)
theorem TG.ne (a : TG h w H w') (i j k l : Nat) (hik : i ≠ k) {p q : Blk} (hij : (H.getD i [])[j]? = some p) (hkl : (H.getD k [])[l]? = some q) : p.1 ≠ q.1 := by
  intro e
  have hi := at_lt hij
  have hn := a.nodup
  have hp := (perm_at hi).map Prod.fst
  have hn' := (hp.nodup_iff).1 hn
  rw [List.map_append] at hn'
  have hq : q ∈ (H.set i []).flatten := mem_flat (H := H.set i []) (i := k) (j := l) (by rw [List.getD_eq_getElem?_getD, List.getElem?_set, if_neg hik, ← List.getD_eq_getElem?_getD]; exact hkl)
  exact (List.nodup_append.1 hn').2.2 p.1 (List.mem_map.2 ⟨p, List.mem_of_getElem? hij, rfl⟩) p.1 (List.mem_map.2 ⟨q, hq, e.symm⟩) rfl
theorem TG.turn (a : TG h w H w') (i : Nat) {b : Nat} {o o' : Obj} {pre post : List Blk} (hi : i < H.length) (hg : H.getD i [] = pre ++ (b, o) :: post)
    {w'' : World} (hb : w''.heap[b]? = some o') (ho : ∀ k, k ≠ b → w''.heap[k]? = w'.heap[k]?) (hs : w''.heap.size = w'.heap.size) (h1 : w''.os = w'.os) (h2 : w''.tape = w'.tape) (h3 : w''.output = w'.output) :
    TG h w (H.set i (pre ++ (b, o') :: post)) w'' := by
  have a' : Turned _ _ _ _ := a
  have hp : (ex H.flatten).Perm ((b, (· = o)) :: ex (pre ++ post ++ (H.set i []).flatten)) := by
    refine (ex_perm ((perm_at hi).trans ?_)).trans (List.Perm.refl (ex ((b, o) :: (pre ++ post ++ (H.set i []).flatten))))
    rw [hg]
    refine (List.Perm.append_right _ List.perm_middle).trans ?_
    simp
  have hp' : ((b, (· = o')) :: ex (pre ++ post ++ (H.set i []).flatten)).Perm (ex (H.set i (pre ++ (b, o') :: post)).flatten) := by
    refine List.Perm.trans (List.Perm.refl (ex ((b, o') :: (pre ++ post ++ (H.set i []).flatten)))) (ex_perm ((perm_set _ hi).trans ?_).symm)
    refine (List.Perm.append_right _ List.perm_middle).trans ?_
    simp
  have c := a'.perm hp
  have hnd := List.nodup_cons.1 c.has.nodup
  have hbl := c.has.lt (k := b) List.mem_cons_self
  refine Turned.perm ?_ hp'
  refine ⟨⟨c.has.nodup, fun p hp => ?_⟩, ⟨h1.trans c.only.os, h2.trans c.only.tape, h3.trans c.only.output, by rw [hs]; exact c.only.size, fun k hk hn => (ho k ?_).trans (c.only.block k hk hn)⟩, c.news⟩
  · rcases List.mem_cons.1 hp with rfl | hp
    · exact ⟨o', hb, rfl⟩
    · obtain ⟨x, h1, h2⟩ := c.has.holds p (List.mem_cons_of_mem _ hp)
      exact ⟨x, (ho _ (fun e => hnd.1 (List.mem_map.2 ⟨p, hp, e⟩))).trans h1, h2⟩
  · rintro rfl
    rcases c.news k List.mem_cons_self with h4 | h4
    · exact hn h4
    · omega
theorem split_at {l : List Blk} {j : Nat} {p : Blk} (hj : l[j]? = some p) : l = l.take j ++ p :: l.drop (j + 1) ∧ ∀ q, l.set j q = l.take j ++ q :: l.drop (j + 1) := by
  obtain ⟨h1, h2⟩ := List.getElem?_eq_some_iff.1 hj
  have e : ∀ q, l.set j q = l.take j ++ q :: l.drop (j + 1) := fun q => List.set_eq_take_append_cons_drop.trans (if_pos h1)
  refine ⟨?_, e⟩
  rw [← e, ← h2, List.set_getElem_self]
theorem TG.set (a : TG h w H w') (i j : Nat) {b : Nat} {T : TypeId} {C : Array Value} (hij : (H.getD i [])[j]? = some (cl b T C)) (o : Nat) (v : Value) :
    TG h w (H.set i ((H.getD i []).set j (cl b T (C.setIfInBounds o v)))) (w'.setCell ⟨b, o, none⟩ v) := by
  obtain ⟨h1, h2⟩ := split_at hij
  have := a.turn (w'' := w'.setCell ⟨b, o, none⟩ v) i (o' := .cells (C.setIfInBounds o v) T (0, 0)) (at_lt hij) h1 (setCell_blk (a.obj i j hij) o v) (fun k hk => Below.heap_setCell w' ⟨b, o, none⟩ v k hk) (heap_size_setCell _ _ _) rfl rfl rfl
  rwa [← h2] at this
end
def DoesG (P : Program) (f : Nat) (args : Array Value) (gs : GH) (R : Ending → GH → Prop) : Prop :=
  ∀ w, HasG gs w → Calls P f args w fun e w' => ∃ gs', R e gs' ∧ TG gs w gs' w'
section
variable {P : Program} {f : Nat} {args : Array Value} {gs h H : GH} {R R' : Ending → GH → Prop} {w w1 : World}
theorem DoesG.use (hd : DoesG P f args gs R) (T : TG h w H w1) (is : List Nat) (hp : pickG H is = gs) (hf : fineG H is = true) :
    Calls P f args w1 fun e w2 => ∃ gs', R e gs' ∧ TG h w (putG H is gs') w2 := by
  subst hp
  have T1 : Turned _ _ _ _ := Turned.perm T (ex_perm (pick_perm hf))
  rw [ex_append] at T1
  refine (hd w1 T1.has.left).mono ?_
  rintro e w2 ⟨gs', hr, ht⟩
  refine ⟨gs', hr, ?_⟩
  have ht' : Turned _ _ _ _ := ht
  have := T1.trans (ht'.frame T1.has)
  rw [← ex_append] at this
  exact Turned.perm this (ex_perm (put_perm hf).symm)
theorem DoesG.mono (hd : DoesG P f args gs R) (hr : ∀ e gs', R e gs' → R' e gs') : DoesG P f args gs R' :=
  fun w hw => (hd w hw).mono fun e w' ⟨g, a, b⟩ => ⟨g, hr _ _ a, b⟩
theorem DoesG.post (hd : DoesG P f args gs R) (hr : ∀ e gs', R e gs' → ∃ gs'', R' e gs'' ∧ gs'.flatten.Perm gs''.flatten) : DoesG P f args gs R' :=
  fun w hw => (hd w hw).mono fun e w' ⟨g, a, b⟩ => by
    obtain ⟨g', h1, h2⟩ := hr _ _ a
    exact ⟨g', h1, b.re h2⟩
theorem DoesG.pre {gs' : GH} (hd : DoesG P f args gs R) (he : gs.flatten = gs'.flatten) : DoesG P f args gs' R :=
  fun w hw => (hd w (by unfold HasG at hw ⊢; rwa [he])).mono fun e w' ⟨g, a, b⟩ => ⟨g, a, b.base he⟩
theorem DoesG.below {Q : Ending → Prop} (hc : ∀ w, Calls P f args w fun e w' => Q e ∧ Below w.heap.size w w') : DoesG P f args [] fun e g => Q e ∧ g = [] :=
  fun w hw => (hc w).mono fun e w' ⟨a, b⟩ => ⟨[], ⟨a, rfl⟩, ⟨⟨List.nodup_nil, fun _ h => by cases h⟩, ⟨b.os, b.tape, b.output, b.size, fun k hk _ => b.block k hk⟩, fun k hk => by cases hk⟩⟩
theorem DoesG.to_below {Q : Ending → Prop} (hd : DoesG P f args [] fun e g => Q e) (w : World) : Calls P f args w fun e w' => Q e ∧ Below w.heap.size w w' :=
  (hd w ⟨List.nodup_nil, fun _ h => by cases h⟩).mono fun e w' ⟨g, a, b⟩ => ⟨a, Turned.below b⟩
end
inductive Match : PH → List Blk → Prop
  | nil : Match [] []
  | cons {b : Nat} {p : Obj → Prop} {o : Obj} {h : PH} {g : List Blk} : p o → Match h g → Match ((b, p) :: h) ((b, o) :: g)
theorem Match.keys {h : PH} {g : List Blk} (m : Match h g) : keys h = keys (ex g) := by
  induction m with
  | nil => rfl
  | cons _ _ ih => simp only [Go.Proofs.YtblhfbcodbjgcaaGreat.keys, ex, List.map_cons] at ih ⊢; rw [ih]
theorem Match.has {h : PH} {g : List Blk} (m : Match h g) {w : World} (H : Has (ex g) w) : Has h w := by
  refine ⟨m.keys ▸ H.nodup, ?_⟩
  have hh := H.holds
  clear H
  induction m with
  | nil => intro p hp; cases hp
  | cons hp m ih =>
    intro q hq
    rcases List.mem_cons.1 hq with rfl | hq
    · obtain ⟨o, h1, h2⟩ := hh _ (by simp only [ex, List.map_cons]; exact List.mem_cons_self)
      exact ⟨o, h1, by subst h2; exact hp⟩
    · exact ih (fun p hp => hh p (by simp only [ex, List.map_cons]; exact List.mem_cons_of_mem _ hp)) q hq
theorem Match.of_holds {w : World} : ∀ {h : PH}, (∀ p ∈ h, ∃ o, w.heap[p.1]? = some o ∧ p.2 o) → ∃ g, Match h g ∧ ∀ p ∈ ex g, ∃ o, w.heap[p.1]? = some o ∧ p.2 o
  | [], _ => ⟨[], .nil, fun _ h => by cases h⟩
  | (b, p) :: h, H => by
    obtain ⟨o, h1, h2⟩ := H (b, p) List.mem_cons_self
    obtain ⟨g, m, hg⟩ := Match.of_holds (h := h) (fun q hq => H q (List.mem_cons_of_mem _ hq))
    refine ⟨(b, o) :: g, .cons h2 m, fun q hq => ?_⟩
    simp only [ex, List.map_cons] at hq
    rcases List.mem_cons.1 hq with rfl | hq
    · exact ⟨o, h1, rfl⟩
    · exact hg q hq
theorem Does.G {P : Program} {f : Nat} {args : Array Value} {h : PH} {R : Ending → PH → Prop} (hd : Does P f args h R) {gs : GH} (m : Match h gs.flatten) :
    DoesG P f args gs fun e gs' => ∃ h' g, R e h' ∧ Match h' g ∧ gs' = [g] := by
  intro w hw
  refine (hd w (m.has hw)).mono ?_
  rintro e w' ⟨h', hr, ht⟩
  obtain ⟨g, mg, hg⟩ := Match.of_holds ht.has.holds
  refine ⟨[g], ⟨h', g, hr, mg, rfl⟩, ?_⟩
  have ef : ([g] : GH).flatten = g := by simp
  unfold TG
  rw [ef]
  refine ⟨⟨mg.keys ▸ ht.has.nodup, hg⟩, ?_, ?_⟩
  · rw [← m.keys]; exact ht.only
  · rw [← m.keys, ← mg.keys]; exact ht.news
theorem Match.append {a b : PH} {g : List Blk} (m : Match (a ++ b) g) : ∃ x y, g = x ++ y ∧ Match a x ∧ Match b y := by
  induction a generalizing g with
  | nil => exact ⟨[], g, rfl, .nil, m⟩
  | cons p a ih =>
    cases m with
    | cons hp m =>
      obtain ⟨x, y, rfl, h1, h2⟩ := ih m
      exact ⟨_ :: x, y, rfl, .cons hp h1, h2⟩
theorem Match.join {a b : PH} {x y : List Blk} (m : Match a x) (n : Match b y) : Match (a ++ b) (x ++ y) := by
  induction m with
  | nil => exact n
  | cons hp m ih => exact .cons hp ih
theorem Match.one {b : Nat} {p : Obj → Prop} {g : List Blk} (m : Match [(b, p)] g) : ∃ o, p o ∧ g = [(b, o)] := by
  cases m with
  | cons hp m => cases m; exact ⟨_, hp, rfl⟩
theorem Match.isPt {b : Nat} {T : TypeId} {C : Array Value} {g : List Blk} (m : Match [pt b T C] g) : g = [cl b T C] := by
  obtain ⟨o, rfl, rfl⟩ := m.one; rfl
theorem Match.of_pt (b : Nat) (T : TypeId) (C : Array Value) : Match [pt b T C] [cl b T C] := .cons rfl .nil
theorem Does.G1 {P : Program} {f : Nat} {args : Array Value} {a a' : PH} {v : Value} {x : List Blk} (hd : Does P f args a fun e h' => e = .returned v ∧ h' = a') (ma : Match a x) :
    DoesG P f args [x] fun e gs => e = .returned v ∧ ∃ x', Match a' x' ∧ gs = [x'] := by
  refine (hd.G (gs := [x]) (by simpa using ma)).mono ?_
  rintro e gs ⟨h', g, ⟨he, rfl⟩, m, rfl⟩
  exact ⟨he, g, m, rfl⟩
theorem Does.G2 {P : Program} {f : Nat} {args : Array Value} {a a' b b' : PH} {v : Value} {x y : List Blk} (hd : Does P f args (a ++ b) fun e h' => e = .returned v ∧ h' = a' ++ b') (ma : Match a x) (mb : Match b y) :
    DoesG P f args [x, y] fun e gs => e = .returned v ∧ ∃ x' y', Match a' x' ∧ Match b' y' ∧ gs = [x', y'] := by
  refine (hd.G (gs := [x, y]) (by simpa using ma.join mb)).post ?_
  rintro e gs ⟨h', g, ⟨he, rfl⟩, m, rfl⟩
  obtain ⟨x', y', rfl, m1, m2⟩ := m.append
  exact ⟨_, ⟨he, x', y', m1, m2, rfl⟩, by simp⟩
theorem HasG.nil (w : World) : HasG [] w := ⟨List.nodup_nil, fun _ h => by cases h⟩
end Go.Proofs.YtblhfbcodbjgcaaGreat
