import Derived.Test.YthbjaoinklhikaaGreatShutNoneM2
import Derived.StillTail
import Derived.Test.YthbjaoinklhikaaGreatChecked
import Derived.WalkKit
import Derived.TacticsInMore
import Derived.LoopNIn
import Derived.OwnWalkIn
import Derived.Outline
import Derived.Shelf.RegionOpen
import Derived.LoopIn
import Derived.Laws.BitsAllLaws
import Derived.Laws.Bits64b
import Derived.WalkSpells
import Derived.WalkLawsBesides
import Derived.Lib.Hide
import Derived.Deep.Light
import Derived.Test.YthbjaoinklhikaaGreatShutNoneM1
namespace Go.Proofs.YthbjaoinklhikaaGreat
set_option linter.unusedVariables false
open Go.RowKit Go.Shelf

/-! ## A region that draws its order: operations that only read, moves, then a chain of any operations: the text's order serves every order -/
section
variable {P : Program} {ops : Array Oper} {md : Region.Mode}

def floatB (o : Oper) : Bool := match o.op with | .move _ => true | .assign _ => true | .extract _ _ => true | .pick _ _ _ => true | _ => false
def addD : Option Deferred → Act → Act
  | none, a => a
  | some d, a => { a with defers := d :: a.defers }
theorem addD_put (d : Option Deferred) (a : Act) (x : Option Tmp) (v : Value) : addD d (a.put x v) = (addD d a).put x v := by
  cases d <;> cases x <;> rfl
theorem addD_eval (d : Option Deferred) (a : Act) : (addD d a).eval = a.eval := by cases d <;> rfl
theorem addD_tmps (d : Option Deferred) (a : Act) : (addD d a).tmps = a.tmps := by cases d <;> rfl
/-- what an operation of the chain yields -/
def effUp (P : Program) (N : Option Deferred → Value → World → Prop) : Result Next → Prop
  | .ok (.value v) w' => N none v w'
  | .ok .skip w' => N none undef w'
  | .ok (.defer d) w' => N (some d) undef w'
  | .ok (.enter f args) w' => Calls P f args w' fun e w'' => ∃ v, e = .returned v ∧ N none v w''
  | .ok (.row row args) w' => Rows P row args w' fun v w'' => N none v w''
  | _ => False
theorem effUp_mono {N N' : Option Deferred → Value → World → Prop} (h : ∀ d v w, N d v w → N' d v w) : ∀ {r : Result Next}, effUp P N r → effUp P N' r
  | .ok (.value _) _, hh => h _ _ _ hh
  | .ok .skip _, hh => h _ _ _ hh
  | .ok (.defer _) _, hh => h _ _ _ hh
  | .ok (.enter _ _) _, hh => Calls.mono hh fun e w'' ⟨v, he, hn⟩ => ⟨v, he, h _ _ _ hn⟩
  | .ok (.row _ _) _, hh => Rows.mono hh fun v w'' hn => h _ _ _ hn
  | .ok (.comm ..) _, hh => by simp [effUp] at hh
  | .ok (.spawn ..) _, hh => by simp [effUp] at hh
  | .halt _ _, hh => by simp [effUp] at hh

theorem float_run {o : Oper} (hf : floatB o = true) (a : Act) : (∃ v, ∀ w, (execOp a.eval o).run P w = .ok (.value v) w) ∨ ∀ w, ∃ h w', (execOp a.eval o).run P w = .halt h w' := by
  unfold floatB at hf
  split at hf
  · rename_i x hx
    refine .inl ⟨a.eval x, fun w => ?_⟩
    unfold execOp
    rw [hx]
    rfl
  · rename_i x hx
    refine .inl ⟨a.eval x, fun w => ?_⟩
    unfold execOp
    rw [hx]
    rfl
  · rename_i x i hx
    unfold execOp
    rw [hx]
    simp only [Instr.extract]
    cases a.eval x
    case tuple vs =>
      simp only []
      cases hv : vs[i]? with
      | some v => exact .inl ⟨v, fun w => rfl⟩
      | none => exact .inr fun w => ⟨_, _, rfl⟩
    all_goals exact .inr fun w => ⟨_, _, rfl⟩
  · rename_i c x y hx
    unfold execOp
    rw [hx]
    simp only []
    cases a.eval c
    case bool b => exact .inl ⟨_, fun w => rfl⟩
    all_goals exact .inr fun w => ⟨_, _, rfl⟩
  · cases hf
/-- a move yields its value in every class of worlds -/
theorem float_yields {o : Oper} (hf : floatB o = true) (a : Act) {C : World → Prop} (hne : ∃ w, C w) {v : Value} (hy : YieldsIn P ops C o v a) (C' : World → Prop) : YieldsIn P ops C' o v a := by
  rcases hy with ⟨hw, hv⟩ | hy
  · refine .inl ⟨hw, fun w hw' => ?_⟩
    obtain ⟨w0, h0⟩ := hne
    have h1 := hv w0 h0
    unfold Oper.quietAt at h1 ⊢
    rcases float_run (P := P) hf a with ⟨u, hu⟩ | hu
    · rw [hu] at h1 ⊢
      simp only [Oper.quietUpon] at h1 ⊢
      exact ⟨trivial, h1.2⟩
    · obtain ⟨h, w', e⟩ := hu w0
      rw [e] at h1
      simp only [Oper.quietUpon] at h1
  · exact .inr hy

/-- operation number i comes up: one of the first n reads, one of the others does what it does -/
def mStep (P : Program) (ops : Array Oper) (n i : Nat) (K : Act → (World → Prop) → Prop) (a : Act) (C : World → Prop) : Prop :=
  match ops[i]? with
  | none => K a C
  | some o => if Region.wanted o (yielded ops a.tmps) then
      (if (decide (i < n) || floatB o) = true then ∃ v, (∀ w, C w → o.quietAt P a C w v) ∧ K (a.put o.dst v) C
       else ∀ w, C w → effUp P (fun d v w' => K ((addD d a).put o.dst v) (fun x => x = w')) ((execOp a.eval o).run P w))
    else K (a.put o.dst undef) C
theorem mStep_mono {n i : Nat} {K K' : Act → (World → Prop) → Prop} {a : Act} {C : World → Prop} (h : ∀ a C, (∃ w, C w) → K a C → K' a C) (hne : ∃ w, C w) (hh : mStep P ops n i K a C) : mStep P ops n i K' a C := by
  unfold mStep at *
  split
  · rename_i ho; simp only [ho] at hh; exact h _ _ hne hh
  · rename_i o ho
    simp only [ho] at hh
    split
    · rename_i hw
      simp only [hw, if_true] at hh
      split
      · rename_i hi
        rw [if_pos hi] at hh
        obtain ⟨v, h1, h2⟩ := hh
        exact ⟨v, h1, h _ _ hne h2⟩
      · rename_i hi
        rw [if_neg hi] at hh
        exact fun w hw' => effUp_mono (fun d v w' hn => h _ (fun x => x = w') ⟨w', rfl⟩ hn) (hh w hw')
    · rename_i hw
      simp only [hw] at hh
      exact h _ _ hne hh
def wpAnyM (P : Program) (md : Region.Mode) (ops : Array Oper) (n : Nat) (Q : Act → World → Prop) : Nat → Array Bool → Act → (World → Prop) → Prop
  | 0, listed, a, C => Region.ready md ops listed = [] ∧ ∀ w, C w → Q a w
  | f + 1, listed, a, C => (Region.ready md ops listed = [] → ∀ w, C w → Q a w) ∧ ∀ i ∈ Region.ready md ops listed, mStep P ops n i (fun a' C' => wpAnyM P md ops n Q f (listed.setIfInBounds i true) a' C') a C
theorem wp_of_effUp {o : Oper} {a : Act} {w : World} {K : Act → World → Prop} {Q' : Exit → Act → World → Prop} (h : effUp P (fun d v w' => K ((addD d a).put o.dst v) w') ((execOp a.eval o).run P w)) : o.wp P a w K Q' := by
  unfold Oper.wp
  generalize (execOp a.eval o).run P w = r at *
  cases r with
  | ok x w' =>
    cases x <;> simp only [effUp] at h <;> simp only [Oper.upon]
    case value u => exact h
    case skip => exact h
    case defer d => exact h
    case enter f args => exact h.mono fun e w'' ⟨v, he, hn⟩ => by subst he; exact hn
    case row r args => exact h
  | halt x w' => simp only [effUp] at h
theorem wpAny_of_M {n : Nat} {Q : Act → World → Prop} {Q' : Exit → Act → World → Prop} (hQ : ∀ a w, Q a w → Q' .normal a w) : ∀ (f : Nat) (listed : Array Bool) (a : Act) (C : World → Prop) (w : World), C w →
    wpAnyM P md ops n Q f listed a C → wpAny P md ops Q' f listed a w
  | 0, _, _, _, _, hw, h => ⟨h.1, hQ _ _ (h.2 _ hw)⟩
  | f + 1, listed, a, C, w, hw, h => by
    refine ⟨fun h0 => hQ _ _ (h.1 h0 _ hw), fun i hi => ?_⟩
    have hh := h.2 i hi
    unfold mStep at hh
    unfold wpOp
    split
    · rename_i ho; simp only [ho] at hh; exact wpAny_of_M hQ f _ _ _ _ hw hh
    · rename_i o ho
      simp only [ho] at hh
      split
      · rename_i hwt
        simp only [hwt, if_true] at hh
        by_cases hin : (decide (i < n) || floatB o) = true
        · rw [if_pos hin] at hh
          obtain ⟨v, h1, h2⟩ := hh
          refine .inl (Oper.wp_of_quiet (C := C) (K := fun a' => wpAnyM P md ops n Q f (listed.setIfInBounds i true) a' C) hw (fun a' w' hw' hk => wpAny_of_M hQ f _ a' C w' hw' hk) ⟨v, h1, h2⟩)
        · rw [if_neg hin] at hh
          exact .inl (wp_of_effUp (effUp_mono (fun d v w' hn => wpAny_of_M hQ f _ _ (fun x => x = w') _ rfl hn) (hh w hw)))
      · rename_i hwt
        simp only [hwt] at hh
        exact wpAny_of_M hQ f _ _ _ _ hw hh

/-- what is listed is listed with all that it waits for -/
structure Closed (md : Region.Mode) (ops : Array Oper) (listed : Array Bool) : Prop where
  size : listed.size = ops.size
  closed : ∀ j oj, ops[j]? = some oj → listed.getD j false = true → ∀ e ∈ oj.after, Region.binds md e = true → listed.getD e.on false = true
theorem Closed.set {i : Nat} {listed : Array Bool} (inv : Closed md ops listed) (hi : i ∈ Region.ready md ops listed) : Closed md ops (listed.setIfInBounds i true) := by
  obtain ⟨_, oi, hoi, hall⟩ := mem_ready.1 hi
  refine ⟨by simp [inv.size], fun j oj hj hl e he hb => ?_⟩
  by_cases hij : i = j
  · subst hij
    have : oj = oi := Option.some.inj (hj.symm.trans hoi)
    subst this
    exact getD_set_true (hall e he hb)
  · rw [getD_set_ne false hij] at hl
    exact getD_set_true (inv.closed j oj hj hl e he hb)
def goods (md : Region.Mode) (ops : Array Oper) (n : Nat) : Nat → List Nat
  | 0 => []
  | d + 1 => if Region.waitsFor md ops n (n - (d + 1)) || (goods md ops n d).any (fun j => Region.waitsFor md ops j (n - (d + 1))) then (n - (d + 1)) :: goods md ops n d else goods md ops n d
theorem goods_listed {n : Nat} {listed : Array Bool} (inv : Closed md ops listed) (hn : ∀ on, ops[n]? = some on → ∀ e ∈ on.after, Region.binds md e = true → listed.getD e.on false = true) :
    ∀ d, ∀ k ∈ goods md ops n d, listed.getD k false = true := by
  intro d
  induction d with
  | zero => intro k hk; cases hk
  | succ d ih =>
    intro k hk
    unfold goods at hk
    split at hk
    · rename_i hc
      rcases List.mem_cons.1 hk with rfl | hk
      · simp only [Bool.or_eq_true] at hc
        rcases hc with hc | hc
        · obtain ⟨on, ho, e, he, hb, hon⟩ := Region.waitsFor_spec hc
          exact hon ▸ hn on ho e he hb
        · obtain ⟨j, hj, hc⟩ := List.any_eq_true.1 hc
          obtain ⟨oj, ho, e, he, hb, hon⟩ := Region.waitsFor_spec hc
          exact hon ▸ inv.closed j oj ho (ih j hj) e he hb
      · exact ih k hk
    · exact ih k hk
def chain2 (md : Region.Mode) (ops : Array Oper) (n : Nat) : Bool :=
  (List.range ops.size).all fun t => decide (t ≤ n) || (List.range t).any fun j => decide (n ≤ j) && Region.waitsFor md ops t j
/-- as long as one of the goods is left, none of the chain is ready -/
theorem chain_waits {n i : Nat} {listed : Array Bool} (hc : chain2 md ops n = true) (inv : Closed md ops listed) (hg : i ∈ goods md ops n n) (hun : listed.getD i false = false) : ∀ t, n ≤ t → t ∉ Region.ready md ops listed := by
  have key : ∀ t, n ≤ t → (∀ ot, ops[t]? = some ot → ∀ e ∈ ot.after, Region.binds md e = true → listed.getD e.on false = true) → t < ops.size → False := by
    intro t
    induction t using Nat.strongRecOn with
    | _ t ih =>
      intro hnt h hlt
      have h1 := List.all_eq_true.1 hc t (List.mem_range.2 hlt)
      simp only [Bool.or_eq_true, decide_eq_true_eq] at h1
      rcases h1 with h1 | h1
      · have : t = n := by omega
        subst this
        rw [goods_listed inv h t i hg] at hun
        cases hun
      · obtain ⟨j, hj, hj2⟩ := List.any_eq_true.1 h1
        simp only [Bool.and_eq_true, decide_eq_true_eq] at hj2
        have hjt := List.mem_range.1 hj
        obtain ⟨ot, ho, e, he, hb, hon⟩ := Region.waitsFor_spec hj2.2
        have h2 := h ot ho e he hb
        rw [hon] at h2
        exact ih j hjt hj2.1 (fun oj hoj e' he' hb' => inv.closed j oj hoj h2 e' he' hb') (by omega)
  intro t ht hr
  obtain ⟨_, ot, ho, hall⟩ := mem_ready.1 hr
  exact key t ht (fun ot' ho' => by rw [ho] at ho'; cases ho'; exact hall) (Array.getElem?_eq_some_iff.1 ho).1

/-- an operation apart from 'oi', whose value is known: it makes no difference to it -/
theorem mStep_put {n j : Nat} {oi oj : Oper} {v : Value} (hj : ops[j]? = some oj) (hap : oi.apart ops oj = true)
    (hsi : ∀ cs b, oi.op ≠ .select cs b) (hsj : ∀ cs b, oj.op ≠ .select cs b) {K : Act → (World → Prop) → Prop} {a : Act} {C : World → Prop} (hne : ∃ w, C w)
    (hy : YieldsIn P ops C oi v a) (hfl : floatB oi = true ∨ (decide (j < n) || floatB oj) = true) (h : mStep P ops n j K (a.put oi.dst v) C) :
    mStep P ops n j (fun a' C' => YieldsIn P ops C' oi v a' ∧ (floatB oi = true ∨ C' = C) ∧ (∃ w, C' w) ∧ K (a'.put oi.dst v) C') a C := by
  obtain ⟨h1, h2, h3⟩ := Oper.apart_spec hap
  have keep : ∀ (a : Act), YieldsIn P ops C oi v a → ∀ u, YieldsIn P ops C oi v (a.put oj.dst u) := fun a hy u =>
    hy.of_same (execOp_put oi hsi a oj.dst u h3) (wanted_put oi a oj.dst u h3)
  unfold mStep at *
  simp only [hj] at *
  rw [wanted_put oj a oi.dst v h1] at h
  split
  · rename_i hw
    simp only [hw, if_true] at h
    split
    · rename_i hjn
      rw [if_pos hjn] at h
      obtain ⟨u, hu, hn⟩ := h
      refine ⟨u, fun w hw' => ?_, keep a hy u, by simp, hne, by rw [← Act.put_comm a v u h2]; exact hn⟩
      have := hu w hw'
      unfold Oper.quietAt at *
      rwa [execOp_put oj hsj a oi.dst v h1] at this
    · rename_i hjn
      rw [if_neg hjn] at h
      have hf := hfl.resolve_right hjn
      intro w hw'
      have := h w hw'
      rw [execOp_put oj hsj a oi.dst v h1] at this
      refine effUp_mono (fun d u w' hn => ⟨?_, .inl hf, ⟨w', rfl⟩, ?_⟩) this
      · have y1 := float_yields hf _ hne (keep a hy u) (fun x => x = w')
        refine y1.of_same ?_ ?_
        · rw [← addD_put, addD_eval]
        · rw [← addD_put, addD_tmps]
      · have e1 : ((addD d a).put oj.dst u).put oi.dst v = (addD d (a.put oi.dst v)).put oj.dst u := by
          rw [addD_put, Act.put_comm (addD d a) v u h2]
        rw [e1]
        exact hn
  · rename_i hw
    simp only [hw] at h
    exact ⟨keep a hy _, by simp, hne, by rw [← Act.put_comm a v undef h2]; exact h⟩
theorem yieldsIn_mStep {n i : Nat} {o : Oper} {v : Value} {a : Act} {C : World → Prop} (hi : ops[i]? = some o) (hin : (decide (i < n) || floatB o) = true) (hy : YieldsIn P ops C o v a) {K : Act → (World → Prop) → Prop} (h : K (a.put o.dst v) C) : mStep P ops n i K a C := by
  unfold Go.Proofs.YthbjaoinklhikaaGreat.mStep
  simp only [hi]
  rcases hy with ⟨hw, hv⟩ | ⟨hw, rfl⟩
  · simp only [hw, hin, if_true]; exact ⟨v, hv, h⟩
  · simp only [hw, Bool.false_eq_true, if_false]; exact h
/-- an operation that may come up now may be taken first: one that reads, and that all of the chain waits for; or a move -/
theorem wpAnyM_first {n : Nat} {Q : Act → World → Prop} {i : Nat} {oi : Oper} {v : Value} (hi : ops[i]? = some oi) (hin : (decide (i < n) || floatB oi) = true) (hsel : ∀ (j : Nat) (o : Oper) cs b, ops[j]? = some o → o.op ≠ .select cs b)
    (hc : chain2 md ops n = true) (hk : floatB oi = true ∨ i ∈ goods md ops n n) :
    ∀ (f : Nat) (listed : Array Bool) (a : Act) (C : World → Prop), (∃ w, C w) → Closed md ops listed →
      (∀ j oj, ops[j]? = some oj → j ≠ i → listed.getD j true = false → (∀ e ∈ oj.after, Region.binds md e = true → e.on ≠ i) → oi.apart ops oj = true) →
      i ∈ Region.ready md ops listed → YieldsIn P ops C oi v a →
      wpAnyM P md ops n Q f (listed.setIfInBounds i true) (a.put oi.dst v) C → wpAnyM P md ops n Q (f + 1) listed a C := by
  intro f
  induction f with
  | zero =>
    intro listed a C hne inv _ hr hy H
    refine ⟨fun h => (by rw [h] at hr; cases hr), fun j hj => ?_⟩
    by_cases hji : j = i
    · subst hji; exact yieldsIn_mStep hi hin hy H
    · have := ready_mono hj hji
      rw [H.1] at this
      cases this
  | succ f ih =>
    intro listed a C hne inv hfree hr hy H
    refine ⟨fun h => (by rw [h] at hr; cases hr), fun j hj => ?_⟩
    by_cases hji : j = i
    · subst hji; exact yieldsIn_mStep hi hin hy H
    · have h1 := H.2 j (ready_mono hj hji)
      obtain ⟨hjun, oj, hoj, hall⟩ := mem_ready.1 hj
      have hun := (mem_ready.1 hr).1
      have hnot : ∀ e ∈ oj.after, Region.binds md e = true → e.on ≠ i := fun e he hb heq => by
        have h1 := hall e he hb
        rw [heq, getD_both hun] at h1
        cases h1
      have hfl : floatB oi = true ∨ (decide (j < n) || floatB oj) = true := by
        rcases hk with hk | hk
        · exact .inl hk
        · rcases Nat.lt_or_ge j n with h | h
          · exact .inr (by simp [h])
          · exact absurd hj (chain_waits hc inv hk (getD_both hun) j h)
      have h2 := mStep_put hoj (hfree j oj hoj hji hjun hnot) (fun cs b => hsel i oi cs b hi) (fun cs b => hsel j oj cs b hoj) hne hy hfl h1
      have hfree' : ∀ k ok, ops[k]? = some ok → k ≠ i → (listed.setIfInBounds j true).getD k true = false →
          (∀ e ∈ ok.after, Region.binds md e = true → e.on ≠ i) → oi.apart ops ok = true := fun k ok hk hki hun hno => by
        refine hfree k ok hk hki ?_ hno
        by_cases hjk : j = k
        · subst hjk; exact hjun
        · rw [getD_set_ne true hjk] at hun; exact hun
      refine mStep_mono (fun a' C' hne' h3 => ih (listed.setIfInBounds j true) a' C' h3.2.2.1 (inv.set hj) hfree' (ready_mono hr (Ne.symm hji)) h3.1 ?_) hne h2
      rw [Array.setIfInBounds_comm _ _ hji]
      exact h3.2.2.2
/-- the exits: none but the end -/
structure NormQ (Q : Exit → Act → World → Prop) (e : Exit) (a : Act) (w : World) : Prop where
  is : e = .normal
  q : Q .normal a w
theorem not_letsOut {Q : Exit → Act → World → Prop} (h : LetsOut (NormQ Q)) : False := by
  obtain ⟨a, w, h⟩ := h
  cases h.is
theorem effUp_of_wp {o : Oper} {a : Act} {w : World} {K : Act → World → Prop} {Q : Exit → Act → World → Prop} (h : o.wp P a w K (NormQ Q)) : effUp P (fun d v w' => K ((addD d a).put o.dst v) w') ((execOp a.eval o).run P w) := by
  unfold Oper.wp at h
  generalize (execOp a.eval o).run P w = r at *
  cases r with
  | ok x w' =>
    cases x <;> simp only [Oper.upon] at h <;> simp only [effUp]
    case value u => exact h
    case skip => exact h
    case defer d => exact h
    case enter f args =>
      refine h.mono fun e w'' he => ?_
      cases e with
      | returned v => exact ⟨v, rfl, he⟩
      | panicked c => cases he.is
      | outgrown => exact (not_letsOut he).elim
    case row r args => exact h
  | halt x w' => cases x <;> simp only [Oper.upon] at h <;> simp only [effUp]; cases h.is
def tailB (md : Region.Mode) (ops : Array Oper) : Nat → Nat → Array Bool → Bool
  | 0, _, listed => (Region.ready md ops listed).isEmpty
  | g + 1, k, listed => (if (ops[k]?).any floatB = true then (Region.ready md ops listed).contains k && Region.free md ops listed k else decide (Region.ready md ops listed = [k])) && tailB md ops g (k + 1) (listed.setIfInBounds k true)
theorem wpAnyM_seq {n : Nat} {Q : Exit → Act → World → Prop} (hsel : Region.noSelect ops = true) (hc : chain2 md ops n = true) : ∀ (l : List Oper) (k : Nat) (listed : Array Bool) (a : Act) (C : World → Prop), (∃ w, C w) → Closed md ops listed → n ≤ k → (∀ j, l[j]? = ops[k + j]?) →
    tailB md ops l.length k listed = true → (∀ w, C w → wpList P ops (NormQ Q) l a w) → wpAnyM P md ops n (Q .normal) l.length listed a C
  | [], _, _, _, _, _, _, _, _, hB, h => ⟨by simpa [tailB] using hB, fun w hw => (h w hw).q⟩
  | o :: l, k, listed, a, C, hne, inv, hk, hl, hB, h => by
    have h0 : ops[k]? = some o := by simpa using (hl 0).symm
    simp only [List.length_cons, tailB, Bool.and_eq_true] at hB
    obtain ⟨hB1, hB2⟩ := hB
    rw [h0] at hB1
    simp only [Option.any_some] at hB1
    by_cases hfl : floatB o = true
    · rw [if_pos hfl] at hB1
      simp only [Bool.and_eq_true] at hB1
      have hr' : k ∈ Region.ready md ops listed := by simpa using hB1.1
      have ih := fun a' => wpAnyM_seq (n := n) (Q := Q) hsel hc l (k + 1) (listed.setIfInBounds k true) a' C hne (inv.set hr') (by omega) (fun j => by have := hl (j + 1); simpa [Nat.add_assoc, Nat.add_comm 1 j] using this) hB2
      by_cases hw : Region.wanted o (yielded ops a.tmps) = true
      · obtain ⟨w0, hw0⟩ := hne
        have e0 : ∃ v, ∀ w, (execOp a.eval o).run P w = .ok (.value v) w := by
          rcases float_run (P := P) hfl a with hu | hu
          · exact hu
          · obtain ⟨x, w', e⟩ := hu w0
            have h1 := h w0 hw0
            unfold wpList at h1
            simp only [hw, if_true] at h1
            rcases h1 with h1 | h1
            · have h2 := effUp_of_wp h1
              rw [e] at h2
              simp only [effUp] at h2
            · exact (not_letsOut h1.2).elim
        obtain ⟨v, hv⟩ := e0
        refine wpAnyM_first (v := v) h0 (by simp [hfl]) (Region.noSelect_spec hsel) hc (.inl hfl) l.length listed a C ⟨w0, hw0⟩ inv (Region.free_spec h0 hB1.2) hr' (.inl ⟨hw, fun w hw' => ?_⟩) (ih _ (fun w hw' => ?_))
        · unfold Oper.quietAt
          rw [hv]
          exact ⟨rfl, rfl⟩
        · have h1 := h w hw'
          unfold wpList at h1
          simp only [hw, if_true] at h1
          rcases h1 with h1 | h1
          · have h2 := effUp_of_wp h1
            rw [hv] at h2
            simpa only [effUp, addD] using h2
          · exact (not_letsOut h1.2).elim
      · refine wpAnyM_first (v := undef) h0 (by simp [hfl]) (Region.noSelect_spec hsel) hc (.inl hfl) l.length listed a C hne inv (Region.free_spec h0 hB1.2) hr' (.inr ⟨by simpa using hw, rfl⟩) (ih _ (fun w hw' => ?_))
        have h1 := h w hw'
        unfold wpList at h1
        simpa [hw] using h1
    · rw [if_neg hfl] at hB1
      simp only [decide_eq_true_eq] at hB1
      have hr' : k ∈ Region.ready md ops listed := by rw [hB1]; simp
      refine ⟨fun h1 => (by rw [hB1] at h1; cases h1), fun i hi => ?_⟩
      rw [hB1] at hi
      have hik : i = k := by simpa using hi
      subst hik
      have ih := fun a' C' hne' => wpAnyM_seq (n := n) (Q := Q) hsel hc l (i + 1) (listed.setIfInBounds i true) a' C' hne' (inv.set hr') (by omega) (fun j => by have := hl (j + 1); simpa [Nat.add_assoc, Nat.add_comm 1 j] using this) hB2
      unfold mStep
      simp only [h0]
      split
      · rename_i hw
        have hni : ¬ (decide (i < n) || floatB o) = true := by simp [hfl]; omega
        rw [if_neg hni]
        intro w hw'
        have h1 := h w hw'
        unfold wpList at h1
        simp only [hw, if_true] at h1
        rcases h1 with h1 | h1
        · exact effUp_mono (fun d v w' hn => ih _ (fun x => x = w') ⟨w', rfl⟩ (fun x hx => by subst hx; exact hn)) (effUp_of_wp h1)
        · exact (not_letsOut h1.2).elim
      · rename_i hw
        refine ih _ _ hne (fun w hw' => ?_)
        have h1 := h w hw'
        unfold wpList at h1
        simpa [hw] using h1
def mixHead (md : Region.Mode) (ops : Array Oper) (n g : Nat) : Nat → Nat → Array Bool → Bool
  | 0, k, listed => tailB md ops g k listed
  | f + 1, k, listed => (Region.ready md ops listed).contains k && Region.free md ops listed k && ((ops[k]?).any floatB || (goods md ops n n).contains k) && mixHead md ops n g f (k + 1) (listed.setIfInBounds k true)
def mixB (md : Region.Mode) (ops : Array Oper) (n : Nat) : Bool :=
  Region.noSelect ops && decide (n < ops.size) && chain2 md ops n && mixHead md ops n (ops.size - n) n 0 (Array.replicate ops.size false)
theorem wpAnyM_lex {n : Nat} {Q : Exit → Act → World → Prop} {tail : List Oper} (hsel : Region.noSelect ops = true) (hc : chain2 md ops n = true) (htl : ∀ j, tail[j]? = ops[n + j]?) :
    ∀ (l : List Oper) (k : Nat) (listed : Array Bool) (a : Act) (C : World → Prop), (∃ w, C w) → (∀ j, j < l.length → l[j]? = ops[k + j]?) → k + l.length = n → Closed md ops listed →
    mixHead md ops n tail.length l.length k listed = true → wpQuiet P ops C (fun a' => ∀ w, C w → wpList P ops (NormQ Q) tail a' w) l a →
    wpAnyM P md ops n (Q .normal) (l.length + tail.length) listed a C
  | [], k, listed, a, C, hne, _, hk, inv, hB, h => by
    have : k = n := by simpa using hk
    subst this
    rw [List.length_nil, Nat.zero_add]
    exact wpAnyM_seq hsel hc tail k listed a C hne inv (Nat.le_refl _) htl (by simpa [mixHead] using hB) h
  | o :: l, k, listed, a, C, hne, hl, hk, inv, hB, h => by
    have h0 : ops[k]? = some o := by simpa using (hl 0 (by simp)).symm
    simp only [List.length_cons, mixHead, Bool.and_eq_true] at hB
    obtain ⟨⟨⟨hr, hf⟩, hkd⟩, hB'⟩ := hB
    have hkn : k < n := by simp only [List.length_cons] at hk; omega
    have hr' : k ∈ Region.ready md ops listed := by simpa using hr
    have hst : qOp P ops C k (wpQuiet P ops C (fun a' => ∀ w, C w → wpList P ops (NormQ Q) tail a' w) l) a := by unfold qOp; simp only [h0]; exact h
    obtain ⟨v, hy, hK⟩ := yieldsIn_of_qOp h0 hst
    have hkd' : floatB o = true ∨ k ∈ goods md ops n n := by simpa [h0] using hkd
    rw [show (o :: l).length + tail.length = (l.length + tail.length) + 1 by simp only [List.length_cons]; omega]
    exact wpAnyM_first h0 (by simp [hkn]) (Region.noSelect_spec hsel) hc hkd' (l.length + tail.length) listed a C hne inv (Region.free_spec h0 hf) hr' hy
      (wpAnyM_lex hsel hc htl l (k + 1) _ _ C hne (fun j hj => by have := hl (j + 1) (by simp; omega); simpa [Nat.add_assoc, Nat.add_comm 1 j] using this) (by simp only [List.length_cons] at hk; omega) (inv.set hr') hB' hK)
/-- **the text's order serves every order**: the first n operations read, or move; the others come one behind the other -/
theorem wp_region_mix {id : Nat} {Q : Exit → Act → World → Prop} {a : Act} {w : World} {l : List Oper} (C : World → Prop) (n : Nat) (hm : P.follows .mixedOrders = true) (hB : mixB .any l.toArray n = true) (hC : C w.drew)
    (h : wpQuiet P l.toArray C (fun a' => ∀ w', C w' → wpList P l.toArray (NormQ Q) (l.drop n) a' w') (l.take n) a) : (Code.region id l.toArray true).wp P Q a w := by
  simp only [mixB, Bool.and_eq_true, decide_eq_true_eq] at hB
  obtain ⟨⟨⟨hsel, hn⟩, hc⟩, hB'⟩ := hB
  have hn' : n < l.length := by simpa using hn
  have htl : (l.take n).length = n := by simp; omega
  have hdl : (l.drop n).length = l.toArray.size - n := by simp
  refine wp_region_any hm (wpAny_of_M (n := n) (Q := Q .normal) (fun _ _ h => h) _ _ _ C _ hC ?_)
  have := wpAnyM_lex (P := P) (md := .any) (ops := l.toArray) (Q := Q) (tail := l.drop n) hsel hc (fun j => by simp) (l.take n) 0 (Array.replicate l.toArray.size false) a C ⟨_, hC⟩
    (fun j hj => by rw [htl] at hj; simp [List.getElem?_take, hj]) (by rw [htl]; omega) ⟨by simp, fun j oj _ hl => by rw [getD_replicate_false] at hl; cases hl⟩ (by rw [htl, hdl]; exact hB') h
  rw [htl, hdl] at this
  rw [show n + (l.toArray.size - n) = l.toArray.size by simp; omega] at this
  exact this
theorem wp_region_mix1 {id : Nat} {Q : Exit → Act → World → Prop} {a : Act} {w : World} {l : List Oper} (n : Nat) (hm : P.follows .mixedOrders = true) (hB : mixB .any l.toArray n = true)
    (h : wpQuiet P l.toArray (fun w' => ∃ m, w' = w.drewN m) (fun a' => ∀ w', (∃ m, w' = w.drewN m) → wpList P l.toArray (NormQ Q) (l.drop n) a' w') (l.take n) a) : (Code.region id l.toArray true).wp P Q a w :=
  wp_region_mix _ n hm hB ⟨1, rfl⟩ h
end
end Go.Proofs.YthbjaoinklhikaaGreat

namespace Go.Proofs.YthbjaoinklhikaaGreat
set_option linter.unusedVariables false
set_option linter.unusedSimpArgs false
open Go.RowKit Go.Shelf
attribute [local go_sem] Oper.semAt_some

/-! ## A config -/
structure Cfg where
  sh : Int
  cap : Int
  ring : Int
  room : Int
  wk : Int
  cli : Int
def Cfg.cells (c : Cfg) : Array Value := #[.int .i64 c.sh, .int .i64 c.cap, .int .i64 c.ring, .int .i64 c.room, .int .i64 c.wk, .int .i64 c.cli]
def Cfg.pair (c : Cfg) : Nat → Int × Int
  | 0 => (c.sh, 4) | 1 => (c.cap, 64) | 2 => (c.ring, 64) | 3 => (c.room, 16) | 4 => (c.wk, 4) | _ => (c.cli, 8)
def Cfg.fine (c : Cfg) (k : Nat) : Bool := decide (1 ≤ (c.pair k).1) && decide ((c.pair k).1 ≤ (c.pair k).2)
def Cfg.ok (c : Cfg) : Bool := c.fine 0 && c.fine 1 && c.fine 2 && c.fine 3 && c.fine 4 && c.fine 5

set_option maxRecDepth 100000 in
set_option maxHeartbeats 4000000 in
theorem bounds_iter (i cb : Nat) (c : Cfg) : IterG Tryz.prog 138 #[.pointer (some ⟨cb, 0, none⟩)] 0 6 (fun k => #[.int .i64 (c.pair k).1, .int .i64 (c.pair k).2])
    (fun _ H => (H.getD i [])[0]? = some (cl cb 41 c.cells)) := by
  intro W l J Jx hJ hJx hT hY h0
  have hC : ∀ k W', k ≤ 6 → J k W' → ∀ o, W'.cell? ⟨cb, o, none⟩ = c.cells[o]? := fun k W' hk hj o => by
    obtain ⟨H, ht, hh⟩ := hT k W' hk hj
    exact blk_cell (hh.obj i 0 ht) o
  simp only [Cfg.cells] at hC
  have HC := Lib.hid hC
  clear hC hT hJ hJx
  refine (callsIn_wide (n := 9)).1 (callsIn_of_wp Tryz.func138 rfl trivial ?_ rfl)
  simp only [Tryz.ntmps138, List.size_toArray, List.length_cons, List.length_nil, Nat.reduceAdd, Nat.reduceSub, Array.replicate_succ, Array.replicate_zero, List.push_toArray, List.append_toArray, List.nil_append, List.cons_append]
  have c0 := HC.out 0 W (by decide) h0
  obtain ⟨fn0, tmps0, as0, bd0, hy0, hR0⟩ := yield_any (n := 8) (hY 0 (by decide) W h0 (Nat.le_refl _))
  simp only [Cfg.pair] at hy0
  have HR0 := Lib.hid hR0
  clear hR0
  gi_wp2
  refine HR0.out.mono ?_
  clear hy0 c0
  rintro e V0 ⟨hkw0, ⟨rfl, hj0⟩ | ⟨rfl, hj0⟩⟩
  · have hz0 : W.heap.size ≤ V0.heap.size := by have := hkw0.size; omega
    have c1 := HC.out 1 V0 (by decide) hj0
    obtain ⟨fn1, tmps1, as1, bd1, hy1, hR1⟩ := yield_any (n := 8) (hY 1 (by decide) V0 hj0 (by have hs := hz0; have := hkw0.size; omega))
    simp only [Cfg.pair] at hy1
    have HR1 := Lib.hid hR1
    clear hR1
    gi_wp2
    refine HR1.out.mono ?_
    clear hy1 c1
    rintro e V1 ⟨hkw1, ⟨rfl, hj1⟩ | ⟨rfl, hj1⟩⟩
    · have hz1 : W.heap.size ≤ V1.heap.size := by have := hkw1.size; omega
      have c2 := HC.out 2 V1 (by decide) hj1
      obtain ⟨fn2, tmps2, as2, bd2, hy2, hR2⟩ := yield_any (n := 8) (hY 2 (by decide) V1 hj1 (by have hs := hz1; have := hkw1.size; omega))
      simp only [Cfg.pair] at hy2
      have HR2 := Lib.hid hR2
      clear hR2
      gi_wp2
      refine HR2.out.mono ?_
      clear hy2 c2
      rintro e V2 ⟨hkw2, ⟨rfl, hj2⟩ | ⟨rfl, hj2⟩⟩
      · have hz2 : W.heap.size ≤ V2.heap.size := by have := hkw2.size; omega
        have c3 := HC.out 3 V2 (by decide) hj2
        obtain ⟨fn3, tmps3, as3, bd3, hy3, hR3⟩ := yield_any (n := 8) (hY 3 (by decide) V2 hj2 (by have hs := hz2; have := hkw2.size; omega))
        simp only [Cfg.pair] at hy3
        have HR3 := Lib.hid hR3
        clear hR3
        gi_wp2
        refine HR3.out.mono ?_
        clear hy3 c3
        rintro e V3 ⟨hkw3, ⟨rfl, hj3⟩ | ⟨rfl, hj3⟩⟩
        · have hz3 : W.heap.size ≤ V3.heap.size := by have := hkw3.size; omega
          have c4 := HC.out 4 V3 (by decide) hj3
          obtain ⟨fn4, tmps4, as4, bd4, hy4, hR4⟩ := yield_any (n := 8) (hY 4 (by decide) V3 hj3 (by have hs := hz3; have := hkw3.size; omega))
          simp only [Cfg.pair] at hy4
          have HR4 := Lib.hid hR4
          clear hR4
          gi_wp2
          refine HR4.out.mono ?_
          clear hy4 c4
          rintro e V4 ⟨hkw4, ⟨rfl, hj4⟩ | ⟨rfl, hj4⟩⟩
          · have hz4 : W.heap.size ≤ V4.heap.size := by have := hkw4.size; omega
            have c5 := HC.out 5 V4 (by decide) hj4
            obtain ⟨fn5, tmps5, as5, bd5, hy5, hR5⟩ := yield_any (n := 8) (hY 5 (by decide) V4 hj4 (by have hs := hz4; have := hkw4.size; omega))
            simp only [Cfg.pair] at hy5
            have HR5 := Lib.hid hR5
            clear hR5
            gi_wp2
            refine HR5.out.mono ?_
            clear hy5 c5
            rintro e V5 ⟨hkw5, ⟨rfl, hj5⟩ | ⟨rfl, hj5⟩⟩
            · have hz5 : W.heap.size ≤ V5.heap.size := by have := hkw5.size; omega
              gi_wp2
              refine bodyPost_end (results_none rfl _ _ _) rfl ?_
              exact ⟨⟨_, rfl⟩, .inl hj5⟩
            · gi_wp2
              repeat (refine ⟨(fun f hf => by cases hf), ?_⟩; (with_reducible apply_assumption); gi_wp2)
              refine bodyPost_end (results_none rfl _ _ _) rfl ?_
              exact ⟨⟨_, rfl⟩, .inr ⟨5, by decide, hj5⟩⟩
          · gi_wp2
            repeat (refine ⟨(fun f hf => by cases hf), ?_⟩; (with_reducible apply_assumption); gi_wp2)
            refine bodyPost_end (results_none rfl _ _ _) rfl ?_
            exact ⟨⟨_, rfl⟩, .inr ⟨4, by decide, hj4⟩⟩
        · gi_wp2
          repeat (refine ⟨(fun f hf => by cases hf), ?_⟩; (with_reducible apply_assumption); gi_wp2)
          refine bodyPost_end (results_none rfl _ _ _) rfl ?_
          exact ⟨⟨_, rfl⟩, .inr ⟨3, by decide, hj3⟩⟩
      · gi_wp2
        repeat (refine ⟨(fun f hf => by cases hf), ?_⟩; (with_reducible apply_assumption); gi_wp2)
        refine bodyPost_end (results_none rfl _ _ _) rfl ?_
        exact ⟨⟨_, rfl⟩, .inr ⟨2, by decide, hj2⟩⟩
    · gi_wp2
      repeat (refine ⟨(fun f hf => by cases hf), ?_⟩; (with_reducible apply_assumption); gi_wp2)
      refine bodyPost_end (results_none rfl _ _ _) rfl ?_
      exact ⟨⟨_, rfl⟩, .inr ⟨1, by decide, hj1⟩⟩
  · gi_wp2
    repeat (refine ⟨(fun f hf => by cases hf), ?_⟩; (with_reducible apply_assumption); gi_wp2)
    refine bodyPost_end (results_none rfl _ _ _) rfl ?_
    exact ⟨⟨_, rfl⟩, .inr ⟨0, by decide, hj0⟩⟩
theorem bounds_g (c : Cfg) : DoesG Tryz.prog 109 #[.agg c.cells] [] fun e gs => ∃ cb, e = .returned (.func (.func 138) #[] #[.pointer (some ⟨cb, 0, none⟩)]) ∧ gs = [[cl cb 41 c.cells]] := by
  intro w hw
  have T0 := TG.refl hw
  have HT := Lib.hid T0
  clear hw T0
  simp only [Cfg.cells]
  go_enter Tryz.func109, Tryz.ntmps109
  go_wp2
  go_ret
  exact ⟨_, ⟨_, rfl, rfl⟩, HT.out.alloc rfl _ _⟩
/-- all are fine so far -/
def Cfg.upto (c : Cfg) (k : Nat) : Prop := ∀ i, i < k → c.fine i = true
theorem Cfg.ok_of {c : Cfg} (h : c.upto 6) : c.ok = true := by
  unfold Cfg.ok; rw [h 0 (by decide), h 1 (by decide), h 2 (by decide), h 3 (by decide), h 4 (by decide), h 5 (by decide)]; rfl
theorem Cfg.not_ok {c : Cfg} {k : Nat} (hk : k < 6) (h : c.fine k = false) : c.ok = false := by
  have : k = 0 ∨ k = 1 ∨ k = 2 ∨ k = 3 ∨ k = 4 ∨ k = 5 := by omega
  unfold Cfg.ok
  rcases this with rfl | rfl | rfl | rfl | rfl | rfl <;> simp [h]
def chkJ (b1 b2 cb : Nat) (c : Cfg) (k : Nat) (H : GH) : Prop := H = [[cl b1 41 c.cells], [cl b2 27 #[.int .i64 0]], [cl cb 41 c.cells]] ∧ c.upto k
def chkX (b1 b2 cb : Nat) (c : Cfg) (k : Nat) (cd : Code) (H : GH) : Prop := cd = .ret ∧ H = [[cl b1 41 c.cells], [cl b2 27 #[.int .i64 8]], [cl cb 41 c.cells]] ∧ c.ok = false

end Go.Proofs.YthbjaoinklhikaaGreat

namespace Go.Proofs.YthbjaoinklhikaaGreat
set_option linter.unusedVariables false
set_option linter.unusedSimpArgs false

/-! Plain functions on words: no program in sight. -/

def okW (n : Int) : Bool := decide (n % 8 ≤ 6) && decide (n / 16 % 16 = 0) && decide (n / 256 < 4294967296)
def stW (n : Int) : Int := if okW n = true then n % 8 else 0
def genW (n : Int) : Int := if okW n = true then n / 256 else 0
def lastW (n : Int) : Bool := okW n && decide (n / 8 % 2 = 1)
def packW (s g : Int) (l : Bool) : Int := s + 256 * g + (if l = true then 8 else 0)

def liveW (s e : Int) (again : Bool) : Int × Int × Bool :=
  if s = 4 then
    if again = true then
      if e = 6 then (5, 1, true) else if e = 8 then (2, 1, true) else (s, 0, again)
    else (s, 0, false)
  else if s = 2 ∨ s = 3 then
    if e = 6 then (5, 0, true) else if e = 8 then (2, 1, true) else (s, 0, again)
  else (s, 0, false)

def toW (s e : Int) (again : Bool) : Int × Int × Bool :=
  if e = 1 then (1, 1, (s == 0))
  else if e = 2 then (2, 0, (s == 1))
  else if e = 3 then (3, 0, (s == 2))
  else if e = 4 then (4, 0, (s == 3))
  else if e = 5 then (3, 1, (s == 4) && again)
  else if e = 9 then (if s = 1 then (0, 0, true) else (6, 0, (s == 4)))
  else if e = 10 then (0, 0, (s == 5) || (s == 6))
  else liveW s e again

/-- the word behind an event, and the error -/
def nextW (n e : Int) (p : Bool) : Int × Int :=
  if okW n = false then (n, 5)
  else if e < 1 ∨ 10 < e then (n, 1)
  else
    let t := toW (stW n) e (p && !lastW n)
    if t.2.2 = false then (n, 7)
    else if 4294967295 < genW n + t.2.1 then (n, 9)
    else (packW t.1 (genW n + t.2.1) (if e = 7 then true else if e = 1 ∨ e = 10 then false else lastW n), 0)

theorem and_shl (n k i : Nat) : n &&& (k <<< i) = ((n >>> i) &&& k) <<< i := by
  apply Nat.eq_of_testBit_eq
  intro j
  simp only [Nat.testBit_and, Nat.testBit_shiftLeft, Nat.testBit_shiftRight]
  by_cases h : i ≤ j
  · simp [h, show i + (j - i) = j from by omega]
  · simp [h]
theorem mask_nat (n : Nat) : (n &&& (18446744073709551615 - 1099511627535)) = (n / 16 % 16) * 16 + (n / 1099511627776 % 16777216) * 1099511627776 := by
  have e : (18446744073709551615 - 1099511627535 : Nat) = (15 <<< 4) ||| ((2^24-1) <<< 40) := by decide
  rw [e, Nat.and_or_distrib_left, and_shl, and_shl]
  rw [show (15:Nat) = 2^4 - 1 from rfl, Nat.and_two_pow_sub_one_eq_mod, Nat.and_two_pow_sub_one_eq_mod]
  simp only [Nat.shiftRight_eq_div_pow]
  have h2 : (n / 2^4 % 2^4) <<< 4 < 2^40 := by
    rw [Nat.shiftLeft_eq]; omega
  rw [Nat.or_comm, Nat.shiftLeft_eq _ 40, Nat.mul_comm, ← Nat.two_pow_add_eq_or_of_lt h2, Nat.shiftLeft_eq]
  omega
theorem u64_and_mask (n : Int) (h0 : 0 ≤ n) (h1 : n < 18446744073709551616) : bits .and .u64 n 7 = n % 8 := by
  obtain ⟨k, rfl⟩ := Int.eq_ofNat_of_zero_le h0
  rw [show (7 : Int) = ((7 : Nat) : Int) from rfl, u64_and_nat k 7 (by omega) (by omega)]
  rw [show (7 : Nat) = 2 ^ 3 - 1 from rfl, Nat.and_two_pow_sub_one_eq_mod]
  omega
theorem and8_nat (k : Nat) : k &&& 8 = k / 8 % 2 * 8 := by
  have h := and_shl k (2 ^ 1 - 1) 3
  rw [Nat.and_two_pow_sub_one_eq_mod, Nat.shiftRight_eq_div_pow] at h
  rw [show (8 : Nat) = (2 ^ 1 - 1) <<< 3 from rfl, h, Nat.shiftLeft_eq]
  rfl
theorem u64_and_8 (n : Int) (h0 : 0 ≤ n) (h1 : n < 18446744073709551616) : bits .and .u64 n 8 = (n / 8 % 2) * 8 := by
  obtain ⟨k, rfl⟩ := Int.eq_ofNat_of_zero_le h0
  rw [show (8 : Int) = ((8 : Nat) : Int) from rfl, u64_and_nat k 8 (by omega) (by omega), and8_nat]
  omega
theorem u64_andNot_mask (n : Int) (h0 : 0 ≤ n) (h1 : n < 18446744073709551616) :
    bits .andNot .u64 n 1099511627535 = (n / 16 % 16) * 16 + (n / 1099511627776 % 16777216) * 1099511627776 := by
  obtain ⟨k, rfl⟩ := Int.eq_ofNat_of_zero_le h0
  rw [show (1099511627535 : Int) = ((1099511627535 : Nat) : Int) from rfl, u64_andNot_nat k _ (by omega) (by omega), mask_nat]
  omega
theorem ok_iff (n : Int) (h0 : 0 ≤ n) (h1 : n < 18446744073709551616) :
    okW n = true ↔ bits .andNot .u64 n 1099511627535 = 0 ∧ bits .and .u64 n 7 ≤ 6 := by
  rw [u64_andNot_mask n h0 h1, u64_and_mask n h0 h1]
  simp only [okW, Bool.and_eq_true, decide_eq_true_eq]
  omega
theorem ok_bd (n : Int) (h0 : 0 ≤ n) (h : okW n = true) : 0 ≤ stW n ∧ stW n ≤ 6 ∧ 0 ≤ genW n ∧ genW n ≤ 4294967295 := by
  have h' := h
  simp only [okW, Bool.and_eq_true, decide_eq_true_eq] at h'
  rw [stW, genW, if_pos h, if_pos h]
  omega
theorem or_join (x y : Int) (hx0 : 0 ≤ x) (hx : x < 256) (hy0 : 0 ≤ y) (hy : y ≤ 4294967295) :
    bits .or .u64 x (y * 256) = x + 256 * y := by
  obtain ⟨a, rfl⟩ := Int.eq_ofNat_of_zero_le hx0
  obtain ⟨b, rfl⟩ := Int.eq_ofNat_of_zero_le hy0
  rw [show ((b : Int) * 256) = ((b * 256 : Nat) : Int) from by omega, u64_or_nat a (b * 256) (by omega) (by omega)]
  rw [show b * 256 = 2 ^ 8 * b from by omega, Nat.or_comm, ← Nat.two_pow_add_eq_or_of_lt (by omega)]
  omega
theorem or8_nat (a b : Nat) (ha : a < 8) : (2 ^ 8 * b + a) ||| 8 = 2 ^ 8 * b + (a + 8) := by
  have e : a ||| 8 = 2 ^ 3 * 1 + a := by rw [Nat.two_pow_add_eq_or_of_lt ha, Nat.or_comm]
  rw [Nat.two_pow_add_eq_or_of_lt (show a < 2 ^ 8 by omega), Nat.or_assoc, e, ← Nat.two_pow_add_eq_or_of_lt (by omega)]
  omega
theorem or_8 (x y : Int) (hx0 : 0 ≤ x) (hx : x < 8) (hy0 : 0 ≤ y) (hy : y ≤ 4294967295) :
    bits .or .u64 (x + 256 * y) 8 = x + 256 * y + 8 := by
  obtain ⟨a, rfl⟩ := Int.eq_ofNat_of_zero_le hx0
  obtain ⟨b, rfl⟩ := Int.eq_ofNat_of_zero_le hy0
  rw [show ((a : Int) + 256 * (b : Int)) = ((2 ^ 8 * b + a : Nat) : Int) from by omega, show (8 : Int) = ((8 : Nat) : Int) from rfl, u64_or_nat _ 8 (by omega) (by omega),
    or8_nat a b (by omega)]
  omega

def FitsW (t : Int × Int × Bool) : Prop := 0 ≤ t.1 ∧ t.1 ≤ 6 ∧ 0 ≤ t.2.1 ∧ t.2.1 ≤ 1
theorem ite_fits {c : Prop} [Decidable c] {a b : Int × Int × Bool} (ha : FitsW a) (hb : FitsW b) : FitsW (if c then a else b) := by
  split <;> assumption
theorem toW_fits (s e : Int) (again : Bool) (h0 : 0 ≤ s) (h1 : s ≤ 6) : FitsW (toW s e again) := by
  unfold toW liveW
  repeat' (refine ite_fits ?_ ?_)
  all_goals (simp only [FitsW]; omega)

theorem packW_parts (s g : Int) (l : Bool) (h0 : 0 ≤ s) (h1 : s ≤ 6) (h2 : 0 ≤ g) (h3 : g ≤ 4294967295) :
    okW (packW s g l) = true ∧ stW (packW s g l) = s ∧ genW (packW s g l) = g ∧ lastW (packW s g l) = l ∧ 0 ≤ packW s g l ∧ packW s g l < 18446744073709551616 := by
  have hk : okW (packW s g l) = true := by
    simp only [okW, Bool.and_eq_true, decide_eq_true_eq]
    cases l <;> simp [packW] <;> omega
  rw [stW, genW, lastW, if_pos hk, if_pos hk, hk]
  cases l <;> simp [packW] <;> omega

/-- what comes of an event: an error, and nothing has turned; or none, and the new word's parts -/
theorem nextW_cases (n e : Int) (p : Bool) (h0 : 0 ≤ n) (h1 : n < 18446744073709551616) (hk : okW n = true) :
    ((nextW n e p).1 = n ∧ ((nextW n e p).2 = 1 ∧ (e < 1 ∨ 10 < e) ∨ (nextW n e p).2 = 7 ∨ (nextW n e p).2 = 9)) ∨
    ((nextW n e p).2 = 0 ∧ 1 ≤ e ∧ e ≤ 10 ∧ (toW (stW n) e (p && !lastW n)).2.2 = true ∧ okW (nextW n e p).1 = true ∧
      stW (nextW n e p).1 = (toW (stW n) e (p && !lastW n)).1 ∧ genW (nextW n e p).1 = genW n + (toW (stW n) e (p && !lastW n)).2.1 ∧
      lastW (nextW n e p).1 = (if e = 7 then true else if e = 1 ∨ e = 10 then false else lastW n) ∧ 0 ≤ (nextW n e p).1 ∧ (nextW n e p).1 < 18446744073709551616) := by
  have hb := ok_bd n h0 hk
  have hf := toW_fits (stW n) e (p && !lastW n) hb.1 hb.2.1
  unfold nextW
  rw [hk, if_neg (by simp)]
  by_cases he : e < 1 ∨ 10 < e
  · rw [if_pos he]; exact .inl ⟨rfl, .inl ⟨rfl, he⟩⟩
  · rw [if_neg he]
    simp only
    generalize toW (stW n) e (p && !lastW n) = t at *
    simp only [FitsW] at hf
    cases hm : t.2.2
    · rw [if_pos rfl]; exact .inl ⟨rfl, .inr (.inl rfl)⟩
    · rw [if_neg (by simp)]
      by_cases ho : 4294967295 < genW n + t.2.1
      · rw [if_pos ho]; exact .inl ⟨rfl, .inr (.inr rfl)⟩
      · rw [if_neg ho]
        have hp := packW_parts t.1 (genW n + t.2.1) (if e = 7 then true else if e = 1 ∨ e = 10 then false else lastW n) hf.1 hf.2.1 (by omega) (by omega)
        exact .inr ⟨rfl, by omega, by omega, rfl, hp.1, hp.2.1, hp.2.2.1, hp.2.2.2.1, hp.2.2.2.2.1, hp.2.2.2.2.2⟩

/-- from a state that is dead only a release leads on; from a free one only an allocation -/
theorem toW_dead (s e : Int) (again : Bool) (hs : s = 5 ∨ s = 6) (e0 : 1 ≤ e) (e1 : e ≤ 10) (h : (toW s e again).2.2 = true) : e = 10 ∧ (toW s e again).1 = 0 := by
  have he : e = 1 ∨ e = 2 ∨ e = 3 ∨ e = 4 ∨ e = 5 ∨ e = 6 ∨ e = 7 ∨ e = 8 ∨ e = 9 ∨ e = 10 := by omega
  rcases hs with rfl | rfl <;> rcases he with rfl | rfl | rfl | rfl | rfl | rfl | rfl | rfl | rfl | rfl <;> cases again <;> revert h <;> decide
theorem toW_free (e : Int) (again : Bool) (e0 : 1 ≤ e) (e1 : e ≤ 10) (h : (toW 0 e again).2.2 = true) : e = 1 ∧ (toW 0 e again).2.1 = 1 := by
  have he : e = 1 ∨ e = 2 ∨ e = 3 ∨ e = 4 ∨ e = 5 ∨ e = 6 ∨ e = 7 ∨ e = 8 ∨ e = 9 ∨ e = 10 := by omega
  rcases he with rfl | rfl | rfl | rfl | rfl | rfl | rfl | rfl | rfl | rfl <;> cases again <;> revert h <;> decide
/-- of a claimed one -/
theorem toW_claimed (e : Int) (again : Bool) (e0 : 1 ≤ e) (e1 : e ≤ 10) (h : (toW 4 e again).2.2 = true) :
    (e = 9 ∧ (toW 4 e again).1 = 6 ∧ (toW 4 e again).2.1 = 0) ∨ (e = 7 ∧ again = true ∧ (toW 4 e again).1 = 4 ∧ (toW 4 e again).2.1 = 0) ∨
    (again = true ∧ (toW 4 e again).2.1 = 1 ∧ ((toW 4 e again).1 = 2 ∨ (toW 4 e again).1 = 3 ∨ (toW 4 e again).1 = 5)) := by
  have he : e = 1 ∨ e = 2 ∨ e = 3 ∨ e = 4 ∨ e = 5 ∨ e = 6 ∨ e = 7 ∨ e = 8 ∨ e = 9 ∨ e = 10 := by omega
  rcases he with rfl | rfl | rfl | rfl | rfl | rfl | rfl | rfl | rfl | rfl <;> cases again <;> revert h <;> decide
theorem toW_stop (s : Int) (again : Bool) (h : (toW s 7 again).2.2 = true) : again = true := by
  cases again
  · exfalso; revert h
    simp only [toW, liveW]
    repeat' split
    all_goals simp_all
  · rfl
end Go.Proofs.YthbjaoinklhikaaGreat

namespace Go.Proofs.YthbjaoinklhikaaGreat
set_option linter.unusedVariables false
set_option linter.unusedSimpArgs false
open Go.RowKit

theorem ret_bool {a b : Bool} (h : a = b) : Ending.returned (.bool a) = .returned (.bool b) := by rw [h]
theorem ret_int {k : IntKind} {a b : Int} (h : a = b) : Ending.returned (.int k a) = .returned (.int k b) := by rw [h]

set_option maxHeartbeats 400000 in
theorem ok_calls (n : Int) (w : World) (h0 : 0 ≤ n) (h1 : n < 18446744073709551616):
    Calls Tryz.prog 81 #[.int .u64 n] w fun e w' => e = .returned (.bool (okW n)) ∧ w = w' := by
  have hk := ok_iff n h0 h1
  have hb := u64_and_mask n h0 h1
  have hw : wrap64 (bits BinOp.and IntKind.u64 n 7) = bits BinOp.and IntKind.u64 n 7 := by rw [hb]; unfold wrap64; omega
  have H := Lib.hid hk; clear hk
  clear hb
  go_enter Tryz.func81, Tryz.ntmps81
  go_wp2
  all_goals go_ret
  all_goals refine ⟨ret_bool ?_, rfl⟩
  · rename_i h
    rw [Bool.eq_iff_iff, H.out, decide_eq_true_eq]
    exact ⟨fun x => ⟨h, x⟩, fun x => x.2⟩
  · rename_i h
    rw [Bool.eq_iff_iff, H.out]
    exact ⟨fun x => by simp at x, fun x => absurd x.1 h⟩

set_option maxHeartbeats 400000 in
theorem state_calls (n : Int) (w : World) (h0 : 0 ≤ n) (h1 : n < 18446744073709551616):
    Calls Tryz.prog 32 #[.int .u64 n] w fun e w' => e = .returned (.int .i64 (stW n)) ∧ w = w' := by
  have hb := u64_and_mask n h0 h1
  have hw : wrap64 (n % 8) = n % 8 := by unfold wrap64; omega
  cases hk : okW n
  all_goals
    have H := Lib.hid hk; clear hk
    go_enter Tryz.func32, Tryz.ntmps32
    go_wp2_with (go_at_call 81; refine (ok_calls _ _ h0 h1).mono ?_; rw [H.out]; rintro e w' ⟨rfl, rfl⟩)
    go_ret
    exact ⟨ret_int (by simp [stW, H.out]), rfl⟩

set_option maxHeartbeats 400000 in
theorem gen_calls (n : Int) (w : World) (h0 : 0 ≤ n) (h1 : n < 18446744073709551616):
    Calls Tryz.prog 171 #[.int .u64 n] w fun e w' => e = .returned (.int .u64 (genW n)) ∧ w = w' := by
  cases hk : okW n
  all_goals
    have H := Lib.hid hk; clear hk
    go_enter Tryz.func171, Tryz.ntmps171
    go_wp2_with (go_at_call 81; refine (ok_calls _ _ h0 h1).mono ?_; rw [H.out]; rintro e w' ⟨rfl, rfl⟩)
    go_ret
    exact ⟨ret_int (by simp [genW, H.out]), rfl⟩

set_option maxHeartbeats 400000 in
theorem last_calls (n : Int) (w : World) (h0 : 0 ≤ n) (h1 : n < 18446744073709551616):
    Calls Tryz.prog 196 #[.int .u64 n] w fun e w' => e = .returned (.bool (lastW n)) ∧ w = w' := by
  have hb := u64_and_8 n h0 h1
  cases hk : okW n
  all_goals
    have H := Lib.hid hk; clear hk
    go_enter Tryz.func196, Tryz.ntmps196
    go_wp2_with (go_at_call 81; refine (ok_calls _ _ h0 h1).mono ?_; rw [H.out]; rintro e w' ⟨rfl, rfl⟩)
    go_ret
    exact ⟨ret_bool (by simp only [lastW, H.out]; rw [Bool.eq_iff_iff]; simp; try omega), rfl⟩

set_option maxHeartbeats 400000 in
theorem pack_calls (s g : Int) (l : Bool) (w : World) (h0 : 0 ≤ s) (h1 : s ≤ 6) (h2 : 0 ≤ g) (h3 : g ≤ 4294967295) :
    Calls Tryz.prog 197 #[.int .i64 s, .int .u64 g, .bool l] w fun e w' => e = .returned (.int .u64 (packW s g l)) ∧ w = w' := by
  have ha := or_join s g h0 (by omega) h2 h3
  have hb := or_8 s g h0 (by omega) h2 h3
  have H := Lib.hid (And.intro ha hb); clear ha hb
  go_enter Tryz.func197, Tryz.ntmps197
  go_wp2
  all_goals go_ret
  all_goals rw [H.out.1]
  · rw [H.out.2]; rename_i h; exact ⟨ret_int (by simp [packW, h]), rfl⟩
  · rename_i h; exact ⟨ret_int (by simp [packW, h]), rfl⟩

set_option maxHeartbeats 400000 in
theorem live_calls (s e : Int) (again : Bool) (w : World) :
    Calls Tryz.prog 209 #[.int .i64 s, .int .i64 e, .bool again] w fun r w' => r = .returned (.tuple #[.int .i64 (liveW s e again).1, .int .u64 (liveW s e again).2.1, .bool (liveW s e again).2.2]) ∧ w = w' := by
  go_enter Tryz.func209, Tryz.ntmps209
  go_wp2
  all_goals go_ret3
  all_goals refine ⟨?_, rfl⟩
  all_goals go_light
  all_goals simp_all [liveW]

set_option maxHeartbeats 1000000 in
theorem to_calls (s e : Int) (again : Bool) (w : World) :
    Calls Tryz.prog 195 #[.int .i64 s, .int .i64 e, .bool again] w fun r w' => r = .returned (.tuple #[.int .i64 (toW s e again).1, .int .u64 (toW s e again).2.1, .bool (toW s e again).2.2]) ∧ w = w' := by
  go_enter Tryz.func195, Tryz.ntmps195
  go_wp2_with (go_at_call 209; refine (live_calls _ _ _ _).mono ?_; rintro e w' ⟨rfl, rfl⟩)
  all_goals go_ret3
  all_goals refine ⟨?_, rfl⟩
  all_goals go_light
  all_goals simp_all [toW]

set_option maxHeartbeats 1000000 in
theorem next_calls (n e : Int) (p : Bool) (w : World) (h0 : 0 ≤ n) (h1 : n < 18446744073709551616) :
    Calls Tryz.prog 167 #[.int .u64 n, .int .i64 e, .bool p] w fun r w' => r = .returned (.tuple #[.int .u64 (nextW n e p).1, .int .i64 (nextW n e p).2]) ∧ w = w' := by
  cases hk : okW n
  · have H := Lib.hid hk; clear hk
    go_enter Tryz.func167, Tryz.ntmps167
    go_wp2_with (go_at_call 81; refine (ok_calls _ _ h0 h1).mono ?_; rw [H.out]; rintro e w' ⟨rfl, rfl⟩)
    go_ret2
    exact ⟨by simp [nextW, H.out], rfl⟩
  · by_cases he : e < 1 ∨ 10 < e
    · have hfin : nextW n e p = (n, 1) := by simp [nextW, hk, he]
      have H := Lib.hid hk; clear hk
      have HF := Lib.hid hfin; clear hfin
      by_cases he1 : e < 1
      · clear he
        go_enter Tryz.func167, Tryz.ntmps167
        go_wp2_with (go_at_call 81; refine (ok_calls _ _ h0 h1).mono ?_; rw [H.out]; rintro e w' ⟨rfl, rfl⟩)
        go_ret2
        exact ⟨by rw [HF.out]; rfl, rfl⟩
      · have he2 : 10 < e := by omega
        clear he
        go_enter Tryz.func167, Tryz.ntmps167
        go_wp2_with (go_at_call 81; refine (ok_calls _ _ h0 h1).mono ?_; rw [H.out]; rintro e w' ⟨rfl, rfl⟩)
        go_ret2
        exact ⟨by rw [HF.out]; rfl, rfl⟩
    · have hb := ok_bd n h0 hk
      have hf := toW_fits (stW n) e (p && !lastW n) hb.1 hb.2.1
      have hT := to_calls (stW n) e (p && !lastW n)
      have hfin : nextW n e p = nextW n e p := rfl
      conv at hfin => rhs; unfold nextW
      rw [hk, if_neg (by simp), if_neg he] at hfin
      generalize toW (stW n) e (p && !lastW n) = t at hT hf hfin
      obtain ⟨s', g', m⟩ := t
      simp only [FitsW] at hf hT hfin
      generalize hg : genW n = g at *
      generalize hs : stW n = s at *
      generalize hl : lastW n = l at *
      have H := Lib.hid hk; clear hk
      have HF := Lib.hid hfin; clear hfin
      have HT := Lib.hid hT; clear hT
      have HG := Lib.hid hg; clear hg
      have HS := Lib.hid hs; clear hs
      have HL := Lib.hid hl; clear hl
      obtain ⟨b1, b2, b3, b4⟩ := hb
      obtain ⟨c1, c2, c3, c4⟩ := hf
      have he1 : ¬ e < 1 := by omega
      have he2 : ¬ 10 < e := by omega
      clear he
      cases p
      all_goals
        go_enter Tryz.func167, Tryz.ntmps167
        go_wp2_with (first
          | (go_at_call 81; refine (ok_calls _ _ h0 h1).mono ?_; rw [H.out]; rintro e w' ⟨rfl, rfl⟩)
          | (go_at_call 32; refine (state_calls _ _ h0 h1).mono ?_; rw [HS.out]; rintro e w' ⟨rfl, rfl⟩)
          | (go_at_call 171; refine (gen_calls _ _ h0 h1).mono ?_; rw [HG.out]; rintro e w' ⟨rfl, rfl⟩)
          | (go_at_call 196; refine (last_calls _ _ h0 h1).mono ?_; rw [HL.out]; rintro e w' ⟨rfl, rfl⟩)
          | (go_at_call 195; refine (HT.out _).mono ?_; rintro e w' ⟨rfl, rfl⟩)
          | (go_at_call 197; refine (pack_calls _ _ _ _ (by omega) (by omega) (by omega) (by omega)).mono ?_; rintro e w' ⟨rfl, rfl⟩))
        all_goals go_ret2
        all_goals refine ⟨?_, rfl⟩
        all_goals rw [HF.out]
        all_goals clear H HF HT HG HS HL
        all_goals go_light
        all_goals simp_all
        all_goals (rw [if_neg (by omega)]; simp)
end Go.Proofs.YthbjaoinklhikaaGreat

namespace Go.Proofs.YthbjaoinklhikaaGreat
set_option linter.unusedVariables false
set_option linter.unusedSimpArgs false
open Go.RowKit

/-- at a place among some cells lies a Cell that holds a value; its counts are some numbers -/
def cellAt (C : Array Value) (o : Nat) (v : Value) : Prop :=
  C[o]? = some v ∧ ∃ l t u : Int, C[o + 1]? = some (.int .i64 l) ∧ C[o + 2]? = some (.int .i64 t) ∧ C[o + 3]? = some (.int .i64 u)
/-- that Cell alone has turned: it holds v -/
structure Recell (C : Array Value) (o : Nat) (v : Value) (C' : Array Value) : Prop where
  size : C'.size = C.size
  other : ∀ i, (i < o ∨ o + 4 ≤ i) → C'[i]? = C[i]?
  cell : cellAt C' o v
/-- what a method of a Cell hands back, and leaves -/
def CellPost (b : Nat) (T : TypeId) (C : Array Value) (o : Nat) (v r : Value) (e : Ending) (h' : PH) : Prop :=
  e = .returned r ∧ ∃ C', h' = [pt b T C'] ∧ Recell C o v C'

theorem Recell.trans {A B C : Array Value} {o : Nat} {u v : Value} (h : Recell A o u B) (k : Recell B o v C) : Recell A o v C :=
  ⟨k.size.trans h.size, fun i hi => (k.other i hi).trans (h.other i hi), k.cell⟩
theorem set_get {C : Array Value} {i j : Nat} {v : Value} : (C.setIfInBounds i v)[j]? = if i = j then (if i < C.size then some v else none) else C[j]? := by
  rw [Array.getElem?_setIfInBounds]
theorem lt_of_some {C : Array Value} {i : Nat} {v : Value} (h : C[i]? = some v) : i < C.size := (Array.getElem?_eq_some_iff.1 h).1
theorem get_set_ne {C : Array Value} {i j : Nat} {v : Value} (h : i ≠ j) : (C.setIfInBounds i v)[j]? = C[j]? := by rw [set_get, if_neg h]
theorem get_set_eq {C : Array Value} {i : Nat} {u v : Value} (h : C[i]? = some u) : (C.setIfInBounds i v)[i]? = some v := by rw [set_get, if_pos rfl, if_pos (lt_of_some h)]
section
variable {C : Array Value} {o : Nat} {v v' : Value} {l t u : Int}
theorem Recell.refl (h : cellAt C o v) : Recell C o v C := ⟨rfl, fun _ _ => rfl, h⟩
theorem recell_loads (h0 : C[o]? = some v) (h1 : C[o + 1]? = some (.int .i64 l)) (h2 : C[o + 2]? = some (.int .i64 t)) (h3 : C[o + 3]? = some (.int .i64 u)) {x : Int} :
    Recell C o v (C.setIfInBounds (o + 1) (.int .i64 x)) :=
  ⟨by simp, fun i hi => get_set_ne (by omega), (get_set_ne (by omega)).trans h0, x, t, u, get_set_eq h1, (get_set_ne (by omega)).trans h2, (get_set_ne (by omega)).trans h3⟩
theorem recell_tries (h0 : C[o]? = some v) (h1 : C[o + 1]? = some (.int .i64 l)) (h2 : C[o + 2]? = some (.int .i64 t)) (h3 : C[o + 3]? = some (.int .i64 u)) {x : Int} :
    Recell C o v (C.setIfInBounds (o + 2) (.int .i64 x)) :=
  ⟨by simp, fun i hi => get_set_ne (by omega), (get_set_ne (by omega)).trans h0, l, x, u, (get_set_ne (by omega)).trans h1, get_set_eq h2, (get_set_ne (by omega)).trans h3⟩
theorem recell_turned (h0 : C[o]? = some v) (h1 : C[o + 1]? = some (.int .i64 l)) (h2 : C[o + 2]? = some (.int .i64 t)) (h3 : C[o + 3]? = some (.int .i64 u)) {x : Int} :
    Recell C o v (C.setIfInBounds (o + 3) (.int .i64 x)) :=
  ⟨by simp, fun i hi => get_set_ne (by omega), (get_set_ne (by omega)).trans h0, l, t, x, (get_set_ne (by omega)).trans h1, (get_set_ne (by omega)).trans h2, get_set_eq h3⟩
theorem recell_value (hc : cellAt C o v) : Recell C o v' (C.setIfInBounds o v') := by
  obtain ⟨h0, l, t, u, h1, h2, h3⟩ := hc
  exact ⟨by simp, fun i hi => get_set_ne (by omega), get_set_eq h0, l, t, u, (get_set_ne (by omega)).trans h1, (get_set_ne (by omega)).trans h2, (get_set_ne (by omega)).trans h3⟩
theorem Recell.turned {A : Array Value} (h : Recell A o v C) {x : Int} : Recell A o v (C.setIfInBounds (o + 3) (.int .i64 x)) := by
  obtain ⟨h0, l, t, u, h1, h2, h3⟩ := h.cell
  exact h.trans (recell_turned h0 h1 h2 h3)
theorem recell_swap (h0 : C[o]? = some v) (h1 : C[o + 1]? = some (.int .i64 l)) (h2 : C[o + 2]? = some (.int .i64 t)) (h3 : C[o + 3]? = some (.int .i64 u)) {x y : Int} :
    Recell C o v' (((C.setIfInBounds (o + 2) (.int .i64 x)).setIfInBounds o v').setIfInBounds (o + 3) (.int .i64 y)) :=
  ((recell_tries h0 h1 h2 h3).trans (recell_value (recell_tries h0 h1 h2 h3).cell)).turned
theorem Recell.cellOther {C' : Array Value} (h : Recell C o v C') {o' : Nat} {x : Value} (hc : cellAt C o' x) (hd : o' + 4 ≤ o ∨ o + 4 ≤ o') : cellAt C' o' x := by
  obtain ⟨h0, l, t, u, h1, h2, h3⟩ := hc
  exact ⟨(h.other _ (by omega)).trans h0, l, t, u, (h.other _ (by omega)).trans h1, (h.other _ (by omega)).trans h2, (h.other _ (by omega)).trans h3⟩
end
end Go.Proofs.YthbjaoinklhikaaGreat
