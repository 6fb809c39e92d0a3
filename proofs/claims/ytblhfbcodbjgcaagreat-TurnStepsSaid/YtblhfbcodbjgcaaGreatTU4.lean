import Derived.Test.YtblhfbcodbjgcaaGreatTU2
import Derived.Test.YtblhfbcodbjgcaaGreatTU3
namespace Go.Proofs.YtblhfbcodbjgcaaGreat
set_option linter.unusedVariables false
set_option linter.unusedSimpArgs false
open Go.RowKit Go.Shelf
inductive St (M A Y : Type) where
  | nil
  | at (y : Option Y) (m : M)
  | row1 (a : A)
  | row2 (a b : A)
  | thn (s : St M A Y) (m : M)
section
variable {M A Y α : Type}
def St.isNil : St M A Y → Bool
  | .nil => true
  | _ => false
def thenSt (runM : M → α → St M A Y × α) (s : St M A Y) (m : M) (x : α) : St M A Y × α :=
  match s with
  | .nil => runM m x
  | s => (.thn s m, x)
def St.run (runM : M → α → St M A Y × α) (runA : A → α → α) : St M A Y → α → St M A Y × α
  | .nil, x => (.nil, x)
  | .at _ m, x => runM m x
  | .row1 a, x => (.nil, runA a x)
  | .row2 a b, x => (.row1 b, runA a x)
  | .thn s m, x => thenSt runM (s.run runM runA x).1 m (s.run runM runA x).2
def St.pre (runM : M → α → St M A Y × α) (runA : A → α → α) (preM : M → α → Prop) (preA : A → α → Prop) : St M A Y → α → Prop
  | .nil, _ => True
  | .at _ m, x => preM m x
  | .row1 a, x => preA a x
  | .row2 a _, x => preA a x
  | .thn s m, x => s.pre runM runA preM preA x ∧ ((s.run runM runA x).1.isNil = true → preM m (s.run runM runA x).2)
def St.may (mayY : Y → α → Bool) : St M A Y → α → Bool
  | .nil, _ => false
  | .at none _, _ => true
  | .at (some y) _, x => mayY y x
  | .row1 _, _ => true
  | .row2 _ _, _ => true
  | .thn s _, x => s.may mayY x
def St.preY (preY : Y → α → Prop) : St M A Y → α → Prop
  | .at (some y) _, x => preY y x
  | .thn s _, x => s.preY preY x
  | _, _ => True
end
theorem TG.sum {h H H' : GH} {w w' : World} (T : TG h w H w')
    (hs : ∀ n : List Blk → Nat, (∀ x y, n (x ++ y) = n x + n y) → n [] = 0 → (∀ a b l, n (a :: b :: l) = n [a] + n (b :: l)) → (∀ a x y, n (a :: (x ++ y)) = n [a] + (n x + n y)) → n H.flatten = n H'.flatten) : TG h w H' w' := by
  classical
  refine T.re (List.perm_iff_count.2 fun a => hs (fun l => l.count a) (fun x y => List.count_append) rfl (fun b d l => ?_) (fun b x y => ?_))
  · show List.count a ([b] ++ (d :: l)) = _
    rw [List.count_append]
  · show List.count a ([b] ++ (x ++ y)) = _
    rw [List.count_append, List.count_append]
def FnG (P : Program) (v : Value) (gs : GH) (R : Ending → GH → Prop) : Prop :=
  ∃ fn first caps, v = .func (.func fn) first caps ∧ (∀ args w, (callFunc fn args).run P w = .ok (.enter fn args) w) ∧ DoesG P fn (first ++ caps) gs R
theorem FnG.mono {P : Program} {v : Value} {gs : GH} {R R' : Ending → GH → Prop} (h : FnG P v gs R) (hr : ∀ e gs', R e gs' → R' e gs') : FnG P v gs R' := by
  obtain ⟨fn, first, caps, h1, h2, h3⟩ := h
  exact ⟨fn, first, caps, h1, h2, h3.mono hr⟩
theorem fun_nil_M (w : World) : (binOp .eql 146 .nilFunc .nilFunc).run Tryz.prog w = .ok (.bool true) w := by kernel_rfl
theorem fun_is_M (f : Fn) (a b : Array Value) (w : World) : (binOp .eql 146 (.func f a b) .nilFunc).run Tryz.prog w = .ok (.bool false) w := by kernel_rfl
theorem fun_nil_Y (w : World) : (binOp .eql 24 .nilFunc .nilFunc).run Tryz.prog w = .ok (.bool true) w := by kernel_rfl
theorem fun_is_Y (f : Fn) (a b : Array Value) (w : World) : (binOp .eql 24 (.func f a b) .nilFunc).run Tryz.prog w = .ok (.bool false) w := by kernel_rfl
theorem fun_is_A (f : Fn) (a b : Array Value) (w : World) : (binOp .neq 1 (.func f a b) .nilFunc).run Tryz.prog w = .ok (.bool true) w := by kernel_rfl
structure Cli where
  M : Type
  A : Type
  Y : Type
  α : Type
  rep : α → List Blk → List Blk → Prop
  VM : M → Value → List Blk → Prop
  VA : A → Value → List Blk → Prop
  VY : Y → Value → List Blk → Prop
  runM : M → α → St M A Y × α
  runA : A → α → α
  mayY : Y → α → Bool
  preM : M → α → Prop
  preA : A → α → Prop
  preY : Y → α → Prop
namespace Cli
variable (c : Cli)
abbrev S : Type := St c.M c.A c.Y
def run (s : c.S) (x : c.α) : c.S × c.α := St.run c.runM c.runA s x
def pre (s : c.S) (x : c.α) : Prop := St.pre c.runM c.runA c.preM c.preA s x
def thn (s : c.S) (m : c.M) (x : c.α) : c.S × c.α := thenSt c.runM s m x
def SV : c.S → Value → Value → List Blk → Prop
  | .nil, m, d, g => m = .nilFunc ∧ d = .nilFunc ∧ g = []
  | .at none f, m, d, g => m = .nilFunc ∧ c.VM f d g
  | .at (some y) f, m, d, g => ∃ g1 g2, c.VY y m g1 ∧ c.VM f d g2 ∧ g = g1 ++ g2
  | .row1 a, m, d, g => m = .nilFunc ∧ ∃ bf bl bi b o D va ga, d = .func (.func 188) #[] #[ptr' bf, ptr' bl, ptr' bi] ∧ c.VA a va ga ∧ D[o]? = some va ∧
      g = [cl bf 1 #[va], cl bl 303 #[.slice (some ⟨b, o, none⟩) 1 1], cl bi 3 #[.int .i64 0], cl b 1 D] ++ ga
  | .row2 a a', m, d, g => m = .nilFunc ∧ ∃ bf bl bi b va va' ga ga', d = .func (.func 188) #[] #[ptr' bf, ptr' bl, ptr' bi] ∧ c.VA a va ga ∧ c.VA a' va' ga' ∧
      g = [cl bf 1 #[va], cl bl 303 #[.slice (some ⟨b, 0, none⟩) 2 2], cl bi 3 #[.int .i64 0], cl b 1 #[va, va']] ++ ga ++ ga'
  | .thn s f, m, d, g => ∃ bs br ds vm gs gm, d = .func (.func 226) #[] #[ptr' bs, ptr' br] ∧ s.isNil = false ∧ SV s m ds gs ∧ c.VM f vm gm ∧
      g = [cl bs 148 #[m, ds], cl br 146 #[vm]] ++ gs ++ gm
structure Vals : Prop where
  vm : ∀ {f : c.M} {v : Value} {g : List Blk}, c.VM f v g → ∃ fn first caps, v = .func (.func fn) first caps
  va : ∀ {f : c.A} {v : Value} {g : List Blk}, c.VA f v g → ∃ fn first caps, v = .func (.func fn) first caps
  vy : ∀ {f : c.Y} {v : Value} {g : List Blk}, c.VY f v g → ∃ fn first caps, v = .func (.func fn) first caps
structure Ok : Prop where
  m : ∀ {f : c.M} {v : Value} {g gK gF : List Blk} {x : c.α}, c.VM f v g → c.rep x gK gF → c.preM f x →
    FnG Tryz.prog v [g, gK, gF] fun e gs => ∃ m d g' gK' gF', e = .returned (.agg #[m, d]) ∧ c.SV (c.runM f x).1 m d g' ∧ c.rep (c.runM f x).2 gK' gF' ∧ gs = [g', gK', gF']
  a : ∀ {f : c.A} {v : Value} {g gK gF : List Blk} {x : c.α}, c.VA f v g → c.rep x gK gF → c.preA f x →
    FnG Tryz.prog v [g, gK, gF] fun e gs => ∃ gK' gF', e = .returned (.tuple #[]) ∧ c.rep (c.runA f x) gK' gF' ∧ gs = [[], gK', gF']
  y : ∀ {f : c.Y} {v : Value} {g gK gF : List Blk} {x : c.α}, c.VY f v g → c.rep x gK gF → c.preY f x →
    FnG Tryz.prog v [g, gK, gF] fun e gs => ∃ gK' gF', e = .returned (.bool (c.mayY f x)) ∧ c.rep x gK' gF' ∧ gs = [g, gK', gF']
  v : c.Vals
variable {c}
theorem SV.nil {m d : Value} {g : List Blk} (h : c.SV .nil m d g) : m = .nilFunc ∧ d = .nilFunc ∧ g = [] := h
theorem Ok.vm (h : c.Ok) {f : c.M} {v : Value} {g : List Blk} (hv : c.VM f v g) : ∃ fn first caps, v = .func (.func fn) first caps := h.v.vm hv
theorem Ok.va (h : c.Ok) {f : c.A} {v : Value} {g : List Blk} (hv : c.VA f v g) : ∃ fn first caps, v = .func (.func fn) first caps := h.v.va hv
theorem Ok.vy (h : c.Ok) {f : c.Y} {v : Value} {g : List Blk} (hv : c.VY f v g) : ∃ fn first caps, v = .func (.func fn) first caps := h.v.vy hv
theorem Vals.do_ (h : c.Vals) {s : c.S} {m d : Value} {g : List Blk} (hs : s.isNil = false) (v : c.SV s m d g) : ∃ fn first caps, d = .func (.func fn) first caps := by
  cases s with
  | nil => cases hs
  | «at» y f =>
    cases y with
    | none => exact h.vm v.2
    | some y => obtain ⟨g1, g2, _, h2, _⟩ := v; exact h.vm h2
  | row1 a => obtain ⟨_, bf, bl, bi, b, o, D, va, ga, rfl, _⟩ := v; exact ⟨_, _, _, rfl⟩
  | row2 a a' => obtain ⟨_, bf, bl, bi, b, va, va', ga, ga', rfl, _⟩ := v; exact ⟨_, _, _, rfl⟩
  | thn s f => obtain ⟨bs, br, ds, vm, gs, gm, rfl, _⟩ := v; exact ⟨_, _, _, rfl⟩
def isFv (v : Value) : Prop := v = .nilFunc ∨ ∃ fn first caps, v = .func (.func fn) first caps
theorem store_fv {P : Program} {v u : Value} (hv : isFv v) {a : Addr} {w : World} (hc : w.cell? a = some u) (hf : w.frozen? a = false) : (store a v).run P w = .ok () (w.setCell a v) := by
  rcases hv with rfl | ⟨fn, x, y, rfl⟩ <;> (rw [run_store P w a _ .plain rfl]; simp [stored, hc, hf])
theorem store_fv2 {P : Program} {v v' u u' : Value} (hv : isFv v) (hv' : isFv v') {b : Nat} {w : World} (hc : w.cell? ⟨b, 0, none⟩ = some u) (hf : w.frozen? ⟨b, 0, none⟩ = false) (hc' : w.cell? ⟨b, 1, none⟩ = some u') (hf' : w.frozen? ⟨b, 1, none⟩ = false) :
    (store ⟨b, 0, none⟩ v).run P w = .ok () (w.setCell ⟨b, 0, none⟩ v) ∧ (store ⟨b, 1, none⟩ v').run P (w.setCell ⟨b, 0, none⟩ v) = .ok () ((w.setCell ⟨b, 0, none⟩ v).setCell ⟨b, 1, none⟩ v') :=
  have e1 : (w.setCell ⟨b, 0, none⟩ v).cell? ⟨b, 1, none⟩ = some u' := by simp [go_sem, hc']
  have e2 : (w.setCell ⟨b, 0, none⟩ v).frozen? ⟨b, 1, none⟩ = false := by simp [go_sem, hf']
  ⟨store_fv hv hc hf, store_fv hv' e1 e2⟩
theorem Vals.vals (h : c.Vals) : ∀ {s : c.S} {m d : Value} {g : List Blk}, c.SV s m d g → isFv m ∧ isFv d
  | .nil, _, _, _, v => ⟨.inl v.1, .inl v.2.1⟩
  | .at none f, _, _, _, v => ⟨.inl v.1, .inr (h.vm v.2)⟩
  | .at (some y) f, _, _, _, v => by obtain ⟨g1, g2, h1, h2, _⟩ := v; exact ⟨.inr (h.vy h1), .inr (h.vm h2)⟩
  | .row1 a, _, _, _, v => by obtain ⟨h0, bf, bl, bi, b, o, D, va, ga, rfl, _⟩ := v; exact ⟨.inl h0, .inr ⟨_, _, _, rfl⟩⟩
  | .row2 a a', _, _, _, v => by obtain ⟨h0, bf, bl, bi, b, va, va', ga, ga', rfl, _⟩ := v; exact ⟨.inl h0, .inr ⟨_, _, _, rfl⟩⟩
  | .thn s f, _, _, _, v => by
    obtain ⟨bs, br, ds, vm, gs, gm, rfl, _, hv, _⟩ := v
    exact ⟨(Vals.vals h hv).1, .inr ⟨_, _, _, rfl⟩⟩
theorem Ok.do_ (h : c.Ok) {s : c.S} {m d : Value} {g : List Blk} (hs : s.isNil = false) (v : c.SV s m d g) : ∃ fn first caps, d = .func (.func fn) first caps := h.v.do_ hs v
theorem Ok.vals (h : c.Ok) {s : c.S} {m d : Value} {g : List Blk} (v : c.SV s m d g) : isFv m ∧ isFv d := h.v.vals v
set_option maxRecDepth 100000 in
theorem prog_then_cons (h : c.Vals) {s : c.S} {f : c.M} {m d v : Value} {g gm : List Blk} (hn : s.isNil = false) (hs : c.SV s m d g) (hm : c.VM f v gm) :
    DoesG Tryz.prog 191 #[.agg #[m, d], v] [g, gm] fun e gs => ∃ m' d' g', e = .returned (.agg #[m', d']) ∧ c.SV (.thn s f) m' d' g' ∧ gs = [g'] := by
  obtain ⟨fn, first, caps, rfl⟩ := h.do_ hn hs
  intro w hw
  have T0 := TG.refl hw
  have HT := Lib.hid T0
  clear hw T0
  have HS := Lib.hid hs
  have HM := Lib.hid hm
  have HN := Lib.hid hn
  obtain ⟨v1, _⟩ := h.vals hs
  obtain ⟨fn0, first0, caps0, rfl⟩ := h.vm hm
  clear hm hs h hn
  have q1 := fun w => fun_is_M (.func fn) first caps w
  rcases v1 with rfl | ⟨fn1, first1, caps1, rfl⟩
  all_goals
    go_enter Tryz.func191, Tryz.ntmps191
    go_wp2
    exact bodyPost_ret (v := .agg #[_, _]) (by simp [results, Tryz.results191, go_sem]) rfl ⟨_, ⟨_, _, _, rfl, ⟨w.heap.size, w.heap.size + 1, _, _, g, gm, rfl, HN.out, HS.out, HM.out, rfl⟩, rfl⟩, (((HT.out.alloc (k := w.heap.size) rfl _ _).alloc (k := w.heap.size + 1) (by simp) _ _).alloc0 _).sum (fun n ha h0 h1 h2 => by simp only [SU, ha, h0, h1, h2] <;> omega)⟩
set_option maxRecDepth 100000 in
theorem prog_then (h : c.Ok) {s : c.S} {f : c.M} {m d v : Value} {g gm gK gF : List Blk} {x : c.α} (hs : c.SV s m d g) (hm : c.VM f v gm) (hx : c.rep x gK gF) (hp : s.isNil = true → c.preM f x) :
    DoesG Tryz.prog 191 #[.agg #[m, d], v] [g, gm, gK, gF] fun e gs => ∃ m' d' g' gK' gF', e = .returned (.agg #[m', d']) ∧ c.SV (c.thn s f x).1 m' d' g' ∧ c.rep (c.thn s f x).2 gK' gF' ∧ gs = [g', gK', gF'] := by
  cases hn : s.isNil with
  | true =>
    have : s = .nil := by cases s <;> first | rfl | cases hn
    subst this
    obtain ⟨rfl, rfl, rfl⟩ := SV.nil hs
    obtain ⟨fn, first, caps, rfl, eg, hd⟩ := h.m hm hx (hp rfl)
    intro w hw
    have T0 := TG.refl hw
    have HT := Lib.hid T0
    clear hw T0
    have HD := Lib.hid hd
    clear hd hm hx hp hs
    have q1 := fun w => fun_nil_M w
    go_enter Tryz.func191, Tryz.ntmps191
    go_wp2_with fail
    refine (DoesG.use (HD.out) (((HT.out.alloc (k := w.heap.size) rfl _ _).alloc (k := w.heap.size + 1) (by simp) _ _).alloc (k := w.heap.size + 1 + 1) (by simp) _ _) [1, 2, 3] rfl rfl).mono ?_
    rintro e w1 ⟨gs, ⟨m', d', g', gK', gF', rfl, hs', hx', rfl⟩, Ta⟩
    simp only [putG, List.set_cons_zero, List.set_cons_succ, List.cons_append, List.nil_append, List.append_nil] at Ta
    have c0 := Ta.cell 6 0 rfl 0
    have c1 := Ta.cell 6 0 rfl 1
    have f0 := Ta.free 6 0 rfl 0
    have f1 := Ta.free 6 0 rfl 1
    have HT := Lib.hid Ta
    have HS := Lib.hid hs'
    have HX := Lib.hid hx'
    obtain ⟨v1, v2⟩ := h.vals hs'
    clear Ta hs' hx' h
    rcases v1 with rfl | ⟨fn1, first1, caps1, rfl⟩ <;> rcases v2 with rfl | ⟨fn2, first2, caps2, rfl⟩
    all_goals
      go_wp2
      exact bodyPost_ret (v := .agg #[_, _]) (by simp [results, Tryz.results191, go_sem, c0, c1]) rfl ⟨_, ⟨_, _, g', gK', gF', rfl, HS.out, HX.out, rfl⟩, ((HT.out.set 6 0 rfl 0 _).set 6 0 rfl 1 _).pick [1, 2, 3] rfl⟩
  | false =>
    have e1 : c.thn s f x = (.thn s f, x) := by cases s <;> first | rfl | cases hn
    rw [e1]
    intro w hw
    refine (DoesG.use (prog_then_cons h.v hn hs hm) (TG.refl hw) [0, 1] rfl rfl).mono ?_
    rintro e w' ⟨gs, ⟨m', d', g', he, hs', rfl⟩, T⟩
    exact ⟨_, ⟨m', d', g', gK, gF, he, hs', hx, rfl⟩, T.pick [0, 2, 3] rfl⟩
def DoR (c : Cli) (s : c.S) (x : c.α) (e : Ending) (gs : GH) : Prop :=
  ∃ m d g gK gF, e = .returned (.agg #[m, d]) ∧ c.SV (c.run s x).1 m d g ∧ c.rep (c.run s x).2 gK gF ∧ gs = [g, gK, gF]
set_option maxRecDepth 100000 in
theorem row_nil (a : Option Addr) (n : Nat) : DoesG Tryz.prog 164 #[.slice a 0 n] [] fun e gs => e = .returned (.agg #[.nilFunc, .nilFunc]) ∧ gs = [] := by
  intro w hw
  have T0 := TG.refl hw
  have HT := Lib.hid T0
  clear hw T0
  go_enter Tryz.func164, Tryz.ntmps164
  go_wp2
  have T1 := (HT.out.alloc (k := w.heap.size) rfl 303 #[.slice a 0 n]).alloc (k := w.heap.size + 1) (by simp) 148 #[.nilFunc, .nilFunc]
  go_loopw [7] (fun i wr => i = .int .i64 0 ∧ TG [] w [[cl w.heap.size 303 #[.slice a 0 n]], [cl (w.heap.size + 1) 148 #[.nilFunc, .nilFunc]]] wr) (fun _ _ => 0)
  case atStart => exact ⟨rfl, T1⟩
  case round =>
    obtain ⟨rfl, T⟩ := hrel
    have c0 := T.cell 1 0 rfl 0
    have c1 := T.cell 1 0 rfl 1
    have f0 := T.free 1 0 rfl 0
    have f1 := T.free 1 0 rfl 1
    have HT := Lib.hid T
    clear T T1
    go_wp2
    exact bodyPost_ret (v := .agg #[.nilFunc, .nilFunc]) (by simp [results, Tryz.results164, go_sem, c0, c1]) rfl ⟨_, ⟨rfl, rfl⟩, ((HT.out.set 1 0 rfl 0 _).set 1 0 rfl 1 _).pick [] rfl⟩
set_option maxRecDepth 100000 in
theorem row_1 {b o : Nat} {D : Array Value} {fn : FuncId} {first caps : Array Value} (hD : D[o]? = some (.func (.func fn) first caps)) (n : Nat) (h : n = 1 ∨ n = 2) :
    DoesG Tryz.prog 164 #[.slice (some ⟨b, o, none⟩) n n] [[cl b 1 D]] fun e gs => ∃ bf bl bi, e = .returned (.agg #[.nilFunc, .func (.func 188) #[] #[ptr' bf, ptr' bl, ptr' bi]]) ∧
      gs = [[cl b 1 D], [cl bf 1 #[.func (.func fn) first caps]], [cl bl 303 #[.slice (some ⟨b, o, none⟩) n n]], [cl bi 3 #[.int .i64 0]]] := by
  intro w hw
  have T0 := TG.refl hw
  have HT := Lib.hid T0
  clear hw T0
  have hn : 0 < n := by omega
  have q := fun w => fun_is_A (.func fn) first caps w
  clear h
  go_enter Tryz.func164, Tryz.ntmps164
  go_wp2
  have T1 := (HT.out.alloc (k := w.heap.size) rfl 303 #[.slice (some ⟨b, o, none⟩) n n]).alloc (k := w.heap.size + 1) (by simp) 148 #[.nilFunc, .nilFunc]
  go_loopw [7] (fun i wr => i = .int .i64 0 ∧ TG [[cl b 1 D]] w [[cl b 1 D], [cl w.heap.size 303 #[.slice (some ⟨b, o, none⟩) n n]], [cl (w.heap.size + 1) 148 #[.nilFunc, .nilFunc]]] wr) (fun _ _ => 0)
  case atStart => exact ⟨rfl, T1⟩
  case round =>
    obtain ⟨rfl, T⟩ := hrel
    clear T1
    obtain ⟨rb, hrb⟩ : ∃ rb, rb = w.heap.size + 1 := ⟨_, rfl⟩
    obtain ⟨lb, hlb⟩ : ∃ lb, lb = w.heap.size := ⟨_, rfl⟩
    rw [← hrb, ← hlb] at T
    rw [← hrb, ← hlb]
    clear hrb hlb
    have e0 := (T.cell 0 0 rfl o).trans hD
    have c0 := T.cell 2 0 rfl 0
    have c1 := T.cell 2 0 rfl 1
    have f0 := T.free 2 0 rfl 0
    have f1 := T.free 2 0 rfl 1
    have lt := T.lt 2 0 rfl
    simp only [] at lt
    have HT := Lib.hid T
    clear T hD
    go_wp2
    exact bodyPost_ret (v := .agg #[.nilFunc, .func (.func 188) #[] #[ptr' (wr.heap.size + 1), ptr' lb, ptr' wr.heap.size]]) (by simp [results, Tryz.results164, go_sem, c0, c1, lt]) rfl ⟨_, ⟨_, _, _, rfl, rfl⟩, ((((HT.out.set 2 0 rfl 0 _).set 2 0 rfl 1 _).alloc (k := wr.heap.size) (by simp) _ _).alloc (k := wr.heap.size + 1) (by simp) _ _).pick [0, 4, 1, 3] rfl⟩
theorem prog_row1 (h : c.Ok) {a : c.A} {m d : Value} {g gK gF : List Blk} {x : c.α} (hs : c.SV (.row1 a) m d g) (hx : c.rep x gK gF) (hp : c.preA a x) : FnG Tryz.prog d [g, gK, gF] (DoR c (.row1 a) x) := by
  obtain ⟨rfl, bf, bl, bi, b, o, D, va, ga, rfl, hva, hD, rfl⟩ := hs
  obtain ⟨fn, first, caps, rfl, eg, hd⟩ := h.a hva hx hp
  refine ⟨_, _, _, rfl, enters_of Tryz.func188 (by kernel_rfl) rfl, ?_⟩
  intro w hw
  have T0 := TG.refl hw
  have HT := Lib.hid T0
  clear hw T0
  have HT := Lib.hid (HT.out.sum (H' := [[cl bf 1 #[.func (.func fn) first caps]], [cl bl 303 #[.slice (some ⟨b, o, none⟩) 1 1]], [cl bi 3 #[.int .i64 0]], [cl b 1 D], ga, gK, gF]) (fun n ha h0 h1 h2 => by simp only [SU, ha, h0, h1, h2] <;> omega))
  have c0 := HT.out.cell 0 0 rfl 0
  have lt0 := HT.out.lt 0 0 rfl
  simp only [] at lt0
  have HD := Lib.hid hd
  clear hd hx hp hva h
  simp only [List.getElem?_toArray, List.getElem?_cons_zero] at c0
  go_enter Tryz.func188, Tryz.ntmps188
  go_wp2_with fail
  refine (DoesG.use (HD.out) (HT.out.alloc (k := w.heap.size) rfl _ _) [4, 5, 6] rfl rfl).mono ?_
  rintro e w1 ⟨gs, ⟨gK', gF', rfl, hx', rfl⟩, Ta⟩
  simp only [PU] at Ta
  have c1 := Ta.cell 1 0 rfl 0
  have c2 := Ta.cell 2 0 rfl 0
  have HX := Lib.hid hx'
  clear hx' c0
  simp only [List.getElem?_toArray, List.getElem?_cons_zero] at c1 c2
  have HT := Lib.hid Ta
  clear Ta
  go_wp2_with fail
  refine (DoesG.use (row_nil _ _) (HT.out) [] rfl rfl).mono ?_
  rintro e w1 ⟨gs, ⟨rfl, rfl⟩, Ta⟩
  simp only [PU] at Ta
  have e0 := Ta.cell 7 0 rfl 0
  have e1 := Ta.cell 7 0 rfl 1
  have f0 := Ta.free 7 0 rfl 0
  have f1 := Ta.free 7 0 rfl 1
  clear c1 c2
  have HT := Lib.hid Ta
  clear Ta
  go_wp2
  exact bodyPost_ret (v := .agg #[.nilFunc, .nilFunc]) (by simp [results, Tryz.results188, go_sem, e0, e1]) rfl ⟨_, ⟨_, _, [], gK', gF', rfl, ⟨rfl, rfl, rfl⟩, HX.out, rfl⟩, ((HT.out.set 7 0 rfl 0 _).set 7 0 rfl 1 _).pick [4, 5, 6] rfl⟩
theorem prog_row2 (h : c.Ok) {a a' : c.A} {m d : Value} {g gK gF : List Blk} {x : c.α} (hs : c.SV (.row2 a a') m d g) (hx : c.rep x gK gF) (hp : c.preA a x) : FnG Tryz.prog d [g, gK, gF] (DoR c (.row2 a a') x) := by
  obtain ⟨rfl, bf, bl, bi, b, va, va', ga, ga', rfl, hva, hva', rfl⟩ := hs
  obtain ⟨fn, first, caps, rfl, eg, hd⟩ := h.a hva hx hp
  obtain ⟨fn', first', caps', rfl⟩ := h.va hva'
  refine ⟨_, _, _, rfl, enters_of Tryz.func188 (by kernel_rfl) rfl, ?_⟩
  intro w hw
  have T0 := TG.refl hw
  have HT := Lib.hid T0
  clear hw T0
  have HT := Lib.hid (HT.out.sum (H' := [[cl bf 1 #[.func (.func fn) first caps]], [cl bl 303 #[.slice (some ⟨b, 0, none⟩) 2 2]], [cl bi 3 #[.int .i64 0]], [cl b 1 #[.func (.func fn) first caps, .func (.func fn') first' caps']], ga, gK, gF, ga']) (fun n ha h0 h1 h2 => by simp only [SU, ha, h0, h1, h2] <;> omega))
  have c0 := HT.out.cell 0 0 rfl 0
  have lt0 := HT.out.lt 0 0 rfl
  simp only [] at lt0
  have HD := Lib.hid hd
  have HA := Lib.hid hva'
  clear hd hx hp hva hva' h
  simp only [List.getElem?_toArray, List.getElem?_cons_zero] at c0
  go_enter Tryz.func188, Tryz.ntmps188
  go_wp2_with fail
  refine (DoesG.use (HD.out) (HT.out.alloc (k := w.heap.size) rfl _ _) [4, 5, 6] rfl rfl).mono ?_
  rintro e w1 ⟨gs, ⟨gK', gF', rfl, hx', rfl⟩, Ta⟩
  simp only [PU] at Ta
  have c1 := Ta.cell 1 0 rfl 0
  have c2 := Ta.cell 2 0 rfl 0
  have HX := Lib.hid hx'
  clear hx' c0
  simp only [List.getElem?_toArray, List.getElem?_cons_zero] at c1 c2
  have HT := Lib.hid Ta
  clear Ta
  go_wp2_with fail
  refine (DoesG.use (row_1 (D := #[.func (.func fn) first caps, .func (.func fn') first' caps']) (o := 1) rfl 1 (.inl rfl)) (HT.out) [3] rfl rfl).mono ?_
  rintro e w1 ⟨gs, ⟨bf', bl', bi', rfl, rfl⟩, Ta⟩
  simp only [PU] at Ta
  have e0 := Ta.cell 8 0 rfl 0
  have e1 := Ta.cell 8 0 rfl 1
  have f0 := Ta.free 8 0 rfl 0
  have f1 := Ta.free 8 0 rfl 1
  clear c1 c2
  have HT := Lib.hid Ta
  clear Ta
  go_wp2
  exact bodyPost_ret (v := .agg #[.nilFunc, _]) (by simp [results, Tryz.results188, go_sem, e0, e1]) rfl ⟨_, ⟨_, _, _, gK', gF', rfl, ⟨rfl, bf', bl', bi', b, 1, #[.func (.func fn) first caps, .func (.func fn') first' caps'], _, ga', rfl, HA.out, rfl, rfl⟩, HX.out, rfl⟩, (((HT.out.set 8 0 rfl 0 _).set 8 0 rfl 1 _).pick [3, 5, 6, 7, 9, 10, 11] rfl).sum (fun n ha h0 h1 h2 => by simp only [SU, ha, h0, h1, h2] <;> omega)⟩
theorem prog_thn (h : c.Ok) {s : c.S} {f : c.M} {m d : Value} {g gK gF : List Blk} {x : c.α} (hs : c.SV (.thn s f) m d g) (hx : c.rep x gK gF)
    (hi : ∀ {m d : Value} {g : List Blk}, c.SV s m d g → FnG Tryz.prog d [g, gK, gF] (DoR c s x)) (hp : (c.run s x).1.isNil = true → c.preM f (c.run s x).2) : FnG Tryz.prog d [g, gK, gF] (DoR c (.thn s f) x) := by
  obtain ⟨bs, br, ds, vm, gs, gm, rfl, hn, hv, hm, rfl⟩ := hs
  obtain ⟨fn, first, caps, rfl, eg, hd⟩ := hi hv
  obtain ⟨fn', first', caps', rfl⟩ := h.vm hm
  have key : ∀ m' d' g' gK' gF', c.SV (c.run s x).1 m' d' g' → c.rep (c.run s x).2 gK' gF' → DoesG Tryz.prog 191 #[.agg #[m', d'], .func (.func fn') first' caps'] [g', gm, gK', gF'] (DoR c (.thn s f) x) :=
    fun m' d' g' gK' gF' h1 h2 => prog_then h h1 hm h2 hp
  refine ⟨_, _, _, rfl, enters_of Tryz.func226 (by kernel_rfl) rfl, ?_⟩
  intro w hw
  have T0 := TG.refl hw
  have HT := Lib.hid T0
  clear hw T0
  have HT := Lib.hid (HT.out.sum (H' := [[cl bs 148 #[m, .func (.func fn) first caps]], [cl br 146 #[.func (.func fn') first' caps']], gs, gK, gF, gm]) (fun n ha h0 h1 h2 => by simp only [SU, ha, h0, h1, h2] <;> omega))
  have c0 := HT.out.cell 0 0 rfl 1
  have c1 := HT.out.cell 1 0 rfl 0
  have lt0 := HT.out.lt 0 0 rfl
  have lt1 := HT.out.lt 1 0 rfl
  simp only [] at lt0 lt1
  have HD := Lib.hid hd
  have HK := Lib.hid key
  have HV := Lib.hid (show ∀ (s : c.S) m d g, c.SV s m d g → isFv m ∧ isFv d from fun _ _ _ _ hv => h.vals hv)
  clear hd hx hp hv hm hn hi key
  simp only [List.getElem?_toArray, List.getElem?_cons_zero, List.getElem?_cons_succ] at c0 c1
  go_enter Tryz.func226, Tryz.ntmps226
  go_wp2_with fail
  have HT := Lib.hid (HT.out.alloc (k := w.heap.size) rfl 148 #[.nilFunc, .nilFunc])
  go_region_with (first
    | (go_at_call 191
       refine (DoesG.use (HK.out _ _ _ _ _ HS1.out HX1.out) (HT1.out) [2, 5, 3, 4] rfl rfl).mono ?_
       rintro e w2 ⟨gs, ⟨m2, d2, g2, gK2, gF2, rfl, hs2, hx2, rfl⟩, Ta⟩
       simp only [putG, List.set_cons_zero, List.set_cons_succ, List.cons_append, List.nil_append, List.append_nil] at Ta
       have e0 := Ta.cell 6 0 rfl 0
       have e1 := Ta.cell 6 0 rfl 1
       have f0 := Ta.free 6 0 rfl 0
       have f1 := Ta.free 6 0 rfl 1
       have hv2 := HV.out _ _ _ _ hs2
       obtain ⟨st1, st2⟩ := store_fv2 (P := Tryz.prog) hv2.1 hv2.2 e0 f0 e1 f1
       clear hv2
       have HS2 := Lib.hid hs2
       have HX2 := Lib.hid hx2
       have HT2 := Lib.hid Ta
       clear Ta hs2 hx2)
    | (refine (DoesG.use (HD.out) (HT.out.drew) [2, 3, 4] rfl rfl).mono ?_
       rintro e w1 ⟨gs, ⟨m1, d1, g1, gK1, gF1, rfl, hs1, hx1, rfl⟩, Ta⟩
       simp only [putG, List.set_cons_zero, List.set_cons_succ, List.cons_append, List.nil_append, List.append_nil] at Ta
       have c2 := Ta.cell 1 0 rfl 0
       simp only [List.getElem?_toArray, List.getElem?_cons_zero, List.getElem?_cons_succ] at c2
       have HS1 := Lib.hid hs1
       have HX1 := Lib.hid hx1
       have HT1 := Lib.hid Ta
       clear Ta hs1 hx1))
  all_goals
    go_wp2
    exact bodyPost_ret (v := .agg #[_, _]) (by simp [results, Tryz.results226, go_sem, e0, e1]) rfl ⟨_, ⟨m2, d2, g2, gK2, gF2, rfl, HS2.out, HX2.out, rfl⟩, ((HT2.out.set 6 0 rfl 0 _).set 6 0 rfl 1 _).pick [2, 5, 3] rfl⟩
theorem prog_do (h : c.Ok) : ∀ {s : c.S} {m d : Value} {g gK gF : List Blk} {x : c.α}, s.isNil = false → c.SV s m d g → c.rep x gK gF → c.pre s x → FnG Tryz.prog d [g, gK, gF] (DoR c s x)
  | .nil, _, _, _, _, _, _, hn, _, _, _ => by cases hn
  | .at none f, _, _, _, _, _, _, _, hs, hx, hp => h.m hs.2 hx hp
  | .at (some y) f, _, _, _, gK, gF, _, _, hs, hx, hp => by
    obtain ⟨g1, g2, h1, h2, rfl⟩ := hs
    obtain ⟨fn, first, caps, hv, eg, hd⟩ := h.m h2 hx hp
    refine ⟨fn, first, caps, hv, eg, fun w hw => ?_⟩
    have T := (TG.refl hw).sum (H' := [g1, g2, gK, gF]) (fun n ha h0 h1 h2 => by simp only [SU, ha, h0, h1, h2] <;> omega)
    refine (DoesG.use hd T [1, 2, 3] rfl rfl).mono ?_
    rintro e w' ⟨gs, ⟨m', d', g', gK', gF', he, hs', hx', rfl⟩, T'⟩
    exact ⟨_, ⟨m', d', g', gK', gF', he, hs', hx', rfl⟩, T'.pick [1, 2, 3] rfl⟩
  | .row1 a, _, _, _, _, _, _, _, hs, hx, hp => prog_row1 h hs hx hp
  | .row2 a b, _, _, _, _, _, _, _, hs, hx, hp => prog_row2 h hs hx hp
  | .thn s f, _, _, _, _, _, _, _, hs, hx, hp => by
    have hs' := hs
    obtain ⟨bs, br, ds, vm, gs, gm, _, hn, _⟩ := hs'
    exact prog_thn h hs hx (fun hv => prog_do h hn hv hx hp.1) hp.2
end Cli
end Go.Proofs.YtblhfbcodbjgcaaGreat

namespace Go.Proofs.YtblhfbcodbjgcaaGreat
set_option linter.unusedVariables false
set_option linter.unusedSimpArgs false
open Go.RowKit Go.Shelf
namespace Cli
variable {c : Cli}
def progB (pb : Nat) (m d : Value) (n : Int) : List Blk := [cl pb 222 #[m, d, .int .i64 n]]
set_option maxRecDepth 100000 in
theorem prog_new (h : c.Ok) {s : c.S} {m d : Value} {g : List Blk} (hs : c.SV s m d g) : DoesG Tryz.prog 84 #[.agg #[m, d]] [g] fun e gs => ∃ pb, e = .returned (ptr' pb) ∧ gs = [g, progB pb m d 0] := by
  obtain ⟨v1, v2⟩ := h.vals hs
  intro w hw
  have T0 := TG.refl hw
  have HT := Lib.hid T0
  clear hw T0
  clear hs h
  rcases v1 with rfl | ⟨fn1, first1, caps1, rfl⟩ <;> rcases v2 with rfl | ⟨fn2, first2, caps2, rfl⟩
  all_goals
    go_enter Tryz.func84, Tryz.ntmps84
    go_wp2
    go_ret
    exact ⟨_, ⟨_, rfl, rfl⟩, (HT.out.alloc0 _).alloc (k := w.heap.size + 1) (by simp) _ _⟩
set_option maxRecDepth 100000 in
theorem prog_done (h : c.Ok) {s : c.S} {m d : Value} {g : List Blk} (hs : c.SV s m d g) (pb : Nat) (n : Int) : ReadsG Tryz.prog 102 #[ptr' pb] [progB pb m d n] (.bool s.isNil) := by
  cases hn : s.isNil with
  | true =>
    have : s = .nil := by cases s <;> first | rfl | cases hn
    subst this
    obtain ⟨rfl, rfl, rfl⟩ := SV.nil hs
    intro w hw
    have T0 := TG.refl hw
    have HT := Lib.hid T0
    clear hw T0
    have c1 := HT.out.cell 0 0 rfl 1
    simp only [progB, List.getElem?_toArray, List.getElem?_cons_zero, List.getElem?_cons_succ] at c1
    have q1 := fun w => fun_nil_M w
    clear hs h
    go_enter Tryz.func102, Tryz.ntmps102
    go_wp2
    go_ret
    exact ⟨rfl, 0, rfl⟩
  | false =>
    obtain ⟨fn, first, caps, rfl⟩ := h.do_ hn hs
    intro w hw
    have T0 := TG.refl hw
    have HT := Lib.hid T0
    clear hw T0
    have c1 := HT.out.cell 0 0 rfl 1
    simp only [progB, List.getElem?_toArray, List.getElem?_cons_zero, List.getElem?_cons_succ] at c1
    have q1 := fun w => fun_is_M (.func fn) first caps w
    clear hs h
    go_enter Tryz.func102, Tryz.ntmps102
    go_wp2
    go_ret
    exact ⟨rfl, 0, rfl⟩
def MayR (c : Cli) (s : c.S) (x : c.α) (g : List Blk) (e : Ending) (gs : GH) : Prop := ∃ gK gF, e = .returned (.bool (s.may c.mayY x)) ∧ c.rep x gK gF ∧ gs = [g, gK, gF]
theorem may_nil : ∀ {s : c.S} {d : Value} {g : List Blk} {x : c.α}, c.Ok → s.isNil = false → c.SV s .nilFunc d g → s.may c.mayY x = true
  | .nil, _, _, _, _, hn, _ => by cases hn
  | .at none _, _, _, _, _, _, _ => rfl
  | .at (some y) _, _, _, _, h, _, v => by
    obtain ⟨g1, g2, h1, _⟩ := v
    obtain ⟨_, _, _, he⟩ := h.vy h1
    cases he
  | .row1 _, _, _, _, _, _, _ => rfl
  | .row2 _ _, _, _, _, _, _, _ => rfl
  | .thn s _, _, _, _, h, _, v => by
    obtain ⟨bs, br, ds, vm, gs, gm, _, hn, hv, _⟩ := v
    exact may_nil (s := s) h hn hv
theorem may_fun (h : c.Ok) : ∀ {s : c.S} {f : Fn} {a b : Array Value} {d : Value} {g gK gF : List Blk} {x : c.α}, c.SV s (.func f a b) d g → c.rep x gK gF → s.preY c.preY x → FnG Tryz.prog (.func f a b) [g, gK, gF] (MayR c s x g)
  | .nil, _, _, _, _, _, _, _, _, v, _, _ => by cases v.1
  | .at none _, _, _, _, _, _, _, _, _, v, _, _ => by cases v.1
  | .at (some y) _, _, _, _, _, _, gK, gF, _, v, hx, hp => by
    obtain ⟨g1, g2, h1, h2, rfl⟩ := v
    obtain ⟨fn, first, caps, hv, eg, hd⟩ := h.y h1 hx hp
    refine ⟨fn, first, caps, hv, eg, fun w hw => ?_⟩
    have T := (TG.refl hw).sum (H' := [g1, g2, gK, gF]) (fun n ha h0 h1 h2 => by simp only [SU, ha, h0, h1, h2] <;> omega)
    refine (DoesG.use hd T [0, 2, 3] rfl rfl).mono ?_
    rintro e w' ⟨gs, ⟨gK', gF', he, hx', rfl⟩, T'⟩
    exact ⟨_, ⟨gK', gF', he, hx', rfl⟩, TG.sum (H := [g1, g2, gK', gF']) T' (fun n ha h0 h1 h2 => by simp only [SU, ha, h0, h1, h2] <;> omega)⟩
  | .row1 _, _, _, _, _, _, _, _, _, v, _, _ => by cases v.1
  | .row2 _ _, _, _, _, _, _, _, _, _, v, _, _ => by cases v.1
  | .thn s _, f, a, b, _, _, gK, gF, _, v, hx, hp => by
    obtain ⟨bs, br, ds, vm, gs, gm, _, hn, hv, _, rfl⟩ := v
    obtain ⟨fn, first, caps, hv', eg, hd⟩ := may_fun h hv hx hp
    refine ⟨fn, first, caps, hv', eg, fun w hw => ?_⟩
    have T := (TG.refl hw).sum (H' := [[cl bs 148 #[.func f a b, ds], cl br 146 #[vm]], gs, gm, gK, gF]) (fun n ha h0 h1 h2 => by simp only [SU, ha, h0, h1, h2] <;> omega)
    refine (DoesG.use hd T [1, 3, 4] rfl rfl).mono ?_
    rintro e w' ⟨gs', ⟨gK', gF', he, hx', rfl⟩, T'⟩
    exact ⟨_, ⟨gK', gF', he, hx', rfl⟩, TG.sum (H := [[cl bs 148 #[.func f a b, ds], cl br 146 #[vm]], gs, gm, gK', gF']) T' (fun n ha h0 h1 h2 => by simp only [SU, ha, h0, h1, h2] <;> omega)⟩
set_option maxRecDepth 100000 in
theorem prog_may (h : c.Ok) {s : c.S} {m d : Value} {g gK gF : List Blk} {x : c.α} (hs : c.SV s m d g) (hx : c.rep x gK gF) (hp : s.preY c.preY x) (pb : Nat) (n : Int) :
    DoesG Tryz.prog 101 #[ptr' pb] [progB pb m d n, g, gK, gF] fun e gs => ∃ gK' gF', e = .returned (.bool (s.may c.mayY x)) ∧ c.rep x gK' gF' ∧ gs = [progB pb m d n, g, gK', gF'] := by
  have hd := prog_done h hs pb n
  cases hn : s.isNil with
  | true =>
    have : s = .nil := by cases s <;> first | rfl | cases hn
    subst this
    rw [hn] at hd
    intro w hw
    have T0 := TG.refl hw
    have HT := Lib.hid T0
    clear hw T0
    have HD := Lib.hid hd
    have HX := Lib.hid hx
    clear hs h hd hn hp hx
    go_enter Tryz.func101, Tryz.ntmps101
    go_wp2_with fail
    refine (ReadsG.use (HD.out) (HT.out) [0] rfl rfl).mono ?_
    rintro e w1 ⟨rfl, mq, rfl⟩
    have HT := Lib.hid (HT.out.drewN mq)
    go_wp2
    go_ret
    exact ⟨_, ⟨gK, gF, rfl, HX.out, rfl⟩, HT.out⟩
  | false =>
    rw [hn] at hd
    obtain ⟨v1, _⟩ := h.vals hs
    rcases v1 with rfl | ⟨fn1, first1, caps1, rfl⟩
    · have hm := may_nil (x := x) h hn hs
      rw [hm]
      intro w hw
      have T0 := TG.refl hw
      have HT := Lib.hid T0
      clear hw T0
      have c0 := HT.out.cell 0 0 rfl 0
      simp only [progB, List.getElem?_toArray, List.getElem?_cons_zero, List.getElem?_cons_succ] at c0
      have HD := Lib.hid hd
      have HX := Lib.hid hx
      have q1 := fun w => fun_nil_Y w
      clear hs h hd hn hp hx hm
      go_enter Tryz.func101, Tryz.ntmps101
      go_wp2_with fail
      refine (ReadsG.use (HD.out) (HT.out) [0] rfl rfl).mono ?_
      rintro e w1 ⟨rfl, mq, rfl⟩
      have HT := Lib.hid (HT.out.drewN mq)
      go_wp2
      go_ret
      exact ⟨_, ⟨gK, gF, rfl, HX.out, rfl⟩, HT.out⟩
    · obtain ⟨fn, first, caps, hv, eg, hf⟩ := may_fun h hs hx hp
      obtain ⟨rfl, rfl, rfl⟩ : fn1 = fn ∧ first1 = first ∧ caps1 = caps := by
        cases hv
        exact ⟨rfl, rfl, rfl⟩
      obtain ⟨b, hb⟩ : ∃ b, s.may c.mayY x = b := ⟨_, rfl⟩
      unfold MayR at hf
      rw [hb] at hf ⊢
      intro w hw
      have T0 := TG.refl hw
      have HT := Lib.hid T0
      clear hw T0
      have c0 := HT.out.cell 0 0 rfl 0
      simp only [progB, List.getElem?_toArray, List.getElem?_cons_zero, List.getElem?_cons_succ] at c0
      have HD := Lib.hid hd
      have HF := Lib.hid hf
      have q1 := fun w => fun_is_Y (.func fn1) first1 caps1 w
      clear hs h hd hn hp hx hb hf hv
      go_enter Tryz.func101, Tryz.ntmps101
      go_wp2_with fail
      refine (ReadsG.use (HD.out) (HT.out) [0] rfl rfl).mono ?_
      rintro e w1 ⟨rfl, mq, rfl⟩
      have HT := Lib.hid (HT.out.drewN mq)
      go_wp2_with fail
      refine (DoesG.use (HF.out) (HT.out) [1, 2, 3] rfl rfl).mono ?_
      rintro e w1 ⟨gs, ⟨gK', gF', rfl, hx', rfl⟩, Ta⟩
      simp only [PU] at Ta
      have HX := Lib.hid hx'
      clear hx'
      have HT := Lib.hid Ta
      clear Ta
      go_wp2
      go_ret
      exact ⟨_, ⟨gK', gF', rfl, HX.out, rfl⟩, HT.out⟩
def StepR (c : Cli) (pb : Nat) (n : Int) (s : c.S) (x : c.α) (e : Ending) (gs : GH) : Prop :=
  ∃ m d g gK gF, e = .returned (.bool true) ∧ c.SV (c.run s x).1 m d g ∧ c.rep (c.run s x).2 gK gF ∧ gs = [progB pb m d (n + 1), g, gK, gF]
set_option maxRecDepth 100000 in
theorem prog_step_no (h : c.Ok) {s : c.S} {m d : Value} {g gK gF : List Blk} {x : c.α} (hs : c.SV s m d g) (hx : c.rep x gK gF) (hp : s.preY c.preY x) (pb : Nat) (n : Int) (hm : s.may c.mayY x = false) :
    DoesG Tryz.prog 90 #[ptr' pb] [progB pb m d n, g, gK, gF] fun e gs => ∃ gK' gF', e = .returned (.bool false) ∧ c.rep x gK' gF' ∧ gs = [progB pb m d n, g, gK', gF'] := by
  have hd := prog_may h hs hx hp pb n
  rw [hm] at hd
  intro w hw
  have T0 := TG.refl hw
  have HT := Lib.hid T0
  clear hw T0
  have HD := Lib.hid hd
  clear hs h hd hp hx hm
  go_enter Tryz.func90, Tryz.ntmps90
  go_wp2_with fail
  refine (DoesG.use (HD.out) (HT.out) [0, 1, 2, 3] rfl rfl).mono ?_
  rintro e w1 ⟨gs, ⟨gK', gF', rfl, hx', rfl⟩, Ta⟩
  simp only [PU] at Ta
  have HX := Lib.hid hx'
  clear hx'
  have HT := Lib.hid Ta
  clear Ta
  go_wp2
  go_ret
  exact ⟨_, ⟨gK', gF', rfl, HX.out, rfl⟩, HT.out⟩
set_option maxRecDepth 100000 in
theorem prog_step (h : c.Ok) {s : c.S} {m d : Value} {g gK gF : List Blk} {x : c.α} (hs : c.SV s m d g) (hx : c.rep x gK gF) (hp : s.preY c.preY x) (hq : c.pre s x) (pb : Nat) (n : Int) (hn : 0 ≤ n ∧ n ≤ 1000000000) (hm : s.may c.mayY x = true) :
    DoesG Tryz.prog 90 #[ptr' pb] [progB pb m d n, g, gK, gF] (StepR c pb n s x) := by
  have hd := prog_may h hs hx hp pb n
  rw [hm] at hd
  have hni : s.isNil = false := by cases s <;> first | rfl | cases hm
  have hdo : ∀ gK' gF', c.rep x gK' gF' → FnG Tryz.prog d [g, gK', gF'] (DoR c s x) := fun _ _ hx' => prog_do h hni hs hx' hq
  obtain ⟨fn, first, caps, rfl⟩ := h.do_ hni hs
  have HV := Lib.hid (show ∀ (s : c.S) m d g, c.SV s m d g → isFv m ∧ isFv d from fun _ _ _ _ hv => h.vals hv)
  intro w hw
  have T0 := TG.refl hw
  have HT := Lib.hid T0
  clear hw T0
  have HD := Lib.hid hd
  have HO := Lib.hid hdo
  obtain ⟨hn0, hn1⟩ := hn
  clear hs h hd hp hx hm hq hni hdo
  go_enter Tryz.func90, Tryz.ntmps90
  go_wp2_with fail
  refine (DoesG.use (HD.out) (HT.out) [0, 1, 2, 3] rfl rfl).mono ?_
  rintro e w1 ⟨gs, ⟨gK1, gF1, rfl, hx', rfl⟩, Ta⟩
  simp only [PU] at Ta
  have c1 := Ta.cell 0 0 rfl 1
  have c2 := Ta.cell 0 0 rfl 2
  have f2 := Ta.free 0 0 rfl 2
  have hf := HO.out _ _ hx'
  clear hx'
  simp only [List.getElem?_toArray, List.getElem?_cons_zero, List.getElem?_cons_succ] at c1 c2
  have HT := Lib.hid Ta
  clear Ta
  obtain ⟨fn', first', caps', hv, eg, hf⟩ := hf
  obtain ⟨rfl, rfl, rfl⟩ : fn = fn' ∧ first = first' ∧ caps = caps' := by
    cases hv
    exact ⟨rfl, rfl, rfl⟩
  have HF := Lib.hid hf
  clear hf hv
  go_wp2_with fail
  refine (DoesG.use (HF.out) (HT.out.set 0 0 rfl 2 (.int .i64 (n + 1))) [1, 2, 3] rfl rfl).mono ?_
  rintro e w1 ⟨gs, ⟨m', d', g', gK', gF', rfl, hs', hx', rfl⟩, Ta⟩
  simp only [PU] at Ta
  have e0 := Ta.cell 0 0 rfl 0
  have e1 := Ta.cell 0 0 rfl 1
  have f0 := Ta.free 0 0 rfl 0
  have f1 := Ta.free 0 0 rfl 1
  have hv2 := HV.out _ _ _ _ hs'
  obtain ⟨st1, st2⟩ := store_fv2 (P := Tryz.prog) hv2.1 hv2.2 e0 f0 e1 f1
  have HS := Lib.hid hs'
  have HX := Lib.hid hx'
  clear hs' hx' hv2
  have HT := Lib.hid Ta
  clear Ta
  go_wp2
  go_ret
  exact ⟨_, ⟨m', d', g', gK', gF', rfl, HS.out, HX.out, rfl⟩, (HT.out.set 0 0 rfl 0 _).set 0 0 rfl 1 _⟩
end Cli
end Go.Proofs.YtblhfbcodbjgcaaGreat

namespace Go.Proofs.YtblhfbcodbjgcaaGreat
set_option linter.unusedVariables false
set_option linter.unusedSimpArgs false
open Go.RowKit Go.Shelf
attribute [local go_sem] Oper.semAt_some
set_option maxRecDepth 100000 in
set_option maxHeartbeats 4000000 in
theorem check_g (c : Cfg) : DoesG Tryz.prog 79 #[.agg c.cells] [] fun e gs => e = .returned (.int .i64 (if c.ok then 0 else 8)) ∧ gs = [] := by
  intro w hw
  have T0 := TG.refl hw
  have HT := Lib.hid T0
  clear hw T0
  have HB := Lib.hid (bounds_g c)
  obtain ⟨C, hC⟩ : ∃ C, C = c.cells := ⟨_, rfl⟩
  have hC' := hC
  simp only [Cfg.cells] at hC'
  rw [← hC] at HB
  have HCC := Lib.hid hC
  simp only [Cfg.cells]
  refine calls_of_marks Tryz.func79 rfl ?_
  simp only [Tryz.ntmps79, List.size_toArray, List.length_cons, List.length_nil, Nat.reduceAdd, Nat.reduceSub, Array.replicate_succ, Array.replicate_zero, List.push_toArray, List.append_toArray, List.nil_append, List.cons_append]
  go_wp2_with fail
  rw [← hC']
  clear hC hC'
  refine (DoesG.use HB.out ((HT.out.alloc rfl _ _).alloc rfl _ _) [] rfl rfl).mono ?_
  rintro e w1 ⟨gs, ⟨cb, rfl, rfl⟩, Ta⟩
  simp only [putG, List.nil_append, List.cons_append, HCC.out] at Ta
  go_wp2
  refine wp_rangeG rfl (enters_of Tryz.func160 (by kernel_rfl) rfl) (bounds_iter 2 cb c) (fun _ _ => rfl) Ta (chkJ (w.heap.size) (w.heap.size + 1) cb c) (chkX (w.heap.size) (w.heap.size + 1) cb c) ?h0 ?hT ?hbody ?hdone ?hstop
  case h0 => exact ⟨by simp, fun i hi => absurd hi (Nat.not_lt_zero _)⟩
  case hT => rintro k H _ ⟨rfl, _⟩; rfl
  case hbody =>
    rintro k hk H W l ⟨rfl, hu⟩ hH
    obtain ⟨x, hx⟩ : ∃ x, (c.pair k).1 = x := ⟨_, rfl⟩
    obtain ⟨m, hm⟩ : ∃ m, (c.pair k).2 = m := ⟨_, rfl⟩
    simp only [hx, hm]
    have hf : c.fine k = (decide (1 ≤ x) && decide (x ≤ m)) := by unfold Cfg.fine; rw [hx, hm]
    have HF := Lib.hid hf
    have HU := Lib.hid hu
    have HH := Lib.hid hH
    clear hx hm hf hu hH
    refine wpIn_any (n := 9) ?_
    gi_wp2
    refine ⟨_, TG.refl HH.out, fun Wb hb => ?_⟩
    have HT := Lib.hid (TG.refl hb)
    have f1 := HT.out.free 1 0 rfl 0
    have c1 := HT.out.cell 1 0 rfl 0
    clear hb
    have bad : c.fine k = false → ∃ H', chkX (w.heap.size) (w.heap.size + 1) cb c (k + 1) .ret H' ∧ TG [[cl w.heap.size 30 c.cells], [cl (w.heap.size + 1) 26 #[.int .i64 0]], [cl cb 30 c.cells]] Wb H' (Wb.setCell ⟨w.heap.size + 1, 0, none⟩ (.int .i64 8)) :=
      fun h => ⟨_, ⟨rfl, rfl, Cfg.not_ok hk h⟩, HT.out.set 1 0 rfl 0 (.int .i64 8)⟩
    have HBAD := Lib.hid bad
    clear bad
    by_cases h1 : x < 1
    · refine wpIn_any (n := 9) ?_
      gi_wp2
      exact HBAD.out (by rw [HF.out]; simp; omega)
    · by_cases h2 : m < x
      · refine wpIn_any (n := 9) ?_
        gi_wp2
        exact HBAD.out (by rw [HF.out]; simp; omega)
      · refine wpIn_any (n := 9) ?_
        gi_wp2
        refine ⟨_, ⟨rfl, fun i hi => ?_⟩, HT.out⟩
        by_cases hik : i = k
        · subst hik; rw [HF.out]; simp; omega
        · exact HU.out i (by omega)
  case hdone =>
    rintro H W D ⟨rfl, hu⟩ hT hD hK
    have HX := Lib.hid (And.intro hT (And.intro hD hK))
    have HT := Lib.hid (TG.refl hT.has)
    have HU := Lib.hid (Cfg.ok_of hu)
    have f1 := hT.free 1 0 rfl 0
    have c1 := hT.cell 1 0 rfl 0
    clear hu hT hD hK
    go_wp2
    obtain ⟨hT, hD, hK⟩ := HX.out
    have T2 := HT.out.set 1 0 rfl 0 (.int .i64 0)
    have T3 := hT.fin hD T2 (.deferred none)
    have c2 := T3.cell 1 0 rfl 0
    refine post_mark (v := .int .i64 0) ((Below.heap_setCell W _ _ D (by have := hD.2.2; intro e; subst e; exact this (by simp [keys, ex]))).trans hK) (by simp [results, Tryz.results79, go_sem, c2]) ⟨[], ⟨by simp [HU.out], rfl⟩, T3.pick [] rfl⟩
  case hstop =>
    rintro k cd H W D hk ⟨rfl, rfl, hok⟩ hT hD hK
    have T3 := hT.fin hD (TG.refl hT.has) (.deferred none)
    have c2 := T3.cell 1 0 rfl 0
    refine wp_ret (post_mark (v := .int .i64 8) hK (by simp [results, Tryz.results79, go_sem, c2]) ⟨[], ⟨by simp [hok], rfl⟩, T3.pick [] rfl⟩)
end Go.Proofs.YtblhfbcodbjgcaaGreat

namespace Go.Proofs.YtblhfbcodbjgcaaGreat
set_option linter.unusedVariables false
set_option linter.unusedSimpArgs false
open Go.RowKit
theorem loadW_does (b o : Nat) (T : TypeId) (C : Array Value) (n : Int) (hc : cellAt C o (.int .u64 n)) :
    Does Tryz.prog 110 #[.pointer (some ⟨b, o, none⟩)] [pt b T C] (CellPost b T C o (.int .u64 n) (.int .u64 n)) := by
  intro w hw
  obtain ⟨h0, l, t, u, h1, h2, h3⟩ := hc
  have T0 := Turned.refl hw
  have hb := T0.blk 0 rfl
  have c0 : w.cell? ⟨b, o, none⟩ = some (.int .u64 n) := (blk_cell hb o).trans h0
  have c1 : w.cell? ⟨b, o + 1, none⟩ = some (.int .i64 l) := (blk_cell hb (o + 1)).trans h1
  have f1 := blk_free hb (o + 1)
  have T1 := Lib.hid T0
  have H := Lib.hid (And.intro h0 (And.intro h1 (And.intro h2 h3)))
  clear T0 hb hw h0 h1 h2 h3
  go_enter Tryz.func110, Tryz.ntmps110
  go_wp2
  go_ret
  obtain ⟨h0, h1, h2, h3⟩ := H.out
  exact ⟨_, ⟨rfl, _, rfl, recell_loads h0 h1 h2 h3⟩, T1.out.set (o + 1) _⟩
theorem swapW_does (b o : Nat) (T : TypeId) (C : Array Value) (n old new : Int) (hc : cellAt C o (.int .u64 n)) :
    Does Tryz.prog 238 #[.pointer (some ⟨b, o, none⟩), .int .u64 old, .int .u64 new] [pt b T C] (CellPost b T C o (.int .u64 (if n = old then new else n)) (.bool (decide (n = old)))) := by
  intro w hw
  obtain ⟨h0, l, t, u, h1, h2, h3⟩ := hc
  have T0 := Turned.refl hw
  have hb := T0.blk 0 rfl
  have c0 : w.cell? ⟨b, o, none⟩ = some (.int .u64 n) := (blk_cell hb o).trans h0
  have c2 : w.cell? ⟨b, o + 2, none⟩ = some (.int .i64 t) := (blk_cell hb (o + 2)).trans h2
  have c3 : w.cell? ⟨b, o + 3, none⟩ = some (.int .i64 u) := (blk_cell hb (o + 3)).trans h3
  have f0 := blk_free hb o
  have f2 := blk_free hb (o + 2)
  have f3 := blk_free hb (o + 3)
  have T1 := Lib.hid T0
  have H := Lib.hid (And.intro h0 (And.intro h1 (And.intro h2 h3)))
  clear T0 hb hw h0 h1 h2 h3
  by_cases he : n = old
  · subst he
    skip
    all_goals
      go_enter Tryz.func238, Tryz.ntmps238
      go_wp2
      go_ret
      obtain ⟨h0, h1, h2, h3⟩ := H.out
      exact ⟨_, ⟨by simp, _, rfl, recell_swap h0 h1 h2 h3⟩, ((T1.out.set (o + 2) _).set o _).set (o + 3) _⟩
  · skip
    all_goals
      go_enter Tryz.func238, Tryz.ntmps238
      go_wp2
      go_ret
      obtain ⟨h0, h1, h2, h3⟩ := H.out
      exact ⟨_, ⟨by simp [he], _, rfl, recell_tries h0 h1 h2 h3⟩, T1.out.set (o + 2) _⟩
theorem turnW_does (b o : Nat) (T : TypeId) (C : Array Value) (n v : Int) (ok : Bool) (g : Nat) (caps : Array Value) (F : PH) (hc : cellAt C o (.int .u64 n))
    (eg : ∀ args w, (callFunc g args).run Tryz.prog w = .ok (.enter g args) w)
    (hg : Does Tryz.prog g (#[.int .u64 n] ++ caps) F fun e h' => e = .returned (.tuple #[.int .u64 v, .bool ok]) ∧ h' = F) :
    Does Tryz.prog 227 #[.pointer (some ⟨b, o, none⟩), .func (.func g) #[] caps] (pt b T C :: F) fun e h' =>
      e = .returned (.tuple #[.int .u64 n, .bool ok]) ∧ ∃ C', h' = pt b T C' :: F ∧ Recell C o (.int .u64 (if ok = true then v else n)) C' := by
  intro w hw
  have T0 := Lib.hid (Turned.refl hw)
  have HC := Lib.hid hc
  have HG := Lib.hid hg
  clear hw hc hg
  cases ok
  · go_enter Tryz.func227, Tryz.ntmps227
    go_wp2_with (first
      | (go_at_call 110; refine ((loadW_does b o T C n HC.out).use T0.out (List.Perm.refl _)).mono ?_
         rintro e w1 ⟨h', ⟨rfl, C1, rfl, hr1⟩, T1⟩; have T1 := Lib.hid T1; have HR1 := Lib.hid hr1; clear hr1)
      | (refine (HG.out.use T1.out (List.perm_append_comm (l₁ := [pt b T C1]) (l₂ := F))).mono ?_
         rintro e w2 ⟨h', ⟨rfl, rfl⟩, T2⟩; have T2 := Lib.hid T2))
    go_ret2
    exact ⟨_, ⟨rfl, C1, rfl, HR1.out⟩, T2.out.perm (List.perm_append_comm)⟩
  · go_enter Tryz.func227, Tryz.ntmps227
    go_wp2_with (first
      | (go_at_call 110; refine ((loadW_does b o T C n HC.out).use T0.out (List.Perm.refl _)).mono ?_
         rintro e w1 ⟨h', ⟨rfl, C1, rfl, hr1⟩, T1⟩; have T1 := Lib.hid T1; have HR1 := Lib.hid hr1; clear hr1)
      | (go_at_call 238; refine ((swapW_does b o T C1 n n v HR1.out.cell).use T2.out (List.perm_append_comm)).mono ?_
         rintro e w3 ⟨h', ⟨rfl, C3, rfl, hr3⟩, T3⟩; rw [if_pos rfl] at hr3; have T3 := Lib.hid T3; have HR3 := Lib.hid hr3; clear hr3)
      | (refine (HG.out.use T1.out (List.perm_append_comm (l₁ := [pt b T C1]) (l₂ := F))).mono ?_
         rintro e w2 ⟨h', ⟨rfl, rfl⟩, T2⟩; have T2 := Lib.hid T2))
    all_goals go_ret2
    all_goals exact ⟨_, ⟨by simp, C3, rfl, HR1.out.trans HR3.out⟩, T3.out⟩
end Go.Proofs.YtblhfbcodbjgcaaGreat

namespace Go.Proofs.YtblhfbcodbjgcaaGreat
set_option linter.unusedVariables false
set_option linter.unusedSimpArgs false
open Go.RowKit
structure Rec where
  w : Int
  g : Int
  p : Int
structure SlabS where
  recs : List Rec
  count : Int
structure Req where
  p : Int
  next : Int
  saw : Int
  slot : Int
  id : Int
  st : Int
structure RecOk (r : Rec) : Prop where
  w0 : 0 ≤ r.w
  w1 : r.w < 18446744073709551616
  ok : okW r.w = true
  g0 : 0 ≤ r.g
  g1 : r.g ≤ genW r.w
  p0 : 0 ≤ r.p
  p1 : r.p < 18446744073709551616
structure SlabOk (s : SlabS) : Prop where
  n0 : 1 ≤ s.recs.length
  n1 : s.recs.length ≤ 64
  c0 : 0 ≤ s.count
  c1 : s.count ≤ s.recs.length
  recs : ∀ r ∈ s.recs, RecOk r
structure ReqOk (n : Nat) (q : Req) : Prop where
  p0 : 0 ≤ q.p
  p1 : q.p < 18446744073709551616
  slot0 : 0 ≤ q.slot
  slot1 : q.slot < n
  next : q.next = 0 ∨ (q.next = 1 ∧ 0 ≤ q.saw ∧ q.saw < n) ∨ q.next = 2
def lookR (s : SlabS) (q : Req) : Req := if (s.recs.length : Int) ≤ s.count then { q with saw := s.count, st := 1 } else { q with saw := s.count, next := 1 }
def moreR (s : SlabS) (q : Req) : SlabS × Req := if s.count = q.saw then ({ s with count := s.count + 1 }, { q with next := 2 }) else (s, { q with next := 0 })
def Rec.zero : Rec := ⟨0, 0, 0⟩
def seekR (s : SlabS) (q : Req) : SlabS × Req :=
  let r := s.recs.getD q.slot.toNat Rec.zero
  let t := nextW r.w 1 (decide (0 < q.p))
  if t.2 = 0 then ({ s with recs := s.recs.set q.slot.toNat ⟨t.1, r.g + 1, q.p⟩ }, { q with id := (r.g + 1) * 64 + q.slot, st := 2 })
  else (s, { q with slot := (q.slot + 1) % s.recs.length })
def stepR (s : SlabS) (q : Req) : SlabS × Req :=
  if q.st ≠ 0 then (s, q) else if q.next = 0 then (s, lookR s q) else if q.next = 1 then moreR s q else seekR s q
def newSlab (n : Nat) : SlabS := ⟨List.replicate n Rec.zero, 0⟩
def SlabS.has (s : SlabS) (k : Int) : Prop := 0 ≤ k ∧ k < s.recs.length
instance (s : SlabS) (k : Int) : Decidable (s.has k) := by unfold SlabS.has; infer_instance
def SlabS.period (s : SlabS) (k : Int) : Int := if s.has k then (s.recs.getD k.toNat Rec.zero).p else 0
def SlabS.word (s : SlabS) (k : Int) : Int := if s.has k then (s.recs.getD k.toNat Rec.zero).w else 0
def SlabS.werr (s : SlabS) (k : Int) : Int := if s.has k then 0 else 4
def SlabS.known (s : SlabS) (id : Int) : Prop := id % 64 < s.recs.length ∧ 1 ≤ id / 64 ∧ id / 64 ≤ (s.recs.getD (id % 64).toNat Rec.zero).g
instance (s : SlabS) (k : Int) : Decidable (s.known k) := by unfold SlabS.known; infer_instance
def SlabS.slot (s : SlabS) (id : Int) : Int := if s.known id then id % 64 else 0
def SlabS.serr (s : SlabS) (id : Int) : Int := if s.known id then 0 else 1
def SlabS.mine (s : SlabS) (id : Int) : Bool := decide (s.known id) && decide ((s.recs.getD (id % 64).toNat Rec.zero).g = id / 64)
def SlabS.try (s : SlabS) (k old ev : Int) : SlabS × Int × Int :=
  if s.has k then
    let r := s.recs.getD k.toNat Rec.zero
    let t := nextW old ev (decide (0 < r.p))
    if t.2 ≠ 0 then (s, r.w, t.2) else if r.w = old then ({ s with recs := s.recs.set k.toNat { r with w := t.1 } }, t.1, 0) else (s, r.w, 10)
  else (s, 0, 4)
def SlabS.drop (s : SlabS) : SlabS × Int := if 0 < s.count then ({ s with count := s.count - 1 }, 0) else (s, 6)
theorem SlabS.has_at {s : SlabS} {j : Nat} (h : s.has j) : ∃ r, s.recs[j]? = some r ∧ s.recs.getD (j : Int).toNat Rec.zero = r := by
  have hj : j < s.recs.length := by unfold SlabS.has at h; omega
  exact ⟨s.recs[j], List.getElem?_eq_getElem hj, by simp [hj]⟩
theorem SlabS.has_nat {s : SlabS} {k : Int} (h : s.has k) : ∃ j : Nat, k = j := Int.eq_ofNat_of_zero_le h.1
def recAt (C : Array Value) (i : Nat) (r : Rec) : Prop := cellAt C (i * 6) (.int .u64 r.w) ∧ C[i * 6 + 4]? = some (.int .u64 r.g) ∧ C[i * 6 + 5]? = some (.int .u64 r.p)
def recsP (rs : List Rec) : Obj → Prop := fun o => ∃ C, cellsAre 178 C o ∧ C.size = rs.length * 6 ∧ ∀ i r, rs[i]? = some r → recAt C i r
def slabP (rb n : Nat) (c : Int) : Obj → Prop := fun o => ∃ C, cellsAre 160 C o ∧ C.size = 5 ∧ C[0]? = some (.slice (some ⟨rb, 0, none⟩) n n) ∧ cellAt C 1 (.int .i64 c)
def slabH (sb rb : Nat) (s : SlabS) : PH := [(sb, slabP rb s.recs.length s.count), (rb, recsP s.recs)]
def reqC (sb : Nat) (q : Req) : Array Value := #[.pointer (some ⟨sb, 0, none⟩), .int .u64 q.p, .int .i64 q.next, .int .i64 q.saw, .int .i64 q.slot, .int .u64 q.id, .int .i64 q.st]
def reqH (qb sb : Nat) (q : Req) : Piece := pt qb 279 (reqC sb q)
theorem recAt_of_recell {C C' : Array Value} {i j : Nat} {r : Rec} {n : Int} (h : recAt C j r) (hc : Recell C (i * 6) (.int .u64 n) C') : recAt C' j (if j = i then { r with w := n } else r) := by
  obtain ⟨h0, h1, h2⟩ := h
  by_cases e : j = i
  · subst e
    rw [if_pos rfl]
    exact ⟨hc.cell, (hc.other _ (by omega)).trans h1, (hc.other _ (by omega)).trans h2⟩
  · rw [if_neg e]
    exact ⟨hc.cellOther h0 (by omega), (hc.other _ (by omega)).trans h1, (hc.other _ (by omega)).trans h2⟩
theorem recs_recell {rs : List Rec} {C C' : Array Value} {i : Nat} {r : Rec} {n : Int} (hs : C.size = rs.length * 6) (h : ∀ i r, rs[i]? = some r → recAt C i r) (hr : rs[i]? = some r) (hc : Recell C (i * 6) (.int .u64 n) C') :
    C'.size = (rs.set i { r with w := n }).length * 6 ∧ ∀ j x, (rs.set i { r with w := n })[j]? = some x → recAt C' j x := by
  refine ⟨by rw [hc.size, hs, List.length_set], fun j x hx => ?_⟩
  rw [List.getElem?_set] at hx
  by_cases e : i = j
  · subst e
    rw [if_pos rfl] at hx
    split at hx
    · cases hx; have := recAt_of_recell (h i r hr) hc; rwa [if_pos rfl] at this
    · cases hx
  · rw [if_neg e] at hx
    have := recAt_of_recell (h j x hx) hc
    rwa [if_neg (fun x => e x.symm)] at this
theorem recs_same {rs : List Rec} {C C' : Array Value} {i : Nat} {r : Rec} (hs : C.size = rs.length * 6) (h : ∀ i r, rs[i]? = some r → recAt C i r) (hr : rs[i]? = some r) (hc : Recell C (i * 6) (.int .u64 r.w) C') :
    C'.size = rs.length * 6 ∧ ∀ j x, rs[j]? = some x → recAt C' j x := by
  have := recs_recell hs h hr hc
  have e : rs.set i { r with w := r.w } = rs := by
    apply List.ext_getElem? ; intro k; rw [List.getElem?_set]; split
    · next e => subst e; split
                · rw [hr]
                · rename_i hn; exact absurd (List.getElem?_eq_some_iff.1 hr).1 hn
    · rfl
  rwa [e] at this
theorem recAt_set4 {C : Array Value} {i : Nat} {r : Rec} (h : recAt C i r) (n : Int) : recAt (C.setIfInBounds (i * 6 + 4) (.int .u64 n)) i { r with g := n } := by
  obtain ⟨⟨h0, l, t, u, a, b, c⟩, h1, h2⟩ := h
  exact ⟨⟨(get_set_ne (by omega)).trans h0, l, t, u, (get_set_ne (by omega)).trans a, (get_set_ne (by omega)).trans b, (get_set_ne (by omega)).trans c⟩, get_set_eq h1, (get_set_ne (by omega)).trans h2⟩
theorem recAt_set5 {C : Array Value} {i : Nat} {r : Rec} (h : recAt C i r) (n : Int) : recAt (C.setIfInBounds (i * 6 + 5) (.int .u64 n)) i { r with p := n } := by
  obtain ⟨⟨h0, l, t, u, a, b, c⟩, h1, h2⟩ := h
  exact ⟨⟨(get_set_ne (by omega)).trans h0, l, t, u, (get_set_ne (by omega)).trans a, (get_set_ne (by omega)).trans b, (get_set_ne (by omega)).trans c⟩, (get_set_ne (by omega)).trans h1, get_set_eq h2⟩
theorem recAt_else {C : Array Value} {i j k : Nat} {r : Rec} {v : Value} (h : recAt C i r) (hk : j * 6 ≤ k ∧ k < j * 6 + 6) (hij : i ≠ j) : recAt (C.setIfInBounds k v) i r := by
  obtain ⟨⟨h0, l, t, u, a, b, c⟩, h1, h2⟩ := h
  exact ⟨⟨(get_set_ne (by omega)).trans h0, l, t, u, (get_set_ne (by omega)).trans a, (get_set_ne (by omega)).trans b, (get_set_ne (by omega)).trans c⟩, (get_set_ne (by omega)).trans h1, (get_set_ne (by omega)).trans h2⟩
theorem recs_given {rs : List Rec} {C C' : Array Value} {i : Nat} {r : Rec} {n g p : Int} (hs : C.size = rs.length * 6) (h : ∀ i r, rs[i]? = some r → recAt C i r) (hr : rs[i]? = some r) (hc : Recell C (i * 6) (.int .u64 n) C') :
    ((C'.setIfInBounds (i * 6 + 4) (.int .u64 g)).setIfInBounds (i * 6 + 5) (.int .u64 p)).size = (rs.set i ⟨n, g, p⟩).length * 6 ∧
      ∀ j x, (rs.set i ⟨n, g, p⟩)[j]? = some x → recAt ((C'.setIfInBounds (i * 6 + 4) (.int .u64 g)).setIfInBounds (i * 6 + 5) (.int .u64 p)) j x := by
  obtain ⟨k1, k2⟩ := recs_recell hs h hr hc
  refine ⟨by rw [Array.size_setIfInBounds, Array.size_setIfInBounds, k1, List.length_set, List.length_set], fun j x hx => ?_⟩
  have hi := (List.getElem?_eq_some_iff.1 hr).1
  rw [List.getElem?_set] at hx
  by_cases e : i = j
  · subst e
    rw [if_pos rfl, if_pos hi] at hx
    cases hx
    have := k2 i _ (by rw [List.getElem?_set, if_pos rfl, if_pos hi])
    exact recAt_set5 (recAt_set4 this g) p
  · rw [if_neg e] at hx
    have := k2 j x (by rw [List.getElem?_set, if_neg e]; exact hx)
    exact recAt_else (j := i) (recAt_else (j := i) this ⟨by omega, by omega⟩ (fun x => e x.symm)) ⟨by omega, by omega⟩ (fun x => e x.symm)
theorem slabP_recell {C C' : Array Value} {rb n : Nat} {c : Int} (hs : C.size = 5) (h0 : C[0]? = some (.slice (some ⟨rb, 0, none⟩) n n)) (hc : Recell C 1 (.int .i64 c) C') : slabP rb n c (.cells C' 160 (0, 0)) :=
  ⟨C', rfl, hc.size.trans hs, (hc.other 0 (by omega)).trans h0, hc.cell⟩
end Go.Proofs.YtblhfbcodbjgcaaGreat

namespace Go.Proofs.YtblhfbcodbjgcaaGreat
set_option linter.unusedVariables false
set_option linter.unusedSimpArgs false
open Go.RowKit
theorem slabCount_does (sb rb : Nat) (s : SlabS) :
    Does Tryz.prog 23 #[.pointer (some ⟨sb, 0, none⟩)] (slabH sb rb s) fun e h' => e = .returned (.int .i64 s.count) ∧ h' = slabH sb rb s := by
  intro w hw
  obtain ⟨o, ⟨C, rfl, hs, h0, hc⟩, T0⟩ := (Turned.refl hw).openAt 0 rfl
  have T0 := Lib.hid T0
  have HC := Lib.hid (And.intro hs (And.intro h0 hc))
  clear hw hs h0 hc
  go_enter Tryz.func23, Tryz.ntmps23
  go_wp2_with (go_at_call 93; refine ((loadI_does sb 1 _ C s.count HC.out.2.2).at T0.out 0 rfl).mono ?_
               rintro e w1 ⟨h', ⟨rfl, C1, rfl, hr1⟩, T1⟩; have HR1 := Lib.hid hr1; clear hr1; have T1 := Lib.hid (T1 _ rfl))
  go_ret
  exact ⟨_, ⟨rfl, rfl⟩, T1.out.sayAt 0 rfl _ (fun o ho => by cases ho; exact slabP_recell HC.out.1 HC.out.2.1 HR1.out)⟩
theorem look_does (qb sb rb : Nat) (s : SlabS) (q : Req) :
    Does Tryz.prog 194 #[.pointer (some ⟨qb, 0, none⟩)] (reqH qb sb q :: slabH sb rb s) fun e h' => e = .returned (.tuple #[]) ∧ h' = reqH qb sb (lookR s q) :: slabH sb rb s := by
  intro w hw
  obtain ⟨o, ⟨C, rfl, hs, h0, hc⟩, T0⟩ := (Turned.refl hw).openAt 1 rfl
  have q0 := blk_cell (T0.blk 0 rfl)
  have hne : qb ≠ sb := T0.ne 0 1 rfl rfl (by decide)
  simp only [reqC] at q0
  have HT := Lib.hid T0
  have HC := Lib.hid (And.intro hs (And.intro h0 hc))
  clear hw hs h0 hc T0
  by_cases hk : (s.recs.length : Int) ≤ s.count
  · skip
    have HK := Lib.hid (show lookR s q = _ from if_pos hk)
    go_enter Tryz.func194, Tryz.ntmps194
    go_wp2_with (
      go_at_call 93
      refine ((loadI_does sb 1 _ C s.count HC.out.2.2).at HT.out 1 rfl).mono ?_
      rintro e w1 ⟨h', ⟨rfl, C1, rfl, hr1⟩, Ta⟩
      have T1 := Ta _ rfl
      clear Ta
      have q1 := blk_cell (T1.blk 0 rfl)
      have qf := blk_free (T1.blk 0 rfl)
      simp only [reqC] at q1
      have s1 := (blk_cell (T1.blk 1 rfl) 0).trans ((hr1.other 0 (by omega)).trans HC.out.2.1)
      have HR1 := Lib.hid hr1
      have HT1 := Lib.hid T1
      clear hr1 T1 q0)
    go_region
    go_wp2
    refine bodyPost_ret (results_none rfl _ _ _) rfl ⟨_, ⟨rfl, ?_⟩, (((HT1.out.setAt 0 rfl 3 _).drew).setAt 0 rfl 6 _).sayAt 1 rfl _ (fun o ho => by cases ho; exact slabP_recell HC.out.1 HC.out.2.1 HR1.out)⟩
    rw [HK.out]; rfl
  · skip
    have HK := Lib.hid (show lookR s q = _ from if_neg hk)
    go_enter Tryz.func194, Tryz.ntmps194
    go_wp2_with (
      go_at_call 93
      refine ((loadI_does sb 1 _ C s.count HC.out.2.2).at HT.out 1 rfl).mono ?_
      rintro e w1 ⟨h', ⟨rfl, C1, rfl, hr1⟩, Ta⟩
      have T1 := Ta _ rfl
      clear Ta
      have q1 := blk_cell (T1.blk 0 rfl)
      have qf := blk_free (T1.blk 0 rfl)
      simp only [reqC] at q1
      have s1 := (blk_cell (T1.blk 1 rfl) 0).trans ((hr1.other 0 (by omega)).trans HC.out.2.1)
      have HR1 := Lib.hid hr1
      have HT1 := Lib.hid T1
      clear hr1 T1 q0)
    go_region
    go_wp2
    refine bodyPost_end (results_none rfl _ _ _) rfl ⟨_, ⟨rfl, ?_⟩, (((HT1.out.setAt 0 rfl 3 _).drew).setAt 0 rfl 2 _).sayAt 1 rfl _ (fun o ho => by cases ho; exact slabP_recell HC.out.1 HC.out.2.1 HR1.out)⟩
    rw [HK.out]; rfl
end Go.Proofs.YtblhfbcodbjgcaaGreat
