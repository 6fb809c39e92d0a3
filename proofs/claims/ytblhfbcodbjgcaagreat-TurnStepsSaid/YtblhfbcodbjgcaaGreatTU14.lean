import Derived.Test.YtblhfbcodbjgcaaGreatTU10
import Derived.Test.YtblhfbcodbjgcaaGreatTU7
import Derived.Test.YtblhfbcodbjgcaaGreatTU2
import Derived.Test.YtblhfbcodbjgcaaGreatTU4
import Derived.Test.YtblhfbcodbjgcaaGreatTU6
import Derived.Test.YtblhfbcodbjgcaaGreatTU8
import Derived.Test.YtblhfbcodbjgcaaGreatTU13
namespace Go.Proofs.YtblhfbcodbjgcaaGreat
set_option linter.unusedVariables false
set_option linter.unusedSimpArgs false
open Go.RowKit Go.Shelf
set_option maxRecDepth 100000 in
theorem prog_done_v {c : Cli} (h : c.Vals) {s : c.S} {m d : Value} {g : List Blk} (hs : c.SV s m d g) (pb : Nat) (n : Int) : ReadsG Tryz.prog 102 #[ptr' pb] [Cli.progB pb m d n] (.bool s.isNil) := by
  cases hn : s.isNil with
  | true =>
    have : s = .nil := by cases s <;> first | rfl | cases hn
    subst this
    obtain ⟨rfl, rfl, rfl⟩ := Cli.SV.nil hs
    intro w hw
    have T0 := TG.refl hw
    have HT := Lib.hid T0
    clear hw T0
    have c1 := HT.out.cell 0 0 rfl 1
    simp only [Cli.progB, List.getElem?_toArray, List.getElem?_cons_zero, List.getElem?_cons_succ] at c1
    have q1 := fun w => fun_nil_M w
    clear hs h
    go_enter Tryz.func102, Tryz.ntmps102
    go_wp2
    go_ret
    exact ⟨rfl, 0, rfl⟩
  | false =>
    obtain ⟨fn, first, caps, rfl⟩ := h.do_ hn hs
    intro w hw
    have T0 := TG.refl hw
    have HT := Lib.hid T0
    clear hw T0
    have c1 := HT.out.cell 0 0 rfl 1
    simp only [Cli.progB, List.getElem?_toArray, List.getElem?_cons_zero, List.getElem?_cons_succ] at c1
    have q1 := fun w => fun_is_M (.func fn) first caps w
    clear hs h
    go_enter Tryz.func102, Tryz.ntmps102
    go_wp2
    go_ret
    exact ⟨rfl, 0, rfl⟩
structure CliE where
  M : Type
  A : Type
  Y : Type
  α : Type
  E : Type
  le : E → E → Prop
  rep : E → α → List Blk → List Blk → Prop
  VM : E → M → Value → List Blk → Prop
  VA : E → A → Value → List Blk → Prop
  VY : E → Y → Value → List Blk → Prop
  runM : M → α → St M A Y × α
  runA : A → α → α
  mayY : Y → α → Bool
  preM : M → α → Prop
  preA : A → α → Prop
  preY : Y → α → Prop
namespace CliE
variable (c : CliE)
def on (e : c.E) : Cli := ⟨c.M, c.A, c.Y, c.α, c.rep e, c.VM e, c.VA e, c.VY e, c.runM, c.runA, c.mayY, c.preM, c.preA, c.preY⟩
abbrev S : Type := St c.M c.A c.Y
def run (s : c.S) (x : c.α) : c.S × c.α := St.run c.runM c.runA s x
def pre (s : c.S) (x : c.α) : Prop := St.pre c.runM c.runA c.preM c.preA s x
def thn (s : c.S) (m : c.M) (x : c.α) : c.S × c.α := thenSt c.runM s m x
def SV (e : c.E) (s : c.S) (m d : Value) (g : List Blk) : Prop := (c.on e).SV s m d g
structure Ok : Prop where
  refl : ∀ e, c.le e e
  trans : ∀ {a b d}, c.le a b → c.le b d → c.le a d
  mm : ∀ {e e' : c.E} {f : c.M} {v : Value} {g : List Blk}, c.le e e' → c.VM e f v g → c.VM e' f v g
  ma : ∀ {e e' : c.E} {f : c.A} {v : Value} {g : List Blk}, c.le e e' → c.VA e f v g → c.VA e' f v g
  m : ∀ {e : c.E} {f : c.M} {v : Value} {g gK gF : List Blk} {x : c.α}, c.VM e f v g → c.rep e x gK gF → c.preM f x →
    FnG Tryz.prog v [g, gK, gF] fun en gs => ∃ e', c.le e e' ∧ ∃ m d g' gK' gF', en = .returned (.agg #[m, d]) ∧ c.SV e' (c.runM f x).1 m d g' ∧ c.rep e' (c.runM f x).2 gK' gF' ∧ gs = [g', gK', gF']
  a : ∀ {e : c.E} {f : c.A} {v : Value} {g gK gF : List Blk} {x : c.α}, c.VA e f v g → c.rep e x gK gF → c.preA f x →
    FnG Tryz.prog v [g, gK, gF] fun en gs => ∃ e', c.le e e' ∧ ∃ gK' gF', en = .returned (.tuple #[]) ∧ c.rep e' (c.runA f x) gK' gF' ∧ gs = [[], gK', gF']
  y : ∀ {e : c.E} {f : c.Y} {v : Value} {g gK gF : List Blk} {x : c.α}, c.VY e f v g → c.rep e x gK gF → c.preY f x →
    FnG Tryz.prog v [g, gK, gF] fun en gs => ∃ gK' gF', en = .returned (.bool (c.mayY f x)) ∧ c.rep e x gK' gF' ∧ gs = [g, gK', gF']
  v : ∀ e, (c.on e).Vals
variable {c}
theorem Ok.do_ (h : c.Ok) {e : c.E} {s : c.S} {m d : Value} {g : List Blk} (hs : s.isNil = false) (v : c.SV e s m d g) : ∃ fn first caps, d = .func (.func fn) first caps := (h.v e).do_ hs v
theorem Ok.vals (h : c.Ok) {e : c.E} {s : c.S} {m d : Value} {g : List Blk} (v : c.SV e s m d g) : Cli.isFv m ∧ Cli.isFv d := (h.v e).vals v
theorem Ok.vm (h : c.Ok) {e : c.E} {f : c.M} {v : Value} {g : List Blk} (hv : c.VM e f v g) : ∃ fn first caps, v = .func (.func fn) first caps := (h.v e).vm hv
theorem Ok.va (h : c.Ok) {e : c.E} {f : c.A} {v : Value} {g : List Blk} (hv : c.VA e f v g) : ∃ fn first caps, v = .func (.func fn) first caps := (h.v e).va hv
set_option maxRecDepth 100000 in
theorem prog_then (h : c.Ok) {e : c.E} {s : c.S} {f : c.M} {m d v : Value} {g gm gK gF : List Blk} {x : c.α} (hs : c.SV e s m d g) (hm : c.VM e f v gm) (hx : c.rep e x gK gF) (hp : s.isNil = true → c.preM f x) :
    DoesG Tryz.prog 191 #[.agg #[m, d], v] [g, gm, gK, gF] fun en gs => ∃ e', c.le e e' ∧ ∃ m' d' g' gK' gF', en = .returned (.agg #[m', d']) ∧ c.SV e' (c.thn s f x).1 m' d' g' ∧ c.rep e' (c.thn s f x).2 gK' gF' ∧ gs = [g', gK', gF'] := by
  cases hn : s.isNil with
  | true =>
    have : s = .nil := by cases s <;> first | rfl | cases hn
    subst this
    obtain ⟨rfl, rfl, rfl⟩ := Cli.SV.nil (c := c.on e) hs
    obtain ⟨fn, first, caps, rfl, eg, hd⟩ := h.m hm hx (hp rfl)
    intro w hw
    have T0 := TG.refl hw
    have HT := Lib.hid T0
    clear hw T0
    have HD := Lib.hid hd
    have HV := Lib.hid (show ∀ e' (s : c.S) m d g, c.SV e' s m d g → Cli.isFv m ∧ Cli.isFv d from fun _ _ _ _ _ hv => h.vals hv)
    clear hd hm hx hp hs h
    have q1 := fun w => fun_nil_M w
    go_enter Tryz.func191, Tryz.ntmps191
    go_wp2_with fail
    refine (DoesG.use (HD.out) (((HT.out.alloc (k := w.heap.size) rfl _ _).alloc (k := w.heap.size + 1) (by simp) _ _).alloc (k := w.heap.size + 1 + 1) (by simp) _ _) [1, 2, 3] rfl rfl).mono ?_
    rintro en w1 ⟨gs, ⟨e', hle, m', d', g', gK', gF', rfl, hs', hx', rfl⟩, Ta⟩
    simp only [putG, List.set_cons_zero, List.set_cons_succ, List.cons_append, List.nil_append, List.append_nil] at Ta
    have c0 := Ta.cell 6 0 rfl 0
    have c1 := Ta.cell 6 0 rfl 1
    have f0 := Ta.free 6 0 rfl 0
    have f1 := Ta.free 6 0 rfl 1
    have HT := Lib.hid Ta
    have HS := Lib.hid hs'
    have HX := Lib.hid hx'
    have HLE := Lib.hid hle
    obtain ⟨v1, v2⟩ := HV.out _ _ _ _ _ hs'
    clear Ta hs' hx' hle
    rcases v1 with rfl | ⟨fn1, first1, caps1, rfl⟩ <;> rcases v2 with rfl | ⟨fn2, first2, caps2, rfl⟩
    all_goals
      go_wp2
      exact bodyPost_ret (v := .agg #[_, _]) (by simp [results, Tryz.results191, go_sem, c0, c1]) rfl ⟨_, ⟨e', HLE.out, _, _, g', gK', gF', rfl, HS.out, HX.out, rfl⟩, ((HT.out.set 6 0 rfl 0 _).set 6 0 rfl 1 _).pick [1, 2, 3] rfl⟩
  | false =>
    have e1 : c.thn s f x = (.thn s f, x) := by cases s <;> first | rfl | cases hn
    rw [e1]
    intro w hw
    refine (DoesG.use (Cli.prog_then_cons (c := c.on e) (h.v e) hn hs hm) (TG.refl hw) [0, 1] rfl rfl).mono ?_
    rintro en w' ⟨gs, ⟨m', d', g', he, hs', rfl⟩, T⟩
    exact ⟨_, ⟨e, h.refl e, m', d', g', gK, gF, he, hs', hx, rfl⟩, T.pick [0, 2, 3] rfl⟩
def DoR (c : CliE) (e : c.E) (s : c.S) (x : c.α) (en : Ending) (gs : GH) : Prop :=
  ∃ e', c.le e e' ∧ ∃ m d g gK gF, en = .returned (.agg #[m, d]) ∧ c.SV e' (c.run s x).1 m d g ∧ c.rep e' (c.run s x).2 gK gF ∧ gs = [g, gK, gF]
set_option maxRecDepth 100000 in
theorem prog_row1 (h : c.Ok) {e : c.E} {a : c.A} {m d : Value} {g gK gF : List Blk} {x : c.α} (hs : c.SV e (.row1 a) m d g) (hx : c.rep e x gK gF) (hp : c.preA a x) : FnG Tryz.prog d [g, gK, gF] (DoR c e (.row1 a) x) := by
  obtain ⟨rfl, bf, bl, bi, b, o, D, va, ga, rfl, hva, hD, rfl⟩ := hs
  obtain ⟨fn, first, caps, rfl, eg, hd⟩ := h.a hva hx hp
  refine ⟨_, _, _, rfl, enters_of Tryz.func188 (by kernel_rfl) rfl, ?_⟩
  intro w hw
  have T0 := TG.refl hw
  have HT := Lib.hid T0
  clear hw T0
  have HT := Lib.hid (HT.out.sum (H' := [[cl bf 1 #[.func (.func fn) first caps]], [cl bl 303 #[.slice (some ⟨b, o, none⟩) 1 1]], [cl bi 3 #[.int .i64 0]], [cl b 1 D], ga, gK, gF]) (fun n ha h0 h1 h2 => by simp only [SU, ha, h0, h1, h2] <;> omega))
  have c0 := HT.out.cell 0 0 rfl 0
  have lt0 := HT.out.lt 0 0 rfl
  simp only [] at lt0
  have HD := Lib.hid hd
  clear hd hx hp hva h
  simp only [List.getElem?_toArray, List.getElem?_cons_zero] at c0
  go_enter Tryz.func188, Tryz.ntmps188
  go_wp2_with fail
  refine (DoesG.use (HD.out) (HT.out.alloc (k := w.heap.size) rfl _ _) [4, 5, 6] rfl rfl).mono ?_
  rintro e w1 ⟨gs, ⟨e', hle, gK', gF', rfl, hx', rfl⟩, Ta⟩
  simp only [PU] at Ta
  have c1 := Ta.cell 1 0 rfl 0
  have c2 := Ta.cell 2 0 rfl 0
  have HX := Lib.hid (And.intro hle hx')
  clear hx' hle c0
  simp only [List.getElem?_toArray, List.getElem?_cons_zero] at c1 c2
  have HT := Lib.hid Ta
  clear Ta
  go_wp2_with fail
  refine (DoesG.use (Cli.row_nil _ _) (HT.out) [] rfl rfl).mono ?_
  rintro e w1 ⟨gs, ⟨rfl, rfl⟩, Ta⟩
  simp only [PU] at Ta
  have e0 := Ta.cell 7 0 rfl 0
  have e1 := Ta.cell 7 0 rfl 1
  have f0 := Ta.free 7 0 rfl 0
  have f1 := Ta.free 7 0 rfl 1
  clear c1 c2
  have HT := Lib.hid Ta
  clear Ta
  go_wp2
  exact bodyPost_ret (v := .agg #[.nilFunc, .nilFunc]) (by simp [results, Tryz.results188, go_sem, e0, e1]) rfl ⟨_, ⟨e', HX.out.1, _, _, [], gK', gF', rfl, ⟨rfl, rfl, rfl⟩, HX.out.2, rfl⟩, ((HT.out.set 7 0 rfl 0 _).set 7 0 rfl 1 _).pick [4, 5, 6] rfl⟩
set_option maxRecDepth 100000 in
theorem prog_row2 (h : c.Ok) {e : c.E} {a a' : c.A} {m d : Value} {g gK gF : List Blk} {x : c.α} (hs : c.SV e (.row2 a a') m d g) (hx : c.rep e x gK gF) (hp : c.preA a x) : FnG Tryz.prog d [g, gK, gF] (DoR c e (.row2 a a') x) := by
  obtain ⟨rfl, bf, bl, bi, b, va, va', ga, ga', rfl, hva, hva', rfl⟩ := hs
  obtain ⟨fn, first, caps, rfl, eg, hd⟩ := h.a hva hx hp
  obtain ⟨fn', first', caps', rfl⟩ := h.va hva'
  refine ⟨_, _, _, rfl, enters_of Tryz.func188 (by kernel_rfl) rfl, ?_⟩
  intro w hw
  have T0 := TG.refl hw
  have HT := Lib.hid T0
  clear hw T0
  have HT := Lib.hid (HT.out.sum (H' := [[cl bf 1 #[.func (.func fn) first caps]], [cl bl 303 #[.slice (some ⟨b, 0, none⟩) 2 2]], [cl bi 3 #[.int .i64 0]], [cl b 1 #[.func (.func fn) first caps, .func (.func fn') first' caps']], ga, gK, gF, ga']) (fun n ha h0 h1 h2 => by simp only [SU, ha, h0, h1, h2] <;> omega))
  have c0 := HT.out.cell 0 0 rfl 0
  have lt0 := HT.out.lt 0 0 rfl
  simp only [] at lt0
  have HD := Lib.hid hd
  have HA := Lib.hid (show ∀ e', c.le e e' → c.VA e' a' (.func (.func fn') first' caps') ga' from fun e' hl => h.ma hl hva')
  clear hd hx hp hva hva' h
  simp only [List.getElem?_toArray, List.getElem?_cons_zero] at c0
  go_enter Tryz.func188, Tryz.ntmps188
  go_wp2_with fail
  refine (DoesG.use (HD.out) (HT.out.alloc (k := w.heap.size) rfl _ _) [4, 5, 6] rfl rfl).mono ?_
  rintro e w1 ⟨gs, ⟨e', hle, gK', gF', rfl, hx', rfl⟩, Ta⟩
  simp only [PU] at Ta
  have c1 := Ta.cell 1 0 rfl 0
  have c2 := Ta.cell 2 0 rfl 0
  have HX := Lib.hid (And.intro hle hx')
  clear hx' hle c0
  simp only [List.getElem?_toArray, List.getElem?_cons_zero] at c1 c2
  have HT := Lib.hid Ta
  clear Ta
  go_wp2_with fail
  refine (DoesG.use (Cli.row_1 (D := #[.func (.func fn) first caps, .func (.func fn') first' caps']) (o := 1) rfl 1 (.inl rfl)) (HT.out) [3] rfl rfl).mono ?_
  rintro e w1 ⟨gs, ⟨bf', bl', bi', rfl, rfl⟩, Ta⟩
  simp only [PU] at Ta
  have e0 := Ta.cell 8 0 rfl 0
  have e1 := Ta.cell 8 0 rfl 1
  have f0 := Ta.free 8 0 rfl 0
  have f1 := Ta.free 8 0 rfl 1
  clear c1 c2
  have HT := Lib.hid Ta
  clear Ta
  go_wp2
  exact bodyPost_ret (v := .agg #[.nilFunc, _]) (by simp [results, Tryz.results188, go_sem, e0, e1]) rfl ⟨_, ⟨e', HX.out.1, _, _, _, gK', gF', rfl, ⟨rfl, bf', bl', bi', b, 1, #[.func (.func fn) first caps, .func (.func fn') first' caps'], _, ga', rfl, HA.out e' HX.out.1, rfl, rfl⟩, HX.out.2, rfl⟩, (((HT.out.set 8 0 rfl 0 _).set 8 0 rfl 1 _).pick [3, 5, 6, 7, 9, 10, 11] rfl).sum (fun n ha h0 h1 h2 => by simp only [SU, ha, h0, h1, h2] <;> omega)⟩
set_option maxRecDepth 100000 in
theorem prog_thn (h : c.Ok) {e : c.E} {s : c.S} {f : c.M} {m d : Value} {g gK gF : List Blk} {x : c.α} (hs : c.SV e (.thn s f) m d g) (hx : c.rep e x gK gF)
    (hi : ∀ {m d : Value} {g : List Blk}, c.SV e s m d g → FnG Tryz.prog d [g, gK, gF] (DoR c e s x)) (hp : (c.run s x).1.isNil = true → c.preM f (c.run s x).2) : FnG Tryz.prog d [g, gK, gF] (DoR c e (.thn s f) x) := by
  obtain ⟨bs, br, ds, vm, gs, gm, rfl, hn, hv, hm, rfl⟩ := hs
  obtain ⟨fn, first, caps, rfl, eg, hd⟩ := hi hv
  obtain ⟨fn', first', caps', rfl⟩ := h.vm hm
  have key : ∀ e1 m' d' g' gK' gF', c.le e e1 → c.SV e1 (c.run s x).1 m' d' g' → c.rep e1 (c.run s x).2 gK' gF' → DoesG Tryz.prog 191 #[.agg #[m', d'], .func (.func fn') first' caps'] [g', gm, gK', gF'] (DoR c e (.thn s f) x) :=
    fun e1 m' d' g' gK' gF' hl h1 h2 => (prog_then h h1 (h.mm hl hm) h2 hp).mono fun en gs ⟨e', hl', hr⟩ => ⟨e', h.trans hl hl', hr⟩
  refine ⟨_, _, _, rfl, enters_of Tryz.func226 (by kernel_rfl) rfl, ?_⟩
  intro w hw
  have T0 := TG.refl hw
  have HT := Lib.hid T0
  clear hw T0
  have HT := Lib.hid (HT.out.sum (H' := [[cl bs 148 #[m, .func (.func fn) first caps]], [cl br 146 #[.func (.func fn') first' caps']], gs, gK, gF, gm]) (fun n ha h0 h1 h2 => by simp only [SU, ha, h0, h1, h2] <;> omega))
  have c0 := HT.out.cell 0 0 rfl 1
  have c1 := HT.out.cell 1 0 rfl 0
  have lt0 := HT.out.lt 0 0 rfl
  have lt1 := HT.out.lt 1 0 rfl
  simp only [] at lt0 lt1
  have HD := Lib.hid hd
  have HK := Lib.hid key
  have HV := Lib.hid (show ∀ e' (s : c.S) m d g, c.SV e' s m d g → Cli.isFv m ∧ Cli.isFv d from fun _ _ _ _ _ hv => h.vals hv)
  clear hd hx hp hv hm hn hi key
  simp only [List.getElem?_toArray, List.getElem?_cons_zero, List.getElem?_cons_succ] at c0 c1
  go_enter Tryz.func226, Tryz.ntmps226
  go_wp2_with fail
  have HT := Lib.hid (HT.out.alloc (k := w.heap.size) rfl 148 #[.nilFunc, .nilFunc])
  go_region_with (first
    | (go_at_call 191
       refine (DoesG.use (HK.out _ _ _ _ _ _ HL1.out HS1.out HX1.out) (HT1.out) [2, 5, 3, 4] rfl rfl).mono ?_
       rintro en w2 ⟨gs, ⟨e2, hl2, m2, d2, g2, gK2, gF2, rfl, hs2, hx2, rfl⟩, Ta⟩
       simp only [putG, List.set_cons_zero, List.set_cons_succ, List.cons_append, List.nil_append, List.append_nil] at Ta
       have e0 := Ta.cell 6 0 rfl 0
       have e1 := Ta.cell 6 0 rfl 1
       have f0 := Ta.free 6 0 rfl 0
       have f1 := Ta.free 6 0 rfl 1
       have hv2 := HV.out _ _ _ _ _ hs2
       obtain ⟨st1, st2⟩ := Cli.store_fv2 (P := Tryz.prog) hv2.1 hv2.2 e0 f0 e1 f1
       clear hv2
       have HS2 := Lib.hid hs2
       have HX2 := Lib.hid (And.intro hl2 hx2)
       have HT2 := Lib.hid Ta
       clear Ta hs2 hx2 hl2)
    | (refine (DoesG.use (HD.out) (HT.out.drew) [2, 3, 4] rfl rfl).mono ?_
       rintro en w1 ⟨gs, ⟨en1, hl1, m1, d1, g1, gK1, gF1, rfl, hs1, hx1, rfl⟩, Ta⟩
       simp only [putG, List.set_cons_zero, List.set_cons_succ, List.cons_append, List.nil_append, List.append_nil] at Ta
       have c2 := Ta.cell 1 0 rfl 0
       simp only [List.getElem?_toArray, List.getElem?_cons_zero, List.getElem?_cons_succ] at c2
       have HS1 := Lib.hid hs1
       have HX1 := Lib.hid hx1
       have HL1 := Lib.hid hl1
       have HT1 := Lib.hid Ta
       clear Ta hs1 hx1 hl1))
  all_goals
    go_wp2
    exact bodyPost_ret (v := .agg #[_, _]) (by simp [results, Tryz.results226, go_sem, e0, e1]) rfl ⟨_, ⟨e2, HX2.out.1, m2, d2, g2, gK2, gF2, rfl, HS2.out, HX2.out.2, rfl⟩, ((HT2.out.set 6 0 rfl 0 _).set 6 0 rfl 1 _).pick [2, 5, 3] rfl⟩
theorem prog_do (h : c.Ok) : ∀ {e : c.E} {s : c.S} {m d : Value} {g gK gF : List Blk} {x : c.α}, s.isNil = false → c.SV e s m d g → c.rep e x gK gF → c.pre s x → FnG Tryz.prog d [g, gK, gF] (DoR c e s x)
  | _, .nil, _, _, _, _, _, _, hn, _, _, _ => by cases hn
  | _, .at none f, _, _, _, _, _, _, _, hs, hx, hp => h.m hs.2 hx hp
  | _, .at (some y) f, _, _, _, gK, gF, _, _, hs, hx, hp => by
    obtain ⟨g1, g2, h1, h2, rfl⟩ := hs
    obtain ⟨fn, first, caps, hv, eg, hd⟩ := h.m h2 hx hp
    refine ⟨fn, first, caps, hv, eg, fun w hw => ?_⟩
    have T := (TG.refl hw).sum (H' := [g1, g2, gK, gF]) (fun n ha h0 h1 h2 => by simp only [SU, ha, h0, h1, h2] <;> omega)
    refine (DoesG.use hd T [1, 2, 3] rfl rfl).mono ?_
    rintro en w' ⟨gs, ⟨e', hl, m', d', g', gK', gF', he, hs', hx', rfl⟩, T'⟩
    exact ⟨_, ⟨e', hl, m', d', g', gK', gF', he, hs', hx', rfl⟩, T'.pick [1, 2, 3] rfl⟩
  | _, .row1 a, _, _, _, _, _, _, _, hs, hx, hp => prog_row1 h hs hx hp
  | _, .row2 a b, _, _, _, _, _, _, _, hs, hx, hp => prog_row2 h hs hx hp
  | _, .thn s f, _, _, _, _, _, _, _, hs, hx, hp => by
    have hs' := hs
    obtain ⟨bs, br, ds, vm, gs, gm, _, hn, _⟩ := hs'
    exact prog_thn h hs hx (fun hv => prog_do h hn hv hx hp.1) hp.2
def MayR (c : CliE) (e : c.E) (s : c.S) (x : c.α) (g : List Blk) (en : Ending) (gs : GH) : Prop := ∃ gK gF, en = .returned (.bool (s.may c.mayY x)) ∧ c.rep e x gK gF ∧ gs = [g, gK, gF]
theorem may_nil : ∀ {e : c.E} {s : c.S} {d : Value} {g : List Blk} {x : c.α}, c.Ok → s.isNil = false → c.SV e s .nilFunc d g → s.may c.mayY x = true
  | _, .nil, _, _, _, _, hn, _ => by cases hn
  | _, .at none _, _, _, _, _, _, _ => rfl
  | e, .at (some y) _, _, _, _, h, _, v => by
    obtain ⟨g1, g2, h1, _⟩ := v
    obtain ⟨_, _, _, he⟩ := (h.v e).vy h1
    cases he
  | _, .row1 _, _, _, _, _, _, _ => rfl
  | _, .row2 _ _, _, _, _, _, _, _ => rfl
  | _, .thn s _, _, _, _, h, _, v => by
    obtain ⟨bs, br, ds, vm, gs, gm, _, hn, hv, _⟩ := v
    exact may_nil (s := s) h hn hv
theorem may_fun (h : c.Ok) : ∀ {e : c.E} {s : c.S} {f : Fn} {a b : Array Value} {d : Value} {g gK gF : List Blk} {x : c.α}, c.SV e s (.func f a b) d g → c.rep e x gK gF → s.preY c.preY x → FnG Tryz.prog (.func f a b) [g, gK, gF] (MayR c e s x g)
  | _, .nil, _, _, _, _, _, _, _, _, v, _, _ => by cases v.1
  | _, .at none _, _, _, _, _, _, _, _, _, v, _, _ => by cases v.1
  | _, .at (some y) _, _, _, _, _, _, gK, gF, _, v, hx, hp => by
    obtain ⟨g1, g2, h1, h2, rfl⟩ := v
    obtain ⟨fn, first, caps, hv, eg, hd⟩ := h.y h1 hx hp
    refine ⟨fn, first, caps, hv, eg, fun w hw => ?_⟩
    have T := (TG.refl hw).sum (H' := [g1, g2, gK, gF]) (fun n ha h0 h1 h2 => by simp only [SU, ha, h0, h1, h2] <;> omega)
    refine (DoesG.use hd T [0, 2, 3] rfl rfl).mono ?_
    rintro en w' ⟨gs, ⟨gK', gF', he, hx', rfl⟩, T'⟩
    exact ⟨_, ⟨gK', gF', he, hx', rfl⟩, TG.sum (H := [g1, g2, gK', gF']) T' (fun n ha h0 h1 h2 => by simp only [SU, ha, h0, h1, h2] <;> omega)⟩
  | _, .row1 _, _, _, _, _, _, _, _, _, v, _, _ => by cases v.1
  | _, .row2 _ _, _, _, _, _, _, _, _, _, v, _, _ => by cases v.1
  | _, .thn s _, f, a, b, _, _, gK, gF, _, v, hx, hp => by
    obtain ⟨bs, br, ds, vm, gs, gm, _, hn, hv, _, rfl⟩ := v
    obtain ⟨fn, first, caps, hv', eg, hd⟩ := may_fun h hv hx hp
    refine ⟨fn, first, caps, hv', eg, fun w hw => ?_⟩
    have T := (TG.refl hw).sum (H' := [[cl bs 148 #[.func f a b, ds], cl br 146 #[vm]], gs, gm, gK, gF]) (fun n ha h0 h1 h2 => by simp only [SU, ha, h0, h1, h2] <;> omega)
    refine (DoesG.use hd T [1, 3, 4] rfl rfl).mono ?_
    rintro en w' ⟨gs', ⟨gK', gF', he, hx', rfl⟩, T'⟩
    exact ⟨_, ⟨gK', gF', he, hx', rfl⟩, TG.sum (H := [[cl bs 148 #[.func f a b, ds], cl br 146 #[vm]], gs, gm, gK', gF']) T' (fun n ha h0 h1 h2 => by simp only [SU, ha, h0, h1, h2] <;> omega)⟩
open Cli (progB)
theorem prog_done (h : c.Ok) {e : c.E} {s : c.S} {m d : Value} {g : List Blk} (hs : c.SV e s m d g) (pb : Nat) (n : Int) : ReadsG Tryz.prog 102 #[ptr' pb] [progB pb m d n] (.bool s.isNil) :=
  prog_done_v (h.v e) hs pb n
set_option maxRecDepth 100000 in
theorem prog_may (h : c.Ok) {e : c.E} {s : c.S} {m d : Value} {g gK gF : List Blk} {x : c.α} (hs : c.SV e s m d g) (hx : c.rep e x gK gF) (hp : s.preY c.preY x) (pb : Nat) (n : Int) :
    DoesG Tryz.prog 101 #[ptr' pb] [progB pb m d n, g, gK, gF] fun en gs => ∃ gK' gF', en = .returned (.bool (s.may c.mayY x)) ∧ c.rep e x gK' gF' ∧ gs = [progB pb m d n, g, gK', gF'] := by
  have hd := prog_done h hs pb n
  cases hn : s.isNil with
  | true =>
    have : s = .nil := by cases s <;> first | rfl | cases hn
    subst this
    rw [hn] at hd
    intro w hw
    have T0 := TG.refl hw
    have HT := Lib.hid T0
    clear hw T0
    have HD := Lib.hid hd
    have HX := Lib.hid hx
    clear hs h hd hn hp hx
    go_enter Tryz.func101, Tryz.ntmps101
    go_wp2_with fail
    refine (ReadsG.use (HD.out) (HT.out) [0] rfl rfl).mono ?_
    rintro e w1 ⟨rfl, mq, rfl⟩
    have HT := Lib.hid (HT.out.drewN mq)
    go_wp2
    go_ret
    exact ⟨_, ⟨gK, gF, rfl, HX.out, rfl⟩, HT.out⟩
  | false =>
    rw [hn] at hd
    obtain ⟨v1, _⟩ := h.vals hs
    rcases v1 with rfl | ⟨fn1, first1, caps1, rfl⟩
    · have hm := may_nil (x := x) h hn hs
      rw [hm]
      intro w hw
      have T0 := TG.refl hw
      have HT := Lib.hid T0
      clear hw T0
      have c0 := HT.out.cell 0 0 rfl 0
      simp only [progB, List.getElem?_toArray, List.getElem?_cons_zero, List.getElem?_cons_succ] at c0
      have HD := Lib.hid hd
      have HX := Lib.hid hx
      have q1 := fun w => fun_nil_Y w
      clear hs h hd hn hp hx hm
      go_enter Tryz.func101, Tryz.ntmps101
      go_wp2_with fail
      refine (ReadsG.use (HD.out) (HT.out) [0] rfl rfl).mono ?_
      rintro e w1 ⟨rfl, mq, rfl⟩
      have HT := Lib.hid (HT.out.drewN mq)
      go_wp2
      go_ret
      exact ⟨_, ⟨gK, gF, rfl, HX.out, rfl⟩, HT.out⟩
    · obtain ⟨fn, first, caps, hv, eg, hf⟩ := may_fun h hs hx hp
      obtain ⟨rfl, rfl, rfl⟩ : fn1 = fn ∧ first1 = first ∧ caps1 = caps := by
        cases hv
        exact ⟨rfl, rfl, rfl⟩
      obtain ⟨b, hb⟩ : ∃ b, s.may c.mayY x = b := ⟨_, rfl⟩
      unfold MayR at hf
      rw [hb] at hf ⊢
      intro w hw
      have T0 := TG.refl hw
      have HT := Lib.hid T0
      clear hw T0
      have c0 := HT.out.cell 0 0 rfl 0
      simp only [progB, List.getElem?_toArray, List.getElem?_cons_zero, List.getElem?_cons_succ] at c0
      have HD := Lib.hid hd
      have HF := Lib.hid hf
      have q1 := fun w => fun_is_Y (.func fn1) first1 caps1 w
      clear hs h hd hn hp hx hb hf hv
      go_enter Tryz.func101, Tryz.ntmps101
      go_wp2_with fail
      refine (ReadsG.use (HD.out) (HT.out) [0] rfl rfl).mono ?_
      rintro e w1 ⟨rfl, mq, rfl⟩
      have HT := Lib.hid (HT.out.drewN mq)
      go_wp2_with fail
      refine (DoesG.use (HF.out) (HT.out) [1, 2, 3] rfl rfl).mono ?_
      rintro e w1 ⟨gs, ⟨gK', gF', rfl, hx', rfl⟩, Ta⟩
      simp only [PU] at Ta
      have HX := Lib.hid hx'
      clear hx'
      have HT := Lib.hid Ta
      clear Ta
      go_wp2
      go_ret
      exact ⟨_, ⟨gK', gF', rfl, HX.out, rfl⟩, HT.out⟩
def StepR (c : CliE) (e : c.E) (pb : Nat) (n : Int) (s : c.S) (x : c.α) (en : Ending) (gs : GH) : Prop :=
  ∃ e', c.le e e' ∧ ∃ m d g gK gF, en = .returned (.bool true) ∧ c.SV e' (c.run s x).1 m d g ∧ c.rep e' (c.run s x).2 gK gF ∧ gs = [progB pb m d (n + 1), g, gK, gF]
set_option maxRecDepth 100000 in
theorem prog_step_no (h : c.Ok) {e : c.E} {s : c.S} {m d : Value} {g gK gF : List Blk} {x : c.α} (hs : c.SV e s m d g) (hx : c.rep e x gK gF) (hp : s.preY c.preY x) (pb : Nat) (n : Int) (hm : s.may c.mayY x = false) :
    DoesG Tryz.prog 90 #[ptr' pb] [progB pb m d n, g, gK, gF] fun en gs => ∃ gK' gF', en = .returned (.bool false) ∧ c.rep e x gK' gF' ∧ gs = [progB pb m d n, g, gK', gF'] := by
  have hd := prog_may h hs hx hp pb n
  rw [hm] at hd
  intro w hw
  have T0 := TG.refl hw
  have HT := Lib.hid T0
  clear hw T0
  have HD := Lib.hid hd
  clear hs h hd hp hx hm
  go_enter Tryz.func90, Tryz.ntmps90
  go_wp2_with fail
  refine (DoesG.use (HD.out) (HT.out) [0, 1, 2, 3] rfl rfl).mono ?_
  rintro e w1 ⟨gs, ⟨gK', gF', rfl, hx', rfl⟩, Ta⟩
  simp only [PU] at Ta
  have HX := Lib.hid hx'
  clear hx'
  have HT := Lib.hid Ta
  clear Ta
  go_wp2
  go_ret
  exact ⟨_, ⟨gK', gF', rfl, HX.out, rfl⟩, HT.out⟩
set_option maxRecDepth 100000 in
theorem prog_step (h : c.Ok) {e : c.E} {s : c.S} {m d : Value} {g gK gF : List Blk} {x : c.α} (hs : c.SV e s m d g) (hx : c.rep e x gK gF) (hp : s.preY c.preY x) (hq : c.pre s x) (pb : Nat) (n : Int) (hn : 0 ≤ n ∧ n ≤ 1000000000) (hm : s.may c.mayY x = true) :
    DoesG Tryz.prog 90 #[ptr' pb] [progB pb m d n, g, gK, gF] (StepR c e pb n s x) := by
  have hd := prog_may h hs hx hp pb n
  rw [hm] at hd
  have hni : s.isNil = false := by cases s <;> first | rfl | cases hm
  have hdo : ∀ gK' gF', c.rep e x gK' gF' → FnG Tryz.prog d [g, gK', gF'] (DoR c e s x) := fun _ _ hx' => prog_do h hni hs hx' hq
  obtain ⟨fn, first, caps, rfl⟩ := h.do_ hni hs
  have HV := Lib.hid (show ∀ e' (s : c.S) m d g, c.SV e' s m d g → Cli.isFv m ∧ Cli.isFv d from fun _ _ _ _ _ hv => h.vals hv)
  intro w hw
  have T0 := TG.refl hw
  have HT := Lib.hid T0
  clear hw T0
  have HD := Lib.hid hd
  have HO := Lib.hid hdo
  obtain ⟨hn0, hn1⟩ := hn
  clear hs h hd hp hx hm hq hni hdo
  go_enter Tryz.func90, Tryz.ntmps90
  go_wp2_with fail
  refine (DoesG.use (HD.out) (HT.out) [0, 1, 2, 3] rfl rfl).mono ?_
  rintro e w1 ⟨gs, ⟨gK1, gF1, rfl, hx', rfl⟩, Ta⟩
  simp only [PU] at Ta
  have c1 := Ta.cell 0 0 rfl 1
  have c2 := Ta.cell 0 0 rfl 2
  have f2 := Ta.free 0 0 rfl 2
  have hf := HO.out _ _ hx'
  clear hx'
  simp only [List.getElem?_toArray, List.getElem?_cons_zero, List.getElem?_cons_succ] at c1 c2
  have HT := Lib.hid Ta
  clear Ta
  obtain ⟨fn', first', caps', hv, eg, hf⟩ := hf
  obtain ⟨rfl, rfl, rfl⟩ : fn = fn' ∧ first = first' ∧ caps = caps' := by
    cases hv
    exact ⟨rfl, rfl, rfl⟩
  have HF := Lib.hid hf
  clear hf hv
  go_wp2_with fail
  refine (DoesG.use (HF.out) (HT.out.set 0 0 rfl 2 (.int .i64 (n + 1))) [1, 2, 3] rfl rfl).mono ?_
  rintro e w1 ⟨gs, ⟨e', hle, m', d', g', gK', gF', rfl, hs', hx', rfl⟩, Ta⟩
  simp only [PU] at Ta
  have e0 := Ta.cell 0 0 rfl 0
  have e1 := Ta.cell 0 0 rfl 1
  have f0 := Ta.free 0 0 rfl 0
  have f1 := Ta.free 0 0 rfl 1
  have hv2 := HV.out _ _ _ _ _ hs'
  obtain ⟨st1, st2⟩ := Cli.store_fv2 (P := Tryz.prog) hv2.1 hv2.2 e0 f0 e1 f1
  have HS := Lib.hid hs'
  have HX := Lib.hid (And.intro hle hx')
  clear hs' hx' hle hv2
  have HT := Lib.hid Ta
  clear Ta
  go_wp2
  go_ret
  exact ⟨_, ⟨e', HX.out.1, m', d', g', gK', gF', rfl, HS.out, HX.out.2, rfl⟩, (HT.out.set 0 0 rfl 0 _).set 0 0 rfl 1 _⟩
end CliE
end Go.Proofs.YtblhfbcodbjgcaaGreat

namespace Go.Proofs.YtblhfbcodbjgcaaGreat
set_option linter.unusedVariables false
set_option linter.unusedSimpArgs false
open Go.RowKit Go.Shelf
section
variable {rb sb : Nat} {r : RingS} {C D : Array Value} {g : List Blk}
set_option maxRecDepth 100000 in
theorem ringReady_g (hg : isRing rb r g) (hr : RingB r) : DoesG Tryz.prog 143 #[ptr' rb] [g] fun e gs => e = .returned (.bool r.ready) ∧ ∃ g', isRing rb r g' ∧ gs = [g'] := by
  obtain ⟨sb, C, D, rfl, hC, hD⟩ := hg.open
  obtain ⟨ha, hal, hav⟩ := ring_at hr.n0 r.head
  intro w hw
  have T0 := TG.refl hw
  have HT := Lib.hid T0
  clear hw T0
  have HT := Lib.hid (HT.out.eq (H' := [[cl rb 231 C], [cl sb 233 D]]) rfl)
  have HA := Lib.hid (show ∀ C', ringC sb r C' → _ from fun C' hC' => (ringAt_r (rb := rb) hC' hr r.head hr.h0 hr.h1).does)
  have HS := Lib.hid (show ∀ D', slotsD r.slots D' → cellAt D' (r.at r.head * 9) (.int .i64 (r.slot r.head).seq) from fun D' h => (h.at_ _ _ ha).1)
  have HK := Lib.hid ha
  have h0 := hr.h0
  have h1 := hr.h1
  have HR := Lib.hid (show r.ready = ((r.slot r.head).seq == 2 * r.head + 1) from rfl)
  have HC := Lib.hid hC
  have HD := Lib.hid hD
  clear hg hr hC hD ha hal hav
  go_enter Tryz.func143, Tryz.ntmps143
  go_wp2_with fail
  obtain ⟨ι, W, hW0, hend, hin⟩ : ∃ (ι : Type) (W : ι → World), (∃ i, World.drew _ = W i) ∧ (∀ i, ∃ Cx Dx, (ringC sb r Cx ∧ slotsD r.slots Dx) ∧ TG [[cl rb 231 C, cl sb 233 D]] w [[cl rb 231 Cx], [cl sb 233 Dx]] (W i)) ∧ (∀ w', (∃ Cx Dx, (ringC sb r Cx ∧ slotsD r.slots Dx) ∧ TG [[cl rb 231 C, cl sb 233 D]] w [[cl rb 231 Cx], [cl sb 233 Dx]] w') → ∃ i, w' = W i) := ⟨{w' // ∃ Cx Dx, (ringC sb r Cx ∧ slotsD r.slots Dx) ∧ TG [[cl rb 231 C, cl sb 233 D]] w [[cl rb 231 Cx], [cl sb 233 Dx]] w'}, Subtype.val, ⟨⟨_, C, D, ⟨HC.out, HD.out⟩, HT.out.drew⟩, rfl⟩, fun i => i.2, fun w' h => ⟨⟨w', h⟩, rfl⟩⟩
  have hne : Nonempty ι := hW0.elim fun i _ => ⟨i⟩
  have q5 : ∀ i, (W i).cell? ⟨rb, 5, none⟩ = some (.int .i64 r.head) := fun i => by obtain ⟨_, _, h, T⟩ := hend i; exact (T.cell 0 0 rfl 5).trans h.1.head
  have m1 : ∀ i, Calls Tryz.prog 144 #[ptr' rb, .int .i64 r.head] (W i) fun e w2 => e = .returned (.pointer (some ⟨sb, r.at r.head * 9, none⟩)) ∧ ∃ j, w2 = W j := fun i => by
    obtain ⟨Cx, Dx, h, T⟩ := hend i
    refine (DoesG.use (HA.out _ h.1) T [0] rfl rfl).mono ?_
    rintro e w2 ⟨gs, ⟨rfl, rfl⟩, T2⟩
    exact ⟨rfl, hin _ ⟨Cx, Dx, h, T2⟩⟩
  have m2 : ∀ i, Calls Tryz.prog 93 #[.pointer (some ⟨sb, r.at r.head * 9, none⟩)] (W i) fun e w2 => e = .returned (.int .i64 (r.slot r.head).seq) ∧ ∃ j, w2 = W j := fun i => by
    obtain ⟨Cx, Dx, h, T⟩ := hend i
    refine (DoesG.use (cellG (loadI_does sb (r.at r.head * 9) _ Dx _ (HS.out _ h.2))) T [1] rfl rfl).mono ?_
    rintro e w2 ⟨gs, ⟨rfl, D1, hr1, rfl⟩, T2⟩
    exact ⟨rfl, hin _ ⟨Cx, D1, ⟨h.1, h.2.same HK.out hr1⟩, T2⟩⟩
  refine wp_region_cls W (by kernel_rfl) (by kernel_rfl) hW0 ?_
  repeat (go_big_quiet_step ((first | (go_at_call 144; with_reducible exact m1 _) | (go_at_call 93; with_reducible exact m2 _))))
  refine wpQuiet_nil ?_
  intro _ hw
  obtain ⟨iq, hw2⟩ := hw
  subst hw2
  obtain ⟨Cx, Dx, h, T⟩ := hend iq
  have HT := Lib.hid T
  generalize W iq = w1 at HT ⊢
  clear T hend hin hW0 hne
  have HH := Lib.hid h
  clear h
  go_wp2
  go_ret
  exact ⟨_, ⟨by rw [HR.out]; rfl, _, isRing.mk' HH.out.1 HH.out.2, rfl⟩, HT.out.eq rfl⟩
set_option maxRecDepth 100000 in
theorem ringLen_g (hg : isRing rb r g) (hr : RingB r) : DoesG Tryz.prog 108 #[ptr' rb] [g] fun e gs => e = .returned (.int .i64 (r.tail - r.head)) ∧ ∃ g', isRing rb r g' ∧ gs = [g'] := by
  obtain ⟨sb, C, D, rfl, hC, hD⟩ := hg.open
  intro w hw
  have T0 := TG.refl hw
  have HT := Lib.hid T0
  clear hw T0
  have HT := Lib.hid (HT.out.eq (H' := [[cl rb 231 C], [cl sb 233 D]]) rfl)
  have h0 := hr.h0
  have h1 := hr.h1
  have h2 := hr.t0
  have h3 := hr.t1
  have HC := Lib.hid hC
  have HD := Lib.hid hD
  clear hg hr hC hD
  go_enter Tryz.func108, Tryz.ntmps108
  go_wp2_with fail
  obtain ⟨ι, W, hW0, hend, hin⟩ : ∃ (ι : Type) (W : ι → World), (∃ i, World.drew _ = W i) ∧ (∀ i, ∃ Cx, (ringC sb r Cx) ∧ TG [[cl rb 231 C, cl sb 233 D]] w [[cl rb 231 Cx], [cl sb 233 D]] (W i)) ∧ (∀ w', (∃ Cx, (ringC sb r Cx) ∧ TG [[cl rb 231 C, cl sb 233 D]] w [[cl rb 231 Cx], [cl sb 233 D]] w') → ∃ i, w' = W i) := ⟨{w' // ∃ Cx, (ringC sb r Cx) ∧ TG [[cl rb 231 C, cl sb 233 D]] w [[cl rb 231 Cx], [cl sb 233 D]] w'}, Subtype.val, ⟨⟨_, C, HC.out, HT.out.drew⟩, rfl⟩, fun i => i.2, fun w' h => ⟨⟨w', h⟩, rfl⟩⟩
  have hne : Nonempty ι := hW0.elim fun i _ => ⟨i⟩
  have q5 : ∀ i, (W i).cell? ⟨rb, 5, none⟩ = some (.int .i64 r.head) := fun i => by obtain ⟨_, h, T⟩ := hend i; exact (T.cell 0 0 rfl 5).trans h.head
  have m2 : ∀ i, Calls Tryz.prog 93 #[.pointer (some ⟨rb, 1, none⟩)] (W i) fun e w2 => e = .returned (.int .i64 r.tail) ∧ ∃ j, w2 = W j := fun i => by
    obtain ⟨Cx, h, T⟩ := hend i
    refine (DoesG.use (cellG (loadI_does rb 1 _ Cx _ h.tail)) T [0] rfl rfl).mono ?_
    rintro e w2 ⟨gs, ⟨rfl, C1, hr1, rfl⟩, T2⟩
    exact ⟨rfl, hin _ ⟨C1, h.tailR hr1, T2⟩⟩
  refine wp_region_cls W (by kernel_rfl) (by kernel_rfl) hW0 ?_
  repeat (go_big_quiet_step ((first | (go_at_call 93; with_reducible exact m2 _))))
  refine wpQuiet_nil ?_
  intro _ hw
  obtain ⟨iq, hw2⟩ := hw
  subst hw2
  obtain ⟨Cx, h, T⟩ := hend iq
  have HT := Lib.hid T
  generalize W iq = w1 at HT ⊢
  clear T hend hin hW0 hne
  have HH := Lib.hid h
  clear h
  go_wp2
  go_ret
  exact ⟨_, ⟨by rfl, _, isRing.mk' HH.out HD.out, rfl⟩, HT.out.eq rfl⟩
set_option maxRecDepth 100000 in
theorem ringPop_g (hg : isRing rb r g) (hr : RingB r) : DoesG Tryz.prog 92 #[ptr' rb] [g] fun e gs => e = .returned (.tuple #[.agg (popR r).2.1.cells, .int .i64 (popR r).2.2]) ∧ ∃ g', isRing rb (popR r).1 g' ∧ gs = [g'] := by
  have hrd := ringReady_g hg hr
  cases hb : r.ready with
  | false =>
    have HE := Lib.hid (show popR r = (r, TaskS.zero, 6) from if_neg (by rw [hb]; decide))
    rw [hb] at hrd
    intro w hw
    have T0 := TG.refl hw
    have HT := Lib.hid T0
    clear hw T0
    have HR := Lib.hid hrd
    clear hg hr hrd hb
    go_enter Tryz.func92, Tryz.ntmps92
    go_wp2_with fail
    have HT := Lib.hid ((HT.out.alloc (k := w.heap.size) rfl 40 TaskS.zero.cells).alloc (k := w.heap.size + 1) (by simp) 40 TaskS.zero.cells)
    go_wp2_with fail
    refine (DoesG.use (HR.out) (HT.out) [0] rfl rfl).mono ?_
    rintro e w1 ⟨gs, ⟨rfl, g1, hg1, rfl⟩, Ta⟩
    simp only [PU] at Ta
    have HG := Lib.hid hg1
    clear hg1
    have HT := Lib.hid Ta
    clear Ta
    have a0 := HT.out.cell 1 0 rfl 0
    have fa0 := HT.out.free 1 0 rfl 0
    have a1 := HT.out.cell 1 0 rfl 1
    have fa1 := HT.out.free 1 0 rfl 1
    have a2 := HT.out.cell 1 0 rfl 2
    have fa2 := HT.out.free 1 0 rfl 2
    have a3 := HT.out.cell 1 0 rfl 3
    have fa3 := HT.out.free 1 0 rfl 3
    have a4 := HT.out.cell 1 0 rfl 4
    have fa4 := HT.out.free 1 0 rfl 4
    simp only [TaskS.cells, TaskS.zero, List.getElem?_toArray, List.getElem?_cons_zero, List.getElem?_cons_succ] at a0 a1 a2 a3 a4
    have b0 := HT.out.cell 2 0 rfl 0
    have fb0 := HT.out.free 2 0 rfl 0
    have b1 := HT.out.cell 2 0 rfl 1
    have fb1 := HT.out.free 2 0 rfl 1
    have b2 := HT.out.cell 2 0 rfl 2
    have fb2 := HT.out.free 2 0 rfl 2
    have b3 := HT.out.cell 2 0 rfl 3
    have fb3 := HT.out.free 2 0 rfl 3
    have b4 := HT.out.cell 2 0 rfl 4
    have fb4 := HT.out.free 2 0 rfl 4
    simp only [TaskS.cells, TaskS.zero, List.getElem?_toArray, List.getElem?_cons_zero, List.getElem?_cons_succ] at b0 b1 b2 b3 b4
    go_wp2
    exact bodyPost_ret (v := .tuple #[.agg TaskS.zero.cells, .int .i64 6]) (by simp [results, Tryz.results92, go_sem, a0, a1, a2, a3, a4, TaskS.cells, TaskS.zero]) rfl ⟨_, ⟨by rw [HE.out], g1, by rw [HE.out]; exact HG.out, rfl⟩, ((((((HT.out.set 1 0 rfl 0 _).set 1 0 rfl 1 _).set 1 0 rfl 2 _).set 1 0 rfl 3 _).set 1 0 rfl 4 _).pick [0] rfl)⟩
  | true =>
    have HE := Lib.hid (show popR r = ({ r with slots := r.slots.set (r.at r.head) ⟨2 * (r.head + r.slots.length), TaskS.zero⟩, head := r.head + 1 }, (r.slot r.head).v, 0) from if_pos hb)
    rw [hb] at hrd
    intro w hw
    have T0 := TG.refl hw
    have HT := Lib.hid T0
    clear hw T0
    have HR := Lib.hid hrd
    have HRB := Lib.hid hr
    clear hg hr hrd hb
    go_enter Tryz.func92, Tryz.ntmps92
    go_wp2_with fail
    have HT := Lib.hid ((HT.out.alloc (k := w.heap.size) rfl 40 TaskS.zero.cells).alloc (k := w.heap.size + 1) (by simp) 40 TaskS.zero.cells)
    go_wp2_with fail
    refine (DoesG.use (HR.out) (HT.out) [0] rfl rfl).mono ?_
    rintro e w1 ⟨gs, ⟨rfl, g1, hg1, rfl⟩, Ta⟩
    simp only [PU] at Ta
    have HT := Lib.hid Ta
    clear Ta
    obtain ⟨sb, C, D, rfl, hC, hD⟩ := hg1.open
    have HT := Lib.hid (HT.out.sum (H' := [[cl rb 231 C], [cl sb 233 D], [cl w.heap.size 40 TaskS.zero.cells], [cl (w.heap.size + 1) 40 TaskS.zero.cells]]) (fun n ha h0 h1 h2 => by simp only [SU, ha, h0, h1, h2] <;> omega))
    obtain ⟨ha, hal, hav⟩ := ring_at HRB.out.n0 r.head
    have h0 := HRB.out.h0
    have h1 := HRB.out.h1
    have hn0 := HRB.out.n0
    have hn1 := HRB.out.n1
    have HC := Lib.hid hC
    have HD := Lib.hid hD
    have HA := Lib.hid (ringAt_r (rb := rb) hC HRB.out r.head h0 h1)
    have HV := Lib.hid (hD.fill ha TaskS.zero (2 * (r.head + r.slots.length)))
    have HCS := Lib.hid ((hC.withSlots (l := r.slots.set (r.at r.head) ⟨2 * (r.head + r.slots.length), TaskS.zero⟩) (List.length_set ..)).headR (r.head + 1))
    have hcell := (hD.at_ _ _ ha).1
    obtain ⟨e0, e1, e2, e3, e4⟩ := (hD.at_ _ _ ha).2
    generalize r.slot r.head = s at *
    generalize r.at r.head = k at *
    have HP := Lib.hid (show cellAt (putTask D (k * 9 + 4) TaskS.zero) (k * 9) (.int .i64 s.seq) from by
      obtain ⟨a0, l0, t0, u0, a1, a2, a3⟩ := hcell
      exact ⟨(putTask_ne (by omega)).trans a0, l0, t0, u0, (putTask_ne (by omega)).trans a1, (putTask_ne (by omega)).trans a2, (putTask_ne (by omega)).trans a3⟩)
    have HEE := Lib.hid (And.intro e0 (And.intro e1 (And.intro e2 (And.intro e3 e4))))
    have c5 := (HT.out.cell 0 0 rfl 5).trans hC.head
    clear hg1 hC hD ha hal hav e0 e1 e2 e3 e4 hcell
    go_wp2_with fail
    refine (ReadsG.use (HA.out) (HT.out) [0] rfl rfl).mono ?_
    rintro e w1 ⟨rfl, mq, rfl⟩
    have HT := Lib.hid (HT.out.drewN mq)
    generalize World.drewN _ _ = wq at HT ⊢
    clear c5
    have z0 := HT.out.cell 3 0 rfl 0
    have z1 := HT.out.cell 3 0 rfl 1
    have z2 := HT.out.cell 3 0 rfl 2
    have z3 := HT.out.cell 3 0 rfl 3
    have z4 := HT.out.cell 3 0 rfl 4
    simp only [TaskS.cells, TaskS.zero, List.getElem?_toArray, List.getElem?_cons_zero, List.getElem?_cons_succ] at z0 z1 z2 z3 z4
    have d0 := (HT.out.cell 1 0 rfl (k * 9 + 4)).trans HEE.out.1
    have d1 := (HT.out.cell 1 0 rfl (k * 9 + 4 + 1)).trans HEE.out.2.1
    have d2 := (HT.out.cell 1 0 rfl (k * 9 + 4 + 2)).trans HEE.out.2.2.1
    have d3 := (HT.out.cell 1 0 rfl (k * 9 + 4 + 3)).trans HEE.out.2.2.2.1
    have d4 := (HT.out.cell 1 0 rfl (k * 9 + 4 + 4)).trans HEE.out.2.2.2.2
    have g0 := HT.out.free 1 0 rfl (k * 9 + 4)
    have g1 := HT.out.free 1 0 rfl (k * 9 + 4 + 1)
    have g2 := HT.out.free 1 0 rfl (k * 9 + 4 + 2)
    have g3 := HT.out.free 1 0 rfl (k * 9 + 4 + 3)
    have g4 := HT.out.free 1 0 rfl (k * 9 + 4 + 4)
    have lt1 := HT.out.lt 1 0 rfl
    have lt3 := HT.out.lt 3 0 rfl
    simp only [] at lt1 lt3
    go_wp2
    have HT := Lib.hid (((((((HT.out.set 1 0 rfl (k * 9 + 4) (.int .u64 0)).set 1 0 rfl (k * 9 + 4 + 1) (.int .i64 0)).set 1 0 rfl (k * 9 + 4 + 2) (.int .u64 0)).set 1 0 rfl (k * 9 + 4 + 3) (.int .u64 0)).set 1 0 rfl (k * 9 + 4 + 4) (.int .u64 0)).alloc (k := wq.heap.size) (by simp) 40 s.v.cells).eq (H' := [[cl rb 231 C], [cl sb 233 (putTask D (k * 9 + 4) TaskS.zero)], [cl w.heap.size 40 TaskS.zero.cells], [cl (w.heap.size + 1) 40 TaskS.zero.cells], [cl wq.heap.size 40 s.v.cells]]) rfl)
    simp only [TaskS.cells] at HT
    clear z0 z1 z2 z3 z4 d0 d1 d2 d3 d4 g0 g1 g2 g3 g4 lt1 lt3
    generalize World.alloc _ _ = w2 at HT ⊢
    have c5 := (HT.out.cell 0 0 rfl 5).trans HC.out.head
    have c0 := (HT.out.cell 0 0 rfl 0).trans HC.out.sl
    refine wp_region_mix1 14 (by kernel_rfl) (by kernel_rfl) ?_
    simp only [List.take_succ_cons, List.take_zero, List.drop_succ_cons, List.drop_zero]
    repeat (go_big_quiet_step ((fail)))
    refine wpQuiet_nil ?_
    intro _ hw'
    obtain ⟨nq, hw''⟩ := hw'
    subst hw''
    have HT := Lib.hid (HT.out.drewN nq)
    go_wp2_with fail
    refine (DoesG.use (storeC_g _ _ _ _ _ _ HP.out) (HT.out) [1] rfl rfl).mono ?_
    rintro e w1 ⟨gs, ⟨rfl, rfl⟩, Ta⟩
    simp only [PU] at Ta
    have HT := Lib.hid Ta
    clear Ta
    go_wp2_with fail
    refine ⟨rfl, ?_⟩
    have HT := Lib.hid (HT.out.eq (H' := [[cl rb 231 C], [cl sb 233 ((putTask D (k * 9 + 4) TaskS.zero).setIfInBounds (k * 9) (.int .i64 (2 * (r.head + r.slots.length))))], [cl w.heap.size 40 TaskS.zero.cells], [cl (w.heap.size + 1) 40 TaskS.zero.cells], [cl wq.heap.size 40 s.v.cells]]) rfl)
    clear c5 c0
    have c5 := (HT.out.cell 0 0 rfl 5).trans HC.out.head
    have f5 := HT.out.free 0 0 rfl 5
    have a0 := HT.out.cell 2 0 rfl 0
    have fa0 := HT.out.free 2 0 rfl 0
    have a1 := HT.out.cell 2 0 rfl 1
    have fa1 := HT.out.free 2 0 rfl 1
    have a2 := HT.out.cell 2 0 rfl 2
    have fa2 := HT.out.free 2 0 rfl 2
    have a3 := HT.out.cell 2 0 rfl 3
    have fa3 := HT.out.free 2 0 rfl 3
    have a4 := HT.out.cell 2 0 rfl 4
    have fa4 := HT.out.free 2 0 rfl 4
    simp only [TaskS.cells, TaskS.zero, List.getElem?_toArray, List.getElem?_cons_zero, List.getElem?_cons_succ] at a0 a1 a2 a3 a4
    have b0 := HT.out.cell 4 0 rfl 0
    have b1 := HT.out.cell 4 0 rfl 1
    have b2 := HT.out.cell 4 0 rfl 2
    have b3 := HT.out.cell 4 0 rfl 3
    have b4 := HT.out.cell 4 0 rfl 4
    simp only [TaskS.cells, List.getElem?_toArray, List.getElem?_cons_zero, List.getElem?_cons_succ] at b0 b1 b2 b3 b4
    have n1 := HT.out.ne 0 0 2 0 (by decide) rfl rfl
    have n2 := HT.out.ne 0 0 4 0 (by decide) rfl rfl
    have n3 := HT.out.ne 2 0 4 0 (by decide) rfl rfl
    simp only [] at n1 n2 n3
    go_wp2
    exact bodyPost_ret (v := .tuple #[.agg s.v.cells, .int .i64 0]) (by simp [results, Tryz.results92, go_sem, a0, a1, a2, a3, a4, TaskS.cells, n1]) rfl ⟨_, ⟨by rw [HE.out], _, by rw [HE.out]; exact isRing.mk' HCS.out HV.out, rfl⟩, (((((((HT.out.set 0 0 rfl 5 _).set 2 0 rfl 0 _).set 2 0 rfl 1 _).set 2 0 rfl 2 _).set 2 0 rfl 3 _).set 2 0 rfl 4 _).pick [0, 1] rfl).eq rfl⟩
end
end Go.Proofs.YtblhfbcodbjgcaaGreat

namespace Go.Proofs.YtblhfbcodbjgcaaGreat
set_option linter.unusedVariables false
set_option linter.unusedSimpArgs false
open Go.RowKit Go.Shelf
section
variable {q : ShP} {s : ShardS} {g : List Blk}
set_option maxRecDepth 100000 in
theorem shardPop_g (hg : isSh q s g) (hr : RingB s.ring) : DoesG Tryz.prog 21 #[ptr' q.b] [g] fun e gs =>
    e = .returned (.tuple #[.agg (popR s.ring).2.1.cells, .int .i64 (popR s.ring).2.2]) ∧ ∃ g', isSh q { s with ring := (popR s.ring).1 } g' ∧ gs = [g'] := by
  obtain ⟨gr, gl, h1, h2, rfl⟩ := hg
  have hp := ringPop_g h1 hr
  generalize popR s.ring = p at *
  intro w hw
  have T0 := TG.refl hw
  have HT := Lib.hid T0
  clear hw T0
  have HT := Lib.hid (HT.out.sum (H' := [shardB q.b q.rb q.lb q.wb, gr, gl]) (fun n ha h0 h1 h2 => by simp only [SU, ha, h0, h1, h2] <;> omega))
  have HP := Lib.hid hp
  have HL := Lib.hid h2
  clear h1 h2 hp hr
  go_enter Tryz.func21, Tryz.ntmps21
  go_wp2_with fail
  refine (DoesG.use (shardParts_g q.b q.rb q.lb q.wb) (HT.out.alloc (k := w.heap.size) rfl 40 TaskS.zero.cells) [0] rfl rfl).mono ?_
  rintro e w1 ⟨gs, ⟨rfl, rfl⟩, Ta⟩
  simp only [PU] at Ta
  have HT := Lib.hid Ta
  clear Ta
  have hf := fun w => (inner_field (ptr' q.rb) (ptr' q.lb) (ptr' q.wb) w).1
  go_wp2_with fail
  refine (DoesG.use (HP.out) (HT.out) [1] rfl rfl).mono ?_
  rintro e w1 ⟨gs, ⟨rfl, g1, hg1, rfl⟩, Ta⟩
  simp only [PU] at Ta
  have HG := Lib.hid hg1
  clear hg1
  have HT := Lib.hid Ta
  clear Ta
  have a0 := HT.out.cell 3 0 rfl 0
  have fa0 := HT.out.free 3 0 rfl 0
  have a1 := HT.out.cell 3 0 rfl 1
  have fa1 := HT.out.free 3 0 rfl 1
  have a2 := HT.out.cell 3 0 rfl 2
  have fa2 := HT.out.free 3 0 rfl 2
  have a3 := HT.out.cell 3 0 rfl 3
  have fa3 := HT.out.free 3 0 rfl 3
  have a4 := HT.out.cell 3 0 rfl 4
  have fa4 := HT.out.free 3 0 rfl 4
  simp only [TaskS.cells, TaskS.zero, List.getElem?_toArray, List.getElem?_cons_zero, List.getElem?_cons_succ] at a0 a1 a2 a3 a4
  simp only [TaskS.cells]
  go_wp2
  exact bodyPost_ret (v := .tuple #[.agg p.2.1.cells, .int .i64 p.2.2]) (by simp [results, Tryz.results21, go_sem, a0, a1, a2, a3, a4, TaskS.cells]) rfl ⟨_, ⟨rfl, _, ⟨g1, gl, HG.out, HL.out, rfl⟩, rfl⟩, ((((((HT.out.set 3 0 rfl 0 _).set 3 0 rfl 1 _).set 3 0 rfl 2 _).set 3 0 rfl 3 _).set 3 0 rfl 4 _).pick [0, 1, 2] rfl).sum (fun n ha h0 h1 h2 => by simp only [SU, ha, h0, h1, h2] <;> omega)⟩
set_option maxRecDepth 100000 in
theorem shardWaiting_g (hg : isSh q s g) (hr : RingB s.ring) : DoesG Tryz.prog 45 #[ptr' q.b] [g] fun e gs => e = .returned (.int .i64 (s.ring.tail - s.ring.head)) ∧ ∃ g', isSh q s g' ∧ gs = [g'] := by
  obtain ⟨gr, gl, h1, h2, rfl⟩ := hg
  have hp := ringLen_g h1 hr
  intro w hw
  have T0 := TG.refl hw
  have HT := Lib.hid T0
  clear hw T0
  have HT := Lib.hid (HT.out.sum (H' := [shardB q.b q.rb q.lb q.wb, gr, gl]) (fun n ha h0 h1 h2 => by simp only [SU, ha, h0, h1, h2] <;> omega))
  have HP := Lib.hid hp
  have HL := Lib.hid h2
  clear h1 h2 hp hr
  go_enter Tryz.func45, Tryz.ntmps45
  go_wp2_with fail
  refine (DoesG.use (shardParts_g q.b q.rb q.lb q.wb) (HT.out) [0] rfl rfl).mono ?_
  rintro e w1 ⟨gs, ⟨rfl, rfl⟩, Ta⟩
  simp only [PU] at Ta
  have HT := Lib.hid Ta
  clear Ta
  have hf := fun w => (inner_field (ptr' q.rb) (ptr' q.lb) (ptr' q.wb) w).1
  go_wp2_with fail
  refine (DoesG.use (HP.out) (HT.out) [1] rfl rfl).mono ?_
  rintro e w1 ⟨gs, ⟨rfl, g1, hg1, rfl⟩, Ta⟩
  simp only [PU] at Ta
  have HG := Lib.hid hg1
  clear hg1
  have HT := Lib.hid Ta
  clear Ta
  go_wp2
  go_ret
  exact ⟨_, ⟨rfl, _, ⟨g1, gl, HG.out, HL.out, rfl⟩, rfl⟩, HT.out.sum (fun n ha h0 h1 h2 => by simp only [SU, ha, h0, h1, h2] <;> omega)⟩
set_option maxRecDepth 100000 in
theorem shardReady_g (hg : isSh q s g) (hr : RingB s.ring) : DoesG Tryz.prog 280 #[ptr' q.b] [g] fun e gs => e = .returned (.bool s.ring.ready) ∧ ∃ g', isSh q s g' ∧ gs = [g'] := by
  obtain ⟨gr, gl, h1, h2, rfl⟩ := hg
  have hp := ringReady_g h1 hr
  intro w hw
  have T0 := TG.refl hw
  have HT := Lib.hid T0
  clear hw T0
  have HT := Lib.hid (HT.out.sum (H' := [shardB q.b q.rb q.lb q.wb, gr, gl]) (fun n ha h0 h1 h2 => by simp only [SU, ha, h0, h1, h2] <;> omega))
  have HP := Lib.hid hp
  have HL := Lib.hid h2
  clear h1 h2 hp hr
  go_enter Tryz.func280, Tryz.ntmps280
  go_wp2_with fail
  refine (DoesG.use (shardParts_g q.b q.rb q.lb q.wb) (HT.out) [0] rfl rfl).mono ?_
  rintro e w1 ⟨gs, ⟨rfl, rfl⟩, Ta⟩
  simp only [PU] at Ta
  have HT := Lib.hid Ta
  clear Ta
  have hf := fun w => (inner_field (ptr' q.rb) (ptr' q.lb) (ptr' q.wb) w).1
  go_wp2_with fail
  refine (DoesG.use (HP.out) (HT.out) [1] rfl rfl).mono ?_
  rintro e w1 ⟨gs, ⟨rfl, g1, hg1, rfl⟩, Ta⟩
  simp only [PU] at Ta
  have HG := Lib.hid hg1
  clear hg1
  have HT := Lib.hid Ta
  clear Ta
  go_wp2
  go_ret
  exact ⟨_, ⟨rfl, _, ⟨g1, gl, HG.out, HL.out, rfl⟩, rfl⟩, HT.out.sum (fun n ha h0 h1 h2 => by simp only [SU, ha, h0, h1, h2] <;> omega)⟩
end
section
variable {L : Lay} {x : CoreS} {g : List Blk}
theorem coreShard {F : Nat} {args : Array Value} {i : Nat} {q : ShP} {s s' : ShardS} {v : Value} (hx : isCore L x g) (hq : L.qs[i]? = some q) (hs : x.shs[i]? = some s)
    (hd : ∀ g, isSh q s g → DoesG Tryz.prog F args [g] fun e gs => e = .returned v ∧ ∃ g', isSh q s' g' ∧ gs = [g']) :
    DoesG Tryz.prog F args [g] fun e gs => e = .returned v ∧ ∃ g', isCore L { x with shs := x.shs.set i s' } g' ∧ gs = [g'] := by
  obtain ⟨tr, gF, gS, gR, gH, gT, h1, h2, h3, h4, h5, h6, rfl⟩ := hx
  have hz : (L.qs.zip x.shs)[i]? = some (q, s) := zip_at hq hs
  obtain ⟨u, y, hu, hp, hback⟩ := h5.out hz
  intro w hw
  have T := (((TG.refl hw).sum (H' := [gF ++ (gS ++ (gR ++ gT)), gH]) (fun n ha h0 h1 h2 => by simp only [SU, ha, h0, h1, h2] <;> omega)).permAt 1 rfl hp).sum (H' := [gF ++ (gS ++ (gR ++ gT)), u, y]) (fun n ha h0 h1 h2 => by simp only [SU, ha, h0, h1, h2] <;> omega)
  refine (DoesG.use (hd u hu) T [1] rfl rfl).mono ?_
  rintro e w' ⟨gs, ⟨he, g1, hn1, rfl⟩, T'⟩
  obtain ⟨gH', hf, hp'⟩ := hback (q, s') g1 hn1
  rw [zip_set i hq] at hf
  refine ⟨_, ⟨he, _, ⟨tr, gF, gS, gR, gH', gT, h1, h2, h3, by simpa using h4, hf, h6, rfl⟩, rfl⟩, ?_⟩
  exact ((TG.sum (H := [gF ++ (gS ++ (gR ++ gT)), g1, y]) (H' := [gF ++ (gS ++ (gR ++ gT)), g1 ++ y]) T' (fun n ha h0 h1 h2 => by simp only [SU, ha, h0, h1, h2] <;> omega)).permAt 1 rfl hp').sum (fun n ha h0 h1 h2 => by simp only [SU, ha, h0, h1, h2] <;> omega)
theorem core_shs_same {x : CoreS} {i : Nat} {s : ShardS} (hs : x.shs[i]? = some s) : ({ x with shs := x.shs.set i s } : CoreS) = x := by
  have : x.shs.set i s = x.shs := fam_set_same hs
  rw [this]
theorem corePop (hx : isCore L x g) {i : Nat} {q : ShP} {s : ShardS} (hq : L.qs[i]? = some q) (hs : x.shs[i]? = some s) (hr : RingB s.ring) : DoesG Tryz.prog 21 #[ptr' q.b] [g] fun e gs =>
    e = .returned (.tuple #[.agg (popR s.ring).2.1.cells, .int .i64 (popR s.ring).2.2]) ∧ ∃ g', isCore L { x with shs := x.shs.set i { s with ring := (popR s.ring).1 } } g' ∧ gs = [g'] :=
  coreShard hx hq hs fun g hg => shardPop_g hg hr
theorem coreWaiting (hx : isCore L x g) {i : Nat} {q : ShP} {s : ShardS} (hq : L.qs[i]? = some q) (hs : x.shs[i]? = some s) (hr : RingB s.ring) : DoesG Tryz.prog 45 #[ptr' q.b] [g] fun e gs =>
    e = .returned (.int .i64 (s.ring.tail - s.ring.head)) ∧ ∃ g', isCore L x g' ∧ gs = [g'] := by
  have := coreShard hx hq hs fun g hg => shardWaiting_g hg hr
  rwa [core_shs_same hs] at this
theorem coreReady (hx : isCore L x g) {i : Nat} {q : ShP} {s : ShardS} (hq : L.qs[i]? = some q) (hs : x.shs[i]? = some s) (hr : RingB s.ring) : DoesG Tryz.prog 280 #[ptr' q.b] [g] fun e gs =>
    e = .returned (.bool s.ring.ready) ∧ ∃ g', isCore L x g' ∧ gs = [g'] := by
  have := coreShard hx hq hs fun g hg => shardReady_g hg hr
  rwa [core_shs_same hs] at this
theorem coreShardAt_r (hx : isCore L x g) (i : Int) : ReadsG Tryz.prog 20 #[ptr' L.fb, .int .i64 i] [g] (shardV (L.qs.map ShP.b) i) := by
  obtain ⟨tr, gF, gS, gR, gH, gT, h1, h2, h3, h4, h5, h6, rfl⟩ := hx
  intro w hw
  have T := (TG.refl hw).sum (H' := [gF, gS, gR, gH, gT]) (fun n ha h0 h1 h2 => by simp only [SU, ha, h0, h1, h2] <;> omega)
  exact (floorShard_r h1 h3 i).use T [0, 2] rfl rfl
end
theorem core_q {L : Lay} {x : CoreS} {g : List Blk} (hx : isCore L x g) {i : Nat} (hi : i < x.shs.length) : ∃ q, L.qs[i]? = some q ∧ shardV (L.qs.map ShP.b) i = ptr' q.b := by
  obtain ⟨tr, gF, gS, gR, gH, gT, h1, h2, h3, h4, h5, h6, rfl⟩ := hx
  have hl : i < L.qs.length := by omega
  refine ⟨L.qs[i], List.getElem?_eq_getElem hl, ?_⟩
  unfold shardV
  rw [if_pos (by simp; omega)]
  simp [hl]
end Go.Proofs.YtblhfbcodbjgcaaGreat

namespace Go.Proofs.YtblhfbcodbjgcaaGreat
set_option linter.unusedVariables false
set_option linter.unusedSimpArgs false
open Go.RowKit Go.Shelf
def numV (s : SlabS) (i : Int) : Int × Int :=
  if 0 ≤ i ∧ i < s.recs.length then let g := (s.recs.getD i.toNat Rec.zero).g; if g < 1 then (0, 6) else (g * 64 + i, 0) else (0, 4)
end Go.Proofs.YtblhfbcodbjgcaaGreat

namespace Go.Proofs.YtblhfbcodbjgcaaGreat
set_option linter.unusedVariables false
set_option linter.unusedSimpArgs false
open Go.RowKit Go.Shelf
section
variable {L : Lay} {x : CoreS} {g : List Blk}
theorem coreTurn (hx : isCore L x g) (h : 0 ≤ x.f.now ∧ x.f.now < 9223372036854775807) : DoesG Tryz.prog 215 #[ptr' L.fb] [g] fun e gs => e = .returned (.tuple #[.int .u64 (x.f.now + 1), .int .i64 0]) ∧ ∃ g', isCore L { x with f := { x.f with now := x.f.now + 1 } } g' ∧ gs = [g'] := by
  obtain ⟨tr, gF, gS, gR, gH, gT, h1, h2, h3, h4, h5, h6, rfl⟩ := hx
  intro w hw
  have T := (TG.refl hw).sum (H' := [gF, gS, gR, gH, gT]) (fun n ha h0 h1 h2 => by simp only [SU, ha, h0, h1, h2] <;> omega)
  refine (DoesG.use (floorTurn_g h1 h) T [0] rfl rfl).mono ?_
  rintro e w' ⟨gs, ⟨he, g1, hn1, rfl⟩, T'⟩
  exact ⟨_, ⟨he, _, ⟨tr, g1, gS, gR, gH, gT, hn1, h2, h3, h4, h5, h6, rfl⟩, rfl⟩, TG.sum (H := [g1, gS, gR, gH, gT]) T' (fun n ha h0 h1 h2 => by simp only [SU, ha, h0, h1, h2] <;> omega)⟩
theorem coreNow (hx : isCore L x g) : DoesG Tryz.prog 36 #[ptr' L.fb] [g] fun e gs => e = .returned (.int .u64 x.f.now) ∧ ∃ g', isCore L x g' ∧ gs = [g'] := by
  obtain ⟨tr, gF, gS, gR, gH, gT, h1, h2, h3, h4, h5, h6, rfl⟩ := hx
  intro w hw
  have T := (TG.refl hw).sum (H' := [gF, gS, gR, gH, gT]) (fun n ha h0 h1 h2 => by simp only [SU, ha, h0, h1, h2] <;> omega)
  refine (DoesG.use (floorNow_g h1) T [0] rfl rfl).mono ?_
  rintro e w' ⟨gs, ⟨he, g1, hn1, rfl⟩, T'⟩
  exact ⟨_, ⟨he, _, ⟨tr, g1, gS, gR, gH, gT, hn1, h2, h3, h4, h5, h6, rfl⟩, rfl⟩, TG.sum (H := [g1, gS, gR, gH, gT]) T' (fun n ha h0 h1 h2 => by simp only [SU, ha, h0, h1, h2] <;> omega)⟩
theorem corePipe_r (hx : isCore L x g) : ReadsG Tryz.prog 40 #[ptr' L.fb] [g] (ptr' L.p.pb) := by
  obtain ⟨tr, gF, gS, gR, gH, gT, ⟨C, rfl, hc⟩, h2, h3, h4, h5, h6, rfl⟩ := hx
  intro w hw
  have T0 := TG.refl hw
  have HT := Lib.hid T0
  clear hw T0
  have c0 := ((HT.out.sum (H' := [[cl L.fb 133 C], gS, gR, gH, gT]) (fun n ha h0 h1 h2 => by simp only [SU, ha, h0, h1, h2] <;> omega)).cell 0 0 rfl 8).trans hc.pipe
  clear hc h2 h3 h4 h5 h6
  go_enter Tryz.func40, Tryz.ntmps40
  go_wp2
  go_ret
  exact ⟨rfl, 0, rfl⟩
end
theorem TG.mem_at {h H : GH} {w w' : World} (T : TG h w H w') (i : Nat) {p : Blk} (hm : p ∈ H.getD i []) : w'.heap[p.1]? = some p.2 := by
  obtain ⟨j, hj⟩ := List.mem_iff_getElem?.1 hm
  exact T.obj i j hj
theorem TG.mem_cell {h H : GH} {w w' : World} (T : TG h w H w') (i : Nat) {b : Nat} {t : TypeId} {C : Array Value} (hm : cl b t C ∈ H.getD i []) (o : Nat) : w'.cell? ⟨b, o, none⟩ = C[o]? := blk_cell (T.mem_at i hm) o
theorem TG.mem_lt {h H : GH} {w w' : World} (T : TG h w H w') (i : Nat) {p : Blk} (hm : p ∈ H.getD i []) : p.1 < w'.heap.size := (Array.getElem?_eq_some_iff.1 (T.mem_at i hm)).1
end Go.Proofs.YtblhfbcodbjgcaaGreat

namespace Go.Proofs.YtblhfbcodbjgcaaGreat
set_option linter.unusedVariables false
set_option linter.unusedSimpArgs false
open Go.RowKit Go.Shelf
structure ShutS where
  th : Int
  no : Int
  err : Int
  ok : Bool
  aset : Bool
  left : List Int
  saw : Int
inductive MS where
  | shuts | slots0 | slots2 (i : Int) | waits | looks1 (i : Int) | leaves0 (i : Int) | waits2
inductive AS where
  | ends1 | pshut | release (i : Int) | drop
inductive YS where
  | inside | idle
abbrev SS : Type := St MS AS YS
structure ZS where
  k : ShutS
  x : CoreS
  p : PipeS
def evS (k : ShutS) (E : EvS) : EvS := { E with thread := k.th, call := k.no, what := 6 }
def ZS.note (E : EvS) (z : ZS) : ZS := { z with x := { z.x with tr := z.x.tr ++ [evS z.k E] } }
def looksS (i : Int) : SS := .at none (.looks1 i)
def slotsS (i : Int) (z : ZS) : SS := if z.x.f.cfg.cap ≤ i then .thn (.row1 .pshut) .waits else .thn (looksS i) (.slots2 i)
def wordZ (i : Int) (z : ZS) : ZS := { z with k := { z.k with saw := z.x.slab.word i } }
def runS : MS → ZS → SS × ZS
  | .shuts, z => if z.x.f.closed = true then (.row1 .ends1, { (z.note { ev0 with kind := 9, err := 3 }) with k := { z.k with err := 3, ok := false, aset := false } })
      else (.at (some .inside) .slots0, ({ z with x := { z.x with f := { z.x.f with closed := true } } } : ZS).note { ev0 with kind := 10 })
  | .slots0, z => (slotsS 0 z, z)
  | .slots2 i, z => (slotsS (i + 1) z, z)
  | .waits, z => (.at (some .idle) .waits2, z)
  | .looks1 i, z => if stW (z.x.slab.word i) = 2 ∨ stW (z.x.slab.word i) = 3 then (.at none (.leaves0 i), wordZ i z) else (.nil, wordZ i z)
  | .leaves0 i, z =>
    let r := z.x.slab.try i z.k.saw 6
    if r.2.2 ≠ 0 then (looksS i, { z with x := { z.x with slab := r.1 } })
    else (.row2 (.release i) .drop, ({ z with x := { z.x with slab := r.1 }, k := { z.k with left := z.k.left ++ [(numV r.1 i).1] } } : ZS).note { ev0 with kind := 12, id := (numV r.1 i).1, gen := genW r.2.1 })
  | .waits2, z => (.row1 .ends1, { (z.note { ev0 with kind := 13 }) with k := { z.k with err := 0, ok := true, aset := true } })
def runAS : AS → ZS → ZS
  | .ends1, z => z.note { ev0 with kind := 2, err := z.k.err }
  | .pshut, z => { z with p := { z.p with shut := true } }
  | .release i, z => { z with x := { z.x with slab := (z.x.slab.try i (z.x.slab.word i) 10).1 } }
  | .drop, z => { z with x := { z.x with slab := z.x.slab.drop.1 } }
structure ShutOk (z : ZS) : Prop where
  core : CoreOk z.x
  cap : z.x.f.cfg.cap = z.x.slab.recs.length
  busy : 0 ≤ z.x.f.busy ∧ z.x.f.busy ≤ 1000000
  saw : 0 ≤ z.k.saw ∧ z.k.saw < 18446744073709551616 ∧ okW z.k.saw = true
  left : z.k.left.length ≤ 1000000
def MS.fit : MS → ZS → Prop
  | .slots2 i, _ => 0 ≤ i ∧ i ≤ 64
  | .looks1 i, _ => 0 ≤ i ∧ i ≤ 64
  | .leaves0 i, z => (0 ≤ i ∧ i ≤ 64) ∧ z.k.aset = false
  | _, _ => True
def preS (f : MS) (z : ZS) : Prop := ShutOk z ∧ f.fit z
def preAS (_ : AS) (z : ZS) : Prop := ShutOk z
def cloK (kb : Nat) (e : List Blk) (fn : FuncId) (v : Value) : Prop := ∃ bk, v = .func (.func fn) #[] #[ptr' bk] ∧ cl bk 251 #[ptr' kb] ∈ e
def cloI (kb : Nat) (e : List Blk) (fn : FuncId) (i : Int) (v : Value) : Prop := ∃ bk bi, v = .func (.func fn) #[] #[ptr' bk, ptr' bi] ∧ cl bk 251 #[ptr' kb] ∈ e ∧ cl bi 3 #[.int .i64 i] ∈ e
def VMS (kb : Nat) (e : List Blk) (f : MS) (v : Value) (g : List Blk) : Prop := g = [] ∧ match f with
  | .shuts => v = .func (.func 181) #[ptr' kb] #[]
  | .slots0 => cloK kb e 223 v
  | .slots2 i => cloI kb e 251 i v
  | .waits => v = .func (.func 249) #[ptr' kb] #[]
  | .looks1 i => cloI kb e 276 i v
  | .leaves0 i => cloI kb e 277 i v
  | .waits2 => cloK kb e 275 v
def VAS (kb : Nat) (e : List Blk) (f : AS) (v : Value) (g : List Blk) : Prop := g = [] ∧ match f with
  | .ends1 => cloK kb e 246 v
  | .pshut => cloK kb e 247 v
  | .release i => cloI kb e 295 i v
  | .drop => cloK kb e 296 v
def leE (e e' : List Blk) : Prop := ∀ b ∈ e, b ∈ e'
theorem cloK.le {kb : Nat} {e e' : List Blk} {fn : FuncId} {v : Value} (h : cloK kb e fn v) (hl : leE e e') : cloK kb e' fn v := by
  obtain ⟨bk, h1, h2⟩ := h; exact ⟨bk, h1, hl _ h2⟩
theorem cloI.le {kb : Nat} {e e' : List Blk} {fn : FuncId} {i : Int} {v : Value} (h : cloI kb e fn i v) (hl : leE e e') : cloI kb e' fn i v := by
  obtain ⟨bk, bi, h1, h2, h3⟩ := h; exact ⟨bk, bi, h1, hl _ h2, hl _ h3⟩
theorem cloK.is {kb : Nat} {e : List Blk} {fn : FuncId} {v : Value} (h : cloK kb e fn v) : ∃ fn first caps, v = .func (.func fn) first caps := by
  obtain ⟨bk, h1, h2⟩ := h; exact ⟨_, _, _, h1⟩
theorem cloI.is {kb : Nat} {e : List Blk} {fn : FuncId} {i : Int} {v : Value} (h : cloI kb e fn i v) : ∃ fn first caps, v = .func (.func fn) first caps := by
  obtain ⟨bk, bi, h1, h2, h3⟩ := h; exact ⟨_, _, _, h1⟩
theorem VMS.le {kb : Nat} {e e' : List Blk} {f : MS} {v : Value} {g : List Blk} (hl : leE e e') (h : VMS kb e f v g) : VMS kb e' f v g := by
  refine ⟨h.1, ?_⟩
  have := h.2
  cases f <;> first | exact this | exact cloK.le this hl | exact cloI.le this hl
theorem VAS.le {kb : Nat} {e e' : List Blk} {f : AS} {v : Value} {g : List Blk} (hl : leE e e') (h : VAS kb e f v g) : VAS kb e' f v g := by
  refine ⟨h.1, ?_⟩
  have := h.2
  cases f <;> first | exact cloK.le this hl | exact cloI.le this hl
theorem leE.refl (e : List Blk) : leE e e := fun _ h => h
theorem leE.app (e l : List Blk) : leE e (e ++ l) := fun _ h => List.mem_append_left _ h
end Go.Proofs.YtblhfbcodbjgcaaGreat
