import Derived.Test.YthbjaoinklhikaaRow
import Derived.Maps.Views
import Derived.Maps.OwnSet
import Derived.Maps.OwnOps
namespace Go.Proofs.Ythbjaoinklhikaa
set_option linter.unusedVariables false
set_option linter.unusedSimpArgs false
open Go.RowKit Go.Shelf Go.Maps Go.ChangeMaps Go.MapKept
open Go.WideElems (Fit rd rg pl rd_val elemAt)

/-! ## A map of one's own as a group: block b holds at most n entries; m says what stands at a key, z how many there are. Elements are read as themselves. -/
def heldR (v : Value) : Option (DataW Value × List MemPlace) := some (.held v, [])
def viewD (D : DataW Value) (m : Lit → Option Value) (z : Nat) : Prop :=
  Tidy D ∧ Maps.size D = z ∧ ∀ kl, WideAt.IsKeyLit kl → Maps.has D kl = (m kl).isSome ∧ ∀ u, D.atKey kl (.held u) = .held ((m kl).getD u)
def mapG (P : Program) (K : TypeId) (b n : Nat) (m : Lit → Option Value) (z : Nat) (g : List Blk) : Prop :=
  ∃ es clock D, g = [(b, .map es clock)] ∧ (∀ w : World, w.heap[b]? = some (.map es clock) → w.ownsMap P K heldR b n D) ∧ viewD D m z
open Classical in
noncomputable def setK (m : Lit → Option Value) (k : Lit) (v : Value) : Lit → Option Value := fun x => if x = k then some v else m x
open Classical in
noncomputable def delK (m : Lit → Option Value) (k : Lit) : Lit → Option Value := fun x => if x = k then none else m x
def noK : Lit → Option Value := fun _ => none
/-- 'ownsMap' speaks of its own block alone -/
theorem ownsMap_at {P : Program} {K : TypeId} {R : Value → Option (DataW Value × List MemPlace)} {b n : Nat} {D : DataW Value} {w : World} (h : w.ownsMap P K R b n D) :
    ∃ es clock, w.heap[b]? = some (.map es clock) ∧ ∀ w' : World, w'.heap[b]? = some (.map es clock) → w'.ownsMap P K R b n D := by
  obtain ⟨es, clock, hb, r⟩ := h
  exact ⟨es, clock, hb, fun w' hb' => ⟨es, clock, hb', r⟩⟩
theorem mapG_new (P : Program) (K : TypeId) (b : Nat) : mapG P K b 0 noK 0 [(b, .map #[] 0)] := by
  refine ⟨#[], 0, .map [], rfl, fun w hb => ⟨#[], 0, hb, ⟨by simp, stamped_empty 0, by simp⟩, Nat.le_refl _, rfl⟩, tidy_empty, rfl, fun kl _ => ⟨rfl, fun u => rfl⟩⟩
theorem mapG_mono {P : Program} {K : TypeId} {b n n' z : Nat} {m : Lit → Option Value} {g : List Blk} (r : mapG P K b n m z g) (hn : n ≤ n') : mapG P K b n' m z g := by
  obtain ⟨es, clock, D, h1, h2, h3⟩ := r
  exact ⟨es, clock, D, h1, fun w hw => (h2 w hw).mono hn, h3⟩
theorem viewD_put {D : DataW Value} {m : Lit → Option Value} {z : Nat} (h : viewD D m z) {kl : Lit} (hk : WideAt.IsKeyLit kl) (v : Value) : viewD (D.put kl (.held v)) (setK m kl v) (if (m kl).isSome then z else z + 1) := by
  obtain ⟨t, s, a⟩ := h
  refine ⟨t.put hk _, ?_, fun k' hk' => ?_⟩
  · rw [size_put t, (a kl hk).1, s]
  · by_cases e : k' = kl
    · subst e
      rw [has_put_same t.isMap hk]
      simp only [setK, if_true, Option.isSome_some, Option.getD_some, true_and]
      exact fun u => atKey_put_same t.isMap hk _ _
    · rw [has_put_other e]
      simp only [setK, if_neg e]
      exact ⟨(a k' hk').1, fun u => (atKey_put_other e _ _).trans ((a k' hk').2 u)⟩
theorem viewD_del {D : DataW Value} {m : Lit → Option Value} {z : Nat} (h : viewD D m z) {kl : Lit} (hk : WideAt.IsKeyLit kl) (t' : Tidy (D.del kl)) : viewD (D.del kl) (delK m kl) (if (m kl).isSome then z - 1 else z) := by
  obtain ⟨t, s, a⟩ := h
  refine ⟨t', ?_, fun k' hk' => ?_⟩
  · have h1 := size_del (k := kl) t
    rw [(a kl hk).1, s] at h1
    split at h1 <;> simp_all
    omega
  · by_cases e : k' = kl
    · subst e
      rw [has_del_same]
      simp only [delK, if_true, Option.isSome_none, Option.getD_none, true_and]
      exact fun u => atKey_del_same _
    · rw [has_del_other e]
      simp only [delK, if_neg e]
      exact ⟨(a k' hk').1, fun u => (atKey_del_other e _).trans ((a k' hk').2 u)⟩

section
variable {P : Program} {K T E : TypeId} {b n z : Nat} {m : Lit → Option Value} {g : List Blk} {h H : GH} {w w1 : World}
theorem TG.ownMap (T : TG h w H w1) (i : Nat) (hi : H.getD i [] = g) (r : mapG P K b n m z g) : ∃ D, w1.ownsMap P K heldR b n D ∧ viewD D m z := by
  obtain ⟨es, clock, D, rfl, ho, hv⟩ := r
  exact ⟨D, ho w1 (T.obj (p := (b, .map es clock)) i 0 (by rw [hi]; rfl)), hv⟩
/-- behind what has turned that map alone -/
theorem TG.mapTurned (T : TG h w H w1) (i : Nat) (hi : decide (i < H.length) = true) (hg : H.getD i [] = g) (r : mapG P K b n m z g) {w2 : World} (ht : w1.mapTurned w2 b) {D' : DataW Value} {n' z' : Nat} {m' : Lit → Option Value}
    (ho : w2.ownsMap P K heldR b n' D') (hv : viewD D' m' z') : ∃ g', mapG P K b n' m' z' g' ∧ TG h w (H.set i g') w2 := by
  obtain ⟨es, clock, D, rfl, _, _⟩ := r
  obtain ⟨es', clock', hb', ho'⟩ := ownsMap_at ho
  refine ⟨[(b, .map es' clock')], ⟨es', clock', D', rfl, ho', hv⟩, ?_⟩
  obtain ⟨_, _, es2, clock2, hb, rfl⟩ := ht
  exact T.turn (pre := []) (post := []) i (of_decide_eq_true hi) hg hb' (fun k hk => heap_setBlock_other hb _ hk) (by simp [setBlock]) rfl rfl rfl

variable {ops : Array Oper} {rest : List Oper} {o : Oper} {a : Act} {Q : Exit → Act → World → Prop}
/-- 'm[k]' -/
theorem wpList_lookup_G (hgd : o.guard = none) (mo x : Operand) (hop : o.op = Op.lookup T mo x false) (hK : Keyed P K) (ht : P.underlying T = some (.map K E)) (zero : Value) (hz : ∀ w, (zeroValue E).run P w = .ok zero w)
    (TT : TG h w H w1) (i : Nat) (hi : H.getD i [] = g) (r : mapG P K b n m z g) (hm : a.eval mo = .map (some b)) (key : Value) (kl : Lit) (hx : a.eval x = key) (hkey : keyOf P K key = some kl)
    (hk : wpList P ops Q rest (a.put o.dst ((m kl).getD zero)) w1) : wpList P ops Q (o :: rest) a w1 := by
  refine wpList_plain hgd fun K' hK' => ?_
  obtain ⟨D, hown, hv⟩ := TT.ownMap i hi r
  obtain ⟨v, ps, hrun, hR⟩ := hown.lookup hK ht (hz w1) (zd := .held zero) (zp := []) rfl hkey
  have e : v = (m kl).getD zero := by
    rw [(hv.2.2 kl (hK.key hkey)).2 zero] at hR
    simp only [heldR, Option.some.injEq, Prod.mk.injEq, DataW.held.injEq] at hR
    exact hR.1
  subst e
  unfold Oper.wp
  simp [execOp, hop, hm, hx, hrun, Result.andThen]
  exact hK' _ _ hk
/-- 'v, ok := m[k]' -/
theorem wpList_lookup_ok_G (hgd : o.guard = none) (mo x : Operand) (hop : o.op = Op.lookup T mo x true) (hK : Keyed P K) (ht : P.underlying T = some (.map K E)) (zero : Value) (hz : ∀ w, (zeroValue E).run P w = .ok zero w)
    (TT : TG h w H w1) (i : Nat) (hi : H.getD i [] = g) (r : mapG P K b n m z g) (hm : a.eval mo = .map (some b)) (key : Value) (kl : Lit) (hx : a.eval x = key) (hkey : keyOf P K key = some kl)
    (hk : wpList P ops Q rest (a.put o.dst (.tuple #[(m kl).getD zero, .bool (m kl).isSome])) w1) : wpList P ops Q (o :: rest) a w1 := by
  refine wpList_plain hgd fun K' hK' => ?_
  obtain ⟨D, hown, hv⟩ := TT.ownMap i hi r
  obtain ⟨v, ps, hrun, hR⟩ := hown.look_ok hK ht (hz w1) (zd := .held zero) (zp := []) rfl hkey
  have e : v = (m kl).getD zero := by
    rw [(hv.2.2 kl (hK.key hkey)).2 zero] at hR
    simp only [heldR, Option.some.injEq, Prod.mk.injEq, DataW.held.injEq] at hR
    exact hR.1
  subst e
  rw [(hv.2.2 kl (hK.key hkey)).1] at hrun
  unfold Oper.wp
  simp [execOp, hop, hm, hx, hrun, Result.andThen]
  exact hK' _ _ hk
/-- 'm[k] = v' -/
theorem wpList_update_G (hgd : o.guard = none) (mo x v : Operand) (hop : o.op = Op.mapUpdate T mo x v) (hK : Keyed P K) (ht : P.underlying T = some (.map K E))
    (TT : TG h w H w1) (i : Nat) (hi : decide (i < H.length) = true) (hg : H.getD i [] = g) (r : mapG P K b n m z g) (hn : n < maxLen) (hm : a.eval mo = .map (some b)) (key val : Value) (kl : Lit) (hx : a.eval x = key) (hv : a.eval v = val) (hkey : keyOf P K key = some kl)
    (hk : ∀ w2 g', mapG P K b (n + 1) (setK m kl val) (if (m kl).isSome then z else z + 1) g' → TG h w (H.set i g') w2 → wpList P ops Q rest (a.put o.dst undef) w2) : wpList P ops Q (o :: rest) a w1 := by
  refine wpList_plain hgd fun K' hK' => ?_
  obtain ⟨D, hown, hvw⟩ := TT.ownMap i hg r
  obtain ⟨w2, hrun, ho, htu⟩ := hown.store hK ht hn hkey (d := .held val) (ps := []) rfl
  obtain ⟨g', r', T'⟩ := TT.mapTurned i hi hg r htu ho (viewD_put hvw (hK.key hkey) val)
  unfold Oper.wp
  simp [execOp, hop, hm, hx, hv, hrun, Result.andThen]
  exact hK' _ _ (hk w2 g' r' T')
/-- 'delete(m, k)' -/
theorem wpList_delete_G (hgd : o.guard = none) (mo x : Operand) (hop : o.op = Op.call { callee := Callee.builtin Builtin.delete, args := #[mo, x], argTypes := #[T, K] }) (hK : Keyed P K) (ht : P.underlying T = some (.map K E))
    (TT : TG h w H w1) (i : Nat) (hi : decide (i < H.length) = true) (hg : H.getD i [] = g) (r : mapG P K b n m z g) (hm : a.eval mo = .map (some b)) (key : Value) (kl : Lit) (hx : a.eval x = key) (hkey : keyOf P K key = some kl)
    (hk : ∀ w2 g', mapG P K b n (delK m kl) (if (m kl).isSome then z - 1 else z) g' → TG h w (H.set i g') w2 → wpList P ops Q rest (a.put o.dst (.tuple #[])) w2) : wpList P ops Q (o :: rest) a w1 := by
  refine wpList_plain hgd fun K' hK' => ?_
  obtain ⟨D, hown, hvw⟩ := TT.ownMap i hg r
  obtain ⟨w2, hrun, ho, htu⟩ := hown.drop hK ht hkey o.type
  obtain ⟨g', r', T'⟩ := TT.mapTurned i hi hg r htu ho (viewD_del hvw (hK.key hkey) (ho.tidy hK))
  unfold Oper.wp
  simp [execOp, hop, resolve, invoke, builtin, hm, hx, hrun, Result.andThen]
  exact hK' _ _ (hk w2 g' r' T')
/-- 'len(m)' -/
theorem wpList_len_G (hgd : o.guard = none) (mo : Operand) (hop : o.op = Op.call { callee := Callee.builtin Builtin.len, args := #[mo], argTypes := #[T] }) (ht : P.underlying T = some (.map K E))
    (TT : TG h w H w1) (i : Nat) (hi : H.getD i [] = g) (r : mapG P K b n m z g) (hm : a.eval mo = .map (some b))
    (hk : wpList P ops Q rest (a.put o.dst (.int .i64 z)) w1) : wpList P ops Q (o :: rest) a w1 := by
  refine wpList_plain hgd fun K' hK' => ?_
  obtain ⟨D, hown, hv⟩ := TT.ownMap i hi r
  have hrun := hown.len ht o.type
  rw [hv.2.1] at hrun
  unfold Oper.wp
  simp [execOp, hop, resolve, invoke, builtin, hm, hrun, Result.andThen]
  exact hK' _ _ hk
end
end Go.Proofs.Ythbjaoinklhikaa
