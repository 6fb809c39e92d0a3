import Derived.Test.YtblhfbcodbjgcaaGreatTU1
import Derived.Deep.QuietTactic
import Derived.BigQuiet
import Derived.StillTail
import Derived.Test.YtblhfbcodbjgcaaGreatChecked
import Derived.WalkKit
import Derived.TacticsInMore
import Derived.LoopNIn
import Derived.OwnWalkIn
import Derived.Outline
import Derived.Shelf.RegionOpen
import Derived.LoopIn
namespace Go.Proofs.YtblhfbcodbjgcaaGreat
set_option linter.unusedVariables false
set_option linter.unusedSimpArgs false
open Go.RowKit Go.Shelf
def rowG (e : TypeId) (size : Nat) (v : Value) (n : Nat) (xs : List Value) (g : List Blk) : Prop :=
  xs.length = n * size ∧ ((v = .slice none 0 0 ∧ n = 0 ∧ g = []) ∨
    ∃ b cap cur, v = .slice (some ⟨b, 0, none⟩) n cap ∧ g = [cl b e cur] ∧ n ≤ cap ∧ cap ≤ maxLen ∧ cur.size = cap * size ∧ cur.toList.take (n * size) = xs)
section
variable {e : TypeId} {size : Nat} {v : Value} {n : Nat} {xs : List Value} {g : List Blk} {h H : GH} {w w' : World}
theorem rowG_nil (e : TypeId) (size : Nat) : rowG e size (.slice none 0 0) 0 [] [] := ⟨by simp, .inl ⟨rfl, rfl, rfl⟩⟩
theorem rowG_lit (e : TypeId) (size b n cap : Nat) (cur : Array Value) (h1 : n ≤ cap) (h2 : cap ≤ maxLen) (h3 : cur.size = cap * size) : rowG e size (.slice (some ⟨b, 0, none⟩) n cap) n (cur.toList.take (n * size)) [cl b e cur] :=
  ⟨by rw [List.length_take, Array.length_toList, h3]; exact Nat.min_eq_left (Nat.mul_le_mul_right _ h1), .inr ⟨b, cap, cur, rfl, rfl, h1, h2, h3, rfl⟩⟩
theorem rowG.open (r : rowG e size v n xs g) (hn : 0 < n) : ∃ b cap cur, v = .slice (some ⟨b, 0, none⟩) n cap ∧ g = [cl b e cur] ∧ n ≤ cap ∧ cap ≤ maxLen ∧ cur.size = cap * size ∧ ∀ j, j < n * size → cur[j]? = xs[j]? := by
  rcases r.2 with ⟨_, h0, _⟩ | ⟨b, cap, cur, h1, h2, h3, h4, h5, h6⟩
  · omega
  · refine ⟨b, cap, cur, h1, h2, h3, h4, h5, fun j hj => ?_⟩
    rw [← h6, List.getElem?_take, if_pos hj, Array.getElem?_toList]
theorem rowG.val (r : rowG e size v n xs g) : ∃ a cap, v = .slice a n cap := by
  rcases r.2 with ⟨h1, h2, _⟩ | ⟨b, cap, cur, h1, _⟩
  · subst h2; exact ⟨_, _, h1⟩
  · exact ⟨_, _, h1⟩
theorem rowG.isNil (r : rowG e size v n xs g) (hn : n = 0) : xs = [] := by
  subst hn; exact List.eq_nil_of_length_eq_zero (by simpa using r.1)
theorem rowG.set (r : rowG e size v n xs g) {b : Nat} {cur : Array Value} (hg : g = [cl b e cur]) (j : Nat) (x : Value) : rowG e size v n (xs.set j x) [cl b e (cur.setIfInBounds j x)] := by
  subst hg
  refine ⟨by rw [List.length_set]; exact r.1, ?_⟩
  rcases r.2 with ⟨_, _, h3⟩ | ⟨b', cap, cur', h1, h2, h3, h4, h5, h6⟩
  · cases h3
  · cases h2
    refine .inr ⟨b, cap, _, h1, rfl, h3, h4, by simpa using h5, ?_⟩
    rw [← h6, Array.toList_setIfInBounds, List.take_set]
theorem TG.owns (T : TG h w H w') (i : Nat) (hi : H.getD i [] = g) (r : rowG e size v n xs g) : w'.ownsRow 0 e size v n xs := by
  refine ⟨r.1, ?_⟩
  rcases r.2 with ⟨h1, h2, _⟩ | ⟨b, cap, cur, h1, h2, h3, h4, h5, h6⟩
  · exact .inl ⟨h1, h2⟩
  · exact .inr ⟨b, cap, cur, h1, Nat.zero_le _, T.obj (p := (b, .cells cur e (0, 0))) i 0 (by rw [hi, h2]; rfl), h3, h4, h5, h6⟩
theorem TG.letGo (T : TG h w H w') (i : Nat) (hi : i < H.length) : TG h w (H.set i []) w' := by
  have T' : Turned _ _ _ _ := Turned.perm T (ex_perm (perm_at hi))
  rw [ex_append] at T'
  exact T'.drop
theorem TG.putAt (T : TG h w H w') (i : Nat) (hi : i < H.length) {k : Nat} (hk : k = w'.heap.size) (o : Obj) : TG h w (H.set i [(k, o)]) (w'.alloc o) := by
  refine ((T.letGo i hi).put hk o).re ?_
  rw [List.flatten_append]
  refine List.perm_append_comm.trans ?_
  have : ([[(k, o)]] : GH).flatten = [(k, o)] := by simp
  rw [this]
  exact (perm_set _ hi).symm
theorem run_append_row {P : Program} (t ty e : TypeId) (i : TypeInfo) (z : Value) (size bytes : Nat) (ht : P.underlying t = some (.slice e)) (hi : P.info? e = some i) (hz : i.zero = some z)
    (hsize : i.size = size) (hby : i.bytes = bytes) (hzs : z.cells.size = size) (hsz : 0 < size)
    (T : TG h w H w') (k : Nat) (hk : k < H.length) (hg : H.getD k [] = g) (r : rowG e size v n xs g)
    (a : Addr) (m c : Nat) (news : List Value) (hl : news.length = m * size) (hnews : ∀ j u, news[j]? = some u → w'.cell? (a.add j) = some u) (h1 : ∀ u ∈ news, u.oneCell' = true)
    (h63 : n + m ≤ maxLen) (hbytes : (n + m) * bytes ≤ 140737488355328) :
    ∃ v' w'' g', (Builtin.append_ #[t, t] ty #[v, .slice (some a) m c]).run P w' = .ok v' w'' ∧ rowG e size v' (n + m) (xs ++ news) g' ∧ TG h w (H.set k g') w'' := by
  subst hsize
  subst hby
  have hsmall : n + m ≤ 9223372036854775807 := by simp only [maxLen] at h63; omega
  have hlen : (xs ++ news).length = (n + m) * i.size := by rw [List.length_append, r.1, hl, Nat.add_mul]
  have grown : ∀ (old : Nat), old < n + m →
      rowG e i.size (.slice (some ⟨w'.heap.size, 0, none⟩) (n + m) (grownCap w' (n + m) old e)) (n + m) (xs ++ news) [cl w'.heap.size e (xs.toArray ++ news.toArray ++ Builtin.zeroCells z.cells (grownCap w' (n + m) old e - (n + m)))] := by
    intro old ho
    have hge := grownCap_ge w' (n + m) old e
    have hcm : grownCap w' (n + m) old e ≤ maxLen := grownCap_le_maxLen w' (n + m) old e h63
    refine ⟨hlen, .inr ⟨w'.heap.size, _, _, rfl, rfl, hge, hcm, ?_, ?_⟩⟩
    · simp only [Array.size_append, List.size_toArray, size_zeroCells, hzs, r.1, hl, ← Nat.add_mul]
      congr 1
      omega
    · simp only [Array.toList_append, List.append_assoc]
      rw [← List.append_assoc, ← hlen]
      exact List.take_left
  rcases r.2 with ⟨rfl, rfl, rfl⟩ | ⟨b, cap, cur, rfl, rfl, hnc, hcm, hcs, htake⟩
  · have hx : xs = [] := List.eq_nil_of_length_eq_zero (by simpa using r.1)
    subst hx
    by_cases hm : m = 0
    · subst hm
      have hn : news = [] := List.eq_nil_of_length_eq_zero (by simpa using hl)
      subst hn
      refine ⟨.slice none 0 0, w', [], ?_, rowG_nil e i.size, T.letGo k hk⟩
      simp [Builtin.append_, run_underlying ht, sizeOf, typeInfo, hi, Builtin.lenOf, Builtin.firstCells, loadCells, loadCellsFrom]
    · have hr := run_append_nil (P := P) w' t ty e i z ht hi hz a m c news hl hnews (by omega) (by omega) (by have hb := hbytes; simp only [Nat.zero_add] at hb; omega)
      have hgr := grown 0 (by omega)
      simp only [Nat.zero_add, List.nil_append, Array.empty_append] at hgr ⊢
      exact ⟨_, _, _, hr, hgr, T.drew.putAt k hk rfl _⟩
  · have hgb : w'.heap[b]? = some (.cells cur e (0, 0)) := T.obj (p := (b, .cells cur e (0, 0))) k 0 (by rw [hg]; rfl)
    by_cases hroom : n + m ≤ cap
    · have hfit : n * i.size + news.length ≤ cur.size := by rw [hl, hcs, ← Nat.add_mul]; exact Nat.mul_le_mul_right _ hroom
      have hr := run_append_room (P := P) w' t ty e i ht hi b n cap cur hgb a m c news hl hnews h1 hroom hfit
      refine ⟨_, _, [cl b e (cur.toList.take (n * i.size) ++ news ++ cur.toList.drop (n * i.size + news.length)).toArray], hr, ⟨hlen, .inr ⟨b, cap, _, rfl, rfl, hroom, hcm, ?_, ?_⟩⟩,
        T.turn (pre := []) (post := []) k (o' := .cells _ e (0, 0)) hk hg (setRow_heap w' b cur _ e _ hgb) (fun j hj => setRow_other w' b j _ hj) (by simp) rfl rfl rfl⟩
      · simp only [List.size_toArray, List.length_append, List.length_take, List.length_drop, Array.length_toList]
        omega
      · rw [htake, ← hlen]
        exact List.take_left
    · have hown : w'.ownsRow 0 e i.size (.slice (some ⟨b, 0, none⟩) n cap) n xs := T.owns k hg r
      have holds : ∀ j u, xs[j]? = some u → w'.cell? ((⟨b, 0, none⟩ : Addr).add j) = some u := hown.cells (g := b) rfl
      have hr := run_append_grow (P := P) w' t ty e i z ht hi hz ⟨b, 0, none⟩ n cap xs r.1 holds a m c news hl hnews (by omega) (by omega) (growslice_fits (by omega) hbytes)
      exact ⟨_, _, _, hr, grown cap (by omega), T.drew.putAt k hk rfl _⟩
theorem wpList_append_G {P : Program} {ops : Array Oper} {rest : List Oper} {o : Oper} {a : Act} {Q : Exit → Act → World → Prop} (hgd : o.guard = none) (s x : Operand) (t : TypeId)
    (ho : o.op = .call { callee := .builtin .append, args := #[s, x], argTypes := #[t, t] })
    (e : TypeId) (size bytes : Nat) (z : Value) (ht : P.underlying t = some (.slice e)) (hinfo : (P.info? e).map (fun i => (i.zero, i.size, i.bytes)) = some (some z, size, bytes)) (hzs : z.cells.size = size) (hsz : 0 < size)
    (T : TG h w H w') (k : Nat) (hk : decide (k < H.length) = true) (hg : H.getD k [] = g) (r : rowG e size v n xs g) (hs : a.eval s = v)
    (ad : Addr) (m c : Nat) (news : List Value) (hx : a.eval x = .slice (some ad) m c) (hl : news.length = m * size) (hnews : ∀ j u, news[j]? = some u → w'.cell? (ad.add j) = some u) (h1 : ∀ u ∈ news, u.oneCell' = true)
    (h63 : n + m ≤ maxLen) (hbytes : (n + m) * bytes ≤ 140737488355328)
    (hK : ∀ v' w'' g', rowG e size v' (n + m) (xs ++ news) g' → TG h w (H.set k g') w'' → wpList P ops Q rest (a.put o.dst v') w'') : wpList P ops Q (o :: rest) a w' := by
  obtain ⟨i, hi, hz, hsize, hby⟩ := info_parts hinfo
  refine wpList_plain hgd fun K hK' => ?_
  obtain ⟨v', w'', g', hr, h2, h3⟩ := run_append_row (P := P) t o.type e i z size bytes ht hi hz hsize hby hzs hsz T k (of_decide_eq_true hk) hg r ad m c news hl hnews h1 h63 hbytes
  unfold Oper.wp execOp
  simp only [ho, resolve, invoke, builtin, Sem.run_bind, Sem.run_pure, Result.andThen_ok, List.map_toArray, List.map_cons, List.map_nil, hs, hx, hr]
  exact hK' _ _ (hK v' w'' g' h2 h3)
end
theorem news_alloc (w : World) (T : TypeId) (l : List Value) : ∀ j u, l[j]? = some u → (w.alloc (.cells l.toArray T)).cell? ((⟨w.heap.size, 0, none⟩ : Addr).add j) = some u := by
  intro j u hu
  have e : ((⟨w.heap.size, 0, none⟩ : Addr).add j) = ⟨w.heap.size, j, none⟩ := by unfold Addr.add; split <;> simp_all
  rw [e, blk_cell (alloc_new _ rfl)]
  simpa using hu
end Go.Proofs.YtblhfbcodbjgcaaGreat

namespace Go.Proofs.YtblhfbcodbjgcaaGreat
set_option linter.unusedVariables false
set_option linter.unusedSimpArgs false
open Go.RowKit Go.Shelf
def Away (lo c : Nat) (H : GH) : Prop := ∀ k, k ∈ keys (ex H.flatten) → ¬ Win lo c k
section
variable {h H H' : GH} {w w' w'' : World} {lo c : Nat}
theorem HasG.lt (a : HasG H w) {k : Nat} (hk : k ∈ keys (ex H.flatten)) : k < w.heap.size := Has.lt a hk
theorem Away.of_lt (a : HasG H w) (hw : w.heap.size ≤ lo) : Away lo c H := fun k hk hx => by have := a.lt hk; have := hx.1; omega
theorem Away.next (a : Away lo c H) (T : TG H w H' w') (hw : lo + c ≤ w.heap.size) : Away lo c H' := fun k hk hx => by
  rcases Turned.news T k hk with h1 | h1
  · exact a k h1 hx
  · have := hx.2; omega
theorem TG.kept (T : TG H w H' w') (a : Away lo c H) (hw : lo + c ≤ w.heap.size) : KeptWin lo c w w' :=
  KeptWin.of_only (Turned.only T) hw (fun k h1 h2 hk => a k hk ⟨h1, h2⟩)
theorem HasG.only {S : Nat → Prop} (a : HasG H w) (ho : Only S w w') (hs : ∀ k, k ∈ keys (ex H.flatten) → ¬ S k) : HasG H w' := Has.only a ho hs
theorem TG.other {S : Nat → Prop} (T : TG h w H w') (ho : Only S w' w'') (hs : ∀ k, k ∈ keys (ex H.flatten) → ¬ S k) (hn : ∀ k, S k → w.heap.size ≤ k) : TG h w H w'' :=
  ⟨T.has.only ho hs, (Turned.only T).trans' ho (fun k hk hx => by have := hn k hx; omega), Turned.news T⟩
end
def outG (J : Nat → GH → Prop) (Jx : Nat → Code → GH → Prop) (k : Nat) (H : GH) (W : World) : Exit → Act → World → Prop
  | .normal, _, W' => ∃ H', J k H' ∧ TG H W H' W'
  | .ret, _, W' => ∃ H', Jx k .ret H' ∧ TG H W H' W'
  | .exit id, _, W' => ∃ H', Jx k (.exit id) H' ∧ TG H W H' W'
  | .goto t, _, W' => ∃ H', Jx k (.goto t) H' ∧ TG H W H' W'
  | .panic _, _, _ => False
  | .outgrown, _, _ => False
def IterG (P : Program) (g : Nat) (lb : Array Value) (c N : Nat) (xs : Nat → Array Value) (T : Nat → GH → Prop) : Prop :=
  ∀ W, Iter P g lb c N xs (fun k W' => ∃ H, T k H ∧ HasG H W') W
def DOut (w0 : World) (D : Nat) (H : GH) (W : World) : Prop := w0.heap.size ≤ D ∧ D < W.heap.size ∧ D ∉ keys (ex H.flatten)
theorem TG.fin {h H H' : GH} {w0 W W' : World} {D : Nat} (T : TG h w0 H W) (hA : DOut w0 D H W) (T2 : TG H W H' W') (o : Obj) : TG h w0 H' (W'.putObj D o) :=
  (T.trans T2).other (Only.putObj (S := fun j => j = D) (Only.refl _ _) _ (.inl rfl) o) (fun k hk e => by
    subst e
    rcases Turned.news T2 k hk with h1 | h1
    · exact hA.2.2 h1
    · have := hA.2.1; omega) (fun k e => by rw [e]; exact hA.1)
theorem wp_rangeG {P : Program} {g : Operand} {ps : Array Tmp} {assign body : Code} {Q : Exit → Act → World → Prop} {a : Act} {w0 w : World} {gf : Nat} {lb : Array Value}
    (hg : a.eval g = .func (.func gf) #[] lb) (eg : ∀ args w, (callFunc gf args).run P w = .ok (.enter gf args) w)
    {c N : Nat} {xs : Nat → Array Value} {T : Nat → GH → Prop} (hit : IterG P gf lb c N xs T) (hps : ∀ (k : Nat), k < N → (xs k).size = ps.size)
    {h H0 : GH} (T0 : TG h w0 H0 w) (J : Nat → GH → Prop) (Jx : Nat → Code → GH → Prop) (h0 : J 0 H0) (hT : ∀ k H, k ≤ N → J k H → T k H)
    (hbody : ∀ (k : Nat), k < N → ∀ (H : GH) (W : World) (l : Nat), J k H → HasG H W →
      assign.wpIn (Fence.wide.inRound l) 0 P (Exit.then (fun a₁ Wa => ∃ Ha, TG H W Ha Wa ∧
        ∀ Wb, HasG Ha Wb → body.wpIn (Fence.wide.inRound l) 0 P (outG J Jx (k + 1) Ha Wb) a₁ Wb) (fun _ _ _ => False))
        { tmps := (ps.zip (xs k)).foldl (fun t (p, v) => t.setIfInBounds p v) a.tmps, defers := [] } W)
    (hdone : ∀ H W D, J N H → TG h w0 H W → DOut w0 D H W → W.heap[D]? = some (.deferred (some [])) → Q .normal { a with defers := markOf D :: a.defers } W)
    (hstop : ∀ k cd H W D, k < N → Jx (k + 1) cd H → TG h w0 H W → DOut w0 D H W → W.heap[D]? = some (.deferred (some [])) → cd.wp P Q { a with defers := markOf D :: a.defers } W) :
    (Code.rangeFunc g ps assign body).wp P Q a w := by
  have hw0 : w0.heap.size ≤ w.heap.size := (Turned.only T0).size
  refine wp_range hg eg c N xs (fun k W' => ∃ H, T k H ∧ HasG H W') (fun W1 _ _ => hit W1) hps
    (fun k W => ∃ H, J k H ∧ TG h w0 H W ∧ Away w.heap.size (2 + c) H)
    (fun k cd W => ∃ H, Jx k cd H ∧ TG h w0 H W ∧ Away w.heap.size (2 + c) H) ?_ ?_ ?_ ?_ ?_ ?_ ?_
  · rintro k A B ⟨H, hJ, hTG, hA⟩ hle ho
    exact ⟨H, hJ, hTG.other ho (fun i hi hx => hA i hi hx) (fun i hx => Nat.le_trans hw0 hx.1), hA⟩
  · rintro cd k A B ⟨H, hJ, hTG, hA⟩ hle ho
    exact ⟨H, hJ, hTG.other ho (fun i hi hx => hA i hi hx) (fun i hx => Nat.le_trans hw0 hx.1), hA⟩
  · rintro k W hk ⟨H, hJ, hTG, _⟩
    exact ⟨H, hT k H hk hJ, hTG.has⟩
  · exact ⟨H0, h0, T0, Away.of_lt T0.has (Nat.le_refl _)⟩
  · rintro k hk W ⟨H, hJ, hTG, hA⟩ hz hr
    refine wpIn_mono (hbody k hk H W (w.heap.size + 1) hJ hTG.has) ?_
    intro e a₁ Wa hex
    cases e with
    | normal =>
      obtain ⟨Ha, hTa, hb⟩ := hex
      have hza := (Turned.only hTa).size
      have hAa := hA.next hTa (by omega)
      refine ⟨hTa.kept hA (by omega), fun Wb ho hzb _ => ?_⟩
      have hHb : HasG Ha Wb := hTa.has.only ho (fun i hi e => hAa i hi ⟨by omega, by omega⟩)
      have hTb : TG h w0 Ha Wb := (hTG.trans hTa).other ho (fun i hi e => hAa i hi ⟨by omega, by omega⟩) (fun i e => by omega)
      refine wpIn_mono (hb Wb hHb) ?_
      intro e2 a₂ W3 h3
      have fin : ∀ H', TG Ha Wb H' W3 → KeptWin w.heap.size (2 + c) Wb W3 ∧ TG h w0 H' W3 ∧ Away w.heap.size (2 + c) H' := fun H' hT3 =>
        ⟨hT3.kept hAa (by omega), hTb.trans hT3, hAa.next hT3 (by omega)⟩
      cases e2 with
      | normal => obtain ⟨H', hJ', hT3⟩ := h3; obtain ⟨f1, f2, f3⟩ := fin H' hT3; exact ⟨f1, H', hJ', f2, f3⟩
      | ret => obtain ⟨H', hJ', hT3⟩ := h3; obtain ⟨f1, f2, f3⟩ := fin H' hT3; exact ⟨f1, H', hJ', f2, f3⟩
      | exit id => obtain ⟨H', hJ', hT3⟩ := h3; obtain ⟨f1, f2, f3⟩ := fin H' hT3; exact ⟨f1, H', hJ', f2, f3⟩
      | goto t => obtain ⟨H', hJ', hT3⟩ := h3; obtain ⟨f1, f2, f3⟩ := fin H' hT3; exact ⟨f1, H', hJ', f2, f3⟩
      | panic ch => exact h3.elim
      | outgrown => exact h3.elim
    | ret => exact hex.elim
    | exit id => exact hex.elim
    | goto t => exact hex.elim
    | panic ch => exact hex.elim
    | outgrown => exact hex.elim
  · rintro W ⟨H, hJ, hTG, hA⟩ hK
    have hTD : DOut w0 w.heap.size H W := ⟨hw0, (Array.getElem?_eq_some_iff.1 hK).1, fun hk => hA _ hk ⟨Nat.le_refl _, by omega⟩⟩
    exact hdone H W _ hJ hTG hTD hK
  · rintro k cd W hk ⟨H, hJ, hTG, hA⟩ hK
    have hTD : DOut w0 w.heap.size H W := ⟨hw0, (Array.getElem?_eq_some_iff.1 hK).1, fun hk => hA _ hk ⟨Nat.le_refl _, by omega⟩⟩
    exact hstop k cd H W _ hk hJ hTG hTD hK
end Go.Proofs.YtblhfbcodbjgcaaGreat

namespace Go.Proofs.YtblhfbcodbjgcaaGreat
set_option linter.unusedVariables false
open Go.RowKit Go.Shelf
def ReadsG (P : Program) (f : Nat) (args : Array Value) (gs : GH) (v : Value) : Prop :=
  ∀ w, HasG gs w → Calls P f args w fun e w' => e = .returned v ∧ ∃ m, w' = w.drewN m
section
variable {P : Program} {f : Nat} {args : Array Value} {gs h H : GH} {v : Value} {w w1 : World}
theorem ReadsG.does (r : ReadsG P f args gs v) : DoesG P f args gs fun e gs' => e = .returned v ∧ gs' = gs :=
  fun w hw => (r w hw).mono fun e w' ⟨he, m, hw'⟩ => ⟨gs, ⟨he, rfl⟩, by subst hw'; exact (TG.refl hw).drewN m⟩
theorem ReadsG.use (r : ReadsG P f args gs v) (T : TG h w H w1) (is : List Nat) (hp : pickG H is = gs) (hf : fineG H is = true) :
    Calls P f args w1 fun e w2 => e = .returned v ∧ ∃ m, w2 = w1.drewN m := by
  subst hp; exact r w1 (T.pick is hf).has
theorem ReadsG.quiet (r : ReadsG P f args gs v) (T : TG h w H w1) (n : Nat) (is : List Nat) (hp : pickG H is = gs) (hf : fineG H is = true) :
    Calls P f args (w1.drewN n) fun e w2 => e = .returned v ∧ ∃ m, w2 = w1.drewN m :=
  Calls.quiet_of (r.use (T.drewN n) is hp hf)
end
end Go.Proofs.YtblhfbcodbjgcaaGreat

namespace Go.Proofs.YtblhfbcodbjgcaaGreat
set_option linter.unusedVariables false
open Go.RowKit Go.Shelf
theorem wp_region_cls {ι : Type} {P : Program} (W : ι → World) {id : Nat} {Q : Exit → Act → World → Prop} {a : Act} {w : World} {l : List Oper} (hm : P.follows .mixedOrders = true) (hB : Region.lexB .any l.toArray = true)
    (h0 : ∃ i, w.drew = W i) (h : wpQuiet P l.toArray (fun w' => ∃ i, w' = W i) (fun a' => ∀ w', (∃ i, w' = W i) → Q .normal a' w') l a) : (Code.region id l.toArray true).wp P Q a w :=
  wp_region_quiet (C := fun w' => ∃ i, w' = W i) hm hB h0 (by simpa using h)
end Go.Proofs.YtblhfbcodbjgcaaGreat

namespace Go.Proofs.YtblhfbcodbjgcaaGreat
set_option linter.unusedVariables false
open Go.RowKit Go.Shelf
section
variable {P : Program} {ops : Array Oper} {md : Region.Mode}
def floatB (o : Oper) : Bool := match o.op with | .move _ => true | .assign _ => true | .extract _ _ => true | .pick _ _ _ => true | _ => false
def addD : Option Deferred → Act → Act
  | none, a => a
  | some d, a => { a with defers := d :: a.defers }
theorem addD_put (d : Option Deferred) (a : Act) (x : Option Tmp) (v : Value) : addD d (a.put x v) = (addD d a).put x v := by
  cases d <;> cases x <;> rfl
theorem addD_eval (d : Option Deferred) (a : Act) : (addD d a).eval = a.eval := by cases d <;> rfl
theorem addD_tmps (d : Option Deferred) (a : Act) : (addD d a).tmps = a.tmps := by cases d <;> rfl
def effUp (P : Program) (N : Option Deferred → Value → World → Prop) : Result Next → Prop
  | .ok (.value v) w' => N none v w'
  | .ok .skip w' => N none undef w'
  | .ok (.defer d) w' => N (some d) undef w'
  | .ok (.enter f args) w' => Calls P f args w' fun e w'' => ∃ v, e = .returned v ∧ N none v w''
  | .ok (.row row args) w' => Rows P row args w' fun v w'' => N none v w''
  | _ => False
theorem effUp_mono {N N' : Option Deferred → Value → World → Prop} (h : ∀ d v w, N d v w → N' d v w) : ∀ {r : Result Next}, effUp P N r → effUp P N' r
  | .ok (.value _) _, hh => h _ _ _ hh
  | .ok .skip _, hh => h _ _ _ hh
  | .ok (.defer _) _, hh => h _ _ _ hh
  | .ok (.enter _ _) _, hh => Calls.mono hh fun e w'' ⟨v, he, hn⟩ => ⟨v, he, h _ _ _ hn⟩
  | .ok (.row _ _) _, hh => Rows.mono hh fun v w'' hn => h _ _ _ hn
  | .ok (.comm ..) _, hh => by simp [effUp] at hh
  | .ok (.spawn ..) _, hh => by simp [effUp] at hh
  | .halt _ _, hh => by simp [effUp] at hh
theorem float_run {o : Oper} (hf : floatB o = true) (a : Act) : (∃ v, ∀ w, (execOp a.eval o).run P w = .ok (.value v) w) ∨ ∀ w, ∃ h w', (execOp a.eval o).run P w = .halt h w' := by
  unfold floatB at hf
  split at hf
  · rename_i x hx
    refine .inl ⟨a.eval x, fun w => ?_⟩
    unfold execOp
    rw [hx]
    rfl
  · rename_i x hx
    refine .inl ⟨a.eval x, fun w => ?_⟩
    unfold execOp
    rw [hx]
    rfl
  · rename_i x i hx
    unfold execOp
    rw [hx]
    simp only [Instr.extract]
    cases a.eval x
    case tuple vs =>
      simp only []
      cases hv : vs[i]? with
      | some v => exact .inl ⟨v, fun w => rfl⟩
      | none => exact .inr fun w => ⟨_, _, rfl⟩
    all_goals exact .inr fun w => ⟨_, _, rfl⟩
  · rename_i c x y hx
    unfold execOp
    rw [hx]
    simp only []
    cases a.eval c
    case bool b => exact .inl ⟨_, fun w => rfl⟩
    all_goals exact .inr fun w => ⟨_, _, rfl⟩
  · cases hf
theorem float_yields {o : Oper} (hf : floatB o = true) (a : Act) {C : World → Prop} (hne : ∃ w, C w) {v : Value} (hy : YieldsIn P ops C o v a) (C' : World → Prop) : YieldsIn P ops C' o v a := by
  rcases hy with ⟨hw, hv⟩ | hy
  · refine .inl ⟨hw, fun w hw' => ?_⟩
    obtain ⟨w0, h0⟩ := hne
    have h1 := hv w0 h0
    unfold Oper.quietAt at h1 ⊢
    rcases float_run (P := P) hf a with ⟨u, hu⟩ | hu
    · rw [hu] at h1 ⊢
      simp only [Oper.quietUpon] at h1 ⊢
      exact ⟨trivial, h1.2⟩
    · obtain ⟨h, w', e⟩ := hu w0
      rw [e] at h1
      simp only [Oper.quietUpon] at h1
  · exact .inr hy
def mStep (P : Program) (ops : Array Oper) (n i : Nat) (K : Act → (World → Prop) → Prop) (a : Act) (C : World → Prop) : Prop :=
  match ops[i]? with
  | none => K a C
  | some o => if Region.wanted o (yielded ops a.tmps) then
      (if (decide (i < n) || floatB o) = true then ∃ v, (∀ w, C w → o.quietAt P a C w v) ∧ K (a.put o.dst v) C
       else ∀ w, C w → effUp P (fun d v w' => K ((addD d a).put o.dst v) (fun x => x = w')) ((execOp a.eval o).run P w))
    else K (a.put o.dst undef) C
theorem mStep_mono {n i : Nat} {K K' : Act → (World → Prop) → Prop} {a : Act} {C : World → Prop} (h : ∀ a C, (∃ w, C w) → K a C → K' a C) (hne : ∃ w, C w) (hh : mStep P ops n i K a C) : mStep P ops n i K' a C := by
  unfold mStep at *
  split
  · rename_i ho; simp only [ho] at hh; exact h _ _ hne hh
  · rename_i o ho
    simp only [ho] at hh
    split
    · rename_i hw
      simp only [hw, if_true] at hh
      split
      · rename_i hi
        rw [if_pos hi] at hh
        obtain ⟨v, h1, h2⟩ := hh
        exact ⟨v, h1, h _ _ hne h2⟩
      · rename_i hi
        rw [if_neg hi] at hh
        exact fun w hw' => effUp_mono (fun d v w' hn => h _ (fun x => x = w') ⟨w', rfl⟩ hn) (hh w hw')
    · rename_i hw
      simp only [hw] at hh
      exact h _ _ hne hh
def wpAnyM (P : Program) (md : Region.Mode) (ops : Array Oper) (n : Nat) (Q : Act → World → Prop) : Nat → Array Bool → Act → (World → Prop) → Prop
  | 0, listed, a, C => Region.ready md ops listed = [] ∧ ∀ w, C w → Q a w
  | f + 1, listed, a, C => (Region.ready md ops listed = [] → ∀ w, C w → Q a w) ∧ ∀ i ∈ Region.ready md ops listed, mStep P ops n i (fun a' C' => wpAnyM P md ops n Q f (listed.setIfInBounds i true) a' C') a C
theorem wp_of_effUp {o : Oper} {a : Act} {w : World} {K : Act → World → Prop} {Q' : Exit → Act → World → Prop} (h : effUp P (fun d v w' => K ((addD d a).put o.dst v) w') ((execOp a.eval o).run P w)) : o.wp P a w K Q' := by
  unfold Oper.wp
  generalize (execOp a.eval o).run P w = r at *
  cases r with
  | ok x w' =>
    cases x <;> simp only [effUp] at h <;> simp only [Oper.upon]
    case value u => exact h
    case skip => exact h
    case defer d => exact h
    case enter f args => exact h.mono fun e w'' ⟨v, he, hn⟩ => by subst he; exact hn
    case row r args => exact h
  | halt x w' => simp only [effUp] at h
theorem wpAny_of_M {n : Nat} {Q : Act → World → Prop} {Q' : Exit → Act → World → Prop} (hQ : ∀ a w, Q a w → Q' .normal a w) : ∀ (f : Nat) (listed : Array Bool) (a : Act) (C : World → Prop) (w : World), C w →
    wpAnyM P md ops n Q f listed a C → wpAny P md ops Q' f listed a w
  | 0, _, _, _, _, hw, h => ⟨h.1, hQ _ _ (h.2 _ hw)⟩
  | f + 1, listed, a, C, w, hw, h => by
    refine ⟨fun h0 => hQ _ _ (h.1 h0 _ hw), fun i hi => ?_⟩
    have hh := h.2 i hi
    unfold mStep at hh
    unfold wpOp
    split
    · rename_i ho; simp only [ho] at hh; exact wpAny_of_M hQ f _ _ _ _ hw hh
    · rename_i o ho
      simp only [ho] at hh
      split
      · rename_i hwt
        simp only [hwt, if_true] at hh
        by_cases hin : (decide (i < n) || floatB o) = true
        · rw [if_pos hin] at hh
          obtain ⟨v, h1, h2⟩ := hh
          refine .inl (Oper.wp_of_quiet (C := C) (K := fun a' => wpAnyM P md ops n Q f (listed.setIfInBounds i true) a' C) hw (fun a' w' hw' hk => wpAny_of_M hQ f _ a' C w' hw' hk) ⟨v, h1, h2⟩)
        · rw [if_neg hin] at hh
          exact .inl (wp_of_effUp (effUp_mono (fun d v w' hn => wpAny_of_M hQ f _ _ (fun x => x = w') _ rfl hn) (hh w hw)))
      · rename_i hwt
        simp only [hwt] at hh
        exact wpAny_of_M hQ f _ _ _ _ hw hh
structure Closed (md : Region.Mode) (ops : Array Oper) (listed : Array Bool) : Prop where
  size : listed.size = ops.size
  closed : ∀ j oj, ops[j]? = some oj → listed.getD j false = true → ∀ e ∈ oj.after, Region.binds md e = true → listed.getD e.on false = true
theorem Closed.set {i : Nat} {listed : Array Bool} (inv : Closed md ops listed) (hi : i ∈ Region.ready md ops listed) : Closed md ops (listed.setIfInBounds i true) := by
  obtain ⟨_, oi, hoi, hall⟩ := mem_ready.1 hi
  refine ⟨by simp [inv.size], fun j oj hj hl e he hb => ?_⟩
  by_cases hij : i = j
  · subst hij
    have : oj = oi := Option.some.inj (hj.symm.trans hoi)
    subst this
    exact getD_set_true (hall e he hb)
  · rw [getD_set_ne false hij] at hl
    exact getD_set_true (inv.closed j oj hj hl e he hb)
def goods (md : Region.Mode) (ops : Array Oper) (n : Nat) : Nat → List Nat
  | 0 => []
  | d + 1 => if Region.waitsFor md ops n (n - (d + 1)) || (goods md ops n d).any (fun j => Region.waitsFor md ops j (n - (d + 1))) then (n - (d + 1)) :: goods md ops n d else goods md ops n d
theorem goods_listed {n : Nat} {listed : Array Bool} (inv : Closed md ops listed) (hn : ∀ on, ops[n]? = some on → ∀ e ∈ on.after, Region.binds md e = true → listed.getD e.on false = true) :
    ∀ d, ∀ k ∈ goods md ops n d, listed.getD k false = true := by
  intro d
  induction d with
  | zero => intro k hk; cases hk
  | succ d ih =>
    intro k hk
    unfold goods at hk
    split at hk
    · rename_i hc
      rcases List.mem_cons.1 hk with rfl | hk
      · simp only [Bool.or_eq_true] at hc
        rcases hc with hc | hc
        · obtain ⟨on, ho, e, he, hb, hon⟩ := Region.waitsFor_spec hc
          exact hon ▸ hn on ho e he hb
        · obtain ⟨j, hj, hc⟩ := List.any_eq_true.1 hc
          obtain ⟨oj, ho, e, he, hb, hon⟩ := Region.waitsFor_spec hc
          exact hon ▸ inv.closed j oj ho (ih j hj) e he hb
      · exact ih k hk
    · exact ih k hk
def chain2 (md : Region.Mode) (ops : Array Oper) (n : Nat) : Bool :=
  (List.range ops.size).all fun t => decide (t ≤ n) || (List.range t).any fun j => decide (n ≤ j) && Region.waitsFor md ops t j
theorem chain_waits {n i : Nat} {listed : Array Bool} (hc : chain2 md ops n = true) (inv : Closed md ops listed) (hg : i ∈ goods md ops n n) (hun : listed.getD i false = false) : ∀ t, n ≤ t → t ∉ Region.ready md ops listed := by
  have key : ∀ t, n ≤ t → (∀ ot, ops[t]? = some ot → ∀ e ∈ ot.after, Region.binds md e = true → listed.getD e.on false = true) → t < ops.size → False := by
    intro t
    induction t using Nat.strongRecOn with
    | _ t ih =>
      intro hnt h hlt
      have h1 := List.all_eq_true.1 hc t (List.mem_range.2 hlt)
      simp only [Bool.or_eq_true, decide_eq_true_eq] at h1
      rcases h1 with h1 | h1
      · have : t = n := by omega
        subst this
        rw [goods_listed inv h t i hg] at hun
        cases hun
      · obtain ⟨j, hj, hj2⟩ := List.any_eq_true.1 h1
        simp only [Bool.and_eq_true, decide_eq_true_eq] at hj2
        have hjt := List.mem_range.1 hj
        obtain ⟨ot, ho, e, he, hb, hon⟩ := Region.waitsFor_spec hj2.2
        have h2 := h ot ho e he hb
        rw [hon] at h2
        exact ih j hjt hj2.1 (fun oj hoj e' he' hb' => inv.closed j oj hoj h2 e' he' hb') (by omega)
  intro t ht hr
  obtain ⟨_, ot, ho, hall⟩ := mem_ready.1 hr
  exact key t ht (fun ot' ho' => by rw [ho] at ho'; cases ho'; exact hall) (Array.getElem?_eq_some_iff.1 ho).1
theorem mStep_put {n j : Nat} {oi oj : Oper} {v : Value} (hj : ops[j]? = some oj) (hap : oi.apart ops oj = true)
    (hsi : ∀ cs b, oi.op ≠ .select cs b) (hsj : ∀ cs b, oj.op ≠ .select cs b) {K : Act → (World → Prop) → Prop} {a : Act} {C : World → Prop} (hne : ∃ w, C w)
    (hy : YieldsIn P ops C oi v a) (hfl : floatB oi = true ∨ (decide (j < n) || floatB oj) = true) (h : mStep P ops n j K (a.put oi.dst v) C) :
    mStep P ops n j (fun a' C' => YieldsIn P ops C' oi v a' ∧ (floatB oi = true ∨ C' = C) ∧ (∃ w, C' w) ∧ K (a'.put oi.dst v) C') a C := by
  obtain ⟨h1, h2, h3⟩ := Oper.apart_spec hap
  have keep : ∀ (a : Act), YieldsIn P ops C oi v a → ∀ u, YieldsIn P ops C oi v (a.put oj.dst u) := fun a hy u =>
    hy.of_same (execOp_put oi hsi a oj.dst u h3) (wanted_put oi a oj.dst u h3)
  unfold mStep at *
  simp only [hj] at *
  rw [wanted_put oj a oi.dst v h1] at h
  split
  · rename_i hw
    simp only [hw, if_true] at h
    split
    · rename_i hjn
      rw [if_pos hjn] at h
      obtain ⟨u, hu, hn⟩ := h
      refine ⟨u, fun w hw' => ?_, keep a hy u, by simp, hne, by rw [← Act.put_comm a v u h2]; exact hn⟩
      have := hu w hw'
      unfold Oper.quietAt at *
      rwa [execOp_put oj hsj a oi.dst v h1] at this
    · rename_i hjn
      rw [if_neg hjn] at h
      have hf := hfl.resolve_right hjn
      intro w hw'
      have := h w hw'
      rw [execOp_put oj hsj a oi.dst v h1] at this
      refine effUp_mono (fun d u w' hn => ⟨?_, .inl hf, ⟨w', rfl⟩, ?_⟩) this
      · have y1 := float_yields hf _ hne (keep a hy u) (fun x => x = w')
        refine y1.of_same ?_ ?_
        · rw [← addD_put, addD_eval]
        · rw [← addD_put, addD_tmps]
      · have e1 : ((addD d a).put oj.dst u).put oi.dst v = (addD d (a.put oi.dst v)).put oj.dst u := by
          rw [addD_put, Act.put_comm (addD d a) v u h2]
        rw [e1]
        exact hn
  · rename_i hw
    simp only [hw] at h
    exact ⟨keep a hy _, by simp, hne, by rw [← Act.put_comm a v undef h2]; exact h⟩
theorem yieldsIn_mStep {n i : Nat} {o : Oper} {v : Value} {a : Act} {C : World → Prop} (hi : ops[i]? = some o) (hin : (decide (i < n) || floatB o) = true) (hy : YieldsIn P ops C o v a) {K : Act → (World → Prop) → Prop} (h : K (a.put o.dst v) C) : mStep P ops n i K a C := by
  unfold Go.Proofs.YtblhfbcodbjgcaaGreat.mStep
  simp only [hi]
  rcases hy with ⟨hw, hv⟩ | ⟨hw, rfl⟩
  · simp only [hw, hin, if_true]; exact ⟨v, hv, h⟩
  · simp only [hw, Bool.false_eq_true, if_false]; exact h
theorem wpAnyM_first {n : Nat} {Q : Act → World → Prop} {i : Nat} {oi : Oper} {v : Value} (hi : ops[i]? = some oi) (hin : (decide (i < n) || floatB oi) = true) (hsel : ∀ (j : Nat) (o : Oper) cs b, ops[j]? = some o → o.op ≠ .select cs b)
    (hc : chain2 md ops n = true) (hk : floatB oi = true ∨ i ∈ goods md ops n n) :
    ∀ (f : Nat) (listed : Array Bool) (a : Act) (C : World → Prop), (∃ w, C w) → Closed md ops listed →
      (∀ j oj, ops[j]? = some oj → j ≠ i → listed.getD j true = false → (∀ e ∈ oj.after, Region.binds md e = true → e.on ≠ i) → oi.apart ops oj = true) →
      i ∈ Region.ready md ops listed → YieldsIn P ops C oi v a →
      wpAnyM P md ops n Q f (listed.setIfInBounds i true) (a.put oi.dst v) C → wpAnyM P md ops n Q (f + 1) listed a C := by
  intro f
  induction f with
  | zero =>
    intro listed a C hne inv _ hr hy H
    refine ⟨fun h => (by rw [h] at hr; cases hr), fun j hj => ?_⟩
    by_cases hji : j = i
    · subst hji; exact yieldsIn_mStep hi hin hy H
    · have := ready_mono hj hji
      rw [H.1] at this
      cases this
  | succ f ih =>
    intro listed a C hne inv hfree hr hy H
    refine ⟨fun h => (by rw [h] at hr; cases hr), fun j hj => ?_⟩
    by_cases hji : j = i
    · subst hji; exact yieldsIn_mStep hi hin hy H
    · have h1 := H.2 j (ready_mono hj hji)
      obtain ⟨hjun, oj, hoj, hall⟩ := mem_ready.1 hj
      have hun := (mem_ready.1 hr).1
      have hnot : ∀ e ∈ oj.after, Region.binds md e = true → e.on ≠ i := fun e he hb heq => by
        have h1 := hall e he hb
        rw [heq, getD_both hun] at h1
        cases h1
      have hfl : floatB oi = true ∨ (decide (j < n) || floatB oj) = true := by
        rcases hk with hk | hk
        · exact .inl hk
        · rcases Nat.lt_or_ge j n with h | h
          · exact .inr (by simp [h])
          · exact absurd hj (chain_waits hc inv hk (getD_both hun) j h)
      have h2 := mStep_put hoj (hfree j oj hoj hji hjun hnot) (fun cs b => hsel i oi cs b hi) (fun cs b => hsel j oj cs b hoj) hne hy hfl h1
      have hfree' : ∀ k ok, ops[k]? = some ok → k ≠ i → (listed.setIfInBounds j true).getD k true = false →
          (∀ e ∈ ok.after, Region.binds md e = true → e.on ≠ i) → oi.apart ops ok = true := fun k ok hk hki hun hno => by
        refine hfree k ok hk hki ?_ hno
        by_cases hjk : j = k
        · subst hjk; exact hjun
        · rw [getD_set_ne true hjk] at hun; exact hun
      refine mStep_mono (fun a' C' hne' h3 => ih (listed.setIfInBounds j true) a' C' h3.2.2.1 (inv.set hj) hfree' (ready_mono hr (Ne.symm hji)) h3.1 ?_) hne h2
      rw [Array.setIfInBounds_comm _ _ hji]
      exact h3.2.2.2
structure NormQ (Q : Exit → Act → World → Prop) (e : Exit) (a : Act) (w : World) : Prop where
  is : e = .normal
  q : Q .normal a w
theorem not_letsOut {Q : Exit → Act → World → Prop} (h : LetsOut (NormQ Q)) : False := by
  obtain ⟨a, w, h⟩ := h
  cases h.is
theorem effUp_of_wp {o : Oper} {a : Act} {w : World} {K : Act → World → Prop} {Q : Exit → Act → World → Prop} (h : o.wp P a w K (NormQ Q)) : effUp P (fun d v w' => K ((addD d a).put o.dst v) w') ((execOp a.eval o).run P w) := by
  unfold Oper.wp at h
  generalize (execOp a.eval o).run P w = r at *
  cases r with
  | ok x w' =>
    cases x <;> simp only [Oper.upon] at h <;> simp only [effUp]
    case value u => exact h
    case skip => exact h
    case defer d => exact h
    case enter f args =>
      refine h.mono fun e w'' he => ?_
      cases e with
      | returned v => exact ⟨v, rfl, he⟩
      | panicked c => cases he.is
      | outgrown => exact (not_letsOut he).elim
    case row r args => exact h
  | halt x w' => cases x <;> simp only [Oper.upon] at h <;> simp only [effUp]; cases h.is
def tailB (md : Region.Mode) (ops : Array Oper) : Nat → Nat → Array Bool → Bool
  | 0, _, listed => (Region.ready md ops listed).isEmpty
  | g + 1, k, listed => (if (ops[k]?).any floatB = true then (Region.ready md ops listed).contains k && Region.free md ops listed k else decide (Region.ready md ops listed = [k])) && tailB md ops g (k + 1) (listed.setIfInBounds k true)
theorem wpAnyM_seq {n : Nat} {Q : Exit → Act → World → Prop} (hsel : Region.noSelect ops = true) (hc : chain2 md ops n = true) : ∀ (l : List Oper) (k : Nat) (listed : Array Bool) (a : Act) (C : World → Prop), (∃ w, C w) → Closed md ops listed → n ≤ k → (∀ j, l[j]? = ops[k + j]?) →
    tailB md ops l.length k listed = true → (∀ w, C w → wpList P ops (NormQ Q) l a w) → wpAnyM P md ops n (Q .normal) l.length listed a C
  | [], _, _, _, _, _, _, _, _, hB, h => ⟨by simpa [tailB] using hB, fun w hw => (h w hw).q⟩
  | o :: l, k, listed, a, C, hne, inv, hk, hl, hB, h => by
    have h0 : ops[k]? = some o := by simpa using (hl 0).symm
    simp only [List.length_cons, tailB, Bool.and_eq_true] at hB
    obtain ⟨hB1, hB2⟩ := hB
    rw [h0] at hB1
    simp only [Option.any_some] at hB1
    by_cases hfl : floatB o = true
    · rw [if_pos hfl] at hB1
      simp only [Bool.and_eq_true] at hB1
      have hr' : k ∈ Region.ready md ops listed := by simpa using hB1.1
      have ih := fun a' => wpAnyM_seq (n := n) (Q := Q) hsel hc l (k + 1) (listed.setIfInBounds k true) a' C hne (inv.set hr') (by omega) (fun j => by have := hl (j + 1); simpa [Nat.add_assoc, Nat.add_comm 1 j] using this) hB2
      by_cases hw : Region.wanted o (yielded ops a.tmps) = true
      · obtain ⟨w0, hw0⟩ := hne
        have e0 : ∃ v, ∀ w, (execOp a.eval o).run P w = .ok (.value v) w := by
          rcases float_run (P := P) hfl a with hu | hu
          · exact hu
          · obtain ⟨x, w', e⟩ := hu w0
            have h1 := h w0 hw0
            unfold wpList at h1
            simp only [hw, if_true] at h1
            rcases h1 with h1 | h1
            · have h2 := effUp_of_wp h1
              rw [e] at h2
              simp only [effUp] at h2
            · exact (not_letsOut h1.2).elim
        obtain ⟨v, hv⟩ := e0
        refine wpAnyM_first (v := v) h0 (by simp [hfl]) (Region.noSelect_spec hsel) hc (.inl hfl) l.length listed a C ⟨w0, hw0⟩ inv (Region.free_spec h0 hB1.2) hr' (.inl ⟨hw, fun w hw' => ?_⟩) (ih _ (fun w hw' => ?_))
        · unfold Oper.quietAt
          rw [hv]
          exact ⟨rfl, rfl⟩
        · have h1 := h w hw'
          unfold wpList at h1
          simp only [hw, if_true] at h1
          rcases h1 with h1 | h1
          · have h2 := effUp_of_wp h1
            rw [hv] at h2
            simpa only [effUp, addD] using h2
          · exact (not_letsOut h1.2).elim
      · refine wpAnyM_first (v := undef) h0 (by simp [hfl]) (Region.noSelect_spec hsel) hc (.inl hfl) l.length listed a C hne inv (Region.free_spec h0 hB1.2) hr' (.inr ⟨by simpa using hw, rfl⟩) (ih _ (fun w hw' => ?_))
        have h1 := h w hw'
        unfold wpList at h1
        simpa [hw] using h1
    · rw [if_neg hfl] at hB1
      simp only [decide_eq_true_eq] at hB1
      have hr' : k ∈ Region.ready md ops listed := by rw [hB1]; simp
      refine ⟨fun h1 => (by rw [hB1] at h1; cases h1), fun i hi => ?_⟩
      rw [hB1] at hi
      have hik : i = k := by simpa using hi
      subst hik
      have ih := fun a' C' hne' => wpAnyM_seq (n := n) (Q := Q) hsel hc l (i + 1) (listed.setIfInBounds i true) a' C' hne' (inv.set hr') (by omega) (fun j => by have := hl (j + 1); simpa [Nat.add_assoc, Nat.add_comm 1 j] using this) hB2
      unfold mStep
      simp only [h0]
      split
      · rename_i hw
        have hni : ¬ (decide (i < n) || floatB o) = true := by simp [hfl]; omega
        rw [if_neg hni]
        intro w hw'
        have h1 := h w hw'
        unfold wpList at h1
        simp only [hw, if_true] at h1
        rcases h1 with h1 | h1
        · exact effUp_mono (fun d v w' hn => ih _ (fun x => x = w') ⟨w', rfl⟩ (fun x hx => by subst hx; exact hn)) (effUp_of_wp h1)
        · exact (not_letsOut h1.2).elim
      · rename_i hw
        refine ih _ _ hne (fun w hw' => ?_)
        have h1 := h w hw'
        unfold wpList at h1
        simpa [hw] using h1
def mixHead (md : Region.Mode) (ops : Array Oper) (n g : Nat) : Nat → Nat → Array Bool → Bool
  | 0, k, listed => tailB md ops g k listed
  | f + 1, k, listed => (Region.ready md ops listed).contains k && Region.free md ops listed k && ((ops[k]?).any floatB || (goods md ops n n).contains k) && mixHead md ops n g f (k + 1) (listed.setIfInBounds k true)
def mixB (md : Region.Mode) (ops : Array Oper) (n : Nat) : Bool :=
  Region.noSelect ops && decide (n < ops.size) && chain2 md ops n && mixHead md ops n (ops.size - n) n 0 (Array.replicate ops.size false)
theorem wpAnyM_lex {n : Nat} {Q : Exit → Act → World → Prop} {tail : List Oper} (hsel : Region.noSelect ops = true) (hc : chain2 md ops n = true) (htl : ∀ j, tail[j]? = ops[n + j]?) :
    ∀ (l : List Oper) (k : Nat) (listed : Array Bool) (a : Act) (C : World → Prop), (∃ w, C w) → (∀ j, j < l.length → l[j]? = ops[k + j]?) → k + l.length = n → Closed md ops listed →
    mixHead md ops n tail.length l.length k listed = true → wpQuiet P ops C (fun a' => ∀ w, C w → wpList P ops (NormQ Q) tail a' w) l a →
    wpAnyM P md ops n (Q .normal) (l.length + tail.length) listed a C
  | [], k, listed, a, C, hne, _, hk, inv, hB, h => by
    have : k = n := by simpa using hk
    subst this
    rw [List.length_nil, Nat.zero_add]
    exact wpAnyM_seq hsel hc tail k listed a C hne inv (Nat.le_refl _) htl (by simpa [mixHead] using hB) h
  | o :: l, k, listed, a, C, hne, hl, hk, inv, hB, h => by
    have h0 : ops[k]? = some o := by simpa using (hl 0 (by simp)).symm
    simp only [List.length_cons, mixHead, Bool.and_eq_true] at hB
    obtain ⟨⟨⟨hr, hf⟩, hkd⟩, hB'⟩ := hB
    have hkn : k < n := by simp only [List.length_cons] at hk; omega
    have hr' : k ∈ Region.ready md ops listed := by simpa using hr
    have hst : qOp P ops C k (wpQuiet P ops C (fun a' => ∀ w, C w → wpList P ops (NormQ Q) tail a' w) l) a := by unfold qOp; simp only [h0]; exact h
    obtain ⟨v, hy, hK⟩ := yieldsIn_of_qOp h0 hst
    have hkd' : floatB o = true ∨ k ∈ goods md ops n n := by simpa [h0] using hkd
    rw [show (o :: l).length + tail.length = (l.length + tail.length) + 1 by simp only [List.length_cons]; omega]
    exact wpAnyM_first h0 (by simp [hkn]) (Region.noSelect_spec hsel) hc hkd' (l.length + tail.length) listed a C hne inv (Region.free_spec h0 hf) hr' hy
      (wpAnyM_lex hsel hc htl l (k + 1) _ _ C hne (fun j hj => by have := hl (j + 1) (by simp; omega); simpa [Nat.add_assoc, Nat.add_comm 1 j] using this) (by simp only [List.length_cons] at hk; omega) (inv.set hr') hB' hK)
theorem wp_region_mix {id : Nat} {Q : Exit → Act → World → Prop} {a : Act} {w : World} {l : List Oper} (C : World → Prop) (n : Nat) (hm : P.follows .mixedOrders = true) (hB : mixB .any l.toArray n = true) (hC : C w.drew)
    (h : wpQuiet P l.toArray C (fun a' => ∀ w', C w' → wpList P l.toArray (NormQ Q) (l.drop n) a' w') (l.take n) a) : (Code.region id l.toArray true).wp P Q a w := by
  simp only [mixB, Bool.and_eq_true, decide_eq_true_eq] at hB
  obtain ⟨⟨⟨hsel, hn⟩, hc⟩, hB'⟩ := hB
  have hn' : n < l.length := by simpa using hn
  have htl : (l.take n).length = n := by simp; omega
  have hdl : (l.drop n).length = l.toArray.size - n := by simp
  refine wp_region_any hm (wpAny_of_M (n := n) (Q := Q .normal) (fun _ _ h => h) _ _ _ C _ hC ?_)
  have := wpAnyM_lex (P := P) (md := .any) (ops := l.toArray) (Q := Q) (tail := l.drop n) hsel hc (fun j => by simp) (l.take n) 0 (Array.replicate l.toArray.size false) a C ⟨_, hC⟩
    (fun j hj => by rw [htl] at hj; simp [List.getElem?_take, hj]) (by rw [htl]; omega) ⟨by simp, fun j oj _ hl => by rw [getD_replicate_false] at hl; cases hl⟩ (by rw [htl, hdl]; exact hB') h
  rw [htl, hdl] at this
  rw [show n + (l.toArray.size - n) = l.toArray.size by simp; omega] at this
  exact this
theorem wp_region_mix1 {id : Nat} {Q : Exit → Act → World → Prop} {a : Act} {w : World} {l : List Oper} (n : Nat) (hm : P.follows .mixedOrders = true) (hB : mixB .any l.toArray n = true)
    (h : wpQuiet P l.toArray (fun w' => ∃ m, w' = w.drewN m) (fun a' => ∀ w', (∃ m, w' = w.drewN m) → wpList P l.toArray (NormQ Q) (l.drop n) a' w') (l.take n) a) : (Code.region id l.toArray true).wp P Q a w :=
  wp_region_mix _ n hm hB ⟨1, rfl⟩ h
end
end Go.Proofs.YtblhfbcodbjgcaaGreat

namespace Go.Proofs.YtblhfbcodbjgcaaGreat
set_option linter.unusedVariables false
set_option linter.unusedSimpArgs false
open Go.RowKit Go.Shelf
attribute [local go_sem] Oper.semAt_some
structure Cfg where
  sh : Int
  cap : Int
  ring : Int
  room : Int
  wk : Int
  cli : Int
def Cfg.cells (c : Cfg) : Array Value := #[.int .i64 c.sh, .int .i64 c.cap, .int .i64 c.ring, .int .i64 c.room, .int .i64 c.wk, .int .i64 c.cli]
def Cfg.pair (c : Cfg) : Nat → Int × Int
  | 0 => (c.sh, 4) | 1 => (c.cap, 64) | 2 => (c.ring, 64) | 3 => (c.room, 16) | 4 => (c.wk, 4) | _ => (c.cli, 8)
def Cfg.fine (c : Cfg) (k : Nat) : Bool := decide (1 ≤ (c.pair k).1) && decide ((c.pair k).1 ≤ (c.pair k).2)
def Cfg.ok (c : Cfg) : Bool := c.fine 0 && c.fine 1 && c.fine 2 && c.fine 3 && c.fine 4 && c.fine 5
set_option maxRecDepth 100000 in
set_option maxHeartbeats 4000000 in
theorem bounds_iter (i cb : Nat) (c : Cfg) : IterG Tryz.prog 160 #[.pointer (some ⟨cb, 0, none⟩)] 0 6 (fun k => #[.int .i64 (c.pair k).1, .int .i64 (c.pair k).2])
    (fun _ H => (H.getD i [])[0]? = some (cl cb 30 c.cells)) := by
  intro W l J Jx hJ hJx hT hY h0
  have hC : ∀ k W', k ≤ 6 → J k W' → ∀ o, W'.cell? ⟨cb, o, none⟩ = c.cells[o]? := fun k W' hk hj o => by
    obtain ⟨H, ht, hh⟩ := hT k W' hk hj
    exact blk_cell (hh.obj i 0 ht) o
  simp only [Cfg.cells] at hC
  have HC := Lib.hid hC
  clear hC hT hJ hJx
  refine (callsIn_wide (n := 9)).1 (callsIn_of_wp Tryz.func160 rfl trivial ?_ rfl)
  simp only [Tryz.ntmps160, List.size_toArray, List.length_cons, List.length_nil, Nat.reduceAdd, Nat.reduceSub, Array.replicate_succ, Array.replicate_zero, List.push_toArray, List.append_toArray, List.nil_append, List.cons_append]
  have c0 := HC.out 0 W (by decide) h0
  obtain ⟨fn0, tmps0, as0, bd0, hy0, hR0⟩ := yield_any (n := 8) (hY 0 (by decide) W h0 (Nat.le_refl _))
  simp only [Cfg.pair] at hy0
  have HR0 := Lib.hid hR0
  clear hR0
  gi_wp2
  refine HR0.out.mono ?_
  clear hy0 c0
  rintro e V0 ⟨hkw0, ⟨rfl, hj0⟩ | ⟨rfl, hj0⟩⟩
  · have hz0 : W.heap.size ≤ V0.heap.size := by have := hkw0.size; omega
    have c1 := HC.out 1 V0 (by decide) hj0
    obtain ⟨fn1, tmps1, as1, bd1, hy1, hR1⟩ := yield_any (n := 8) (hY 1 (by decide) V0 hj0 (by have hs := hz0; have := hkw0.size; omega))
    simp only [Cfg.pair] at hy1
    have HR1 := Lib.hid hR1
    clear hR1
    gi_wp2
    refine HR1.out.mono ?_
    clear hy1 c1
    rintro e V1 ⟨hkw1, ⟨rfl, hj1⟩ | ⟨rfl, hj1⟩⟩
    · have hz1 : W.heap.size ≤ V1.heap.size := by have := hkw1.size; omega
      have c2 := HC.out 2 V1 (by decide) hj1
      obtain ⟨fn2, tmps2, as2, bd2, hy2, hR2⟩ := yield_any (n := 8) (hY 2 (by decide) V1 hj1 (by have hs := hz1; have := hkw1.size; omega))
      simp only [Cfg.pair] at hy2
      have HR2 := Lib.hid hR2
      clear hR2
      gi_wp2
      refine HR2.out.mono ?_
      clear hy2 c2
      rintro e V2 ⟨hkw2, ⟨rfl, hj2⟩ | ⟨rfl, hj2⟩⟩
      · have hz2 : W.heap.size ≤ V2.heap.size := by have := hkw2.size; omega
        have c3 := HC.out 3 V2 (by decide) hj2
        obtain ⟨fn3, tmps3, as3, bd3, hy3, hR3⟩ := yield_any (n := 8) (hY 3 (by decide) V2 hj2 (by have hs := hz2; have := hkw2.size; omega))
        simp only [Cfg.pair] at hy3
        have HR3 := Lib.hid hR3
        clear hR3
        gi_wp2
        refine HR3.out.mono ?_
        clear hy3 c3
        rintro e V3 ⟨hkw3, ⟨rfl, hj3⟩ | ⟨rfl, hj3⟩⟩
        · have hz3 : W.heap.size ≤ V3.heap.size := by have := hkw3.size; omega
          have c4 := HC.out 4 V3 (by decide) hj3
          obtain ⟨fn4, tmps4, as4, bd4, hy4, hR4⟩ := yield_any (n := 8) (hY 4 (by decide) V3 hj3 (by have hs := hz3; have := hkw3.size; omega))
          simp only [Cfg.pair] at hy4
          have HR4 := Lib.hid hR4
          clear hR4
          gi_wp2
          refine HR4.out.mono ?_
          clear hy4 c4
          rintro e V4 ⟨hkw4, ⟨rfl, hj4⟩ | ⟨rfl, hj4⟩⟩
          · have hz4 : W.heap.size ≤ V4.heap.size := by have := hkw4.size; omega
            have c5 := HC.out 5 V4 (by decide) hj4
            obtain ⟨fn5, tmps5, as5, bd5, hy5, hR5⟩ := yield_any (n := 8) (hY 5 (by decide) V4 hj4 (by have hs := hz4; have := hkw4.size; omega))
            simp only [Cfg.pair] at hy5
            have HR5 := Lib.hid hR5
            clear hR5
            gi_wp2
            refine HR5.out.mono ?_
            clear hy5 c5
            rintro e V5 ⟨hkw5, ⟨rfl, hj5⟩ | ⟨rfl, hj5⟩⟩
            · have hz5 : W.heap.size ≤ V5.heap.size := by have := hkw5.size; omega
              gi_wp2
              refine bodyPost_end (results_none rfl _ _ _) rfl ?_
              exact ⟨⟨_, rfl⟩, .inl hj5⟩
            · gi_wp2
              repeat (refine ⟨(fun f hf => by cases hf), ?_⟩; (with_reducible apply_assumption); gi_wp2)
              refine bodyPost_end (results_none rfl _ _ _) rfl ?_
              exact ⟨⟨_, rfl⟩, .inr ⟨5, by decide, hj5⟩⟩
          · gi_wp2
            repeat (refine ⟨(fun f hf => by cases hf), ?_⟩; (with_reducible apply_assumption); gi_wp2)
            refine bodyPost_end (results_none rfl _ _ _) rfl ?_
            exact ⟨⟨_, rfl⟩, .inr ⟨4, by decide, hj4⟩⟩
        · gi_wp2
          repeat (refine ⟨(fun f hf => by cases hf), ?_⟩; (with_reducible apply_assumption); gi_wp2)
          refine bodyPost_end (results_none rfl _ _ _) rfl ?_
          exact ⟨⟨_, rfl⟩, .inr ⟨3, by decide, hj3⟩⟩
      · gi_wp2
        repeat (refine ⟨(fun f hf => by cases hf), ?_⟩; (with_reducible apply_assumption); gi_wp2)
        refine bodyPost_end (results_none rfl _ _ _) rfl ?_
        exact ⟨⟨_, rfl⟩, .inr ⟨2, by decide, hj2⟩⟩
    · gi_wp2
      repeat (refine ⟨(fun f hf => by cases hf), ?_⟩; (with_reducible apply_assumption); gi_wp2)
      refine bodyPost_end (results_none rfl _ _ _) rfl ?_
      exact ⟨⟨_, rfl⟩, .inr ⟨1, by decide, hj1⟩⟩
  · gi_wp2
    repeat (refine ⟨(fun f hf => by cases hf), ?_⟩; (with_reducible apply_assumption); gi_wp2)
    refine bodyPost_end (results_none rfl _ _ _) rfl ?_
    exact ⟨⟨_, rfl⟩, .inr ⟨0, by decide, hj0⟩⟩
theorem bounds_g (c : Cfg) : DoesG Tryz.prog 127 #[.agg c.cells] [] fun e gs => ∃ cb, e = .returned (.func (.func 160) #[] #[.pointer (some ⟨cb, 0, none⟩)]) ∧ gs = [[cl cb 30 c.cells]] := by
  intro w hw
  have T0 := TG.refl hw
  have HT := Lib.hid T0
  clear hw T0
  simp only [Cfg.cells]
  go_enter Tryz.func127, Tryz.ntmps127
  go_wp2
  go_ret
  exact ⟨_, ⟨_, rfl, rfl⟩, HT.out.alloc rfl _ _⟩
def Cfg.upto (c : Cfg) (k : Nat) : Prop := ∀ i, i < k → c.fine i = true
theorem Cfg.ok_of {c : Cfg} (h : c.upto 6) : c.ok = true := by
  unfold Cfg.ok; rw [h 0 (by decide), h 1 (by decide), h 2 (by decide), h 3 (by decide), h 4 (by decide), h 5 (by decide)]; rfl
theorem Cfg.not_ok {c : Cfg} {k : Nat} (hk : k < 6) (h : c.fine k = false) : c.ok = false := by
  have : k = 0 ∨ k = 1 ∨ k = 2 ∨ k = 3 ∨ k = 4 ∨ k = 5 := by omega
  unfold Cfg.ok
  rcases this with rfl | rfl | rfl | rfl | rfl | rfl <;> simp [h]
def chkJ (b1 b2 cb : Nat) (c : Cfg) (k : Nat) (H : GH) : Prop := H = [[cl b1 30 c.cells], [cl b2 26 #[.int .i64 0]], [cl cb 30 c.cells]] ∧ c.upto k
def chkX (b1 b2 cb : Nat) (c : Cfg) (k : Nat) (cd : Code) (H : GH) : Prop := cd = .ret ∧ H = [[cl b1 30 c.cells], [cl b2 26 #[.int .i64 8]], [cl cb 30 c.cells]] ∧ c.ok = false
end Go.Proofs.YtblhfbcodbjgcaaGreat
