import Derived.Test.YtnemggminanbbaaHeap
namespace Go.Proofs.Ytnemggminanbbaa
set_option linter.unusedVariables false
set_option linter.unusedSimpArgs false
open Go.RowKit Go.Shelf

/-! ## A slice of one's own as a group: n elements of so many cells each, the cells are xs -/
def rowG (e : TypeId) (size : Nat) (v : Value) (n : Nat) (xs : List Value) (g : List Blk) : Prop :=
  xs.length = n * size ∧ ((v = .slice none 0 0 ∧ n = 0 ∧ g = []) ∨
    ∃ b cap cur, v = .slice (some ⟨b, 0, none⟩) n cap ∧ g = [cl b e cur] ∧ n ≤ cap ∧ cap ≤ maxLen ∧ cur.size = cap * size ∧ cur.toList.take (n * size) = xs)

section
variable {e : TypeId} {size : Nat} {v : Value} {n : Nat} {xs : List Value} {g : List Blk} {h H : GH} {w w' : World}
theorem rowG_nil (e : TypeId) (size : Nat) : rowG e size (.slice none 0 0) 0 [] [] := ⟨by simp, .inl ⟨rfl, rfl, rfl⟩⟩
theorem rowG_lit (e : TypeId) (size b n cap : Nat) (cur : Array Value) (h1 : n ≤ cap) (h2 : cap ≤ maxLen) (h3 : cur.size = cap * size) : rowG e size (.slice (some ⟨b, 0, none⟩) n cap) n (cur.toList.take (n * size)) [cl b e cur] :=
  ⟨by rw [List.length_take, Array.length_toList, h3]; exact Nat.min_eq_left (Nat.mul_le_mul_right _ h1), .inr ⟨b, cap, cur, rfl, rfl, h1, h2, h3, rfl⟩⟩
/-- what is in it, where there is something -/
theorem rowG.open (r : rowG e size v n xs g) (hn : 0 < n) : ∃ b cap cur, v = .slice (some ⟨b, 0, none⟩) n cap ∧ g = [cl b e cur] ∧ n ≤ cap ∧ cap ≤ maxLen ∧ cur.size = cap * size ∧ ∀ j, j < n * size → cur[j]? = xs[j]? := by
  rcases r.2 with ⟨_, h0, _⟩ | ⟨b, cap, cur, h1, h2, h3, h4, h5, h6⟩
  · omega
  · refine ⟨b, cap, cur, h1, h2, h3, h4, h5, fun j hj => ?_⟩
    rw [← h6, List.getElem?_take, if_pos hj, Array.getElem?_toList]
/-- its value -/
theorem rowG.val (r : rowG e size v n xs g) : ∃ a cap, v = .slice a n cap := by
  rcases r.2 with ⟨h1, h2, _⟩ | ⟨b, cap, cur, h1, _⟩
  · subst h2; exact ⟨_, _, h1⟩
  · exact ⟨_, _, h1⟩
theorem rowG.isNil (r : rowG e size v n xs g) (hn : n = 0) : xs = [] := by
  subst hn; exact List.eq_nil_of_length_eq_zero (by simpa using r.1)
/-- one of its cells is turned -/
theorem rowG.set (r : rowG e size v n xs g) {b : Nat} {cur : Array Value} (hg : g = [cl b e cur]) (j : Nat) (x : Value) : rowG e size v n (xs.set j x) [cl b e (cur.setIfInBounds j x)] := by
  subst hg
  refine ⟨by rw [List.length_set]; exact r.1, ?_⟩
  rcases r.2 with ⟨_, _, h3⟩ | ⟨b', cap, cur', h1, h2, h3, h4, h5, h6⟩
  · cases h3
  · cases h2
    refine .inr ⟨b, cap, _, h1, rfl, h3, h4, by simpa using h5, ?_⟩
    rw [← h6, Array.toList_setIfInBounds, List.take_set]

theorem TG.owns (T : TG h w H w') (i : Nat) (hi : H.getD i [] = g) (r : rowG e size v n xs g) : w'.ownsRow 0 e size v n xs := by
  refine ⟨r.1, ?_⟩
  rcases r.2 with ⟨h1, h2, _⟩ | ⟨b, cap, cur, h1, h2, h3, h4, h5, h6⟩
  · exact .inl ⟨h1, h2⟩
  · exact .inr ⟨b, cap, cur, h1, Nat.zero_le _, T.obj (p := (b, .cells cur e (0, 0))) i 0 (by rw [hi, h2]; rfl), h3, h4, h5, h6⟩
/-- a group is let go -/
theorem TG.letGo (T : TG h w H w') (i : Nat) (hi : i < H.length) : TG h w (H.set i []) w' := by
  have T' : Turned _ _ _ _ := Turned.perm T (ex_perm (perm_at hi))
  rw [ex_append] at T'
  exact T'.drop
/-- a new block in a group's place -/
theorem TG.putAt (T : TG h w H w') (i : Nat) (hi : i < H.length) {k : Nat} (hk : k = w'.heap.size) (o : Obj) : TG h w (H.set i [(k, o)]) (w'.alloc o) := by
  refine ((T.letGo i hi).put hk o).re ?_
  rw [List.flatten_append]
  refine List.perm_append_comm.trans ?_
  have : ([[(k, o)]] : GH).flatten = [(k, o)] := by simp
  rw [this]
  exact (perm_set _ hi).symm

/-- **append of what lies elsewhere, onto a slice of one's own** -/
theorem run_append_row {P : Program} (t ty e : TypeId) (i : TypeInfo) (z : Value) (size bytes : Nat) (ht : P.underlying t = some (.slice e)) (hi : P.info? e = some i) (hz : i.zero = some z)
    (hsize : i.size = size) (hby : i.bytes = bytes) (hzs : z.cells.size = size) (hsz : 0 < size)
    (T : TG h w H w') (k : Nat) (hk : k < H.length) (hg : H.getD k [] = g) (r : rowG e size v n xs g)
    (a : Addr) (m c : Nat) (news : List Value) (hl : news.length = m * size) (hnews : ∀ j u, news[j]? = some u → w'.cell? (a.add j) = some u) (h1 : ∀ u ∈ news, u.oneCell' = true)
    (h63 : n + m ≤ maxLen) (hbytes : (n + m) * bytes ≤ 140737488355328) :
    ∃ v' w'' g', (Builtin.append_ #[t, t] ty #[v, .slice (some a) m c]).run P w' = .ok v' w'' ∧ rowG e size v' (n + m) (xs ++ news) g' ∧ TG h w (H.set k g') w'' := by
  subst hsize
  subst hby
  have hsmall : n + m ≤ 9223372036854775807 := by simp only [maxLen] at h63; omega
  have hlen : (xs ++ news).length = (n + m) * i.size := by rw [List.length_append, r.1, hl, Nat.add_mul]
  have grown : ∀ (old : Nat), old < n + m →
      rowG e i.size (.slice (some ⟨w'.heap.size, 0, none⟩) (n + m) (grownCap w' (n + m) old e)) (n + m) (xs ++ news) [cl w'.heap.size e (xs.toArray ++ news.toArray ++ Builtin.zeroCells z.cells (grownCap w' (n + m) old e - (n + m)))] := by
    intro old ho
    have hge := grownCap_ge w' (n + m) old e
    have hcm : grownCap w' (n + m) old e ≤ maxLen := grownCap_le_maxLen w' (n + m) old e h63
    refine ⟨hlen, .inr ⟨w'.heap.size, _, _, rfl, rfl, hge, hcm, ?_, ?_⟩⟩
    · simp only [Array.size_append, List.size_toArray, size_zeroCells, hzs, r.1, hl, ← Nat.add_mul]
      congr 1
      omega
    · simp only [Array.toList_append, List.append_assoc]
      rw [← List.append_assoc, ← hlen]
      exact List.take_left
  rcases r.2 with ⟨rfl, rfl, rfl⟩ | ⟨b, cap, cur, rfl, rfl, hnc, hcm, hcs, htake⟩
  · have hx : xs = [] := List.eq_nil_of_length_eq_zero (by simpa using r.1)
    subst hx
    by_cases hm : m = 0
    · subst hm
      have hn : news = [] := List.eq_nil_of_length_eq_zero (by simpa using hl)
      subst hn
      refine ⟨.slice none 0 0, w', [], ?_, rowG_nil e i.size, T.letGo k hk⟩
      simp [Builtin.append_, run_underlying ht, sizeOf, typeInfo, hi, Builtin.lenOf, Builtin.firstCells, loadCells, loadCellsFrom]
    · have hr := run_append_nil (P := P) w' t ty e i z ht hi hz a m c news hl hnews (by omega) (by omega) (by have hb := hbytes; simp only [Nat.zero_add] at hb; omega)
      have hgr := grown 0 (by omega)
      simp only [Nat.zero_add, List.nil_append, Array.empty_append] at hgr ⊢
      exact ⟨_, _, _, hr, hgr, T.drew.putAt k hk rfl _⟩
  · have hgb : w'.heap[b]? = some (.cells cur e (0, 0)) := T.obj (p := (b, .cells cur e (0, 0))) k 0 (by rw [hg]; rfl)
    by_cases hroom : n + m ≤ cap
    · have hfit : n * i.size + news.length ≤ cur.size := by rw [hl, hcs, ← Nat.add_mul]; exact Nat.mul_le_mul_right _ hroom
      have hr := run_append_room (P := P) w' t ty e i ht hi b n cap cur hgb a m c news hl hnews h1 hroom hfit
      refine ⟨_, _, [cl b e (cur.toList.take (n * i.size) ++ news ++ cur.toList.drop (n * i.size + news.length)).toArray], hr, ⟨hlen, .inr ⟨b, cap, _, rfl, rfl, hroom, hcm, ?_, ?_⟩⟩,
        T.turn (pre := []) (post := []) k (o' := .cells _ e (0, 0)) hk hg (setRow_heap w' b cur _ e _ hgb) (fun j hj => setRow_other w' b j _ hj) (by simp) rfl rfl rfl⟩
      · simp only [List.size_toArray, List.length_append, List.length_take, List.length_drop, Array.length_toList]
        omega
      · rw [htake, ← hlen]
        exact List.take_left
    · have hown : w'.ownsRow 0 e i.size (.slice (some ⟨b, 0, none⟩) n cap) n xs := T.owns k hg r
      have holds : ∀ j u, xs[j]? = some u → w'.cell? ((⟨b, 0, none⟩ : Addr).add j) = some u := hown.cells (g := b) rfl
      have hr := run_append_grow (P := P) w' t ty e i z ht hi hz ⟨b, 0, none⟩ n cap xs r.1 holds a m c news hl hnews (by omega) (by omega) (growslice_fits (by omega) hbytes)
      exact ⟨_, _, _, hr, grown cap (by omega), T.drew.putAt k hk rfl _⟩

/-- as a law for a walk: the source is a row of cells that lies in a block -/
theorem wpList_append_G {P : Program} {ops : Array Oper} {rest : List Oper} {o : Oper} {a : Act} {Q : Exit → Act → World → Prop} (hgd : o.guard = none) (s x : Operand) (t : TypeId)
    (ho : o.op = .call { callee := .builtin .append, args := #[s, x], argTypes := #[t, t] })
    (e : TypeId) (size bytes : Nat) (z : Value) (ht : P.underlying t = some (.slice e)) (hinfo : (P.info? e).map (fun i => (i.zero, i.size, i.bytes)) = some (some z, size, bytes)) (hzs : z.cells.size = size) (hsz : 0 < size)
    (T : TG h w H w') (k : Nat) (hk : decide (k < H.length) = true) (hg : H.getD k [] = g) (r : rowG e size v n xs g) (hs : a.eval s = v)
    (ad : Addr) (m c : Nat) (news : List Value) (hx : a.eval x = .slice (some ad) m c) (hl : news.length = m * size) (hnews : ∀ j u, news[j]? = some u → w'.cell? (ad.add j) = some u) (h1 : ∀ u ∈ news, u.oneCell' = true)
    (h63 : n + m ≤ maxLen) (hbytes : (n + m) * bytes ≤ 140737488355328)
    (hK : ∀ v' w'' g', rowG e size v' (n + m) (xs ++ news) g' → TG h w (H.set k g') w'' → wpList P ops Q rest (a.put o.dst v') w'') : wpList P ops Q (o :: rest) a w' := by
  obtain ⟨i, hi, hz, hsize, hby⟩ := info_parts hinfo
  refine wpList_plain hgd fun K hK' => ?_
  obtain ⟨v', w'', g', hr, h2, h3⟩ := run_append_row (P := P) t o.type e i z size bytes ht hi hz hsize hby hzs hsz T k (of_decide_eq_true hk) hg r ad m c news hl hnews h1 h63 hbytes
  unfold Oper.wp execOp
  simp only [ho, resolve, invoke, builtin, Sem.run_bind, Sem.run_pure, Result.andThen_ok, List.map_toArray, List.map_cons, List.map_nil, hs, hx, hr]
  exact hK' _ _ (hK v' w'' g' h2 h3)
end
/-- the cells of a block that has just been laid -/
theorem news_alloc (w : World) (T : TypeId) (l : List Value) : ∀ j u, l[j]? = some u → (w.alloc (.cells l.toArray T)).cell? ((⟨w.heap.size, 0, none⟩ : Addr).add j) = some u := by
  intro j u hu
  have e : ((⟨w.heap.size, 0, none⟩ : Addr).add j) = ⟨w.heap.size, j, none⟩ := by unfold Addr.add; split <;> simp_all
  rw [e, blk_cell (alloc_new _ rfl)]
  simpa using hu
end Go.Proofs.Ytnemggminanbbaa
