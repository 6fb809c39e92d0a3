import Derived.Test.YtblhfbcodbjgcaaGreatTU15
import Derived.Test.YtblhfbcodbjgcaaGreatTU5
import Derived.Test.YtblhfbcodbjgcaaGreatTU18
import Derived.Test.YtblhfbcodbjgcaaGreatTU14
import Derived.Test.YtblhfbcodbjgcaaGreatTU2
import Derived.Conc.LoneSelect
import Derived.Test.YtblhfbcodbjgcaaGreatTU13
namespace Go.Proofs.YtblhfbcodbjgcaaGreat
set_option linter.unusedVariables false
set_option linter.unusedSimpArgs false
open Go.RowKit Go.Shelf
attribute [local go_sem] Oper.semAt_some
section
variable {h H : GH} {w w' : World} {e : TypeId} {size n : Nat} {v : Value} {xs : List Value} {g : List Blk}
theorem wpListIn_append_G {F : Fence} {nn : Nat} {P : Program} {ops : Array Oper} {rest : List Oper} {o : Oper} {a : Act} {Q : Exit → Act → World → Prop} (hgd : o.guard = none) (s x : Operand) (t : TypeId)
    (ho : o.op = .call { callee := .builtin .append, args := #[s, x], argTypes := #[t, t] })
    (e : TypeId) (size bytes : Nat) (z : Value) (ht : P.underlying t = some (.slice e)) (hinfo : (P.info? e).map (fun i => (i.zero, i.size, i.bytes)) = some (some z, size, bytes)) (hzs : z.cells.size = size) (hsz : 0 < size)
    (T : TG h w H w') (k : Nat) (hk : decide (k < H.length) = true) (hg : H.getD k [] = g) (r : rowG e size v n xs g) (hs : a.eval s = v)
    (ad : Addr) (m c : Nat) (news : List Value) (hx : a.eval x = .slice (some ad) m c) (hl : news.length = m * size) (hnews : ∀ j u, news[j]? = some u → w'.cell? (ad.add j) = some u) (h1 : ∀ u ∈ news, u.oneCell' = true)
    (h63 : n + m ≤ maxLen) (hbytes : (n + m) * bytes ≤ 140737488355328)
    (hK : ∀ v' w'' g', rowG e size v' (n + m) (xs ++ news) g' → TG h w (H.set k g') w'' → wpListIn F nn P ops Q rest (a.put o.dst v') w'') : wpListIn F nn P ops Q (o :: rest) a w' := by
  obtain ⟨i, hi, hz, hsize, hby⟩ := info_parts hinfo
  refine wpListIn_plain hgd fun K hK' => ?_
  obtain ⟨v', w'', g', hr, h2, h3⟩ := run_append_row (P := P) t o.type e i z size bytes ht hi hz hsize hby hzs hsz T k (of_decide_eq_true hk) hg r ad m c news hl hnews h1 h63 hbytes
  unfold Oper.wpIn
  refine ⟨?_, ?_⟩
  · simp [Oper.about, ho, resolve, Target.leads, Sem.run_pure]
  · rw [Oper.semAt_plain F _ _ (by rw [ho]; intro c hc'; cases hc')]
    simp [execOp, ho, resolve, invoke, builtin, hs, hx, hr, Result.andThen]
    exact hK' _ _ (hK v' w'' g' h2 h3)
end
def itList (xs : List (Array Value)) (O : GH) : ItS where
  σ := Nat
  O _ O' := O' = O
  T _ _ := True
  step k x G k' := (∃ c, xs[k]? = some c ∧ x = #[.agg c]) ∧ G = [] ∧ k' = k + 1
  fin k := k = xs.length
def flatV (xs : List (Array Value)) : List Value := xs.flatMap Array.toList
theorem flatV_snoc (xs : List (Array Value)) {k : Nat} {c : Array Value} (h : xs[k]? = some c) : flatV (xs.take (k + 1)) = flatV (xs.take k) ++ c.toList := by
  obtain ⟨h1, h2⟩ := List.getElem?_eq_some_iff.1 h
  unfold flatV
  rw [List.take_succ_eq_append_getElem h1, h2, List.flatMap_append]
  simp
theorem Tryz.infoTask : (Tryz.prog.info? 40).map (fun i => (i.zero, i.size, i.bytes)) = some (some (.agg #[.int .u64 0, .int .i64 0, .int .u64 0, .int .u64 0, .int .u64 0]), 5, 40) := by kernel_rfl
set_option maxRecDepth 100000 in
set_option maxHeartbeats 4000000 in
theorem appendSeqT_g {gf : Nat} {lb : Array Value} {xs : List (Array Value)} {O : GH} (eg : ∀ args w, (callFunc gf args).run Tryz.prog w = .ok (.enter gf args) w) (hit : IterY Tryz.prog gf lb (itList xs O) (0 : Nat)) (hx : ∀ c ∈ xs, ∃ z0 z1 z2 z3 z4, c = #[.int .u64 z0, .int .i64 z1, .int .u64 z2, .int .u64 z3, .int .u64 z4]) (hn : xs.length ≤ 1000000) :
    DoesG Tryz.prog 308 #[.slice none 0 0, .func (.func gf) #[] lb] O fun e gs => ∃ v g, e = .returned v ∧ rowG 40 5 v xs.length (flatV xs) g ∧ gs = O ++ [g] := by
  intro w hw
  have T0 := TG.refl hw
  have HT := Lib.hid T0
  clear hw T0
  have HI := Lib.hid hit
  have HXX := Lib.hid hx
  clear hit hx
  refine calls_of_marks Tryz.func308 rfl ?_
  simp only [Tryz.ntmps308, List.size_toArray, List.length_cons, List.length_nil, Nat.reduceAdd, Nat.reduceSub, Array.replicate_succ, Array.replicate_zero, List.push_toArray, List.append_toArray, List.nil_append, List.cons_append]
  go_wp2
  obtain ⟨sb, hsb⟩ : ∃ sb, w.heap.size = sb := ⟨_, rfl⟩
  have T0 : TG O w ([[cl sb 343 #[.slice none 0 0]], []] ++ O) (w.alloc (.cells #[.slice none 0 0] 343)) :=
    (HT.out.alloc (k := sb) hsb.symm 343 #[.slice none 0 0]).re (by simp)
  rw [hsb]
  clear hsb HT
  refine wp_rangeY (H0 := [[cl sb 343 #[.slice none 0 0]], []]) (O0 := O) rfl eg HI.out ?hps T0 ?hO (fun (k : Nat) H => ∃ v g, H = [[cl sb 343 #[v]], g] ∧ rowG 40 5 v k (flatV (xs.take k)) g) (fun _ _ _ => False) ?h0 ?hT ?hbody ?hdone ?hstop
  case hps => rintro s x G s' ⟨⟨c, _, rfl⟩, _⟩; rfl
  case hO => exact rfl
  case h0 => exact ⟨_, _, rfl, rowG_nil _ _⟩
  case hT => intro s H K _; trivial
  case hbody =>
    rintro (k : Nat) x G (k' : Nat) H W l ⟨v, g, rfl, hr⟩ ⟨⟨c, hc, rfl⟩, rfl, rfl⟩ hH
    obtain ⟨z0, z1, z2, z3, z4, rfl⟩ := HXX.out c (List.mem_of_getElem? hc)
    have hk := (List.getElem?_eq_some_iff.1 hc).1
    have HH := Lib.hid hH
    have HR := Lib.hid hr
    have HC := Lib.hid (flatV_snoc xs hc)
    obtain ⟨av, cap, hv⟩ := rowG.val hr
    subst hv
    clear hH hr hc
    refine wpIn_any (n := 9) ?_
    gi_wp2
    refine ⟨_, ((TG.refl HH.out).alloc (k := W.heap.size) rfl 40 #[.int .u64 z0, .int .i64 z1, .int .u64 z2, .int .u64 z3, .int .u64 z4]).eq (H' := [[cl sb 343 #[.slice av k cap]], g, [cl W.heap.size 40 #[.int .u64 z0, .int .i64 z1, .int .u64 z2, .int .u64 z3, .int .u64 z4]]]) (by simp), fun Wb hb => ?_⟩
    generalize W.heap.size = vb at hb ⊢
    have HT := Lib.hid (TG.refl hb)
    have c0 := HT.out.cell 0 0 rfl 0
    have f0 := HT.out.free 0 0 rfl 0
    have b0 := HT.out.cell 2 0 rfl 0
    have b1 := HT.out.cell 2 0 rfl 1
    have b2 := HT.out.cell 2 0 rfl 2
    have b3 := HT.out.cell 2 0 rfl 3
    have b4 := HT.out.cell 2 0 rfl 4
    simp only [List.getElem?_nil, List.getElem?_toArray, List.getElem?_cons_zero, List.getElem?_cons_succ] at b0 b1 b2 b3 b4
    simp only [List.getElem?_toArray, List.getElem?_cons_zero] at c0
    clear hb HH
    refine wpIn_any (n := 9) ?_
    gi_wp2_with (
      gi_at_builtin
      with_reducible refine wpListIn_append_G rfl (.tmp 8) (.tmp 10) 343 rfl 40 5 40 _ Tryz.underlying343 Tryz.infoTask rfl (by decide) (HT.out.alloc0 _) 1 rfl rfl HR.out rfl ⟨Wb.heap.size, 0, none⟩ 1 1 [.int .u64 z0, .int .i64 z1, .int .u64 z2, .int .u64 z3, .int .u64 z4] rfl rfl (news_alloc _ _ _) (by simp [Value.oneCell']) (by unfold maxLen; omega) (by omega) ?_
      intro v1 w2 g1 r1 T1
      simp only [List.set_cons_zero, List.set_cons_succ] at T1
      have c1 := T1.cell 0 0 rfl 0
      have f1 := T1.free 0 0 rfl 0
      obtain ⟨a1, cap1, hv1⟩ := rowG.val r1
      subst hv1
      have T1 := Lib.hid T1
      have r1 := Lib.hid r1
      simp only [List.getElem?_toArray, List.getElem?_cons_zero] at c1)
    exact ⟨[[cl sb 343 #[.slice a1 (k + 1) cap1]], g1], ⟨_, _, rfl, by rw [HC.out]; exact r1.out⟩, ((T1.out.set 0 0 rfl 0 (.slice a1 (k + 1) cap1)).pick [0, 1] rfl)⟩
  case hdone =>
    rintro (k : Nat) H O' W D hf ⟨v, g, rfl, hr⟩ hO hT
    have hf' : k = xs.length := hf
    subst hf'
    have hO' : O' = O := hO
    subst hO'
    rw [List.take_length] at hr
    have c0 := hT.cell 0 0 rfl 0
    simp only [List.getElem?_toArray, List.getElem?_cons_zero] at c0
    have HX := Lib.hid (And.intro hr hT)
    obtain ⟨av, cap, hv⟩ := rowG.val hr
    subst hv
    clear hf hO hr hT
    go_wp2
    obtain ⟨hr, hT⟩ := HX.out
    have T3 := hT.turnLast (.deferred none)
    have T4 : TG O' w (O' ++ [g] ++ [[cl sb 343 #[.slice av xs.length cap], (D, .deferred none)]]) (W.putObj D (.deferred none)) := T3.re (by
      classical
      simp only [List.flatten_append, List.flatten_cons, List.flatten_nil, List.append_nil, List.cons_append, List.nil_append]
      refine List.perm_iff_count.2 fun a => ?_
      simp only [List.count_append, List.count_cons, List.count_nil]
      omega)
    exact post_mark (v := .slice av xs.length cap) hT.has.last (by simp [results, Tryz.results308, go_sem]) ⟨_, ⟨_, g, rfl, hr, rfl⟩, T4.dropLast⟩
  case hstop => intro s cd H O W D h; exact h.elim
theorem collectT_g {gf : Nat} {lb : Array Value} {xs : List (Array Value)} {O : GH} (eg : ∀ args w, (callFunc gf args).run Tryz.prog w = .ok (.enter gf args) w) (hit : IterY Tryz.prog gf lb (itList xs O) (0 : Nat)) (hx : ∀ c ∈ xs, ∃ z0 z1 z2 z3 z4, c = #[.int .u64 z0, .int .i64 z1, .int .u64 z2, .int .u64 z3, .int .u64 z4]) (hn : xs.length ≤ 1000000) :
    DoesG Tryz.prog 285 #[.func (.func gf) #[] lb] O fun e gs => ∃ v g, e = .returned v ∧ rowG 40 5 v xs.length (flatV xs) g ∧ gs = O ++ [g] := by
  have ha := appendSeqT_g eg hit hx hn
  intro w hw
  have T0 := TG.refl hw
  have HT := Lib.hid T0
  clear hw T0
  have HA := Lib.hid ha
  clear ha hit hx hn
  go_enter Tryz.func285, Tryz.ntmps285
  go_wp2_with fail
  refine (HA.out _ HT.out.has).mono ?_
  rintro e w1 ⟨gs, ⟨v, g, rfl, hr, rfl⟩, Ta⟩
  have HR := Lib.hid hr
  have HTA := Lib.hid (HT.out.trans Ta)
  obtain ⟨av, cap, hv⟩ := rowG.val hr
  subst hv
  clear hr Ta
  go_wp2
  go_ret
  exact ⟨_, ⟨_, g, rfl, HR.out, rfl⟩, HTA.out⟩
end Go.Proofs.YtblhfbcodbjgcaaGreat

namespace Go.Proofs.YtblhfbcodbjgcaaGreat
set_option linter.unusedVariables false
set_option linter.unusedSimpArgs false
open Go.RowKit Go.Shelf
attribute [local go_sem] Oper.semAt_some
theorem HasG.right {H K : GH} {w : World} (h : HasG (H ++ K) w) : HasG K w := by
  have hh : Has (ex H.flatten ++ ex K.flatten) w := by
    have : Has (ex (H ++ K).flatten) w := h
    rwa [List.flatten_append, ex_append] at this
  exact hh.right
def taskV (a : EntA) : Array Value := a.e.v.cells
set_option maxRecDepth 100000 in
set_option maxHeartbeats 4000000 in
theorem tasks_iter (tb : Nat) (l : List EntA) (v home : Value) (gr ge : List Blk) (hr : rowG 271 1 v l.length (l.map fun a => ptr' a.eb) gr) (he : FamP (entP home) l ge) (hn : l.length ≤ 1000000) :
    IterY Tryz.prog 309 #[ptr' tb] (itList (l.map taskV) [[cl tb 351 #[v]], gr, ge]) (0 : Nat) := by
  intro ly J Jx hT hY H0 O0 W hJ0 hO hH
  have hO' : O0 = [[cl tb 351 #[v]], gr, ge] := hO
  subst hO'
  have T0 := TG.refl hH
  have c0 := (TG.refl hH.right).cell 0 0 rfl 0
  simp only [List.getElem?_toArray, List.getElem?_cons_zero] at c0
  obtain ⟨av, cap, hv⟩ := rowG.val hr
  subst hv
  have HR := Lib.hid hr
  have HE := Lib.hid he
  have HH := Lib.hid (And.intro hJ0 T0)
  have HY := Lib.hid hY
  clear hr he hO hH hY hT hJ0 T0
  refine (callsIn_wide (n := 9)).1 (callsIn_of_wp Tryz.func309 rfl trivial ?_ rfl)
  simp only [Tryz.ntmps309, List.size_toArray, List.length_cons, List.length_nil, Nat.reduceAdd, Nat.reduceSub, Array.replicate_succ, Array.replicate_zero, List.push_toArray, List.append_toArray, List.nil_append, List.cons_append]
  gi_wp2
  gi_loopw [4, 7] (fun _ i wr => ∃ (k : Nat) (H : GH), k ≤ l.length ∧ i = .int .i64 k ∧ J k H ∧ TG (H0 ++ [[cl tb 351 #[.slice av l.length cap]], gr, ge]) W (H ++ [[cl tb 351 #[.slice av l.length cap]], gr, ge]) wr) (fun _ i _ => l.length + 1 - (intOf i).toNat)
  case atStart => exact ⟨0, H0, by omega, rfl, HH.out.1, HH.out.2⟩
  case round =>
    obtain ⟨k, H, hk, rfl, hj, T⟩ := hrel
    clear HH c0
    by_cases hlt : k < l.length
    · obtain ⟨a, ha⟩ : ∃ a, l[k]? = some a := ⟨_, List.getElem?_eq_getElem hlt⟩
      have hla : (l.map taskV).length = l.length := List.length_map _
      have hat : (l.map taskV)[k]? = some (taskV a) := by rw [List.getElem?_map, ha]; rfl
      have hy0 := HY.out k #[.agg (taskV a)] [] (k + 1) H wr hj ⟨⟨_, hat, rfl⟩, rfl, rfl⟩ (by rw [List.append_nil]; exact T.has.left)
      obtain ⟨fn, tmps, assign, body, hy, hR⟩ := yield_any (n := 8) hy0
      clear hy0
      have TO := TG.refl T.has.right
      obtain ⟨u, y, ⟨hdue, elv, esl, eno, rfl⟩, hp, _⟩ := HE.out.out ha
      have TE := ((TO.permAt 2 rfl hp).sum (H' := [[cl tb 351 #[.slice av l.length cap]], gr, entB a.eb home a.e elv esl (.pointer eno), y]) (fun n ha h0 h1 h2 => by simp only [SU, ha, h0, h1, h2] <;> omega))
      obtain ⟨rb, cap', cur, hv, rfl, _, _, _, hcur⟩ := HR.out.open (by omega)
      cases hv
      have hcj := hcur k (by omega)
      rw [List.getElem?_map, ha] at hcj
      have r0 := (TE.cell 1 0 rfl k).trans hcj
      have e1 := TE.cell 2 0 rfl 1
      have e2 := TE.cell 2 0 rfl 2
      have e3 := TE.cell 2 0 rfl 3
      have e4 := TE.cell 2 0 rfl 4
      have e5 := TE.cell 2 0 rfl 5
      simp only [entC, List.getElem?_toArray, List.getElem?_cons_zero, List.getElem?_cons_succ, Option.map_some] at r0 e1 e2 e3 e4 e5
      simp only [taskV, TaskS.cells] at hy
      have HTT := Lib.hid T
      have HRR := Lib.hid hR
      clear hR T TO TE hcur hcj hj hp hat hla hdue
      gi_wp2
      refine HRR.out.mono ?_
      rintro e W' ⟨H', hT', hj'⟩
      have T2 := HTT.out.trans ((hT'.app (a' := H) (by simp)).frame HTT.out.has)
      have HT2 := Lib.hid T2
      have HJ := Lib.hid hj'
      clear hT' hj' T2 hy r0 e1 e2 e3 e4 e5
      rcases HJ.out with ⟨rfl, hj'⟩ | ⟨rfl, hj'⟩
      · have HJ2 := Lib.hid hj'
        clear hj' HJ
        gi_wp2
        go_roundw
        case rel => exact ⟨k + 1, H', by omega, by go_num, HJ2.out, HT2.out⟩
        case measure => simp [intOf]; omega
      · have HJ2 := Lib.hid hj'
        clear hj' HJ
        gi_wp2
        refine bodyPost_ret (results_none rfl _ _ _) rfl ?_
        exact ⟨⟨_, rfl⟩, k + 1, H', _, HT2.out, .inr HJ2.out⟩
    · have : k = l.length := by omega
      subst this
      gi_wp2
      go_end0
      exact ⟨⟨_, rfl⟩, l.length, H, _, T, .inl ⟨(List.length_map _).symm, hj, rfl⟩⟩
end Go.Proofs.YtblhfbcodbjgcaaGreat

namespace Go.Proofs.YtblhfbcodbjgcaaGreat
set_option linter.unusedVariables false
set_option linter.unusedSimpArgs false
open Go.RowKit Go.Shelf
def isWheel (wb : Nat) (S : WheelS) (g : List Blk) : Prop := ∃ w : WheelA, w.s = S ∧ isWheelA wb w (totW w) g
structure WheelOk (S : WheelS) : Prop where
  sh : S.Sh
  now : S.now < 16000000
  tot : totS S ≤ 999999
theorem adv_facts {S : WheelS} (h : S.Sh) : S.adv.1.Sh ∧ S.adv.1.now = S.now + 1 ∧ totS S.adv.1 + S.adv.2.length = totS S := by
  have h0 : ({ S with now := S.now + 1 } : WheelS).Sh := ⟨h.l4, h.l64⟩
  have h1 := WheelS.down_sh (min (zerosT (S.now + 1)) 3) h0
  have h2 := WheelS.down_now (min (zerosT (S.now + 1)) 3) { S with now := S.now + 1 }
  refine ⟨WheelS.clear_sh h1 _ _, h2, ?_⟩
  have h3 := totS_clear h1 (l := 0) (by decide) (dig_lt (WheelS.down (min (zerosT (S.now + 1)) 3) { S with now := S.now + 1 }).now 0)
  have h4 := totS_down (min (zerosT (S.now + 1)) 3) h0 (by omega)
  show totS (WheelS.clear _ _ _) + (WheelS.slot _ _ _).length = _
  rw [h3, h4]; rfl
section
variable {wb : Nat} {S : WheelS} {g : List Blk}
theorem wheelNow_r (hg : isWheel wb S g) : ReadsG Tryz.prog 106 #[ptr' wb] [g] (.int .u64 S.now) := by
  obtain ⟨W0, rfl, hg⟩ := hg
  obtain ⟨C, vs, bb, gR, hC, hvl, rfl, hback⟩ := hg.open
  intro w hw
  have T0 := TG.refl hw
  have HT := Lib.hid T0
  clear hw T0
  have c0 := ((HT.out.sum (H' := [[cl wb 244 C], gR]) (fun n ha h0 h1 h2 => by simp only [SU, ha, h0, h1, h2] <;> omega)).cell 0 0 rfl 0).trans hC.now
  have hs : W0.s.now = W0.now := rfl
  rw [hs]
  clear hC hback hg hvl
  go_enter Tryz.func106, Tryz.ntmps106
  go_wp2
  go_ret
  exact ⟨rfl, 0, rfl⟩
def armD (S : WheelS) (t : TaskS) : Nat := max t.dl.toNat (S.now + 1)
def armE (S : WheelS) (t : TaskS) : EntS := ⟨armD S t, { t with dl := armD S t }, armD S t⟩
set_option maxRecDepth 100000 in
set_option maxHeartbeats 4000000 in
theorem shardArm_g (b rb lb : Nat) (hg : isWheel wb S g) (ho : WheelOk S) (t : TaskS) (hs : 0 ≤ t.slot) (hd : 0 ≤ t.dl ∧ t.dl < 18446744073709551616) :
    DoesG Tryz.prog 312 #[ptr' b, .agg t.cells] [shardB b rb lb wb, g] fun e gs => e = .returned (.tuple #[.int .u64 (armD S t), .int .i64 0]) ∧ ∃ g', isWheel wb (S.place (armE S t)) g' ∧ gs = [shardB b rb lb wb, g'] := by
  have HNW := Lib.hid (wheelNow_r hg)
  have hl := timesLater_g t.dl S.now (by omega) (by have := ho.now; omega) hd.1 hd.2
  have hmax : max t.dl ((S.now : Int) + 1) = (armD S t : Int) := by
    unfold armD; have := hd.1; omega
  rw [hmax] at hl
  have HLT := Lib.hid hl
  have hlt : S.now < armD S t := by unfold armD; omega
  have hdn : armD S t < 18446744073709551616 := by unfold armD; have := hd.2; have := ho.now; omega
  have hI : DoesG Tryz.prog 328 #[ptr' wb, .int .u64 (armD S t), .agg ({ t with dl := armD S t } : TaskS).cells] [g] fun e gs => ∃ eb, e = .returned (.tuple #[ptr' eb, .int .i64 0]) ∧ ∃ g', isWheel wb (S.place (armE S t)) g' ∧ gs = [g'] := by
    obtain ⟨W0, rfl, hg⟩ := hg
    refine (insert_g hg ho.sh ⟨by have := ho.now; have e : W0.s.now = W0.now := rfl; omega, by rw [totW_s]; exact ho.tot⟩ (armD W0.s t) hdn hlt { t with dl := armD W0.s t }).mono ?_
    rintro e gs ⟨eb, he, w', g', h1, h2, rfl⟩
    exact ⟨eb, he, g', ⟨w', h2, h1⟩, rfl⟩
  have HI := Lib.hid hI
  generalize S.place (armE S t) = S1 at *
  generalize armD S t = d at *
  clear hl hmax hlt hdn hI ho hg
  have hsn : ¬ t.slot < 0 := by omega
  intro w hw
  have T0 := TG.refl hw
  have HT := Lib.hid T0
  clear hw T0
  have hf := fun w => (inner_field (ptr' rb) (ptr' lb) (ptr' wb) w).2.2
  simp only [TaskS.cells] at HI ⊢
  go_enter Tryz.func312, Tryz.ntmps312
  go_wp2_with fail
  refine (DoesG.use (shardParts_g b rb lb wb) (HT.out.alloc (k := w.heap.size) rfl 40 #[.int .u64 t.id, .int .i64 t.slot, .int .u64 t.gen, .int .u64 t.dl, .int .u64 t.per]) [0] rfl rfl).mono ?_
  rintro e w1 ⟨gs, ⟨rfl, rfl⟩, Ta⟩
  simp only [PU] at Ta
  have HT := Lib.hid Ta
  clear Ta
  have a0 := HT.out.cell 2 0 rfl 0
  have a1 := HT.out.cell 2 0 rfl 1
  have a2 := HT.out.cell 2 0 rfl 2
  have a3 := HT.out.cell 2 0 rfl 3
  have fa3 := HT.out.free 2 0 rfl 3
  have a4 := HT.out.cell 2 0 rfl 4
  simp only [List.getElem?_nil, List.getElem?_toArray, List.getElem?_cons_zero, List.getElem?_cons_succ] at a0 a1 a2 a3 a4
  go_wp2_with fail
  refine wp_region_mix1 4 (by kernel_rfl) (by kernel_rfl) ?_
  simp only [List.take_succ_cons, List.take_zero, List.drop_succ_cons, List.drop_zero]
  repeat (go_big_quiet_step ((first | (go_at_call 106; with_reducible exact ReadsG.quiet (HNW.out) HT.out _ [1] rfl rfl))))
  refine wpQuiet_nil ?_
  intro _ hw'
  obtain ⟨nq, hw''⟩ := hw'
  subst hw''
  have HT := Lib.hid (HT.out.drewN nq)
  go_wp2_with fail
  refine (DoesG.use (HLT.out) (HT.out) [] rfl rfl).mono ?_
  rintro e w1 ⟨gs, ⟨rfl, rfl⟩, Ta⟩
  simp only [PU] at Ta
  clear a0 a1 a2 a3 a4 fa3
  have HT := Lib.hid Ta
  clear Ta
  go_wp2_with fail
  refine ⟨rfl, ?_⟩
  have a0 := HT.out.cell 2 0 rfl 0
  have a1 := HT.out.cell 2 0 rfl 1
  have a2 := HT.out.cell 2 0 rfl 2
  have a3 := HT.out.cell 2 0 rfl 3
  have fa3 := HT.out.free 2 0 rfl 3
  have a4 := HT.out.cell 2 0 rfl 4
  simp only [List.getElem?_nil, List.getElem?_toArray, List.getElem?_cons_zero, List.getElem?_cons_succ] at a0 a1 a2 a3 a4
  go_wp2_with fail
  refine (DoesG.use (HI.out) (HT.out.set 2 0 rfl 3 (.int .u64 d)) [1] rfl rfl).mono ?_
  rintro e w1 ⟨gs, ⟨eb, rfl, g1, hg1, rfl⟩, Ta⟩
  simp only [PU] at Ta
  have HG := Lib.hid hg1
  clear hg1 a0 a1 a2 a3 a4 fa3
  have HT := Lib.hid Ta
  clear Ta
  go_wp2
  go_ret2
  exact ⟨_, ⟨rfl, g1, HG.out, rfl⟩, HT.out.pick [0, 1] rfl⟩
theorem tasks_g (v : Value) (hv : ∃ a n c, v = .slice a n c) : DoesG Tryz.prog 286 #[v] [] fun e gs => ∃ tb, e = .returned (.func (.func 309) #[] #[ptr' tb]) ∧ gs = [[cl tb 351 #[v]]] := by
  obtain ⟨a, n, c, rfl⟩ := hv
  intro w hw
  have T0 := TG.refl hw
  have HT := Lib.hid T0
  clear hw T0
  go_enter Tryz.func286, Tryz.ntmps286
  go_wp2
  go_ret
  exact ⟨_, ⟨_, rfl, rfl⟩, HT.out.alloc rfl _ _⟩
def tasksV (l : List TaskS) : List Value := flatV (l.map TaskS.cells)
set_option maxRecDepth 100000 in
set_option maxHeartbeats 4000000 in
theorem shardTurn_g (b rb lb : Nat) (hg : isWheel wb S g) (ho : WheelOk S) :
    DoesG Tryz.prog 262 #[ptr' b] [shardB b rb lb wb, g] fun e gs => ∃ v g' gr, e = .returned (.tuple #[v, .int .i64 0]) ∧ isWheel wb S.adv.1 g' ∧ rowG 40 5 v S.adv.2.length (tasksV (S.adv.2.map EntS.v)) gr ∧ gs = [shardB b rb lb wb, g', gr] := by
  have hfa := adv_facts ho.sh
  have hA : DoesG Tryz.prog 284 #[ptr' wb] [g] fun e gs => ∃ (v : Value) (l : List EntA) (gr ge : List Blk) (g' : List Blk), e = .returned (.tuple #[v, .int .i64 0]) ∧ l.map EntA.e = S.adv.2 ∧ rowG 271 1 v l.length (l.map fun a => ptr' a.eb) gr ∧ FamP (entP (.pointer none)) l ge ∧ isWheel wb S.adv.1 g' ∧ gs = [g', gr, ge] := by
    obtain ⟨W0, rfl, hg⟩ := hg
    refine (advance_g hg ho.sh ho.now (by rw [totW_s]; exact ho.tot)).mono ?_
    rintro e gs ⟨v, l, gr, ge, w', g', h1, h2, h3, h4, h5, h6, rfl⟩
    exact ⟨v, l, gr, ge, g', h1, h2, h3, h4, ⟨w', h6, h5⟩, rfl⟩
  have HA := Lib.hid hA
  have hlen : S.adv.2.length ≤ 1000000 := by have := ho.tot; omega
  have HLE := Lib.hid hlen
  generalize S.adv = R at *
  obtain ⟨S1, es⟩ := R
  simp only at HA HLE ⊢
  clear hfa hA hlen ho hg
  intro w hw
  have T0 := TG.refl hw
  have HT := Lib.hid T0
  clear hw T0
  have hf := fun w => (inner_field (ptr' rb) (ptr' lb) (ptr' wb) w).2.2
  go_enter Tryz.func262, Tryz.ntmps262
  go_wp2_with fail
  refine (DoesG.use (shardParts_g b rb lb wb) (HT.out) [0] rfl rfl).mono ?_
  rintro e w1 ⟨gs, ⟨rfl, rfl⟩, Ta⟩
  simp only [PU] at Ta
  have HT := Lib.hid Ta
  clear Ta
  go_wp2_with fail
  refine (DoesG.use (HA.out) (HT.out) [1] rfl rfl).mono ?_
  rintro e w1 ⟨gs, ⟨v, l, gr, ge, g1, rfl, hl, hr, he, hg1, rfl⟩, Ta⟩
  simp only [PU] at Ta
  have HG := Lib.hid hg1
  have HR := Lib.hid hr
  have HE := Lib.hid he
  clear hg1 hr he
  have HT := Lib.hid Ta
  clear Ta
  have hll : l.length = es.length := by rw [← hl, List.length_map]
  have hn : l.length ≤ 1000000 := by rw [hll]; exact HLE.out
  have htv : l.map taskV = (es.map EntS.v).map TaskS.cells := by rw [← hl]; simp [List.map_map, Function.comp_def, taskV]
  obtain ⟨av, cap, hv⟩ := rowG.val HR.out
  subst hv
  have HC := Lib.hid (show ∀ tb, _ from fun tb => collectT_g (enters_of Tryz.func309 (by kernel_rfl) rfl) (tasks_iter tb l (.slice av l.length cap) (.pointer none) gr ge HR.out HE.out hn) (fun c hc => by
    obtain ⟨a, _, rfl⟩ := List.mem_map.1 hc
    exact ⟨_, _, _, _, _, rfl⟩) (by rw [List.length_map]; exact hn))
  have HTV := Lib.hid (And.intro hll htv)
  clear hll htv hn
  go_wp2_with fail
  refine (DoesG.use (tasks_g _ ⟨_, _, _, rfl⟩) (HT.out) [] rfl rfl).mono ?_
  rintro e w1 ⟨gs, ⟨tb, rfl, rfl⟩, Ta⟩
  simp only [PU] at Ta
  have HT := Lib.hid Ta
  clear Ta
  go_wp2_with fail
  refine (DoesG.use (HC.out tb) (HT.out) [4, 2, 3] rfl rfl).mono ?_
  rintro e w1 ⟨gs, ⟨v2, g2, rfl, hr2, rfl⟩, Ta⟩
  simp only [PU] at Ta
  have HR2 := Lib.hid hr2
  clear hr2
  have HT := Lib.hid Ta
  clear Ta
  have hrf : rowG 40 5 v2 es.length (tasksV (es.map EntS.v)) g2 := by
    have := HR2.out
    rw [List.length_map, HTV.out.1, HTV.out.2] at this
    exact this
  obtain ⟨a2, cap2, hv⟩ := rowG.val hrf
  subst hv
  have HRF := Lib.hid hrf
  clear hrf hl
  go_wp2
  go_ret2
  exact ⟨_, ⟨_, g1, g2, rfl, HG.out, HRF.out, rfl⟩, HT.out.pick [0, 1, 5] rfl⟩
end
end Go.Proofs.YtblhfbcodbjgcaaGreat

namespace Go.Proofs.YtblhfbcodbjgcaaGreat
set_option linter.unusedVariables false
set_option linter.unusedSimpArgs false
open Go Go.RowKit Go.Conc
def wpN (P : Program) (c : Code) (Q : Exit → Act → World → Prop) (a : Act) (w : World) : Prop :=
  ∀ (b : Frame), b.kind = .normal → ∀ (k : List Item) (cs : List Frame), ∃ e a' w', Q e a' w' ∧ Arrives P (lone (b.at a (.code c :: k)) cs w) b k cs e a' w'
section
variable {P : Program} {Q : Exit → Act → World → Prop} {a : Act} {w : World}
theorem wpN_of_wp {c : Code} (h : c.wp P Q a w) : wpN P c Q a w := fun b _ k cs => h b k cs
theorem wpN_seq {x y : Code} (h : wpN P x (Exit.then (wpN P y Q) Q) a w) : wpN P (Code.seq x y) Q a w := by
  intro b hb k cs
  obtain ⟨e, a₁, w₁, hq, harr⟩ := h b hb (.code y :: k) cs
  cases e with
  | normal =>
    obtain ⟨e₂, a₂, w₂, hq₂, harr₂⟩ := hq b hb k cs
    exact ⟨e₂, a₂, w₂, hq₂, .of_steps (.head step_seq harr) harr₂⟩
  | exit id => exact ⟨_, a₁, w₁, hq, .of_steps (.one step_seq) (.pass (x := .code y) rfl (fun _ _ => .inl (by simp)) harr)⟩
  | goto l => exact ⟨_, a₁, w₁, hq, .of_steps (.one step_seq) (.pass (x := .code y) rfl (fun _ _ => .inl (by simp)) harr)⟩
  | ret => exact ⟨_, a₁, w₁, hq, .of_steps (.one step_seq) (.pass (x := .code y) rfl (fun _ _ => .inl (by simp)) harr)⟩
  | panic ch => exact ⟨_, a₁, w₁, hq, .of_steps (.one step_seq) (.pass (x := .code y) rfl (fun _ _ => .inl (by simp)) harr)⟩
  | outgrown => exact ⟨_, a₁, w₁, hq, .of_steps (.one step_seq) (.pass (x := .code y) rfl (fun _ _ => .inl (by simp)) harr)⟩
theorem wpN_cond {c : Operand} {x y : Code} {t : Bool} (hc : a.eval c = .bool t) (h : wpN P (if t then x else y) Q a w) : wpN P (Code.cond c x y) Q a w :=
  fun b hb k cs => let ⟨e, a', w', q, r⟩ := h b hb k cs; ⟨e, a', w', q, .of_steps (.one (step_cond hc)) r⟩
theorem wpN_block {id : Nat} {c : Code} (h : wpN P c (Exit.inBlock id Q) a w) : wpN P (Code.block id c) Q a w := by
  intro b hb k cs
  obtain ⟨e, a₁, w₁, hq, harr⟩ := h b hb (.inBlock id :: k) cs
  cases e with
  | normal => exact ⟨.normal, a₁, w₁, hq, .head step_block (Steps.trans harr (.one step_inBlock))⟩
  | exit id' =>
    by_cases hid : id' = id
    · simp only [Exit.inBlock, hid, if_true] at hq
      exact ⟨.normal, a₁, w₁, hq, .head step_block (harr k (by simp [exitTo, hid]))⟩
    · simp only [Exit.inBlock, hid, if_false] at hq
      refine ⟨.exit id', a₁, w₁, hq, fun k' hk => .head step_block (harr k' ?_)⟩
      have : (id == id') = false := by simp; exact fun h => hid h.symm
      simp [exitTo, this, hk]
  | goto l => exact ⟨_, a₁, w₁, hq, fun k' hk => .head step_block (harr k' (by simp [gotoIn, hk]))⟩
  | ret => exact ⟨_, a₁, w₁, hq, .of_steps (.one step_block) harr⟩
  | panic ch => exact ⟨_, a₁, w₁, hq, .of_steps (.one step_block) harr⟩
  | outgrown => exact ⟨_, a₁, w₁, hq, .of_steps (b := b) (k := k) (cs := cs) (e := .outgrown) (.one step_block) harr⟩
theorem wpN_loop {c : Code} (I : Act → World → Prop) (μ : Act → World → Nat) (h₀ : I a w)
    (round : ∀ a w, I a w → wpN P c (Exit.then (fun a' w' => I a' w' ∧ μ a' w' < μ a w) Q) a w) : wpN P (Code.loop c) Q a w := by
  intro b hb k cs
  have key : ∀ n a w, μ a w = n → I a w →
      ∃ e a' w', Q e a' w' ∧ Arrives P (lone (b.at a (.code c :: .inLoop c :: k)) cs w) b k cs e a' w' := by
    intro n
    induction n using Nat.strongRecOn with
    | _ n ih =>
      intro a w hn hI
      obtain ⟨e, a₁, w₁, hq, harr⟩ := round a w hI b hb (.inLoop c :: k) cs
      cases e with
      | normal =>
        obtain ⟨hI₁, hlt⟩ := hq
        obtain ⟨e₂, a₂, w₂, hq₂, harr₂⟩ := ih (μ a₁ w₁) (hn ▸ hlt) a₁ w₁ rfl hI₁
        exact ⟨e₂, a₂, w₂, hq₂, .of_steps (Steps.trans harr (.one step_inLoop)) harr₂⟩
      | exit id => exact ⟨_, a₁, w₁, hq, .pass (x := .inLoop c) rfl (fun _ _ => .inl (by simp)) harr⟩
      | goto l => exact ⟨_, a₁, w₁, hq, .pass (x := .inLoop c) rfl (fun _ _ => .inl (by simp)) harr⟩
      | ret => exact ⟨_, a₁, w₁, hq, .pass (x := .inLoop c) rfl (fun _ _ => .inl (by simp)) harr⟩
      | panic ch => exact ⟨_, a₁, w₁, hq, .pass (x := .inLoop c) rfl (fun _ _ => .inl (by simp)) harr⟩
      | outgrown => exact ⟨_, a₁, w₁, hq, .pass (x := .inLoop c) rfl (fun _ _ => .inl (by simp)) harr⟩
  obtain ⟨e, a', w', hq, harr⟩ := key _ a w rfl h₀
  exact ⟨e, a', w', hq, .of_steps (.one step_loop) harr⟩
theorem wpN_region_comm {id : Nat} {o : Oper} {rest : List Oper} {cases : Array CommCase} {blocking : Bool} {shape : CommShape} {v : Value} {w1 w' : World}
    (hw : Region.wanted o (yielded (o :: rest).toArray a.tmps) = true) (hr : (execOp a.eval o).run P w = .ok (.comm cases blocking shape) w1)
    (hs : ∀ (fr : Frame) (cs : List Frame) (es : Array Event), stepG P true (G fr cs) w = .comm (G fr cs) cases blocking shape w1 es → step P (solo (G fr cs) w) = .next (solo (G (fr.finish v) cs) w'))
    (h : wpList P (o :: rest).toArray Q rest (a.put o.dst v) w') : wpN P (Code.region id (o :: rest).toArray false) Q a w := by
  intro b hb k cs
  have h0 : ((o :: rest).toArray)[0]? = some o := by simp
  have hl : List.range (o :: rest).toArray.size = 0 :: List.range' 1 rest.length := by
    simp [List.range_eq_range', List.range'_succ]
  have hg := stepG_comm (P := P) (main := true) (a := a) (w := w) (b := b) (k := k) (cs := cs) (ops := (o :: rest).toArray) (i := 0) (rest := List.range' 1 rest.length) h0 hw (by rw [hb]; decide) hr
  have hst := hs _ cs _ hg
  rw [Frame.finish_at, h0] at hst
  have hst : step P (lone (b.at a (.inRegion (o :: rest).toArray (0 :: List.range' 1 rest.length) :: k)) cs w) = .next (lone (b.at (a.put o.dst v) (.inRegion (o :: rest).toArray (List.range' 1 rest.length) :: k)) cs w') := by
    rw [lone_eq_solo, lone_eq_solo]
    exact hst
  rw [← wpOps_eq_wpList (ops := (o :: rest).toArray) (Q := Q) rest 1 (fun j => by simp [Nat.add_comm 1 j])] at h
  obtain ⟨e, a', w'', hq, harr⟩ := wp_ops _ _ _ h b k cs
  refine ⟨e, a', w'', hq, .of_steps (.head ?_ (.one hst)) harr⟩
  have := step_region (P := P) (b := b) (a := a) (k := k) (cs := cs) (w := w) (id := id) (ops := (o :: rest).toArray)
  rw [hl] at this
  exact this
theorem calls_of_wpN {f : FuncId} {fn : Func} {c : Code} {args : Array Value} {R : Ending → World → Prop}
    (hf : P.funcs[f]? = some fn) (hb : fn.body = some c)
    (h : wpN P c (bodyPost P fn R) { tmps := args ++ Array.replicate (fn.ntmps - args.size) undef, defers := [] } w) : Calls P f args w R := by
  intro cs
  let b : Frame := { (default : Frame) with fn := f, kind := .normal }
  have henter : Frame.enter P f args .normal = b.at { tmps := args ++ Array.replicate (fn.ntmps - args.size) undef, defers := [] } [.code c] := by
    simp [Frame.enter, Frame.at, hf, hb, b]
  obtain ⟨e, a', w', hq, harr⟩ := h b rfl [] cs
  rw [← henter] at harr
  cases e with
  | normal =>
    obtain ⟨hd, v, hr, hR⟩ := hq
    exact ⟨.returned v, w', _, hR, Steps.trans harr (.one step_end), rfl, rfl, hd, rfl, fn, hf, hr⟩
  | ret =>
    obtain ⟨hd, v, hr, hR⟩ := hq
    obtain ⟨todo, hs⟩ := harr
    exact ⟨.returned v, w', _, hR, hs, rfl, rfl, hd, rfl, fn, hf, hr⟩
  | panic chain =>
    obtain ⟨hd, hR⟩ := hq
    obtain ⟨todo, hs⟩ := harr
    exact ⟨.panicked chain, w', _, hR, hs, rfl, rfl, hd, fn, hf⟩
  | exit id => exact hq.elim
  | goto l => exact hq.elim
  | outgrown => exact ⟨.outgrown, w', b, hq, harr.resolve_left (by simp [b]), rfl, trivial⟩
end
end Go.Proofs.YtblhfbcodbjgcaaGreat

namespace Go.Proofs.YtblhfbcodbjgcaaGreat
set_option linter.unusedVariables false
set_option linter.unusedSimpArgs false
open Go.RowKit Go.Shelf Go.Conc
theorem TG.setChan {h H : GH} {w w' : World} (a : TG h w H w') (i : Nat) {c : Nat} {o : Obj} (hi : i < H.length) (hg : H.getD i [] = [(c, o)]) (cap : Nat) (buf : Array Value) (cl : Bool) (s r : Nat) (tm : Bool) :
    TG h w (H.set i [(c, .chan cap buf cl s r tm)]) (w'.setChan c cap buf cl s r tm) := by
  have hl := a.lt i 0 (p := (c, o)) (by rw [hg]; rfl)
  exact a.turn (pre := []) (post := []) (o' := .chan cap buf cl s r tm) (w'' := w'.setChan c cap buf cl s r tm) i hi hg (heap_setChan w' c cap buf cl s r tm hl) (fun k hk => by simp only [World.setChan]; rw [Array.getElem?_setIfInBounds_ne (fun e => hk e.symm)]) (size_setChan _ _ _ _ _ _ _ _) rfl rfl rfl
theorem fire_zero (w : World) : (zeroValue 69).run Tryz.prog w = .ok (.agg #[.int .u64 0, .int .u64 0, .int .u64 0, .int .u64 0]) w := by kernel_rfl
section
variable {pb : Nat} {p : PipeS} {g : List Blk}
set_option maxRecDepth 100000 in
theorem pipeSend_yes (hg : isPipe pb p g) (v : FireS) (hr : p.ch.length < p.room) : DoesG Tryz.prog 292 #[ptr' pb, .agg v.vals.toArray] [g] fun e gs =>
    e = .returned (.bool true) ∧ ∃ g', isPipe pb { p with ch := p.ch ++ [v] } g' ∧ gs = [g'] := by
  obtain ⟨cb, lb, hb, a, b, l, gl, h1, h2, rfl⟩ := hg
  intro w hw
  have T0 := TG.refl hw
  have HT := Lib.hid T0
  clear hw T0
  have HT := Lib.hid (HT.out.sum (H' := [pipeB pb cb lb p, [(cb, .chan p.room (p.ch.map fun f => Value.agg f.vals.toArray).toArray false a b false)], gl]) (fun n ha h0 h1 h2 => by simp only [SU, ha, h0, h1, h2] <;> omega))
  have H1 := Lib.hid h1
  have H2 := Lib.hid h2
  have c0 := HT.out.cell 0 0 rfl 0
  simp only [pipeB, List.getElem?_toArray, List.getElem?_cons_zero, List.getElem?_cons_succ] at c0
  have hch := HT.out.obj 1 0 rfl
  simp only [] at hch
  have lt := HT.out.lt 0 0 rfl
  simp only [] at lt
  clear h1 h2
  simp only [FireS.vals]
  refine calls_of_wpN Tryz.func292 rfl ?_
  simp only [Tryz.ntmps292, List.size_toArray, List.length_cons, List.length_nil, Nat.reduceAdd, Nat.reduceSub, Array.replicate_succ, Array.replicate_zero, List.push_toArray, List.append_toArray, List.nil_append, List.cons_append]
  refine wpN_seq (wpN_of_wp ?_)
  go_wp2
  have HT := Lib.hid (HT.out.alloc (k := w.heap.size) rfl 69 #[.int .u64 v.id, .int .u64 v.gen, .int .u64 v.dl, .int .u64 v.tick])
  clear c0 hch
  generalize w.alloc _ = w1 at HT ⊢
  have c0 := HT.out.cell 0 0 rfl 0
  simp only [pipeB, List.getElem?_toArray, List.getElem?_cons_zero, List.getElem?_cons_succ] at c0
  have b0 := HT.out.cell 3 0 rfl 0
  have b1 := HT.out.cell 3 0 rfl 1
  have b2 := HT.out.cell 3 0 rfl 2
  have b3 := HT.out.cell 3 0 rfl 3
  simp only [List.getElem?_nil, List.getElem?_toArray, List.getElem?_cons_zero, List.getElem?_cons_succ] at b0 b1 b2 b3
  have hch := HT.out.obj 1 0 rfl
  simp only [] at hch
  refine wpN_seq (wpN_of_wp ?_)
  go_wp2
  refine wpN_seq ?_
  refine wpN_region_comm (cases := #[scase cb (.agg #[.int .u64 v.id, .int .u64 v.gen, .int .u64 v.dl, .int .u64 v.tick]) (.agg #[.int .u64 0, .int .u64 0, .int .u64 0, .int .u64 0])]) (blocking := false) (shape := .select) (v := .tuple #[goInt 0, .bool false]) (w1 := w1) (w' := w1.setChan cb p.room ((p.ch.map fun f => Value.agg f.vals.toArray).toArray.push (.agg #[.int .u64 v.id, .int .u64 v.gen, .int .u64 v.dl, .int .u64 v.tick])) false (a + 1) b false) rfl ?_ (fun fr cs es h => step_lone_select_send_room h hch (by simpa using hr)) ?_
  · have hz := fun w => fire_zero w
    simp [go_sem, execOp, scase, Act.eval, hz]
  · have HT := Lib.hid (HT.out.setChan 1 (by simp) rfl p.room ((p.ch.map fun f => Value.agg f.vals.toArray).toArray.push (.agg #[.int .u64 v.id, .int .u64 v.gen, .int .u64 v.dl, .int .u64 v.tick])) false (a + 1) b false)
    generalize World.setChan _ _ _ _ _ _ _ _ = w2 at HT ⊢
    simp only [goInt]
    go_wp2
    refine wpN_of_wp ?_
    go_wp2
    go_ret
    exact ⟨_, ⟨rfl, _, ⟨cb, lb, hb, a + 1, b, l, gl, H1.out, H2.out, rfl⟩, rfl⟩, (HT.out.pick [0, 1, 2] rfl).eq (by simp [pickG, FireS.vals])⟩
set_option maxRecDepth 100000 in
theorem pipeSend_no (hg : isPipe pb p g) (v : FireS) (hr : p.room ≤ p.ch.length) : DoesG Tryz.prog 292 #[ptr' pb, .agg v.vals.toArray] [g] fun e gs =>
    e = .returned (.bool false) ∧ ∃ g', isPipe pb p g' ∧ gs = [g'] := by
  obtain ⟨cb, lb, hb, a, b, l, gl, h1, h2, rfl⟩ := hg
  intro w hw
  have T0 := TG.refl hw
  have HT := Lib.hid T0
  clear hw T0
  have HT := Lib.hid (HT.out.sum (H' := [pipeB pb cb lb p, [(cb, .chan p.room (p.ch.map fun f => Value.agg f.vals.toArray).toArray false a b false)], gl]) (fun n ha h0 h1 h2 => by simp only [SU, ha, h0, h1, h2] <;> omega))
  have H1 := Lib.hid h1
  have H2 := Lib.hid h2
  have c0 := HT.out.cell 0 0 rfl 0
  simp only [pipeB, List.getElem?_toArray, List.getElem?_cons_zero, List.getElem?_cons_succ] at c0
  have hch := HT.out.obj 1 0 rfl
  simp only [] at hch
  have lt := HT.out.lt 0 0 rfl
  simp only [] at lt
  clear h1 h2
  simp only [FireS.vals]
  refine calls_of_wpN Tryz.func292 rfl ?_
  simp only [Tryz.ntmps292, List.size_toArray, List.length_cons, List.length_nil, Nat.reduceAdd, Nat.reduceSub, Array.replicate_succ, Array.replicate_zero, List.push_toArray, List.append_toArray, List.nil_append, List.cons_append]
  refine wpN_seq (wpN_of_wp ?_)
  go_wp2
  have HT := Lib.hid (HT.out.alloc (k := w.heap.size) rfl 69 #[.int .u64 v.id, .int .u64 v.gen, .int .u64 v.dl, .int .u64 v.tick])
  clear c0 hch
  generalize w.alloc _ = w1 at HT ⊢
  have c0 := HT.out.cell 0 0 rfl 0
  simp only [pipeB, List.getElem?_toArray, List.getElem?_cons_zero, List.getElem?_cons_succ] at c0
  have b0 := HT.out.cell 3 0 rfl 0
  have b1 := HT.out.cell 3 0 rfl 1
  have b2 := HT.out.cell 3 0 rfl 2
  have b3 := HT.out.cell 3 0 rfl 3
  simp only [List.getElem?_nil, List.getElem?_toArray, List.getElem?_cons_zero, List.getElem?_cons_succ] at b0 b1 b2 b3
  have hch := HT.out.obj 1 0 rfl
  simp only [] at hch
  refine wpN_seq (wpN_of_wp ?_)
  go_wp2
  refine wpN_seq ?_
  refine wpN_region_comm (cases := #[scase cb (.agg #[.int .u64 v.id, .int .u64 v.gen, .int .u64 v.dl, .int .u64 v.tick]) (.agg #[.int .u64 0, .int .u64 0, .int .u64 0, .int .u64 0])]) (blocking := false) (shape := .select) (v := .tuple #[goInt (-1), .bool false]) (w1 := w1) (w' := w1) rfl ?_ (fun fr cs es h => step_lone_select_send_full h hch (by simpa using hr)) ?_
  · have hz := fun w => fire_zero w
    simp [go_sem, execOp, scase, Act.eval, hz]
  · simp only [goInt]
    go_wp2
    refine wpN_of_wp ?_
    go_wp2
    go_ret
    exact ⟨_, ⟨rfl, _, ⟨cb, lb, hb, a, b, l, gl, H1.out, H2.out, rfl⟩, rfl⟩, (HT.out.pick [0, 1, 2] rfl).eq (by simp [pickG, FireS.vals])⟩
end
end Go.Proofs.YtblhfbcodbjgcaaGreat
