import Derived.Test.YtphbokncbflicaaScrP
namespace Go.Proofs.Ytphbokncbflicaa
set_option linter.unusedVariables false
set_option linter.unusedSimpArgs false
open Go.RowKit

/-- two own rows of different elements lie apart: one grows, the other stays -/
theorem row_other {w w' : World} {b b1 : Nat} {e1 e2 : TypeId} {s1 s2 : Nat} {v1 v2 : Value} {n1 n2 : Nat} {xs1 xs2 : List Value} (h2 : w.ownsRow b e2 s2 v2 n2 xs2) (h1 : w.ownsRow b1 e1 s1 v1 n1 xs1) (hne : e1 ≠ e2) (hg : w.grownBy w' v1.ownBlock) : w'.ownsRow b e2 s2 v2 n2 xs2 := by
  refine ⟨h2.1, h2.2.imp id ?_⟩
  rintro ⟨g, cap, cur, rfl, hb, hh, r⟩
  refine ⟨g, cap, cur, rfl, hb, (Only.of_grownBy hg).blk hh (fun e => ?_), r⟩
  rcases h1.2 with ⟨rfl, _⟩ | ⟨g1, c1, cur1, rfl, _, hh1, _⟩
  · simp [Value.ownBlock] at e
  · simp only [Value.ownBlock, Option.some.injEq] at e
    subst e
    rw [hh] at hh1
    simp only [Option.some.injEq, Obj.cells.injEq] at hh1
    exact hne hh1.2.1.symm

/-- the bytes of the entries that may be -/
def wantOf (l : List Ent) : List Int := l.flatMap fun e => if e.ok then e.bytes else []
theorem wantOf_snoc (l : List Ent) (e : Ent) : wantOf (l ++ [e]) = wantOf l ++ (if e.ok then e.bytes else []) := by simp [wantOf]
theorem wantOf_length (l : List Ent) : (wantOf l).length ≤ 6 * l.length := by
  induction l with
  | nil => simp [wantOf]
  | cons e l ih =>
    simp only [wantOf, List.flatMap_cons, List.length_append, List.length_cons] at ih ⊢
    have : (if e.ok = true then e.bytes else []).length ≤ 6 := by split; exact Nat.le_of_eq e.bytes_length; simp
    omega
theorem wantOf_ok (l : List Ent) (h : l.all Ent.ok = true) : wantOf l = bytesOf l := by
  induction l with
  | nil => rfl
  | cons e l ih =>
    simp only [List.all_cons, Bool.and_eq_true] at h
    simp only [wantOf, bytesOf, List.flatMap_cons] at ih ⊢
    rw [ih h.2, if_pos h.1]
theorem wantOf_range (l : List Ent) : ∀ x ∈ wantOf l, 0 ≤ x ∧ x ≤ 255 := by
  intro x hx
  obtain ⟨e, _, h⟩ := List.mem_flatMap.1 hx
  split at h
  · exact e.bytes_range x h
  · cases h

set_option maxRecDepth 100000 in
set_option maxHeartbeats 4000000 in
theorem lawWrites_walk (b : Option Addr) (cb : Nat) (L : List Ent) (w : World) (hb : EntsAt w b L) (hw : ∀ e ∈ L, e.wf) (hL9 : L.length ≤ 9223372036854775807) :
    Calls Try.prog 5 #[.slice b L.length cb] w fun e w' => e = .returned (.bool true) ∧ Grew w w' := by
  by_cases c2 : 500 < L.length
  · go_enter Try.func5, Try.ntmps5
    go_wp2_with (go_at_call 7; refine (alive_calls _).mono ?_; rintro e w' ⟨rfl, hg⟩)
    go_ret
    exact ⟨rfl, hg⟩
  have hb0 := Lib.hid hb
  have HW := Lib.hid hw
  clear hb hw
  obtain ⟨i0, hi, hz0, hz1, hz2⟩ := info_parts Try.infoEnt
  have INF := Lib.hid (And.intro hi (And.intro hz0 (And.intro hz1 hz2)))
  clear hi hz0 hz1 hz2
  obtain ⟨i1, hi, hz0, hz1, hz2⟩ := info_parts Try.infoU8
  have INU := Lib.hid (And.intro hi (And.intro hz0 (And.intro hz1 hz2)))
  clear hi hz0 hz1 hz2
  have U := Lib.hid (show ∀ l : List Int, ∀ u ∈ l.map (Value.int .u8), u.oneCell' = true from fun l u hu => by obtain ⟨x, _, rfl⟩ := List.mem_map.1 hu; rfl)
  go_enter Try.func5, Try.ntmps5
  go_wp2_with (go_at_call 7; refine (alive_calls _).mono ?_; rintro e wo ⟨rfl, hg⟩)
  have hbo := hb0.out.grew hg
  have HBO := Lib.hid hbo
  have G0 := Lib.hid hg
  clear hbo hg hb0
  go_loopw [3, 4, 5, 6] (fun vi vw vb i wr => ∃ k : Nat, k ≤ L.length ∧ i = .int .i64 k ∧ vb = .bool (!((L.take k).all Ent.ok)) ∧ wr.ownsRow wo.heap.size 34 6 vi k (cellsOf (L.take k)) ∧ wr.ownsRow wo.heap.size 5 1 vw (wantOf (L.take k)).length ((wantOf (L.take k)).map (Value.int .u8)) ∧ Grew wo wr) (fun _ _ _ i _ => L.length - (intOf i).toNat)
  case atStart => exact ⟨0, Nat.zero_le _, rfl, rfl, World.ownsRow_nil _ _ _ _, World.ownsRow_nil _ _ _ _, Only.refl _ _⟩
  case round =>
    obtain ⟨k, hk, rfl, rfl, hri, hrw, hG⟩ := hrel
    by_cases hlt : k < L.length
    · obtain ⟨gl, ol, rfl, hgl, pp⟩ := HBO.out.cells hlt
      have CE := Lib.hid (fun (W : World) (h : Grew wo W) (i : Nat) => h.facts.1 gl i hgl)
      have HT := Lib.hid (take_snocE L k hlt)
      have hmem : L.getD k Ent.zero ∈ L := by rw [List.getD_eq_getElem?_getD, List.getElem?_eq_getElem hlt]; exact List.getElem_mem hlt
      have HWF := Lib.hid (HW.out _ hmem)
      have HWL := Lib.hid (wantOf_length (L.take k))
      clear hmem
      generalize L.getD k Ent.zero = e at *
      obtain ⟨f1, f2, f3, f4, f5, f6⟩ := e
      simp only at pp
      have PP := Lib.hid pp; clear pp
      have CF := Lib.hid (show ∀ W : World, Grew wo W → _ from fun W h => by have q := PP.out; simp only [← CE.out W h] at q; exact q)
      obtain ⟨p0, p1, p2, p3, p4, p5⟩ := CF.out wr hG
      have HRI := Lib.hid hri; have HRW := Lib.hid hrw; have HGW := Lib.hid hG
      clear hri hrw hG
      generalize hbad : (L.take k).all Ent.ok = bad at *
      have HBAD := Lib.hid hbad; clear hbad
      go_wp2_with fail
      refine (of_calls _ _ _ _ _ _ _).mono ?_
      rintro e w5 ⟨rfl, hg5⟩
      simp only [Ent.val]
      have HG5 := Lib.hid hg5
      have HRI5 := Lib.hid (row_only HRI.out hg5 (fun _ _ x => x))
      have HRW5 := Lib.hid (row_only HRW.out hg5 (fun _ _ x => x))
      have hs5 := hg5.size
      have hs0 := HGW.out.size
      clear hg5 p0 p1 p2 p3 p4 p5
      go_wp2_with (
        at_builtin
        refine wpList_append_own _ rfl (.tmp 22) (.tmp 28) 24 rfl wo.heap.size 34 i0 _ 6 48 Try.underlying24 INF.out.1 INF.out.2.1 INF.out.2.2.1 INF.out.2.2.2 rfl (by decide) _ k _ rfl (row_only HRI5.out ((Only.refl (fun _ => False) w5).alloc _) (fun _ _ x => x)) ⟨w5.heap.size, 0, none⟩ 1 1 (Ent.cells ⟨f1, f2, f3, f4, f5, f6⟩) rfl rfl (cells_new _ _ _ _ rfl) (by simp [Ent.cells, Value.oneCell']) (by unfold maxLen; omega) (by omega) (by simp; omega) ?_
        intro vi6 w6 hown' hgrow _
        have HRW6 := Lib.hid (row_other (row_only HRW5.out ((Only.refl (fun _ => False) w5).alloc _) (fun _ _ x => x)) (row_only HRI5.out ((Only.refl (fun _ => False) w5).alloc _) (fun _ _ x => x)) (by decide) hgrow)
        have K6 := Lib.hid (Only.trans (Only.trans (HG5.out.mono (S' := fun j => wo.heap.size ≤ j) (fun _ _ x => x.elim)) ((Only.refl _ w5).alloc _)) ((Only.of_grownBy hgrow).mono (fun j _ e => row_block HRI5.out e)))
        have OWN := Lib.hid hown'
        have GN6 := Lib.hid (Only.of_new K6.out HGW.out (fun i h => h))
        obtain ⟨q0, q1, q2, q3, q4, q5⟩ := CF.out w6 GN6.out
        clear hgrow hown')
      refine (refbytes_calls _ _ _ _ _ _ _ HWF.out).mono ?_
      rintro e w7 ⟨hg7, ⟨hok, B, rfl, hB⟩ | ⟨hok, rfl⟩⟩
      all_goals
        have own7 := row_only OWN.out hg7 (fun _ _ x => x)
        rw [← cellsOf_snoc] at own7
        have HRI7 := Lib.hid own7
        have HRW7 := Lib.hid (row_only HRW6.out hg7 (fun _ _ x => x))
        have GN7 := Lib.hid (Only.trans GN6.out hg7)
        obtain ⟨ai, ci, rfl, _, hie⟩ := EntsAt.of_row own7
        have hs7 := hg7.size
        have hs6 := GN6.out.size
        have hgd : (L.take k ++ [(⟨f1, f2, f3, f4, f5, f6⟩ : Ent)]).getD k Ent.zero = ⟨f1, f2, f3, f4, f5, f6⟩ := by
          rw [List.getD_eq_getElem?_getD, List.getElem?_append_right (by rw [List.length_take]; omega), List.length_take]
          simp [Nat.min_eq_left hk]
        obtain ⟨gi, oi, rfl, hgi, r0, r1, r2, r3, r4, r5⟩ := hie.cells (i := k) (by simp; omega)
        rw [hgd] at r0 r1 r2 r3 r4 r5
        simp only at r0 r1 r2 r3 r4 r5
        clear hgd hie own7 hg7 q0 q1 q2 q3 q4 q5
      · have HBB := Lib.hid hB; have HOK := Lib.hid hok
        clear hB
        go_wp2_with fail
        refine (scrOk_calls _ _ _ _ _ _ _).mono ?_
        rw [hok]
        rintro e w8 ⟨rfl, hg8⟩
        have HRI8 := Lib.hid (row_only HRI7.out hg8 (fun _ _ x => x))
        have HRW8 := Lib.hid (row_only HRW7.out hg8 (fun _ _ x => x))
        have GN8 := Lib.hid (Only.trans GN7.out hg8)
        have hs8 := hg8.size
        have HBB8 := Lib.hid (HBB.out.grew hg8)
        have hsrc := (show InU8 w8 (some ⟨B, 0, none⟩) 6 (Ent.bytes ⟨f1, f2, f3, f4, f5, f6⟩) from ⟨HBB8.out, by rw [Ent.bytes_length]; omega, by omega, fun h => by cases h⟩).src (Ent.bytes_length _) (Only.refl _ w8)
        have HS := Lib.hid hsrc
        clear hsrc
        clear hg8 r0 r1 r2 r3 r4 r5 hok
        have hwl := HWL.out
        rw [List.length_take, Nat.min_eq_left hk] at hwl
        cases bad
        all_goals go_wp2_with (
          at_builtin
          refine wpList_append_src rfl (.tmp 50) (.tmp 51) 22 rfl wo.heap.size 5 i1 _ 1 1 Try.underlying22 INU.out.1 INU.out.2.1 INU.out.2.2.1 INU.out.2.2.2 rfl (by decide) _ (wantOf (L.take k)).length _ rfl HRW8.out (some ⟨B, 0, none⟩) 6 6 ((Ent.bytes ⟨f1, f2, f3, f4, f5, f6⟩).map (Value.int .u8)) rfl (by rw [List.length_map, Ent.bytes_length]) HS.out (U.out _) (by unfold maxLen; omega) (by omega) (by omega) ?_
          intro v9 w9 hown9 hgr9
          have HRI9 := Lib.hid (row_other HRI8.out HRW8.out (by decide) hgr9)
          have GN9 := Lib.hid (Only.of_new (Only.trans ((Only.refl (fun j => wo.heap.size ≤ j) w8)) ((Only.of_grownBy hgr9).mono (fun j _ e => row_block HRW8.out e))) GN8.out (fun i h => h))
          have OWN9 := Lib.hid hown9
          clear hown9 hgr9)
        all_goals
         go_roundw
         case rel =>
          have hwo : wantOf (L.take (k + 1)) = wantOf (L.take k) ++ Ent.bytes ⟨f1, f2, f3, f4, f5, f6⟩ := by rw [HT.out, wantOf_snoc, HOK.out]; rfl
          refine ⟨k + 1, by omega, by go_num, ?_, ?_, ?_, GN9.out⟩
          · rw [HT.out, List.all_append, HBAD.out, List.all_cons, HOK.out]; rfl
          · rw [HT.out]; exact HRI9.out
          · rw [hwo]; rw [List.length_append, List.map_append, Ent.bytes_length]; exact OWN9.out
         case measure => simp [intOf]; omega
      · have HOK := Lib.hid hok
        go_wp2_with fail
        refine (scrOk_calls _ _ _ _ _ _ _).mono ?_
        rw [hok]
        rintro e w8 ⟨rfl, hg8⟩
        have HRI8 := Lib.hid (row_only HRI7.out hg8 (fun _ _ x => x))
        have HRW8 := Lib.hid (row_only HRW7.out hg8 (fun _ _ x => x))
        have GN8 := Lib.hid (Only.trans GN7.out hg8)
        have hs8 := hg8.size
        clear hg8 r0 r1 r2 r3 r4 r5 hok
        have hwl := HWL.out
        rw [List.length_take, Nat.min_eq_left hk] at hwl
        cases bad
        all_goals go_wp2_with (
          at_builtin
          refine wpList_append_src rfl (.tmp 50) (.tmp 51) 22 rfl wo.heap.size 5 i1 _ 1 1 Try.underlying22 INU.out.1 INU.out.2.1 INU.out.2.2.1 INU.out.2.2.2 rfl (by decide) _ (wantOf (L.take k)).length _ rfl HRW8.out none 0 0 [] rfl rfl (.inl ⟨rfl, rfl, rfl⟩) (by simp) (by unfold maxLen; omega) (by omega) (by omega) ?_
          intro v9 w9 hown9 hgr9
          have HRI9 := Lib.hid (row_other HRI8.out HRW8.out (by decide) hgr9)
          have GN9 := Lib.hid (Only.of_new (Only.trans ((Only.refl (fun j => wo.heap.size ≤ j) w8)) ((Only.of_grownBy hgr9).mono (fun j _ e => row_block HRW8.out e))) GN8.out (fun i h => h))
          have OWN9 := Lib.hid hown9
          clear hown9 hgr9)
        all_goals
         go_roundw
         case rel =>
          have hwo : wantOf (L.take (k + 1)) = wantOf (L.take k) ++ [] := by rw [HT.out, wantOf_snoc, HOK.out]; rfl
          refine ⟨k + 1, by omega, by go_num, ?_, ?_, ?_, GN9.out⟩
          · rw [HT.out, List.all_append, HBAD.out, List.all_cons, HOK.out]; rfl
          · rw [HT.out]; exact HRI9.out
          · rw [hwo]; simpa using OWN9.out
         case measure => simp [intOf]; omega
    · have hk' : k = L.length := by omega
      subst hk'
      rw [List.take_length] at hri hrw ⊢
      obtain ⟨ai, ci, rfl, _, hie⟩ := EntsAt.of_row hri
      obtain ⟨aw, cw, rfl, hlw, hiw⟩ := row_bytes hrw (wantOf_range L)
      have HIE := Lib.hid hie
      have HIW := Lib.hid hiw
      have HGW := Lib.hid (Only.trans G0.out hG)
      clear hri hrw hie hiw hG hlw
      have ENC := encode_calls ai ci L wr (by omega) HIE.out
      cases hal : L.all Ent.ok
      · have HAL := Lib.hid hal; clear hal
        go_wp2_with fail
        refine ENC.mono ?_
        rintro e w9 ⟨hg9, ⟨hno, _⟩ | ⟨_, rfl⟩⟩
        · rw [HAL.out] at hno; cases hno
        have HG9 := Lib.hid (Only.trans HGW.out hg9)
        clear hg9 ENC
        go_wp2
        go_ret
        exact ⟨rfl, HG9.out⟩
      · have HAL := Lib.hid hal
        have hwb := wantOf_ok L hal
        rw [hwb] at HIW ⊢
        clear hal
        go_wp2_with fail
        refine ENC.mono ?_
        rintro e w9 ⟨hg9, ⟨_, vb, rfl, hrb⟩ | ⟨hno, _⟩⟩
        case inr => rw [HAL.out] at hno; cases hno
        have HG9 := Lib.hid (Only.trans HGW.out hg9)
        obtain ⟨ab, cbb, rfl, hlb, hib⟩ := row_bytes hrb (bytesOf_range L)
        have hsm := same_calls ab aw cbb cw (bytesOf L) w9 hib.bytes (HIW.out.bytes.grew hg9)
        rw [hlb] at hsm ⊢
        clear hrb hib hg9 ENC
        go_wp2_with fail
        refine hsm.mono ?_
        rintro e w10 ⟨rfl, hg10⟩
        have HG10 := Lib.hid (Only.trans HG9.out hg10)
        clear hg10 hsm
        go_wp2
        go_ret
        exact ⟨rfl, HG10.out⟩
end Go.Proofs.Ytphbokncbflicaa
