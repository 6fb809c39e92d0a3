import Derived.Test.YtnemggminanbbaaScrR
namespace Go.Proofs.Ytnemggminanbbaa
set_option linter.unusedVariables false
set_option linter.unusedSimpArgs false
open Go.RowKit Go.Shelf

theorem Try.infoREnt : (Try.prog.info? 32).map (fun i => (i.zero, i.size, i.bytes)) = some (some (.agg #[.int .i64 0, .int .i64 0, .int .i64 0, .int .u64 0, .int .u64 0, .int .u64 0]), 6, 48) := by kernel_rfl

/-- what the document's Parse hands back -/
def RefParsePost (w : World) (es : List Ent) (e : Ending) (w' : World) : Prop :=
  ∃ v, e = .returned v ∧ w'.ownsRow w.heap.size 32 6 v es.length (cellsOf es) ∧ Grew w w'

set_option maxRecDepth 100000 in
set_option maxHeartbeats 4000000 in
theorem refParse_calls (a : Option Addr) (cap : Nat) (zs : List Int) (hl : zs.length ≤ 1000000) (hcap : zs.length ≤ cap) (hc : cap ≤ 9223372036854775807) (w : World) (hb : Bytes w a zs) :
    Calls Try.prog 7 #[.slice a zs.length cap] w (RefParsePost w (entsK zs (chunkN zs.length))) := by
  obtain ⟨i0, hi, hz0, hz1, hz2⟩ := info_parts Try.infoREnt
  have INF := Lib.hid (And.intro hi (And.intro hz0 (And.intro hz1 hz2)))
  clear hi hz0 hz1 hz2
  obtain ⟨b, off, ha⟩ : ∃ b off, zs.length = 0 ∨ a = some ⟨b, off, none⟩ := by
    rcases hb.2 with h | ⟨b, off, h, _⟩
    · exact ⟨0, 0, .inl (by rw [h]; rfl)⟩
    · exact ⟨b, off, .inr h⟩
  have HB := Lib.hid hb
  clear hb
  obtain ⟨len, hlen⟩ : ∃ n, zs.length = n := ⟨_, rfl⟩
  have HLEN := Lib.hid hlen
  rw [hlen] at hl hcap ha ⊢
  clear hlen
  go_enter Try.func7, Try.ntmps7
  go_wp2
  go_loopw [3, 4] (fun v i wr => ∃ k : Nat, k ≤ chunkN len ∧ i = .int .i64 ↑(6 * k) ∧ wr.ownsRow w.heap.size 32 6 v k (cellsOf (entsK zs k)) ∧ Grew w wr) (fun _ i _ => len + 6 - (intOf i).toNat)
  case atStart => exact ⟨0, Nat.zero_le _, rfl, by simpa [entsK, cellsOf] using World.ownsRow_nil _ _ _ _, Only.refl _ _⟩
  case round =>
    obtain ⟨k, hk, rfl, hr, hG⟩ := hrel
    have HR := Lib.hid hr; have HG := Lib.hid hG
    clear hr hG
    by_cases hlt : k < chunkN len
    · have hlt' : 6 * k < len := by unfold chunkN at hlt; omega
      have hk1 : k < 1000000 := by omega
      obtain rfl := ha.resolve_left (by omega)
      have hone := one_calls (some ⟨b, off + 6 * k, none⟩) (cap - 6 * k) (six zs k) wr (by rw [six_length]; omega) ((HB.out.grew HG.out).six k (by rw [HLEN.out]; omega))
      rw [six_length, HLEN.out] at hone
      obtain ⟨e, he⟩ : ∃ e, readE (six zs k) = e := ⟨_, rfl⟩
      rw [he] at hone
      have HE := Lib.hid he
      clear he
      obtain ⟨e1, e2, e3, e4, e5, e6⟩ := e
      have hs0 := HG.out.size
      generalize hjk : 6 * k = j at *
      have HJ := Lib.hid hjk; clear hjk
      have q1 : ((j : Int) + 6).toNat - j = 6 := by omega
      have q2 : ((len : Int)).toNat - j = len - j := by omega
      by_cases h6 : 6 ≤ len - j
      · rw [Nat.min_eq_left h6] at hone
        have HO := Lib.hid hone
        clear hone
        go_wp2_with fail
        refine HO.out.mono ?_
        rintro e w5 ⟨rfl, hg5⟩
        simp only [Ent.val]
        have HR5 := Lib.hid (row_only HR.out hg5 (fun _ _ x => x))
        have HG5 := Lib.hid (Only.trans HG.out hg5)
        have hs5 := hg5.size
        clear hg5
        go_wp2_with (
          at_builtin
          refine wpList_append_own _ rfl (.tmp 20) (.tmp 26) 26 rfl w.heap.size 32 i0 _ 6 48 Try.underlying26 INF.out.1 INF.out.2.1 INF.out.2.2.1 INF.out.2.2.2 rfl (by decide) _ k _ rfl (row_only HR5.out ((Only.refl (fun _ => False) w5).alloc _) (fun _ _ x => x)) ⟨w5.heap.size, 0, none⟩ 1 1 (Ent.cells ⟨e1, e2, e3, e4, e5, e6⟩) rfl rfl (cells_new _ _ _ _ rfl) (by simp [Ent.cells, Value.oneCell']) (by unfold maxLen; omega) (by omega) (by simp; omega) ?_
          intro vi6 w6 hown' hgrow _
          have GN6 := Lib.hid (Only.of_new (Only.trans ((Only.refl (fun j => w.heap.size ≤ j) w5).alloc _) ((Only.of_grownBy hgrow).mono (fun j _ e => row_block HR5.out e))) HG5.out (fun i h => h))
          have OWN := Lib.hid hown'
          clear hgrow hown')
        go_roundw
        case rel =>
          refine ⟨k + 1, by omega, by have := HJ.out; congr 1; omega, ?_, GN6.out⟩
          rw [entsK_succ, cellsOf_snoc, HE.out]
          exact OWN.out
        case measure => simp [intOf]; omega
      · rw [Nat.min_eq_right (by omega)] at hone
        have HO := Lib.hid hone
        clear hone
        go_wp2_with fail
        refine HO.out.mono ?_
        rintro e w5 ⟨rfl, hg5⟩
        simp only [Ent.val]
        have HR5 := Lib.hid (row_only HR.out hg5 (fun _ _ x => x))
        have HG5 := Lib.hid (Only.trans HG.out hg5)
        have hs5 := hg5.size
        clear hg5
        go_wp2_with (
          at_builtin
          refine wpList_append_own _ rfl (.tmp 20) (.tmp 26) 26 rfl w.heap.size 32 i0 _ 6 48 Try.underlying26 INF.out.1 INF.out.2.1 INF.out.2.2.1 INF.out.2.2.2 rfl (by decide) _ k _ rfl (row_only HR5.out ((Only.refl (fun _ => False) w5).alloc _) (fun _ _ x => x)) ⟨w5.heap.size, 0, none⟩ 1 1 (Ent.cells ⟨e1, e2, e3, e4, e5, e6⟩) rfl rfl (cells_new _ _ _ _ rfl) (by simp [Ent.cells, Value.oneCell']) (by unfold maxLen; omega) (by omega) (by simp; omega) ?_
          intro vi6 w6 hown' hgrow _
          have GN6 := Lib.hid (Only.of_new (Only.trans ((Only.refl (fun j => w.heap.size ≤ j) w5).alloc _) ((Only.of_grownBy hgrow).mono (fun j _ e => row_block HR5.out e))) HG5.out (fun i h => h))
          have OWN := Lib.hid hown'
          clear hgrow hown')
        go_roundw
        case rel =>
          refine ⟨k + 1, by omega, by have := HJ.out; congr 1; omega, ?_, GN6.out⟩
          rw [entsK_succ, cellsOf_snoc, HE.out]
          exact OWN.out
        case measure => simp [intOf]; omega
    · have hk' : k = chunkN len := by omega
      subst hk'
      have hge : ¬ 6 * chunkN len < len := by unfold chunkN; omega
      have HLEN' := HLEN.out
      generalize hjk : 6 * chunkN len = j at *
      clear hjk
      go_wp2
      go_ret
      refine ⟨_, rfl, ?_, HG.out⟩
      rw [entsK_length]
      exact HR.out
end Go.Proofs.Ytnemggminanbbaa
