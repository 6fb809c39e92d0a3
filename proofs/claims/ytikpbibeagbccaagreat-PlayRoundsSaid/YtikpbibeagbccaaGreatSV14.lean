import Derived.Test.YtikpbibeagbccaaGreatSV12
import Derived.RangeFuncNested
import Derived.RangeFuncBound
import Derived.RangeFuncCalls
import Derived.RangeFuncLeaves
import Derived.Shelf.Abstract
import Derived.Shelf.RegionOpen
import Derived.OwnWalkIn
import Derived.TacticsInMore
import Derived.LoopNIn
import Derived.LoopIn
import Derived.Deep.DeepMust
import Derived.Maps.AppendAt
set_option maxRecDepth 100000
set_option maxHeartbeats 4000000
namespace Go.Proofs.YtikpbibeagbccaaGreat
set_option linter.unusedVariables false
set_option linter.unusedSimpArgs false
open Go.Proofs.Tryz
section
open Go.RowKit Go.Shelf
attribute [local go_sem] Oper.semAt_some
def qfn (b off len k:Nat):Value:=.slice (some ⟨b,off+6*k,none⟩) (min 6 (len - 6*k)) (min 6 (len - 6*k))
def Xq (len:Nat):Nat:=(len+5) / 6
theorem qp9 (a:Option Addr) (Bs Bn b off len cap:Nat) (ha:len=0∨a=some ⟨b,off,none⟩) (hl:len≤1000000) (hcap:len≤cap) (hc:cap≤9223372036854775807) (W:World) :
 q3r prog 98 #[.pointer (some ⟨Bs,0,none⟩),.pointer (some ⟨Bn,0,none⟩)] 0 (Xq len) (fun k=>#[qfn b off len k])
  (fun _ W'=>W'.cell? ⟨Bs,0,none⟩=some (.slice a len cap)∧W'.cell? ⟨Bn,0,none⟩=some (.int .i64 6)) W:=by
 intro l J Jx hJ hJx hT hY h0;refine (callsIn_wide (n:=9)).1 (callsIn_of_wp func98 rfl trivial ?_ rfl)
 simp only [ntmps98,List.size_toArray,List.length_cons,List.length_nil,Nat.reduceAdd,Nat.reduceSub,Array.replicate_succ,Array.replicate_zero,List.push_toArray,List.append_toArray,List.nil_append,List.cons_append];gi_wp2
 gi_loopw [4] (fun i wr=>∃ k:Nat,k≤Xq len∧i=.int .i64 ↑(6*k)∧J k wr∧W.heap.size≤wr.heap.size) (fun i _=>len+6 - (intOf i).toNat)
 case atStart=>exact ⟨0,Nat.zero_le _,rfl,h0,Nat.le_refl _⟩
 case round =>
  obtain ⟨k,hk,rfl,hj,hz⟩:=hrel;obtain ⟨t1,t2⟩:=hT k wr hk hj;by_cases hlt:k<Xq len
  ·have hlt':6*k<len:=by unfold Xq at hlt;omega
   obtain rfl:=ha.resolve_left (by omega);obtain ⟨fn,tmps,assign,body,hy,hR⟩:=X0 (n:=8) (hY k hlt wr.drew (hJ k _ _ hj hz (Xg.refl _ _).drew) (by rw [size_drew];omega));generalize hjk:6*k=j at *;have HJ:=Lib.hid hjk;clear hjk;have e1:((j:Int)+6).toNat - j=6:=by omega
   have e2:((j:Int)+((len - j:Nat):Int)).toNat - j=len - j:=by omega
   by_cases h6:6≤len - j
   ·have hv:qfn b off len k=.slice (some ⟨b,off+j,none⟩) 6 6:=by unfold qfn;rw [HJ.out,Nat.min_eq_left h6]
    rw [hv] at hy;have HV:=Lib.hid hv;clear hv;gi_wp2
    gi_region
    all_goals gi_wp2
    refine hR.mono ?_
    rintro e W' ⟨hkw,⟨rfl,hj'⟩ | ⟨rfl,hj'⟩⟩
    ·obtain ⟨s1,s2⟩:=hT (k+1) W' (by omega) hj'
     have hz':=hkw.size;rw [size_drew] at hz';clear hy hR t1 t2;gi_wp2
     go_roundw
     case rel=>exact ⟨k+1,by omega,by have:=HJ.out;congr 1;omega,hj',by omega⟩
     case measure=>simp [intOf];omega
    ·gi_wp2
     refine bodyPost_ret (results_none rfl _ _ _) rfl ?_
     exact ⟨⟨_,rfl⟩,.inr ⟨k,hlt,hj'⟩⟩
   ·have hv:qfn b off len k=.slice (some ⟨b,off+j,none⟩) (len - j) (len - j):=by unfold qfn;rw [HJ.out,Nat.min_eq_right (by omega)]
    rw [hv] at hy;have HV:=Lib.hid hv;clear hv;gi_wp2
    gi_region
    all_goals gi_wp2
    refine hR.mono ?_
    rintro e W' ⟨hkw,⟨rfl,hj'⟩ | ⟨rfl,hj'⟩⟩
    ·obtain ⟨s1,s2⟩:=hT (k+1) W' (by omega) hj'
     have hz':=hkw.size;rw [size_drew] at hz';clear hy hR t1 t2;gi_wp2
     go_roundw
     case rel=>exact ⟨k+1,by omega,by have:=HJ.out;congr 1;omega,hj',by omega⟩
     case measure=>simp [intOf];omega
    ·gi_wp2
     refine bodyPost_ret (results_none rfl _ _ _) rfl ?_
     exact ⟨⟨_,rfl⟩,.inr ⟨k,hlt,hj'⟩⟩
  ·have hk':k=Xq len:=by omega
   have hge:¬ 6*k<len:=by unfold Xq at hk';omega
   generalize hjk:6*k=j at *;clear hjk;gi_wp2
   go_end0
   exact ⟨⟨_,rfl⟩,.inl (hk' ▸ hj)⟩
theorem qmt (s:Value) (w:World) (hs:∃ a len cap,s=.slice a len cap) :
 Calls prog 73 #[s,.int .i64 6] w fun e w'=>e=.returned (.func (.func 98) #[] #[.pointer (some ⟨w.heap.size,0,none⟩),.pointer (some ⟨w.heap.size+1,0,none⟩)]) ∧
  w'=(w.alloc (.cells #[s] 54)).alloc (.cells #[.int .i64 6] 3):=by
 obtain ⟨a,len,cap,rfl⟩:=hs;go_enter func73,ntmps73
 go_wp2
 go_ret
 exact ⟨rfl,rfl⟩
end
section
open Go.RowKit Go.Shelf
attribute [local go_sem] Oper.semAt_some
def six (zs:List Int) (k:Nat):List Int:=(zs.drop (6*k)).take 6
theorem qbb (zs:List Int) (k:Nat):(six zs k).length=min 6 (zs.length - 6*k):=by simp [six]
theorem qv4 (zs:List Int) (k i:Nat) (hi:i<(six zs k).length):(six zs k).getD i 0=zs.getD (6*k+i) 0:=by
 rw [qbb] at hi;simp only [six,List.getD_eq_getElem?_getD,List.getElem?_take,List.getElem?_drop];rw [if_pos (by omega)]
theorem Bytes.six {W:World} {b off:Nat} {zs:List Int} (h:Bytes W (some ⟨b,off,none⟩) zs) (k:Nat) (hk:6*k<zs.length):Bytes W (some ⟨b,off+6*k,none⟩) (six zs k):=by
 refine ⟨fun x hx=>h.1 x (List.mem_of_mem_drop (List.mem_of_mem_take hx)),.inr ?_⟩
 rcases h.2 with rfl | ⟨b',off',he,hb,hc⟩
 ·simp at hk
 ·cases he
  refine ⟨b,off+6*k,rfl,hb,fun i hi=>?_⟩
  rw [qv4 zs k i hi];have:=qbb zs k;rw [Nat.add_assoc];exact hc _ (by omega)
theorem qwx (a:Option Addr) (Bb cap:Nat) (zs:List Int) (hl:zs.length≤1000000) (hcap:zs.length≤cap) (hc:cap≤9223372036854775807) (W:World) :
 q3r prog 72 #[.pointer (some ⟨Bb,0,none⟩)] 6 (Xq zs.length) (fun k=>#[.int .i64 k,(Y4 (six zs k)).val])
  (fun _ W'=>W'.cell? ⟨Bb,0,none⟩=some (.slice a zs.length cap)∧Bb<W.heap.size∧Bytes W' a zs) W:=by
 intro l J Jx hJ hJx hT hY h0;refine Qu func72 rfl ?_
 simp only [ntmps72,List.size_toArray,List.length_cons,List.length_nil,Nat.reduceAdd,Nat.reduceSub,Array.replicate_succ,Array.replicate_zero,List.push_toArray,List.append_toArray,List.nil_append,List.cons_append];obtain ⟨t1,t2,t3⟩:=hT 0 W (Nat.zero_le _) h0;have t2':Bb<W.heap.size+1:=by omega
 have HT:=Lib.hid hT;have HY:=Lib.hid hY;have H0:=Lib.hid h0;have T3:=Lib.hid t3;clear hT hY h0 t3;go_wp2_with (go_at_call 73;refine (qmt _ _ ⟨_,_,_,rfl⟩).mono ?_;rintro e w' ⟨rfl,rfl⟩)
 obtain ⟨b,off,ha⟩:∃ b off,zs.length=0∨a=some ⟨b,off,none⟩:=by
  rcases T3.out.2 with h | ⟨b,off,h,_⟩
  ·exact ⟨0,0,.inl (by rw [h];rfl)⟩
  ·exact ⟨b,off,.inr h⟩
 refine qhl rfl (enters_of func98 (by kernel_rfl) rfl) 0 (Xq zs.length) (fun k=>#[qfn b off zs.length k])
  (fun _ W'=>W'.cell? ⟨W.heap.size+1+1,0,none⟩=some (.slice a zs.length cap)∧W'.cell? ⟨W.heap.size+1+1+1,0,none⟩=some (.int .i64 6)) ?hit (fun _ _=>rfl)
  (fun k W'=>J k W'∧W'.heap[W.heap.size]?=some (.cells #[.func (.yield l) #[] #[]] 146 (0,0))∧W'.heap[W.heap.size+1]?=some (.cells #[.int .i64 k] 3 (0,0)) ∧
    W'.heap[W.heap.size+1+1]?=some (.cells #[.slice a zs.length cap] 54 (0,0))∧W'.heap[W.heap.size+1+1+1]?=some (.cells #[.int .i64 6] 3 (0,0)))
  (fun k cd W'=>cd=.ret∧Jx k W') ?hI ?hIx ?hT ?h0 ?hbody ?hdone ?hstop
 case hit=>exact fun W1 _ _=>qp9 a _ _ b off _ cap ha hl hcap hc W1
 case hI =>
  rintro k A B ⟨hj,h1,h2,h3,h4⟩ hle ho;simp only [World.size_alloc] at hle ho;refine ⟨hJ k A B hj (by omega) (ho.mono (fun i _ h=>⟨by have:=h.1;omega,by have:=h.2;omega⟩)),?_,?_,?_,?_⟩
  ·exact (ho.block _ (by omega) (fun h=>by have:=h.1;omega)).trans h1
  ·exact (ho.block _ (by omega) (fun h=>by have:=h.1;omega)).trans h2
  ·exact (ho.block _ (by omega) (fun h=>by have:=h.1;omega)).trans h3
  ·exact (ho.block _ (by omega) (fun h=>by have:=h.1;omega)).trans h4
 case hIx =>
  rintro cd k A B ⟨hcd,hj⟩ hle ho;simp only [World.size_alloc] at hle ho;exact ⟨hcd,hJx k A B hj (by omega) (ho.mono (fun i _ h=>⟨by have:=h.1;omega,by have:=h.2;omega⟩))⟩
 case hT =>
  rintro k A hk ⟨hj,h1,h2,h3,h4⟩;exact ⟨by rw [Qj h3];rfl,by rw [Qj h4];rfl⟩
 case h0 =>
  refine ⟨hJ 0 _ _ H0.out (Nat.le_refl _) ((((Xg.refl _ W).alloc _).alloc _).alloc _ |>.alloc _),?_,?_,?_,?_⟩
  ·exact alloc_old (alloc_old (alloc_old (Xk _ rfl) _) _) _
  ·exact alloc_old (alloc_old (Xk _ (by simp)) _) _
  ·exact alloc_old (Xk _ (by simp)) _
  ·exact Xk _ (by simp)
 case hdone =>
  rintro W' ⟨hj,_⟩ hK;simp only [World.size_alloc] at hK ⊢;have hlt:=(Array.getElem?_eq_some_iff.1 hK).1;refine qiy hK (results_none rfl _ _ _) ⟨⟨_,rfl⟩,.inl ?_⟩
  exact hJ _ _ _ hj (by omega) ((Xg.refl _ W').putObj _ (.inl ⟨by omega,by omega⟩) _)
 case hstop =>
  rintro k cd W' hk ⟨rfl,hj⟩ hK;simp only [World.size_alloc] at hK ⊢;have hlt:=(Array.getElem?_eq_some_iff.1 hK).1;refine wp_ret (Xs hK (results_none rfl _ _ _) ⟨⟨_,rfl⟩,.inr ⟨k,hk,?_⟩⟩)
  exact hJx _ _ _ hj (by omega) ((Xg.refl _ W').putObj _ (.inl ⟨by omega,by omega⟩) _)
 case hbody =>
  rintro k hk A ⟨hj,h1,h2,h3,h4⟩ hz hrec;simp only [World.size_alloc] at hz hrec ⊢;refine Q1 (n:=9) ?_
  gi_wp2
  refine ⟨Q3.refl _ _ _,fun Wb hb hbz hrb=>?_⟩
  clear hrec;have k1:=hb.blk h1 (by omega);have k2:=hb.blk h2 (by omega);have k3:=hb.blk h3 (by omega);have k4:=hb.blk h4 (by omega);have hjb:J k Wb:=hJ k A Wb hj (by omega) (hb.mono (fun i _ h=>⟨by omega,by omega⟩));have c1:=Qj k1;have c2:=Qj k2;have hk6:6*k<zs.length:=by unfold Xq at hk;omega
  obtain rfl:=ha.resolve_left (by omega);have hby:=((HT.out k Wb (by omega) hjb).2.2).six k hk6;have hrd:=fun (w2:World) (h:Bytes w2 (some ⟨b,off+6*k,none⟩) (six zs k))=>qqv (some ⟨b,off+6*k,none⟩) (min 6 (zs.length - 6*k)) (six zs k) w2 (by rw [qbb];omega) h
  rw [qbb] at hrd;have hv:qfn b off zs.length k=.slice (some ⟨b,off+6*k,none⟩) (min 6 (zs.length - 6*k)) (min 6 (zs.length - 6*k)):=rfl;have HRD:=Lib.hid hrd;clear hrd;have HBY:=Lib.hid hby;clear hby;have HJ:=Lib.hid hJ;have HJB:=Lib.hid hjb;clear hj hjb ha;have hmix:prog.follows .mixedOrders=true:=by kernel_rfl
  rw [hv];refine Q1 (n:=9) ?_
  gi_wp2
  gi_region_with_o (first
   | (refine ⟨trivial,?_⟩;gi_at_call 74;refine (Zj (HRD.out _ (HBY.out.grew (by exact (Xg.refl _ _).drew)))).mono ?_
      rintro e w1 ⟨rfl,hg⟩;have hg':=Xg.trans (Xg.drew (Xg.refl _ Wb)) hg;have d1:=Qj (hg'.blk k1 (fun x=>x));have d2:=Qj (hg'.blk k2 (fun x=>x));have hsz1:=hg'.size;have hj1:=HJ.out k Wb w1 HJB.out (by omega) (hg'.mono (fun _ _ x=>x.elim));have HJ1:=Lib.hid hj1;obtain ⟨fn',tmps',as',bd',hy,hR⟩:=qlt (l₀:=W.heap.size+1+1+1+1+1) (n:=8) (HY.out k hk w1 hj1 (by omega));have HG:=Lib.hid hg'
      clear hj1 hg hg')
   | ((with_reducible refine (RoundIn.both hR).mono ?_)
      rintro e W2 ⟨bv,rfl,HB2⟩))
  all_goals
   obtain ⟨hkw,hA,hB⟩:=HB2.out;have hz2:=hkw.size;have hgg:=HG.out;have m1:=(hkw.block _ (by omega) (by omega)).trans (hgg.blk k1 (fun x=>x));have m2:=(hkw.block _ (by omega) (by omega)).trans (hgg.blk k2 (fun x=>x));have m3:=(hkw.block _ (by omega) (by omega)).trans (hgg.blk k3 (fun x=>x));have m4:=(hkw.block _ (by omega) (by omega)).trans (hgg.blk k4 (fun x=>x));have hkk:Q3 (W.heap.size+1+1+1+1) (2+0) Wb W2:=(Q3.of_only hgg (by omega) (fun _ _ _ x=>x)).trans (hkw.mono (by omega) (by omega));have HKK:=Lib.hid hkk;have HA:=Lib.hid hA;have HB:=Lib.hid hB;have M:=Lib.hid (And.intro m1 (And.intro m2 (And.intro m3 m4)));have n2:=Qj m2;have n2f:=Qt m2;clear hkk hA hB hgg m1 m2 m3 m4 hkw HB2 hy hR c1 c2 k1 k2 k3 k4 d1 d2 HRD;cases bv
   ·have HX:=Lib.hid (HB.out rfl)
    clear HA HB;gi_wp2
    exact ⟨HKK.out,rfl,HX.out⟩
   ·have HX:=Lib.hid (HA.out rfl)
    clear HA HB;gi_wp2
    refine ⟨HKK.out.trans (Q3.of_only (Xg.setCell (S:=fun j=>j=W.heap.size+1) (Xg.refl _ _) _ (.inl rfl) _) (by omega) (fun j h1 h2 h=>by omega)),?_,?_,?_,?_,?_⟩
    ·exact HJ.out _ W2 _ HX.out (by omega) (Xg.setCell (Xg.refl _ _) _ (.inl ⟨by simp,by simp⟩) _)
    ·exact qe2 M.out.1 (by omega) _
    ·exact qxt M.out.2.1 _
    ·exact qe2 M.out.2.2.1 (by omega) _
    ·exact qe2 M.out.2.2.2 (by omega) _
end
section
open Go.RowKit Go.Shelf
attribute [local go_sem] Oper.semAt_some
end
end Go.Proofs.YtikpbibeagbccaaGreat
