import Derived.Test.YtikpbibeagbccaaGreatSV40
import Derived.Test.YtikpbibeagbccaaGreatSV14
import Derived.Test.YtikpbibeagbccaaGreatSV7
set_option maxRecDepth 100000
set_option maxHeartbeats 4000000
namespace Go.Proofs.YtikpbibeagbccaaGreat
set_option linter.unusedVariables false
set_option linter.unusedSimpArgs false
open Go.Proofs.Tryz
section
open Go.RowKit Go.Shelf
def Ent.call (e:Ent):Qs:=⟨e.c,e.i,e.d,e.p⟩
def Ent.nn (e:Ent):Prop:=0≤e.i∧0≤e.d∧0≤e.p
def PlS.doE (P:PlS) (e:Ent):PlS :=
 if e.ok=false then P else if e.k=1 then P.call e.n e.call else if e.k=2 then P.pick e.n else if e.k=3 then P.step e.n.toNat else if e.k=4 then PlS.rounds e.n.toNat P else P
theorem qtv (S:SvS) (th:Int) (c:Qs):(S.callS 0 th c).own.length=S.own.length∧(S.callS 0 th c).crew.length=S.crew.length:=by
 unfold SvS.callS;split
 ·exact ⟨List.length_set,rfl⟩
 ·exact ⟨rfl,rfl⟩
theorem qod (P:PlS) (th:Int) (c:Qs):(P.call th c).thr=P.thr:=by
 obtain ⟨h1,h2⟩:=qtv P.S th c
 show ((P.S.callS 0 th c).own.length+(P.S.callS 0 th c).crew.length)=_
 rw [h1,h2];rfl
theorem qs3 (S:SvS) (k:Int):(S.pickS k).1.own.length=S.own.length∧(S.pickS k).1.crew.length=S.crew.length:=by
 unfold SvS.pickS;split
 ·exact ⟨rfl,rfl⟩
 ·obtain ⟨h1,h2⟩:=qkq S (S.pickAt k)
  exact ⟨by rw [h1],h2⟩
theorem qx4 (P:PlS) (k:Int):(P.pick k).thr=P.thr:=by
 obtain ⟨h1,h2⟩:=qs3 P.S k;unfold PlS.pick;split
 ·show ((P.S.pickS k).1.own.length+(P.S.pickS k).1.crew.length)=_
  rw [h1,h2];rfl
 ·show ((P.S.pickS k).1.own.length+(P.S.pickS k).1.crew.length)=_
  rw [h1,h2];rfl
theorem q28 (P:PlS) (e:Ent):(P.doE e).thr=P.thr:=by
 unfold PlS.doE;split
 ·rfl
 ·split
  ·exact qod _ _ _
  ·split
   ·exact qx4 _ _
   ·split
    ·exact qnp _ _
    ·split
     ·exact q8 _ _
     ·rfl
theorem qbs (k n c i d p:Int):Qa prog 36 #[.agg #[.int .i64 k,.int .i64 n,.int .i64 c,.int .u64 i,.int .u64 d,.int .u64 p]] [] fun e gs=>e=.returned (.bool (Ent.ok ⟨k,n,c,i,d,p⟩))∧gs=[] :=
 Qa.below fun w=>(Jm k n c i d p w).mono fun e w' h=>⟨h.1,h.2.below (fun _ _ h=>h.elim) (Nat.le_refl _)⟩
section
variable {N:Nat} {L:Lay} {pb sb:Nat} {P:PlS} {g:List Blk}
theorem q4d (S:SvS) (k:Int) (h:∀ t∈S.mays,t<1000000):∃ a:Nat,(S.pickS k).2.1=(a:Int)∧a<1000000:=by
 unfold SvS.pickS;split
 ·exact ⟨0,rfl,by omega⟩
 ·next h0=>exact ⟨S.pickAt k,rfl,h _ (qpk h0 k)⟩
theorem qti (h:Zl N L pb sb P g) (k n c i d p:Int) (ho:Ent.ok ⟨k,n,c,i,d,p⟩=false):Qa prog 26 #[Qb pb,(Ent.mk k n c i d p).val] [g] fun e gs=>e=.returned (.tuple #[])∧gs=[g]:=by
 have HOK:=Vh (qbs k n c i d p);have HG:=Vh h;refine GO fun w HT=>?_
 clear h;simp only [Ent.val];go_enter func26,ntmps26
 go_wp2_with fail
 have HT:=Vh (HT.out.alloc (k:=w.heap.size) rfl 56 #[.int .i64 k,.int .i64 n,.int .i64 c,.int .u64 i,.int .u64 d,.int .u64 p]);rw [ho] at HOK;go_wp2_with fail
 refine Qa.run (HOK.out) (HT.out) [] ?_
 rintro e w1 gs ⟨rfl,rfl⟩ HT;simp only [PU] at HT;go_wp2
 exact bodyPost_ret (results_none rfl _ _ _) rfl ⟨_,⟨rfl,rfl⟩,HT.out.pick [0] rfl⟩
theorem qkm (h:Zl N L pb sb P g) (k n c i d p:Int) (ho:Ent.ok ⟨k,n,c,i,d,p⟩=true) (h1:k≠1) (h2:k≠2) (h3:k≠3) (h4:k≠4):Qa prog 26 #[Qb pb,(Ent.mk k n c i d p).val] [g] fun e gs=>e=.returned (.tuple #[])∧gs=[g]:=by
 have q1:(k == 1)=false:=beq_eq_false_iff_ne.2 h1;have q2:(k == 2)=false:=beq_eq_false_iff_ne.2 h2;have q3:(k == 3)=false:=beq_eq_false_iff_ne.2 h3;have q4:(k == 4)=false:=beq_eq_false_iff_ne.2 h4;clear h1 h2 h3 h4;have HOK:=Vh (qbs k n c i d p);have HG:=Vh h;refine GO fun w HT=>?_
 clear h;simp only [Ent.val];go_enter func26,ntmps26
 go_wp2_with fail
 have HT:=Vh (HT.out.alloc (k:=w.heap.size) rfl 56 #[.int .i64 k,.int .i64 n,.int .i64 c,.int .u64 i,.int .u64 d,.int .u64 p]);rw [ho] at HOK;clear ho;go_wp2_with fail
 refine Qa.run (HOK.out) (HT.out) [] ?_
 rintro e w1 gs ⟨rfl,rfl⟩ HT;simp only [PU] at HT;obtain ⟨b0,b1,b2,b3,b4,b5⟩:=Ce6 (HT.out.cell 1 0 rfl) 0 1 2 3 4 5;simp only [GE4] at b0 b1 b2 b3 b4 b5;have ltb:=HT.out.lt 1 0 rfl;simp only [] at ltb;go_wp2
 exact bodyPost_end (results_none rfl _ _ _) rfl ⟨_,⟨rfl,rfl⟩,HT.out.pick [0] rfl⟩
theorem qte (h:Zl N L pb sb P g) (hN:N<999990) (n c i d p:Int) (ho:Ent.ok ⟨1,n,c,i,d,p⟩=true) (hw:Qs.wf ⟨c,i,d,p⟩):Qa prog 26 #[Qb pb,(Ent.mk 1 n c i d p).val] [g] fun e gs=>∃ g',e=.returned (.tuple #[])∧Zl (N+1) L pb sb (P.call n ⟨c,i,d,p⟩) g'∧gs=[g']:=by
 have hc:=qss h hN n ⟨c,i,d,p⟩ hw;simp only [Qs.cells] at hc;have HC:=Vh hc;clear hc hw;obtain ⟨k,hk⟩:∃ k:Int,k=1:=⟨1,rfl⟩;rw [← hk] at ho ⊢;have HK:=Vh hk;clear hk;have HOK:=Vh (qbs k n c i d p);have HG:=Vh h;refine GO fun w HT=>?_
 clear h;simp only [Ent.val];go_enter func26,ntmps26
 go_wp2_with fail
 have HT:=Vh (HT.out.alloc (k:=w.heap.size) rfl 56 #[.int .i64 k,.int .i64 n,.int .i64 c,.int .u64 i,.int .u64 d,.int .u64 p]);rw [ho] at HOK;clear ho;go_wp2_with fail
 refine Qa.run (HOK.out) (HT.out) [] ?_
 rintro e w1 gs ⟨rfl,rfl⟩ HT;simp only [PU] at HT;obtain ⟨b0,b1,b2,b3,b4,b5⟩:=Ce6 (HT.out.cell 1 0 rfl) 0 1 2 3 4 5;simp only [GE4] at b0 b1 b2 b3 b4 b5;have ltb:=HT.out.lt 1 0 rfl;simp only [] at ltb;have hk:=HK.out;subst hk;go_wp2_with fail
 refine Qa.run (HC.out) (HT.out) [0] ?_
 rintro e w1 gs ⟨g1,rfl,hp,rfl⟩ HT;simp only [PU] at HT;have HP:=Vh hp;clear hp b0 b1 b2 b3 b4 b5 ltb;go_wp2
 exact bodyPost_end (results_none rfl _ _ _) rfl ⟨_,⟨_,rfl,HP.out,rfl⟩,HT.out.pick [0] rfl⟩
theorem qki (h:Zl N L pb sb P g) (hN:N<999990) (m:Nat) (hm:m≤255) (c i d p:Int) (ho:Ent.ok ⟨3,m,c,i,d,p⟩=true):Qa prog 26 #[Qb pb,(Ent.mk 3 m c i d p).val] [g] fun e gs=>∃ g',e=.returned (.tuple #[])∧Zl (N+1) L pb sb (P.step m) g'∧gs=[g']:=by
 have HC:=Vh (qx9 h hN m (by omega));obtain ⟨k,hk⟩:∃ k:Int,k=3:=⟨3,rfl⟩;obtain ⟨n,hn⟩:∃ n:Int,n=m:=⟨m,rfl⟩;rw [← hk,← hn] at ho ⊢;rw [← hn] at HC;have HK:=Vh hk;clear hk hn;have HOK:=Vh (qbs k n c i d p);have HG:=Vh h;refine GO fun w HT=>?_
 clear h;simp only [Ent.val];go_enter func26,ntmps26
 go_wp2_with fail
 have HT:=Vh (HT.out.alloc (k:=w.heap.size) rfl 56 #[.int .i64 k,.int .i64 n,.int .i64 c,.int .u64 i,.int .u64 d,.int .u64 p]);rw [ho] at HOK;clear ho;go_wp2_with fail
 refine Qa.run (HOK.out) (HT.out) [] ?_
 rintro e w1 gs ⟨rfl,rfl⟩ HT;simp only [PU] at HT;obtain ⟨b0,b1,b2,b3,b4,b5⟩:=Ce6 (HT.out.cell 1 0 rfl) 0 1 2 3 4 5;simp only [GE4] at b0 b1 b2 b3 b4 b5;have ltb:=HT.out.lt 1 0 rfl;simp only [] at ltb;have hk:=HK.out;subst hk;go_wp2_with fail
 refine Qa.run (HC.out) (HT.out) [0] ?_
 rintro e w1 gs ⟨g1,rfl,hp,rfl⟩ HT;simp only [PU] at HT;have HP:=Vh hp;clear hp b0 b1 b2 b3 b4 b5 ltb;go_wp2
 exact bodyPost_end (results_none rfl _ _ _) rfl ⟨_,⟨_,rfl,HP.out,rfl⟩,HT.out.pick [0] rfl⟩
theorem zf (h:Zl N L pb sb P g) {T:Nat} (hT:P.thr≤T) (m:Nat) (hm:m≤255) (hN:N+m*T<999990) (c i d p:Int) (ho:Ent.ok ⟨4,m,c,i,d,p⟩=true):Qa prog 26 #[Qb pb,(Ent.mk 4 m c i d p).val] [g] fun e gs=>∃ g',e=.returned (.tuple #[])∧Zl (N+m*T) L pb sb (PlS.rounds m P) g'∧gs=[g']:=by
 have HC:=Vh (q18 h hT m (by omega) hN);obtain ⟨k,hk⟩:∃ k:Int,k=4:=⟨4,rfl⟩;obtain ⟨n,hn⟩:∃ n:Int,n=m:=⟨m,rfl⟩;rw [← hk,← hn] at ho ⊢;rw [← hn] at HC;have HK:=Vh hk;clear hk hn;have HOK:=Vh (qbs k n c i d p);have HG:=Vh h;refine GO fun w HT=>?_
 clear h;simp only [Ent.val];go_enter func26,ntmps26
 go_wp2_with fail
 have HT:=Vh (HT.out.alloc (k:=w.heap.size) rfl 56 #[.int .i64 k,.int .i64 n,.int .i64 c,.int .u64 i,.int .u64 d,.int .u64 p]);rw [ho] at HOK;clear ho;go_wp2_with fail
 refine Qa.run (HOK.out) (HT.out) [] ?_
 rintro e w1 gs ⟨rfl,rfl⟩ HT;simp only [PU] at HT;obtain ⟨b0,b1,b2,b3,b4,b5⟩:=Ce6 (HT.out.cell 1 0 rfl) 0 1 2 3 4 5;simp only [GE4] at b0 b1 b2 b3 b4 b5;have ltb:=HT.out.lt 1 0 rfl;simp only [] at ltb;have hk:=HK.out;subst hk;go_wp2_with fail
 refine Qa.run (HC.out) (HT.out) [0] ?_
 rintro e w1 gs ⟨g1,rfl,hp,rfl⟩ HT;simp only [PU] at HT;have HP:=Vh hp;clear hp b0 b1 b2 b3 b4 b5 ltb;go_wp2
 exact bodyPost_end (results_none rfl _ _ _) rfl ⟨_,⟨_,rfl,HP.out,rfl⟩,HT.out.pick [0] rfl⟩
theorem quv (h:Zl N L pb sb P g) (hN:N<999990) (n c i d p:Int) (ho:Ent.ok ⟨2,n,c,i,d,p⟩=true):Qa prog 26 #[Qb pb,(Ent.mk 2 n c i d p).val] [g] fun e gs=>∃ g',e=.returned (.tuple #[])∧Zl (N+1) L pb sb (P.pick n) g'∧gs=[g']:=by
 obtain ⟨a,ha,ha6⟩:=q4d P.S n (qjt h);obtain ⟨mb,gS,gM,hi,rfl⟩:=h;have HI:=Vh hi;have hpk:=q4l hi.sv (by omega) n;rw [ha] at hpk;have HPK:=Vh hpk;have HOK:=Vh (qbs 2 n c i d p);rw [ho] at HOK;refine GO fun w HT=>?_
 clear hi hpk ho;simp only [Ent.val];go_enter func26,ntmps26
 go_wp2_with fail
 have HT:=Vh ((HT.out.sum2 (H':=[plB pb sb mb P.cli P.steps P.lon,gS,gM])).alloc (k:=w.heap.size) rfl 56 #[.int .i64 2,.int .i64 n,.int .i64 c,.int .u64 i,.int .u64 d,.int .u64 p]);go_wp2_with fail
 refine Qa.run (HOK.out) (HT.out) [] ?_
 rintro e w1 gs ⟨rfl,rfl⟩ HT;simp only [PU] at HT;obtain ⟨b0,b1⟩:=Ce2 (HT.out.cell 3 0 rfl) 0 1;simp only [GE4] at b0 b1;have ltb:=HT.out.lt 3 0 rfl;have p0:=HT.out.cell 0 0 rfl 0;have ltp:=HT.out.lt 0 0 rfl;simp only [plB,GE2] at ltb p0 ltp;go_wp2_with fail
 refine Qc 6 (by kernel_rfl) (by kernel_rfl) ?_
 simp only [TD4]
 repeat (go_big_quiet_step ((fail)))
 refine wpQuiet_nil (QE fun nq=>?_)
 have HT:=Vh (HT.out.drewN nq);go_wp2_with fail
 refine Qa.run (HPK.out) (HT.out) [1] ?_
 rintro e w1 gs ⟨gS1,rfl,hs1,rfl⟩ HT;simp only [PU] at HT;by_cases hz:(P.S.pickS n).2.2=0
 ·have HP:=Vh (show P.pick n=({ P with S:=(P.S.pickS n).1 }:PlS).made a by unfold PlS.pick;rw [if_pos hz,ha,Int.toNat_natCast])
  have HMD:=Vh (qyu (pb:=pb) (P:={ P with S:=(P.S.pickS n).1 }) (mb:=mb) (gM:=gM) hs1 (by obtain ⟨n,m,z,h1,h2,h3⟩:=HI.out.mp;exact ⟨n,m,z,h1,h2,by omega⟩) (HI.out.pn.withS _) hN a ha6);rw [hz];clear hs1 hz b0 b1 ltb p0 ltp;go_wp2_with fail
  refine ⟨rfl,?_⟩
  go_wp2_with fail
  refine Qa.run (HMD.out) (HT.out) [0,1,2] ?_
  rintro e w1 gs ⟨mb2,gS2,gM2,rfl,hi2,rfl⟩ HT;simp only [PU] at HT;have HI2:=Vh hi2;clear hi2;go_wp2
  exact bodyPost_end (results_none rfl _ _ _) rfl ⟨_,⟨_,rfl,by rw [HP.out];exact ⟨mb2,gS2,gM2,HI2.out,rfl⟩,rfl⟩,((HT.out.pick [0,1,2] rfl).eq (H':=[plB pb sb mb2 (({ P with S:=(P.S.pickS n).1 }:PlS).made a).cli (({ P with S:=(P.S.pickS n).1 }:PlS).made a).steps (({ P with S:=(P.S.pickS n).1 }:PlS).made a).lon,gS2,gM2]) rfl).sum2⟩
 ·have HP:=Vh (show P.pick n={ P with S:=(P.S.pickS n).1 } from if_neg hz)
  have hb:((P.S.pickS n).2.2 == 0)=false:=beq_eq_false_iff_ne.2 hz;have HS1:=Vh hs1;clear hs1 hz b0 b1 ltb p0 ltp;go_wp2_with fail
  refine ⟨rfl,?_⟩
  go_wp2
  exact bodyPost_end (results_none rfl _ _ _) rfl ⟨_,⟨_,rfl,by rw [HP.out];exact ⟨mb,gS1,gM,⟨HS1.out,(by obtain ⟨n,m,z,h1,h2,h3⟩:=HI.out.mp;exact ⟨n,m,z,h1,h2,by omega⟩),(HI.out.pn.withS _).mono (Nat.le_succ _)⟩,rfl⟩,rfl⟩,(HT.out.pick [0,1,2] rfl).sum2⟩
theorem ok_n {e:Ent} (ho:e.ok=true) (h:e.k=3∨e.k=4):∃ m:Nat,e.n=(m:Int)∧m≤255:=by
 unfold Ent.ok at ho;rw [if_neg (by omega),if_neg (by omega)] at ho;simp only [Bool.and_eq_true,decide_eq_true_eq] at ho;exact ⟨e.n.toNat,by omega,by omega⟩
theorem q46 {e:Ent} (ho:e.ok=true) (hw:e.nn) (h:e.k=1):e.call.wf:=by
 unfold Ent.ok at ho;rw [if_neg (by omega),if_pos h] at ho;simp only [Bool.and_eq_true,decide_eq_true_eq] at ho;obtain ⟨w1,w2,w3⟩:=hw;exact ⟨⟨w1,by show e.i < _;omega⟩,⟨w2,by show e.d < _;omega⟩,⟨w3,by show e.p < _;omega⟩⟩
theorem plDo (h:Zl N L pb sb P g) {T:Nat} (hT:P.thr≤T) (hT1:1≤T) (e:Ent) (hw:e.nn) (hN:N+256*T<999990):Qa prog 26 #[Qb pb,e.val] [g] fun en gs=>∃ g',en=.returned (.tuple #[])∧Zl (N+256*T) L pb sb (P.doE e) g'∧gs=[g']:=by
 have same:∀ {f args},Qa prog f args [g] (fun en gs=>en=.returned (.tuple #[])∧gs=[g])→P.doE e=P→Qa prog f args [g] fun en gs=>∃ g',en=.returned (.tuple #[])∧Zl (N+256*T) L pb sb (P.doE e) g'∧gs=[g']:=by
  intro f args hd hp;refine hd.mono ?_
  rintro en gs ⟨rfl,rfl⟩;exact ⟨g,rfl,by rw [hp];exact h.mono (by omega),rfl⟩
 cases ho:e.ok with
 | false=>exact same (qti h e.k e.n e.c e.i e.d e.p ho) (if_pos ho)
 | true =>
   have hne:¬ (e.ok=false):=by rw [ho];decide
   by_cases h1:e.k=1
   ·have hd:=qte h (by omega) e.n e.c e.i e.d e.p (by rw [← h1];exact ho) (q46 ho hw h1)
    rw [← h1] at hd;refine hd.mono ?_
    rintro en gs ⟨g',rfl,hp,rfl⟩;exact ⟨g',rfl,by unfold PlS.doE;rw [if_neg hne,if_pos h1];exact hp.mono (by omega),rfl⟩
   ·by_cases h2:e.k=2
    ·have hd:=quv h (by omega) e.n e.c e.i e.d e.p (by rw [← h2];exact ho)
     rw [← h2] at hd;refine hd.mono ?_
     rintro en gs ⟨g',rfl,hp,rfl⟩;exact ⟨g',rfl,by unfold PlS.doE;rw [if_neg hne,if_neg h1,if_pos h2];exact hp.mono (by omega),rfl⟩
    ·by_cases h3:e.k=3
     ·obtain ⟨m,hm,hm5⟩:=ok_n ho (.inl h3)
      have hd:=qki h (by omega) m hm5 e.c e.i e.d e.p (by rw [← h3,← hm];exact ho);rw [← h3,← hm] at hd;refine hd.mono ?_
      rintro en gs ⟨g',rfl,hp,rfl⟩;exact ⟨g',rfl,by unfold PlS.doE;rw [if_neg hne,if_neg h1,if_neg h2,if_pos h3,hm,Int.toNat_natCast];exact hp.mono (by omega),rfl⟩
     ·by_cases h4:e.k=4
      ·obtain ⟨m,hm,hm5⟩:=ok_n ho (.inr h4)
       have hmT:m*T≤256*T:=Nat.mul_le_mul_right _ (by omega);have hd:=zf h hT m hm5 (by omega) e.c e.i e.d e.p (by rw [← h4,← hm];exact ho);rw [← h4,← hm] at hd;refine hd.mono ?_
       rintro en gs ⟨g',rfl,hp,rfl⟩;exact ⟨g',rfl,by unfold PlS.doE;rw [if_neg hne,if_neg h1,if_neg h2,if_neg h3,if_pos h4,hm,Int.toNat_natCast];exact hp.mono (by omega),rfl⟩
      ·exact same (qkm h e.k e.n e.c e.i e.d e.p ho h1 h2 h3 h4) (by unfold PlS.doE;rw [if_neg hne,if_neg h1,if_neg h2,if_neg h3,if_neg h4])
end
end
section
open Go.RowKit Go.Shelf
attribute [local go_sem] Oper.semAt_some
def qco (w:World) (a:Option Addr) (zs:List Int) (g:List Blk):Prop:=Bytes w a zs∧(zs=[]∨∀ b off,a=some ⟨b,off,none⟩→∀ p∈g,p.1≠b)
theorem qco.later {w w':World} {a:Option Addr} {zs:List Int} {g:List Blk} {H:GH} (h:qco w a zs g) (T:TG [g] w H w'):Bytes w' a zs:=by
 have T':Qg _ _ _ _:=T;obtain ⟨⟨h1,h2⟩,hd⟩:=h;rcases hd with hd | hd
 ·exact ⟨h1,.inl hd⟩
 refine ⟨h1,h2.imp id ?_⟩
 rintro ⟨b,off,rfl,hb,hc⟩
 have hn:¬ b∈keys (ex ([g]:GH).flatten):=by
  intro hm;rw [qtp] at hm;obtain ⟨p,hp,he⟩:=List.mem_map.1 hm;simp only [List.flatten_cons,List.flatten_nil,List.append_nil] at hp;exact hd b off rfl p hp he
 have hbk:=T'.only.block b hb hn;exact ⟨b,off,rfl,Nat.lt_of_lt_of_le hb T'.only.size,fun i hi=>(World.cell?_of_block hbk).trans (hc i hi)⟩
theorem J6 {P:Program} {f:FuncId} {args:Array Value} {gs h H:GH} {R:Ending→GH→Prop} {w w1:World} (hd:Calls P f args w1 fun e w'=>∃ gs',R e gs'∧TG gs w1 gs' w') (T:TG h w H w1) (is:List Nat) (hp:z9 H is=gs) (hf:qdb H is=true) :
 Calls P f args w1 fun e w2=>∃ gs',R e gs'∧TG h w (qc9 H is gs') w2:=by
 subst hp;have T1:Qg _ _ _ _:=Qg.perm T (Yk (qeo hf));rw [Za] at T1;refine hd.mono ?_
 rintro e w2 ⟨gs',hr,ht⟩;refine ⟨gs',hr,?_⟩
 have ht':Qg _ _ _ _:=ht;have:=T1.trans (ht'.frame T1.has);rw [← Za] at this;exact Qg.perm this (Yk (qn5 hf).symm)
theorem TG.win {h H:GH} {w A B:World} {lo c:Nat} (T:TG h w H A) (ho:Xg (Win lo c) A B) (hlo:w.heap.size≤lo) (hk:∀ p∈H.flatten,¬ Win lo c p.1):TG h w H B:=by
 have T':Qg _ _ _ _:=T;refine ⟨⟨T'.has.nodup,fun p hp=>?_⟩,T'.only.trans' ho (fun k hk1 hk2=>absurd hk2.1 (by omega)),T'.news⟩
 obtain ⟨o,h1,h2⟩:=T'.has.holds p hp;obtain ⟨q,hq,rfl⟩:=List.mem_map.1 hp;exact ⟨o,ho.blk h1 (hk q hq),h2⟩
theorem qy3 {H H':GH} {A B:World} {lo c:Nat} (T:TG H A H' B) (hk:∀ p∈H.flatten,¬ Win lo c p.1) (hA:lo+c≤A.heap.size):∀ p∈H'.flatten,¬ Win lo c p.1:=by
 have T':Qg _ _ _ _:=T;intro p hp hw;rcases T'.news p.1 (List.mem_map.2 ⟨(p.1,(·=p.2)),List.mem_map.2 ⟨p,hp,rfl⟩,rfl⟩) with h1 | h1
 ·obtain ⟨q,hq,he⟩:=List.mem_map.1 h1
  obtain ⟨r,hr,rfl⟩:=List.mem_map.1 hq;exact hk r hr (by rw [show r.1=p.1 from he];exact hw)
 ·have:=hw.2
  omega
theorem qum {h H:GH} {w w':World} (T:TG h w H w') (c:Nat):∀ p∈H.flatten,¬ Win w'.heap.size c p.1:=by
 intro p hp hw;have T':Qg _ _ _ _:=T;have:=T'.has.lt (List.mem_map.2 ⟨(p.1,(·=p.2)),List.mem_map.2 ⟨p,hp,rfl⟩,rfl⟩:p.1∈keys (ex H.flatten));have:=hw.1;omega
theorem TG.keptW {H H':GH} {A B:World} {lo c:Nat} (T:TG H A H' B) (hk:∀ p∈H.flatten,¬ Win lo c p.1) (hA:lo+c≤A.heap.size):Q3 lo c A B:=by
 have T':Qg _ _ _ _:=T;refine Q3.of_only T'.only hA (fun k h1 h2 hm=>?_)
 obtain ⟨q,hq,he⟩:=List.mem_map.1 hm;obtain ⟨r,hr,rfl⟩:=List.mem_map.1 hq;exact hk r hr (by rw [show r.1=k from he];exact ⟨h1,h2⟩)
theorem TG.size {h H:GH} {w w':World} (T:TG h w H w'):w.heap.size≤w'.heap.size:=by
 have T':Qg _ _ _ _:=T;exact T'.only.size
theorem quj {lo c lo' c' k:Nat} (h:¬ Win lo c k) (h1:lo≤lo') (h2:lo'+c'≤lo+c):¬ Win lo' c' k:=fun hw=>h ⟨by have:=hw.1;omega,by have:=hw.2;omega⟩
theorem qxs (zs:List Int) (h:∀ x∈zs,0≤x∧x≤255):(Y4 zs).nn:=by
 have hg:∀ i,0≤zs.getD i 0:=fun i=>by
  rw [List.getD_eq_getElem?_getD];cases hi:zs[i]? with
  | none=>exact Int.le_refl 0
  | some x=>exact (h x (List.mem_of_getElem? hi)).1
 have hz:Ent.zero.nn:=⟨Int.le_refl 0,Int.le_refl 0,Int.le_refl 0⟩;unfold Y4;split
 ·exact hz
 ·split
  ·unfold qrt
   split
   ·exact ⟨hg 3,hg 4,hg 5⟩
   ·exact ⟨Int.le_refl 0,Int.le_refl 0,Int.le_refl 0⟩
  ·exact hz
def qat (zs:List Int) (k:Nat):List Ent:=(List.range k).map fun j=>Y4 (six zs j)
theorem qq4 (zs:List Int) (k:Nat):qat zs (k+1)=qat zs k++[Y4 (six zs k)]:=by simp [qat,List.range_succ]
def PlS.runE (P:PlS) (l:List Ent):PlS:=l.foldl PlS.doE P
theorem qt3 (P:PlS) (l:List Ent) (e:Ent):P.runE (l++[e])=(P.runE l).doE e:=by unfold PlS.runE;rw [List.foldl_append];rfl
theorem qi1:∀ (l:List Ent) (P:PlS),(P.runE l).thr=P.thr
 | [],_=>rfl
 | e::l,P=>by
   show ((P.doE e).runE l).thr=_
   rw [qi1 l,q28]
section
variable {N:Nat} {L:Lay} {pb sb:Nat} {P:PlS} {g gB:List Blk}
theorem qxr (a:Option Addr) (len cap:Nat):Qa prog 54 #[.slice a len cap] [] fun e gs=>∃ bx,e=.returned (.func (.func 72) #[] #[Qb bx])∧gs=[[cl bx 54 #[.slice a len cap]]]:=by
 refine GO fun w HT=>?_
 go_enter func54,ntmps54
 go_wp2
 go_ret
 exact ⟨_,⟨_,rfl,rfl⟩,HT.out.alloc rfl _ _⟩
theorem qnj (h:Zl N L pb sb P g) {T:Nat} (hT:P.thr≤T) (hT1:1≤T) {a:Option Addr} {zs:List Int} {w:World} (hw:Jj [g] w) (hb:qco w a zs g) (hl:zs.length≤1000000) {cap:Nat} (hcap:zs.length≤cap) (hc:cap≤9223372036854775807) (hN:N+Xq zs.length*(256*T)<999990) :
 Calls prog 28 #[Qb pb,.slice a zs.length cap] w fun e w'=>∃ gs',(∃ g',e=.returned (.int .i64 (Xq zs.length))∧Zl (N+Xq zs.length*(256*T)) L pb sb (P.runE (qat zs (Xq zs.length))) g'∧gs'=[g'])∧TG [g] w gs' w':=by
 have eg:=enters_of func72 (P:=prog) (by kernel_rfl) rfl;have HG:=Vh h;have HB:=Vh hb;have hch:Xq zs.length≤1000000:=by unfold Xq;omega
 have HT:=Vh (TG.refl hw);clear h hb hw;refine Qu func28 rfl ?_
 simp only [ntmps28,List.size_toArray,List.length_cons,List.length_nil,Nat.reduceAdd,Nat.reduceSub,Array.replicate_succ,Array.replicate_zero,List.push_toArray,List.append_toArray,List.nil_append,List.cons_append];go_wp2_with fail
 obtain ⟨qb,hqb⟩:∃ qb,w.heap.size=qb:=⟨_,rfl⟩;have HT:=Vh ((HT.out.alloc (k:=qb) hqb.symm 55 #[Qb pb]).alloc (k:=qb+1) (by simp [hqb]) 3 #[.int .i64 0]);rw [hqb];go_wp2_with fail
 refine Qa.run (qxr a zs.length cap) (HT.out) [] ?_
 rintro e w1 gs ⟨bx,rfl,rfl⟩ HT;simp only [PU] at HT;have HT:=Vh (HT.out.eq (H':=[g,[cl qb 55 #[Qb pb]],[cl (qb+1) 3 #[.int .i64 0]],[cl bx 54 #[.slice a zs.length cap]]]) rfl);have hsz:=HT.out.size;have hbx:=HT.out.lt 3 0 rfl;have hW:=qum HT.out (2+6);simp only [] at hbx;clear hqb;go_wp2_with fail
 obtain ⟨lo,hlo⟩:∃ lo,w1.heap.size=lo:=⟨_,rfl⟩
 refine qhl rfl eg 6 (Xq zs.length) (fun k=>#[.int .i64 k,(Y4 (six zs k)).val])
  (fun _ W'=>W'.cell? ⟨bx,0,none⟩=some (.slice a zs.length cap)∧bx<w1.heap.size∧Bytes W' a zs) ?hit (fun _ _=>rfl)
  (fun k W'=>∃ g2,Zl (N+k*(256*T)) L pb sb (P.runE (qat zs k)) g2∧TG [g] w [g2,[cl qb 55 #[Qb pb]],[cl (qb+1) 3 #[.int .i64 k]],[cl bx 54 #[.slice a zs.length cap]]] W'∧∀ p∈([g2,[cl qb 55 #[Qb pb]],[cl (qb+1) 3 #[.int .i64 k]],[cl bx 54 #[.slice a zs.length cap]]]:GH).flatten,¬ Win w1.heap.size (2+6) p.1)
  (fun k cd W'=>False) ?hI (fun _ _ _ _ h _ _=>h) ?hT ?h0 ?hbody ?hdone (fun _ _ _ _ h=>h.elim)
 case hit =>
  intro W1 ho hz;have:=qwx a bx cap zs hl hcap hc W1;intro l J Jx h1 h2 h3;exact this l J Jx h1 h2 (fun k W' hk hj=>⟨(h3 k W' hk hj).1,by omega,(h3 k W' hk hj).2.2⟩)
 case hI =>
  rintro k A B ⟨g2,hp,T1,hk⟩ hle ho;exact ⟨g2,hp,T1.win ho hsz hk,hk⟩
 case hT =>
  rintro k A hk ⟨g2,hp,T1,hk2⟩;exact ⟨T1.cell 3 0 rfl 0,hbx,HB.out.later T1⟩
 case h0=>exact ⟨g,by rw [Nat.zero_mul];exact HG.out,HT.out,hW⟩
 case hdone =>
  rintro W' ⟨g2,hp,T1,hk2⟩ hK;have c2:=T1.cell 2 0 rfl 0;have lt2:=T1.lt 2 0 rfl;simp only [GE2] at c2 lt2;have HP:=Vh hp;have HT1:=Vh (T1.win (lo:=w1.heap.size) (c:=1) (B:=W'.putObj w1.heap.size (.deferred none)) (Xg.putObj (Xg.refl _ _) _ (.inl ⟨Nat.le_refl _,Nat.lt_succ_self _⟩) _) hsz (fun p hp=>quj (hk2 p hp) (Nat.le_refl _) (by omega)));clear T1 hp hk2 HT hW hlo;go_wp2
  exact Xs hK (results_tmp rfl _ _ _) ⟨_,⟨g2,rfl,HP.out,rfl⟩,HT1.out.pick [0] rfl⟩
 case hbody =>
  rintro k hk A ⟨g2,hp,T1,hk2⟩ hz hrec;have hthr:(P.runE (qat zs k)).thr≤T:=by rw [qi1];exact hT
  have hnn:(Y4 (six zs k)).nn:=qxs _ (fun x hx=>HB.out.1.1 x (List.mem_of_mem_drop (List.mem_of_mem_take hx)))
  have hkT:N+k*(256*T)+256*T<999990:=by
   have h1:(k+1)*(256*T)≤Xq zs.length*(256*T):=Nat.mul_le_mul_right _ hk;rw [Nat.add_mul,Nat.one_mul] at h1;omega
  have HDO:=Vh (plDo hp hthr hT1 _ hnn (by omega));have HNX:=Vh (show P.runE (qat zs (k+1))=(P.runE (qat zs k)).doE (Y4 (six zs k)) by rw [qq4,qt3]);obtain ⟨e,he⟩:∃ e,Y4 (six zs k)=e:=⟨_,rfl⟩;rw [he] at HDO HNX ⊢;clear he hnn;obtain ⟨e1,e2,e3,e4,e5,e6⟩:=e;simp only [Ent.val] at HDO ⊢;have HT1:=Vh T1;have HK2:=Vh hk2;have HWW:=Vh hW;clear T1 hk2 hrec hp hW HT hlo;refine Q1 (n:=9) ?_
  gi_wp2
  refine ⟨Q3.of_only ((Xg.refl (fun _=>False) _).alloc _) (by omega) (fun _ _ _ x=>x),fun Wb hb hbz hrb=>?_⟩
  have TA:=HT1.out.alloc (k:=A.heap.size) rfl 56 #[.int .i64 e1,.int .i64 e2,.int .i64 e3,.int .u64 e4,.int .u64 e5,.int .u64 e6]
  have hka:∀ p∈([g2,[cl qb 55 #[Qb pb]],[cl (qb+1) 3 #[.int .i64 k]],[cl bx 54 #[.slice a zs.length cap]]]++[[cl A.heap.size 56 #[.int .i64 e1,.int .i64 e2,.int .i64 e3,.int .u64 e4,.int .u64 e5,.int .u64 e6]]]:GH).flatten,¬ Win w1.heap.size (2+6) p.1:=by
   intro p hp hw;rw [List.flatten_append] at hp;rcases List.mem_append.1 hp with hp | hp
   ·exact HK2.out p hp hw
   ·simp only [List.flatten_cons,List.flatten_nil,List.append_nil,List.mem_singleton] at hp
    subst hp;have:=hw.2;simp only [] at this;omega
  have TB:=TA.win (lo:=w1.heap.size+1) (c:=1) (hb.mono (fun j _ h=>by subst h;exact ⟨Nat.le_refl _,Nat.lt_succ_self _⟩)) (by omega) (fun p hp=>quj (hka p hp) (by omega) (by omega));have TL:=TG.refl TB.has;obtain ⟨eb,heb⟩:∃ eb,A.heap.size=eb:=⟨_,rfl⟩;rw [heb] at TB TL hka;have HT:=Vh (TL.eq (H':=[g2,[cl qb 55 #[Qb pb]],[cl (qb+1) 3 #[.int .i64 k]],[cl bx 54 #[.slice a zs.length cap]],[cl eb 56 #[.int .i64 e1,.int .i64 e2,.int .i64 e3,.int .u64 e4,.int .u64 e5,.int .u64 e6]]]) rfl);have HTB:=Vh TB;have HKA:=Vh hka;have hBz:w1.heap.size+(2+6)≤Wb.heap.size:=by rw [hbz,World.size_alloc];omega
  clear TA TB TL hka HT1 hb hbz hrb;have d0:=HT.out.cell 1 0 rfl 0;have n0:=HT.out.cell 2 0 rfl 0;obtain ⟨b0,b1,b2,b3,b4,b5⟩:=Ce6 (HT.out.cell 4 0 rfl) 0 1 2 3 4 5;have ltd:=HT.out.lt 1 0 rfl;have lte:=HT.out.lt 4 0 rfl;simp only [GE3] at d0 n0 b0 b1 b2 b3 b4 b5 ltd lte;rw [heb];refine Q1 (n:=9) ?_
  gi_wp2
  refine ⟨trivial,(Zj (Qa.use HDO.out HT.out [0] rfl rfl)).mono ?_⟩
  rintro e w3 ⟨gs,⟨g3,rfl,hp3,rfl⟩,Ta⟩;simp only [PU] at Ta;have HP3:=Vh hp3;have HT:=Vh Ta;clear Ta hp3 d0 n0 b0 b1 b2 b3 b4 b5 ltd lte;have n0:=HT.out.cell 2 0 rfl 0;have fn0:=HT.out.free 2 0 rfl 0;have ltn:=HT.out.lt 2 0 rfl;simp only [GE2] at n0 ltn;have hkc:=Nat.le_trans (Nat.le_of_lt hk) hch;gi_wp2
  have T4:=(HT.out.set 2 0 rfl 0 (.int .i64 ((k:Int)+1))).eq (H':=[g3,[cl qb 55 #[Qb pb]],[cl (qb+1) 3 #[.int .i64 ((k:Int)+1)]],[cl bx 54 #[.slice a zs.length cap]],[cl eb 56 #[.int .i64 e1,.int .i64 e2,.int .i64 e3,.int .u64 e4,.int .u64 e5,.int .u64 e6]]]) rfl;have hk4:=qy3 T4 HKA.out hBz;refine ⟨T4.keptW HKA.out hBz,g3,by rw [HNX.out,Nat.add_mul,Nat.one_mul,← Nat.add_assoc];exact HP3.out,(HTB.out.trans T4).pick [0,1,2,3] rfl,fun p hp=>hk4 p ?_⟩
  simp only [List.flatten_cons,List.flatten_nil,List.append_nil,List.mem_append] at hp ⊢;rcases hp with hp | hp | hp | hp
  ·exact .inl hp
  ·exact .inr (.inl hp)
  ·exact .inr (.inr (.inl hp))
  ·exact .inr (.inr (.inr (.inl hp)))
end
end
section
open Go.RowKit Go.Shelf
attribute [local go_sem] Oper.semAt_some
def pl0 (c:Cfg):PlS:=⟨svB0 c,c.cli,0,0,fun _=>none⟩
theorem qws (c:Cfg) (hk:c.ok=true):Qa prog 34 #[.agg c.cells] [] fun e gs =>
 ∃ L pb sb g,e=.returned (.tuple #[Qb pb,.int .i64 0])∧Zl 0 L pb sb (pl0 c) g∧gs=[g]:=by
 have HN:=Vh (bNew c hk);obtain ⟨sh,cap,ring,room,wk,cli⟩:=c;have hmm:=@run_makeMap prog;refine GO fun w HT=>?_
 clear hk;simp only [Cfg.cells] at HN ⊢;go_enter func34,ntmps34
 go_wp2_with fail
 have HT:=Vh (HT.out.alloc (k:=w.heap.size) rfl 28 #[.int .i64 sh,.int .i64 cap,.int .i64 ring,.int .i64 room,.int .i64 wk,.int .i64 cli]);go_wp2_with fail
 refine Qa.run (HN.out) (HT.out) [] ?_
 rintro e w1 gs ⟨L,sb,g,rfl,hb,rfl⟩ HT;simp only [PU] at HT;have HB:=Vh hb;clear hb;have a5:=HT.out.cell 0 0 rfl 5;simp only [GE4] at a5;have lta:=HT.out.lt 0 0 rfl;simp only [] at lta;go_wp2
 go_ret2
 have T1:=(HT.out.put (k:=w1.heap.size) rfl (.map #[] 0)).alloc (k:=w1.heap.size+1) (by simp) 114 #[Qb sb,.int .i64 cli,.int .i64 0,.int .i64 0,.map (some w1.heap.size)];exact ⟨_,⟨L,w1.heap.size+1,sb,_,rfl,⟨w1.heap.size,g,_,⟨HB.out,⟨0,noK,0,qnw _ _ _,qha,Nat.zero_le _⟩,⟨Nat.le_refl _,Nat.le_refl _,fun t n h=>by cases h⟩⟩,rfl⟩,rfl⟩,((T1.pick [3,1,2] rfl).eq (H':=[plB (w1.heap.size+1) sb w1.heap.size (pl0 ⟨sh,cap,ring,room,wk,cli⟩).cli (pl0 ⟨sh,cap,ring,room,wk,cli⟩).steps (pl0 ⟨sh,cap,ring,room,wk,cli⟩).lon,g,[(w1.heap.size,.map #[] 0)]]) rfl).sum2⟩
section
variable {N:Nat} {L:Lay} {pb sb:Nat} {P:PlS} {g:List Blk}
theorem Zl.steps_le (h:Zl N L pb sb P g):P.steps≤N∧P.lon≤N:=by
 obtain ⟨mb,gS,gM,hi,_⟩:=h;exact ⟨hi.pn.steps,hi.pn.lon⟩
theorem Zn (h:Zl N L pb sb P g):Qa prog 33 #[Qb pb] [g] fun e gs=>e=.returned (Qb sb)∧gs=[g]:=by
 obtain ⟨mb,gS,gM,hi,rfl⟩:=h;refine GO fun w HT=>?_
 have T1:=HT.out.sum2 (H':=[plB pb sb mb P.cli P.steps P.lon,gS,gM]);obtain ⟨p0,p2,p3⟩:=Ce3 (T1.cell 0 0 rfl) 0 2 3;simp only [plB,GE3] at p0 p2 p3;have ltp:=T1.lt 0 0 rfl;simp only [] at ltp;clear hi T1;go_enter func33,ntmps33
 go_wp2
 go_ret
 exact ⟨_,⟨rfl,rfl⟩,HT.out⟩
theorem qax (h:Zl N L pb sb P g):Qa prog 31 #[Qb pb] [g] fun e gs=>e=.returned (.int .i64 P.steps)∧gs=[g]:=by
 obtain ⟨mb,gS,gM,hi,rfl⟩:=h;refine GO fun w HT=>?_
 have T1:=HT.out.sum2 (H':=[plB pb sb mb P.cli P.steps P.lon,gS,gM]);obtain ⟨p0,p2,p3⟩:=Ce3 (T1.cell 0 0 rfl) 0 2 3;simp only [plB,GE3] at p0 p2 p3;have ltp:=T1.lt 0 0 rfl;simp only [] at ltp;clear hi T1;go_enter func31,ntmps31
 go_wp2
 go_ret
 exact ⟨_,⟨rfl,rfl⟩,HT.out⟩
theorem qb3 (h:Zl N L pb sb P g):Qa prog 32 #[Qb pb] [g] fun e gs=>e=.returned (.int .i64 P.lon)∧gs=[g]:=by
 obtain ⟨mb,gS,gM,hi,rfl⟩:=h;refine GO fun w HT=>?_
 have T1:=HT.out.sum2 (H':=[plB pb sb mb P.cli P.steps P.lon,gS,gM]);obtain ⟨p0,p2,p3⟩:=Ce3 (T1.cell 0 0 rfl) 0 2 3;simp only [plB,GE3] at p0 p2 p3;have ltp:=T1.lt 0 0 rfl;simp only [] at ltp;clear hi T1;go_enter func32,ntmps32
 go_wp2
 go_ret
 exact ⟨_,⟨rfl,rfl⟩,HT.out⟩
theorem qs9 (h:Zl N L pb sb P g) {T:Nat} (hT:P.thr≤T) {k0:Nat} (hk0:1≤k0) (hk6:k0≤1000000) (hN:N+k0*T<999990) (hno:∀ j,j<k0→(PlS.rounds j P).S.idle=false) (hyes:(PlS.rounds k0 P).S.idle=true) :
 Qa prog 29 #[Qb pb] [g] fun e gs=>∃ g',e=.returned (.int .i64 k0)∧Zl (N+k0*T) L pb sb (PlS.rounds k0 P) g'∧gs=[g']:=by
 have hi:=qye h (by omega);rw [show P.S.idle=false from hno 0 hk0] at hi;have HI:=Vh hi;have HIT:=Vh (show ∀ bx g1,Zl N L pb sb P g1→_ from fun bx g1 _=>qf2 L pb sb bx (P0:=P) (N0:=N) (T:=T) (bound:=k0) hT hk6 hN);have eg:=enters_of func75 (P:=prog) (by kernel_rfl) rfl;have HG:=Vh h;have HNO:=Vh (And.intro hno hyes);refine GO fun w HT=>?_
 clear h hi hno hyes;refine Qu func29 rfl ?_
 simp only [ntmps29,List.size_toArray,List.length_cons,List.length_nil,Nat.reduceAdd,Nat.reduceSub,Array.replicate_succ,Array.replicate_zero,List.push_toArray,List.append_toArray,List.nil_append,List.cons_append];obtain ⟨p0,ltp⟩:=qcl HT.out 0 rfl HG.out;go_wp2_with fail
 obtain ⟨qb,hqb⟩:∃ qb,w.heap.size=qb:=⟨_,rfl⟩;go_wp2_with fail
 refine Qa.run (HI.out) (HT.out.alloc (k:=qb) hqb.symm 55 #[Qb pb]) [0] ?_
 rintro e w1 gs ⟨g1,rfl,hp,rfl⟩ HT;simp only [PU] at HT;have HP:=Vh hp;clear hp p0 ltp;rw [hqb];clear hqb;have q0:=HT.out.cell 1 0 rfl 0;simp only [GE4] at q0;have ltq:=HT.out.lt 1 0 rfl;simp only [] at ltq;go_wp2_with fail
 obtain ⟨nb,hnb⟩:∃ nb,w1.heap.size=nb:=⟨_,rfl⟩;have HT:=Vh (HT.out.alloc (k:=nb) hnb.symm 3 #[.int .i64 0]);rw [hnb];clear hnb q0 ltq;go_wp2_with fail
 refine Qa.run (qok) (HT.out) [] ?_
 rintro e w1 gs ⟨bx,rfl,rfl⟩ HT;simp only [PU] at HT;have HI2:=Vh (HIT.out bx g1 HP.out);have T0:=HT.out.sum2 (H':=[[cl qb 55 #[Qb pb]],[cl nb 3 #[.int .i64 0]]]++[g1,[cl bx 55 #[Qb pb]]]);clear HIT HI;go_wp2_with fail
 refine qjj (H0:=[[cl qb 55 #[Qb pb]],[cl nb 3 #[.int .i64 0]]]) (O0:=[g1,[cl bx 55 #[Qb pb]]]) rfl eg HI2.out ?hps T0 ⟨g1,by rw [Nat.zero_mul];exact HP.out,rfl⟩ (fun (k:Nat) H=>k<k0∧H=[[cl qb 55 #[Qb pb]],[cl nb 3 #[.int .i64 k]]]) (fun (k:Nat) cd H=>(∃ id,cd=.exit id∧id=0)∧k=k0∧H=[[cl qb 55 #[Qb pb]],[cl nb 3 #[.int .i64 k]]]) ?h0 ?hT ?hbody ?hdone ?hstop
 case hps=>rintro s x s' ⟨rfl,_⟩;rfl
 case h0=>exact ⟨by omega,rfl⟩
 case hT=>exact fun s H h=>h.1
 case hdone=>intro s H O W D h;exact h.elim
 case hbody =>
  rintro (k:Nat) x (k':Nat) H Oy W ly ⟨hk,rfl⟩ ⟨rfl,rfl⟩ ⟨g2,hg2,rfl⟩ hH
  have hkT:N+(k+1)*T<999990:=by
   have h1:(k+1)*T≤k0*T:=Nat.mul_le_mul_right _ hk;omega
  have HG2:=Vh hg2;have HID:=Vh (qye hg2 (by omega));have HH:=Vh (TG.refl hH);have n0:=(TG.refl hH).cell 1 0 rfl 0;have fn0:=(TG.refl hH).free 1 0 rfl 0;have ltn:=(TG.refl hH).lt 1 0 rfl;simp only [GE2] at n0 ltn;clear hg2 hH T0 HG HP HT HI2;refine Q1 (n:=9) ?_
  gi_wp2
  refine ⟨[[cl qb 55 #[Qb pb]],[cl nb 3 #[.int .i64 ((k:Int)+1)]]]++[g2,[cl bx 55 #[Qb pb]]],(HH.out.set 1 0 rfl 0 (.int .i64 ((k:Int)+1))).eq rfl,fun Wb hb=>?_⟩
  have HT:=Vh (TG.refl hb);clear hb HH n0 fn0 ltn;have q0:=HT.out.cell 0 0 rfl 0;have ltq:=HT.out.lt 0 0 rfl;simp only [GE2] at q0 ltq;obtain ⟨p0,ltp⟩:=qcl HT.out 2 rfl HG2.out;by_cases hkn:k+1=k0
  ·rw [show (PlS.rounds (k+1) P).S.idle=true by rw [hkn];exact HNO.out.2] at HID
   refine Q1 (n:=9) ?_
   gi_wp2
   refine ⟨trivial,(Zj (Qa.use HID.out HT.out [2] rfl rfl)).mono ?_⟩
   rintro e w3 ⟨gs,⟨g3,rfl,hp3,rfl⟩,Ta⟩;simp only [PU] at Ta;have HP3:=Vh (And.intro hp3 Ta);clear hp3 Ta q0 ltq p0 ltp;gi_wp2
   exact ⟨_,⟨[[cl qb 55 #[Qb pb]],[cl nb 3 #[.int .i64 ((k:Int)+1)]]],[g3,[cl bx 55 #[Qb pb]]],rfl,⟨⟨0,rfl,rfl⟩,hkn,rfl⟩,⟨g3,HP3.out.1,rfl⟩⟩,HP3.out.2⟩
  ·rw [show (PlS.rounds (k+1) P).S.idle=false from HNO.out.1 _ (by omega)] at HID
   refine Q1 (n:=9) ?_
   gi_wp2
   refine ⟨trivial,(Zj (Qa.use HID.out HT.out [2] rfl rfl)).mono ?_⟩
   rintro e w3 ⟨gs,⟨g3,rfl,hp3,rfl⟩,Ta⟩;simp only [PU] at Ta;have HP3:=Vh (And.intro hp3 Ta);clear hp3 Ta q0 ltq p0 ltp;gi_wp2
   exact ⟨_,⟨[[cl qb 55 #[Qb pb]],[cl nb 3 #[.int .i64 ((k:Int)+1)]]],[g3,[cl bx 55 #[Qb pb]]],rfl,⟨by omega,rfl⟩,⟨g3,HP3.out.1,rfl⟩⟩,HP3.out.2⟩
 case hstop =>
  rintro (k:Nat) cd H O W D ⟨⟨id,rfl,rfl⟩,rfl,rfl⟩ ⟨g2,hg2,rfl⟩ hT;have n0:=hT.cell 1 0 rfl 0;have ltn:=hT.lt 1 0 rfl;simp only [GE2] at n0 ltn;have HX:=Vh (And.intro hg2 hT);clear hg2 hT T0;go_wp2
  have T3:=HX.out.2.turnLast (.deferred none);exact Xs HX.out.2.has.last (results_tmp rfl _ _ _) ⟨_,⟨g2,rfl,HX.out.1,rfl⟩,T3.pick [2] rfl⟩
end
end
section
open Go.RowKit Go.Shelf
def qup:Nat→PlS→Bool
 | 0,P=>P.S.idle
 | n+1,P=>!P.S.idle && qup n P.round
theorem qic:∀ {n:Nat} {P:PlS},qup n P=true→(∀ j,j<n→(PlS.rounds j P).S.idle=false)∧(PlS.rounds n P).S.idle=true
 | 0,P,h=>⟨fun j hj=>by omega,h⟩
 | n+1,P,h=>by
   simp only [qup,Bool.and_eq_true,Bool.not_eq_true'] at h;obtain ⟨h1,h2⟩:=qic h.2;refine ⟨fun j hj=>?_,h2⟩
   cases j with
   | zero=>exact h.1
   | succ j=>exact h1 j (by omega)
section
variable {N:Nat} {L:Lay} {pb sb:Nat} {P:PlS} {g:List Blk}
def PlS.tick (P:PlS):PlS:=P.call P.cli ⟨7,0,0,0⟩
theorem qwp (h:Zl N L pb sb P g) {T:Nat} (hT:P.thr≤T) (hE:P.S.callE P.cli ⟨7,0,0,0⟩=0) {k0:Nat} (hk0:1≤k0) (hk6:k0≤1000000) (hN:N+1+k0*T<999990) (hno:∀ j,j<k0→(PlS.rounds j P.tick).S.idle=false) (hyes:(PlS.rounds k0 P.tick).S.idle=true) (hok:((PlS.rounds k0 P.tick).S.ansS (P.S.callNo P.cli ⟨7,0,0,0⟩)).ok=true) :
 Qa prog 30 #[Qb pb,.int .i64 1] [g] fun e gs=>∃ g',e=.returned (.int .i64 1)∧Zl (N+1+k0*T) L pb sb (PlS.rounds k0 P.tick) g'∧gs=[g']:=by
 have hcl:=qss h (by omega) P.cli ⟨7,0,0,0⟩ ⟨by decide,by decide,by decide⟩;rw [hE] at hcl;obtain ⟨no,hnoE⟩:∃ no,P.S.callNo P.cli ⟨7,0,0,0⟩=no:=⟨_,rfl⟩;rw [hnoE] at hcl hok;have HC:=Vh hcl;have HG:=Vh h;have HD:=Vh (show ∀ g1,Zl (N+1) L pb sb P.tick g1→_ from fun g1 h1=>qs9 h1 (T:=T) (by show (P.call _ _).thr≤T;rw [qod];exact hT) hk0 hk6 hN hno hyes);have HA:=Vh (show ∀ g1,Zl (N+1+k0*T) L pb sb (PlS.rounds k0 P.tick) g1→_ from fun g1 h1=>qxu h1 (by omega) no);have HOK:=Vh hok;obtain ⟨cli,hcli⟩:∃ c,P.cli=c:=⟨_,rfl⟩
 have c1:∀ (h H:GH) (w w1:World) (T:TG h w H w1),H.getD 0 []=g→w1.cell? ⟨pb,1,none⟩=some (.int .i64 P.cli):=by
  intro h' H' w w1 T hi;obtain ⟨mb,gS,gM,_,rfl⟩:=HG.out;exact T.cell 0 0 (b:=pb) (by rw [hi];rfl) 1
 have HC1:=Vh (show ∀ (h H:GH) (w w1:World) (T:TG h w H w1),H.getD 0 []=g→w1.cell? ⟨pb,1,none⟩=some (.int .i64 cli) from fun h H w w1 T hi=>by rw [← hcli];exact c1 h H w w1 T hi);have HCL:=Vh hcli;rw [hcli] at HC;refine GO fun w HT=>?_
 clear h hcl hE hnoE hno hyes hok c1 hcli;simp only [Qs.cells] at HC;go_enter func30,ntmps30
 go_wp2_with fail
 go_loopw [5,15] (fun r i wr=>(r=.int .i64 0∧i=.int .i64 0∧TG [g] w [g] wr)∨(r=.int .i64 1∧i=.int .i64 1∧∃ g',Zl (N+1+k0*T) L pb sb (PlS.rounds k0 P.tick) g'∧TG [g] w [g'] wr)) (fun _ i _=>2 - (intOf i).toNat)
 case atStart=>exact .inl ⟨rfl,rfl,HT.out⟩
 case round =>
  rcases hrel with ⟨rfl,rfl,T1⟩ | ⟨rfl,rfl,g',hg',T1⟩
  ·have d1:=HC1.out _ _ _ _ T1 rfl
   obtain ⟨p0,ltp⟩:=qcl T1 0 rfl HG.out;have HT:=Vh T1;clear T1;go_wp2_with fail
   refine Qa.run (HC.out) (HT.out) [0] ?_
   rintro e w1 gs ⟨g1,rfl,h1,rfl⟩ HT;simp only [PU] at HT;have HDR:=Vh (HD.out g1 (by unfold PlS.tick;rw [HCL.out];exact h1));clear h1 d1 p0 ltp;go_wp2_with fail
   refine Qa.run (HDR.out) (HT.out) [0] ?_
   rintro e w1 gs ⟨g2,rfl,h2,rfl⟩ HT;simp only [PU] at HT;obtain ⟨p0,ltp⟩:=qcl HT.out 0 rfl h2;have ha:=HA.out g2 h2;obtain ⟨A,hA⟩:∃ A,(PlS.rounds k0 P.tick).S.ansS no=A:=⟨_,rfl⟩;have hok:=HOK.out;rw [hA] at ha hok;obtain ⟨err,ok,id,gen,left,code⟩:=A;simp only at hok;subst hok;simp only [qs4.cells] at ha;have HAN:=Vh ha;clear ha h2 hA;go_wp2_with fail
   refine Qa.run (HAN.out) (HT.out) [0] ?_
   rintro e w1 gs ⟨v,gv,g3,rfl,hv,h3,rfl⟩ HT;simp only [PU] at HT;obtain ⟨av,cap,hv2⟩:=Qr.val hv;subst hv2;have HP:=Vh h3;clear hv h3 p0 ltp;go_wp2
   go_roundw
   case rel=>exact .inr ⟨rfl,rfl,g3,HP.out,(HT.out.pick [0] rfl).alloc0 _⟩
   case measure=>simp [intOf]
  ·have HT:=Vh T1
   have HP:=Vh hg';clear T1 hg';go_wp2
   go_ret
   exact ⟨_,⟨g',rfl,HP.out,rfl⟩,HT.out⟩
end
def q1y:Cfg:=Yp 0 5
def q34:PlS:=(pl0 q1y).call 0 ⟨1,0,1,0⟩
def qyj:PlS:=PlS.rounds 13 q34
def q4n:PlS:=PlS.rounds 19 qyj.tick
theorem qno:(pl0 q1y).S.callE 0 ⟨1,0,1,0⟩=0∧(pl0 q1y).S.callNo 0 ⟨1,0,1,0⟩=1:=⟨by kernel_rfl,by kernel_rfl⟩
theorem qxz:qup 13 q34=true:=by kernel_rfl
theorem qwb:qyj.S.callE qyj.cli ⟨7,0,0,0⟩=0:=by kernel_rfl
theorem qwl:qup 19 qyj.tick=true:=by kernel_rfl
theorem q2n:(q4n.S.ansS (qyj.S.callNo qyj.cli ⟨7,0,0,0⟩)).ok=true:=by kernel_rfl
theorem q0c:q4n.S.z.lg.length=1:=by kernel_rfl
theorem qux:q34.thr=7∧qyj.thr=7:=⟨by kernel_rfl,by kernel_rfl⟩
theorem qfv:Qa prog 24 #[] [] fun e gs=>e=.returned (.bool true)∧gs=[]:=by
 have HPL:=Vh (qh6 0 5 (by decide) (by decide));have HN:=Vh (show Qa prog 34 #[.agg (Yp 0 5).cells] [] fun e gs=>∃ L pb sb g,e=.returned (.tuple #[Qb pb,.int .i64 0])∧Zl 0 L pb sb (pl0 q1y) g∧gs=[g] from qws q1y (qch 0 5));obtain ⟨r1,r1'⟩:=qic qxz;obtain ⟨r2,r2'⟩:=qic qwl;have HR1:=Vh (And.intro r1 r1');have HR2:=Vh (And.intro r2 r2');clear r1 r1' r2 r2';refine GO fun w HT=>?_
 go_enter func24,ntmps24
 go_wp2_with fail
 refine Qa.run (HPL.out) (HT.out) [] ?_
 rintro e w1 gs ⟨rfl,rfl⟩ HT;simp only [PU] at HT;go_wp2_with fail
 refine Qa.run (HN.out) (HT.out) [] ?_
 rintro e w1 gs ⟨L,pb,sb,g,rfl,hp,rfl⟩ HT;simp only [PU] at HT;have hc:=qss hp (by decide) 0 ⟨1,0,1,0⟩ ⟨by decide,by decide,by decide⟩;rw [qno.1,qno.2] at hc;have HC:=Vh hc;clear hp hc;go_wp2_with fail
 refine Qa.run (HC.out) (HT.out) [0] ?_
 rintro e w1 gs ⟨g1,rfl,h1,rfl⟩ HT;simp only [PU] at HT;have HD:=Vh (qs9 (P:=q34) (T:=7) h1 (Nat.le_of_eq qux.1) (k0:=13) (by decide) (by decide) (by decide) HR1.out.1 HR1.out.2);clear h1;go_wp2_with fail
 refine Qa.run (HD.out) (HT.out) [0] ?_
 rintro e w1 gs ⟨g2,rfl,h2,rfl⟩ HT;simp only [PU] at HT;have HTK:=Vh (qwp (P:=qyj) (T:=7) h2 (Nat.le_of_eq qux.2) qwb (k0:=19) (by decide) (by decide) (by decide) HR2.out.1 HR2.out.2 q2n);clear h2;go_wp2_with fail
 refine Qa.run (HTK.out) (HT.out) [0] ?_
 rintro e w1 gs ⟨g3,rfl,h3,rfl⟩ HT;simp only [PU] at HT;have HSV:=Vh (Zn h3);have hl:=qzh (P:=q4n) h3 (by decide);rw [q0c] at hl;have HL:=Vh hl;clear h3 hl;go_wp2_with fail
 refine Qa.run (HSV.out) (HT.out) [0] ?_
 rintro e w1 gs ⟨rfl,rfl⟩ HT;simp only [PU] at HT;go_wp2_with fail
 refine Qa.run (HL.out) (HT.out) [0] ?_
 rintro e w1 gs ⟨v,gv,g4,rfl,hv,h4,rfl⟩ HT;simp only [PU] at HT;obtain ⟨av,cap,hv2⟩:=Qr.val hv;subst hv2;clear hv h4;go_wp2
 go_ret
 exact ⟨[],⟨rfl,rfl⟩,HT.out.pick [] rfl⟩
theorem qvw (k n c i d p:Int):Qa prog 26 #[.pointer none,.agg #[.int .i64 k,.int .i64 n,.int .i64 c,.int .u64 i,.int .u64 d,.int .u64 p]] [] fun e gs=>e=.returned (.tuple #[])∧gs=[]:=by
 refine GO fun w HT=>?_
 go_enter func26,ntmps26
 go_wp2
 exact bodyPost_ret (results_none rfl _ _ _) rfl ⟨_,⟨rfl,rfl⟩,HT.out.alloc0 _⟩
theorem qq5 (th c i d p:Int):Qa prog 27 #[.pointer none,.int .i64 th,.agg #[.int .i64 c,.int .u64 i,.int .u64 d,.int .u64 p]] [] fun e gs=>e=.returned (.tuple #[.int .i64 0,.int .i64 6])∧gs=[]:=by
 refine GO fun w HT=>?_
 go_enter func27,ntmps27
 go_wp2
 go_ret2
 exact ⟨_,⟨rfl,rfl⟩,HT.out.alloc0 _⟩
theorem quo (a:Option Addr) (len cap:Nat):Qa prog 28 #[.pointer none,.slice a len cap] [] fun e gs=>e=.returned (.int .i64 0)∧gs=[]:=by
 refine GO fun w HT=>?_
 refine Qu func28 rfl ?_
 simp only [ntmps28,List.size_toArray,List.length_cons,List.length_nil,Nat.reduceAdd,Nat.reduceSub,Array.replicate_succ,Array.replicate_zero,List.push_toArray,List.append_toArray,List.nil_append,List.cons_append];go_wp2
 exact qac (results_tmp rfl _ _ _) ⟨_,⟨rfl,rfl⟩,HT.out.alloc0 _⟩
theorem qmi:Qa prog 29 #[.pointer none] [] fun e gs=>e=.returned (.int .i64 0)∧gs=[]:=by
 refine GO fun w HT=>?_
 refine Qu func29 rfl ?_
 simp only [ntmps29,List.size_toArray,List.length_cons,List.length_nil,Nat.reduceAdd,Nat.reduceSub,Array.replicate_succ,Array.replicate_zero,List.push_toArray,List.append_toArray,List.nil_append,List.cons_append];go_wp2
 exact qac (results_tmp rfl _ _ _) ⟨_,⟨rfl,rfl⟩,HT.out.alloc0 _⟩
theorem qmr (n:Int):Qa prog 30 #[.pointer none,.int .i64 n] [] fun e gs=>e=.returned (.int .i64 0)∧gs=[]:=by
 refine GO fun w HT=>?_
 go_enter func30,ntmps30
 go_wp2
 go_ret
 exact ⟨_,⟨rfl,rfl⟩,HT.out⟩
theorem qlv:Qa prog 31 #[.pointer none] [] fun e gs=>e=.returned (.int .i64 0)∧gs=[]:=by
 refine GO fun w HT=>?_
 go_enter func31,ntmps31
 go_wp2
 go_ret
 exact ⟨_,⟨rfl,rfl⟩,HT.out⟩
theorem qhn:Qa prog 32 #[.pointer none] [] fun e gs=>e=.returned (.int .i64 0)∧gs=[]:=by
 refine GO fun w HT=>?_
 go_enter func32,ntmps32
 go_wp2
 go_ret
 exact ⟨_,⟨rfl,rfl⟩,HT.out⟩
theorem qio:Qa prog 33 #[.pointer none] [] fun e gs=>e=.returned (.pointer none)∧gs=[]:=by
 refine GO fun w HT=>?_
 go_enter func33,ntmps33
 go_wp2
 go_ret
 exact ⟨_,⟨rfl,rfl⟩,HT.out⟩
theorem q4m (k n c i d p:Int):Qa prog 25 #[.agg #[.int .i64 k,.int .i64 n,.int .i64 c,.int .u64 i,.int .u64 d,.int .u64 p]] [] fun e gs=>e=.returned (.agg #[.int .i64 k,.int .i64 n,.int .i64 c,.int .u64 i,.int .u64 d,.int .u64 p])∧gs=[]:=by
 refine GO fun w HT=>?_
 go_enter func25,ntmps25
 go_wp2_with fail
 have HT2:=Vh ((HT.out.alloc (k:=w.heap.size) rfl 53 #[.int .i64 k,.int .i64 n,.int .i64 c,.int .u64 i,.int .u64 d,.int .u64 p]).alloc (k:=w.heap.size+1) (by simp) 56 #[.int .i64 k,.int .i64 n,.int .i64 c,.int .u64 i,.int .u64 d,.int .u64 p]);obtain ⟨r0,r1,r2,r3,r4,r5⟩:=Ce6 (HT2.out.cell 1 0 rfl) 0 1 2 3 4 5;simp only [GE4] at r0 r1 r2 r3 r4 r5;exact bodyPost_ret (v:=.agg #[.int .i64 k,.int .i64 n,.int .i64 c,.int .u64 i,.int .u64 d,.int .u64 p]) (by simp [results,results25,go_sem,r0,r1,r2,r3,r4,r5]) rfl ⟨_,⟨rfl,rfl⟩,HT2.out.pick [] rfl⟩
theorem qvb.off {w w':World} {a:Option Addr} {zs:List Int} (h:qvb w a zs) {H:GH} (T:TG [] w H w') {g:List Blk} (hg:∀ p∈g,p∈H.flatten):qco w' a zs g:=by
 have T':Qg _ _ _ _:=T;obtain ⟨h1,h2⟩:=h;refine ⟨⟨h1,?_⟩,?_⟩
 ·rcases h2 with h2 | ⟨b,off,rfl,hb,hc⟩
  ·exact .inl h2
  ·refine .inr ⟨b,off,rfl,Nat.lt_of_lt_of_le hb T.bel.size,fun i hi=>?_⟩
   rw [T.old (p:=⟨b,off+i,none⟩) hb];have:=hc i zs[i] (List.getElem?_eq_getElem hi);rw [this,List.getD_eq_getElem?_getD,List.getElem?_eq_getElem hi];rfl
 ·rcases h2 with h2 | ⟨b',off',rfl,hb,hc⟩
  ·exact .inl h2
  ·right
   rintro b off he p hp rfl;cases he
   rcases T'.news p.1 (List.mem_map.2 ⟨(p.1,(·=p.2)),List.mem_map.2 ⟨p,hg p hp,rfl⟩,rfl⟩) with h3 | h3
   ·cases h3
   ·omega
theorem qly (a b:Int):(pl0 (Yp a b)).thr≤9:=by
 show (List.replicate ((4:Int).toNat+1) (none:Option Nat)).length+(List.replicate (1+max 0 b % 4).toNat (⟨0,qm,0,qvc⟩:WkN)).length≤9
 rw [List.length_replicate,List.length_replicate];omega
theorem qjw {zs:List Int} (h:zs.length≤900):Xq zs.length≤150:=by unfold Xq;omega
structure EntV where
 k:Int
 n:Int
 c:Qs
def EntV.cells (e:EntV):Array Value:=#[.int .i64 e.k,.int .i64 e.n,.int .i64 e.c.kind,.int .u64 e.c.id,.int .u64 e.c.dl,.int .u64 e.c.per]
theorem playNone_law (k n c i d p:Int) (a:Option Addr) (cap:Nat) (zs:List Int) (w:World) (ha:qvb w a zs) (h9:zs.length≤maxLen) (hcap:zs.length≤cap) (hc:cap≤maxLen) :
 Calls prog 5 #[.agg #[.int .i64 k,.int .i64 n,.int .i64 c,.int .u64 i,.int .u64 d,.int .u64 p],.slice a zs.length cap] w fun e w'=>e=.returned (.bool true)∧Below w.heap.size w w':=by
 have HA:=Vh ha;have HT:=Vh (TG.ofW (w:=w));unfold maxLen at h9 hc;clear ha;go_enter func5,ntmps5
 go_wp2_with fail
 refine Qa.run (qfv) (HT.out.alloc (k:=w.heap.size) rfl 53 #[.int .i64 k,.int .i64 n,.int .i64 c,.int .u64 i,.int .u64 d,.int .u64 p]) [] ?_
 rintro e w1 gs ⟨rfl,rfl⟩ HT;simp only [PU] at HT;obtain ⟨b0,b1,b2,b3,b4,b5⟩:=Ce6 (HT.out.cell 0 0 rfl) 0 1 2 3 4 5;simp only [GE4] at b0 b1 b2 b3 b4 b5;have ltb:=HT.out.lt 0 0 rfl;simp only [] at ltb;go_wp2_with fail
 refine Qa.run (q4m k n c i d p) (HT.out) [] ?_
 rintro e w1 gs ⟨rfl,rfl⟩ HT;simp only [PU] at HT;clear b0 b1 b2 b3 b4 b5 ltb;go_wp2_with fail
 refine Qa.run (qvw k n c i d p) (HT.out.alloc (k:=w1.heap.size) rfl 56 #[.int .i64 k,.int .i64 n,.int .i64 c,.int .u64 i,.int .u64 d,.int .u64 p]) [] ?_
 rintro e w1 gs ⟨rfl,rfl⟩ HT;simp only [PU] at HT;have HT:=Vh (HT.out.pick [1] rfl);obtain ⟨b0,b1,b2,b3,b4,b5⟩:=Ce6 (HT.out.cell 0 0 rfl) 0 1 2 3 4 5;simp only [GE4] at b0 b1 b2 b3 b4 b5;have ltb:=HT.out.lt 0 0 rfl;simp only [] at ltb;go_wp2_with fail
 refine Qa.run (qq5 0 c i d p) (HT.out) [] ?_
 rintro e w1 gs ⟨rfl,rfl⟩ HT;simp only [PU] at HT;clear b0 b1 b2 b3 b4 b5 ltb;go_wp2_with fail
 refine Qa.run (quo a zs.length cap) (HT.out) [] ?_
 rintro e w1 gs ⟨rfl,rfl⟩ HT;simp only [PU] at HT;go_wp2_with fail
 refine Qa.run (qmi) (HT.out) [] ?_
 rintro e w1 gs ⟨rfl,rfl⟩ HT;simp only [PU] at HT;go_wp2_with fail
 refine Qa.run (qmr 3) (HT.out) [] ?_
 rintro e w1 gs ⟨rfl,rfl⟩ HT;simp only [PU] at HT;go_wp2_with fail
 refine Qa.run (qlv) (HT.out) [] ?_
 rintro e w1 gs ⟨rfl,rfl⟩ HT;simp only [PU] at HT;go_wp2_with fail
 refine Qa.run (qhn) (HT.out) [] ?_
 rintro e w1 gs ⟨rfl,rfl⟩ HT;simp only [PU] at HT;go_wp2_with fail
 refine Qa.run (qio) (HT.out) [] ?_
 rintro e w1 gs ⟨rfl,rfl⟩ HT;simp only [PU] at HT;by_cases hbig:900<zs.length
 ·go_wp2
  go_ret
  exact ⟨rfl,(HT.out.pick [] rfl).bel⟩
 ·have HPL:=Vh (qh6 1 4 (by decide) (by decide))
  have HNW:=Vh (show Qa prog 34 #[.agg (Yp 1 4).cells] [] fun e gs=>∃ L pb sb g,e=.returned (.tuple #[Qb pb,.int .i64 0])∧Zl 0 L pb sb (pl0 (Yp 1 4)) g∧gs=[g] from qws _ (qch 1 4));obtain ⟨M,hM⟩:∃ M,zs.length=M:=⟨_,rfl⟩;have HM:=Vh hM;have hM9:M≤900:=by omega
  rw [hM];clear hM hbig h9;go_wp2_with fail
  refine Qa.run (HPL.out) (HT.out) [] ?_
  rintro e w1 gs ⟨rfl,rfl⟩ HT;simp only [PU] at HT;go_wp2_with fail
  refine Qa.run (HNW.out) (HT.out) [] ?_
  rintro e w1 gs ⟨L,pb,sb,g,rfl,hp,rfl⟩ HT;simp only [PU] at HT;have HP:=Vh hp;clear hp;go_wp2_with fail
  have hM9':zs.length≤900:=by rw [HM.out];exact hM9
  have hrn:=J6 (qnj HP.out (T:=9) (qly 1 4) (by decide) (HT.out.pick [1] rfl).has (HA.out.off HT.out (fun p hp=>List.mem_flatten.2 ⟨g,by simp,hp⟩)) (by omega) hcap (by omega) (by have:=qjw hM9';omega)) HT.out [1] rfl rfl;rw [HM.out] at hrn;refine hrn.mono ?_
  rintro e w2 ⟨gs,⟨g2,rfl,hp2,rfl⟩,Ta⟩;simp only [PU] at Ta;have HT:=Vh Ta;obtain ⟨P2,hP2⟩:∃ P2,(pl0 (Yp 1 4)).runE (qat zs (Xq M))=P2:=⟨_,rfl⟩;rw [hP2] at hp2;have hp3:Zl 400000 L pb sb P2 g2:=hp2.mono (by have:=qjw hM9';rw [HM.out] at this;omega);have HSV:=Vh (Zn hp3);have HTR:=Vh (qag hp3 (by decide));have hst:=hp3.steps_le;clear hrn hp2 hp3 Ta hP2 HP;go_wp2_with fail
  refine Qa.run (HSV.out) (HT.out) [1] ?_
  rintro e w1 gs ⟨rfl,rfl⟩ HT;simp only [PU] at HT;go_wp2_with fail
  refine Qa.run (HTR.out) (HT.out) [1] ?_
  rintro e w1 gs ⟨v,gv,g3,rfl,hv,hp3,rfl⟩ HT;simp only [PU] at HT;obtain ⟨av,cp,hv2⟩:=Qr.val hv;subst hv2;have HST:=Vh (qax hp3);have HSV:=Vh (Zn hp3);have HP3:=Vh hp3;clear hv hp3;go_wp2_with fail
  refine Qa.run (HST.out) (HT.out) [1] ?_
  rintro e w1 gs ⟨rfl,rfl⟩ HT;simp only [PU] at HT;obtain ⟨b0,b1,b2,b3,b4,b5⟩:=Ce6 (HT.out.cell 0 0 rfl) 0 1 2 3 4 5;simp only [GE4] at b0 b1 b2 b3 b4 b5;have ltb:=HT.out.lt 0 0 rfl;simp only [] at ltb;go_wp2_with fail
  refine Qa.run (qbs k n c i d p) (HT.out) [] ?_
  rintro e w1 gs ⟨rfl,rfl⟩ HT;simp only [PU] at HT;clear b0 b1 b2 b3 b4 b5 ltb;obtain ⟨b0,b1,b2,b3,b4,b5⟩:=Ce6 (HT.out.cell 0 0 rfl) 0 1 2 3 4 5;simp only [GE4] at b0 b1 b2 b3 b4 b5;have ltb:=HT.out.lt 0 0 rfl;simp only [] at ltb;have HTR3:=Vh (qag HP3.out (by decide));cases ho:Ent.ok ⟨k,n,c,i,d,p⟩ with
  | false =>
    have HD:=Vh (qti HP3.out k n c i d p ho);simp only [Ent.val] at HD;go_wp2_with fail
    refine Qa.run (HD.out) (HT.out) [1] ?_
    rintro e w1 gs ⟨rfl,rfl⟩ HT;simp only [PU] at HT;clear b0 b1 b2 b3 b4 b5 ltb;go_wp2_with fail
    refine Qa.run (HSV.out) (HT.out) [1] ?_
    rintro e w1 gs ⟨rfl,rfl⟩ HT;simp only [PU] at HT;go_wp2_with fail
    refine Qa.run (HTR3.out) (HT.out) [1] ?_
    rintro e w1 gs ⟨v2,gv2,g4,rfl,hv,hp4,rfl⟩ HT;simp only [PU] at HT;obtain ⟨av2,cp2,hv2⟩:=Qr.val hv;subst hv2;have HST2:=Vh (qax hp4);clear hv hp4;go_wp2_with fail
    refine Qa.run (HST2.out) (HT.out) [1] ?_
    rintro e w1 gs ⟨rfl,rfl⟩ HT;simp only [PU] at HT;go_wp2
    go_ret
    exact ⟨rfl,(HT.out.pick [] rfl).bel⟩
  | true =>
    by_cases hk:k=0
    ·have HD:=Vh (qkm HP3.out k n c i d p ho (by omega) (by omega) (by omega) (by omega))
     simp only [Ent.val] at HD;have hk0:(k == 0)=true:=by rw [hk];rfl
     clear hk ho;go_wp2_with fail
     refine Qa.run (HD.out) (HT.out) [1] ?_
     rintro e w1 gs ⟨rfl,rfl⟩ HT;simp only [PU] at HT;clear b0 b1 b2 b3 b4 b5 ltb;go_wp2_with fail
     refine Qa.run (HSV.out) (HT.out) [1] ?_
     rintro e w1 gs ⟨rfl,rfl⟩ HT;simp only [PU] at HT;go_wp2_with fail
     refine Qa.run (HTR3.out) (HT.out) [1] ?_
     rintro e w1 gs ⟨v2,gv2,g4,rfl,hv,hp4,rfl⟩ HT;simp only [PU] at HT;obtain ⟨av2,cp2,hv2⟩:=Qr.val hv;subst hv2;have HST2:=Vh (qax hp4);clear hv hp4;go_wp2_with fail
     refine Qa.run (HST2.out) (HT.out) [1] ?_
     rintro e w1 gs ⟨rfl,rfl⟩ HT;simp only [PU] at HT;go_wp2
     go_ret
     exact ⟨rfl,(HT.out.pick [] rfl).bel⟩
    ·have hk0:(k == 0)=false:=beq_eq_false_iff_ne.2 hk
     clear hk ho;go_wp2
     go_ret
     exact ⟨rfl,(HT.out.pick [] rfl).bel⟩
end
end Go.Proofs.YtikpbibeagbccaaGreat
