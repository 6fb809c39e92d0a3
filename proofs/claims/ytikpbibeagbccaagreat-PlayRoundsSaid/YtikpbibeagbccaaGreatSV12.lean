import Derived.Test.YtikpbibeagbccaaGreatChecked
import Derived.Test.YtikpbibeagbccaaGreatSV3
import Derived.WalkKit
import Derived.WalkSpells
import Derived.WalkLawsBesides
import Derived.Lib.Hide
import Derived.Deep.Light
import Derived.Deep.QuietTactic
import Derived.BigQuiet
import Derived.StillTailTactics
import Derived.LoopTactic
import Derived.Deep.LoopGhost
set_option maxRecDepth 100000
set_option maxHeartbeats 4000000
namespace Go.Proofs.YtikpbibeagbccaaGreat
set_option linter.unusedVariables false
set_option linter.unusedSimpArgs false
open Go.Proofs.Tryz
section
open Go.RowKit
abbrev q1u (w w':World):Prop:=Xg (fun _=>False) w w'
structure Ent where
 k:Int
 n:Int
 c:Int
 i:Int
 d:Int
 p:Int
def Ent.val (e:Ent):Value:=.agg #[.int .i64 e.k,.int .i64 e.n,.int .i64 e.c,.int .u64 e.i,.int .u64 e.d,.int .u64 e.p]
def Ent.ok (e:Ent):Bool :=
 if e.k=0 then e.n == 0 && (e.c == 0 && (e.i == 0 && (e.d == 0 && e.p == 0)))
 else if e.k=1 then decide (0≤e.n) && decide (e.n≤8) && decide (1≤e.c) && decide (e.c≤7) && decide (e.i≤255) && decide (e.d≤255) && decide (e.p≤255)
 else decide (2≤e.k) && decide (e.k≤4) && decide (0≤e.n) && decide (e.n≤255) && (e.c == 0 && (e.i == 0 && (e.d == 0 && e.p == 0)))
theorem zm {a b:Bool} (h:a=b):Ending.returned (.bool a)=.returned (.bool b):=by rw [h]
theorem qe7 {k:IntKind} {a b:Int} (h:a=b):Ending.returned (.int k a)=.returned (.int k b):=by rw [h]
theorem Jm (k n c i d p:Int) (w:World) :
 Calls prog 36 #[.agg #[.int .i64 k,.int .i64 n,.int .i64 c,.int .u64 i,.int .u64 d,.int .u64 p]] w fun e w'=>e=.returned (.bool (Ent.ok ⟨k,n,c,i,d,p⟩))∧q1u w w':=by
 go_enter func36,ntmps36
 go_wp2
 all_goals go_ret
 all_goals refine ⟨zm ?_,by repeat (first | exact Xg.refl _ _ | apply Xg.alloc)⟩
 all_goals go_light
 all_goals simp_all [Ent.ok]
 all_goals omega
theorem qbl (w:World) (a b:Obj):((w.alloc a).alloc b).heap[w.heap.size+1]?=some b:=by
 have:=World.alloc_heap_new (w.alloc a) b;rwa [World.size_alloc] at this
def Ent.bytes (e:Ent):List Int:=if e.k=1 then [e.k % 256,e.n % 256,e.c % 256,e.i % 256,e.d % 256,e.p % 256] else [e.k % 256,e.n % 256,0,0,0,0]
theorem J8 (k n c i d p:Int) (w:World) :
 Calls prog 100 #[.agg #[.int .i64 k,.int .i64 n,.int .i64 c,.int .u64 i,.int .u64 d,.int .u64 p]] w fun e w' =>
  e=.returned (.slice (some ⟨w.heap.size+1,0,none⟩) 6 6)∧w'.heap[w.heap.size+1]?=some (.cells ((Ent.bytes ⟨k,n,c,i,d,p⟩).map (Value.int .u8)).toArray 236 (0,0))∧q1u w w':=by
 by_cases hk:k=1
 ·subst hk
  go_enter func100,ntmps100
  go_wp2
  go_region
  go_wp2
  go_ret
  refine ⟨rfl,?_,?_⟩
  ·exact qbl _ _ _
  ·exact (((Xg.refl _ _).alloc _).alloc _).drew
 ·have hk':(k == 1)=false:=by simpa using hk
  have HK:=Lib.hid hk;clear hk;go_enter func100,ntmps100
  go_wp2
  go_ret
  refine ⟨rfl,?_,?_⟩
  ·rw [Ent.bytes,if_neg HK.out]
   exact qbl _ _ _
  ·exact ((Xg.refl _ _).alloc _).alloc _
def Bytes (w:World) (a:Option Addr) (xs:List Int):Prop :=
 (∀ x∈xs,0≤x∧x≤255)∧(xs=[]∨∃ b off,a=some ⟨b,off,none⟩∧b<w.heap.size∧∀ i,i<xs.length→w.cell? ⟨b,off+i,none⟩=some (.int .u8 (xs.getD i 0)))
theorem Bytes.cells {w:World} {a:Option Addr} {xs:List Int} (h:Bytes w a xs) {i:Nat} (hi:i<xs.length):∃ b off,a=some ⟨b,off,none⟩∧∀ i,i<xs.length→w.cell? ⟨b,off+i,none⟩=some (.int .u8 (xs.getD i 0)):=by
 rcases h.2 with rfl | ⟨b,off,h1,h2,h3⟩
 ·simp at hi
 ·exact ⟨b,off,h1,h3⟩
theorem Bytes.cells' {w:World} {a:Option Addr} {xs:List Int} (h:Bytes w a xs) {i:Nat} (hi:i<xs.length):∃ b off,a=some ⟨b,off,none⟩∧b<w.heap.size∧∀ i,i<xs.length→w.cell? ⟨b,off+i,none⟩=some (.int .u8 (xs.getD i 0)):=by
 rcases h.2 with rfl | ⟨b,off,h1,h2,h3⟩
 ·simp at hi
 ·exact ⟨b,off,h1,h2,h3⟩
theorem Bytes.only {S:Nat→Prop} {w w':World} {a:Option Addr} {xs:List Int} (h:Bytes w a xs) (ho:Xg S w w') (hS:∀ b off,a=some ⟨b,off,none⟩→¬ S b):Bytes w' a xs:=by
 refine ⟨h.1,h.2.imp id ?_⟩
 rintro ⟨b,off,h1,h2,h3⟩;exact ⟨b,off,h1,Nat.lt_of_lt_of_le h2 ho.size,fun i hi=>(ho.cell (p:=⟨b,off+i,none⟩) h2 (hS b off h1)).trans (h3 i hi)⟩
theorem Bytes.grew {w w':World} {a:Option Addr} {xs:List Int} (h:Bytes w a xs) (ho:q1u w w'):Bytes w' a xs:=h.only ho (fun _ _ _ x=>x)
theorem Bytes.byte {w:World} {a:Option Addr} {xs:List Int} (h:Bytes w a xs) (i:Nat):0≤xs.getD i 0∧xs.getD i 0≤255:=by
 by_cases hi:i<xs.length
 ·rw [List.getD_eq_getElem?_getD,List.getElem?_eq_getElem hi];exact h.1 _ (List.getElem_mem hi)
 ·rw [List.getD_eq_getElem?_getD,List.getElem?_eq_none (by omega)];simp
theorem zx (a1 a2:Option Addr) (c1 c2:Nat) (xs ys:List Int) (w:World) (h1:Bytes w a1 xs) (h2:Bytes w a2 ys) (hl1:xs.length≤1000000) (hl2:ys.length≤1000000) :
 Calls prog 99 #[.slice a1 xs.length c1,.slice a2 ys.length c2] w fun e w'=>e=.returned (.bool (decide (xs=ys)))∧q1u w w':=by
 by_cases hl:xs.length=ys.length
 ·have H1:=Lib.hid h1;clear h1
  have H2:=Lib.hid h2;clear h2;have HL:=Lib.hid hl;rw [← hl];clear hl hl2;go_enter func99,ntmps99
  go_wp2
  go_loopw [13] (fun i wr=>∃ k:Nat,k≤xs.length∧i=.int .i64 k∧Hid (∀ j,j<k→xs.getD j 0=ys.getD j 0)∧q1u w wr) (fun i _=>xs.length - (intOf i).toNat)
  case atStart=>exact ⟨0,Nat.zero_le _,rfl,fun j hj=>by omega,Xg.refl _ _⟩
  case round =>
   obtain ⟨k,hk,rfl,hF,hG⟩:=hrel;by_cases hlt:k<xs.length
   ·obtain ⟨b1,o1,rfl,hc1⟩:=(H1.out.grew hG).cells hlt
    obtain ⟨b2,o2,rfl,hc2⟩:=(H2.out.grew hG).cells (by rw [← HL.out];exact hlt);have d1:=hc1 k hlt;have d2:=hc2 k (by rw [← HL.out];exact hlt);clear hc1 hc2;generalize hx:xs.getD k 0=x at d1;generalize hy:ys.getD k 0=y at d2;have HX:=Lib.hid hx;clear hx;have HY:=Lib.hid hy;clear hy;by_cases hxy:x=y
    ·have e1:(x != y)=false:=by simp [hxy]
     have HE:=Lib.hid hxy;clear hxy;go_wp2
     go_quiet (fail)
     go_wp2
     go_roundw
     case rel =>
      refine ⟨k+1,by omega,by go_num,fun j hj=>?_,hG.drewN _⟩
      by_cases hjk:j=k
      ·subst hjk;rw [HX.out,HY.out];exact HE.out
      ·exact hF.out j (by omega)
     case measure=>simp [intOf];omega
    ·have e1:(x != y)=true:=by simp [hxy]
     have HE:=Lib.hid hxy;clear hxy;go_wp2
     go_quiet (fail)
     go_wp2
     go_ret
     refine ⟨zm ?_,hG.drewN _⟩
     symm
     rw [decide_eq_false_iff_not];intro e;exact HE.out (by rw [← HX.out,← HY.out,e])
   ·go_wp2
    go_ret
    refine ⟨zm ?_,hG⟩
    symm
    rw [decide_eq_true_eq];have HL':=HL.out;have hk':k=xs.length:=by omega
    subst hk';refine List.ext_getElem HL' (fun i h1 h2=>?_)
    have:=hF.out i h1;rwa [List.getD_eq_getElem?_getD,List.getD_eq_getElem?_getD,List.getElem?_eq_getElem h1,List.getElem?_eq_getElem h2] at this
 ·have hne:((xs.length:Int) != (ys.length:Int))=true:=by simp;omega
  have HL:=Lib.hid hl;clear hl;have H1:=Lib.hid h1;clear h1;have H2:=Lib.hid h2;clear h2;go_enter func99,ntmps99
  go_wp2
  go_ret
  refine ⟨zm ?_,Xg.refl _ _⟩
  symm
  rw [decide_eq_false_iff_not];intro e;exact HL.out (by rw [e])
def Ent.zero:Ent:=⟨0,0,0,0,0,0⟩
def qrt (zs:List Int):Ent:=if zs.getD 0 0=1 then ⟨1,zs.getD 1 0,zs.getD 2 0,zs.getD 3 0,zs.getD 4 0,zs.getD 5 0⟩ else ⟨zs.getD 0 0,zs.getD 1 0,0,0,0,0⟩
def Y4 (zs:List Int):Ent:=if zs.length<6 then Ent.zero else if (qrt zs).ok=true∧(qrt zs).bytes=zs then qrt zs else Ent.zero
theorem size_drew (w:World):w.drew.heap.size=w.heap.size:=rfl
def qnm (e:Ent) (w:World) (r:Ending) (w':World):Prop:=r=.returned e.val∧q1u w w'
theorem Bytes.new {w:World} {b:Nat} {xs:List Int} {t:TypeId} (hx:∀ x∈xs,0≤x∧x≤255) (hb:w.heap[b]?=some (.cells (xs.map (Value.int .u8)).toArray t (0,0))):Bytes w (some ⟨b,0,none⟩) xs:=by
 refine ⟨hx,.inr ⟨b,0,rfl,(Array.getElem?_eq_some_iff.1 hb).1,fun i hi=>?_⟩⟩
 simp [World.cell?,hb,List.getD_eq_getElem?_getD,List.getElem?_eq_getElem hi]
theorem Ent.bytes_range (e:Ent):∀ x∈e.bytes,0≤x∧x≤255:=by
 intro x hx;unfold Ent.bytes at hx;split at hx <;> simp at hx <;> omega
theorem Ent.bytes_length (e:Ent):e.bytes.length=6:=by unfold Ent.bytes;split <;> rfl
theorem qa6 {w:World} {B i j:Nat} {v:Value} (h:i≠j):(w.setCell ⟨B,i,none⟩ v).cell? ⟨B,j,none⟩=w.cell? ⟨B,j,none⟩ :=
 World.cell?_setCell_other _ _ _ _ (fun e=>h (by cases e;rfl))
theorem qc5 {w:World} {B i:Nat} {v:Value} (h:(w.cell? ⟨B,i,none⟩).isSome=true):(w.setCell ⟨B,i,none⟩ v).cell? ⟨B,i,none⟩=some v:=by
 obtain ⟨u,hu⟩:=Option.isSome_iff_exists.1 h;exact World.cell?_setCell_same _ _ _ hu
abbrev qyz (w:World) (B:Nat) (v0 v1 v2 v3 v4 v5:Value):World :=
 (((((w.setCell ⟨B,0,none⟩ v0).setCell ⟨B,1,none⟩ v1).setCell ⟨B,2,none⟩ v2).setCell ⟨B,3,none⟩ v3).setCell ⟨B,4,none⟩ v4).setCell ⟨B,5,none⟩ v5
theorem qp (w:World) (B:Nat) (v0 v1 v2 v3 v4 v5:Value):Xg (fun j=>j=B) w (qyz w B v0 v1 v2 v3 v4 v5):=by
 exact ((((((Xg.refl (fun j=>j=B) w).setCell ⟨B,0,none⟩ (.inl rfl) v0).setCell ⟨B,1,none⟩ (.inl rfl) v1).setCell ⟨B,2,none⟩ (.inl rfl) v2).setCell ⟨B,3,none⟩ (.inl rfl) v3).setCell ⟨B,4,none⟩ (.inl rfl) v4).setCell ⟨B,5,none⟩ (.inl rfl) v5
theorem Yv {w:World} {B:Nat} {c0 c1 c2 c3 c4 c5:Value} (hk:∀ o,w.cell? ⟨B,o,none⟩=#[c0,c1,c2,c3,c4,c5][o]?) (v0 v1 v2 v3 v4 v5:Value) :
 (qyz w B v0 v1 v2 v3 v4 v5).cell? ⟨B,0,none⟩=some v0∧(qyz w B v0 v1 v2 v3 v4 v5).cell? ⟨B,1,none⟩=some v1∧(qyz w B v0 v1 v2 v3 v4 v5).cell? ⟨B,2,none⟩=some v2 ∧
 (qyz w B v0 v1 v2 v3 v4 v5).cell? ⟨B,3,none⟩=some v3∧(qyz w B v0 v1 v2 v3 v4 v5).cell? ⟨B,4,none⟩=some v4∧(qyz w B v0 v1 v2 v3 v4 v5).cell? ⟨B,5,none⟩=some v5:=by
 have hk0:=hk 0;have hk1:=hk 1;have hk2:=hk 2;have hk3:=hk 3;have hk4:=hk 4;have hk5:=hk 5;simp at hk0 hk1 hk2 hk3 hk4 hk5
 refine ⟨?_,?_,?_,?_,?_,?_⟩ <;> simp (disch:=decide) only [qyz,qa6]
 ·exact qc5 (by rw [hk0];rfl)
 ·refine qc5 ?_;simp (disch:=decide) only [qa6,hk1,Option.isSome_some]
 ·refine qc5 ?_;simp (disch:=decide) only [qa6,hk2,Option.isSome_some]
 ·refine qc5 ?_;simp (disch:=decide) only [qa6,hk3,Option.isSome_some]
 ·refine qc5 ?_;simp (disch:=decide) only [qa6,hk4,Option.isSome_some]
 ·refine qc5 ?_;simp (disch:=decide) only [qa6,hk5,Option.isSome_some]
theorem qrg {fn:Func} {tmps:Array Value} {W:World} {B:Nat} {p:Tmp} {v0 v1 v2 v3 v4 v5:Value} (hres:fn.results=#[.cell p 56]) (hp:tmps.getD p undef=.pointer (some ⟨B,0,none⟩))
 (h:W.cell? ⟨B,0,none⟩=some v0∧W.cell? ⟨B,1,none⟩=some v1∧W.cell? ⟨B,2,none⟩=some v2∧W.cell? ⟨B,3,none⟩=some v3∧W.cell? ⟨B,4,none⟩=some v4∧W.cell? ⟨B,5,none⟩=some v5) :
 (results fn tmps).run prog W=.ok (.agg #[v0,v1,v2,v3,v4,v5]) W:=by
 obtain ⟨h0,h1,h2,h3,h4,h5⟩:=h;have hp':tmps[p]?.getD undef=.pointer (some ⟨B,0,none⟩):=by simpa using hp
 simp only [results,hres];simp [hp',go_sem,h0,h1,h2,h3,h4,h5]
theorem qrm (a:Option Addr) (cap:Nat) (zs:List Int) (w:World) (hl:zs.length<6) :
 Calls prog 74 #[.slice a zs.length cap] w (qnm (Y4 zs) w):=by
 have hr:Y4 zs=Ent.zero:=if_pos hl;have HR:=Lib.hid hr;clear hr;go_enter func74,ntmps74
 go_wp2
 refine bodyPost_ret (v:=Ent.zero.val) (by simp [results,results74,go_sem,Ent.val,Ent.zero]) rfl ⟨by rw [HR.out],?_⟩
 exact (Xg.refl _ _).alloc _
theorem qx2 (a:Option Addr) (cap:Nat) (zs:List Int) (w:World) (hl:¬ zs.length<6) (hu:zs.length≤1000000) (hb:Bytes w a zs) (h1:zs.getD 0 0=1) :
 Calls prog 74 #[.slice a zs.length cap] w (qnm (Y4 zs) w):=by
 have hr:Y4 zs=if (qrt zs).ok=true∧(qrt zs).bytes=zs then qrt zs else Ent.zero:=if_neg hl
 have ht:qrt zs=⟨1,zs.getD 1 0,zs.getD 2 0,zs.getD 3 0,zs.getD 4 0,zs.getD 5 0⟩:=if_pos h1;obtain ⟨b,off,rfl,hlt,hc⟩:=hb.cells' (i:=0) (by omega);have hlt1:b<w.heap.size+1:=by omega
 have hlt2:b<w.heap.size+2:=by omega
 have hlt3:b<w.heap.size+1+1:=by omega
 have c0:=hc 0 (by omega);have c1:=hc 1 (by omega);have c2:=hc 2 (by omega);have c3:=hc 3 (by omega);have c4:=hc 4 (by omega);have c5:=hc 5 (by omega);rw [h1] at c0;have b1:=hb.byte 1;have b2:=hb.byte 2;have b3:=hb.byte 3;have b4:=hb.byte 4;have b5:=hb.byte 5;have HB:=Lib.hid hb;clear hb;generalize zs.getD 1 0=z1 at *;generalize zs.getD 2 0=z2 at *;generalize zs.getD 3 0=z3 at *;generalize zs.getD 4 0=z4 at *;generalize zs.getD 5 0=z5 at *;have HR:=Lib.hid hr;clear hr;have HT:=Lib.hid ht;clear ht;clear hc h1;have hl':¬ ((zs.length:Int)<6):=by omega
 clear hl;obtain ⟨p1,q1⟩:=b1;obtain ⟨p2,q2⟩:=b2;obtain ⟨p3,q3⟩:=b3;obtain ⟨p4,q4⟩:=b4;obtain ⟨p5,q5⟩:=b5;simp only [Nat.add_zero] at c0;cases hok:Ent.ok ⟨1,z1,z2,z3,z4,z5⟩
 ·have hfin:Y4 zs=Ent.zero:=by rw [HR.out,HT.out,hok];simp
  have HF:=Lib.hid hfin;clear hfin;go_enter func74,ntmps74
  go_wp2
  go_region
  go_wp2
  go_region
  go_wp2_with fail
  refine (Jm _ _ _ _ _ _ _).mono ?_
  rw [hok];rintro e w1 ⟨rfl,hg⟩;have hz:=hg.size;simp only [World.size_alloc,size_drew] at hz;have hk:=hg.blk (B:=w.heap.size) (show _=_ from alloc_old (Xk _ rfl) _) (fun x=>x);have hkc:=Qj hk;have hkf:=Qt hk;go_wp2
  refine bodyPost_ret (v:=Ent.zero.val) (qrg rfl rfl (Yv hkc _ _ _ _ _ _)) rfl ⟨by rw [HF.out],?_⟩
  refine Xg.of_new (b:=w1) (qp _ _ _ _ _ _ _ _) ?_ (fun i h=>by omega)
  exact Xg.trans (((((Xg.refl _ w).alloc _).alloc _).drew).drew) hg
 ·by_cases hby:Ent.bytes ⟨1,z1,z2,z3,z4,z5⟩=zs
  ·have hfin:Y4 zs=⟨1,z1,z2,z3,z4,z5⟩:=by rw [HR.out,HT.out];exact if_pos ⟨hok,hby⟩
   have HF:=Lib.hid hfin;clear hfin;have hd:decide (Ent.bytes ⟨1,z1,z2,z3,z4,z5⟩=zs)=true:=by simpa using hby
   have HBY:=Lib.hid hby;clear hby;go_enter func74,ntmps74
   go_wp2
   go_region
   go_wp2
   go_region
   go_wp2_with fail
   refine (Jm _ _ _ _ _ _ _).mono ?_
   rw [hok];rintro e w1 ⟨rfl,hg⟩;have hz:=hg.size;simp only [World.size_alloc,size_drew] at hz;have hk:=hg.blk (B:=w.heap.size) (show _=_ from alloc_old (Xk _ rfl) _) (fun x=>x);have hk2:=hg.blk (B:=w.heap.size+1) (show _=_ from Xk _ (by simp)) (fun x=>x);have hkc:=Qj hk2;have hkf:=Qt hk2;have hg0:=Xg.trans (((((Xg.refl _ w).alloc _).alloc _).drew).drew) hg;clear hg;have HB1:=Lib.hid (HB.out.grew hg0);go_wp2_with fail
   refine (J8 _ _ _ _ _ _ _).mono ?_
   rintro e w2 ⟨rfl,hw2,hg2⟩;have heq:=fun c=>zx (some ⟨w1.heap.size+1,0,none⟩) (some ⟨b,off,none⟩) 6 c _ zs w2 (Bytes.new (Ent.bytes_range _) hw2) (HB1.out.grew hg2) (by rw [Ent.bytes_length];omega) hu
   simp only [Ent.bytes_length,hd] at heq;have hz2:=hg2.size;have hm:=hg2.blk hk (fun x=>x);have hm2:=hg2.blk hk2 (fun x=>x);have hg1:=Xg.trans hg0 hg2;clear hkc hkf hk hk2 hg2 hg0 hw2 HB1;have HQ:=Lib.hid heq;clear heq;go_wp2_with fail
   refine (HQ.out _).mono ?_
   rintro e w3 ⟨rfl,hg3⟩;have hz3:=hg3.size;have hk:=hg3.blk hm (fun x=>x);have hk2:=hg3.blk hm2 (fun x=>x);have hkc:=Qj hk;have hkf:=Qt hk;have hkc2:=Qj hk2;have hg4:=Xg.trans hg1 hg3;clear hg1 hg3 HQ hm hm2;go_wp2
   refine bodyPost_ret (v:=Ent.val ⟨1,z1,z2,z3,z4,z5⟩) (qrg rfl rfl (Yv hkc _ _ _ _ _ _)) rfl ⟨by rw [HF.out],?_⟩
   exact Xg.of_new (b:=w3) (qp _ _ _ _ _ _ _ _) hg4 (fun i h=>by omega)
  ·have hfin:Y4 zs=Ent.zero:=by rw [HR.out,HT.out];exact if_neg (fun h=>hby h.2)
   have HF:=Lib.hid hfin;clear hfin;have hd:decide (Ent.bytes ⟨1,z1,z2,z3,z4,z5⟩=zs)=false:=by simpa using hby
   have HBY:=Lib.hid hby;clear hby;go_enter func74,ntmps74
   go_wp2
   go_region
   go_wp2
   go_region
   go_wp2_with fail
   refine (Jm _ _ _ _ _ _ _).mono ?_
   rw [hok];rintro e w1 ⟨rfl,hg⟩;have hz:=hg.size;simp only [World.size_alloc,size_drew] at hz;have hk:=hg.blk (B:=w.heap.size) (show _=_ from alloc_old (Xk _ rfl) _) (fun x=>x);have hk2:=hg.blk (B:=w.heap.size+1) (show _=_ from Xk _ (by simp)) (fun x=>x);have hkc:=Qj hk2;have hkf:=Qt hk2;have hg0:=Xg.trans (((((Xg.refl _ w).alloc _).alloc _).drew).drew) hg;clear hg;have HB1:=Lib.hid (HB.out.grew hg0);go_wp2_with fail
   refine (J8 _ _ _ _ _ _ _).mono ?_
   rintro e w2 ⟨rfl,hw2,hg2⟩;have heq:=fun c=>zx (some ⟨w1.heap.size+1,0,none⟩) (some ⟨b,off,none⟩) 6 c _ zs w2 (Bytes.new (Ent.bytes_range _) hw2) (HB1.out.grew hg2) (by rw [Ent.bytes_length];omega) hu
   simp only [Ent.bytes_length,hd] at heq;have hz2:=hg2.size;have hm:=hg2.blk hk (fun x=>x);have hm2:=hg2.blk hk2 (fun x=>x);have hg1:=Xg.trans hg0 hg2;clear hkc hkf hk hk2 hg2 hg0 hw2 HB1;have HQ:=Lib.hid heq;clear heq;go_wp2_with fail
   refine (HQ.out _).mono ?_
   rintro e w3 ⟨rfl,hg3⟩;have hz3:=hg3.size;have hk:=hg3.blk hm (fun x=>x);have hk2:=hg3.blk hm2 (fun x=>x);have hkc:=Qj hk;have hkf:=Qt hk;have hkc2:=Qj hk2;have hg4:=Xg.trans hg1 hg3;clear hg1 hg3 HQ hm hm2;go_wp2
   refine bodyPost_ret (v:=Ent.zero.val) (qrg rfl rfl (Yv hkc _ _ _ _ _ _)) rfl ⟨by rw [HF.out],?_⟩
   exact Xg.of_new (b:=w3) (qp _ _ _ _ _ _ _ _) hg4 (fun i h=>by omega)
theorem qqy (a:Option Addr) (cap:Nat) (zs:List Int) (w:World) (hl:¬ zs.length<6) (hu:zs.length≤1000000) (hb:Bytes w a zs) (h1:¬ zs.getD 0 0=1) :
 Calls prog 74 #[.slice a zs.length cap] w (qnm (Y4 zs) w):=by
 have hr:Y4 zs=if (qrt zs).ok=true∧(qrt zs).bytes=zs then qrt zs else Ent.zero:=if_neg hl
 have ht:qrt zs=⟨zs.getD 0 0,zs.getD 1 0,0,0,0,0⟩:=if_neg h1;obtain ⟨b,off,rfl,hlt,hc⟩:=hb.cells' (i:=0) (by omega);have hlt1:b<w.heap.size+1:=by omega
 have hlt2:b<w.heap.size+2:=by omega
 have hlt3:b<w.heap.size+1+1:=by omega
 have c0:=hc 0 (by omega);have c1:=hc 1 (by omega);have b0:=hb.byte 0;have b1:=hb.byte 1;have HB:=Lib.hid hb;clear hb;generalize zs.getD 0 0=z0 at *;generalize zs.getD 1 0=z1 at *;have HR:=Lib.hid hr;clear hr;have HT:=Lib.hid ht;clear ht;have h1':(z0 == 1)=false:=by simpa using h1
 clear hc h1;have hl':¬ ((zs.length:Int)<6):=by omega
 clear hl;obtain ⟨p0,q0⟩:=b0;obtain ⟨p1,q1⟩:=b1;simp only [Nat.add_zero] at c0;cases hok:Ent.ok ⟨z0,z1,0,0,0,0⟩
 ·have hfin:Y4 zs=Ent.zero:=by rw [HR.out,HT.out,hok];simp
  have HF:=Lib.hid hfin;clear hfin;go_enter func74,ntmps74
  go_wp2
  go_region
  go_wp2_with fail
  refine (Jm _ _ _ _ _ _ _).mono ?_
  rw [hok];rintro e w1 ⟨rfl,hg⟩;have hz:=hg.size;simp only [World.size_alloc,size_drew] at hz;have hk:=hg.blk (B:=w.heap.size) (show _=_ from alloc_old (Xk _ rfl) _) (fun x=>x);have hkc:=Qj hk;have hkf:=Qt hk;go_wp2
  refine bodyPost_ret (v:=Ent.zero.val) (qrg rfl rfl (Yv hkc _ _ _ _ _ _)) rfl ⟨by rw [HF.out],?_⟩
  refine Xg.of_new (b:=w1) (qp _ _ _ _ _ _ _ _) ?_ (fun i h=>by omega)
  exact Xg.trans ((((Xg.refl _ w).alloc _).alloc _).drew) hg
 ·by_cases hby:Ent.bytes ⟨z0,z1,0,0,0,0⟩=zs
  ·have hfin:Y4 zs=⟨z0,z1,0,0,0,0⟩:=by rw [HR.out,HT.out];exact if_pos ⟨hok,hby⟩
   have HF:=Lib.hid hfin;clear hfin;have hd:decide (Ent.bytes ⟨z0,z1,0,0,0,0⟩=zs)=true:=by simpa using hby
   have HBY:=Lib.hid hby;clear hby;go_enter func74,ntmps74
   go_wp2
   go_region
   go_wp2_with fail
   refine (Jm _ _ _ _ _ _ _).mono ?_
   rw [hok];rintro e w1 ⟨rfl,hg⟩;have hz:=hg.size;simp only [World.size_alloc,size_drew] at hz;have hk:=hg.blk (B:=w.heap.size) (show _=_ from alloc_old (Xk _ rfl) _) (fun x=>x);have hk2:=hg.blk (B:=w.heap.size+1) (show _=_ from Xk _ (by simp)) (fun x=>x);have hkc:=Qj hk2;have hkf:=Qt hk2;have hg0:=Xg.trans ((((Xg.refl _ w).alloc _).alloc _).drew) hg;clear hg;have HB1:=Lib.hid (HB.out.grew hg0);go_wp2_with fail
   refine (J8 _ _ _ _ _ _ _).mono ?_
   rintro e w2 ⟨rfl,hw2,hg2⟩;have heq:=fun c=>zx (some ⟨w1.heap.size+1,0,none⟩) (some ⟨b,off,none⟩) 6 c _ zs w2 (Bytes.new (Ent.bytes_range _) hw2) (HB1.out.grew hg2) (by rw [Ent.bytes_length];omega) hu
   simp only [Ent.bytes_length,hd] at heq;have hz2:=hg2.size;have hm:=hg2.blk hk (fun x=>x);have hm2:=hg2.blk hk2 (fun x=>x);have hg1:=Xg.trans hg0 hg2;clear hkc hkf hk hk2 hg2 hg0 hw2 HB1;have HQ:=Lib.hid heq;clear heq;go_wp2_with fail
   refine (HQ.out _).mono ?_
   rintro e w3 ⟨rfl,hg3⟩;have hz3:=hg3.size;have hk:=hg3.blk hm (fun x=>x);have hk2:=hg3.blk hm2 (fun x=>x);have hkc:=Qj hk;have hkf:=Qt hk;have hkc2:=Qj hk2;have hg4:=Xg.trans hg1 hg3;clear hg1 hg3 HQ hm hm2;go_wp2
   refine bodyPost_ret (v:=Ent.val ⟨z0,z1,0,0,0,0⟩) (qrg rfl rfl (Yv hkc _ _ _ _ _ _)) rfl ⟨by rw [HF.out],?_⟩
   exact Xg.of_new (b:=w3) (qp _ _ _ _ _ _ _ _) hg4 (fun i h=>by omega)
  ·have hfin:Y4 zs=Ent.zero:=by rw [HR.out,HT.out];exact if_neg (fun h=>hby h.2)
   have HF:=Lib.hid hfin;clear hfin;have hd:decide (Ent.bytes ⟨z0,z1,0,0,0,0⟩=zs)=false:=by simpa using hby
   have HBY:=Lib.hid hby;clear hby;go_enter func74,ntmps74
   go_wp2
   go_region
   go_wp2_with fail
   refine (Jm _ _ _ _ _ _ _).mono ?_
   rw [hok];rintro e w1 ⟨rfl,hg⟩;have hz:=hg.size;simp only [World.size_alloc,size_drew] at hz;have hk:=hg.blk (B:=w.heap.size) (show _=_ from alloc_old (Xk _ rfl) _) (fun x=>x);have hk2:=hg.blk (B:=w.heap.size+1) (show _=_ from Xk _ (by simp)) (fun x=>x);have hkc:=Qj hk2;have hkf:=Qt hk2;have hg0:=Xg.trans ((((Xg.refl _ w).alloc _).alloc _).drew) hg;clear hg;have HB1:=Lib.hid (HB.out.grew hg0);go_wp2_with fail
   refine (J8 _ _ _ _ _ _ _).mono ?_
   rintro e w2 ⟨rfl,hw2,hg2⟩;have heq:=fun c=>zx (some ⟨w1.heap.size+1,0,none⟩) (some ⟨b,off,none⟩) 6 c _ zs w2 (Bytes.new (Ent.bytes_range _) hw2) (HB1.out.grew hg2) (by rw [Ent.bytes_length];omega) hu
   simp only [Ent.bytes_length,hd] at heq;have hz2:=hg2.size;have hm:=hg2.blk hk (fun x=>x);have hm2:=hg2.blk hk2 (fun x=>x);have hg1:=Xg.trans hg0 hg2;clear hkc hkf hk hk2 hg2 hg0 hw2 HB1;have HQ:=Lib.hid heq;clear heq;go_wp2_with fail
   refine (HQ.out _).mono ?_
   rintro e w3 ⟨rfl,hg3⟩;have hz3:=hg3.size;have hk:=hg3.blk hm (fun x=>x);have hk2:=hg3.blk hm2 (fun x=>x);have hkc:=Qj hk;have hkf:=Qt hk;have hkc2:=Qj hk2;have hg4:=Xg.trans hg1 hg3;clear hg1 hg3 HQ hm hm2;go_wp2
   refine bodyPost_ret (v:=Ent.zero.val) (qrg rfl rfl (Yv hkc _ _ _ _ _ _)) rfl ⟨by rw [HF.out],?_⟩
   exact Xg.of_new (b:=w3) (qp _ _ _ _ _ _ _ _) hg4 (fun i h=>by omega)
theorem qqv (a:Option Addr) (cap:Nat) (zs:List Int) (w:World) (hu:zs.length≤1000000) (hb:Bytes w a zs) :
 Calls prog 74 #[.slice a zs.length cap] w (qnm (Y4 zs) w):=by
 by_cases hl:zs.length<6
 ·exact qrm a cap zs w hl
 ·by_cases h1:zs.getD 0 0=1
  ·exact qx2 a cap zs w hl hu hb h1
  ·exact qqy a cap zs w hl hu hb h1
end
end Go.Proofs.YtikpbibeagbccaaGreat
