import Derived.Test.YtcneeepdclgdcaaGreatCO11
import Derived.Test.YtcneeepdclgdcaaGreatCO12
import Derived.Test.YtcneeepdclgdcaaGreatCO4
import Derived.LaidEqlPtr
set_option maxRecDepth 100000
set_option maxHeartbeats 4000000
namespace Go.Proofs.YtcneeepdclgdcaaGreat
set_option linter.unusedVariables false
set_option linter.unusedSimpArgs false
open Go.Proofs.Tryz
section
open Go.RowKit Go.Shelf
abbrev Qd (b:Nat):Value:=.pointer (some ⟨b,0,none⟩)
theorem qax:Qa prog 175 #[] [] fun e gs=>∃ b,e=.returned (Qd b)∧gs=[]:=by
 refine GO fun w HT=>?_
 go_enter func175,ntmps175
 go_wp2
 go_ret
 exact ⟨[],⟨_,rfl,rfl⟩,(HT.out.alloc0 _).alloc0 _⟩
theorem qdq:Qa prog 176 #[] [] fun e gs=>∃ b,e=.returned (Qd b)∧gs=[]:=by
 refine GO fun w HT=>?_
 go_enter func176,ntmps176
 go_wp2
 have T1:=HT.out.alloc (k:=w.heap.size) rfl 321 Tryz.zeroCells321
 go_loopw [2,5] (fun _ i wr=>∃ (k:Nat) (C:Array Value),k≤64∧i=.int .i64 k∧C.size=66∧TG [] w [[cl w.heap.size 321 C]] wr) (fun _ i _=>65 - (intOf i).toNat)
 case atStart=>exact ⟨0,_,by omega,rfl,by kernel_rfl,T1⟩
 case round =>
  obtain ⟨lb,hlb⟩:∃ lb,lb=w.heap.size:=⟨_,rfl⟩;rw [← hlb] at hrel ⊢;obtain ⟨k,C,hk,rfl,hC,T⟩:=hrel;have HT:=Vh T;have HC:=Vh hC;clear T T1 hC hlb;by_cases hlt:k<64
  ·have c0:=Array.getElem?_eq_getElem (xs:=C) (i:=k) (by rw [HC.out];omega)
   have HC0:=Vh c0;clear c0;go_wp2
   go_region_with (
    go_at_call 175
    refine (Qa.use qax HT.out.drew [] rfl rfl).mono ?_
    rintro e w1 ⟨gs,⟨b,rfl,rfl⟩,Ta⟩;simp only [qae,List.nil_append,List.append_nil] at Ta;have c1:=(Ta.cell 0 0 rfl k).trans HC0.out;have f1:=Ta.free 0 0 rfl k;have HT1:=Vh Ta
    clear Ta)
   go_wp2
   first
   | (go_roundw
      case rel=>exact ⟨k+1,_,by omega,by go_num,by rw [Array.size_setIfInBounds];exact HC.out,HT1.out.set 0 0 rfl k _⟩
      case measure=>simp [intOf];omega)
   | exact ⟨⟨k+1,_,by omega,by go_num,by rw [Array.size_setIfInBounds];exact HC.out,HT1.out.set 0 0 rfl k _⟩,by simp [intOf];omega⟩
   | ((repeat apply Exists.intro);exact ⟨⟨⟨k+1,_,by omega,by go_num,by rw [Array.size_setIfInBounds];exact HC.out,HT1.out.set 0 0 rfl k _⟩,rfl⟩,by simp [intOf];omega⟩)
  ·go_wp2
   go_ret
   exact ⟨[],⟨_,rfl,rfl⟩,HT.out.pick [] rfl⟩
theorem qdk (now:Int):Qa prog 135 #[.int .u64 now] [] fun e gs=>∃ b,e=.returned (Qd b)∧gs=[]:=by
 refine GO fun w HT=>?_
 go_enter func135,ntmps135
 go_wp2_with fail
 refine Qa.run (qax) (HT.out) [] ?_
 rintro e w1 gs ⟨b0,rfl,rfl⟩ HT;simp only [PU] at HT;go_wp2
 have T1:=HT.out.alloc (k:=w1.heap.size) rfl 257 #[.int .u64 now,.pointer none,.pointer none,.pointer none,.pointer none,Qd b0,.int .i64 0]
 go_loopw [4,9] (fun _ i wr=>∃ (k:Nat) (C:Array Value),k≤4∧i=.int .i64 k∧C.size=7∧TG [] w [[cl w1.heap.size 257 C]] wr) (fun _ i _=>5 - (intOf i).toNat)
 case atStart=>exact ⟨0,_,by omega,rfl,rfl,T1⟩
 case round =>
  obtain ⟨lb,hlb⟩:∃ lb,lb=w1.heap.size:=⟨_,rfl⟩;rw [← hlb] at hrel ⊢;obtain ⟨k,C,hk,rfl,hC,T⟩:=hrel;have HT:=Vh T;have HC:=Vh hC;clear T T1 hC hlb;by_cases hlt:k<4
  ·have c0:=Array.getElem?_eq_getElem (xs:=C) (i:=1+k) (by rw [HC.out];omega)
   have HC0:=Vh c0;clear c0;go_wp2
   go_region_with (
    go_at_call 176
    refine (Qa.use qdq HT.out.drew [] rfl rfl).mono ?_
    rintro e w2 ⟨gs,⟨b,rfl,rfl⟩,Ta⟩;simp only [qae,List.nil_append,List.append_nil] at Ta;have c1:=(Ta.cell 0 0 rfl (1+k)).trans HC0.out;have f1:=Ta.free 0 0 rfl (1+k);have HT1:=Vh Ta
    clear Ta)
   go_wp2
   first
   | (go_roundw
      case rel=>exact ⟨k+1,_,by omega,by go_num,by rw [Array.size_setIfInBounds];exact HC.out,HT1.out.set 0 0 rfl (1+k) _⟩
      case measure=>simp [intOf];omega)
   | exact ⟨⟨k+1,_,by omega,by go_num,by rw [Array.size_setIfInBounds];exact HC.out,HT1.out.set 0 0 rfl (1+k) _⟩,by simp [intOf];omega⟩
   | ((repeat apply Exists.intro);exact ⟨⟨⟨k+1,_,by omega,by go_num,by rw [Array.size_setIfInBounds];exact HC.out,HT1.out.set 0 0 rfl (1+k) _⟩,rfl⟩,by simp [intOf];omega⟩)
  ·go_wp2
   go_ret
   exact ⟨[],⟨_,rfl,rfl⟩,HT.out.pick [] rfl⟩
def qih (b:Nat) (who:Int) (n:Int) (g:List Blk):Prop:=∃ C,g=[cl b 170 C]∧C.size=5∧cellAt C 0 (.int .i64 who)∧C[4]?=some (.int .i64 n)
theorem qit:Qa prog 134 #[] [] fun e gs=>∃ b g,e=.returned (Qd b)∧qih b 0 0 g∧gs=[g]:=by
 refine GO fun w HT=>?_
 go_enter func134,ntmps134
 go_wp2
 go_ret
 exact ⟨_,⟨_,_,rfl,⟨_,rfl,rfl,⟨rfl,0,0,0,rfl,rfl,rfl⟩,rfl⟩,rfl⟩,HT.out.alloc rfl _ _⟩
theorem qjm:Qa prog 75 #[] [] fun e gs=>∃ b,e=.returned (Qd b)∧gs=[[cl b 232 #[.slice none 0 0]]]:=by
 refine GO fun w HT=>?_
 go_enter func75,ntmps75
 go_wp2
 go_ret
 exact ⟨_,⟨_,rfl,rfl⟩,HT.out.alloc rfl _ _⟩
def qa5 (b hb:Nat):List Blk:=[cl b 261 #[.pointer none,.pointer none,.int .i64 0,Qd hb],cl hb 282 #[.pointer none]]
theorem Yg:Qa prog 132 #[] [] fun e gs=>∃ b hb,e=.returned (Qd b)∧gs=[qa5 b hb]:=by
 refine GO fun w HT=>?_
 go_enter func132,ntmps132
 go_wp2
 go_ret
 exact ⟨_,⟨_,_,rfl,rfl⟩,((HT.out.alloc rfl _ _).alloc rfl _ _).re (by simp [qa5];exact List.Perm.swap _ _ _)⟩
structure Qn where
 id:Int
 slot:Int
 gen:Int
 dl:Int
 per:Int
def Qn.zero:Qn:=⟨0,0,0,0,0⟩
structure Jc where
 seq:Int
 v:Qn
structure Qo where
 slots:List Jc
 tail:Int
 head:Int
def qha (D:Array Value) (o:Nat) (t:Qn):Prop:=D[o]?=some (.int .u64 t.id)∧D[o+1]?=some (.int .i64 t.slot)∧D[o+2]?=some (.int .u64 t.gen)∧D[o+3]?=some (.int .u64 t.dl)∧D[o+4]?=some (.int .u64 t.per)
def qde (D:Array Value) (i:Nat) (s:Jc):Prop:=cellAt D (i*9) (.int .i64 s.seq)∧qha D (i*9+4) s.v
def Q6 (rb:Nat) (r:Qo) (g:List Blk):Prop:=∃ sb C D,g=[cl rb 249 C,cl sb 251 D]∧C.size=6∧C[0]?=some (.slice (some ⟨sb,0,none⟩) r.slots.length r.slots.length)∧cellAt C 1 (.int .i64 r.tail) ∧
 C[5]?=some (.int .i64 r.head)∧D.size=r.slots.length*9∧∀ i s,r.slots[i]?=some s→qde D i s
theorem qfg (b o:Nat) (T:TypeId) (C:Array Value) (u:Value) (x:Int) (hc:C[o]?=some u) :
 Qa prog 149 #[.pointer (some ⟨b,o,none⟩),.int .i64 x] [[cl b T C]] fun e gs=>e=.returned (.tuple #[])∧gs=[[cl b T (C.setIfInBounds o (.int .i64 x))]]:=by
 refine GO fun w HT=>?_
 have c0:=(HT.out.cell 0 0 rfl o).trans hc;have f0:=HT.out.free 0 0 rfl o;clear hc;go_enter func149,ntmps149
 go_wp2
 refine bodyPost_end (results_none rfl _ _ _) rfl ⟨_,⟨rfl,rfl⟩,HT.out.set 0 0 rfl o _⟩
def X5 (n:Nat):Qo:=⟨(List.range n).map fun (i:Nat)=>⟨2*(i:Int),Qn.zero⟩,0,0⟩
def qda:Array Value:=#[.int .i64 0,.int .i64 0,.int .i64 0,.int .i64 0,.int .u64 0,.int .i64 0,.int .u64 0,.int .u64 0,.int .u64 0]
theorem qh7:(prog.info? 251).map (fun i=>(i.zero,i.size,i.bytes))=some (some (.agg qda),9,72):=by kernel_rfl
def qjv (n k:Nat) (D:Array Value):Prop:=D.size=n*9∧∀ i,i<n→qde D i ⟨if i<k then 2*(i:Int) else 0,Qn.zero⟩
theorem qh8 (n:Nat):qjv n 0 (madeCells qda (n*9)):=by
 refine ⟨size_madeCells _ _,fun i hi=>?_⟩
 rw [if_neg (Nat.not_lt_zero _)];have hz:qda.size=9:=rfl;have g:∀ j,j<9→(madeCells qda (n*9))[i*9+j]?=qda[j]?:=fun j hj=>Z4 _ n 9 i j hz hi hj
 exact ⟨⟨g 0 (by decide),0,0,0,g 1 (by decide),g 2 (by decide),g 3 (by decide)⟩,g 4 (by decide),g 5 (by decide),g 6 (by decide),g 7 (by decide),g 8 (by decide)⟩
theorem qfv {D:Array Value} {i j:Nat} {s:Jc} (h:qde D i s) (x:Int):qde (D.setIfInBounds (j*9) (.int .i64 x)) i (if i=j then { s with seq:=x } else s):=by
 obtain ⟨⟨a0,l,t,u,a1,a2,a3⟩,b0,b1,b2,b3,b4⟩:=h;by_cases e:i=j
 ·subst e
  rw [if_pos rfl];exact ⟨⟨Q1 a0,l,t,u,(Qb (by omega)).trans a1,(Qb (by omega)).trans a2,(Qb (by omega)).trans a3⟩,(Qb (by omega)).trans b0,(Qb (by omega)).trans b1,(Qb (by omega)).trans b2,(Qb (by omega)).trans b3,(Qb (by omega)).trans b4⟩
 ·rw [if_neg e]
  exact ⟨⟨(Qb (by omega)).trans a0,l,t,u,(Qb (by omega)).trans a1,(Qb (by omega)).trans a2,(Qb (by omega)).trans a3⟩,(Qb (by omega)).trans b0,(Qb (by omega)).trans b1,(Qb (by omega)).trans b2,(Qb (by omega)).trans b3,(Qb (by omega)).trans b4⟩
theorem Y4 {n k:Nat} {D:Array Value} (h:qjv n k D) (hk:k<n):qjv n (k+1) (D.setIfInBounds (k*9) (.int .i64 (2*k))):=by
 refine ⟨by rw [Array.size_setIfInBounds];exact h.1,fun i hi=>?_⟩
 have h2:=qfv (j:=k) (h.2 i hi) (2*k);by_cases e:i=k
 ·subst e
  rw [if_pos rfl] at h2;rw [if_pos (by omega)];exact h2
 ·rw [if_neg e] at h2
  have e2:(if i<k+1 then 2*(i:Int) else 0)=if i<k then 2*(i:Int) else 0:=by
   by_cases h3:i<k
   ·rw [if_pos h3,if_pos (by omega)]
   ·rw [if_neg h3,if_neg (by omega)]
  rw [e2];exact h2
theorem qh5 (n:Nat) (h1:1≤n) (h2:n≤64):Qa prog 133 #[.int .i64 n] [] fun e gs=>∃ b g,e=.returned (.tuple #[Qd b,.int .i64 0])∧Q6 b (X5 n) g∧gs=[g]:=by
 refine GO fun w HT=>?_
 have hmk:∀ w,(Instr.makeSlice 247 (.int .i64 (n:Int)) (.int .i64 (n:Int))).run prog w=.ok (.slice (some ⟨w.heap.size,0,none⟩) n n) (w.alloc (.cells (madeCells qda (n*9)) 251)):=qaq _ _ (.agg qda) 9 72 underlying247 qh7 n (by omega) (by omega);have hd1:decide ((n:Int)<1)=false:=by simp;omega
 have hd2:decide (64<(n:Int))=false:=by simp;omega
 go_enter func133,ntmps133
 go_wp2
 have T1:=(HT.out.alloc (k:=w.heap.size) rfl 251 (madeCells qda (n*9))).alloc (k:=w.heap.size+1) (by simp) 249 #[.slice (some ⟨w.heap.size,0,none⟩) n n,.int .i64 0,.int .i64 0,.int .i64 0,.int .i64 0,.int .i64 0];obtain ⟨sb,hsb⟩:∃ sb,sb=w.heap.size:=⟨_,rfl⟩;rw [← hsb] at T1 ⊢;obtain ⟨rb,hrb⟩:∃ rb,rb=sb+1:=⟨_,rfl⟩;rw [← hrb] at T1 ⊢
 go_loopw [5,21] (fun _ i wr=>∃ (k:Nat) (D:Array Value),k≤n∧i=.int .i64 k∧qjv n k D∧TG [] w [[cl sb 251 D],[cl rb 249 #[.slice (some ⟨sb,0,none⟩) n n,.int .i64 0,.int .i64 0,.int .i64 0,.int .i64 0,.int .i64 0]]] wr) (fun _ i _=>n+1 - (intOf i).toNat)
 case atStart=>exact ⟨0,_,by omega,rfl,qh8 n,T1⟩
 case round =>
  obtain ⟨k,D,hk,rfl,hD,T⟩:=hrel;have HT:=Vh T;have HD:=Vh hD;have c1:=T.cell 1 0 rfl;clear T T1 hD hsb hrb;by_cases hlt:k<n
  ·go_wp2_with fail
   refine Qa.run (qfg sb (k*9) 251 D _ (2*k) (HD.out.2 k hlt).1.1) (HT.out) [0] ?_
   rintro e w1 gs ⟨rfl,rfl⟩ HT;simp only [PU] at HT;go_wp2
   first
   | (go_roundw
      case rel=>exact ⟨k+1,_,by omega,by go_num,Y4 HD.out hlt,HT.out⟩
      case measure=>simp [intOf];omega)
   | exact ⟨⟨k+1,_,by omega,by go_num,Y4 HD.out hlt,HT.out⟩,by simp [intOf];omega⟩
   | ((repeat apply Exists.intro);exact ⟨⟨⟨k+1,_,by omega,by go_num,Y4 HD.out hlt,HT.out⟩,rfl⟩,by simp [intOf];omega⟩)
  ·obtain rfl:k=n:=by omega
   go_wp2
   go_ret2
   refine ⟨_,⟨_,[cl rb 249 _,cl sb 251 D],rfl,⟨sb,_,D,rfl,rfl,by simp [X5],⟨rfl,0,0,0,rfl,rfl,rfl⟩,rfl,by simpa [X5] using HD.out.1,fun i s hs=>?_⟩,rfl⟩,HT.out.re (List.Perm.swap _ _ _)⟩
   have hi:i<k:=by have:=(List.getElem?_eq_some_iff.1 hs).1;simpa [X5] using this
   have h2:=HD.out.2 i hi;rw [if_pos hi] at h2;have e:s=⟨2*(i:Int),Qn.zero⟩:=by simp [X5,hi] at hs;exact hs.symm
   rw [e];exact h2
def q8 (pb:Nat) (g:List Blk):Prop:=∃ cb lb hb n:Nat,g=[cl pb 185 #[.chan (some cb),Qd lb,.int .i64 0,.bool false],(cb,.chan n #[] false 0 0 false)]++qa5 lb hb
def Jr (n pb:Nat) (g:List Blk):Prop:=∃ cb lb hb:Nat,g=[cl pb 185 #[.chan (some cb),Qd lb,.int .i64 0,.bool false],(cb,.chan n #[] false 0 0 false)]++qa5 lb hb
theorem Jr.is {n pb:Nat} {g:List Blk} (h:Jr n pb g):q8 pb g:=by obtain ⟨cb,lb,hb,e⟩:=h;exact ⟨cb,lb,hb,n,e⟩
theorem qid:(prog.info? 63).map (fun i=>(i.zero,i.size,i.bytes))=some (some (.agg #[.int .u64 0,.int .u64 0,.int .u64 0,.int .u64 0]),4,32):=by kernel_rfl
theorem qah (n:Nat) (hn:n≤16) (w:World):(Instr.makeChan 182 (.int .i64 (n:Int))).run prog w=.ok (.chan (some w.heap.size)) (w.alloc (.chan n #[] false 0 0 false)):=by
 obtain ⟨i,hi,_,_,hb⟩:=info_parts qid;have hw:IntKind.i64.wrap (n:Int)=n:=by rw [IntKind.wrap_i64];omega
 have h1:¬ ((n:Int)<0):=by omega
 have h2:¬ (9223372036854775807<(n:Int)):=by omega
 have h3:¬ (281474976710544<32*(n:Int)):=by omega
 simp [Instr.makeChan,asInt,asIntOf,run_underlying underlying182,typeInfo,hi,hb,hw,h1,h2,h3,newObj,IntKind.max,IntKind.bits,IntKind.signed]
 rfl
theorem qhr (n:Nat) (h1:1≤n) (h2:n≤16):Qa prog 77 #[.int .i64 n] [] fun e gs=>∃ b g,e=.returned (.tuple #[Qd b,.int .i64 0])∧Jr n b g∧gs=[g]:=by
 refine GO fun w HT=>?_
 have hmk:=qah n h2;have hd1:decide ((n:Int)<1)=false:=by simp;omega
 have hd2:decide (16<(n:Int))=false:=by simp;omega
 go_enter func77,ntmps77
 go_wp2
 go_region_with (
  go_at_call 132
  first
  | (refine (Qa.use Yg (HT.out.drew.put rfl (.chan n #[] false 0 0 false)) [] rfl rfl).mono ?_
     rintro e w1 ⟨gs,⟨lb,hb,rfl,rfl⟩,Ta⟩;have HT1:=Vh Ta
     clear Ta)
  | (refine (Qa.use Yg HT.out.drew [] rfl rfl).mono ?_
     rintro e w1 ⟨gs,⟨lb,hb,rfl,rfl⟩,Ta⟩;have HT1:=Vh Ta
     clear Ta))
 ·go_wp2
  go_ret2
  refine ⟨_,⟨_,_,rfl,⟨w.heap.size,lb,hb,rfl⟩,rfl⟩,(HT1.out.alloc (k:=w1.heap.size) rfl 185 #[.chan (some w.heap.size),Qd lb,.int .i64 0,.bool false]).re ?_⟩
  simp only [qae,List.nil_append,List.append_nil,List.cons_append,List.flatten_cons,List.flatten_nil,qa5];exact (List.perm_append_comm (l₁:=[_,_,_]) (l₂:=[_]))
 ·go_wp2
  go_ret2
  refine ⟨_,⟨_,_,rfl,⟨w1.heap.size,lb,hb,rfl⟩,rfl⟩,((HT1.out.put (k:=w1.heap.size) rfl (.chan n #[] false 0 0 false)).alloc (k:=w1.heap.size+1) (by simp) 185 #[.chan (some w1.heap.size),Qd lb,.int .i64 0,.bool false]).re ?_⟩
  simp only [qae,List.nil_append,List.append_nil,List.cons_append,List.flatten_cons,List.flatten_nil,qa5];exact (List.perm_append_comm (l₁:=[_,_]) (l₂:=[_,_])).trans (List.Perm.swap _ _ _)
structure Qy where
 ring:Qo
 who:Int
 turns:Int
def Xd (n:Nat):Qy:=⟨X5 n,0,0⟩
def qbz (b:Nat) (s:Qy) (g:List Blk):Prop:=∃ rb lb wb gr gl,Q6 rb s.ring gr∧qih lb s.who s.turns gl∧g=[cl b 238 #[Qd rb,Qd lb,Qd wb]]++gr++gl
theorem qfo (n:Nat) (h1:1≤n) (h2:n≤64):Qa prog 78 #[.int .i64 n] [] fun e gs=>∃ b g,e=.returned (.tuple #[Qd b,.int .i64 0])∧qbz b (Xd n) g∧gs=[g]:=by
 refine GO fun w HT=>?_
 go_enter func78,ntmps78
 go_wp2_with fail
 refine Qa.run (qh5 n h1 h2) (HT.out) [] ?_
 rintro e w1 gs ⟨rb,gr,rfl,hgr,rfl⟩ HT;simp only [PU] at HT;go_wp2_with fail
 refine Qa.run (qit) (HT.out) [] ?_
 rintro e w1 gs ⟨lb,gl,rfl,hgl,rfl⟩ HT;simp only [PU] at HT;go_wp2_with fail
 refine Qa.run (qdk 0) (HT.out) [] ?_
 rintro e w1 gs ⟨wb,rfl,rfl⟩ HT;simp only [PU] at HT;go_wp2
 go_ret2
 refine ⟨_,⟨_,_,rfl,⟨rb,lb,wb,gr,gl,hgr,hgl,rfl⟩,rfl⟩,(HT.out.alloc (k:=w1.heap.size) rfl 238 #[Qd rb,Qd lb,Qd wb]).re ?_⟩
 simp only [List.append_nil,List.cons_append,List.nil_append,List.flatten_cons,List.flatten_nil];rw [← List.append_assoc];exact List.perm_append_comm
structure qat where
 sb:Nat
 pb:Nat
 lb:Nat
 sh:Value
structure X3 where
 cfg:Cfg
 closed:Bool
 inside:Int
 busy:Int
 now:Int
structure Zh (p:qat) (f:X3) (tr:Value) (C:Array Value):Prop where
 size:C.size=27
 cfg:∀ i,i<6→C[i]?=f.cfg.cells[i]?
 slab:C[6]?=some (Qd p.sb)
 sh:C[7]?=some p.sh
 pipe:C[8]?=some (Qd p.pb)
 log:C[9]?=some (Qd p.lb)
 closed:cellAt C 10 (.bool f.closed)
 inside:cellAt C 14 (.int .i64 f.inside)
 busy:cellAt C 18 (.int .i64 f.busy)
 now:cellAt C 22 (.int .u64 f.now)
 tr:C[26]?=some tr
def X2 (fb:Nat) (p:qat) (f:X3) (tr:Value) (g:List Blk):Prop:=∃ C,g=[cl fb 138 C]∧Zh p f tr C
structure qc1 (SH:Nat→Qy→List Blk→Prop) (fb:Nat) (p:qat) (f:X3) (tr:Value) (s:Qg) (shs:List (Nat × Qy)) (gF gS gR gH gP gL:List Blk):Prop where
 floor:X2 fb p f tr gF
 slab:Xx p.sb s gS
 row:J5 42 1 p.sh shs.length (shs.map fun x=>Qd x.1) gR
 shards:qcg (fun x=>SH x.1 x.2) shs gH
 pipeN:Jr f.cfg.room.toNat p.pb gP
 log:gL=[cl p.lb 232 #[.slice none 0 0]]
abbrev Yz (fb:Nat) (p:qat) (f:X3) (tr:Value) (s:Qg) (shs:List (Nat × Qy)) (gF gS gR gH gP gL:List Blk):Prop:=qc1 qbz fb p f tr s shs gF gS gR gH gP gL
theorem Yz.pipe {fb:Nat} {p:qat} {f:X3} {tr:Value} {s:Qg} {shs:List (Nat × Qy)} {gF gS gR gH gP gL:List Blk} (a:Yz fb p f tr s shs gF gS gR gH gP gL):q8 p.pb gP:=a.pipeN.is
def qf9 (SH:Nat→Qy→List Blk→Prop):Prop:=∀ (n:Nat),1≤n→n≤64→Qa prog 78 #[.int .i64 n] [] fun e gs=>∃ b g,e=.returned (.tuple #[Qd b,.int .i64 0])∧SH b (Xd n) g∧gs=[g]
def Jy (nsh ncap nring nroom wk cli:Int) (sb pb lb:Nat) (v:Value):Array Value:=#[.int .i64 nsh,.int .i64 ncap,.int .i64 nring,.int .i64 nroom,.int .i64 wk,.int .i64 cli,Qd sb,v,Qd pb,Qd lb,.bool false,.int .i64 0,.int .i64 0,.int .i64 0,.int .i64 0,.int .i64 0,.int .i64 0,.int .i64 0,.int .i64 0,.int .i64 0,.int .i64 0,.int .i64 0,.int .u64 0,.int .i64 0,.int .i64 0,.int .i64 0,.slice none 0 0]
theorem qgc (c:Cfg) (sb pb lb:Nat) (v:Value):Zh ⟨sb,pb,lb,v⟩ ⟨c,false,0,0,0⟩ (.slice none 0 0) (Jy c.sh c.cap c.ring c.room c.wk c.cli sb pb lb v):=by
 refine ⟨rfl,fun i hi=>?_,rfl,rfl,rfl,rfl,⟨rfl,0,0,0,rfl,rfl,rfl⟩,⟨rfl,0,0,0,rfl,rfl,rfl⟩,⟨rfl,0,0,0,rfl,rfl,rfl⟩,⟨rfl,0,0,0,rfl,rfl,rfl⟩,rfl⟩
 have:i=0∨i=1∨i=2∨i=3∨i=4∨i=5:=by omega
 rcases this with rfl | rfl | rfl | rfl | rfl | rfl <;> rfl
theorem Tryz.infoShard:(prog.info? 42).map (fun i=>(i.zero,i.size,i.bytes))=some (some (.pointer none),1,8):=by kernel_rfl
theorem Cfg.bd {c:Cfg} (hk:c.ok=true):(1≤c.sh∧c.sh≤4)∧(1≤c.cap∧c.cap≤64)∧(1≤c.ring∧c.ring≤64)∧(1≤c.room∧c.room≤16)∧(1≤c.wk∧c.wk≤4)∧(1≤c.cli∧c.cli≤8):=by
 simpa [Cfg.ok,Cfg.fine,Cfg.pair,and_assoc] using hk
theorem qd6 {SH:Nat→Qy→List Blk→Prop} (hSH:qf9 SH) (c:Cfg) (hk:c.ok=true):Qa prog 13 #[.agg c.cells] [] fun e gs =>
 ∃ fb p shs gF gS gR gH gP gL,e=.returned (.tuple #[Qd fb,.int .i64 0])∧qc1 SH fb p ⟨c,false,0,0,0⟩ (.slice none 0 0) (Xa c.cap.toNat) shs gF gS gR gH gP gL∧(shs.length:Int)=c.sh∧(∀ x∈shs,x.2=Xd c.ring.toNat)∧gs=[gF,gS,gR,gH,gP,gL]:=by
 refine GO fun w HT=>?_
 have HNEW:=Vh hSH;clear hSH;obtain ⟨hk1,hk2,hk3,hk4,hk5,hk6⟩:=Cfg.bd hk;obtain ⟨csh,ccap,cring,croom,cwk,ccli⟩:=c;simp only [] at hk1 hk2 hk3 hk4 hk5 hk6;obtain ⟨nsh,rfl⟩:=Int.eq_ofNat_of_zero_le (show 0≤csh by omega);obtain ⟨ncap,rfl⟩:=Int.eq_ofNat_of_zero_le (show 0≤ccap by omega);obtain ⟨nring,rfl⟩:=Int.eq_ofNat_of_zero_le (show 0≤cring by omega);obtain ⟨nroom,rfl⟩:=Int.eq_ofNat_of_zero_le (show 0≤croom by omega);have HCAP:=Vh (show 1≤ncap∧ncap≤64 by omega);have HRING:=Vh (show 1≤nring∧nring≤64 by omega);have HROOM:=Vh (show 1≤nroom∧nroom≤16 by omega);have HSH:=Vh (show 1≤nsh∧nsh≤4 by omega);clear hk1 hk2 hk3 hk4 hk5 hk6;obtain ⟨c,hcd⟩:∃ c:Cfg,c=⟨nsh,ncap,nring,nroom,cwk,ccli⟩:=⟨_,rfl⟩;rw [← hcd] at hk ⊢;have HB:=Vh (qkn c);obtain ⟨C,hC⟩:∃ C,C=c.cells:=⟨_,rfl⟩;have hC':=hC;simp only [Cfg.cells] at hC';rw [← hC,hk] at HB;rw [hcd] at hC';simp only [] at hC';have HCC:=Vh hC';have HCD:=Vh hcd;simp only [Cfg.cells,hcd];go_enter func13,ntmps13
 go_wp2_with fail
 rw [← hC'];clear hC hC' hk hcd;refine (Qa.use HB.out (HT.out.alloc (k:=w.heap.size) rfl 30 C) [] rfl rfl).mono ?_
 rintro e w1 ⟨gs,⟨rfl,rfl⟩,Ta⟩;simp only [qae,List.nil_append,List.append_nil,if_true] at Ta;have hc0:=Ta.cell 0 0 rfl;simp only [HCC.out] at hc0;have HT:=Vh Ta;clear Ta;obtain ⟨b0,hb0⟩:∃ b0,b0=w.heap.size:=⟨_,rfl⟩;rw [← hb0] at HT hc0 ⊢;clear hb0;go_wp2
 go_region_with (
  go_at_call 75
  refine (Qa.use qjm HT.out.drew [] rfl rfl).mono ?_
  rintro e w2 ⟨gs,⟨lb,rfl,rfl⟩,Ta⟩;simp only [qae,List.nil_append,List.append_nil,List.cons_append] at Ta;have hc1:=Ta.cell 0 0 rfl;simp only [HCC.out] at hc1;have hlt1:=Ta.lt 0 0 rfl;simp only [] at hlt1;have HT1:=Vh Ta
  clear Ta hc0)
 all_goals
  go_wp2_with fail
  have HT2:=Vh (HT1.out.alloc (k:=w2.heap.size) rfl 138 #[.int .i64 nsh,.int .i64 ncap,.int .i64 nring,.int .i64 nroom,.int .i64 cwk,.int .i64 ccli,.pointer none,.slice none 0 0,.pointer none,Qd lb,.bool false,.int .i64 0,.int .i64 0,.int .i64 0,.int .i64 0,.int .i64 0,.int .i64 0,.int .i64 0,.int .i64 0,.int .i64 0,.int .i64 0,.int .i64 0,.int .u64 0,.int .i64 0,.int .i64 0,.int .i64 0,.slice none 0 0]);simp only [List.cons_append,List.nil_append] at HT2;obtain ⟨fb,hfb⟩:∃ fb,fb=w2.heap.size:=⟨_,rfl⟩;rw [← hfb] at HT2 ⊢;refine (Qa.use (qfn ncap HCAP.out.1 HCAP.out.2) HT2.out [] rfl rfl).mono ?_
  rintro e w3 ⟨gs,⟨sb,gS,rfl,hgS,rfl⟩,Ta⟩;simp only [qae,List.nil_append,List.append_nil,List.cons_append] at Ta;have hc2:=Ta.cell 0 0 rfl;simp only [HCC.out] at hc2;have fF:=Ta.free 2 0 rfl;have hF:=Ta.cell 2 0 rfl;have HT3:=Vh Ta;clear Ta hc1 hfb hlt1;go_wp2_with fail
  refine (Qa.use (qhr nroom HROOM.out.1 HROOM.out.2) (HT3.out.set 2 0 rfl 6 (Qd sb)) [] rfl rfl).mono ?_
  rintro e w4 ⟨gs,⟨pb,gP,rfl,hgP,rfl⟩,Ta⟩;simp only [qae,List.nil_append,List.append_nil,List.cons_append,List.set_cons_zero,List.set_cons_succ,List.getD_cons_succ,List.getD_cons_zero] at Ta;have hc3:=Ta.cell 0 0 rfl;simp only [HCC.out] at hc3;have fF4:=Ta.free 2 0 rfl;have hF4:=Ta.cell 2 0 rfl;have hne:=Ta.ne 0 0 2 0 (by decide) rfl rfl;simp only [] at hne;have HT4:=Vh (Ta.set 2 0 rfl 8 (Qd pb));simp only [List.set_cons_zero,List.set_cons_succ,List.getD_cons_succ,List.getD_cons_zero] at HT4;clear Ta hc2 fF hF;go_wp2
  have T5:TG [] w [[cl b0 30 C],[cl lb 232 #[.slice none 0 0]],[cl fb 138 (Jy nsh ncap nring nroom cwk ccli sb pb lb (.slice none 0 0))],gS,gP] (w4.setCell ⟨fb,8,none⟩ (Qd pb)):=HT4.out
  go_loopw [6,7,37] (fun _ _ i wr=>∃ (k:Nat) (shs:List (Nat × Qy)) (v:Value) (gR gH:List Blk),k≤nsh∧shs.length=k∧i=.int .i64 k∧(∀ x∈shs,x.2=Xd nring)∧J5 42 1 v k (shs.map fun x=>Qd x.1) gR∧qcg (fun (x:Nat × Qy)=>SH x.1 x.2) shs gH ∧
   TG [] w [[cl b0 30 C],[cl lb 232 #[.slice none 0 0]],[cl fb 138 (Jy nsh ncap nring nroom cwk ccli sb pb lb v)],gS,gP,gR,gH] wr) (fun _ _ i _=>nsh+1 - (intOf i).toNat)
  case atStart=>exact ⟨0,[],.slice none 0 0,[],[],by omega,rfl,rfl,fun x hx=>by (cases hx),qz _ _,rfl,T5.eq (by simp)⟩
  case round =>
   clear T5 HT4 hc3 fF4 hF4;obtain ⟨k,shs,v,gR,gH,hk,hl,rfl,hnew,hr,hfam,T⟩:=hrel;have HT:=Vh T;have HR:=Vh hr;have HF:=Vh hfam;have HN:=Vh hnew;have HL:=Vh hl;have hc4:=T.cell 0 0 rfl;simp only [HCC.out] at hc4;clear T hr hfam hnew hl;have hk4:=HSH.out.2;by_cases hlt:k<nsh
   ·go_wp2_with fail
    refine (Qa.use (HNEW.out nring HRING.out.1 HRING.out.2) (HT.out) [] rfl rfl).mono ?_
    rintro e w1 ⟨gs,⟨shb,gsh,rfl,hgsh,rfl⟩,Ta⟩;simp only [PU] at Ta;have hF:=Ta.cell 2 0 rfl;simp only [Jy] at hF;have fhF:=Ta.free 2 0 rfl;have HT:=Vh Ta;clear Ta
    go_wp2_with (
     at_builtin
     (with_reducible refine Ji rfl (.tmp 49) (.tmp 51) 130 rfl 42 1 8 _ underlying130 Tryz.infoShard rfl (by decide) ((HT.out).alloc0 _) 5 rfl rfl HR.out rfl ⟨w1.heap.size,0,none⟩ 1 1 [Qd shb] rfl rfl (qc _ _ _) (by simp [Value.oneCell']) (by unfold maxLen;omega) (by omega) ?_)
     intro v1 w2 gR1 r1 T1;obtain ⟨a1,c1,rfl⟩:=r1.val;simp only [List.set_cons_zero,List.set_cons_succ] at T1;have hF1:=T1.cell 2 0 rfl;have fF1:=T1.free 2 0 rfl;simp only [Jy] at hF1;have HT1:=Vh T1;have HR1:=Vh r1
     clear T1 r1)
    have HT2:=Vh (HT1.out.set 2 0 rfl 7 (.slice a1 (k+1) c1));simp only [List.set_cons_zero,List.set_cons_succ,List.getD_cons_succ,List.getD_cons_zero] at HT2;have HT3:=Vh (HT2.out.merge 6 7 (by decide) rfl rfl);simp only [List.set_cons_zero,List.set_cons_succ,List.getD_cons_succ,List.getD_cons_zero] at HT3;have HT3:=Vh (HT3.out.pick [0,1,2,3,4,5,6] rfl)
    first
    | (go_roundw
       case rel=>exact ⟨k+1,shs++[(shb,Xd nring)],.slice a1 (k+1) c1,gR1,gH++gsh,by omega,by rw [List.length_append,HL.out];rfl,by go_num,fun x hx=>by (rcases List.mem_append.1 hx with h | h;exact HN.out x h;rw [List.mem_singleton.1 h]),by simpa using HR1.out,HF.out.snoc hgsh,HT3.out⟩
       case measure=>simp [intOf];omega)
    | exact ⟨⟨k+1,shs++[(shb,Xd nring)],.slice a1 (k+1) c1,gR1,gH++gsh,by omega,by rw [List.length_append,HL.out];rfl,by go_num,fun x hx=>by (rcases List.mem_append.1 hx with h | h;exact HN.out x h;rw [List.mem_singleton.1 h]),by simpa using HR1.out,HF.out.snoc hgsh,HT3.out⟩,by simp [intOf];omega⟩
    | ((repeat apply Exists.intro);exact ⟨⟨⟨k+1,shs++[(shb,Xd nring)],.slice a1 (k+1) c1,gR1,gH++gsh,by omega,by rw [List.length_append,HL.out];rfl,by go_num,fun x hx=>by (rcases List.mem_append.1 hx with h | h;exact HN.out x h;rw [List.mem_singleton.1 h]),by simpa using HR1.out,HF.out.snoc hgsh,HT3.out⟩,rfl⟩,by simp [intOf];omega⟩)
   ·obtain rfl:k=nsh:=by omega
    have hF5:=HT.out.cell 2 0 rfl;go_wp2
    go_ret2
    refine ⟨[[cl fb 138 (Jy k ncap nring nroom cwk ccli sb pb lb v)],gS,gR,gH,gP,[cl lb 232 #[.slice none 0 0]]],⟨fb,⟨sb,pb,lb,v⟩,shs,_,gS,gR,gH,gP,_,rfl,⟨⟨_,rfl,?_⟩,?_,?_,HF.out,by simpa using hgP,rfl⟩,?_,?_,rfl⟩,HT.out.pick [2,3,5,6,4,1] rfl⟩
    ·exact qgc ⟨k,ncap,nring,nroom,cwk,ccli⟩ sb pb lb v
    ·simpa using hgS
    ·rw [HL.out];exact HR.out
    ·rw [HL.out]
    ·simpa using HN.out
theorem qge (c:Cfg) (hk:c.ok=true):Qa prog 13 #[.agg c.cells] [] fun e gs =>
 ∃ fb p shs gF gS gR gH gP gL,e=.returned (.tuple #[Qd fb,.int .i64 0])∧Yz fb p ⟨c,false,0,0,0⟩ (.slice none 0 0) (Xa c.cap.toNat) shs gF gS gR gH gP gL∧(shs.length:Int)=c.sh∧(∀ x∈shs,x.2=Xd c.ring.toNat)∧gs=[gF,gS,gR,gH,gP,gL] :=
 qd6 (fun n h1 h2=>qfo n h1 h2) c hk
theorem qb8 {P:Program} {f:Nat} {args:Array Value} {b o:Nat} {T:TypeId} {C:Array Value} {v r:Value} (hd:Does P f args [pt b T C] (Jz b T C o v r)) :
 Qa P f args [[cl b T C]] fun e gs=>e=.returned r∧∃ C',Q5 C o v C'∧gs=[[cl b T C']]:=by
 refine (hd.G (gs:=[[cl b T C]]) (by simpa using Xg.of_pt b T C)).mono ?_
 rintro e gs ⟨h',g,⟨he,C',rfl,hr⟩,m,rfl⟩;exact ⟨he,C',hr,by rw [m.isPt]⟩
theorem Zh.closedR {p:qat} {f:X3} {tr:Value} {C C':Array Value} (h:Zh p f tr C) {x:Bool} (r:Q5 C 10 (.bool x) C'):Zh p { f with closed:=x } tr C' :=
 ⟨r.size.trans h.size,fun i hi=>(r.other i (by omega)).trans (h.cfg i hi),(r.other _ (by omega)).trans h.slab,(r.other _ (by omega)).trans h.sh,(r.other _ (by omega)).trans h.pipe,(r.other _ (by omega)).trans h.log,
   r.cell,
   r.cellOther h.inside (by omega),
   r.cellOther h.busy (by omega),
   r.cellOther h.now (by omega),
   (r.other _ (by omega)).trans h.tr⟩
theorem Zh.closedS {p:qat} {f:X3} {tr:Value} {C C':Array Value} (h:Zh p f tr C) (r:Q5 C 10 (.bool f.closed) C'):Zh p f tr C':=h.closedR r
theorem Zh.insideR {p:qat} {f:X3} {tr:Value} {C C':Array Value} (h:Zh p f tr C) {x:Int} (r:Q5 C 14 (.int .i64 x) C'):Zh p { f with inside:=x } tr C' :=
 ⟨r.size.trans h.size,fun i hi=>(r.other i (by omega)).trans (h.cfg i hi),(r.other _ (by omega)).trans h.slab,(r.other _ (by omega)).trans h.sh,(r.other _ (by omega)).trans h.pipe,(r.other _ (by omega)).trans h.log,
   r.cellOther h.closed (by omega),
   r.cell,
   r.cellOther h.busy (by omega),
   r.cellOther h.now (by omega),
   (r.other _ (by omega)).trans h.tr⟩
theorem Zh.insideS {p:qat} {f:X3} {tr:Value} {C C':Array Value} (h:Zh p f tr C) (r:Q5 C 14 (.int .i64 f.inside) C'):Zh p f tr C':=h.insideR r
theorem qb7 {fb:Nat} {p:qat} {f:X3} {tr:Value} {g:List Blk} (hg:X2 fb p f tr g):Qa prog 23 #[Qd fb] [g] fun e gs=>e=.returned (.int .i64 f.inside)∧∃ g',X2 fb p f tr g'∧gs=[g']:=by
 obtain ⟨C,rfl,hc⟩:=hg;refine GO fun w HT=>?_
 have HC:=Vh hc;clear hc;go_enter func23,ntmps23
 go_wp2_with fail
 refine Qa.run (qb8 (Xf fb 14 _ C f.inside HC.out.inside)) (HT.out) [0] ?_
 rintro e w1 gs ⟨rfl,C1,hr,rfl⟩ HT;simp only [PU] at HT;have HR:=Vh hr;clear hr;go_wp2
 go_ret
 exact ⟨_,⟨rfl,_,⟨C1,rfl,HC.out.insideS HR.out⟩,rfl⟩,HT.out⟩
theorem qcb {fb:Nat} {p:qat} {f:X3} {tr:Value} {g:List Blk} (hg:X2 fb p f tr g):Qa prog 71 #[Qd fb] [g] fun e gs=>e=.returned (.bool f.closed)∧∃ g',X2 fb p f tr g'∧gs=[g']:=by
 obtain ⟨C,rfl,hc⟩:=hg;refine GO fun w HT=>?_
 have HC:=Vh hc;clear hc;go_enter func71,ntmps71
 go_wp2_with fail
 refine Qa.run (qb8 (qfw fb 10 _ C f.closed HC.out.closed)) (HT.out) [0] ?_
 rintro e w1 gs ⟨rfl,C1,hr,rfl⟩ HT;simp only [PU] at HT;have HR:=Vh hr;clear hr;go_wp2
 go_ret
 exact ⟨_,⟨rfl,_,⟨C1,rfl,HC.out.closedS HR.out⟩,rfl⟩,HT.out⟩
theorem qlh {e:TypeId} {v:Value} {n:Nat} {xs:List Value} {g:List Blk} (r:J5 e 1 v n xs g) {i:Nat} {u:Value} (hi:xs[i]?=some u) :
 ∃ b cap cur,v=.slice (some ⟨b,0,none⟩) n cap∧g=[cl b e cur]∧cur[i]?=some u∧i<n:=by
 have hl:=r.1;have hin:i<n:=by have:=(List.getElem?_eq_some_iff.1 hi).1;omega
 obtain ⟨b,cap,cur,h1,h2,_,_,_,h6⟩:=r.open (by omega);exact ⟨b,cap,cur,h1,h2,(h6 i (by omega)).trans hi,hin⟩
def Yo (shs:List Nat) (i:Int):Value:=if 0≤i∧i<shs.length then Qd (shs.getD i.toNat 0) else .pointer none
def qfl (shs:List Nat) (i:Int):Value:=if 0≤i then Qd (shs.getD (i % shs.length).toNat 0) else .pointer none
theorem Yz.row' {fb:Nat} {p:qat} {f:X3} {tr:Value} {s:Qg} {shs:List (Nat × Qy)} {gF gS gR gH gP gL:List Blk} (a:Yz fb p f tr s shs gF gS gR gH gP gL):J5 42 1 p.sh (shs.map Prod.fst).length ((shs.map Prod.fst).map fun x=>Qd x) gR:=by
 have:=a.row;rw [List.length_map,List.map_map];exact this
theorem ql {fb:Nat} {p:qat} {f:X3} {tr:Value} {g:List Blk} {shs:List Nat} {gR:List Blk} (hg:X2 fb p f tr g) (hr:J5 42 1 p.sh shs.length (shs.map fun x=>Qd x) gR) (i:Int):Qi prog 17 #[Qd fb,.int .i64 i] [g,gR] (Yo shs i):=by
 obtain ⟨C,rfl,hc⟩:=hg;by_cases h0:0≤i
 ·obtain ⟨k,rfl⟩:=Int.eq_ofNat_of_zero_le h0
  by_cases hk:k<shs.length
  ·have hget:=List.getElem?_eq_getElem hk
   obtain ⟨x,hx⟩:∃ x,shs[k]=x:=⟨_,rfl⟩;rw [hx] at hget;have hi:(shs.map fun x=>Qd x)[k]?=some (Qd x):=by rw [List.getElem?_map,hget];rfl
   obtain ⟨b,cap,cur,hv,rfl,hcu,_⟩:=qlh hr hi
   have HV:=Vh (show Yo shs k=Qd x from by
    unfold Yo
    rw [if_pos ⟨h0,by omega⟩,Int.toNat_natCast,List.getD_eq_getElem?_getD,hget];rfl)
   have hsh:=hc.sh;rw [hv] at hsh;refine GO fun w HT=>?_
   have c0:=(HT.out.cell 0 0 rfl 7).trans hsh;have c1:=(HT.out.cell 1 0 rfl k).trans hcu;clear hc hr hget hi hv hsh hcu hx;go_enter func17,ntmps17
   go_wp2
   go_ret
   first | exact ⟨by rw [HV.out];rfl,0,rfl⟩ | exact ⟨by rw [HV.out];rfl,_,rfl⟩
  ·have HV:=Vh (show Yo shs k=.pointer none from if_neg (by omega))
   obtain ⟨a,cap,hv⟩:=hr.val;have hsh:=hc.sh;rw [hv] at hsh;refine GO fun w HT=>?_
   have c0:=(HT.out.cell 0 0 rfl 7).trans hsh;clear hc hr hv hsh;go_enter func17,ntmps17
   go_wp2
   go_ret
   first | exact ⟨by rw [HV.out];rfl,0,rfl⟩ | exact ⟨by rw [HV.out];rfl,_,rfl⟩
 ·have HV:=Vh (show Yo shs i=.pointer none from if_neg (by omega))
  refine GO fun w HT=>?_
  clear hc hr;go_enter func17,ntmps17
  go_wp2
  go_ret
  first | exact ⟨by rw [HV.out];rfl,0,rfl⟩ | exact ⟨by rw [HV.out];rfl,_,rfl⟩
theorem qea {fb:Nat} {p:qat} {f:X3} {tr:Value} {g:List Blk} {shs:List Nat} {gR:List Blk} (hg:X2 fb p f tr g) (hr:J5 42 1 p.sh shs.length (shs.map fun x=>Qd x) gR) (hn:1≤shs.length) (i:Int):Qi prog 184 #[Qd fb,.int .i64 i] [g,gR] (qfl shs i):=by
 by_cases h0:0≤i
 ·have hs:=ql hg hr (i % shs.length)
  have hm0:0≤i % (shs.length:Int):=Int.emod_nonneg _ (by omega);have hm1:i % (shs.length:Int)<shs.length:=Int.emod_lt_of_pos _ (by omega);obtain ⟨x,hx⟩:∃ x,Qd (shs.getD (i % shs.length).toNat 0)=x:=⟨_,rfl⟩;have HV:=Vh (show qfl shs i=x from (if_pos h0).trans hx);rw [show Yo shs (i % shs.length)=x from (if_pos ⟨hm0,hm1⟩).trans hx] at hs;have HS:=Vh hs;obtain ⟨C,rfl,hc⟩:=hg;obtain ⟨a,cap,hv⟩:=hr.val;have hsh:=hc.sh;rw [hv] at hsh;refine GO fun w HT=>?_
  have c0:=(HT.out.cell 0 0 rfl 7).trans hsh;clear hc hr hv hsh hs hm0 hm1 hx;go_enter func184,ntmps184
  go_wp2_with fail
  refine (Qi.use (HS.out) (HT.out) [0,1] rfl rfl).mono ?_
  rintro e w1 ⟨rfl,mq,rfl⟩;go_wp2
  go_ret
  first | exact ⟨by rw [HV.out];rfl,0,rfl⟩ | exact ⟨by rw [HV.out];rfl,_,rfl⟩
 ·have HV:=Vh (show qfl shs i=.pointer none from if_neg h0)
  refine GO fun w HT=>?_
  clear hg hr;go_enter func184,ntmps184
  go_wp2
  go_ret
  first | exact ⟨by rw [HV.out];rfl,0,rfl⟩ | exact ⟨by rw [HV.out];rfl,_,rfl⟩
end
end Go.Proofs.YtcneeepdclgdcaaGreat
