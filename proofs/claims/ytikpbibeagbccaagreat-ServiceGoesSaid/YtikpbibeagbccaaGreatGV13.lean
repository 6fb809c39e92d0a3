import Derived.Test.YtikpbibeagbccaaGreatGV11
import Derived.Test.YtikpbibeagbccaaGreatGV12
import Derived.Test.YtikpbibeagbccaaGreatGV4
import Derived.LaidEqlPtr
set_option maxRecDepth 100000
set_option maxHeartbeats 4000000
namespace Go.Proofs.YtikpbibeagbccaaGreat
set_option linter.unusedVariables false
set_option linter.unusedSimpArgs false
open Go.Proofs.Tryz
section
open Go.RowKit Go.Shelf
abbrev Qb (b:Nat):Value:=.pointer (some ⟨b,0,none⟩)
def Yk (b:Nat) (who:Int) (n:Int) (g:List Blk):Prop:=∃ C,g=[cl b 246 C]∧C.size=5∧cellAt C 0 (.int .i64 who)∧C[4]?=some (.int .i64 n)
theorem qsl:Qa prog 106 #[] [] fun e gs=>∃ b g,e=.returned (Qb b)∧Yk b 0 0 g∧gs=[g]:=by
 refine GO fun w HT=>?_
 go_enter func106,ntmps106
 go_wp2
 go_ret
 exact ⟨_,⟨_,_,rfl,⟨_,rfl,rfl,⟨rfl,0,0,0,rfl,rfl,rfl⟩,rfl⟩,rfl⟩,HT.out.alloc rfl _ _⟩
theorem qub:Qa prog 81 #[] [] fun e gs=>∃ b,e=.returned (Qb b)∧gs=[[cl b 200 #[.slice none 0 0]]]:=by
 refine GO fun w HT=>?_
 go_enter func81,ntmps81
 go_wp2
 go_ret
 exact ⟨_,⟨_,rfl,rfl⟩,HT.out.alloc rfl _ _⟩
def qf8 (b hb:Nat):List Blk:=[cl b 235 #[.pointer none,.pointer none,.int .i64 0,Qb hb],cl hb 239 #[.pointer none]]
theorem qb4:Qa prog 104 #[] [] fun e gs=>∃ b hb,e=.returned (Qb b)∧gs=[qf8 b hb]:=by
 refine GO fun w HT=>?_
 go_enter func104,ntmps104
 go_wp2
 go_ret
 exact ⟨_,⟨_,_,rfl,rfl⟩,((HT.out.alloc rfl _ _).alloc rfl _ _).re (by simp [qf8];exact List.Perm.swap _ _ _)⟩
structure Qm where
 id:Int
 slot:Int
 gen:Int
 dl:Int
 per:Int
def Qm.zero:Qm:=⟨0,0,0,0,0⟩
structure zp where
 seq:Int
 v:Qm
structure Qs where
 slots:List zp
 tail:Int
 head:Int
def qsg (D:Array Value) (o:Nat) (t:Qm):Prop:=D[o]?=some (.int .u64 t.id)∧D[o+1]?=some (.int .i64 t.slot)∧D[o+2]?=some (.int .u64 t.gen)∧D[o+3]?=some (.int .u64 t.dl)∧D[o+4]?=some (.int .u64 t.per)
def qih (D:Array Value) (i:Nat) (s:zp):Prop:=cellAt D (i*9) (.int .i64 s.seq)∧qsg D (i*9+4) s.v
def Xj (rb:Nat) (r:Qs) (g:List Blk):Prop:=∃ sb C D,g=[cl rb 242 C,cl sb 244 D]∧C.size=6∧C[0]?=some (.slice (some ⟨sb,0,none⟩) r.slots.length r.slots.length)∧cellAt C 1 (.int .i64 r.tail) ∧
 C[5]?=some (.int .i64 r.head)∧D.size=r.slots.length*9∧∀ i s,r.slots[i]?=some s→qih D i s
theorem qmv (b o:Nat) (T:TypeId) (C:Array Value) (u:Value) (x:Int) (hc:C[o]?=some u) :
 Qa prog 130 #[.pointer (some ⟨b,o,none⟩),.int .i64 x] [[cl b T C]] fun e gs=>e=.returned (.tuple #[])∧gs=[[cl b T (C.setIfInBounds o (.int .i64 x))]]:=by
 refine GO fun w HT=>?_
 have c0:=(HT.out.cell 0 0 rfl o).trans hc;have f0:=HT.out.free 0 0 rfl o;clear hc;go_enter func130,ntmps130
 go_wp2
 refine bodyPost_end (results_none rfl _ _ _) rfl ⟨_,⟨rfl,rfl⟩,HT.out.set 0 0 rfl o _⟩
def Jm (n:Nat):Qs:=⟨(List.range n).map fun (i:Nat)=>⟨2*(i:Int),Qm.zero⟩,0,0⟩
def qjr:Array Value:=#[.int .i64 0,.int .i64 0,.int .i64 0,.int .i64 0,.int .u64 0,.int .i64 0,.int .u64 0,.int .u64 0,.int .u64 0]
theorem qsd:(prog.info? 244).map (fun i=>(i.zero,i.size,i.bytes))=some (some (.agg qjr),9,72):=by kernel_rfl
def qt9 (n k:Nat) (D:Array Value):Prop:=D.size=n*9∧∀ i,i<n→qih D i ⟨if i<k then 2*(i:Int) else 0,Qm.zero⟩
theorem qtb (n:Nat):qt9 n 0 (madeCells qjr (n*9)):=by
 refine ⟨size_madeCells _ _,fun i hi=>?_⟩
 rw [if_neg (Nat.not_lt_zero _)];have hz:qjr.size=9:=rfl;have g:∀ j,j<9→(madeCells qjr (n*9))[i*9+j]?=qjr[j]?:=fun j hj=>qa _ n 9 i j hz hi hj
 exact ⟨⟨g 0 (by decide),0,0,0,g 1 (by decide),g 2 (by decide),g 3 (by decide)⟩,g 4 (by decide),g 5 (by decide),g 6 (by decide),g 7 (by decide),g 8 (by decide)⟩
theorem qpd {D:Array Value} {i j:Nat} {s:zp} (h:qih D i s) (x:Int):qih (D.setIfInBounds (j*9) (.int .i64 x)) i (if i=j then { s with seq:=x } else s):=by
 obtain ⟨⟨a0,l,t,u,a1,a2,a3⟩,b0,b1,b2,b3,b4⟩:=h;by_cases e:i=j
 ·subst e
  rw [if_pos rfl];exact ⟨⟨Q2 a0,l,t,u,(Qd (by omega)).trans a1,(Qd (by omega)).trans a2,(Qd (by omega)).trans a3⟩,(Qd (by omega)).trans b0,(Qd (by omega)).trans b1,(Qd (by omega)).trans b2,(Qd (by omega)).trans b3,(Qd (by omega)).trans b4⟩
 ·rw [if_neg e]
  exact ⟨⟨(Qd (by omega)).trans a0,l,t,u,(Qd (by omega)).trans a1,(Qd (by omega)).trans a2,(Qd (by omega)).trans a3⟩,(Qd (by omega)).trans b0,(Qd (by omega)).trans b1,(Qd (by omega)).trans b2,(Qd (by omega)).trans b3,(Qd (by omega)).trans b4⟩
theorem qct {n k:Nat} {D:Array Value} (h:qt9 n k D) (hk:k<n):qt9 n (k+1) (D.setIfInBounds (k*9) (.int .i64 (2*k))):=by
 refine ⟨by rw [Array.size_setIfInBounds];exact h.1,fun i hi=>?_⟩
 have h2:=qpd (j:=k) (h.2 i hi) (2*k);by_cases e:i=k
 ·subst e
  rw [if_pos rfl] at h2;rw [if_pos (by omega)];exact h2
 ·rw [if_neg e] at h2
  have e2:(if i<k+1 then 2*(i:Int) else 0)=if i<k then 2*(i:Int) else 0:=by
   by_cases h3:i<k
   ·rw [if_pos h3,if_pos (by omega)]
   ·rw [if_neg h3,if_neg (by omega)]
  rw [e2];exact h2
theorem qrt (n:Nat) (h1:1≤n) (h2:n≤64):Qa prog 105 #[.int .i64 n] [] fun e gs=>∃ b g,e=.returned (.tuple #[Qb b,.int .i64 0])∧Xj b (Jm n) g∧gs=[g]:=by
 refine GO fun w HT=>?_
 have hmk:∀ w,(Instr.makeSlice 240 (.int .i64 (n:Int)) (.int .i64 (n:Int))).run prog w=.ok (.slice (some ⟨w.heap.size,0,none⟩) n n) (w.alloc (.cells (madeCells qjr (n*9)) 244)):=qcs _ _ (.agg qjr) 9 72 underlying240 qsd n (by omega) (by omega);have hd1:decide ((n:Int)<1)=false:=by simp;omega
 have hd2:decide (64<(n:Int))=false:=by simp;omega
 go_enter func105,ntmps105
 go_wp2
 have T1:=(HT.out.alloc (k:=w.heap.size) rfl 244 (madeCells qjr (n*9))).alloc (k:=w.heap.size+1) (by simp) 242 #[.slice (some ⟨w.heap.size,0,none⟩) n n,.int .i64 0,.int .i64 0,.int .i64 0,.int .i64 0,.int .i64 0];obtain ⟨sb,hsb⟩:∃ sb,sb=w.heap.size:=⟨_,rfl⟩;rw [← hsb] at T1 ⊢;obtain ⟨rb,hrb⟩:∃ rb,rb=sb+1:=⟨_,rfl⟩;rw [← hrb] at T1 ⊢
 go_loopw [5,21] (fun _ i wr=>∃ (k:Nat) (D:Array Value),k≤n∧i=.int .i64 k∧qt9 n k D∧TG [] w [[cl sb 244 D],[cl rb 242 #[.slice (some ⟨sb,0,none⟩) n n,.int .i64 0,.int .i64 0,.int .i64 0,.int .i64 0,.int .i64 0]]] wr) (fun _ i _=>n+1 - (intOf i).toNat)
 case atStart=>exact ⟨0,_,by omega,rfl,qtb n,T1⟩
 case round =>
  obtain ⟨k,D,hk,rfl,hD,T⟩:=hrel;have HT:=Vh T;have HD:=Vh hD;have c1:=T.cell 1 0 rfl;clear T T1 hD hsb hrb;by_cases hlt:k<n
  ·go_wp2_with fail
   refine Qa.run (qmv sb (k*9) 244 D _ (2*k) (HD.out.2 k hlt).1.1) (HT.out) [0] ?_
   rintro e w1 gs ⟨rfl,rfl⟩ HT;simp only [PU] at HT;go_wp2
   first
   | (go_roundw
      case rel=>exact ⟨k+1,_,by omega,by go_num,qct HD.out hlt,HT.out⟩
      case measure=>simp [intOf];omega)
   | exact ⟨⟨k+1,_,by omega,by go_num,qct HD.out hlt,HT.out⟩,by simp [intOf];omega⟩
   | ((repeat apply Exists.intro);exact ⟨⟨⟨k+1,_,by omega,by go_num,qct HD.out hlt,HT.out⟩,rfl⟩,by simp [intOf];omega⟩)
  ·obtain rfl:k=n:=by omega
   go_wp2
   go_ret2
   refine ⟨_,⟨_,[cl rb 242 _,cl sb 244 D],rfl,⟨sb,_,D,rfl,rfl,by simp [Jm],⟨rfl,0,0,0,rfl,rfl,rfl⟩,rfl,by simpa [Jm] using HD.out.1,fun i s hs=>?_⟩,rfl⟩,HT.out.re (List.Perm.swap _ _ _)⟩
   have hi:i<k:=by have:=(List.getElem?_eq_some_iff.1 hs).1;simpa [Jm] using this
   have h2:=HD.out.2 i hi;rw [if_pos hi] at h2;have e:s=⟨2*(i:Int),Qm.zero⟩:=by simp [Jm,hi] at hs;exact hs.symm
   rw [e];exact h2
def qcr (n pb:Nat) (g:List Blk):Prop:=∃ cb lb hb:Nat,g=[cl pb 194 #[.chan (some cb),Qb lb,.int .i64 0,.bool false],(cb,.chan n #[] false 0 0 false)]++qf8 lb hb
theorem qb2:(prog.info? 82).map (fun i=>(i.zero,i.size,i.bytes))=some (some (.agg #[.int .u64 0,.int .u64 0,.int .u64 0,.int .u64 0]),4,32):=by kernel_rfl
theorem qfg (n:Nat) (hn:n≤16) (w:World):(Instr.makeChan 191 (.int .i64 (n:Int))).run prog w=.ok (.chan (some w.heap.size)) (w.alloc (.chan n #[] false 0 0 false)):=by
 obtain ⟨i,hi,_,_,hb⟩:=info_parts qb2;have hw:IntKind.i64.wrap (n:Int)=n:=by rw [IntKind.wrap_i64];omega
 have h1:¬ ((n:Int)<0):=by omega
 have h2:¬ (9223372036854775807<(n:Int)):=by omega
 have h3:¬ (281474976710544<32*(n:Int)):=by omega
 simp [Instr.makeChan,asInt,asIntOf,run_underlying underlying191,typeInfo,hi,hb,hw,h1,h2,h3,newObj,IntKind.max,IntKind.bits,IntKind.signed]
 rfl
theorem qst (n:Nat) (h1:1≤n) (h2:n≤16):Qa prog 83 #[.int .i64 n] [] fun e gs=>∃ b g,e=.returned (.tuple #[Qb b,.int .i64 0])∧qcr n b g∧gs=[g]:=by
 refine GO fun w HT=>?_
 have hmk:=qfg n h2;have hd1:decide ((n:Int)<1)=false:=by simp;omega
 have hd2:decide (16<(n:Int))=false:=by simp;omega
 go_enter func83,ntmps83
 go_wp2
 go_region_with (
  go_at_call 104
  first
  | (refine (Qa.use qb4 (HT.out.drew.put rfl (.chan n #[] false 0 0 false)) [] rfl rfl).mono ?_
     rintro e w1 ⟨gs,⟨lb,hb,rfl,rfl⟩,Ta⟩;have HT1:=Vh Ta
     clear Ta)
  | (refine (Qa.use qb4 HT.out.drew [] rfl rfl).mono ?_
     rintro e w1 ⟨gs,⟨lb,hb,rfl,rfl⟩,Ta⟩;have HT1:=Vh Ta
     clear Ta))
 ·go_wp2
  go_ret2
  refine ⟨_,⟨_,_,rfl,⟨w.heap.size,lb,hb,rfl⟩,rfl⟩,(HT1.out.alloc (k:=w1.heap.size) rfl 194 #[.chan (some w.heap.size),Qb lb,.int .i64 0,.bool false]).re ?_⟩
  simp only [qc8,List.nil_append,List.append_nil,List.cons_append,List.flatten_cons,List.flatten_nil,qf8];exact (List.perm_append_comm (l₁:=[_,_,_]) (l₂:=[_]))
 ·go_wp2
  go_ret2
  refine ⟨_,⟨_,_,rfl,⟨w1.heap.size,lb,hb,rfl⟩,rfl⟩,((HT1.out.put (k:=w1.heap.size) rfl (.chan n #[] false 0 0 false)).alloc (k:=w1.heap.size+1) (by simp) 194 #[.chan (some w1.heap.size),Qb lb,.int .i64 0,.bool false]).re ?_⟩
  simp only [qc8,List.nil_append,List.append_nil,List.cons_append,List.flatten_cons,List.flatten_nil,qf8];exact (List.perm_append_comm (l₁:=[_,_]) (l₂:=[_,_])).trans (List.Perm.swap _ _ _)
structure Q0 where
 ring:Qs
 who:Int
 turns:Int
def Qp (n:Nat):Q0:=⟨Jm n,0,0⟩
structure qcj where
 sb:Nat
 pb:Nat
 lb:Nat
 sh:Value
structure Zb where
 cfg:Cfg
 closed:Bool
 inside:Int
 busy:Int
 now:Int
structure Xy (p:qcj) (f:Zb) (tr:Value) (C:Array Value):Prop where
 size:C.size=27
 cfg:∀ i,i<6→C[i]?=f.cfg.cells[i]?
 slab:C[6]?=some (Qb p.sb)
 sh:C[7]?=some p.sh
 pipe:C[8]?=some (Qb p.pb)
 log:C[9]?=some (Qb p.lb)
 closed:cellAt C 10 (.bool f.closed)
 inside:cellAt C 14 (.int .i64 f.inside)
 busy:cellAt C 18 (.int .i64 f.busy)
 now:cellAt C 22 (.int .u64 f.now)
 tr:C[26]?=some tr
def Xi (fb:Nat) (p:qcj) (f:Zb) (tr:Value) (g:List Blk):Prop:=∃ C,g=[cl fb 111 C]∧Xy p f tr C
structure qtl (SH:Nat→Q0→List Blk→Prop) (fb:Nat) (p:qcj) (f:Zb) (tr:Value) (s:Qn) (shs:List (Nat × Q0)) (gF gS gR gH gP gL:List Blk):Prop where
 floor:Xi fb p f tr gF
 slab:Zt p.sb s gS
 row:Qu 165 1 p.sh shs.length (shs.map fun x=>Qb x.1) gR
 shards:J4 (fun x=>SH x.1 x.2) shs gH
 pipeN:qcr f.cfg.room.toNat p.pb gP
 log:gL=[cl p.lb 200 #[.slice none 0 0]]
def qf2 (SH:Nat→Q0→List Blk→Prop):Prop:=∀ (n:Nat),1≤n→n≤64→Qa prog 84 #[.int .i64 n] [] fun e gs=>∃ b g,e=.returned (.tuple #[Qb b,.int .i64 0])∧SH b (Qp n) g∧gs=[g]
def qaz (nsh ncap nring nroom wk cli:Int) (sb pb lb:Nat) (v:Value):Array Value:=#[.int .i64 nsh,.int .i64 ncap,.int .i64 nring,.int .i64 nroom,.int .i64 wk,.int .i64 cli,Qb sb,v,Qb pb,Qb lb,.bool false,.int .i64 0,.int .i64 0,.int .i64 0,.int .i64 0,.int .i64 0,.int .i64 0,.int .i64 0,.int .i64 0,.int .i64 0,.int .i64 0,.int .i64 0,.int .u64 0,.int .i64 0,.int .i64 0,.int .i64 0,.slice none 0 0]
theorem qqd (c:Cfg) (sb pb lb:Nat) (v:Value):Xy ⟨sb,pb,lb,v⟩ ⟨c,false,0,0,0⟩ (.slice none 0 0) (qaz c.sh c.cap c.ring c.room c.wk c.cli sb pb lb v):=by
 refine ⟨rfl,fun i hi=>?_,rfl,rfl,rfl,rfl,⟨rfl,0,0,0,rfl,rfl,rfl⟩,⟨rfl,0,0,0,rfl,rfl,rfl⟩,⟨rfl,0,0,0,rfl,rfl,rfl⟩,⟨rfl,0,0,0,rfl,rfl,rfl⟩,rfl⟩
 have:i=0∨i=1∨i=2∨i=3∨i=4∨i=5:=by omega
 rcases this with rfl | rfl | rfl | rfl | rfl | rfl <;> rfl
theorem Tryz.infoShard:(prog.info? 165).map (fun i=>(i.zero,i.size,i.bytes))=some (some (.pointer none),1,8):=by kernel_rfl
theorem Cfg.bd {c:Cfg} (hk:c.ok=true):(1≤c.sh∧c.sh≤4)∧(1≤c.cap∧c.cap≤64)∧(1≤c.ring∧c.ring≤64)∧(1≤c.room∧c.room≤16)∧(1≤c.wk∧c.wk≤4)∧(1≤c.cli∧c.cli≤8):=by
 simpa [Cfg.ok,Cfg.fine,Cfg.pair,and_assoc] using hk
theorem qlq {SH:Nat→Q0→List Blk→Prop} (hSH:qf2 SH) (c:Cfg) (hk:c.ok=true):Qa prog 62 #[.agg c.cells] [] fun e gs =>
 ∃ fb p shs gF gS gR gH gP gL,e=.returned (.tuple #[Qb fb,.int .i64 0])∧qtl SH fb p ⟨c,false,0,0,0⟩ (.slice none 0 0) (X6 c.cap.toNat) shs gF gS gR gH gP gL∧(shs.length:Int)=c.sh∧(∀ x∈shs,x.2=Qp c.ring.toNat)∧gs=[gF,gS,gR,gH,gP,gL]:=by
 refine GO fun w HT=>?_
 have HNEW:=Vh hSH;clear hSH;obtain ⟨hk1,hk2,hk3,hk4,hk5,hk6⟩:=Cfg.bd hk;obtain ⟨csh,ccap,cring,croom,cwk,ccli⟩:=c;simp only [] at hk1 hk2 hk3 hk4 hk5 hk6;obtain ⟨nsh,rfl⟩:=Int.eq_ofNat_of_zero_le (show 0≤csh by omega);obtain ⟨ncap,rfl⟩:=Int.eq_ofNat_of_zero_le (show 0≤ccap by omega);obtain ⟨nring,rfl⟩:=Int.eq_ofNat_of_zero_le (show 0≤cring by omega);obtain ⟨nroom,rfl⟩:=Int.eq_ofNat_of_zero_le (show 0≤croom by omega);have HCAP:=Vh (show 1≤ncap∧ncap≤64 by omega);have HRING:=Vh (show 1≤nring∧nring≤64 by omega);have HROOM:=Vh (show 1≤nroom∧nroom≤16 by omega);have HSH:=Vh (show 1≤nsh∧nsh≤4 by omega);clear hk1 hk2 hk3 hk4 hk5 hk6;obtain ⟨c,hcd⟩:∃ c:Cfg,c=⟨nsh,ncap,nring,nroom,cwk,ccli⟩:=⟨_,rfl⟩;rw [← hcd] at hk ⊢;have HB:=Vh (qxm c);obtain ⟨C,hC⟩:∃ C,C=c.cells:=⟨_,rfl⟩;have hC':=hC;simp only [Cfg.cells] at hC';rw [← hC,hk] at HB;rw [hcd] at hC';simp only [] at hC';have HCC:=Vh hC';have HCD:=Vh hcd;simp only [Cfg.cells,hcd];go_enter func62,ntmps62
 go_wp2_with fail
 rw [← hC'];clear hC hC' hk hcd;refine (Qa.use HB.out (HT.out.alloc (k:=w.heap.size) rfl 28 C) [] rfl rfl).mono ?_
 rintro e w1 ⟨gs,⟨rfl,rfl⟩,Ta⟩;simp only [qc8,List.nil_append,List.append_nil,if_true] at Ta;have hc0:=Ta.cell 0 0 rfl;simp only [HCC.out] at hc0;have HT:=Vh Ta;clear Ta;obtain ⟨b0,hb0⟩:∃ b0,b0=w.heap.size:=⟨_,rfl⟩;rw [← hb0] at HT hc0 ⊢;clear hb0;go_wp2
 go_region_with (
  go_at_call 81
  refine (Qa.use qub HT.out.drew [] rfl rfl).mono ?_
  rintro e w2 ⟨gs,⟨lb,rfl,rfl⟩,Ta⟩;simp only [qc8,List.nil_append,List.append_nil,List.cons_append] at Ta;have hc1:=Ta.cell 0 0 rfl;simp only [HCC.out] at hc1;have hlt1:=Ta.lt 0 0 rfl;simp only [] at hlt1;have HT1:=Vh Ta
  clear Ta hc0)
 all_goals
  go_wp2_with fail
  have HT2:=Vh (HT1.out.alloc (k:=w2.heap.size) rfl 111 #[.int .i64 nsh,.int .i64 ncap,.int .i64 nring,.int .i64 nroom,.int .i64 cwk,.int .i64 ccli,.pointer none,.slice none 0 0,.pointer none,Qb lb,.bool false,.int .i64 0,.int .i64 0,.int .i64 0,.int .i64 0,.int .i64 0,.int .i64 0,.int .i64 0,.int .i64 0,.int .i64 0,.int .i64 0,.int .i64 0,.int .u64 0,.int .i64 0,.int .i64 0,.int .i64 0,.slice none 0 0]);simp only [List.cons_append,List.nil_append] at HT2;obtain ⟨fb,hfb⟩:∃ fb,fb=w2.heap.size:=⟨_,rfl⟩;rw [← hfb] at HT2 ⊢;refine (Qa.use (qp3 ncap HCAP.out.1 HCAP.out.2) HT2.out [] rfl rfl).mono ?_
  rintro e w3 ⟨gs,⟨sb,gS,rfl,hgS,rfl⟩,Ta⟩;simp only [qc8,List.nil_append,List.append_nil,List.cons_append] at Ta;have hc2:=Ta.cell 0 0 rfl;simp only [HCC.out] at hc2;have fF:=Ta.free 2 0 rfl;have hF:=Ta.cell 2 0 rfl;have HT3:=Vh Ta;clear Ta hc1 hfb hlt1;go_wp2_with fail
  refine (Qa.use (qst nroom HROOM.out.1 HROOM.out.2) (HT3.out.set 2 0 rfl 6 (Qb sb)) [] rfl rfl).mono ?_
  rintro e w4 ⟨gs,⟨pb,gP,rfl,hgP,rfl⟩,Ta⟩;simp only [qc8,List.nil_append,List.append_nil,List.cons_append,List.set_cons_zero,List.set_cons_succ,List.getD_cons_succ,List.getD_cons_zero] at Ta;have hc3:=Ta.cell 0 0 rfl;simp only [HCC.out] at hc3;have fF4:=Ta.free 2 0 rfl;have hF4:=Ta.cell 2 0 rfl;have hne:=Ta.ne 0 0 2 0 (by decide) rfl rfl;simp only [] at hne;have HT4:=Vh (Ta.set 2 0 rfl 8 (Qb pb));simp only [List.set_cons_zero,List.set_cons_succ,List.getD_cons_succ,List.getD_cons_zero] at HT4;clear Ta hc2 fF hF;go_wp2
  have T5:TG [] w [[cl b0 28 C],[cl lb 200 #[.slice none 0 0]],[cl fb 111 (qaz nsh ncap nring nroom cwk ccli sb pb lb (.slice none 0 0))],gS,gP] (w4.setCell ⟨fb,8,none⟩ (Qb pb)):=HT4.out
  go_loopw [6,7,37] (fun _ _ i wr=>∃ (k:Nat) (shs:List (Nat × Q0)) (v:Value) (gR gH:List Blk),k≤nsh∧shs.length=k∧i=.int .i64 k∧(∀ x∈shs,x.2=Qp nring)∧Qu 165 1 v k (shs.map fun x=>Qb x.1) gR∧J4 (fun (x:Nat × Q0)=>SH x.1 x.2) shs gH ∧
   TG [] w [[cl b0 28 C],[cl lb 200 #[.slice none 0 0]],[cl fb 111 (qaz nsh ncap nring nroom cwk ccli sb pb lb v)],gS,gP,gR,gH] wr) (fun _ _ i _=>nsh+1 - (intOf i).toNat)
  case atStart=>exact ⟨0,[],.slice none 0 0,[],[],by omega,rfl,rfl,fun x hx=>by (cases hx),Zi _ _,rfl,T5.eq (by simp)⟩
  case round =>
   clear T5 HT4 hc3 fF4 hF4;obtain ⟨k,shs,v,gR,gH,hk,hl,rfl,hnew,hr,hfam,T⟩:=hrel;have HT:=Vh T;have HR:=Vh hr;have HF:=Vh hfam;have HN:=Vh hnew;have HL:=Vh hl;have hc4:=T.cell 0 0 rfl;simp only [HCC.out] at hc4;clear T hr hfam hnew hl;have hk4:=HSH.out.2;by_cases hlt:k<nsh
   ·go_wp2_with fail
    refine (Qa.use (HNEW.out nring HRING.out.1 HRING.out.2) (HT.out) [] rfl rfl).mono ?_
    rintro e w1 ⟨gs,⟨shb,gsh,rfl,hgsh,rfl⟩,Ta⟩;simp only [PU] at Ta;have hF:=Ta.cell 2 0 rfl;simp only [qaz] at hF;have fhF:=Ta.free 2 0 rfl;have HT:=Vh Ta;clear Ta
    go_wp2_with (
     at_builtin
     (with_reducible refine Z0 rfl (.tmp 49) (.tmp 51) 101 rfl 165 1 8 _ underlying101 Tryz.infoShard rfl (by decide) ((HT.out).alloc0 _) 5 rfl rfl HR.out rfl ⟨w1.heap.size,0,none⟩ 1 1 [Qb shb] rfl rfl (X8 _ _ _) (by simp [Value.oneCell']) (by unfold maxLen;omega) (by omega) ?_)
     intro v1 w2 gR1 r1 T1;obtain ⟨a1,c1,rfl⟩:=r1.val;simp only [List.set_cons_zero,List.set_cons_succ] at T1;have hF1:=T1.cell 2 0 rfl;have fF1:=T1.free 2 0 rfl;simp only [qaz] at hF1;have HT1:=Vh T1;have HR1:=Vh r1
     clear T1 r1)
    have HT2:=Vh (HT1.out.set 2 0 rfl 7 (.slice a1 (k+1) c1));simp only [List.set_cons_zero,List.set_cons_succ,List.getD_cons_succ,List.getD_cons_zero] at HT2;have HT3:=Vh (HT2.out.merge 6 7 (by decide) rfl rfl);simp only [List.set_cons_zero,List.set_cons_succ,List.getD_cons_succ,List.getD_cons_zero] at HT3;have HT3:=Vh (HT3.out.pick [0,1,2,3,4,5,6] rfl)
    first
    | (go_roundw
       case rel=>exact ⟨k+1,shs++[(shb,Qp nring)],.slice a1 (k+1) c1,gR1,gH++gsh,by omega,by rw [List.length_append,HL.out];rfl,by go_num,fun x hx=>by (rcases List.mem_append.1 hx with h | h;exact HN.out x h;rw [List.mem_singleton.1 h]),by simpa using HR1.out,HF.out.snoc hgsh,HT3.out⟩
       case measure=>simp [intOf];omega)
    | exact ⟨⟨k+1,shs++[(shb,Qp nring)],.slice a1 (k+1) c1,gR1,gH++gsh,by omega,by rw [List.length_append,HL.out];rfl,by go_num,fun x hx=>by (rcases List.mem_append.1 hx with h | h;exact HN.out x h;rw [List.mem_singleton.1 h]),by simpa using HR1.out,HF.out.snoc hgsh,HT3.out⟩,by simp [intOf];omega⟩
    | ((repeat apply Exists.intro);exact ⟨⟨⟨k+1,shs++[(shb,Qp nring)],.slice a1 (k+1) c1,gR1,gH++gsh,by omega,by rw [List.length_append,HL.out];rfl,by go_num,fun x hx=>by (rcases List.mem_append.1 hx with h | h;exact HN.out x h;rw [List.mem_singleton.1 h]),by simpa using HR1.out,HF.out.snoc hgsh,HT3.out⟩,rfl⟩,by simp [intOf];omega⟩)
   ·obtain rfl:k=nsh:=by omega
    have hF5:=HT.out.cell 2 0 rfl;go_wp2
    go_ret2
    refine ⟨[[cl fb 111 (qaz k ncap nring nroom cwk ccli sb pb lb v)],gS,gR,gH,gP,[cl lb 200 #[.slice none 0 0]]],⟨fb,⟨sb,pb,lb,v⟩,shs,_,gS,gR,gH,gP,_,rfl,⟨⟨_,rfl,?_⟩,?_,?_,HF.out,by simpa using hgP,rfl⟩,?_,?_,rfl⟩,HT.out.pick [2,3,5,6,4,1] rfl⟩
    ·exact qqd ⟨k,ncap,nring,nroom,cwk,ccli⟩ sb pb lb v
    ·simpa using hgS
    ·rw [HL.out];exact HR.out
    ·rw [HL.out]
    ·simpa using HN.out
theorem qbt {P:Program} {f:Nat} {args:Array Value} {b o:Nat} {T:TypeId} {C:Array Value} {v r:Value} (hd:Does P f args [pt b T C] (Y6 b T C o v r)) :
 Qa P f args [[cl b T C]] fun e gs=>e=.returned r∧∃ C',Q8 C o v C'∧gs=[[cl b T C']]:=by
 refine (hd.G (gs:=[[cl b T C]]) (by simpa using Zd.of_pt b T C)).mono ?_
 rintro e gs ⟨h',g,⟨he,C',rfl,hr⟩,m,rfl⟩;exact ⟨he,C',hr,by rw [m.isPt]⟩
theorem Xy.closedR {p:qcj} {f:Zb} {tr:Value} {C C':Array Value} (h:Xy p f tr C) {x:Bool} (r:Q8 C 10 (.bool x) C'):Xy p { f with closed:=x } tr C' :=
 ⟨r.size.trans h.size,fun i hi=>(r.other i (by omega)).trans (h.cfg i hi),(r.other _ (by omega)).trans h.slab,(r.other _ (by omega)).trans h.sh,(r.other _ (by omega)).trans h.pipe,(r.other _ (by omega)).trans h.log,
   r.cell,
   r.cellOther h.inside (by omega),
   r.cellOther h.busy (by omega),
   r.cellOther h.now (by omega),
   (r.other _ (by omega)).trans h.tr⟩
theorem Xy.closedS {p:qcj} {f:Zb} {tr:Value} {C C':Array Value} (h:Xy p f tr C) (r:Q8 C 10 (.bool f.closed) C'):Xy p f tr C':=h.closedR r
theorem Xy.insideR {p:qcj} {f:Zb} {tr:Value} {C C':Array Value} (h:Xy p f tr C) {x:Int} (r:Q8 C 14 (.int .i64 x) C'):Xy p { f with inside:=x } tr C' :=
 ⟨r.size.trans h.size,fun i hi=>(r.other i (by omega)).trans (h.cfg i hi),(r.other _ (by omega)).trans h.slab,(r.other _ (by omega)).trans h.sh,(r.other _ (by omega)).trans h.pipe,(r.other _ (by omega)).trans h.log,
   r.cellOther h.closed (by omega),
   r.cell,
   r.cellOther h.busy (by omega),
   r.cellOther h.now (by omega),
   (r.other _ (by omega)).trans h.tr⟩
theorem Xy.insideS {p:qcj} {f:Zb} {tr:Value} {C C':Array Value} (h:Xy p f tr C) (r:Q8 C 14 (.int .i64 f.inside) C'):Xy p f tr C':=h.insideR r
theorem Xy.busyR {p:qcj} {f:Zb} {tr:Value} {C C':Array Value} (h:Xy p f tr C) {x:Int} (r:Q8 C 18 (.int .i64 x) C'):Xy p { f with busy:=x } tr C' :=
 ⟨r.size.trans h.size,fun i hi=>(r.other i (by omega)).trans (h.cfg i hi),(r.other _ (by omega)).trans h.slab,(r.other _ (by omega)).trans h.sh,(r.other _ (by omega)).trans h.pipe,(r.other _ (by omega)).trans h.log,
   r.cellOther h.closed (by omega),
   r.cellOther h.inside (by omega),
   r.cell,
   r.cellOther h.now (by omega),
   (r.other _ (by omega)).trans h.tr⟩
theorem Xy.busyS {p:qcj} {f:Zb} {tr:Value} {C C':Array Value} (h:Xy p f tr C) (r:Q8 C 18 (.int .i64 f.busy) C'):Xy p f tr C':=h.busyR r
theorem Xy.nowR {p:qcj} {f:Zb} {tr:Value} {C C':Array Value} (h:Xy p f tr C) {x:Int} (r:Q8 C 22 (.int .u64 x) C'):Xy p { f with now:=x } tr C' :=
 ⟨r.size.trans h.size,fun i hi=>(r.other i (by omega)).trans (h.cfg i hi),(r.other _ (by omega)).trans h.slab,(r.other _ (by omega)).trans h.sh,(r.other _ (by omega)).trans h.pipe,(r.other _ (by omega)).trans h.log,
   r.cellOther h.closed (by omega),
   r.cellOther h.inside (by omega),
   r.cellOther h.busy (by omega),
   r.cell,
   (r.other _ (by omega)).trans h.tr⟩
theorem Xy.nowS {p:qcj} {f:Zb} {tr:Value} {C C':Array Value} (h:Xy p f tr C) (r:Q8 C 22 (.int .u64 f.now) C'):Xy p f tr C':=h.nowR r
theorem qhz {fb:Nat} {p:qcj} {f:Zb} {tr:Value} {g:List Blk} (hg:Xi fb p f tr g):Qa prog 22 #[Qb fb] [g] fun e gs=>e=.returned (.int .i64 f.inside)∧∃ g',Xi fb p f tr g'∧gs=[g']:=by
 obtain ⟨C,rfl,hc⟩:=hg;refine GO fun w HT=>?_
 have HC:=Vh hc;clear hc;go_enter func22,ntmps22
 go_wp2_with fail
 refine Qa.run (qbt (Xq fb 14 _ C f.inside HC.out.inside)) (HT.out) [0] ?_
 rintro e w1 gs ⟨rfl,C1,hr,rfl⟩ HT;simp only [PU] at HT;have HR:=Vh hr;clear hr;go_wp2
 go_ret
 exact ⟨_,⟨rfl,_,⟨C1,rfl,HC.out.insideS HR.out⟩,rfl⟩,HT.out⟩
theorem qmf {fb:Nat} {p:qcj} {f:Zb} {tr:Value} {g:List Blk} (hg:Xi fb p f tr g):Qa prog 23 #[Qb fb] [g] fun e gs=>e=.returned (.int .i64 f.busy)∧∃ g',Xi fb p f tr g'∧gs=[g']:=by
 obtain ⟨C,rfl,hc⟩:=hg;refine GO fun w HT=>?_
 have HC:=Vh hc;clear hc;go_enter func23,ntmps23
 go_wp2_with fail
 refine Qa.run (qbt (Xq fb 18 _ C f.busy HC.out.busy)) (HT.out) [0] ?_
 rintro e w1 gs ⟨rfl,C1,hr,rfl⟩ HT;simp only [PU] at HT;have HR:=Vh hr;clear hr;go_wp2
 go_ret
 exact ⟨_,⟨rfl,_,⟨C1,rfl,HC.out.busyS HR.out⟩,rfl⟩,HT.out⟩
theorem qg6 {fb:Nat} {p:qcj} {f:Zb} {tr:Value} {g:List Blk} (hg:Xi fb p f tr g):Qa prog 42 #[Qb fb] [g] fun e gs=>e=.returned (.bool f.closed)∧∃ g',Xi fb p f tr g'∧gs=[g']:=by
 obtain ⟨C,rfl,hc⟩:=hg;refine GO fun w HT=>?_
 have HC:=Vh hc;clear hc;go_enter func42,ntmps42
 go_wp2_with fail
 refine Qa.run (qbt (qpa fb 10 _ C f.closed HC.out.closed)) (HT.out) [0] ?_
 rintro e w1 gs ⟨rfl,C1,hr,rfl⟩ HT;simp only [PU] at HT;have HR:=Vh hr;clear hr;go_wp2
 go_ret
 exact ⟨_,⟨rfl,_,⟨C1,rfl,HC.out.closedS HR.out⟩,rfl⟩,HT.out⟩
theorem qkz {fb:Nat} {p:qcj} {f:Zb} {tr:Value} {g:List Blk} (hg:Xi fb p f tr g):Qa prog 114 #[Qb fb] [g] fun e gs=>e=.returned (.bool (!f.closed))∧∃ g',Xi fb p { f with closed:=true } tr g'∧gs=[g']:=by
 obtain ⟨C,rfl,hc⟩:=hg;refine GO fun w HT=>?_
 have HC:=Vh hc;clear hc;go_enter func114,ntmps114
 go_wp2_with fail
 refine Qa.run (qbt (qqa fb 10 _ C f.closed false true HC.out.closed)) (HT.out) [0] ?_
 rintro e w1 gs ⟨rfl,C1,hr,rfl⟩ HT;simp only [PU] at HT;have HR:=Vh (show Q8 C 10 (.bool true) C1 from by cases hb:f.closed <;> simp [hb] at hr <;> exact hr);clear hr;go_wp2
 go_ret
 exact ⟨_,⟨by cases hb:f.closed <;> simp [hb],_,⟨C1,rfl,HC.out.closedR HR.out⟩,rfl⟩,HT.out⟩
theorem q18 {e:TypeId} {v:Value} {n:Nat} {xs:List Value} {g:List Blk} (r:Qu e 1 v n xs g) {i:Nat} {u:Value} (hi:xs[i]?=some u) :
 ∃ b cap cur,v=.slice (some ⟨b,0,none⟩) n cap∧g=[cl b e cur]∧cur[i]?=some u∧i<n:=by
 have hl:=r.1;have hin:i<n:=by have:=(List.getElem?_eq_some_iff.1 hi).1;omega
 obtain ⟨b,cap,cur,h1,h2,_,_,_,h6⟩:=r.open (by omega);exact ⟨b,cap,cur,h1,h2,(h6 i (by omega)).trans hi,hin⟩
def qah (shs:List Nat) (i:Int):Value:=if 0≤i∧i<shs.length then Qb (shs.getD i.toNat 0) else .pointer none
def qoo (shs:List Nat) (i:Int):Value:=if 0≤i then Qb (shs.getD (i % shs.length).toNat 0) else .pointer none
theorem qdc {fb:Nat} {p:qcj} {f:Zb} {tr:Value} {g:List Blk} {shs:List Nat} {gR:List Blk} (hg:Xi fb p f tr g) (hr:Qu 165 1 p.sh shs.length (shs.map fun x=>Qb x) gR) (i:Int):Qe prog 181 #[Qb fb,.int .i64 i] [g,gR] (qah shs i):=by
 obtain ⟨C,rfl,hc⟩:=hg;by_cases h0:0≤i
 ·obtain ⟨k,rfl⟩:=Int.eq_ofNat_of_zero_le h0
  by_cases hk:k<shs.length
  ·have hget:=List.getElem?_eq_getElem hk
   obtain ⟨x,hx⟩:∃ x,shs[k]=x:=⟨_,rfl⟩;rw [hx] at hget;have hi:(shs.map fun x=>Qb x)[k]?=some (Qb x):=by rw [List.getElem?_map,hget];rfl
   obtain ⟨b,cap,cur,hv,rfl,hcu,_⟩:=q18 hr hi
   have HV:=Vh (show qah shs k=Qb x from by
    unfold qah
    rw [if_pos ⟨h0,by omega⟩,Int.toNat_natCast,List.getD_eq_getElem?_getD,hget];rfl)
   have hsh:=hc.sh;rw [hv] at hsh;refine GO fun w HT=>?_
   have c0:=(HT.out.cell 0 0 rfl 7).trans hsh;have c1:=(HT.out.cell 1 0 rfl k).trans hcu;clear hc hr hget hi hv hsh hcu hx;go_enter func181,ntmps181
   go_wp2
   go_ret
   first | exact ⟨by rw [HV.out];rfl,0,rfl⟩ | exact ⟨by rw [HV.out];rfl,_,rfl⟩
  ·have HV:=Vh (show qah shs k=.pointer none from if_neg (by omega))
   obtain ⟨a,cap,hv⟩:=hr.val;have hsh:=hc.sh;rw [hv] at hsh;refine GO fun w HT=>?_
   have c0:=(HT.out.cell 0 0 rfl 7).trans hsh;clear hc hr hv hsh;go_enter func181,ntmps181
   go_wp2
   go_ret
   first | exact ⟨by rw [HV.out];rfl,0,rfl⟩ | exact ⟨by rw [HV.out];rfl,_,rfl⟩
 ·have HV:=Vh (show qah shs i=.pointer none from if_neg (by omega))
  refine GO fun w HT=>?_
  clear hc hr;go_enter func181,ntmps181
  go_wp2
  go_ret
  first | exact ⟨by rw [HV.out];rfl,0,rfl⟩ | exact ⟨by rw [HV.out];rfl,_,rfl⟩
theorem qkl {fb:Nat} {p:qcj} {f:Zb} {tr:Value} {g:List Blk} {shs:List Nat} {gR:List Blk} (hg:Xi fb p f tr g) (hr:Qu 165 1 p.sh shs.length (shs.map fun x=>Qb x) gR) (hn:1≤shs.length) (i:Int):Qe prog 151 #[Qb fb,.int .i64 i] [g,gR] (qoo shs i):=by
 by_cases h0:0≤i
 ·have hs:=qdc hg hr (i % shs.length)
  have hm0:0≤i % (shs.length:Int):=Int.emod_nonneg _ (by omega);have hm1:i % (shs.length:Int)<shs.length:=Int.emod_lt_of_pos _ (by omega);obtain ⟨x,hx⟩:∃ x,Qb (shs.getD (i % shs.length).toNat 0)=x:=⟨_,rfl⟩;have HV:=Vh (show qoo shs i=x from (if_pos h0).trans hx);rw [show qah shs (i % shs.length)=x from (if_pos ⟨hm0,hm1⟩).trans hx] at hs;have HS:=Vh hs;obtain ⟨C,rfl,hc⟩:=hg;obtain ⟨a,cap,hv⟩:=hr.val;have hsh:=hc.sh;rw [hv] at hsh;refine GO fun w HT=>?_
  have c0:=(HT.out.cell 0 0 rfl 7).trans hsh;clear hc hr hv hsh hs hm0 hm1 hx;go_enter func151,ntmps151
  go_wp2_with fail
  refine (Qe.use (HS.out) (HT.out) [0,1] rfl rfl).mono ?_
  rintro e w1 ⟨rfl,mq,rfl⟩;go_wp2
  go_ret
  first | exact ⟨by rw [HV.out];rfl,0,rfl⟩ | exact ⟨by rw [HV.out];rfl,_,rfl⟩
 ·have HV:=Vh (show qoo shs i=.pointer none from if_neg h0)
  refine GO fun w HT=>?_
  clear hg hr;go_enter func151,ntmps151
  go_wp2
  go_ret
  first | exact ⟨by rw [HV.out];rfl,0,rfl⟩ | exact ⟨by rw [HV.out];rfl,_,rfl⟩
theorem qpk {s:Qn} {j k:Nat} {r:Rec} (hj:j<s.recs.length) (hn:s.recs.length≤64) (hr:s.recs.getD j Rec.zero=r):s.known ((k:Int)*64+j+64)↔(k:Int)+1≤r.g:=by
 have e1:((k:Int)*64+j+64) % 64=j:=by omega
 have e2:((k:Int)*64+j+64) / 64=k+1:=by omega
 unfold Qn.known;rw [e1,e2,Int.toNat_natCast,hr];constructor
 ·exact fun h=>h.2.2
 ·exact fun h=>⟨by omega,by omega,h⟩
def qpv (s:Qn) (i:Int):Int × Int :=
 if 0≤i∧i<s.recs.length then let g:=(s.recs.getD i.toNat Rec.zero).g;if g<1 then (0,6) else (g*64+i,0) else (0,4)
theorem qg3 {fb:Nat} {p:qcj} {f:Zb} {tr:Value} {gF gS:List Blk} {s:Qn} (hg:Xi fb p f tr gF) (hS:Zt p.sb s gS) (hc:f.cfg.cap=s.recs.length) (hn:s.recs.length≤64) (hG:∀ r∈s.recs,0≤r.g∧r.g≤4294967295) (i:Int) :
 Qa prog 212 #[Qb fb,.int .i64 i] [gF,gS] fun e gs=>e=.returned (.tuple #[.int .u64 (qpv s i).1,.int .i64 (qpv s i).2])∧∃ gS',Zt p.sb s gS'∧gs=[gF,gS']:=by
 obtain ⟨C,rfl,hC⟩:=hg;refine GO fun w HT=>?_
 have c1:=(HT.out.cell 0 0 rfl 1).trans (hC.cfg 1 (by decide));have c6:=(HT.out.cell 0 0 rfl 6).trans hC.slab;simp only [Cfg.cells,hc,GE3] at c1;have HS:=Vh hS;have HN:=Vh hn;have HC6:=Vh hC.slab;clear hS hC hc;by_cases h0:i<0
 ·have HV:=Vh (show qpv s i=(0,4) from if_neg (by omega))
  go_enter func212,ntmps212
  go_wp2
  go_ret2
  exact ⟨_,⟨by rw [HV.out];rfl,gS,HS.out,rfl⟩,HT.out⟩
 by_cases h1:(s.recs.length:Int)≤i
 ·have HV:=Vh (show qpv s i=(0,4) from if_neg (by omega))
  go_enter func212,ntmps212
  go_wp2
  go_ret2
  exact ⟨_,⟨by rw [HV.out];rfl,gS,HS.out,rfl⟩,HT.out⟩
 obtain ⟨j,rfl⟩:=Int.eq_ofNat_of_zero_le (show 0≤i by omega);have hj:j<s.recs.length:=by omega
 obtain ⟨r,hr⟩:∃ r,s.recs.getD j Rec.zero=r:=⟨_,rfl⟩;have hmem:r∈s.recs:=by rw [← hr,List.getD_eq_getElem?_getD,List.getElem?_eq_getElem hj];exact List.getElem_mem hj
 obtain ⟨g0,g1⟩:=hG r hmem;obtain ⟨gn,hgn⟩:=Int.eq_ofNat_of_zero_le g0;have HV:=Vh (show qpv s j=if r.g<1 then (0,6) else (r.g*64+j,0) by unfold qpv;rw [if_pos ⟨by omega,by omega⟩,Int.toNat_natCast,hr]);have HK:=Vh (fun k:Nat=>qpk (k:=k) hj hn hr);rw [hgn] at HV HK;have hgb:gn≤4294967295:=by omega
 have hj64:j<64:=by omega
 clear hr hmem hgn hG h0 hn g0 g1;go_enter func212,ntmps212
 go_wp2_with fail
 go_loopw [6] (fun v wr=>∃ k:Nat,k≤gn∧v=.int .u64 ((k:Int)*64+j)∧∃ gS',Zt p.sb s gS'∧TG [[cl fb 111 C],gS] w [[cl fb 111 C],gS'] wr) (fun v _=>gn*64+j - (intOf v).toNat)
 case atStart=>exact ⟨0,Nat.zero_le _,by simp,gS,HS.out,HT.out⟩
 case round =>
  obtain ⟨k,hk,rfl,gS1,hS1,T⟩:=hrel;have HT:=Vh T;have c6:=(HT.out.cell 0 0 rfl 6).trans HC6.out;clear T;have b0:(0:Int)≤(k:Int)*64+j+64:=by omega
  have b1:(k:Int)*64+j+64<18446744073709551616:=by omega
  by_cases hlt:k<gn
  ·have HX:=Vh (show s.serr ((k:Int)*64+j+64)=0 from if_pos ((HK.out k).2 (by omega)))
   obtain ⟨y,hy⟩:∃ y,s.slot ((k:Int)*64+j+64)=y:=⟨_,rfl⟩;have HY:=Vh hy;clear hy;go_wp2_with fail
   refine Qa.run (qcf HY.out HX.out hS1 HN.out b0 b1) (HT.out) [1] ?_
   rintro e w1 gs ⟨rfl,gS2,hS2,rfl⟩ HT;simp only [PU] at HT;go_wp2
   go_roundw
   case rel=>exact ⟨k+1,by omega,congrArg (Value.int .u64) (by omega),gS2,hS2,HT.out⟩
   case measure=>simp [intOf];omega
  ·obtain rfl:k=gn:=by omega
   have HX:=Vh (show s.serr ((k:Int)*64+j+64)=1 from if_neg (fun h=>by have:=(HK.out k).1 h;omega));obtain ⟨y,hy⟩:∃ y,s.slot ((k:Int)*64+j+64)=y:=⟨_,rfl⟩;have HY:=Vh hy;clear hy;by_cases hz:k=0
   ·subst hz
    have e0:(((0:Nat):Int)*64+j+64)=(j:Int)+64:=by omega
    rw [e0] at HX HY b0 b1;clear e0;go_wp2_with fail
    refine Qa.run (qcf HY.out HX.out hS1 HN.out b0 b1) (HT.out) [1] ?_
    rintro e w1 gs ⟨rfl,gS2,hS2,rfl⟩ HT;simp only [PU] at HT;have z:(j:Int)<64:=by omega
    go_wp2
    go_ret2
    exact ⟨_,⟨by rw [HV.out];rfl,gS2,hS2,rfl⟩,HT.out⟩
   ·go_wp2_with fail
    refine Qa.run (qcf HY.out HX.out hS1 HN.out b0 b1) (HT.out) [1] ?_
    rintro e w1 gs ⟨rfl,gS2,hS2,rfl⟩ HT;simp only [PU] at HT;have HV2:=Vh (HV.out.trans (if_neg (by omega)));have z:¬ ((k:Int)*64+j)<64:=by omega
    clear b0 b1 hz hlt hk;go_wp2
    go_ret2
    exact ⟨_,⟨by rw [HV2.out];rfl,gS2,hS2,rfl⟩,HT.out⟩
end
end Go.Proofs.YtikpbibeagbccaaGreat
