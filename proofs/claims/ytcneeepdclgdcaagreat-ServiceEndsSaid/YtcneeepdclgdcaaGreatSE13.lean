import Derived.Test.YtcneeepdclgdcaaGreatSE11
import Derived.Test.YtcneeepdclgdcaaGreatSE12
import Derived.Test.YtcneeepdclgdcaaGreatSE4
import Derived.LaidEqlPtr
set_option maxRecDepth 100000
set_option maxHeartbeats 4000000
namespace Go.Proofs.YtcneeepdclgdcaaGreat
open Go.Value renaming int->U1,pointer->U5,tuple->UC
open Go.IntKind renaming i64->U2,u64->U3
open Go.Ending renaming returned->U4
open _root_.Int renaming eq_ofNat_of_zero_le->U6,toNat_natCast->UI
open _root_.List renaming nil_append->U7,cons_append->U8,append_nil->U9,set_cons_zero->UA,set_cons_succ->UB,getD_cons_succ->UD,getD_cons_zero->UE,length_append->UF,mem_singleton->UG,getD_eq_getElem?_getD->UH,getElem?_eq_some_iff->UJ,getElem?_eq_getElem->UK,mem_append->UL,perm_append_comm->UN,flatten_cons->UQ,flatten_nil->UR
open _root_.List.Perm renaming swap->UM
open Go renaming madeCells->UO
open _root_.Exists renaming intro->US
set_option linter.all false
open Go.Proofs.Tryz
section
open Go.RowKit Go.Shelf
abbrev Qb (b:Nat):Value:=.pointer (some ⟨b,0,none⟩)
def ql (b:Nat) (who:Int) (n:Int) (g:List ak):Prop:=∃ C,g=[cl b 170 C]/\C.size=5/\cellAt C 0 (U1 U2 who)/\C[4]?=some (U1 U2 n)
theorem qwg:Qa prog 134 #[] [] fun e gs=>∃ b g,e=U4 (Qb b)/\ql b 0 0 g/\gs=[g]:=by
 refine GO fun w HT=>?_
 go_enter func134,ntmps134
 go_wp2
 go_ret
 exact ⟨_,⟨_,_,rfl,⟨_,rfl,rfl,⟨rfl,0,0,0,rfl,rfl,rfl⟩,rfl⟩,rfl⟩,HT.alloc rfl _ _⟩
theorem q0v:Qa prog 75 #[] [] fun e gs=>∃ b,e=U4 (Qb b)/\gs=[[cl b 232 #[.slice none 0 0]]]:=by
 refine GO fun w HT=>?_
 go_enter func75,ntmps75
 go_wp2
 go_ret
 exact ⟨_,⟨_,rfl,rfl⟩,HT.alloc rfl _ _⟩
def Bf (b hb:Nat):List ak:=[cl b 261 #[U5 none,U5 none,U1 U2 0,Qb hb],cl hb 282 #[U5 none]]
theorem O4:Qa prog 132 #[] [] fun e gs=>∃ b hb,e=U4 (Qb b)/\gs=[Bf b hb]:=by
 refine GO fun w HT=>?_
 go_enter func132,ntmps132
 go_wp2
 go_ret
 exact ⟨_,⟨_,_,rfl,rfl⟩,((HT.alloc rfl _ _).alloc rfl _ _).re (by simp [Bf];exact UM _ _ _)⟩
structure Qp where
 id:Int
 slot:Int
 gen:Int
 dl:Int
 per:Int
def Qp.zero:Qp:=⟨0,0,0,0,0⟩
structure lW where
 seq:Int
 v:Qp
structure Qz where
 slots:List lW
 tail:Int
 head:Int
def LY (D:Array Value) (o:Nat) (t:Qp):Prop:=D[o]?=some (U1 U3 t.id)/\D[o+1]?=some (U1 U2 t.slot)/\D[o+2]?=some (U1 U3 t.gen)/\D[o+3]?=some (U1 U3 t.dl)/\D[o+4]?=some (U1 U3 t.per)
def DR (D:Array Value) (i:Nat) (s:lW):Prop:=cellAt D (i*9) (U1 U2 s.seq)/\LY D (i*9+4) s.v
def X4 (rb:Nat) (r:Qz) (g:List ak):Prop:=∃ sb C D,g=[cl rb 249 C,cl sb 251 D]/\C.size=6/\C[0]?=some (.slice (some ⟨sb,0,none⟩) r.slots.length r.slots.length)/\cellAt C 1 (U1 U2 r.tail) /\
 C[5]?=some (U1 U2 r.head)/\D.size=r.slots.length*9/\∀ i s,r.slots[i]?=some s->DR D i s
theorem RY (b o:Nat) (T:TypeId) (C:Array Value) (u:Value) (x:Int) (hc:C[o]?=some u) :
 Qa prog 149 #[.pointer (some ⟨b,o,none⟩),U1 U2 x] [[cl b T C]] fun e gs=>e=U4 (UC #[])/\gs=[[cl b T (C.setIfInBounds o (U1 U2 x))]]:=by
 refine GO fun w HT=>?_
 have c0:=(HT.cell 0 0 rfl o).trans hc;have f0:=HT.free 0 0 rfl o;clear hc;go_enter func149,ntmps149
 go_wp2
 refine bodyPost_end (results_none rfl _ _ _) rfl ⟨_,⟨rfl,rfl⟩,HT.set 0 0 rfl o _⟩
def Jj (n:Nat):Qz:=⟨(List.range n).map fun (i:Nat)=>⟨2*(i:Int),Qp.zero⟩,0,0⟩
def xD:Array Value:=#[U1 U2 0,U1 U2 0,U1 U2 0,U1 U2 0,U1 U3 0,U1 U2 0,U1 U3 0,U1 U3 0,U1 U3 0]
theorem qxt:(prog.info? 251).map (fun i=>(i.zero,i.size,i.bytes))=some (some (.agg xD),9,72):=by kernel_rfl
def Fp (n k:Nat) (D:Array Value):Prop:=D.size=n*9/\∀ i,i<n->DR D i ⟨if i<k then 2*(i:Int) else 0,Qp.zero⟩
theorem qxd (n:Nat):Fp n 0 (UO xD (n*9)):=by
 refine ⟨size_madeCells _ _,fun i hi=>?_⟩
 rw [if_neg (Nat.not_lt_zero _)];have hz:xD.size=9:=rfl;have g:∀ j,j<9->(UO xD (n*9))[i*9+j]?=xD[j]?:=fun j hj=>zo _ n 9 i j hz hi hj
 exact ⟨⟨g 0 (by decide),0,0,0,g 1 (by decide),g 2 (by decide),g 3 (by decide)⟩,g 4 (by decide),g 5 (by decide),g 6 (by decide),g 7 (by decide),g 8 (by decide)⟩
theorem qt5 {D:Array Value} {i j:Nat} {s:lW} (h:DR D i s) (x:Int):DR (D.setIfInBounds (j*9) (U1 U2 x)) i (if i=j then { s with seq:=x } else s):=by
 obtain ⟨⟨a0,l,t,u,a1,a2,a3⟩,b0,b1,b2,b3,b4⟩:=h;by_cases e:i=j
 ·subst e
  rw [if_pos rfl];exact ⟨⟨Xe a0,l,t,u,(Qc (by omega)).trans a1,(Qc (by omega)).trans a2,(Qc (by omega)).trans a3⟩,(Qc (by omega)).trans b0,(Qc (by omega)).trans b1,(Qc (by omega)).trans b2,(Qc (by omega)).trans b3,(Qc (by omega)).trans b4⟩
 ·rw [if_neg e]
  exact ⟨⟨(Qc (by omega)).trans a0,l,t,u,(Qc (by omega)).trans a1,(Qc (by omega)).trans a2,(Qc (by omega)).trans a3⟩,(Qc (by omega)).trans b0,(Qc (by omega)).trans b1,(Qc (by omega)).trans b2,(Qc (by omega)).trans b3,(Qc (by omega)).trans b4⟩
theorem qtt {n k:Nat} {D:Array Value} (h:Fp n k D) (hk:k<n):Fp n (k+1) (D.setIfInBounds (k*9) (U1 U2 (2*k))):=by
 refine ⟨by rw [Array.size_setIfInBounds];exact h.1,fun i hi=>?_⟩
 have h2:=qt5 (j:=k) (h.2 i hi) (2*k);by_cases e:i=k
 ·subst e
  rw [if_pos rfl] at h2;rw [if_pos (by omega)];exact h2
 ·rw [if_neg e] at h2
  have e2:(if i<k+1 then 2*(i:Int) else 0)=if i<k then 2*(i:Int) else 0:=by
   by_cases h3:i<k
   ·rw [if_pos h3,if_pos (by omega)]
   ·rw [if_neg h3,if_neg (by omega)]
  rw [e2];exact h2
theorem qxf (n:Nat) (h1:1<=n) (h2:n<=64):Qa prog 133 #[U1 U2 n] [] fun e gs=>∃ b g,e=U4 (UC #[Qb b,U1 U2 0])/\X4 b (Jj n) g/\gs=[g]:=by
 refine GO fun w HT=>?_
 have hmk:∀ w,(Instr.makeSlice 247 (U1 U2 (n:Int)) (U1 U2 (n:Int))).run prog w=.ok (.slice (some ⟨w.heap.size,0,none⟩) n n) (w.alloc (.cells (UO xD (n*9)) 251)):=Kl _ _ (.agg xD) 9 72 underlying247 qxt n (by omega) (by omega);have hd1:decide ((n:Int)<1)=false:=by simp;omega
 have hd2:decide (64<(n:Int))=false:=by simp;omega
 go_enter func133,ntmps133
 go_wp2
 have T1:=(HT.a 251 (UO xD (n*9))).alloc (k:=w.heap.size+1) (by simp) 249 #[.slice (some ⟨w.heap.size,0,none⟩) n n,U1 U2 0,U1 U2 0,U1 U2 0,U1 U2 0,U1 U2 0];obtain ⟨sb,hsb⟩:∃ sb,sb=w.heap.size:=⟨_,rfl⟩;rw [<- hsb] at T1 |-;obtain ⟨rb,hrb⟩:∃ rb,rb=sb+1:=⟨_,rfl⟩;rw [<- hrb] at T1 |-
 go_loopw [5,21] (fun _ i wr=>∃ (k:Nat) (D:Array Value),k<=n/\i=U1 U2 k/\Fp n k D/\TG [] w [[cl sb 251 D],[cl rb 249 #[.slice (some ⟨sb,0,none⟩) n n,U1 U2 0,U1 U2 0,U1 U2 0,U1 U2 0,U1 U2 0]]] wr) (fun _ i _=>n+1 - (intOf i).toNat)
 case atStart=>exact ⟨0,_,by omega,rfl,qxd n,T1⟩
 case round =>
  obtain ⟨k,D,hk,rfl,hD,T⟩:=hrel;have HT:=Vh T;have HD:=Vh hD;have c1:=T.cell 1 0 rfl;clear T T1 hD hsb hrb;by_cases hlt:k<n
  ·go_wp2_with fail
   refine Qa.run (RY sb (k*9) 251 D _ (2*k) (HD.2 k hlt).1.1) (HT) [0] ?_
   rintro e w1 gs ⟨rfl,rfl⟩ HT;simp only [PU] at HT;go_wp2
   first | go_roundw | refine ⟨?rel,?measure⟩ | ((repeat apply US);refine ⟨⟨?rel,rfl⟩,?measure⟩)
   case rel=>exact ⟨k+1,_,by omega,by go_num,qtt HD hlt,HT⟩
   case measure=>simp [intOf];omega
  ·obtain rfl:k=n:=by omega
   go_wp2
   go_ret2
   refine ⟨_,⟨_,[cl rb 249 _,cl sb 251 D],rfl,⟨sb,_,D,rfl,rfl,by simp [Jj],⟨rfl,0,0,0,rfl,rfl,rfl⟩,rfl,by simpa [Jj] using HD.out.1,fun i s hs=>?_⟩,rfl⟩,HT.re (UM _ _ _)⟩
   have hi:i<k:=by have:=(UJ.1 hs).1;simpa [Jj] using this
   have h2:=HD.2 i hi;rw [if_pos hi] at h2;have e:s=⟨2*(i:Int),Qp.zero⟩:=by simp [Jj,hi] at hs;exact hs.symm
   rw [e];exact h2
def Kc (n pb:Nat) (g:List ak):Prop:=∃ cb lb hb:Nat,g=[cl pb 185 #[.chan (some cb),Qb lb,U1 U2 0,.bool false],(cb,.chan n #[] false 0 0 false)]++Bf lb hb
theorem F8:(prog.info? 63).map (fun i=>(i.zero,i.size,i.bytes))=some (some (.agg #[U1 U3 0,U1 U3 0,U1 U3 0,U1 U3 0]),4,32):=by kernel_rfl
theorem qig (n:Nat) (hn:n<=16) (w:World):(Instr.makeChan 182 (U1 U2 (n:Int))).run prog w=.ok (.chan (some w.heap.size)) (w.alloc (.chan n #[] false 0 0 false)):=by
 obtain ⟨i,hi,_,_,hb⟩:=info_parts F8;have hw:IntKind.i64.wrap (n:Int)=n:=by rw [IntKind.wrap_i64];omega
 have h1:¬ ((n:Int)<0):=by omega
 have h2:¬ (9223372036854775807<(n:Int)):=by omega
 have h3:¬ (281474976710544<32*(n:Int)):=by omega
 simp [Instr.makeChan,asInt,asIntOf,run_underlying underlying182,typeInfo,hi,hb,hw,h1,h2,h3,newObj,IntKind.max,IntKind.bits,IntKind.signed]
 rfl
theorem qwy (n:Nat) (h1:1<=n) (h2:n<=16):Qa prog 77 #[U1 U2 n] [] fun e gs=>∃ b g,e=U4 (UC #[Qb b,U1 U2 0])/\Kc n b g/\gs=[g]:=by
 refine GO fun w HT=>?_
 have hmk:=qig n h2;have hd1:decide ((n:Int)<1)=false:=by simp;omega
 have hd2:decide (16<(n:Int))=false:=by simp;omega
 go_enter func77,ntmps77
 go_wp2
 go_region_with (
  go_at_call 132
  first
  | (refine (Qa.use O4 (HT.drew.put rfl (.chan n #[] false 0 0 false)) [] rfl rfl).mono ?_
     rintro e w1 ⟨gs,⟨lb,hb,rfl,rfl⟩,Ta⟩;have HT1:=Vh Ta
     clear Ta)
  | (refine (Qa.use O4 HT.drew [] rfl rfl).mono ?_
     rintro e w1 ⟨gs,⟨lb,hb,rfl,rfl⟩,Ta⟩;have HT1:=Vh Ta
     clear Ta))
 ·go_wp2
  go_ret2
  refine ⟨_,⟨_,_,rfl,⟨w.heap.size,lb,hb,rfl⟩,rfl⟩,(HT1.a 185 #[.chan (some w.heap.size),Qb lb,U1 U2 0,.bool false]).re ?_⟩
  simp only [j3,U7,U9,U8,UQ,UR,Bf];exact (UN (l₁:=[_,_,_]) (l₂:=[_]))
 ·go_wp2
  go_ret2
  refine ⟨_,⟨_,_,rfl,⟨w1.heap.size,lb,hb,rfl⟩,rfl⟩,((HT1.put (k:=w1.heap.size) rfl (.chan n #[] false 0 0 false)).alloc (k:=w1.heap.size+1) (by simp) 185 #[.chan (some w1.heap.size),Qb lb,U1 U2 0,.bool false]).re ?_⟩
  simp only [j3,U7,U9,U8,UQ,UR,Bf];exact (UN (l₁:=[_,_]) (l₂:=[_,_])).trans (UM _ _ _)
structure Qu where
 ring:Qz
 who:Int
 turns:Int
def Qr (n:Nat):Qu:=⟨Jj n,0,0⟩
structure jq where
 sb:Nat
 pb:Nat
 lb:Nat
 sh:Value
structure Zt where
 cfg:Cfg
 closed:Bool
 inside:Int
 busy:Int
 now:Int
structure Zj (p:jq) (f:Zt) (tr:Value) (C:Array Value):Prop where
 size:C.size=27
 cfg:∀ i,i<6->C[i]?=f.cfg.cells[i]?
 aa:C[6]?=some (Qb p.sb)
 sh:C[7]?=some p.sh
 pipe:C[8]?=some (Qb p.pb)
 log:C[9]?=some (Qb p.lb)
 closed:cellAt C 10 (.bool f.closed)
 inside:cellAt C 14 (U1 U2 f.inside)
 busy:cellAt C 18 (U1 U2 f.busy)
 now:cellAt C 22 (U1 U3 f.now)
 tr:C[26]?=some tr
def X3 (fb:Nat) (p:jq) (f:Zt) (tr:Value) (g:List ak):Prop:=∃ C,g=[cl fb 138 C]/\Zj p f tr C
structure quy (SH:Nat->Qu->List ak->Prop) (fb:Nat) (p:jq) (f:Zt) (tr:Value) (s:Qj) (au:List (Nat × Qu)) (gF gS gR gH gP gL:List ak):Prop where
 floor:X3 fb p f tr gF
 aa:Jc p.sb s gS
 row:Q3 42 1 p.sh au.length (au.map fun x=>Qb x.1) gR
 lM:Yy (fun x=>SH x.1 x.2) au gH
 aG:Kc f.cfg.room.toNat p.pb gP
 log:gL=[cl p.lb 232 #[.slice none 0 0]]
def Ph (SH:Nat->Qu->List ak->Prop):Prop:=∀ (n:Nat),1<=n->n<=64->Qa prog 78 #[U1 U2 n] [] fun e gs=>∃ b g,e=U4 (UC #[Qb b,U1 U2 0])/\SH b (Qr n) g/\gs=[g]
def Au (qL jW eU ib wk jA:Int) (sb pb lb:Nat) (v:Value):Array Value:=#[U1 U2 qL,U1 U2 jW,U1 U2 eU,U1 U2 ib,U1 U2 wk,U1 U2 jA,Qb sb,v,Qb pb,Qb lb,.bool false,U1 U2 0,U1 U2 0,U1 U2 0,U1 U2 0,U1 U2 0,U1 U2 0,U1 U2 0,U1 U2 0,U1 U2 0,U1 U2 0,U1 U2 0,U1 U3 0,U1 U2 0,U1 U2 0,U1 U2 0,.slice none 0 0]
theorem qsi (c:Cfg) (sb pb lb:Nat) (v:Value):Zj ⟨sb,pb,lb,v⟩ ⟨c,false,0,0,0⟩ (.slice none 0 0) (Au c.sh c.cap c.ring c.room c.wk c.jA sb pb lb v):=by
 refine ⟨rfl,fun i hi=>?_,rfl,rfl,rfl,rfl,⟨rfl,0,0,0,rfl,rfl,rfl⟩,⟨rfl,0,0,0,rfl,rfl,rfl⟩,⟨rfl,0,0,0,rfl,rfl,rfl⟩,⟨rfl,0,0,0,rfl,rfl,rfl⟩,rfl⟩
 have:i=0\/i=1\/i=2\/i=3\/i=4\/i=5:=by omega
 rcases this with rfl | rfl | rfl | rfl | rfl | rfl <;> rfl
theorem Tryz.pO:(prog.info? 42).map (fun i=>(i.zero,i.size,i.bytes))=some (some (U5 none),1,8):=by kernel_rfl
theorem Cfg.bd {c:Cfg} (hk:c.ok=true):(1<=c.sh/\c.sh<=4)/\(1<=c.cap/\c.cap<=64)/\(1<=c.ring/\c.ring<=64)/\(1<=c.room/\c.room<=16)/\(1<=c.wk/\c.wk<=4)/\(1<=c.jA/\c.jA<=8):=by
 simpa [Cfg.ok,Cfg.fine,Cfg.pair,and_assoc] using hk
theorem qou {SH:Nat->Qu->List ak->Prop} (Nj:Ph SH) (c:Cfg) (hk:c.ok=true):Qa prog 13 #[.agg c.cells] [] fun e gs =>
 ∃ fb p au gF gS gR gH gP gL,e=U4 (UC #[Qb fb,U1 U2 0])/\quy SH fb p ⟨c,false,0,0,0⟩ (.slice none 0 0) (Zx c.cap.toNat) au gF gS gR gH gP gL/\(au.length:Int)=c.sh/\(∀ x∈au,x.2=Qr c.ring.toNat)/\gs=[gF,gS,gR,gH,gP,gL]:=by
 refine GO fun w HT=>?_
 have G8:=Vh Nj;clear Nj;obtain ⟨hk1,hk2,hk3,hk4,hk5,Nq⟩:=Cfg.bd hk;obtain ⟨csh,Ht,Cc,Ce,zP,pg⟩:=c;simp only [] at hk1 hk2 hk3 hk4 hk5 Nq;obtain ⟨qL,rfl⟩:=U6 (show 0<=csh by omega);obtain ⟨jW,rfl⟩:=U6 (show 0<=Ht by omega);obtain ⟨eU,rfl⟩:=U6 (show 0<=Cc by omega);obtain ⟨ib,rfl⟩:=U6 (show 0<=Ce by omega);have HCAP:=Vh (show 1<=jW/\jW<=64 by omega);have wS:=Vh (show 1<=eU/\eU<=64 by omega);have wT:=Vh (show 1<=ib/\ib<=16 by omega);have kr:=Vh (show 1<=qL/\qL<=4 by omega);clear hk1 hk2 hk3 hk4 hk5 Nq;obtain ⟨c,hcd⟩:∃ c:Cfg,c=⟨qL,jW,eU,ib,zP,pg⟩:=⟨_,rfl⟩;rw [<- hcd] at hk |-;have HB:=Vh (q3v c);obtain ⟨C,hC⟩:∃ C,C=c.cells:=⟨_,rfl⟩;have hC':=hC;simp only [Cfg.cells] at hC';rw [<- hC,hk] at HB;rw [hcd] at hC';simp only [] at hC';have oQ:=Vh hC';have HCD:=Vh hcd;simp only [Cfg.cells,hcd];go_enter func13,ntmps13
 go_wp2_with fail
 rw [<- hC'];clear hC hC' hk hcd;refine (Qa.use HB.out (HT.out.alloc (k:=w.heap.size) rfl 30 C) [] rfl rfl).mono ?_
 rintro e w1 ⟨gs,⟨rfl,rfl⟩,Ta⟩;simp only [j3,U7,U9,if_true] at Ta;have hc0:=Ta.cell 0 0 rfl;simp only [oQ.out] at hc0;have HT:=Vh Ta;clear Ta;obtain ⟨b0,hb0⟩:∃ b0,b0=w.heap.size:=⟨_,rfl⟩;rw [<- hb0] at HT hc0 |-;clear hb0;go_wp2
 go_region_with (
  go_at_call 75
  refine (Qa.use q0v HT.out.drew [] rfl rfl).mono ?_
  rintro e w2 ⟨gs,⟨lb,rfl,rfl⟩,Ta⟩;simp only [j3,U7,U9,U8] at Ta;have hc1:=Ta.cell 0 0 rfl;simp only [oQ.out] at hc1;have hlt1:=Ta.lt 0 0 rfl;simp only [] at hlt1;have HT1:=Vh Ta
  clear Ta hc0)
 all_goals
  go_wp2_with fail
  have HT2:=Vh (HT1.out.alloc (k:=w2.heap.size) rfl 138 #[U1 U2 qL,U1 U2 jW,U1 U2 eU,U1 U2 ib,U1 U2 zP,U1 U2 pg,U5 none,.slice none 0 0,U5 none,Qb lb,.bool false,U1 U2 0,U1 U2 0,U1 U2 0,U1 U2 0,U1 U2 0,U1 U2 0,U1 U2 0,U1 U2 0,U1 U2 0,U1 U2 0,U1 U2 0,U1 U3 0,U1 U2 0,U1 U2 0,U1 U2 0,.slice none 0 0]);simp only [U8,U7] at HT2;obtain ⟨fb,Nn⟩:∃ fb,fb=w2.heap.size:=⟨_,rfl⟩;rw [<- Nn] at HT2 |-;refine (Qa.use (qt3 jW HCAP.out.1 HCAP.out.2) HT2.out [] rfl rfl).mono ?_
  rintro e w3 ⟨gs,⟨sb,gS,rfl,hgS,rfl⟩,Ta⟩;simp only [j3,U7,U9,U8] at Ta;have hc2:=Ta.cell 0 0 rfl;simp only [oQ.out] at hc2;have fF:=Ta.free 2 0 rfl;have hF:=Ta.cell 2 0 rfl;have HT3:=Vh Ta;clear Ta hc1 Nn hlt1;go_wp2_with fail
  refine (Qa.use (qwy ib wT.out.1 wT.out.2) (HT3.out.set 2 0 rfl 6 (Qb sb)) [] rfl rfl).mono ?_
  rintro e w4 ⟨gs,⟨pb,gP,rfl,hgP,rfl⟩,Ta⟩;simp only [j3,U7,U9,U8,UA,UB,UD,UE] at Ta;have hc3:=Ta.cell 0 0 rfl;simp only [oQ.out] at hc3;have fF4:=Ta.free 2 0 rfl;have hF4:=Ta.cell 2 0 rfl;have hne:=Ta.ne 0 0 2 0 (by decide) rfl rfl;simp only [] at hne;have GJ:=Vh (Ta.set 2 0 rfl 8 (Qb pb));simp only [UA,UB,UD,UE] at GJ;clear Ta hc2 fF hF;go_wp2
  have T5:TG [] w [[cl b0 30 C],[cl lb 232 #[.slice none 0 0]],[cl fb 138 (Au qL jW eU ib zP pg sb pb lb (.slice none 0 0))],gS,gP] (w4.setCell ⟨fb,8,none⟩ (Qb pb)):=GJ.out
  go_loopw [6,7,37] (fun _ _ i wr=>∃ (k:Nat) (au:List (Nat × Qu)) (v:Value) (gR gH:List ak),k<=qL/\au.length=k/\i=U1 U2 k/\(∀ x∈au,x.2=Qr eU)/\Q3 42 1 v k (au.map fun x=>Qb x.1) gR/\Yy (fun (x:Nat × Qu)=>SH x.1 x.2) au gH /\
   TG [] w [[cl b0 30 C],[cl lb 232 #[.slice none 0 0]],[cl fb 138 (Au qL jW eU ib zP pg sb pb lb v)],gS,gP,gR,gH] wr) (fun _ _ i _=>qL+1 - (intOf i).toNat)
  case atStart=>exact ⟨0,[],.slice none 0 0,[],[],by omega,rfl,rfl,fun x hx=>by (cases hx),X7 _ _,rfl,T5.eq (by simp)⟩
  case round =>
   clear T5 GJ hc3 fF4 hF4;obtain ⟨k,au,v,gR,gH,hk,hl,rfl,hnew,hr,Cu,T⟩:=hrel;have HT:=Vh T;have HR:=Vh hr;have HF:=Vh Cu;have HN:=Vh hnew;have HL:=Vh hl;have hc4:=T.cell 0 0 rfl;simp only [oQ.out] at hc4;clear T hr Cu hnew hl;have hk4:=kr.out.2;by_cases hlt:k<qL
   ·go_wp2_with fail
    refine (Qa.use (G8.out eU wS.out.1 wS.out.2) (HT.out) [] rfl rfl).mono ?_
    rintro e w1 ⟨gs,⟨Gn,Ie,rfl,yx,rfl⟩,Ta⟩;simp only [PU] at Ta;have hF:=Ta.cell 2 0 rfl;simp only [Au] at hF;have fhF:=Ta.free 2 0 rfl;have HT:=Vh Ta;clear Ta
    go_wp2_with (
     at_builtin
     (with_reducible refine Z0 rfl (.tmp 49) (.tmp 51) 130 rfl 42 1 8 _ underlying130 Tryz.pO rfl (by decide) ((HT.out).aT _) 5 rfl rfl HR.out rfl ⟨w1.heap.size,0,none⟩ 1 1 [Qb Gn] rfl rfl (Zy _ _ _) (by simp [Value.oneCell']) (by unfold maxLen;omega) (by omega) ?_)
     intro v1 w2 H9 r1 T1;obtain ⟨a1,c1,rfl⟩:=r1.val;simp only [UA,UB] at T1;have hF1:=T1.cell 2 0 rfl;have fF1:=T1.free 2 0 rfl;simp only [Au] at hF1;have HT1:=Vh T1;have HR1:=Vh r1
     clear T1 r1)
    have HT2:=Vh (HT1.out.set 2 0 rfl 7 (.slice a1 (k+1) c1));simp only [UA,UB,UD,UE] at HT2;have HT3:=Vh (HT2.out.merge 6 7 (by decide) rfl rfl);simp only [UA,UB,UD,UE] at HT3;have HT3:=Vh (HT3.out.pick [0,1,2,3,4,5,6] rfl)
    first
    | (go_roundw
       case rel=>exact ⟨k+1,au++[(Gn,Qr eU)],.slice a1 (k+1) c1,H9,gH++Ie,by omega,by rw [UF,HL.out];rfl,by go_num,fun x hx=>by (rcases UL.1 hx with h | h;exact HN.out x h;rw [UG.1 h]),by simpa using HR1.out,HF.out.snoc yx,HT3.out⟩
       case measure=>simp [intOf];omega)
    | exact ⟨⟨k+1,au++[(Gn,Qr eU)],.slice a1 (k+1) c1,H9,gH++Ie,by omega,by rw [UF,HL.out];rfl,by go_num,fun x hx=>by (rcases UL.1 hx with h | h;exact HN.out x h;rw [UG.1 h]),by simpa using HR1.out,HF.out.snoc yx,HT3.out⟩,by simp [intOf];omega⟩
    | ((repeat apply US);exact ⟨⟨⟨k+1,au++[(Gn,Qr eU)],.slice a1 (k+1) c1,H9,gH++Ie,by omega,by rw [UF,HL.out];rfl,by go_num,fun x hx=>by (rcases UL.1 hx with h | h;exact HN.out x h;rw [UG.1 h]),by simpa using HR1.out,HF.out.snoc yx,HT3.out⟩,rfl⟩,by simp [intOf];omega⟩)
   ·obtain rfl:k=qL:=by omega
    have hF5:=HT.out.cell 2 0 rfl;go_wp2
    go_ret2
    refine ⟨[[cl fb 138 (Au k jW eU ib zP pg sb pb lb v)],gS,gR,gH,gP,[cl lb 232 #[.slice none 0 0]]],⟨fb,⟨sb,pb,lb,v⟩,au,_,gS,gR,gH,gP,_,rfl,⟨⟨_,rfl,?_⟩,?_,?_,HF.out,by simpa using hgP,rfl⟩,?_,?_,rfl⟩,HT.out.pick [2,3,5,6,4,1] rfl⟩
    ·exact qsi ⟨k,jW,eU,ib,zP,pg⟩ sb pb lb v
    ·simpa using hgS
    ·rw [HL.out];exact HR.out
    ·rw [HL.out]
    ·simpa using HN.out
theorem oC {P:Program} {f:Nat} {args:Array Value} {b o:Nat} {T:TypeId} {C:Array Value} {v r:Value} (hd:Does P f args [pt b T C] (zg b T C o v r)) :
 Qa P f args [[cl b T C]] fun e gs=>e=U4 r/\∃ C',Xn C o v C'/\gs=[[cl b T C']]:=by
 refine (hd.G (gs:=[[cl b T C]]) (by simpa using Z1.o8 b T C)).mono ?_
 rintro e gs ⟨h',g,⟨he,C',rfl,hr⟩,m,rfl⟩;exact ⟨he,C',hr,by rw [m.pP]⟩
theorem Zj.ou {p:jq} {f:Zt} {tr:Value} {C C':Array Value} (h:Zj p f tr C) {x:Bool} (r:Xn C 10 (.bool x) C'):Zj p { f with closed:=x } tr C' :=
 ⟨r.size.trans h.size,fun i hi=>(r.other i (by omega)).trans (h.cfg i hi),(r.other _ (by omega)).trans h.aa,(r.other _ (by omega)).trans h.sh,(r.other _ (by omega)).trans h.pipe,(r.other _ (by omega)).trans h.log,
   r.cell,
   r.bT h.inside (by omega),
   r.bT h.busy (by omega),
   r.bT h.now (by omega),
   (r.other _ (by omega)).trans h.tr⟩
theorem Zj.vk {p:jq} {f:Zt} {tr:Value} {C C':Array Value} (h:Zj p f tr C) (r:Xn C 10 (.bool f.closed) C'):Zj p f tr C':=h.ou r
theorem Zj.jK {p:jq} {f:Zt} {tr:Value} {C C':Array Value} (h:Zj p f tr C) {x:Int} (r:Xn C 14 (U1 U2 x) C'):Zj p { f with inside:=x } tr C' :=
 ⟨r.size.trans h.size,fun i hi=>(r.other i (by omega)).trans (h.cfg i hi),(r.other _ (by omega)).trans h.aa,(r.other _ (by omega)).trans h.sh,(r.other _ (by omega)).trans h.pipe,(r.other _ (by omega)).trans h.log,
   r.bT h.closed (by omega),
   r.cell,
   r.bT h.busy (by omega),
   r.bT h.now (by omega),
   (r.other _ (by omega)).trans h.tr⟩
theorem Zj.vO {p:jq} {f:Zt} {tr:Value} {C C':Array Value} (h:Zj p f tr C) (r:Xn C 14 (U1 U2 f.inside) C'):Zj p f tr C':=h.jK r
theorem Zj.oo {p:jq} {f:Zt} {tr:Value} {C C':Array Value} (h:Zj p f tr C) {x:Int} (r:Xn C 18 (U1 U2 x) C'):Zj p { f with busy:=x } tr C' :=
 ⟨r.size.trans h.size,fun i hi=>(r.other i (by omega)).trans (h.cfg i hi),(r.other _ (by omega)).trans h.aa,(r.other _ (by omega)).trans h.sh,(r.other _ (by omega)).trans h.pipe,(r.other _ (by omega)).trans h.log,
   r.bT h.closed (by omega),
   r.bT h.inside (by omega),
   r.cell,
   r.bT h.now (by omega),
   (r.other _ (by omega)).trans h.tr⟩
theorem Zj.BV {p:jq} {f:Zt} {tr:Value} {C C':Array Value} (h:Zj p f tr C) (r:Xn C 18 (U1 U2 f.busy) C'):Zj p f tr C':=h.oo r
theorem Zj.CU {p:jq} {f:Zt} {tr:Value} {C C':Array Value} (h:Zj p f tr C) {x:Int} (r:Xn C 22 (U1 U3 x) C'):Zj p { f with now:=x } tr C' :=
 ⟨r.size.trans h.size,fun i hi=>(r.other i (by omega)).trans (h.cfg i hi),(r.other _ (by omega)).trans h.aa,(r.other _ (by omega)).trans h.sh,(r.other _ (by omega)).trans h.pipe,(r.other _ (by omega)).trans h.log,
   r.bT h.closed (by omega),
   r.bT h.inside (by omega),
   r.bT h.busy (by omega),
   r.cell,
   (r.other _ (by omega)).trans h.tr⟩
theorem Zj.Iw {p:jq} {f:Zt} {tr:Value} {C C':Array Value} (h:Zj p f tr C) (r:Xn C 22 (U1 U3 f.now) C'):Zj p f tr C':=h.CU r
theorem qka {fb:Nat} {p:jq} {f:Zt} {tr:Value} {g:List ak} (hg:X3 fb p f tr g):Qa prog 23 #[Qb fb] [g] fun e gs=>e=U4 (U1 U2 f.inside)/\∃ g',X3 fb p f tr g'/\gs=[g']:=by
 obtain ⟨C,rfl,hc⟩:=hg;refine GO fun w HT=>?_
 have HC:=Vh hc;clear hc;go_enter func23,ntmps23
 go_wp2_with fail
 refine Qa.run (oC (X8 fb 14 _ C f.inside HC.inside)) (HT) [0] ?_
 rintro e w1 gs ⟨rfl,C1,hr,rfl⟩ HT;simp only [PU] at HT;have HR:=Vh hr;clear hr;go_wp2
 go_ret
 exact ⟨_,⟨rfl,_,⟨C1,rfl,HC.vO HR⟩,rfl⟩,HT⟩
theorem qos {fb:Nat} {p:jq} {f:Zt} {tr:Value} {g:List ak} (hg:X3 fb p f tr g):Qa prog 61 #[Qb fb] [g] fun e gs=>e=U4 (U1 U2 f.busy)/\∃ g',X3 fb p f tr g'/\gs=[g']:=by
 obtain ⟨C,rfl,hc⟩:=hg;refine GO fun w HT=>?_
 have HC:=Vh hc;clear hc;go_enter func61,ntmps61
 go_wp2_with fail
 refine Qa.run (oC (X8 fb 18 _ C f.busy HC.busy)) (HT) [0] ?_
 rintro e w1 gs ⟨rfl,C1,hr,rfl⟩ HT;simp only [PU] at HT;have HR:=Vh hr;clear hr;go_wp2
 go_ret
 exact ⟨_,⟨rfl,_,⟨C1,rfl,HC.BV HR⟩,rfl⟩,HT⟩
theorem qj9 {fb:Nat} {p:jq} {f:Zt} {tr:Value} {g:List ak} (hg:X3 fb p f tr g):Qa prog 71 #[Qb fb] [g] fun e gs=>e=U4 (.bool f.closed)/\∃ g',X3 fb p f tr g'/\gs=[g']:=by
 obtain ⟨C,rfl,hc⟩:=hg;refine GO fun w HT=>?_
 have HC:=Vh hc;clear hc;go_enter func71,ntmps71
 go_wp2_with fail
 refine Qa.run (oC (qsz fb 10 _ C f.closed HC.closed)) (HT) [0] ?_
 rintro e w1 gs ⟨rfl,C1,hr,rfl⟩ HT;simp only [PU] at HT;have HR:=Vh hr;clear hr;go_wp2
 go_ret
 exact ⟨_,⟨rfl,_,⟨C1,rfl,HC.vk HR⟩,rfl⟩,HT⟩
theorem qow {fb:Nat} {p:jq} {f:Zt} {tr:Value} {g:List ak} (hg:X3 fb p f tr g):Qa prog 156 #[Qb fb] [g] fun e gs=>e=U4 (.bool (!f.closed))/\∃ g',X3 fb p { f with closed:=true } tr g'/\gs=[g']:=by
 obtain ⟨C,rfl,hc⟩:=hg;refine GO fun w HT=>?_
 have HC:=Vh hc;clear hc;go_enter func156,ntmps156
 go_wp2_with fail
 refine Qa.run (oC (qt8 fb 10 _ C f.closed false true HC.closed)) (HT) [0] ?_
 rintro e w1 gs ⟨rfl,C1,hr,rfl⟩ HT;simp only [PU] at HT;have HR:=Vh (show Xn C 10 (.bool true) C1 from by cases hb:f.closed <;> simp [hb] at hr <;> exact hr);clear hr;go_wp2
 go_ret
 exact ⟨_,⟨by cases hb:f.closed <;> simp [hb],_,⟨C1,rfl,HC.ou HR⟩,rfl⟩,HT⟩
theorem q71 {e:TypeId} {v:Value} {n:Nat} {xs:List Value} {g:List ak} (r:Q3 e 1 v n xs g) {i:Nat} {u:Value} (hi:xs[i]?=some u) :
 ∃ b cap cur,v=.slice (some ⟨b,0,none⟩) n cap/\g=[cl b e cur]/\cur[i]?=some u/\i<n:=by
 have hl:=r.1;have hin:i<n:=by have:=(UJ.1 hi).1;omega
 obtain ⟨b,cap,cur,h1,h2,_,_,_,h6⟩:=r.open (by omega);exact ⟨b,cap,cur,h1,h2,(h6 i (by omega)).trans hi,hin⟩
def sJ (au:List Nat) (i:Int):Value:=if 0<=i/\i<au.length then Qb (au.getD i.toNat 0) else U5 none
def Bj (au:List Nat) (i:Int):Value:=if 0<=i then Qb (au.getD (i % au.length).toNat 0) else U5 none
theorem O7 {fb:Nat} {p:jq} {f:Zt} {tr:Value} {g:List ak} {au:List Nat} {gR:List ak} (hg:X3 fb p f tr g) (hr:Q3 42 1 p.sh au.length (au.map fun x=>Qb x) gR) (i:Int):Qd prog 17 #[Qb fb,U1 U2 i] [g,gR] (sJ au i):=by
 obtain ⟨C,rfl,hc⟩:=hg;by_cases h0:0<=i
 ·obtain ⟨k,rfl⟩:=U6 h0
  by_cases hk:k<au.length
  ·have hget:=UK hk
   obtain ⟨x,hx⟩:∃ x,au[k]=x:=⟨_,rfl⟩;rw [hx] at hget;have hi:(au.map fun x=>Qb x)[k]?=some (Qb x):=by rw [List.getElem?_map,hget];rfl
   obtain ⟨b,cap,cur,hv,rfl,Nk,_⟩:=q71 hr hi
   have HV:=Vh (show sJ au k=Qb x from by
    unfold sJ
    rw [if_pos ⟨h0,by omega⟩,UI,UH,hget];rfl)
   have hsh:=hc.sh;rw [hv] at hsh;refine GO fun w HT=>?_
   have c0:=(HT.c 0 0 7).trans hsh;have c1:=(HT.cell 1 0 rfl k).trans Nk;clear hc hr hget hi hv hsh Nk hx;go_enter func17,ntmps17
   go_wp2
   go_ret
   first | exact ⟨by rw [HV.out];rfl,0,rfl⟩ | exact ⟨by rw [HV.out];rfl,_,rfl⟩
  ·have HV:=Vh (show sJ au k=U5 none from if_neg (by omega))
   obtain ⟨a,cap,hv⟩:=hr.val;have hsh:=hc.sh;rw [hv] at hsh;refine GO fun w HT=>?_
   have c0:=(HT.c 0 0 7).trans hsh;clear hc hr hv hsh;go_enter func17,ntmps17
   go_wp2
   go_ret
   first | exact ⟨by rw [HV.out];rfl,0,rfl⟩ | exact ⟨by rw [HV.out];rfl,_,rfl⟩
 ·have HV:=Vh (show sJ au i=U5 none from if_neg (by omega))
  refine GO fun w HT=>?_
  clear hc hr;go_enter func17,ntmps17
  go_wp2
  go_ret
  first | exact ⟨by rw [HV.out];rfl,0,rfl⟩ | exact ⟨by rw [HV.out];rfl,_,rfl⟩
theorem qot {fb:Nat} {p:jq} {f:Zt} {tr:Value} {g:List ak} {au:List Nat} {gR:List ak} (hg:X3 fb p f tr g) (hr:Q3 42 1 p.sh au.length (au.map fun x=>Qb x) gR) (hn:1<=au.length) (i:Int):Qd prog 184 #[Qb fb,U1 U2 i] [g,gR] (Bj au i):=by
 by_cases h0:0<=i
 ·have hs:=O7 hg hr (i % au.length)
  have hm0:0<=i % (au.length:Int):=Int.emod_nonneg _ (by omega);have hm1:i % (au.length:Int)<au.length:=Int.emod_lt_of_pos _ (by omega);obtain ⟨x,hx⟩:∃ x,Qb (au.getD (i % au.length).toNat 0)=x:=⟨_,rfl⟩;have HV:=Vh (show Bj au i=x from (if_pos h0).trans hx);rw [show sJ au (i % au.length)=x from (if_pos ⟨hm0,hm1⟩).trans hx] at hs;have HS:=Vh hs;obtain ⟨C,rfl,hc⟩:=hg;obtain ⟨a,cap,hv⟩:=hr.val;have hsh:=hc.sh;rw [hv] at hsh;refine GO fun w HT=>?_
  have c0:=(HT.c 0 0 7).trans hsh;clear hc hr hv hsh hs hm0 hm1 hx;go_enter func184,ntmps184
  go_wp2_with fail
  refine (Qd.use HS HT [0,1] rfl rfl).mono ?_
  rintro e w1 ⟨rfl,mq,rfl⟩;go_wp2
  go_ret
  first | exact ⟨by rw [HV.out];rfl,0,rfl⟩ | exact ⟨by rw [HV.out];rfl,_,rfl⟩
 ·have HV:=Vh (show Bj au i=U5 none from if_neg h0)
  refine GO fun w HT=>?_
  clear hg hr;go_enter func184,ntmps184
  go_wp2
  go_ret
  first | exact ⟨by rw [HV.out];rfl,0,rfl⟩ | exact ⟨by rw [HV.out];rfl,_,rfl⟩
theorem qsq {s:Qj} {j k:Nat} {r:Rec} (hj:j<s.recs.length) (hn:s.recs.length<=64) (hr:s.recs.getD j Rec.zero=r):s.known ((k:Int)*64+j+64)↔(k:Int)+1<=r.g:=by
 have e1:((k:Int)*64+j+64) % 64=j:=by omega
 have e2:((k:Int)*64+j+64) / 64=k+1:=by omega
 unfold Qj.known;rw [e1,e2,UI,hr];constructor
 ·exact fun h=>h.2.2
 ·exact fun h=>⟨by omega,by omega,h⟩
def qF (s:Qj) (i:Int):Int × Int :=
 if 0<=i/\i<s.recs.length then let g:=(s.recs.getD i.toNat Rec.zero).g;if g<1 then (0,6) else (g*64+i,0) else (0,4)
theorem qkc {fb:Nat} {p:jq} {f:Zt} {tr:Value} {gF gS:List ak} {s:Qj} (hg:X3 fb p f tr gF) (hS:Jc p.sb s gS) (hc:f.cfg.cap=s.recs.length) (hn:s.recs.length<=64) (hG:∀ r∈s.recs,0<=r.g/\r.g<=4294967295) (i:Int) :
 Qa prog 266 #[Qb fb,U1 U2 i] [gF,gS] fun e gs=>e=U4 (UC #[U1 U3 (qF s i).1,U1 U2 (qF s i).2])/\∃ Cm,Jc p.sb s Cm/\gs=[gF,Cm]:=by
 obtain ⟨C,rfl,hC⟩:=hg;refine GO fun w HT=>?_
 have c1:=(HT.c 0 0 1).trans (hC.cfg 1 (by decide));have c6:=(HT.c 0 0 6).trans hC.aa;simp only [Cfg.cells,hc,az] at c1;have HS:=Vh hS;have HN:=Vh hn;have HC6:=Vh hC.aa;clear hS hC hc;by_cases h0:i<0
 ·have HV:=Vh (show qF s i=(0,4) from if_neg (by omega))
  go_enter func266,ntmps266
  go_wp2
  go_ret2
  exact ⟨_,⟨by rw [HV.out];rfl,gS,HS,rfl⟩,HT⟩
 by_cases h1:(s.recs.length:Int)<=i
 ·have HV:=Vh (show qF s i=(0,4) from if_neg (by omega))
  go_enter func266,ntmps266
  go_wp2
  go_ret2
  exact ⟨_,⟨by rw [HV.out];rfl,gS,HS,rfl⟩,HT⟩
 obtain ⟨j,rfl⟩:=U6 (show 0<=i by omega);have hj:j<s.recs.length:=by omega
 obtain ⟨r,hr⟩:∃ r,s.recs.getD j Rec.zero=r:=⟨_,rfl⟩;have hmem:r∈s.recs:=by rw [<- hr,UH,UK hj];exact List.getElem_mem hj
 obtain ⟨g0,g1⟩:=hG r hmem;obtain ⟨gn,hgn⟩:=U6 g0;have HV:=Vh (show qF s j=if r.g<1 then (0,6) else (r.g*64+j,0) by unfold qF;rw [if_pos ⟨by omega,by omega⟩,UI,hr]);have HK:=Vh (fun k:Nat=>qsq (k:=k) hj hn hr);rw [hgn] at HV HK;have hgb:gn<=4294967295:=by omega
 have hj64:j<64:=by omega
 clear hr hmem hgn hG h0 hn g0 g1;go_enter func266,ntmps266
 go_wp2_with fail
 go_loopw [6] (fun v wr=>∃ k:Nat,k<=gn/\v=U1 U3 ((k:Int)*64+j)/\∃ Cm,Jc p.sb s Cm/\TG [[cl fb 138 C],gS] w [[cl fb 138 C],Cm] wr) (fun v _=>gn*64+j - (intOf v).toNat)
 case atStart=>exact ⟨0,Nat.zero_le _,by simp,gS,HS,HT⟩
 case round =>
  obtain ⟨k,hk,rfl,gS1,hS1,T⟩:=hrel;have HT:=Vh T;have c6:=(HT.c 0 0 6).trans HC6;clear T;have b0:(0:Int)<=(k:Int)*64+j+64:=by omega
  have b1:(k:Int)*64+j+64<18446744073709551616:=by omega
  by_cases hlt:k<gn
  ·have HX:=Vh (show s.fE ((k:Int)*64+j+64)=0 from if_pos ((HK k).2 (by omega)))
   obtain ⟨y,hy⟩:∃ y,s.slot ((k:Int)*64+j+64)=y:=⟨_,rfl⟩;have HY:=Vh hy;clear hy;go_wp2_with fail
   refine Qa.run (Km HY HX hS1 HN b0 b1) (HT) [1] ?_
   rintro e w1 gs ⟨rfl,Cn,hS2,rfl⟩ HT;simp only [PU] at HT;go_wp2
   go_roundw
   case rel=>exact ⟨k+1,by omega,congrArg (Value.int U3) (by omega),Cn,hS2,HT⟩
   case measure=>simp [intOf];omega
  ·obtain rfl:k=gn:=by omega
   have HX:=Vh (show s.fE ((k:Int)*64+j+64)=1 from if_neg (fun h=>by have:=(HK k).1 h;omega));obtain ⟨y,hy⟩:∃ y,s.slot ((k:Int)*64+j+64)=y:=⟨_,rfl⟩;have HY:=Vh hy;clear hy;by_cases hz:k=0
   ·subst hz
    have e0:(((0:Nat):Int)*64+j+64)=(j:Int)+64:=by omega
    rw [e0] at HX HY b0 b1;clear e0;go_wp2_with fail
    refine Qa.run (Km HY HX hS1 HN b0 b1) (HT) [1] ?_
    rintro e w1 gs ⟨rfl,Cn,hS2,rfl⟩ HT;simp only [PU] at HT;have z:(j:Int)<64:=by omega
    go_wp2
    go_ret2
    exact ⟨_,⟨by rw [HV.out];rfl,Cn,hS2,rfl⟩,HT⟩
   ·go_wp2_with fail
    refine Qa.run (Km HY HX hS1 HN b0 b1) (HT) [1] ?_
    rintro e w1 gs ⟨rfl,Cn,hS2,rfl⟩ HT;simp only [PU] at HT;have HV2:=Vh (HV.out.trans (if_neg (by omega)));have z:¬ ((k:Int)*64+j)<64:=by omega
    clear b0 b1 hz hlt hk;go_wp2
    go_ret2
    exact ⟨_,⟨by rw [HV2.out];rfl,Cn,hS2,rfl⟩,HT⟩
end
end Go.Proofs.YtcneeepdclgdcaaGreat
