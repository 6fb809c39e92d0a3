import Derived.Test.YtcneeepdclgdcaaGreatPF10
import Derived.Test.YtcneeepdclgdcaaGreatPF12
import Derived.Test.YtcneeepdclgdcaaGreatPF4
import Derived.LaidEqlPtr
set_option maxRecDepth 100000
set_option maxHeartbeats 4000000
namespace Go.Proofs.YtcneeepdclgdcaaGreat
open Go.Value renaming int->WK,pointer->WO,tuple->WW
open Go.IntKind renaming i64->WL,u64->WM
open Go.Ending renaming returned->WN
open _root_.Int renaming eq_ofNat_of_zero_le->WQ,toNat_natCast->XC
open _root_.List renaming nil_append->WR,cons_append->WS,append_nil->WT,set_cons_zero->WU,set_cons_succ->WV,getD_cons_succ->WX,getD_cons_zero->WY,length_append->WZ,mem_singleton->XA,getD_eq_getElem?_getD->XB,getElem?_eq_some_iff->XD,getElem?_eq_getElem->XE,mem_append->XF,perm_append_comm->XH,flatten_cons->XJ,flatten_nil->XK
open _root_.List.Perm renaming swap->XG
open Go renaming madeCells->XI
open _root_.Exists renaming intro->XL
set_option linter.all false
open Go.Proofs.Tryz
section
open Go.RowKit Go.Shelf
abbrev Qb (b:Nat):Value:=.pointer (some ⟨b,0,none⟩)
def qk (b:Nat) (who:Int) (n:Int) (g:List ak):Prop:=∃ C,g=[cl b 170 C]/\C.size=5/\cellAt C 0 (WK WL who)/\C[4]?=some (WK WL n)
theorem qxj:Qa prog 134 #[] [] fun e gs=>∃ b g,e=WN (Qb b)/\qk b 0 0 g/\gs=[g]:=by
 refine GO fun w HT=>?_
 go_enter func134,ntmps134
 go_wp2
 go_ret
 exact ⟨_,⟨_,_,rfl,⟨_,rfl,rfl,⟨rfl,0,0,0,rfl,rfl,rfl⟩,rfl⟩,rfl⟩,HT.alloc rfl _ _⟩
theorem q2f:Qa prog 75 #[] [] fun e gs=>∃ b,e=WN (Qb b)/\gs=[[cl b 232 #[.slice none 0 0]]]:=by
 refine GO fun w HT=>?_
 go_enter func75,ntmps75
 go_wp2
 go_ret
 exact ⟨_,⟨_,rfl,rfl⟩,HT.alloc rfl _ _⟩
def BQ (b hb:Nat):List ak:=[cl b 261 #[WO none,WO none,WK WL 0,Qb hb],cl hb 282 #[WO none]]
theorem QV:Qa prog 132 #[] [] fun e gs=>∃ b hb,e=WN (Qb b)/\gs=[BQ b hb]:=by
 refine GO fun w HT=>?_
 go_enter func132,ntmps132
 go_wp2
 go_ret
 exact ⟨_,⟨_,_,rfl,rfl⟩,((HT.alloc rfl _ _).alloc rfl _ _).re (by simp [BQ];exact XG _ _ _)⟩
structure Qn where
 id:Int
 slot:Int
 gen:Int
 dl:Int
 per:Int
def Qn.zero:Qn:=⟨0,0,0,0,0⟩
structure lZ where
 seq:Int
 v:Qn
structure Qx where
 slots:List lZ
 tail:Int
 head:Int
def ND (D:Array Value) (o:Nat) (t:Qn):Prop:=D[o]?=some (WK WM t.id)/\D[o+1]?=some (WK WL t.slot)/\D[o+2]?=some (WK WM t.gen)/\D[o+3]?=some (WK WM t.dl)/\D[o+4]?=some (WK WM t.per)
def EN (D:Array Value) (i:Nat) (s:lZ):Prop:=cellAt D (i*9) (WK WL s.seq)/\ND D (i*9+4) s.v
def X2 (rb:Nat) (r:Qx) (g:List ak):Prop:=∃ sb C D,g=[cl rb 249 C,cl sb 251 D]/\C.size=6/\C[0]?=some (.slice (some ⟨sb,0,none⟩) r.slots.length r.slots.length)/\cellAt C 1 (WK WL r.tail) /\
 C[5]?=some (WK WL r.head)/\D.size=r.slots.length*9/\∀ i s,r.slots[i]?=some s->EN D i s
theorem Uy (b o:Nat) (T:TypeId) (C:Array Value) (u:Value) (x:Int) (hc:C[o]?=some u) :
 Qa prog 149 #[.pointer (some ⟨b,o,none⟩),WK WL x] [[cl b T C]] fun e gs=>e=WN (WW #[])/\gs=[[cl b T (C.setIfInBounds o (WK WL x))]]:=by
 refine GO fun w HT=>?_
 have c0:=(HT.cell 0 0 rfl o).trans hc;have f0:=HT.free 0 0 rfl o;clear hc;go_enter func149,ntmps149
 go_wp2
 refine bodyPost_end (results_none rfl _ _ _) rfl ⟨_,⟨rfl,rfl⟩,HT.set 0 0 rfl o _⟩
def Jj (n:Nat):Qx:=⟨(List.range n).map fun (i:Nat)=>⟨2*(i:Int),Qn.zero⟩,0,0⟩
def yt:Array Value:=#[WK WL 0,WK WL 0,WK WL 0,WK WL 0,WK WM 0,WK WL 0,WK WM 0,WK WM 0,WK WM 0]
theorem qy8:(prog.info? 251).map (fun i=>(i.zero,i.size,i.bytes))=some (some (.agg yt),9,72):=by kernel_rfl
def Gn (n k:Nat) (D:Array Value):Prop:=D.size=n*9/\∀ i,i<n->EN D i ⟨if i<k then 2*(i:Int) else 0,Qn.zero⟩
theorem qyr (n:Nat):Gn n 0 (XI yt (n*9)):=by
 refine ⟨size_madeCells _ _,fun i hi=>?_⟩
 rw [if_neg (Nat.not_lt_zero _)];have hz:yt.size=9:=rfl;have g:∀ j,j<9->(XI yt (n*9))[i*9+j]?=yt[j]?:=fun j hj=>zq _ n 9 i j hz hi hj
 exact ⟨⟨g 0 (by decide),0,0,0,g 1 (by decide),g 2 (by decide),g 3 (by decide)⟩,g 4 (by decide),g 5 (by decide),g 6 (by decide),g 7 (by decide),g 8 (by decide)⟩
theorem qu3 {D:Array Value} {i j:Nat} {s:lZ} (h:EN D i s) (x:Int):EN (D.setIfInBounds (j*9) (WK WL x)) i (if i=j then { s with seq:=x } else s):=by
 obtain ⟨⟨a0,l,t,u,a1,a2,a3⟩,b0,b1,b2,b3,b4⟩:=h;by_cases e:i=j
 ·subst e
  rw [if_pos rfl];exact ⟨⟨Xa a0,l,t,u,(Qc (by omega)).trans a1,(Qc (by omega)).trans a2,(Qc (by omega)).trans a3⟩,(Qc (by omega)).trans b0,(Qc (by omega)).trans b1,(Qc (by omega)).trans b2,(Qc (by omega)).trans b3,(Qc (by omega)).trans b4⟩
 ·rw [if_neg e]
  exact ⟨⟨(Qc (by omega)).trans a0,l,t,u,(Qc (by omega)).trans a1,(Qc (by omega)).trans a2,(Qc (by omega)).trans a3⟩,(Qc (by omega)).trans b0,(Qc (by omega)).trans b1,(Qc (by omega)).trans b2,(Qc (by omega)).trans b3,(Qc (by omega)).trans b4⟩
theorem qus {n k:Nat} {D:Array Value} (h:Gn n k D) (hk:k<n):Gn n (k+1) (D.setIfInBounds (k*9) (WK WL (2*k))):=by
 refine ⟨by rw [Array.size_setIfInBounds];exact h.1,fun i hi=>?_⟩
 have h2:=qu3 (j:=k) (h.2 i hi) (2*k);by_cases e:i=k
 ·subst e
  rw [if_pos rfl] at h2;rw [if_pos (by omega)];exact h2
 ·rw [if_neg e] at h2
  have e2:(if i<k+1 then 2*(i:Int) else 0)=if i<k then 2*(i:Int) else 0:=by
   by_cases h3:i<k
   ·rw [if_pos h3,if_pos (by omega)]
   ·rw [if_neg h3,if_neg (by omega)]
  rw [e2];exact h2
theorem qyt (n:Nat) (h1:1<=n) (h2:n<=64):Qa prog 133 #[WK WL n] [] fun e gs=>∃ b g,e=WN (WW #[Qb b,WK WL 0])/\X2 b (Jj n) g/\gs=[g]:=by
 refine GO fun w HT=>?_
 have hmk:∀ w,(Instr.makeSlice 247 (WK WL (n:Int)) (WK WL (n:Int))).run prog w=.ok (.slice (some ⟨w.heap.size,0,none⟩) n n) (w.alloc (.cells (XI yt (n*9)) 251)):=Lx _ _ (.agg yt) 9 72 underlying247 qy8 n (by omega) (by omega);have hd1:decide ((n:Int)<1)=false:=by simp;omega
 have hd2:decide (64<(n:Int))=false:=by simp;omega
 go_enter func133,ntmps133
 go_wp2
 have T1:=(HT.a 251 (XI yt (n*9))).alloc (k:=w.heap.size+1) (by simp) 249 #[.slice (some ⟨w.heap.size,0,none⟩) n n,WK WL 0,WK WL 0,WK WL 0,WK WL 0,WK WL 0];obtain ⟨sb,hsb⟩:∃ sb,sb=w.heap.size:=⟨_,rfl⟩;rw [<- hsb] at T1 |-;obtain ⟨rb,hrb⟩:∃ rb,rb=sb+1:=⟨_,rfl⟩;rw [<- hrb] at T1 |-
 go_loopw [5,21] (fun _ i wr=>∃ (k:Nat) (D:Array Value),k<=n/\i=WK WL k/\Gn n k D/\TG [] w [[cl sb 251 D],[cl rb 249 #[.slice (some ⟨sb,0,none⟩) n n,WK WL 0,WK WL 0,WK WL 0,WK WL 0,WK WL 0]]] wr) (fun _ i _=>n+1 - (intOf i).toNat)
 case atStart=>exact ⟨0,_,by omega,rfl,qyr n,T1⟩
 case round =>
  obtain ⟨k,D,hk,rfl,hD,T⟩:=hrel;have HT:=Vh T;have HD:=Vh hD;have c1:=T.cell 1 0 rfl;clear T T1 hD hsb hrb;by_cases hlt:k<n
  ·go_wp2_with fail
   refine Qa.run (Uy sb (k*9) 251 D _ (2*k) (HD.2 k hlt).1.1) (HT) [0] ?_
   rintro e w1 gs ⟨rfl,rfl⟩ HT;simp only [PU] at HT;go_wp2
   first | go_roundw | refine ⟨?rel,?measure⟩ | ((repeat apply XL);refine ⟨⟨?rel,rfl⟩,?measure⟩)
   case rel=>exact ⟨k+1,_,by omega,by go_num,qus HD hlt,HT⟩
   case measure=>simp [intOf];omega
  ·obtain rfl:k=n:=by omega
   go_wp2
   go_ret2
   refine ⟨_,⟨_,[cl rb 249 _,cl sb 251 D],rfl,⟨sb,_,D,rfl,rfl,by simp [Jj],⟨rfl,0,0,0,rfl,rfl,rfl⟩,rfl,by simpa [Jj] using HD.out.1,fun i s hs=>?_⟩,rfl⟩,HT.re (XG _ _ _)⟩
   have hi:i<k:=by have:=(XD.1 hs).1;simpa [Jj] using this
   have h2:=HD.2 i hi;rw [if_pos hi] at h2;have e:s=⟨2*(i:Int),Qn.zero⟩:=by simp [Jj,hi] at hs;exact hs.symm
   rw [e];exact h2
def Lu (n pb:Nat) (g:List ak):Prop:=∃ cb lb hb:Nat,g=[cl pb 185 #[.chan (some cb),Qb lb,WK WL 0,.bool false],(cb,.chan n #[] false 0 0 false)]++BQ lb hb
theorem Gv:(prog.info? 63).map (fun i=>(i.zero,i.size,i.bytes))=some (some (.agg #[WK WM 0,WK WM 0,WK WM 0,WK WM 0]),4,32):=by kernel_rfl
theorem qi5 (n:Nat) (hn:n<=16) (w:World):(Instr.makeChan 182 (WK WL (n:Int))).run prog w=.ok (.chan (some w.heap.size)) (w.alloc (.chan n #[] false 0 0 false)):=by
 obtain ⟨i,hi,_,_,hb⟩:=info_parts Gv;have hw:IntKind.i64.wrap (n:Int)=n:=by rw [IntKind.wrap_i64];omega
 have h1:¬ ((n:Int)<0):=by omega
 have h2:¬ (9223372036854775807<(n:Int)):=by omega
 have h3:¬ (281474976710544<32*(n:Int)):=by omega
 simp [Instr.makeChan,asInt,asIntOf,run_underlying underlying182,typeInfo,hi,hb,hw,h1,h2,h3,newObj,IntKind.max,IntKind.bits,IntKind.signed]
 rfl
theorem qx7 (n:Nat) (h1:1<=n) (h2:n<=16):Qa prog 77 #[WK WL n] [] fun e gs=>∃ b g,e=WN (WW #[Qb b,WK WL 0])/\Lu n b g/\gs=[g]:=by
 refine GO fun w HT=>?_
 have hmk:=qi5 n h2;have hd1:decide ((n:Int)<1)=false:=by simp;omega
 have hd2:decide (16<(n:Int))=false:=by simp;omega
 go_enter func77,ntmps77
 go_wp2
 go_region_with (
  go_at_call 132
  first
  | (refine (Qa.use QV (HT.drew.put rfl (.chan n #[] false 0 0 false)) [] rfl rfl).mono ?_
     rintro e w1 ⟨gs,⟨lb,hb,rfl,rfl⟩,Ta⟩;have HT1:=Vh Ta
     clear Ta)
  | (refine (Qa.use QV HT.drew [] rfl rfl).mono ?_
     rintro e w1 ⟨gs,⟨lb,hb,rfl,rfl⟩,Ta⟩;have HT1:=Vh Ta
     clear Ta))
 ·go_wp2
  go_ret2
  refine ⟨_,⟨_,_,rfl,⟨w.heap.size,lb,hb,rfl⟩,rfl⟩,(HT1.a 185 #[.chan (some w.heap.size),Qb lb,WK WL 0,.bool false]).re ?_⟩
  simp only [je,WR,WT,WS,XJ,XK,BQ];exact (XH (l₁:=[_,_,_]) (l₂:=[_]))
 ·go_wp2
  go_ret2
  refine ⟨_,⟨_,_,rfl,⟨w1.heap.size,lb,hb,rfl⟩,rfl⟩,((HT1.put (k:=w1.heap.size) rfl (.chan n #[] false 0 0 false)).alloc (k:=w1.heap.size+1) (by simp) 185 #[.chan (some w1.heap.size),Qb lb,WK WL 0,.bool false]).re ?_⟩
  simp only [je,WR,WT,WS,XJ,XK,BQ];exact (XH (l₁:=[_,_]) (l₂:=[_,_])).trans (XG _ _ _)
structure Qs where
 ring:Qx
 who:Int
 turns:Int
def Qp (n:Nat):Qs:=⟨Jj n,0,0⟩
structure jc where
 sb:Nat
 pb:Nat
 lb:Nat
 sh:Value
structure Zp where
 cfg:Cfg
 closed:Bool
 inside:Int
 busy:Int
 now:Int
structure Zh (p:jc) (f:Zp) (tr:Value) (C:Array Value):Prop where
 size:C.size=27
 cfg:∀ i,i<6->C[i]?=f.cfg.cells[i]?
 aa:C[6]?=some (Qb p.sb)
 sh:C[7]?=some p.sh
 pipe:C[8]?=some (Qb p.pb)
 log:C[9]?=some (Qb p.lb)
 closed:cellAt C 10 (.bool f.closed)
 inside:cellAt C 14 (WK WL f.inside)
 busy:cellAt C 18 (WK WL f.busy)
 now:cellAt C 22 (WK WM f.now)
 tr:C[26]?=some tr
def X1 (fb:Nat) (p:jc) (f:Zp) (tr:Value) (g:List ak):Prop:=∃ C,g=[cl fb 138 C]/\Zh p f tr C
structure qvz (SH:Nat->Qs->List ak->Prop) (fb:Nat) (p:jc) (f:Zp) (tr:Value) (s:Qj) (au:List (Nat × Qs)) (gF gS gR gH gP gL:List ak):Prop where
 floor:X1 fb p f tr gF
 aa:Jc p.sb s gS
 row:Q1 42 1 p.sh au.length (au.map fun x=>Qb x.1) gR
 lM:Yx (fun x=>SH x.1 x.2) au gH
 aF:Lu f.cfg.room.toNat p.pb gP
 log:gL=[cl p.lb 232 #[.slice none 0 0]]
def R8 (SH:Nat->Qs->List ak->Prop):Prop:=∀ (n:Nat),1<=n->n<=64->Qa prog 78 #[WK WL n] [] fun e gs=>∃ b g,e=WN (WW #[Qb b,WK WL 0])/\SH b (Qp n) g/\gs=[g]
def Bv (ry jM fo gQ wk cO:Int) (sb pb lb:Nat) (v:Value):Array Value:=#[WK WL ry,WK WL jM,WK WL fo,WK WL gQ,WK WL wk,WK WL cO,Qb sb,v,Qb pb,Qb lb,.bool false,WK WL 0,WK WL 0,WK WL 0,WK WL 0,WK WL 0,WK WL 0,WK WL 0,WK WL 0,WK WL 0,WK WL 0,WK WL 0,WK WM 0,WK WL 0,WK WL 0,WK WL 0,.slice none 0 0]
theorem qtl (c:Cfg) (sb pb lb:Nat) (v:Value):Zh ⟨sb,pb,lb,v⟩ ⟨c,false,0,0,0⟩ (.slice none 0 0) (Bv c.sh c.cap c.ring c.room c.wk c.cO sb pb lb v):=by
 refine ⟨rfl,fun i hi=>?_,rfl,rfl,rfl,rfl,⟨rfl,0,0,0,rfl,rfl,rfl⟩,⟨rfl,0,0,0,rfl,rfl,rfl⟩,⟨rfl,0,0,0,rfl,rfl,rfl⟩,⟨rfl,0,0,0,rfl,rfl,rfl⟩,rfl⟩
 have:i=0\/i=1\/i=2\/i=3\/i=4\/i=5:=by omega
 rcases this with rfl | rfl | rfl | rfl | rfl | rfl <;> rfl
theorem Tryz.pY:(prog.info? 42).map (fun i=>(i.zero,i.size,i.bytes))=some (some (WO none),1,8):=by kernel_rfl
theorem Cfg.bd {c:Cfg} (hk:c.ok=true):(1<=c.sh/\c.sh<=4)/\(1<=c.cap/\c.cap<=64)/\(1<=c.ring/\c.ring<=64)/\(1<=c.room/\c.room<=16)/\(1<=c.wk/\c.wk<=4)/\(1<=c.cO/\c.cO<=8):=by
 simpa [Cfg.ok,Cfg.fine,Cfg.pair,and_assoc] using hk
theorem qpg {SH:Nat->Qs->List ak->Prop} (OM:R8 SH) (c:Cfg) (hk:c.ok=true):Qa prog 13 #[.agg c.cells] [] fun e gs =>
 ∃ fb p au gF gS gR gH gP gL,e=WN (WW #[Qb fb,WK WL 0])/\qvz SH fb p ⟨c,false,0,0,0⟩ (.slice none 0 0) (Zu c.cap.toNat) au gF gS gR gH gP gL/\(au.length:Int)=c.sh/\(∀ x∈au,x.2=Qp c.ring.toNat)/\gs=[gF,gS,gR,gH,gP,gL]:=by
 refine GO fun w HT=>?_
 have I6:=Vh OM;clear OM;obtain ⟨hk1,hk2,hk3,hk4,hk5,AZ⟩:=Cfg.bd hk;obtain ⟨csh,JJ,Dc,De,AB,pK⟩:=c;simp only [] at hk1 hk2 hk3 hk4 hk5 AZ;obtain ⟨ry,rfl⟩:=WQ (show 0<=csh by omega);obtain ⟨jM,rfl⟩:=WQ (show 0<=JJ by omega);obtain ⟨fo,rfl⟩:=WQ (show 0<=Dc by omega);obtain ⟨gQ,rfl⟩:=WQ (show 0<=De by omega);have HCAP:=Vh (show 1<=jM/\jM<=64 by omega);have xJ:=Vh (show 1<=fo/\fo<=64 by omega);have xK:=Vh (show 1<=gQ/\gQ<=16 by omega);have jV:=Vh (show 1<=ry/\ry<=4 by omega);clear hk1 hk2 hk3 hk4 hk5 AZ;obtain ⟨c,hcd⟩:∃ c:Cfg,c=⟨ry,jM,fo,gQ,AB,pK⟩:=⟨_,rfl⟩;rw [<- hcd] at hk |-;have HB:=Vh (q5l c);obtain ⟨C,hC⟩:∃ C,C=c.cells:=⟨_,rfl⟩;have hC':=hC;simp only [Cfg.cells] at hC';rw [<- hC,hk] at HB;rw [hcd] at hC';simp only [] at hC';have p9:=Vh hC';have HCD:=Vh hcd;simp only [Cfg.cells,hcd];go_enter func13,ntmps13
 go_wp2_with fail
 rw [<- hC'];clear hC hC' hk hcd;refine (Qa.use HB.out (HT.out.alloc (k:=w.heap.size) rfl 30 C) [] rfl rfl).mono ?_
 rintro e w1 ⟨gs,⟨rfl,rfl⟩,Ta⟩;simp only [je,WR,WT,if_true] at Ta;have hc0:=Ta.cell 0 0 rfl;simp only [p9.out] at hc0;have HT:=Vh Ta;clear Ta;obtain ⟨b0,hb0⟩:∃ b0,b0=w.heap.size:=⟨_,rfl⟩;rw [<- hb0] at HT hc0 |-;clear hb0;go_wp2
 go_region_with (
  go_at_call 75
  refine (Qa.use q2f HT.out.drew [] rfl rfl).mono ?_
  rintro e w2 ⟨gs,⟨lb,rfl,rfl⟩,Ta⟩;simp only [je,WR,WT,WS] at Ta;have hc1:=Ta.cell 0 0 rfl;simp only [p9.out] at hc1;have hlt1:=Ta.lt 0 0 rfl;simp only [] at hlt1;have HT1:=Vh Ta
  clear Ta hc0)
 all_goals
  go_wp2_with fail
  have HT2:=Vh (HT1.out.alloc (k:=w2.heap.size) rfl 138 #[WK WL ry,WK WL jM,WK WL fo,WK WL gQ,WK WL AB,WK WL pK,WO none,.slice none 0 0,WO none,Qb lb,.bool false,WK WL 0,WK WL 0,WK WL 0,WK WL 0,WK WL 0,WK WL 0,WK WL 0,WK WL 0,WK WL 0,WK WL 0,WK WL 0,WK WM 0,WK WL 0,WK WL 0,WK WL 0,.slice none 0 0]);simp only [WS,WR] at HT2;obtain ⟨fb,OQ⟩:∃ fb,fb=w2.heap.size:=⟨_,rfl⟩;rw [<- OQ] at HT2 |-;refine (Qa.use (qu1 jM HCAP.out.1 HCAP.out.2) HT2.out [] rfl rfl).mono ?_
  rintro e w3 ⟨gs,⟨sb,gS,rfl,hgS,rfl⟩,Ta⟩;simp only [je,WR,WT,WS] at Ta;have hc2:=Ta.cell 0 0 rfl;simp only [p9.out] at hc2;have fF:=Ta.free 2 0 rfl;have hF:=Ta.cell 2 0 rfl;have HT3:=Vh Ta;clear Ta hc1 OQ hlt1;go_wp2_with fail
  refine (Qa.use (qx7 gQ xK.out.1 xK.out.2) (HT3.out.set 2 0 rfl 6 (Qb sb)) [] rfl rfl).mono ?_
  rintro e w4 ⟨gs,⟨pb,gP,rfl,hgP,rfl⟩,Ta⟩;simp only [je,WR,WT,WS,WU,WV,WX,WY] at Ta;have hc3:=Ta.cell 0 0 rfl;simp only [p9.out] at hc3;have fF4:=Ta.free 2 0 rfl;have hF4:=Ta.cell 2 0 rfl;have hne:=Ta.ne 0 0 2 0 (by decide) rfl rfl;simp only [] at hne;have CE:=Vh (Ta.set 2 0 rfl 8 (Qb pb));simp only [WU,WV,WX,WY] at CE;clear Ta hc2 fF hF;go_wp2
  have T5:TG [] w [[cl b0 30 C],[cl lb 232 #[.slice none 0 0]],[cl fb 138 (Bv ry jM fo gQ AB pK sb pb lb (.slice none 0 0))],gS,gP] (w4.setCell ⟨fb,8,none⟩ (Qb pb)):=CE.out
  go_loopw [6,7,37] (fun _ _ i wr=>∃ (k:Nat) (au:List (Nat × Qs)) (v:Value) (gR gH:List ak),k<=ry/\au.length=k/\i=WK WL k/\(∀ x∈au,x.2=Qp fo)/\Q1 42 1 v k (au.map fun x=>Qb x.1) gR/\Yx (fun (x:Nat × Qs)=>SH x.1 x.2) au gH /\
   TG [] w [[cl b0 30 C],[cl lb 232 #[.slice none 0 0]],[cl fb 138 (Bv ry jM fo gQ AB pK sb pb lb v)],gS,gP,gR,gH] wr) (fun _ _ i _=>ry+1 - (intOf i).toNat)
  case atStart=>exact ⟨0,[],.slice none 0 0,[],[],by omega,rfl,rfl,fun x hx=>by (cases hx),X5 _ _,rfl,T5.eq (by simp)⟩
  case round =>
   clear T5 CE hc3 fF4 hF4;obtain ⟨k,au,v,gR,gH,hk,hl,rfl,hnew,hr,Du,T⟩:=hrel;have HT:=Vh T;have HR:=Vh hr;have HF:=Vh Du;have HN:=Vh hnew;have HL:=Vh hl;have hc4:=T.cell 0 0 rfl;simp only [p9.out] at hc4;clear T hr Du hnew hl;have hk4:=jV.out.2;by_cases hlt:k<ry
   ·go_wp2_with fail
    refine (Qa.use (I6.out fo xJ.out.1 xJ.out.2) (HT.out) [] rfl rfl).mono ?_
    rintro e w1 ⟨gs,⟨H8,Kb,rfl,zA,rfl⟩,Ta⟩;simp only [PU] at Ta;have hF:=Ta.cell 2 0 rfl;simp only [Bv] at hF;have fhF:=Ta.free 2 0 rfl;have HT:=Vh Ta;clear Ta
    go_wp2_with (
     at_builtin
     (with_reducible refine X3 rfl (.tmp 49) (.tmp 51) 130 rfl 42 1 8 _ underlying130 Tryz.pY rfl (by decide) ((HT.out).aN _) 5 rfl rfl HR.out rfl ⟨w1.heap.size,0,none⟩ 1 1 [Qb H8] rfl rfl (Za _ _ _) (by simp [Value.oneCell']) (by unfold maxLen;omega) (by omega) ?_)
     intro v1 w2 JW r1 T1;obtain ⟨a1,c1,rfl⟩:=r1.val;simp only [WU,WV] at T1;have hF1:=T1.cell 2 0 rfl;have fF1:=T1.free 2 0 rfl;simp only [Bv] at hF1;have HT1:=Vh T1;have HR1:=Vh r1
     clear T1 r1)
    have HT2:=Vh (HT1.out.set 2 0 rfl 7 (.slice a1 (k+1) c1));simp only [WU,WV,WX,WY] at HT2;have HT3:=Vh (HT2.out.merge 6 7 (by decide) rfl rfl);simp only [WU,WV,WX,WY] at HT3;have HT3:=Vh (HT3.out.pick [0,1,2,3,4,5,6] rfl)
    first
    | (go_roundw
       case rel=>exact ⟨k+1,au++[(H8,Qp fo)],.slice a1 (k+1) c1,JW,gH++Kb,by omega,by rw [WZ,HL.out];rfl,by go_num,fun x hx=>by (rcases XF.1 hx with h | h;exact HN.out x h;rw [XA.1 h]),by simpa using HR1.out,HF.out.snoc zA,HT3.out⟩
       case measure=>simp [intOf];omega)
    | exact ⟨⟨k+1,au++[(H8,Qp fo)],.slice a1 (k+1) c1,JW,gH++Kb,by omega,by rw [WZ,HL.out];rfl,by go_num,fun x hx=>by (rcases XF.1 hx with h | h;exact HN.out x h;rw [XA.1 h]),by simpa using HR1.out,HF.out.snoc zA,HT3.out⟩,by simp [intOf];omega⟩
    | ((repeat apply XL);exact ⟨⟨⟨k+1,au++[(H8,Qp fo)],.slice a1 (k+1) c1,JW,gH++Kb,by omega,by rw [WZ,HL.out];rfl,by go_num,fun x hx=>by (rcases XF.1 hx with h | h;exact HN.out x h;rw [XA.1 h]),by simpa using HR1.out,HF.out.snoc zA,HT3.out⟩,rfl⟩,by simp [intOf];omega⟩)
   ·obtain rfl:k=ry:=by omega
    have hF5:=HT.out.cell 2 0 rfl;go_wp2
    go_ret2
    refine ⟨[[cl fb 138 (Bv k jM fo gQ AB pK sb pb lb v)],gS,gR,gH,gP,[cl lb 232 #[.slice none 0 0]]],⟨fb,⟨sb,pb,lb,v⟩,au,_,gS,gR,gH,gP,_,rfl,⟨⟨_,rfl,?_⟩,?_,?_,HF.out,by simpa using hgP,rfl⟩,?_,?_,rfl⟩,HT.out.pick [2,3,5,6,4,1] rfl⟩
    ·exact qtl ⟨k,jM,fo,gQ,AB,pK⟩ sb pb lb v
    ·simpa using hgS
    ·rw [HL.out];exact HR.out
    ·rw [HL.out]
    ·simpa using HN.out
theorem oM {P:Program} {f:Nat} {args:Array Value} {b o:Nat} {T:TypeId} {C:Array Value} {v r:Value} (hd:Does P f args [pt b T C] (zh b T C o v r)) :
 Qa P f args [[cl b T C]] fun e gs=>e=WN r/\∃ C',Xi C o v C'/\gs=[[cl b T C']]:=by
 refine (hd.G (gs:=[[cl b T C]]) (by simpa using Zx.oJ b T C)).mono ?_
 rintro e gs ⟨h',g,⟨he,C',rfl,hr⟩,m,rfl⟩;exact ⟨he,C',hr,by rw [m.pZ]⟩
theorem Zh.oC {p:jc} {f:Zp} {tr:Value} {C C':Array Value} (h:Zh p f tr C) {x:Bool} (r:Xi C 10 (.bool x) C'):Zh p { f with closed:=x } tr C' :=
 ⟨r.size.trans h.size,fun i hi=>(r.other i (by omega)).trans (h.cfg i hi),(r.other _ (by omega)).trans h.aa,(r.other _ (by omega)).trans h.sh,(r.other _ (by omega)).trans h.pipe,(r.other _ (by omega)).trans h.log,
   r.cell,
   r.bU h.inside (by omega),
   r.bU h.busy (by omega),
   r.bU h.now (by omega),
   (r.other _ (by omega)).trans h.tr⟩
theorem Zh.wD {p:jc} {f:Zp} {tr:Value} {C C':Array Value} (h:Zh p f tr C) (r:Xi C 10 (.bool f.closed) C'):Zh p f tr C':=h.oC r
theorem Zh.jB {p:jc} {f:Zp} {tr:Value} {C C':Array Value} (h:Zh p f tr C) {x:Int} (r:Xi C 14 (WK WL x) C'):Zh p { f with inside:=x } tr C' :=
 ⟨r.size.trans h.size,fun i hi=>(r.other i (by omega)).trans (h.cfg i hi),(r.other _ (by omega)).trans h.aa,(r.other _ (by omega)).trans h.sh,(r.other _ (by omega)).trans h.pipe,(r.other _ (by omega)).trans h.log,
   r.bU h.closed (by omega),
   r.cell,
   r.bU h.busy (by omega),
   r.bU h.now (by omega),
   (r.other _ (by omega)).trans h.tr⟩
theorem Zh.wV {p:jc} {f:Zp} {tr:Value} {C C':Array Value} (h:Zh p f tr C) (r:Xi C 14 (WK WL f.inside) C'):Zh p f tr C':=h.jB r
theorem Zh.o8 {p:jc} {f:Zp} {tr:Value} {C C':Array Value} (h:Zh p f tr C) {x:Int} (r:Xi C 18 (WK WL x) C'):Zh p { f with busy:=x } tr C' :=
 ⟨r.size.trans h.size,fun i hi=>(r.other i (by omega)).trans (h.cfg i hi),(r.other _ (by omega)).trans h.aa,(r.other _ (by omega)).trans h.sh,(r.other _ (by omega)).trans h.pipe,(r.other _ (by omega)).trans h.log,
   r.bU h.closed (by omega),
   r.bU h.inside (by omega),
   r.cell,
   r.bU h.now (by omega),
   (r.other _ (by omega)).trans h.tr⟩
theorem Zh.CX {p:jc} {f:Zp} {tr:Value} {C C':Array Value} (h:Zh p f tr C) (r:Xi C 18 (WK WL f.busy) C'):Zh p f tr C':=h.o8 r
theorem Zh.DW {p:jc} {f:Zp} {tr:Value} {C C':Array Value} (h:Zh p f tr C) {x:Int} (r:Xi C 22 (WK WM x) C'):Zh p { f with now:=x } tr C' :=
 ⟨r.size.trans h.size,fun i hi=>(r.other i (by omega)).trans (h.cfg i hi),(r.other _ (by omega)).trans h.aa,(r.other _ (by omega)).trans h.sh,(r.other _ (by omega)).trans h.pipe,(r.other _ (by omega)).trans h.log,
   r.bU h.closed (by omega),
   r.bU h.inside (by omega),
   r.bU h.busy (by omega),
   r.cell,
   (r.other _ (by omega)).trans h.tr⟩
theorem Zh.Kw {p:jc} {f:Zp} {tr:Value} {C C':Array Value} (h:Zh p f tr C) (r:Xi C 22 (WK WM f.now) C'):Zh p f tr C':=h.DW r
theorem qk1 {fb:Nat} {p:jc} {f:Zp} {tr:Value} {g:List ak} (hg:X1 fb p f tr g):Qa prog 23 #[Qb fb] [g] fun e gs=>e=WN (WK WL f.inside)/\∃ g',X1 fb p f tr g'/\gs=[g']:=by
 obtain ⟨C,rfl,hc⟩:=hg;refine GO fun w HT=>?_
 have HC:=Vh hc;clear hc;go_enter func23,ntmps23
 go_wp2_with fail
 refine Qa.run (oM (X9 fb 14 _ C f.inside HC.inside)) (HT) [0] ?_
 rintro e w1 gs ⟨rfl,C1,hr,rfl⟩ HT;simp only [PU] at HT;have HR:=Vh hr;clear hr;go_wp2
 go_ret
 exact ⟨_,⟨rfl,_,⟨C1,rfl,HC.wV HR⟩,rfl⟩,HT⟩
theorem qpe {fb:Nat} {p:jc} {f:Zp} {tr:Value} {g:List ak} (hg:X1 fb p f tr g):Qa prog 61 #[Qb fb] [g] fun e gs=>e=WN (WK WL f.busy)/\∃ g',X1 fb p f tr g'/\gs=[g']:=by
 obtain ⟨C,rfl,hc⟩:=hg;refine GO fun w HT=>?_
 have HC:=Vh hc;clear hc;go_enter func61,ntmps61
 go_wp2_with fail
 refine Qa.run (oM (X9 fb 18 _ C f.busy HC.busy)) (HT) [0] ?_
 rintro e w1 gs ⟨rfl,C1,hr,rfl⟩ HT;simp only [PU] at HT;have HR:=Vh hr;clear hr;go_wp2
 go_ret
 exact ⟨_,⟨rfl,_,⟨C1,rfl,HC.CX HR⟩,rfl⟩,HT⟩
theorem qk0 {fb:Nat} {p:jc} {f:Zp} {tr:Value} {g:List ak} (hg:X1 fb p f tr g):Qa prog 71 #[Qb fb] [g] fun e gs=>e=WN (.bool f.closed)/\∃ g',X1 fb p f tr g'/\gs=[g']:=by
 obtain ⟨C,rfl,hc⟩:=hg;refine GO fun w HT=>?_
 have HC:=Vh hc;clear hc;go_enter func71,ntmps71
 go_wp2_with fail
 refine Qa.run (oM (qt1 fb 10 _ C f.closed HC.closed)) (HT) [0] ?_
 rintro e w1 gs ⟨rfl,C1,hr,rfl⟩ HT;simp only [PU] at HT;have HR:=Vh hr;clear hr;go_wp2
 go_ret
 exact ⟨_,⟨rfl,_,⟨C1,rfl,HC.wD HR⟩,rfl⟩,HT⟩
theorem qpi {fb:Nat} {p:jc} {f:Zp} {tr:Value} {g:List ak} (hg:X1 fb p f tr g):Qa prog 156 #[Qb fb] [g] fun e gs=>e=WN (.bool (!f.closed))/\∃ g',X1 fb p { f with closed:=true } tr g'/\gs=[g']:=by
 obtain ⟨C,rfl,hc⟩:=hg;refine GO fun w HT=>?_
 have HC:=Vh hc;clear hc;go_enter func156,ntmps156
 go_wp2_with fail
 refine Qa.run (oM (qu6 fb 10 _ C f.closed false true HC.closed)) (HT) [0] ?_
 rintro e w1 gs ⟨rfl,C1,hr,rfl⟩ HT;simp only [PU] at HT;have HR:=Vh (show Xi C 10 (.bool true) C1 from by cases hb:f.closed <;> simp [hb] at hr <;> exact hr);clear hr;go_wp2
 go_ret
 exact ⟨_,⟨by cases hb:f.closed <;> simp [hb],_,⟨C1,rfl,HC.oC HR⟩,rfl⟩,HT⟩
theorem q91 {e:TypeId} {v:Value} {n:Nat} {xs:List Value} {g:List ak} (r:Q1 e 1 v n xs g) {i:Nat} {u:Value} (hi:xs[i]?=some u) :
 ∃ b cap cur,v=.slice (some ⟨b,0,none⟩) n cap/\g=[cl b e cur]/\cur[i]?=some u/\i<n:=by
 have hl:=r.1;have hin:i<n:=by have:=(XD.1 hi).1;omega
 obtain ⟨b,cap,cur,h1,h2,_,_,_,h6⟩:=r.open (by omega);exact ⟨b,cap,cur,h1,h2,(h6 i (by omega)).trans hi,hin⟩
def uh (au:List Nat) (i:Int):Value:=if 0<=i/\i<au.length then Qb (au.getD i.toNat 0) else WO none
def Cb (au:List Nat) (i:Int):Value:=if 0<=i then Qb (au.getD (i % au.length).toNat 0) else WO none
theorem Rc {fb:Nat} {p:jc} {f:Zp} {tr:Value} {g:List ak} {au:List Nat} {gR:List ak} (hg:X1 fb p f tr g) (hr:Q1 42 1 p.sh au.length (au.map fun x=>Qb x) gR) (i:Int):Qe prog 17 #[Qb fb,WK WL i] [g,gR] (uh au i):=by
 obtain ⟨C,rfl,hc⟩:=hg;by_cases h0:0<=i
 ·obtain ⟨k,rfl⟩:=WQ h0
  by_cases hk:k<au.length
  ·have hget:=XE hk
   obtain ⟨x,hx⟩:∃ x,au[k]=x:=⟨_,rfl⟩;rw [hx] at hget;have hi:(au.map fun x=>Qb x)[k]?=some (Qb x):=by rw [List.getElem?_map,hget];rfl
   obtain ⟨b,cap,cur,hv,rfl,OP,_⟩:=q91 hr hi
   have HV:=Vh (show uh au k=Qb x from by
    unfold uh
    rw [if_pos ⟨h0,by omega⟩,XC,XB,hget];rfl)
   have hsh:=hc.sh;rw [hv] at hsh;refine GO fun w HT=>?_
   have c0:=(HT.c 0 0 7).trans hsh;have c1:=(HT.cell 1 0 rfl k).trans OP;clear hc hr hget hi hv hsh OP hx;go_enter func17,ntmps17
   go_wp2
   go_ret
   first | exact ⟨by rw [HV.out];rfl,0,rfl⟩ | exact ⟨by rw [HV.out];rfl,_,rfl⟩
  ·have HV:=Vh (show uh au k=WO none from if_neg (by omega))
   obtain ⟨a,cap,hv⟩:=hr.val;have hsh:=hc.sh;rw [hv] at hsh;refine GO fun w HT=>?_
   have c0:=(HT.c 0 0 7).trans hsh;clear hc hr hv hsh;go_enter func17,ntmps17
   go_wp2
   go_ret
   first | exact ⟨by rw [HV.out];rfl,0,rfl⟩ | exact ⟨by rw [HV.out];rfl,_,rfl⟩
 ·have HV:=Vh (show uh au i=WO none from if_neg (by omega))
  refine GO fun w HT=>?_
  clear hc hr;go_enter func17,ntmps17
  go_wp2
  go_ret
  first | exact ⟨by rw [HV.out];rfl,0,rfl⟩ | exact ⟨by rw [HV.out];rfl,_,rfl⟩
theorem qpf {fb:Nat} {p:jc} {f:Zp} {tr:Value} {g:List ak} {au:List Nat} {gR:List ak} (hg:X1 fb p f tr g) (hr:Q1 42 1 p.sh au.length (au.map fun x=>Qb x) gR) (hn:1<=au.length) (i:Int):Qe prog 184 #[Qb fb,WK WL i] [g,gR] (Cb au i):=by
 by_cases h0:0<=i
 ·have hs:=Rc hg hr (i % au.length)
  have hm0:0<=i % (au.length:Int):=Int.emod_nonneg _ (by omega);have hm1:i % (au.length:Int)<au.length:=Int.emod_lt_of_pos _ (by omega);obtain ⟨x,hx⟩:∃ x,Qb (au.getD (i % au.length).toNat 0)=x:=⟨_,rfl⟩;have HV:=Vh (show Cb au i=x from (if_pos h0).trans hx);rw [show uh au (i % au.length)=x from (if_pos ⟨hm0,hm1⟩).trans hx] at hs;have HS:=Vh hs;obtain ⟨C,rfl,hc⟩:=hg;obtain ⟨a,cap,hv⟩:=hr.val;have hsh:=hc.sh;rw [hv] at hsh;refine GO fun w HT=>?_
  have c0:=(HT.c 0 0 7).trans hsh;clear hc hr hv hsh hs hm0 hm1 hx;go_enter func184,ntmps184
  go_wp2_with fail
  refine (Qe.use HS HT [0,1] rfl rfl).mono ?_
  rintro e w1 ⟨rfl,mq,rfl⟩;go_wp2
  go_ret
  first | exact ⟨by rw [HV.out];rfl,0,rfl⟩ | exact ⟨by rw [HV.out];rfl,_,rfl⟩
 ·have HV:=Vh (show Cb au i=WO none from if_neg h0)
  refine GO fun w HT=>?_
  clear hg hr;go_enter func184,ntmps184
  go_wp2
  go_ret
  first | exact ⟨by rw [HV.out];rfl,0,rfl⟩ | exact ⟨by rw [HV.out];rfl,_,rfl⟩
theorem qts {s:Qj} {j k:Nat} {r:Rec} (hj:j<s.recs.length) (hn:s.recs.length<=64) (hr:s.recs.getD j Rec.zero=r):s.known ((k:Int)*64+j+64)↔(k:Int)+1<=r.g:=by
 have e1:((k:Int)*64+j+64) % 64=j:=by omega
 have e2:((k:Int)*64+j+64) / 64=k+1:=by omega
 unfold Qj.known;rw [e1,e2,XC,hr];constructor
 ·exact fun h=>h.2.2
 ·exact fun h=>⟨by omega,by omega,h⟩
def qR (s:Qj) (i:Int):Int × Int :=
 if 0<=i/\i<s.recs.length then let g:=(s.recs.getD i.toNat Rec.zero).g;if g<1 then (0,6) else (g*64+i,0) else (0,4)
theorem qk3 {fb:Nat} {p:jc} {f:Zp} {tr:Value} {gF gS:List ak} {s:Qj} (hg:X1 fb p f tr gF) (hS:Jc p.sb s gS) (hc:f.cfg.cap=s.recs.length) (hn:s.recs.length<=64) (hG:∀ r∈s.recs,0<=r.g/\r.g<=4294967295) (i:Int) :
 Qa prog 266 #[Qb fb,WK WL i] [gF,gS] fun e gs=>e=WN (WW #[WK WM (qR s i).1,WK WL (qR s i).2])/\∃ sP,Jc p.sb s sP/\gs=[gF,sP]:=by
 obtain ⟨C,rfl,hC⟩:=hg;refine GO fun w HT=>?_
 have c1:=(HT.c 0 0 1).trans (hC.cfg 1 (by decide));have c6:=(HT.c 0 0 6).trans hC.aa;simp only [Cfg.cells,hc,aC] at c1;have HS:=Vh hS;have HN:=Vh hn;have HC6:=Vh hC.aa;clear hS hC hc;by_cases h0:i<0
 ·have HV:=Vh (show qR s i=(0,4) from if_neg (by omega))
  go_enter func266,ntmps266
  go_wp2
  go_ret2
  exact ⟨_,⟨by rw [HV.out];rfl,gS,HS,rfl⟩,HT⟩
 by_cases h1:(s.recs.length:Int)<=i
 ·have HV:=Vh (show qR s i=(0,4) from if_neg (by omega))
  go_enter func266,ntmps266
  go_wp2
  go_ret2
  exact ⟨_,⟨by rw [HV.out];rfl,gS,HS,rfl⟩,HT⟩
 obtain ⟨j,rfl⟩:=WQ (show 0<=i by omega);have hj:j<s.recs.length:=by omega
 obtain ⟨r,hr⟩:∃ r,s.recs.getD j Rec.zero=r:=⟨_,rfl⟩;have hmem:r∈s.recs:=by rw [<- hr,XB,XE hj];exact List.getElem_mem hj
 obtain ⟨g0,g1⟩:=hG r hmem;obtain ⟨gn,hgn⟩:=WQ g0;have HV:=Vh (show qR s j=if r.g<1 then (0,6) else (r.g*64+j,0) by unfold qR;rw [if_pos ⟨by omega,by omega⟩,XC,hr]);have HK:=Vh (fun k:Nat=>qts (k:=k) hj hn hr);rw [hgn] at HV HK;have hgb:gn<=4294967295:=by omega
 have hj64:j<64:=by omega
 clear hr hmem hgn hG h0 hn g0 g1;go_enter func266,ntmps266
 go_wp2_with fail
 go_loopw [6] (fun v wr=>∃ k:Nat,k<=gn/\v=WK WM ((k:Int)*64+j)/\∃ sP,Jc p.sb s sP/\TG [[cl fb 138 C],gS] w [[cl fb 138 C],sP] wr) (fun v _=>gn*64+j - (intOf v).toNat)
 case atStart=>exact ⟨0,Nat.zero_le _,by simp,gS,HS,HT⟩
 case round =>
  obtain ⟨k,hk,rfl,oF,hS1,T⟩:=hrel;have HT:=Vh T;have c6:=(HT.c 0 0 6).trans HC6;clear T;have b0:(0:Int)<=(k:Int)*64+j+64:=by omega
  have b1:(k:Int)*64+j+64<18446744073709551616:=by omega
  by_cases hlt:k<gn
  ·have HX:=Vh (show s.fK ((k:Int)*64+j+64)=0 from if_pos ((HK k).2 (by omega)))
   obtain ⟨y,hy⟩:∃ y,s.slot ((k:Int)*64+j+64)=y:=⟨_,rfl⟩;have HY:=Vh hy;clear hy;go_wp2_with fail
   refine Qa.run (L5 HY HX hS1 HN b0 b1) (HT) [1] ?_
   rintro e w1 gs ⟨rfl,sQ,hS2,rfl⟩ HT;simp only [PU] at HT;go_wp2
   go_roundw
   case rel=>exact ⟨k+1,by omega,congrArg (Value.int WM) (by omega),sQ,hS2,HT⟩
   case measure=>simp [intOf];omega
  ·obtain rfl:k=gn:=by omega
   have HX:=Vh (show s.fK ((k:Int)*64+j+64)=1 from if_neg (fun h=>by have:=(HK k).1 h;omega));obtain ⟨y,hy⟩:∃ y,s.slot ((k:Int)*64+j+64)=y:=⟨_,rfl⟩;have HY:=Vh hy;clear hy;by_cases hz:k=0
   ·subst hz
    have e0:(((0:Nat):Int)*64+j+64)=(j:Int)+64:=by omega
    rw [e0] at HX HY b0 b1;clear e0;go_wp2_with fail
    refine Qa.run (L5 HY HX hS1 HN b0 b1) (HT) [1] ?_
    rintro e w1 gs ⟨rfl,sQ,hS2,rfl⟩ HT;simp only [PU] at HT;have z:(j:Int)<64:=by omega
    go_wp2
    go_ret2
    exact ⟨_,⟨by rw [HV.out];rfl,sQ,hS2,rfl⟩,HT⟩
   ·go_wp2_with fail
    refine Qa.run (L5 HY HX hS1 HN b0 b1) (HT) [1] ?_
    rintro e w1 gs ⟨rfl,sQ,hS2,rfl⟩ HT;simp only [PU] at HT;have HV2:=Vh (HV.out.trans (if_neg (by omega)));have z:¬ ((k:Int)*64+j)<64:=by omega
    clear b0 b1 hz hlt hk;go_wp2
    go_ret2
    exact ⟨_,⟨by rw [HV2.out];rfl,sQ,hS2,rfl⟩,HT⟩
end
end Go.Proofs.YtcneeepdclgdcaaGreat
