import Derived.Test.YtcneeepdclgdcaaGreatPF34
import Derived.Test.YtcneeepdclgdcaaGreatPF13
import Derived.Test.YtcneeepdclgdcaaGreatPF7
import Derived.Test.YtcneeepdclgdcaaGreatPF4
import Derived.Test.YtcneeepdclgdcaaGreatPF37
set_option maxRecDepth 100000
set_option maxHeartbeats 4000000
namespace Go.Proofs.YtcneeepdclgdcaaGreat
open Go.Value renaming int->WK,tuple->WQ,oneCell'->XX
open Go.IntKind renaming i64->WL,u64->WM
open Go.Ending renaming returned->WN
open _root_.List renaming mem_cons_of_mem->WO,mem_cons_self->WR,length_cons->WS,getD_eq_getElem?_getD->WT,getElem?_eq_getElem->WU,mem_append->WW,length_set->XA,length_nil->XC,length_replicate->XE,mem_of_getElem?->XH,mem_cons->XI,append_toArray->XJ,set_cons_zero->XM,set_cons_succ->XN,length_append->XO,mem_singleton->XP,size_toArray->XQ,push_toArray->XR,cons_append->XU,nil_append->XW,replicate->XY,mem_map->YA
open Go renaming bodyPost_ret->WV,results_none->XK
open _root_.And renaming intro->WX
open _root_.Exists renaming intro->WY
open _root_.Nat renaming le_of_eq->WZ,le_refl->XD,lt_of_lt_of_le->XL,zero_le->XT,zero_add->XZ
open Go.Oper renaming semAt_some->XB
open _root_.Array renaming replicate_succ->XF,replicate_zero->XG
open _root_.Bool renaming and_eq_true->XV
open _root_.Int renaming le_refl->YB
set_option linter.all false
open Go.Proofs.Tryz
section
open Go.RowKit Go.Shelf
theorem qwk (S:SvS) (th:Int) (c:Q4):(S.cr 0 th c).own.length=S.own.length/\(S.cr 0 th c).aL.length=S.aL.length:=by
 unfold SvS.cr;split
 ·exact ⟨XA,rfl⟩
 ·exact ⟨rfl,rfl⟩
theorem U2 (P:PlS) (th:Int) (c:Q4):(P.call th c).iy=P.iy:=by
 obtain ⟨h1,h2⟩:=qwk P.S th c
 show ((P.S.cr 0 th c).own.length+(P.S.cr 0 th c).aL.length)=_
 rw [h1,h2];rfl
theorem Na (k n c i d p:Int):Qa prog 124 #[.agg #[WK WL k,WK WL n,WK WL c,WK WM i,WK WM d,WK WM p]] [] fun e gs=>e=WN (.bool (fG.ok ⟨k,n,c,i,d,p⟩))/\gs=[] :=
 Qa.below fun w=>(qp8 k n c i d p w).mono fun e w' h=>⟨h.1,h.2.below (fun _ _ h=>h.elim) (XD _)⟩
section
variable {N:Nat} {L:Lay} {pb sb:Nat} {P:PlS} {g:List ak}
theorem q6t (h:qc N L pb sb P g) (k n c i d p:Int) (ho:fG.ok ⟨k,n,c,i,d,p⟩=false):Qa prog 65 #[Qb pb,(fG.mk k n c i d p).val] [g] fun e gs=>e=WN (WQ #[])/\gs=[g]:=by
 have lT:=Vh (Na k n c i d p);have HG:=Vh h;refine GO fun w HT=>?_
 clear h;simp only [fG.val];go_enter func65,ntmps65
 go_wp2_with fail
 have HT:=Vh (HT.out.a 118 #[WK WL k,WK WL n,WK WL c,WK WM i,WK WM d,WK WM p]);rw [ho] at lT;go_wp2_with fail
 refine Qa.run lT HT [] ?_
 rintro e w1 gs ⟨rfl,rfl⟩ HT;simp only [PU] at HT;go_wp2
 exact WV (XK rfl _ _ _) rfl ⟨_,⟨rfl,rfl⟩,HT.p [0]⟩
theorem qya (h:qc N L pb sb P g) (hN:N<999990) (n c i d p:Int) (ho:fG.ok ⟨1,n,c,i,d,p⟩=true) (hw:Q4.wf ⟨c,i,d,p⟩):Qa prog 65 #[Qb pb,(fG.mk 1 n c i d p).val] [g] fun e gs=>∃ g',e=WN (WQ #[])/\qc (N+1) L pb sb (P.call n ⟨c,i,d,p⟩) g'/\gs=[g']:=by
 have hc:=N6 h hN n ⟨c,i,d,p⟩ hw;simp only [Q4.cells] at hc;have HC:=Vh hc;clear hc hw;obtain ⟨k,hk⟩:∃ k:Int,k=1:=⟨1,rfl⟩;rw [<- hk] at ho |-;have HK:=Vh hk;clear hk;have lT:=Vh (Na k n c i d p);have HG:=Vh h;refine GO fun w HT=>?_
 clear h;simp only [fG.val];go_enter func65,ntmps65
 go_wp2_with fail
 have HT:=Vh (HT.out.a 118 #[WK WL k,WK WL n,WK WL c,WK WM i,WK WM d,WK WM p]);rw [ho] at lT;clear ho;go_wp2_with fail
 refine Qa.run lT HT [] ?_
 rintro e w1 gs ⟨rfl,rfl⟩ HT;simp only [PU] at HT;obtain ⟨b0,b1,b2,b3,b4,b5⟩:=HT.c6 1 0 0 1 2 3 4 5;simp only [aT] at b0 b1 b2 b3 b4 b5;have bI:=HT.l 1 0;simp only [] at bI;have hk:=HK.out;subst hk;go_wp2_with fail
 refine Qa.run HC HT [0] ?_
 rintro e w1 gs ⟨g1,rfl,hp,rfl⟩ HT;simp only [PU] at HT;have HP:=Vh hp;clear hp b0 b1 b2 b3 b4 b5 bI;go_wp2
 exact bodyPost_end (XK rfl _ _ _) rfl ⟨_,⟨_,rfl,HP,rfl⟩,HT.p [0]⟩
theorem qpz (h:qc N L pb sb P g) {T:Nat} (hT:P.iy<=T) (m:Nat) (hm:m<=255) (hN:N+m*T<999990) (c i d p:Int) (ho:fG.ok ⟨4,m,c,i,d,p⟩=true):Qa prog 65 #[Qb pb,(fG.mk 4 m c i d p).val] [g] fun e gs=>∃ g',e=WN (WQ #[])/\qc (N+m*T) L pb sb (PlS.rounds m P) g'/\gs=[g']:=by
 have HC:=Vh (q9o h hT m (by omega) hN);obtain ⟨k,hk⟩:∃ k:Int,k=4:=⟨4,rfl⟩;obtain ⟨n,hn⟩:∃ n:Int,n=m:=⟨m,rfl⟩;rw [<- hk,<- hn] at ho |-;rw [<- hn] at HC;have HK:=Vh hk;clear hk hn;have lT:=Vh (Na k n c i d p);have HG:=Vh h;refine GO fun w HT=>?_
 clear h;simp only [fG.val];go_enter func65,ntmps65
 go_wp2_with fail
 have HT:=Vh (HT.out.a 118 #[WK WL k,WK WL n,WK WL c,WK WM i,WK WM d,WK WM p]);rw [ho] at lT;clear ho;go_wp2_with fail
 refine Qa.run lT HT [] ?_
 rintro e w1 gs ⟨rfl,rfl⟩ HT;simp only [PU] at HT;obtain ⟨b0,b1,b2,b3,b4,b5⟩:=HT.c6 1 0 0 1 2 3 4 5;simp only [aT] at b0 b1 b2 b3 b4 b5;have bI:=HT.l 1 0;simp only [] at bI;have hk:=HK.out;subst hk;go_wp2_with fail
 refine Qa.run HC HT [0] ?_
 rintro e w1 gs ⟨g1,rfl,hp,rfl⟩ HT;simp only [PU] at HT;have HP:=Vh hp;clear hp b0 b1 b2 b3 b4 b5 bI;go_wp2
 exact bodyPost_end (XK rfl _ _ _) rfl ⟨_,⟨_,rfl,HP,rfl⟩,HT.p [0]⟩
end
end
section
open Go.RowKit Go.Shelf
attribute [local go_sem] XB
theorem Lp {P:Program} {f:FuncId} {args:Array Value} {gs h H:GH} {R:Ending->GH->Prop} {w w1:World} (hd:Calls P f args w1 fun e w'=>∃ gs',R e gs'/\TG gs w1 gs' w') (T:TG h w H w1) (is:List Nat) (hp:kS H is=gs) (hf:og H is=true) :
 Calls P f args w1 fun e w2=>∃ gs',R e gs'/\TG h w (je H is gs') w2:=by
 subst hp;have T1:Qh _ _ _ _:=Qh.perm T (qe (Mb hf));rw [Zq] at T1;refine hd.mono ?_
 rintro e w2 ⟨gs',hr,ht⟩;refine ⟨gs',hr,?_⟩
 have ht':Qh _ _ _ _:=ht;have:=T1.trans (ht'.frame T1.has);rw [<- Zq] at this;exact Qh.perm this (qe (TM hf).symm)
end
section
open Go.RowKit Go.Shelf
attribute [local go_sem] XB
def nX (c:Cfg):PlS:=⟨uP c,c.cO,0,0,fun _=>none⟩
theorem QL (c:Cfg) (hk:c.ok=true):Qa prog 63 #[.agg c.cells] [] fun e gs =>
 ∃ L pb sb g,e=WN (WQ #[Qb pb,WK WL 0])/\qc 0 L pb sb (nX c) g/\gs=[g]:=by
 have HN:=Vh (JF c hk);obtain ⟨sh,cap,ring,room,wk,cO⟩:=c;have hmm:=@run_makeMap prog;refine GO fun w HT=>?_
 clear hk;simp only [Cfg.cells] at HN |-;go_enter func63,ntmps63
 go_wp2_with fail
 have HT:=Vh (HT.out.a 30 #[WK WL sh,WK WL cap,WK WL ring,WK WL room,WK WL wk,WK WL cO]);go_wp2_with fail
 refine Qa.run HN HT [] ?_
 rintro e w1 gs ⟨L,sb,g,rfl,hb,rfl⟩ HT;simp only [PU] at HT;have HB:=Vh hb;clear hb;have a5:=HT.c 0 0 5;simp only [aT] at a5;have DU:=HT.l 0 0;simp only [] at DU;go_wp2
 go_ret2
 have T1:=(HT.put (k:=w1.heap.size) rfl (.map #[] 0)).alloc (k:=w1.heap.size+1) (by simp) 218 #[Qb sb,WK WL cO,WK WL 0,WK WL 0,.map (some w1.heap.size)];exact ⟨_,⟨L,w1.heap.size+1,sb,_,rfl,⟨w1.heap.size,g,_,⟨HB,⟨0,Gc,0,Ui _ _ _,R4,XT _⟩,⟨XD _,XD _,fun t n h=>by cases h⟩⟩,rfl⟩,rfl⟩,((T1.p [3,1,2]).eq (H':=[fE (w1.heap.size+1) sb w1.heap.size (nX ⟨sh,cap,ring,room,wk,cO⟩).cO (nX ⟨sh,cap,ring,room,wk,cO⟩).steps (nX ⟨sh,cap,ring,room,wk,cO⟩).dJ,g,[(w1.heap.size,.map #[] 0)]]) rfl).bG⟩
section
variable {N:Nat} {L:Lay} {pb sb:Nat} {P:PlS} {g:List ak}
theorem Te (h:qc N L pb sb P g):Qa prog 68 #[Qb pb] [g] fun e gs=>e=WN (Qb sb)/\gs=[g]:=by
 obtain ⟨mb,gS,gM,hi,rfl⟩:=h;refine GO fun w HT=>?_
 have T1:=HT.bG (H':=[fE pb sb mb P.cO P.steps P.dJ,gS,gM]);obtain ⟨p0,p2,p3⟩:=T1.c3 0 0 0 2 3;simp only [fE,aC] at p0 p2 p3;have eT:=T1.l 0 0;simp only [] at eT;clear hi T1;go_enter func68,ntmps68
 go_wp2
 go_ret
 exact ⟨_,⟨rfl,rfl⟩,HT⟩
theorem qyb (h:qc N L pb sb P g):Qa prog 69 #[Qb pb] [g] fun e gs=>e=WN (WK WL P.dJ)/\gs=[g]:=by
 obtain ⟨mb,gS,gM,hi,rfl⟩:=h;refine GO fun w HT=>?_
 have T1:=HT.bG (H':=[fE pb sb mb P.cO P.steps P.dJ,gS,gM]);obtain ⟨p0,p2,p3⟩:=T1.c3 0 0 0 2 3;simp only [fE,aC] at p0 p2 p3;have eT:=T1.l 0 0;simp only [] at eT;clear hi T1;go_enter func69,ntmps69
 go_wp2
 go_ret
 exact ⟨_,⟨rfl,rfl⟩,HT⟩
theorem qnm (h:qc N L pb sb P g) (hN:N<999990) (hid:P.S.idle=true):Qa prog 67 #[Qb pb] [g] fun e gs=>∃ g',e=WN (WK WL 0)/\qc N L pb sb P g'/\gs=[g']:=by
 have hi:=Hy h (by omega);rw [hid] at hi;have HI:=Vh hi;have HG:=Vh h;refine GO fun w HT=>?_
 clear h hi hid;refine Xf func67 rfl ?_
 simp only [ntmps67,XQ,WS,XC,Nat.reduceAdd,Nat.reduceSub,XF,XG,XR,XJ,XW,XU];obtain ⟨p0,eT⟩:=BA HT 0 rfl HG;go_wp2_with fail
 refine Qa.run HI (HT.aN _) [0] ?_
 rintro e w1 gs ⟨g1,rfl,hp,rfl⟩ HT;simp only [PU] at HT;have HP:=Vh hp;clear hp p0 eT;go_wp2
 exact GA (results_tmp rfl _ _ _) ⟨_,⟨g1,rfl,HP,rfl⟩,HT⟩
theorem MV (h:qc N L pb sb P g) {T:Nat} (hT:P.iy<=T) {k0:Nat} (hk0:1<=k0) (AZ:k0<=1000000) (hN:N+k0*T<999990) (hno:∀ j,j<k0->(PlS.rounds j P).S.idle=false) (tL:(PlS.rounds k0 P).S.idle=true) :
 Qa prog 67 #[Qb pb] [g] fun e gs=>∃ g',e=WN (WK WL k0)/\qc (N+k0*T) L pb sb (PlS.rounds k0 P) g'/\gs=[g']:=by
 have hi:=Hy h (by omega);rw [show P.S.idle=false from hno 0 hk0] at hi;have HI:=Vh hi;have Ot:=Vh (show ∀ bx g1,qc N L pb sb P g1->_ from fun bx g1 _=>Ro L pb sb bx (P0:=P) (N0:=N) (T:=T) (bound:=k0) hT AZ hN);have eg:=enters_of func170 (P:=prog) (by kernel_rfl) rfl;have HG:=Vh h;have yI:=Vh (WX hno tL);refine GO fun w HT=>?_
 clear h hi hno tL;refine Xf func67 rfl ?_
 simp only [ntmps67,XQ,WS,XC,Nat.reduceAdd,Nat.reduceSub,XF,XG,XR,XJ,XW,XU];obtain ⟨p0,eT⟩:=BA HT 0 rfl HG;go_wp2_with fail
 obtain ⟨qb,Ko⟩:∃ qb,w.heap.size=qb:=⟨_,rfl⟩;go_wp2_with fail
 refine Qa.run HI (HT.alloc (k:=qb) Ko.symm 110 #[Qb pb]) [0] ?_
 rintro e w1 gs ⟨g1,rfl,hp,rfl⟩ HT;simp only [PU] at HT;have HP:=Vh hp;clear hp p0 eT;rw [Ko];clear Ko;have q0:=HT.c 1 0 0;simp only [aT] at q0;have vz:=HT.l 1 0;simp only [] at vz;go_wp2_with fail
 obtain ⟨nb,hnb⟩:∃ nb,w1.heap.size=nb:=⟨_,rfl⟩;have HT:=Vh (HT.out.alloc (k:=nb) hnb.symm 3 #[WK WL 0]);rw [hnb];clear hnb q0 vz;go_wp2_with fail
 refine Qa.run TK HT [] ?_
 rintro e w1 gs ⟨bx,rfl,rfl⟩ HT;simp only [PU] at HT;have HI2:=Vh (Ot.out bx g1 HP);have T0:=HT.bG (H':=[[cl qb 110 #[Qb pb]],[cl nb 3 #[WK WL 0]]]++[g1,[cl bx 110 #[Qb pb]]]);clear Ot HI;go_wp2_with fail
 refine Tp (H0:=[[cl qb 110 #[Qb pb]],[cl nb 3 #[WK WL 0]]]) (O0:=[g1,[cl bx 110 #[Qb pb]]]) rfl eg HI2 ?hps T0 ⟨g1,by rw [Nat.zero_mul];exact HP,rfl⟩ (fun (k:Nat) H=>k<k0/\H=[[cl qb 110 #[Qb pb]],[cl nb 3 #[WK WL k]]]) (fun (k:Nat) cd H=>(∃ id,cd=.exit id/\id=0)/\k=k0/\H=[[cl qb 110 #[Qb pb]],[cl nb 3 #[WK WL k]]]) ?h0 ?hT ?hbody ?hdone ?hstop
 case hps=>rintro s x s' ⟨rfl,_⟩;rfl
 case h0=>exact ⟨by omega,rfl⟩
 case hT=>exact fun s H h=>h.1
 case hdone=>intro s H O W D h;exact h.elim
 case hbody =>
  rintro (k:Nat) x (k':Nat) H Oy W ly ⟨hk,rfl⟩ ⟨rfl,rfl⟩ ⟨g2,hg2,rfl⟩ hH
  have OU:N+(k+1)*T<999990:=by
   have h1:(k+1)*T<=k0*T:=Nat.mul_le_mul_right _ hk;omega
  have qV:=Vh hg2;have sG:=Vh (Hy hg2 (by omega));have HH:=Vh (TG.refl hH);have n0:=(TG.refl hH).c 1 0 0;have fn0:=(TG.refl hH).f 1 0 0;have zR:=(TG.refl hH).l 1 0;simp only [bR] at n0 zR;clear hg2 hH T0 HG HP HT HI2;refine Xq (n:=9) ?_
  gi_wp2
  refine ⟨[[cl qb 110 #[Qb pb]],[cl nb 3 #[WK WL ((k:Int)+1)]]]++[g2,[cl bx 110 #[Qb pb]]],(HH.set 1 0 rfl 0 (WK WL ((k:Int)+1))).eq rfl,fun Wb hb=>?_⟩
  have HT:=Vh (TG.refl hb);clear hb HH n0 fn0 zR;have q0:=HT.c 0 0 0;have vz:=HT.l 0 0;simp only [bR] at q0 vz;obtain ⟨p0,eT⟩:=BA HT 2 rfl qV;by_cases hkn:k+1=k0
  ·rw [show (PlS.rounds (k+1) P).S.idle=true by rw [hkn];exact yI.out.2] at sG
   refine Xq (n:=9) ?_
   gi_wp2
   refine ⟨trivial,(Yl (Qa.use sG HT [2] rfl rfl)).mono ?_⟩
   rintro e w3 ⟨gs,⟨g3,rfl,hp3,rfl⟩,Ta⟩;simp only [PU] at Ta;have Cz:=Vh (WX hp3 Ta);clear hp3 Ta q0 vz p0 eT;gi_wp2
   exact ⟨_,⟨[[cl qb 110 #[Qb pb]],[cl nb 3 #[WK WL ((k:Int)+1)]]],[g3,[cl bx 110 #[Qb pb]]],rfl,⟨⟨0,rfl,rfl⟩,hkn,rfl⟩,⟨g3,Cz.1,rfl⟩⟩,Cz.2⟩
  ·rw [show (PlS.rounds (k+1) P).S.idle=false from yI.out.1 _ (by omega)] at sG
   refine Xq (n:=9) ?_
   gi_wp2
   refine ⟨trivial,(Yl (Qa.use sG HT [2] rfl rfl)).mono ?_⟩
   rintro e w3 ⟨gs,⟨g3,rfl,hp3,rfl⟩,Ta⟩;simp only [PU] at Ta;have Cz:=Vh (WX hp3 Ta);clear hp3 Ta q0 vz p0 eT;gi_wp2
   exact ⟨_,⟨[[cl qb 110 #[Qb pb]],[cl nb 3 #[WK WL ((k:Int)+1)]]],[g3,[cl bx 110 #[Qb pb]]],rfl,⟨by omega,rfl⟩,⟨g3,Cz.1,rfl⟩⟩,Cz.2⟩
 case hstop =>
  rintro (k:Nat) cd H O W D ⟨⟨id,rfl,rfl⟩,rfl,rfl⟩ ⟨g2,hg2,rfl⟩ hT;have n0:=hT.c 1 0 0;have zR:=hT.l 1 0;simp only [bR] at n0 zR;have HX:=Vh (WX hg2 hT);clear hg2 hT T0;go_wp2
  have T3:=HX.2.bY (.deferred none);exact Z5 HX.2.has.last (results_tmp rfl _ _ _) ⟨_,⟨g2,rfl,HX.1,rfl⟩,T3.p [2]⟩
end
end
section
open Go.RowKit Go.Shelf
attribute [local go_sem] XB
def PE (e:fG):Prop:=(0<=e.n/\e.n<=255)/\(0<=e.i/\e.i<=255)/\(0<=e.d/\e.d<=255)/\0<=e.p/\e.p<=255
theorem qo1 {w w':World} {a:Option Addr} {zs:List Int} (h:Gd w a zs) {H:GH} (T:TG [] w H w'):Bytes w' a zs:=by
 obtain ⟨h1,h2⟩:=h;refine ⟨h1,h2.imp id ?_⟩
 rintro ⟨b,off,rfl,hb,hc⟩;refine ⟨b,off,rfl,XL hb T.bel.size,fun i hi=>?_⟩
 rw [WT,WU hi];exact (T.old hb).trans (hc i _ (WU hi))
def xh (e:fG):List Value:=[WK WL e.k,WK WL e.n,WK WL e.c,WK WM e.i,WK WM e.d,WK WM e.p]
theorem UK:∀ (l:List fG) (i j:Nat),i<l.length->j<6->(l.flatMap xh)[i*6+j]?=(xh (l.getD i fG.zero))[j]?
 | [],i,j,h,_=>by simp at h
 | e::l,0,j,_,hj=>by
   rw [List.flatMap_cons,Nat.zero_mul,XZ,List.getElem?_append_left (show j<(xh e).length from hj)];rfl
 | e::l,i+1,j,h,hj=>by
   rw [List.flatMap_cons,List.getElem?_append_right (show (xh e).length<=_ by show 6<=_;omega),show (i+1)*6+j - (xh e).length=i*6+j by show (i+1)*6+j - 6=_;omega,UK l i j (by simpa using h) hj];rfl
theorem MI {w:World} {B:Nat} {T:TypeId} {c0 c1 c2 c3 c4 c5:Value} (h:w.heap[B]?=some (.cells #[c0,c1,c2,c3,c4,c5] T (0,0))) :
 w.cell? ⟨B,0,none⟩=some c0/\w.cell? ⟨B,1,none⟩=some c1/\w.cell? ⟨B,2,none⟩=some c2/\w.cell? ⟨B,3,none⟩=some c3/\w.cell? ⟨B,4,none⟩=some c4/\w.cell? ⟨B,5,none⟩=some c5:=by
 have hk:=Q5 h;exact ⟨hk 0,hk 1,hk 2,hk 3,hk 4,hk 5⟩
theorem NA {fn:Func} {tmps:Array Value} {W:World} {B:Nat} {p:Tmp} {v0 v1 v2 v3 v4 v5:Value} (hres:fn.results=#[.cell p 116]) (hp:tmps.getD p undef=.pointer (some ⟨B,0,none⟩))
 (h:W.cell? ⟨B,0,none⟩=some v0/\W.cell? ⟨B,1,none⟩=some v1/\W.cell? ⟨B,2,none⟩=some v2/\W.cell? ⟨B,3,none⟩=some v3/\W.cell? ⟨B,4,none⟩=some v4/\W.cell? ⟨B,5,none⟩=some v5) :
 (results fn tmps).run prog W=.ok (.agg #[v0,v1,v2,v3,v4,v5]) W:=by
 obtain ⟨h0,h1,h2,h3,h4,h5⟩:=h;have hp':tmps[p]?.getD undef=.pointer (some ⟨B,0,none⟩):=by simpa using hp
 simp only [results,hres];simp [hp',go_sem,h0,h1,h2,h3,h4,h5]
theorem q6m (b off cap:Nat) (zs:List Int) (w:World) (hl:zs.length<=6) (hb:Bytes w (some ⟨b,off,none⟩) zs) :
 Calls prog 123 #[.slice (some ⟨b,off,none⟩) zs.length cap] w fun e w'=>∃ z:fG,e=WN z.val/\PE z/\TG [] w [] w':=by
 by_cases h6:zs.length=6
 ·obtain ⟨b',off',he,hlt,hc⟩:=hb.cells' (i:=0) (by omega)
  obtain ⟨rfl,rfl⟩:b=b'/\off=off':=by cases he;exact ⟨rfl,rfl⟩
  have hlt1:b<w.heap.size+1:=by omega
  have c0:=hc 0 (by omega);have c1:=hc 1 (by omega);have c2:=hc 2 (by omega);have c3:=hc 3 (by omega);have c4:=hc 4 (by omega);have c5:=hc 5 (by omega);obtain ⟨p0,q0⟩:=hb.byte 0;obtain ⟨p1,q1⟩:=hb.byte 1;obtain ⟨p2,q2⟩:=hb.byte 2;obtain ⟨p3,q3⟩:=hb.byte 3;obtain ⟨p4,q4⟩:=hb.byte 4;obtain ⟨p5,q5⟩:=hb.byte 5;rw [h6];clear hb hc he;generalize zs.getD 0 0=z0 at *;generalize zs.getD 1 0=z1 at *;generalize zs.getD 2 0=z2 at *;generalize zs.getD 3 0=z3 at *;generalize zs.getD 4 0=z4 at *;generalize zs.getD 5 0=z5 at *;clear hl h6;simp only [Nat.add_zero] at c0;go_enter func123,ntmps123
  go_wp2
  go_region
  go_wp2
  ·go_region
   go_wp2
   refine WV (v:=fG.val ⟨_,_,_,_,_,_⟩) (NA rfl rfl (MI (show (w.alloc _).heap[w.heap.size]?=_ from Bl _ rfl))) rfl ⟨_,rfl,?_,((TG.DX.aN _).drew).drew⟩
   exact ⟨⟨p1,q1⟩,⟨p3,q3⟩,⟨p4,q4⟩,p5,q5⟩
  all_goals
   refine WV (v:=fG.val ⟨_,_,_,_,_,_⟩) (NA rfl rfl (MI (show (w.alloc _).heap[w.heap.size]?=_ from Bl _ rfl))) rfl ⟨_,rfl,?_,(TG.DX.aN _).drew⟩
   unfold PE;dsimp only
   omega
 ·have h6':¬ ((zs.length:Int)=6):=by omega
  clear hb;go_enter func123,ntmps123
  go_wp2
  refine WV (v:=fG.val ⟨_,_,_,_,_,_⟩) (NA rfl rfl (MI (show (w.alloc _).heap[w.heap.size]?=_ from Bl _ rfl))) rfl ⟨_,rfl,?_,TG.DX.aN _⟩
  exact ⟨⟨by decide,by decide⟩,⟨by decide,by decide⟩,⟨by decide,by decide⟩,by decide,by decide⟩
theorem Tryz.mK:(prog.info? 116).map (fun i=>(i.zero,i.size,i.bytes))=some (some (.agg #[WK WL 0,WK WL 0,WK WL 0,WK WM 0,WK WM 0,WK WM 0]),6,48):=by kernel_rfl
theorem qx5 (a:Option Addr) (cap:Nat) (zs:List Int) (hl:zs.length<=1000000) (hcap:zs.length<=cap) (hc:cap<=9223372036854775807) (w:World) (hb:Bytes w a zs) :
 Calls prog 64 #[.slice a zs.length cap] w fun e w'=>∃ gs',(∃ (v:Value) (es:List fG) (ge:List ak),e=WN v/\es.length=rz zs.length/\(∀ z∈es,PE z)/\Q1 116 6 v (rz zs.length) (es.flatMap xh) ge/\gs'=[ge])/\TG [] w gs' w':=by
 obtain ⟨b,off,ha⟩:∃ b off,zs.length=0\/a=some ⟨b,off,none⟩:=by
  rcases hb.2 with h | ⟨b,off,h,_⟩
  ·exact ⟨0,0,.inl (by rw [h];rfl)⟩
  ·exact ⟨b,off,.inr h⟩
 have HB:=Vh (show ∀ (g:List ak) w',TG [] w [g] w'->Bytes w' a zs from fun g w' T=>by
  obtain ⟨h1,h2⟩:=hb;refine ⟨h1,h2.imp id ?_⟩
  rintro ⟨b,off,rfl,hb,hc⟩
  exact ⟨b,off,rfl,XL hb T.bel.size,fun i hi=>(T.old hb).trans (hc i hi)⟩)
 clear hb;obtain ⟨len,hlen⟩:∃ n,zs.length=n:=⟨_,rfl⟩;have Cr:=Vh hlen;rw [hlen] at hl hcap ha |-;clear hlen;go_enter func64,ntmps64
 go_wp2
 go_loopw [3,4] (fun v i wr=>∃ (k:Nat) (es:List fG) (g:List ak),k<=rz len/\i=WK WL ↑(6*k)/\es.length=k/\(∀ z∈es,PE z)/\Q1 116 6 v k (es.flatMap xh) g/\TG [] w [g] wr) (fun _ i _=>len+6 - (intOf i).toNat)
 case atStart=>exact ⟨0,[],[],XT _,rfl,rfl,fun z h=>(by cases h),X5 _ _,(show TG [] w [[]] w from (TG.DX:TG [] w [] w))⟩
 case round =>
  obtain ⟨k,es,g,hk,rfl,hel,hes,hr,T⟩:=hrel;have HR:=Vh hr;have HT:=Vh T;have Co:=Vh hes;have yA:=Vh hel;clear hr T hes hel;by_cases hlt:k<rz len
  ·have hlt':6*k<len:=by unfold rz at hlt;omega
   have hk1:k<1000000:=by omega
   obtain rfl:=ha.resolve_left (by omega);have hone:=q6m b (off+6*k) (cap - 6*k) (six zs k) wr (by rw [Gt];omega) ((HB _ _ HT).six k (by rw [Cr.out];omega));rw [Gt,Cr.out] at hone;generalize hjk:6*k=j at *;have HJ:=Vh hjk;clear hjk;have q1:((j:Int)+6).toNat - j=6:=by omega
   have q2:((len:Int)).toNat - j=len - j:=by omega
   by_cases h6:6<=len - j
   ·rw [Nat.min_eq_left h6] at hone
    have HO:=Vh hone;clear hone;go_wp2_with fail
    refine (Lp (gs:=[]) (R:=fun e gs=>∃ z:fG,e=WN z.val/\PE z/\gs=[]) (HO.mono fun e w' ⟨z,h1,h2,h3⟩=>⟨[],⟨z,h1,h2,rfl⟩,h3⟩) HT [] rfl rfl).mono ?_
    rintro e w1 ⟨gs,⟨⟨e1,e2,e3,e4,e5,e6⟩,rfl,hpe,rfl⟩,Ta⟩;simp only [PU] at Ta;have HT:=Vh Ta;have o6:=Vh hpe;clear Ta hpe;simp only [fG.val];go_wp2_with (at_builtin;(with_reducible refine X3 rfl (.tmp 20) (.tmp 26) 113 rfl 116 6 48 _ underlying113 Tryz.mK rfl (by decide) ((HT.out).aN _) 0 rfl rfl (HR.out) rfl ⟨w1.heap.size,0,none⟩ 1 1 [WK WL e1,WK WL e2,WK WL e3,WK WM e4,WK WM e5,WK WM e6] rfl rfl (Za _ _ _) (by simp [XX]) (by unfold maxLen;omega) (by omega) ?_);intro v1 w2 nM r1 T1;simp only [XM,XN] at T1;have T1:=Vh T1;have r1:=Vh r1)
    first | go_roundw | refine ⟨?rel,?measure⟩ | ((repeat apply WY);refine ⟨⟨?rel,rfl⟩,?measure⟩)
    case rel=>exact ⟨k+1,es++[⟨e1,e2,e3,e4,e5,e6⟩],nM,by omega,by have:=HJ.out;congr 1;omega,by rw [XO,yA.out];rfl,fun z hz=>by rcases WW.1 hz with hz | hz;exact Co z hz;cases XP.1 hz;exact o6,by rw [List.flatMap_append];exact r1.out,T1⟩
    case measure=>simp [intOf];omega
   ·rw [Nat.min_eq_right (by omega)] at hone
    have HO:=Vh hone;clear hone;go_wp2_with fail
    refine (Lp (gs:=[]) (R:=fun e gs=>∃ z:fG,e=WN z.val/\PE z/\gs=[]) (HO.mono fun e w' ⟨z,h1,h2,h3⟩=>⟨[],⟨z,h1,h2,rfl⟩,h3⟩) HT [] rfl rfl).mono ?_
    rintro e w1 ⟨gs,⟨⟨e1,e2,e3,e4,e5,e6⟩,rfl,hpe,rfl⟩,Ta⟩;simp only [PU] at Ta;have HT:=Vh Ta;have o6:=Vh hpe;clear Ta hpe;simp only [fG.val];go_wp2_with (at_builtin;(with_reducible refine X3 rfl (.tmp 20) (.tmp 26) 113 rfl 116 6 48 _ underlying113 Tryz.mK rfl (by decide) ((HT.out).aN _) 0 rfl rfl (HR.out) rfl ⟨w1.heap.size,0,none⟩ 1 1 [WK WL e1,WK WL e2,WK WL e3,WK WM e4,WK WM e5,WK WM e6] rfl rfl (Za _ _ _) (by simp [XX]) (by unfold maxLen;omega) (by omega) ?_);intro v1 w2 nM r1 T1;simp only [XM,XN] at T1;have T1:=Vh T1;have r1:=Vh r1)
    first | go_roundw | refine ⟨?rel,?measure⟩ | ((repeat apply WY);refine ⟨⟨?rel,rfl⟩,?measure⟩)
    case rel=>exact ⟨k+1,es++[⟨e1,e2,e3,e4,e5,e6⟩],nM,by omega,by have:=HJ.out;congr 1;omega,by rw [XO,yA.out];rfl,fun z hz=>by rcases WW.1 hz with hz | hz;exact Co z hz;cases XP.1 hz;exact o6,by rw [List.flatMap_append];exact r1.out,T1⟩
    case measure=>simp [intOf];omega
  ·have hk':k=rz len:=by omega
   subst hk';have hge:¬ 6*rz len<len:=by unfold rz;omega
   generalize hjk:6*rz len=j at *;clear hjk;go_wp2
   go_ret
   exact ⟨_,⟨_,es,g,rfl,yA,Co,HR,rfl⟩,HT⟩
theorem Ps {es:List fG} {v:Value} {n:Nat} {g:List ak} {h H:GH} {w wr:World} (r:Q1 116 6 v n (es.flatMap xh) g) (T:TG h w H wr) (i:Nat) (hg:H.getD i []=g) {k:Nat} {e:fG} (hk:es[k]?=some e) (hn:es.length=n) :
 ∃ b off cap,v=.slice (some ⟨b,off,none⟩) n cap/\b<wr.heap.size/\wr.cell? ⟨b,off+k*6,none⟩=some (WK WL e.k)/\wr.cell? ⟨b,off+k*6+1,none⟩=some (WK WL e.n)/\wr.cell? ⟨b,off+k*6+2,none⟩=some (WK WL e.c)/\wr.cell? ⟨b,off+k*6+3,none⟩=some (WK WM e.i)/\wr.cell? ⟨b,off+k*6+4,none⟩=some (WK WM e.d)/\wr.cell? ⟨b,off+k*6+5,none⟩=some (WK WM e.p):=by
 subst hn;obtain ⟨hkl,he⟩:=List.getElem?_eq_some_iff.1 hk;obtain ⟨b,cap,cur,rfl,rfl,h1,h2,h3,h4⟩:=r.open (by omega);have hb:=T.lt i 0 (p:=cl b 116 cur) (by rw [hg];rfl);have hd:es.getD k fG.zero=e:=by rw [WT,hk];rfl
 have q:∀ j,j<6->wr.cell? ⟨b,0+(k*6+j),none⟩=(xh e)[j]?:=fun j hj=>by
  rw [T.cell i 0 (b:=b) (T:=116) (C:=cur) (by rw [hg];rfl),XZ,h4 (k*6+j) (by omega),UK es k j hkl hj,hd]
 simp only [<- Nat.add_assoc] at q;exact ⟨b,0,cap,rfl,hb,q 0 (by omega),q 1 (by omega),q 2 (by omega),q 3 (by omega),q 4 (by omega),q 5 (by omega)⟩
end
section
open Go.RowKit Go.Shelf
def EV:Nat->PlS->Bool
 | 0,P=>P.S.idle
 | n+1,P=>!P.S.idle && EV n P.round
theorem MH:∀ {n:Nat} {P:PlS},EV n P=true->(∀ j,j<n->(PlS.rounds j P).S.idle=false)/\(PlS.rounds n P).S.idle=true
 | 0,P,h=>⟨fun j hj=>by omega,h⟩
 | n+1,P,h=>by
   simp only [EV,XV,Bool.not_eq_true'] at h;obtain ⟨h1,h2⟩:=MH h.2;refine ⟨fun j hj=>?_,h2⟩
   cases j with
   | zero=>exact h.1
   | succ j=>exact h1 j (by omega)
section
variable {N:Nat} {L:Lay} {pb sb:Nat} {P:PlS} {g:List ak}
def PlS.tick (P:PlS):PlS:=P.call P.cO ⟨7,0,0,0⟩
theorem q2s (h:qc N L pb sb P g) {T:Nat} (hT:P.iy<=T) (hE:P.S.bZ P.cO ⟨7,0,0,0⟩=0) {k0:Nat} (hk0:1<=k0) (AZ:k0<=1000000) (hN:N+1+k0*T<999990) (hno:∀ j,j<k0->(PlS.rounds j P.tick).S.idle=false) (tL:(PlS.rounds k0 P.tick).S.idle=true) (hok:((PlS.rounds k0 P.tick).S.dh (P.S.eB P.cO ⟨7,0,0,0⟩)).ok=true) :
 Qa prog 72 #[Qb pb,WK WL 1] [g] fun e gs=>∃ g',e=WN (WK WL 1)/\qc (N+1+k0*T) L pb sb (PlS.rounds k0 P.tick) g'/\gs=[g']:=by
 have hcl:=N6 h (by omega) P.cO ⟨7,0,0,0⟩ ⟨by decide,by decide,by decide⟩;rw [hE] at hcl;obtain ⟨no,D8⟩:∃ no,P.S.eB P.cO ⟨7,0,0,0⟩=no:=⟨_,rfl⟩;rw [D8] at hcl hok;have HC:=Vh hcl;have HG:=Vh h;have HD:=Vh (show ∀ g1,qc (N+1) L pb sb P.tick g1->_ from fun g1 h1=>MV h1 (T:=T) (by show (P.call _ _).iy<=T;rw [U2];exact hT) hk0 AZ hN hno tL);have HA:=Vh (show ∀ g1,qc (N+1+k0*T) L pb sb (PlS.rounds k0 P.tick) g1->_ from fun g1 h1=>q2r h1 (by omega) no);have lT:=Vh hok;obtain ⟨cO,wL⟩:∃ c,P.cO=c:=⟨_,rfl⟩
 have c1:∀ (h H:GH) (w w1:World) (T:TG h w H w1),H.getD 0 []=g->w1.cell? ⟨pb,1,none⟩=some (WK WL P.cO):=by
  intro h' H' w w1 T hi;obtain ⟨mb,gS,gM,_,rfl⟩:=HG.out;exact T.cell 0 0 (b:=pb) (by rw [hi];rfl) 1
 have kZ:=Vh (show ∀ (h H:GH) (w w1:World) (T:TG h w H w1),H.getD 0 []=g->w1.cell? ⟨pb,1,none⟩=some (WK WL cO) from fun h H w w1 T hi=>by rw [<- wL];exact c1 h H w w1 T hi);have jU:=Vh wL;rw [wL] at HC;refine GO fun w HT=>?_
 clear h hcl hE D8 hno tL hok c1 wL;simp only [Q4.cells] at HC;go_enter func72,ntmps72
 go_wp2_with fail
 go_loopw [5,15] (fun r i wr=>(r=WK WL 0/\i=WK WL 0/\TG [g] w [g] wr)\/(r=WK WL 1/\i=WK WL 1/\∃ g',qc (N+1+k0*T) L pb sb (PlS.rounds k0 P.tick) g'/\TG [g] w [g'] wr)) (fun _ i _=>2 - (intOf i).toNat)
 case atStart=>exact .inl ⟨rfl,rfl,HT⟩
 case round =>
  rcases hrel with ⟨rfl,rfl,T1⟩ | ⟨rfl,rfl,g',hg',T1⟩
  ·have d1:=kZ.out _ _ _ _ T1 rfl
   obtain ⟨p0,eT⟩:=BA T1 0 rfl HG;have HT:=Vh T1;clear T1;go_wp2_with fail
   refine Qa.run HC HT [0] ?_
   rintro e w1 gs ⟨g1,rfl,h1,rfl⟩ HT;simp only [PU] at HT;have HDR:=Vh (HD.out g1 (by unfold PlS.tick;rw [jU.out];exact h1));clear h1 d1 p0 eT;go_wp2_with fail
   refine Qa.run HDR HT [0] ?_
   rintro e w1 gs ⟨g2,rfl,h2,rfl⟩ HT;simp only [PU] at HT;obtain ⟨p0,eT⟩:=BA HT 0 rfl h2;have ha:=HA.out g2 h2;obtain ⟨A,hA⟩:∃ A,(PlS.rounds k0 P.tick).S.dh no=A:=⟨_,rfl⟩;have hok:=lT.out;rw [hA] at ha hok;obtain ⟨err,ok,id,gen,left,code⟩:=A;simp only at hok;subst hok;simp only [uK.cells] at ha;have HAN:=Vh ha;clear ha h2 hA;go_wp2_with fail
   refine Qa.run HAN HT [0] ?_
   rintro e w1 gs ⟨v,gv,g3,rfl,hv,h3,rfl⟩ HT;simp only [PU] at HT;obtain ⟨av,cap,hv2⟩:=Q1.val hv;subst hv2;have HP:=Vh h3;clear hv h3 p0 eT;go_wp2
   go_roundw
   case rel=>exact .inr ⟨rfl,rfl,g3,HP,(HT.p [0]).aN _⟩
   case measure=>simp [intOf]
  ·have HT:=Vh T1
   have HP:=Vh hg';clear T1 hg';go_wp2
   go_ret
   exact ⟨_,⟨g',rfl,HP,rfl⟩,HT⟩
end
def El:Cfg:=Yq 0 5
def Ia:PlS:=(nX El).call 0 ⟨1,0,1,0⟩
def xX:PlS:=PlS.rounds 13 Ia
def Ob:PlS:=PlS.rounds 19 xX.tick
theorem TQ:(nX El).S.bZ 0 ⟨1,0,1,0⟩=0/\(nX El).S.eB 0 ⟨1,0,1,0⟩=1:=⟨by kernel_rfl,by kernel_rfl⟩
theorem q1t:EV 13 Ia=true:=by kernel_rfl
theorem q1v:xX.S.bZ xX.cO ⟨7,0,0,0⟩=0:=by kernel_rfl
theorem q1u:EV 19 xX.tick=true:=by kernel_rfl
theorem q8w:(Ob.S.dh (xX.S.eB xX.cO ⟨7,0,0,0⟩)).ok=true:=by kernel_rfl
theorem q50:Ob.S.z.lg.length=1:=by kernel_rfl
theorem UL:Ia.iy=7/\xX.iy=7:=⟨by kernel_rfl,by kernel_rfl⟩
theorem UC:Qa prog 62 #[] [] fun e gs=>e=WN (.bool true)/\gs=[]:=by
 have o7:=Vh (UZ 0 5 (by decide) (by decide));have HN:=Vh (show Qa prog 63 #[.agg (Yq 0 5).cells] [] fun e gs=>∃ L pb sb g,e=WN (WQ #[Qb pb,WK WL 0])/\qc 0 L pb sb (nX El) g/\gs=[g] from QL El (Mc 0 5));obtain ⟨r1,r1'⟩:=MH q1t;obtain ⟨r2,r2'⟩:=MH q1u;have HR1:=Vh (WX r1 r1');have HR2:=Vh (WX r2 r2');clear r1 r1' r2 r2';refine GO fun w HT=>?_
 go_enter func62,ntmps62
 go_wp2_with fail
 refine Qa.run o7 HT [] ?_
 rintro e w1 gs ⟨rfl,rfl⟩ HT;simp only [PU] at HT;go_wp2_with fail
 refine Qa.run HN HT [] ?_
 rintro e w1 gs ⟨L,pb,sb,g,rfl,hp,rfl⟩ HT;simp only [PU] at HT;have hc:=N6 hp (by decide) 0 ⟨1,0,1,0⟩ ⟨by decide,by decide,by decide⟩;rw [TQ.1,TQ.2] at hc;have HC:=Vh hc;clear hp hc;go_wp2_with fail
 refine Qa.run HC HT [0] ?_
 rintro e w1 gs ⟨g1,rfl,h1,rfl⟩ HT;simp only [PU] at HT;have HD:=Vh (MV (P:=Ia) (T:=7) h1 (WZ UL.1) (k0:=13) (by decide) (by decide) (by decide) HR1.1 HR1.2);clear h1;go_wp2_with fail
 refine Qa.run HD HT [0] ?_
 rintro e w1 gs ⟨g2,rfl,h2,rfl⟩ HT;simp only [PU] at HT;have dZ:=Vh (q2s (P:=xX) (T:=7) h2 (WZ UL.2) q1v (k0:=19) (by decide) (by decide) (by decide) HR2.1 HR2.2 q8w);clear h2;go_wp2_with fail
 refine Qa.run dZ HT [0] ?_
 rintro e w1 gs ⟨g3,rfl,h3,rfl⟩ HT;simp only [PU] at HT;have fM:=Vh (Te h3);have hl:=zbt (P:=Ob) h3 (by decide);rw [q50] at hl;have HL:=Vh hl;clear h3 hl;go_wp2_with fail
 refine Qa.run fM HT [0] ?_
 rintro e w1 gs ⟨rfl,rfl⟩ HT;simp only [PU] at HT;go_wp2_with fail
 refine Qa.run HL HT [0] ?_
 rintro e w1 gs ⟨v,gv,g4,rfl,hv,h4,rfl⟩ HT;simp only [PU] at HT;obtain ⟨av,cap,hv2⟩:=Q1.val hv;subst hv2;clear hv h4;go_wp2
 go_ret
 exact ⟨[],⟨rfl,rfl⟩,HT.p []⟩
theorem UR {ws:Nat->Option Nat} {M:List Nat}:∀ (l:List Nat) (s:(Nat->Option Nat) × Nat),(∀ t∈l,t∈M)->(∀ t n,s.1 t=some n->t∈M/\n=oP ws t) ->
 ∀ t n,(l.foldl (qG ws) s).1 t=some n->t∈M/\n=oP ws t
 | [],_,_,h=>h
 | a::l,s,hm,h=>UR l _ (fun t ht=>hm t (WO _ ht)) fun t n e=>by
   have e:jP s.1 a (oP ws a) t=some n:=e;unfold jP at e;split at e
   ·next x=>cases e;subst x;exact ⟨hm _ WR,rfl⟩
   ·exact h t n e
theorem Uh {ws:Nat->Option Nat} {B:Nat}:∀ (l:List Nat) (s:(Nat->Option Nat) × Nat),s.2<=B->(∀ t∈l,oP ws t<=B)->(l.foldl (qG ws) s).2<=B
 | [],_,h,_=>h
 | a::l,s,h,hl=>Uh l _ (Nat.max_le.2 ⟨h,hl a WR⟩) fun t ht=>hl t (WO _ ht)
structure Ak (T:Nat) (P:PlS) (rest:List Nat) (s:Nat):Prop where
 key:∀ t n,P.ws t=some n->t∈P.S.bM
 wait:∀ t n,P.ws t=some n->(t∈rest->n+1<=T+s)/\(t ∉ rest->n+1<=s)
 room:s+rest.length<=T
 dJ:P.dJ+2<=2*T
structure uw (T:Nat) (P:PlS):Prop where
 key:∀ t n,P.ws t=some n->t∈P.S.bM/\n+1<=T
 iy:P.iy<=T
 dJ:P.dJ+2<=2*T
section
variable {T:Nat} {P:PlS}
theorem RV {S:SvS} {i:Int} (h:(S.stepS i).2≠0):(S.stepS i).1=S:=by
 unfold SvS.stepS at h |-;split
 ·rfl
 ·next h1 =>
  rw [if_neg h1] at h;split
  ·next t ht=>rw [ht] at h;exact absurd rfl h
  ·rfl
theorem Ak.step {a:Nat} {rest:List Nat} {s:Nat} (h:Ak T P (a::rest) s):∃ s',Ak T (P.step a) rest s':=by
 have hr:=h.room;simp only [WS] at hr;unfold PlS.step;split
 ·refine ⟨s+1,?_⟩
  obtain ⟨S1,hS1⟩:∃ S1,(P.S.stepS a).1=S1:=⟨_,rfl⟩;rw [hS1]
  have hw:∀ t n,(({ P with S:=S1 }:PlS).made a).ws t=some n->t∈S1.bM/\n=oP (kV P.ws a) t :=
   UR (ws:=kV P.ws a) S1.bM (fun _=>none,P.dJ) (fun t ht=>ht) (fun t n e=>by cases e)
  have hv:∀ t,(t∈rest->oP (kV P.ws a) t+1<=T+(s+1))/\(t ∉ rest->oP (kV P.ws a) t+1<=s+1):=by
   intro t;unfold oP kV;by_cases e:t=a
   ·rw [if_pos e];exact ⟨fun _=>by show 0+1<=_;omega,fun _=>by show 0+1<=_;omega⟩
   ·rw [if_neg e]
    cases hn:P.ws t with
    | none=>exact ⟨fun _=>by show 0+1<=_;omega,fun _=>by show 0+1<=_;omega⟩
    | some n =>
      obtain ⟨h1,h2⟩:=h.wait t n hn;refine ⟨fun ht=>?_,fun ht=>?_⟩
      ·have:=h1 (WO _ ht);show n+1+1<=_;omega
      ·have:=h2 (fun x=>by rcases XI.1 x with x | x;exact e x;exact ht x);show n+1+1<=_;omega
  refine ⟨fun t n e=>(hw t n e).1,fun t n e=>?_,by omega,?_⟩
  ·rw [(hw t n e).2];exact hv t
  ·have hl:=h.dJ
   have:(({ P with S:=S1 }:PlS).made a).dJ<=2*T - 2:=Uh (ws:=kV P.ws a) S1.bM (fun _=>none,P.dJ) (by show P.dJ<=_;omega) fun t _=>by
    obtain ⟨h1,h2⟩:=hv t;by_cases ht:t∈rest
    ·have:=h1 ht
     have:0<rest.length:=List.length_pos_of_mem ht;omega
    ·have:=h2 ht;omega
   omega
 ·next hf =>
  rw [RV hf];refine ⟨s,h.key,fun t n e=>?_,by omega,h.dJ⟩
  have e:P.ws t=some n:=e;obtain ⟨h1,h2⟩:=h.wait t n e;refine ⟨fun ht=>h1 (WO _ ht),fun ht=>h2 fun x=>?_⟩
  rcases XI.1 x with x | x
  ·subst x;exact hf (Uw (h.key _ _ e))
  ·exact ht x
theorem Ak.steps:∀ {rest:List Nat} {P:PlS} {s:Nat},Ak T P rest s->∃ s',Ak T (rest.foldl PlS.step P) [] s'
 | [],_,s,h=>⟨s,h⟩
 | a::rest,P,s,h=>by
   obtain ⟨s',h'⟩:=h.step;exact h'.steps
theorem uw.round (h:uw T P):uw T P.round:=by
 have h0:Ak T P P.S.bM 0:=⟨fun t n e=>(h.key t n e).1,fun t n e=>⟨fun _=>by have:=(h.key t n e).2;omega,fun x=>absurd (h.key t n e).1 x⟩,by have:=M8 P;have:=h.iy;omega,h.dJ⟩;obtain ⟨s,h1⟩:=h0.steps;have hr:=h1.room;simp only [XC] at hr;refine ⟨fun t n e=>⟨h1.key t n e,?_⟩,by unfold PlS.round;rw [GI];exact h.iy,h1.dJ⟩
 have:=(h1.wait t n e).2 (fun x=>by cases x);omega
theorem uw.rounds:∀ (n:Nat) {P:PlS},uw T P->uw T (PlS.rounds n P)
 | 0,_,h=>h
 | n+1,P,h=>uw.rounds n h.round
theorem UQ:∀ (l:List Nat) (ws:Nat->Option Nat) (t n:Nat),(l.foldl rE ws) t=some n->ws t=some n\/(t∈l/\n=0)
 | [],_,_,_,h=>.inl h
 | a::l,ws,t,n,h=>by
   rcases UQ l _ t n h with h | ⟨h1,h2⟩
   ·unfold rE at h
    cases hw:ws a with
    | some _=>rw [hw] at h;exact .inl h
    | none =>
      rw [hw] at h;have h:(if t=a then some 0 else ws t)=some n:=h;split at h
      ·next e=>cases h;subst e;exact .inr ⟨WR,rfl⟩
      ·exact .inl h
   ·exact .inr ⟨WO _ h1,h2⟩
theorem E4:∀ (l:List (Option Nat)) (a:Nat) (t:Nat × Th),t∈rX a l↔∃ j k,l[j]?=some (some k)/\t=(a+j,.eH k)
 | [],a,t=>⟨fun h=>(by cases h),fun ⟨j,k,h,_⟩=>(by simp at h)⟩
 | none::l,a,t=>by
   show t∈rX (a+1) l↔_
   rw [E4 l (a+1) t];refine ⟨fun ⟨j,k,h,e⟩=>⟨j+1,k,h,by rw [e];congr 1;omega⟩,fun ⟨j,k,h,e⟩=>?_⟩
   cases j with
   | zero=>cases h
   | succ j=>exact ⟨j,k,h,by rw [e];congr 1;omega⟩
 | some b::l,a,t=>by
   show t∈(a,Th.eH b)::rX (a+1) l↔_
   rw [XI,E4 l (a+1) t];refine ⟨fun h=>?_,fun ⟨j,k,h,e⟩=>?_⟩
   ·rcases h with h | ⟨j,k,h,e⟩
    ·exact ⟨0,b,rfl,h⟩
    ·exact ⟨j+1,k,h,by rw [e];congr 1;omega⟩
   ·cases j with
    | zero=>cases h;exact .inl e
    | succ j=>exact .inr ⟨j,k,h,by rw [e];congr 1;omega⟩
theorem U4:∀ (l:List dz) (a i j:Nat),j<l.length->(a+j,Th.fQ (i+j))∈pq a i l
 | [],_,_,_,h=>by cases h
 | c::l,a,i,0,_=>WR
 | c::l,a,i,j+1,h=>by
   have:=U4 l (a+1) (i+1) j (by simpa using h);rw [show a+1+j=a+(j+1) by omega,show i+1+j=i+(j+1) by omega] at this;exact WO _ this
theorem Gp {M A Y α:Type} {dX:Y->α->Bool} {x x':α} (h:∀ y,dX y x=dX y x'):∀ s:St M A Y,s.may dX x=s.may dX x'
 | .nil=>rfl
 | .at none _=>rfl
 | .at (some y) _=>h y
 | .ai _=>rfl
 | .aP _ _=>rfl
 | .thn s _=>Gp h s
theorem q2l (w:Wk) (z:ZF) (e:EvS):w.may { z with x:=qL e z.x }=w.may z:=by
 cases w with
 | call s k=>rfl
 | turn s k=>exact Gp (fun y=>by cases y <;> rfl) s
 | dL s k=>exact Gp (fun y=>by cases y <;> rfl) s
theorem qxu {S:SvS} (ho:∀ a,some a∈S.own->a<S.all.length) (kb:Nat) (th:Int) (c:Q4):∀ t∈S.bM,t∈(S.cr kb th c).bM:=by
 unfold SvS.cr;split
 ·next hE =>
  have hok:=GL hE;intro t ht;obtain ⟨⟨t,u⟩,hm,rfl⟩:=YA.1 ht;obtain ⟨h1,h2⟩:=List.mem_filter.1 hm;refine YA.2 ⟨(t,u),List.mem_filter.2 ⟨?_,?_⟩,rfl⟩
  ·rcases WW.1 h1 with h1 | h1
   ·refine List.mem_append_left _ ((E4 _ _ _).2 ?_)
    obtain ⟨j,k,h3,h4⟩:=(E4 _ _ _).1 h1;refine ⟨j,k,?_,h4⟩
    show (S.own.set _ _)[j]?=_
    rw [List.getElem?_set_ne]
    ·exact h3
    ·intro e
     have hb:=hok.busy;unfold SvS.dA at hb;rw [e,WT,h3] at hb;have hb:(!(S.ah k).w.done)=false:=hb;cases h4
     have:=Zi (show (S.ah k).w.may S.z=true from h2);rw [this] at hb;cases hb
   ·refine List.mem_append_right _ ?_
    obtain ⟨j,h3,h4,h5⟩:=Bu _ _ _ _ h1;have:=U4 (S.dB kb th c).aL (S.dB kb th c).own.length 0 j h5;rw [show (S.dB kb th c).own.length=S.own.length from XA] at this;have e:(t,u)=(S.own.length+j,Th.fQ (0+j)):=Prod.ext h4 h3;rw [e]
    show _∈pq (S.dB kb th c).own.length 0 _
    rw [show (S.dB kb th c).own.length=S.own.length from XA];exact this
  ·cases u with
   | eH a =>
     have hl:a<S.all.length:=by
      rcases WW.1 h1 with h1 | h1
      ·obtain ⟨j,k,h3,h4⟩:=(E4 _ _ _).1 h1
       cases h4
       exact ho _ (XH h3)
      ·obtain ⟨j,h3,_⟩:=Bu _ _ _ _ h1;cases h3
     show ((S.dB kb th c).ah a).w.may { S.z with x:=qL _ S.z.x }=true
     rw [q2l,show (S.dB kb th c).ah a=S.ah a from Sj hl];exact h2
   | fQ i=>exact (Gp (dX:=Ib) (fun y=>by cases y;rfl) _).trans h2
 ·exact fun t ht=>ht
theorem uw.call (h:uw T P) (ho:∀ a,some a∈P.S.own->a<P.S.all.length) (h1:1<=T) (th:Int) (c:Q4):uw T (P.call th c):=by
 refine ⟨fun t n e=>?_,by rw [U2];exact h.iy,h.dJ⟩
 rcases UQ _ _ t n e with e | ⟨e1,rfl⟩
 ·obtain ⟨h2,h3⟩:=h.key t n e
  exact ⟨qxu ho 0 th c t h2,h3⟩
 ·exact ⟨e1,by omega⟩
end
section
variable {N T:Nat} {P:PlS} {S:SvS}
theorem TH (h:jE N S) (hN:N<999998) (i:Int):(S.stepS i).1.phi<=S.phi/\((S.stepS i).2=0->(S.stepS i).1.phi+1<=S.phi):=by
 by_cases e:(S.stepS i).2=0
 ·have key:(S.stepS i).1.phi+1<=S.phi:=by
   unfold SvS.stepS at e |-;split at e
   ·cases e
   ·next hr =>
    rw [if_neg hr];split at e
    ·next t ht =>
     have h1:=List.mem_of_find?_eq_some ht;have h2:=List.find?_some ht;simp only [XV] at h2;exact q2q h.i hN (Ab h.i.n h1) h2.2
    ·cases e
  exact ⟨by omega,fun _=>key⟩
 ·rw [RV e]
  exact ⟨YB _,fun x=>absurd x e⟩
theorem Ht (P:PlS) (a:Nat):(P.step a).S=(P.S.stepS a).1:=by
 unfold PlS.step;split <;> rfl
theorem Mf:∀ (l:List Nat) {N:Nat} {P:PlS},jE N P.S->N+l.length<999998->jE (N+l.length) (l.foldl PlS.step P).S/\(l.foldl PlS.step P).S.phi<=P.S.phi
 | [],_,_,h,_=>⟨h,YB _⟩
 | a::l,N,P,h,hN=>by
   simp only [WS] at hN |-;have h1:jE (N+1) (P.step a).S:=by rw [Ht];exact h.stepS (by omega) a
   obtain ⟨h2,h3⟩:=Mf l h1 (by omega);have h4:(P.step a).S.phi<=P.S.phi:=by rw [Ht];exact (TH h (by omega) a).1
   rw [show N+(l.length+1)=N+1+l.length by omega];exact ⟨h2,Int.le_trans h3 h4⟩
theorem Tf (h:jE N P.S) (hT:P.iy<=T) (hN:N+T<999998):jE (N+T) P.round.S/\P.round.S.phi<=P.S.phi/\(P.S.bM.length≠0->P.round.S.phi+1<=P.S.phi):=by
 have hm:=M8 P;obtain ⟨h1,h2⟩:=Mf P.S.bM h (by omega);refine ⟨h1.mono (by omega),h2,fun hne=>?_⟩
 unfold PlS.round;cases hl:P.S.bM with
 | nil=>rw [hl] at hne;exact absurd rfl hne
 | cons a l =>
   have h0:=(TH h (by omega) a).2 (Uw (by rw [hl];exact WR));rw [hl] at hm;simp only [WS] at hm;have h1:jE (N+1) (P.step a).S:=by rw [Ht];exact h.stepS (by omega) a
   obtain ⟨_,h3⟩:=Mf l h1 (by omega);rw [Ht] at h3
   show (l.foldl PlS.step (P.step a)).S.phi+1<=_
   omega
theorem RJ:∀ (B:Nat) {N:Nat} {P:PlS},jE N P.S->P.iy<=T->P.S.phi<=B->N+(B+1)*T<999990->P.S.idle=false ->
 ∃ k0,1<=k0/\k0<=B+1/\(∀ j,j<k0->(PlS.rounds j P).S.idle=false)/\(PlS.rounds k0 P).S.idle=true
 | B,N,P,h,hT,hB,hN,hi=>by
   have hm:P.S.bM.length≠0:=fun e=>by
    have g:=goes h.i.n h.i.live;rw [hi,e] at g;cases g
   have hNT:(B+1)*T=B*T+T:=Nat.succ_mul B T;obtain ⟨h1,_,h2⟩:=Tf h hT (by omega);have h2:=h2 hm;have h0:=(P5 h1).1;cases B with
   | zero=>exact absurd hB (by omega)
   | succ B =>
     cases hi1:P.round.S.idle with
     | true=>exact ⟨1,XD _,by omega,fun j hj=>by cases j with | zero=>exact hi | succ j=>omega,hi1⟩
     | false =>
       have Kt:P.round.iy<=T:=by unfold PlS.round;rw [GI];exact hT
       obtain ⟨k0,k1,k2,k3,k4⟩:=RJ B h1 Kt (by omega) (by omega) hi1;refine ⟨k0+1,by omega,by omega,fun j hj=>?_,k4⟩
       cases j with
       | zero=>exact hi
       | succ j=>exact k3 j (by omega)
end
theorem zbs (k n c i d p:Int):Qa prog 66 #[.agg #[WK WL k,WK WL n,WK WL c,WK WM i,WK WM d,WK WM p]] [] fun e gs=>e=WN (.agg #[WK WL k,WK WL n,WK WL c,WK WM i,WK WM d,WK WM p])/\gs=[]:=by
 refine GO fun w HT=>?_
 go_enter func66,ntmps66
 go_wp2_with fail
 have HT2:=Vh ((HT.a 116 #[WK WL k,WK WL n,WK WL c,WK WM i,WK WM d,WK WM p]).alloc (k:=w.heap.size+1) (by simp) 118 #[WK WL k,WK WL n,WK WL c,WK WM i,WK WM d,WK WM p]);obtain ⟨r0,r1,r2,r3,r4,r5⟩:=HT2.c6 1 0 0 1 2 3 4 5;simp only [aT] at r0 r1 r2 r3 r4 r5;exact WV (v:=.agg #[WK WL k,WK WL n,WK WL c,WK WM i,WK WM d,WK WM p]) (by simp [results,results66,go_sem,r0,r1,r2,r3,r4,r5]) rfl ⟨_,⟨rfl,rfl⟩,HT2.p []⟩
end
section
open Go.RowKit Go.Shelf Go.ChangeShapes
theorem argF_of {w:World} {a:Option Addr} {len cap:Nat} {z:List Int} (h:(a=none/\len=0/\cap=0/\z=[])\/∃ x,a=some x/\len<=cap/\cap<=maxLen/\z.length=cap/\(∀ i,i<z.length->w.cell? (x.add i)=some (.int .u8 (z.getD i 0)))/\∀ n∈z,(Lit.int .u8 n).wf=true):∃ zs,zs.length=len/\Gd w a zs/\zs.length<=cap/\cap<=9223372036854775807:=by
 obtain ⟨zs,h1,h2,h3⟩:=q0t h;refine ⟨zs,h1,h2,?_⟩
 rcases h with ⟨_,rfl,rfl,_⟩ | ⟨_,_,h4,h5,_⟩
 ·exact ⟨WZ h1,by decide⟩
 ·unfold maxLen at h5;exact ⟨by omega,by omega⟩
theorem Vq (a b:Int):(nX (Yq a b)).iy=(4+1+(1+max 0 b % 4)).toNat:=by
 show (XY ((4:Int).toNat+1) (none:Option Nat)).length+(XY (1+max 0 b % 4).toNat (⟨0,Jy,0,rY⟩:dz)).length=_
 rw [XE,XE];omega
theorem q9k (m:Nat) (h:m<=255):fG.ok ⟨4,m,0,0,0,0⟩=true:=by
 unfold fG.ok;simp
 omega
structure lY (N T:Nat) (P:PlS):Prop where
 me:jE N P.S
 fr:uw T P
theorem lY.call {N T:Nat} {P:PlS} (h:lY N T P) (h1:1<=T) (th:Int) {c:Q4} (hc:c.wf):lY (N+1) T (P.call th c) :=
 ⟨h.me.cr hc 0 th,h.fr.call h.me.i.n.own h1 th c⟩
theorem lY.rounds {T:Nat}:∀ (m:Nat) {N:Nat} {P:PlS},lY N T P->N+m*T<999990->lY (N+m*T) T (PlS.rounds m P)
 | 0,N,P,h,_=>by rw [Nat.zero_mul];exact h
 | m+1,N,P,h,hN=>by
   have e:(m+1)*T=m*T+T:=Nat.succ_mul m T;have h1:=(Tf h.me h.fr.iy (by omega)).1;have h2:=lY.rounds m (N:=N+T) (P:=P.round) ⟨h1,h.fr.round⟩ (by omega);rw [show N+(m+1)*T=N+T+m*T by omega];exact h2
theorem lY.mono {N M T:Nat} {P:PlS} (h:lY N T P) (hm:N<=M):lY M T P:=⟨h.me.mono hm,h.fr⟩
theorem q51 {N:Nat} {L:Lay} {pb sb T:Nat} {P:PlS} {g:List ak} (h:qc N L pb sb P g) (hf:lY N T P) (h1:1<=T) (hN:N<999990) (n c i d p:Int) (hw:Q4.wf ⟨c,i,d,p⟩) :
 ∃ P',lY (N+1) T P'/\Qa prog 65 #[Qb pb,(fG.mk 1 n c i d p).val] [g] fun e gs=>∃ g',e=WN (WQ #[])/\qc (N+1) L pb sb P' g'/\gs=[g']:=by
 cases ho:fG.ok ⟨1,n,c,i,d,p⟩ with
 | false=>exact ⟨P,hf.mono (by omega),(q6t h 1 n c i d p ho).mono fun e gs ⟨a,b⟩=>⟨g,a,h.mono (by omega),b⟩⟩
 | true=>exact ⟨_,hf.call h1 n hw,qya h hN n c i d p ho hw⟩
theorem q1w {N:Nat} {L:Lay} {pb sb T:Nat} {P:PlS} {g:List ak} (h:qc N L pb sb P g) (hf:lY N T P) (m:Nat) (hm:m<=3) (hT:T<=9) (hN:N+27<999990) :
 ∃ P',lY (N+27) T P'/\Qa prog 65 #[Qb pb,(fG.mk 4 m 0 0 0 0).val] [g] fun e gs=>∃ g',e=WN (WQ #[])/\qc (N+27) L pb sb P' g'/\gs=[g']:=by
 have h1:m*T<=27:=Nat.mul_le_mul hm hT;exact ⟨_,(hf.rounds m (by omega)).mono (by omega),(qpz h hf.fr.iy m (by omega) (by omega) 0 0 0 0 (q9k m (by omega))).mono fun e gs ⟨g',a,b,c⟩=>⟨g',a,b.mono (by omega),c⟩⟩
theorem qth {N:Nat} {L:Lay} {pb sb T:Nat} {P:PlS} {g:List ak} (h:qc N L pb sb P g) (hf:lY N T P) (hT:T<=9) (hN:N<=4200) :
 ∃ (P':PlS) (n:Int),P'.S.idle=true/\P'.dJ+2<=2*T/\Qa prog 67 #[Qb pb] [g] fun e gs=>∃ g',e=WN (WK WL n)/\qc 999989 L pb sb P' g'/\gs=[g']:=by
 cases hi:P.S.idle with
 | true=>exact ⟨P,0,hi,hf.fr.dJ,(qnm h (by omega) hi).mono fun e gs ⟨g',a,b,c⟩=>⟨g',a,b.mono (by omega),c⟩⟩
 | false =>
   obtain ⟨p0,p1⟩:=P5 hf.me;obtain ⟨B,hB⟩:=Int.eq_ofNat_of_zero_le p0;have hB9:B+1<=73849:=by omega
   have hm:(B+1)*T<=73849*9:=Nat.mul_le_mul hB9 hT;obtain ⟨k0,k1,k2,k3,k4⟩:=RJ B hf.me hf.fr.iy (by omega) (by omega) hi;have hk:k0*T<=73849*9:=Nat.mul_le_mul (by omega) hT;exact ⟨_,k0,k4,(hf.fr.rounds k0).dJ,(MV h hf.fr.iy k1 (by omega) (by omega) k3 k4).mono fun e gs ⟨g',a,b,c⟩=>⟨g',a,b.mono (by omega),c⟩⟩
theorem zbg {p q:Int} {L:Lay} {pb sb:Nat} {g:List ak} (h:qc 0 L pb sb (nX (Yq p q)) g):lY 0 (4+1+(1+max 0 q % 4)).toNat (nX (Yq p q)):=by
 obtain ⟨mb,gS,gM,hi,_⟩:=h;have h1:(Yq p q).cap<=12:=by show 1+max 0 q % 12<=12;omega
 have h2:(Yq p q).ring<=7:=by show 1+max 0 q % 7<=7;omega
 refine ⟨me0 (Yq p q) (Mc p q) rfl h1 h2 rfl (zbn hi.sv),⟨fun t n e=>?_,WZ (Vq p q),?_⟩⟩
 ·have e:none=some n:=e
  cases e
 ·show 0+2<=2*(4+1+(1+max 0 q % 4)).toNat
  omega
theorem playFair_law (p q:Int) (hp:0<=p/\p<=255) (hq:0<=q/\q<=255) (ua:Option Addr) (ca:Nat) (A:List Int) (w:World) (ha:Gd w ua A) (hle:A.length<=ca) (OO:ca<=9223372036854775807) :
 Calls prog 10 #[.int .u8 p,.int .u8 q,.slice ua A.length ca] w fun e w'=>e=WN (.bool true)/\Below w.heap.size w w':=by
 have HT:=Vh (TG.DX (w:=w));obtain ⟨la,hla⟩:∃ la,A.length=la:=⟨_,rfl⟩;have HL:=Vh hla;have HA:=Vh ha;rw [hla] at hle |-;clear hla ha;by_cases hbig:900<la
 ·clear hp hq HA
  go_enter func10,ntmps10
  go_wp2_with fail
  refine Qa.run UC HT [] ?_
  rintro e w1 gs ⟨rfl,rfl⟩ HT;simp only [PU] at HT;go_wp2
  go_ret
  exact ⟨rfl,HT.bel⟩
 have hch:rz la<=150:=by unfold rz;omega
 obtain ⟨C,hC⟩:∃ C,rz la=C:=⟨_,rfl⟩;have Az:=Vh (show ∀ (H:GH) w1,TG [] w H w1->_ from fun H w1 T=>qx5 ua ca A (by rw [HL.out];omega) (by rw [HL.out];exact hle) OO w1 (qo1 HA T));rw [HL.out,hC] at Az;rw [hC] at hch;clear hC HA;have o7:=Vh (UZ p q (by omega) (by omega));have lh:=Vh (show Qa prog 63 #[.agg (Yq p q).cells] [] fun e gs=>∃ L pb sb g,e=WN (WQ #[Qb pb,WK WL 0])/\qc 0 L pb sb (nX (Yq p q)) g/\gs=[g] from QL _ (Mc p q));have kG:=Vh (Vq p q);have Cu:=Vh (show ∀ L pb sb g,qc 0 L pb sb (nX (Yq p q)) g->lY 0 (4+1+(1+max 0 q % 4)).toNat (nX (Yq p q)) from fun L pb sb g h=>zbg h);obtain ⟨T,hT⟩:∃ T:Nat,(T:Int)=4+1+(1+max 0 q % 4):=⟨(4+1+(1+max 0 q % 4)).toNat,by omega⟩;have Dp:T<=9:=by omega
 have hT1:1<=T:=by omega
 rw [show (4+1+(1+max 0 q % 4)).toNat=T by omega] at kG Cu;have si:=Vh (show (Yq p q).cO=4/\(Yq p q).wk=1+max 0 q % 4 from ⟨rfl,rfl⟩);generalize Yq p q=c at o7 lh kG Cu si;obtain ⟨sh,cap,ring,room,wk,cO⟩:=c;simp only [Cfg.cells] at o7 lh si;generalize nX _=P0 at lh kG Cu;have FB:=Vh (show (cO+1+wk=T/\T<=9/\1<=T)/\(0<=cO/\cO<=4/\0<=wk/\wk<=4)/\C<=150 from ⟨⟨by have:=si.out;omega,Dp,hT1⟩,by have:=si.out;omega,hch⟩);clear kG si hT Dp hT1 hle OO hch;obtain ⟨hp0,hp1⟩:=hp;obtain ⟨hq0,hq1⟩:=hq;go_enter func10,ntmps10
 go_wp2_with fail
 refine Qa.run UC HT [] ?_
 rintro e w1 gs ⟨rfl,rfl⟩ HT;simp only [PU] at HT;go_wp2_with fail
 refine Qa.run o7 HT [] ?_
 rintro e w1 gs ⟨rfl,rfl⟩ HT;simp only [PU] at HT;go_wp2_with fail
 obtain ⟨cb,hcb⟩:∃ cb,w1.heap.size=cb:=⟨_,rfl⟩;go_wp2_with fail
 refine Qa.run lh (HT.alloc (k:=cb) hcb.symm 30 #[WK WL sh,WK WL cap,WK WL ring,WK WL room,WK WL wk,WK WL cO]) [] ?_
 rintro e w1 gs ⟨L1,pb1,sb1,g1,rfl,zI,rfl⟩ HT;simp only [PU] at HT;rw [hcb];clear hcb;have xI:=Vh zI;have Ol:=Vh (Cu.out _ _ _ _ zI);clear zI Cu lh o7 hp0 hp1 hq0 hq1;go_wp2_with fail
 refine (Lp (Az _ _ HT) HT [] rfl rfl).mono ?_
 rintro e w1 ⟨gs,⟨v,es,ge,rfl,hel,hes,hrw,rfl⟩,Ta⟩;simp only [PU] at Ta;have HT:=Vh Ta;obtain ⟨av,cpl,hv⟩:=Q1.val hrw;have HVV:=Vh hv;rw [hv] at hrw;subst hv;have HRW:=Vh hrw;have Co:=Vh hes;have yA:=Vh hel;clear hrw hes hel Ta Az;go_wp2_with fail
 have T1:=HT.out
 go_loopw [11] (fun i wr=>∃ (k:Nat) (P:PlS) (ga:List ak),k<=C/\i=WK WL k/\qc (28*k) L1 pb1 sb1 P ga/\lY (28*k) T P/\TG [] w [[cl cb 30 #[WK WL sh,WK WL cap,WK WL ring,WK WL room,WK WL wk,WK WL cO]],ga,ge] wr) (fun i _=>C+1 - (intOf i).toNat)
 case atStart=>exact ⟨0,P0,g1,XT _,rfl,xI,Ol,T1⟩
 case round =>
  obtain ⟨k,P,ga,hk,rfl,OW,hfp,T2⟩:=hrel;obtain ⟨⟨hcf,Dp,hT1⟩,⟨cc0,cc1,cw0,cw1⟩,hch⟩:=FB.out;have HT:=Vh T2;have C4:=Vh OW;have Iy:=Vh hfp;clear T1 T2 OW hfp xI Ol;by_cases hlt:k<C
  ·obtain ⟨e,FV⟩:∃ e,es[k]?=some e:=⟨_,WU (by rw [yA.out];exact hlt)⟩
   have HEK:=Vh FV;obtain ⟨b,off,cp,hv,hb,c0,c1,c2,c3,c4,c5⟩:=Ps HRW HT 2 rfl FV yA;obtain ⟨rfl,rfl⟩:av=some ⟨b,off,none⟩/\cpl=cp:=by cases hv;exact ⟨rfl,rfl⟩
   obtain ⟨⟨n0,n1⟩,⟨i0,i1⟩,⟨d0,d1⟩,p0,p1⟩:=Co.out e (XH FV);obtain ⟨ek,en,ec,ei,ed,ep⟩:=e;simp only at c0 c1 c2 c3 c4 c5 n0 n1 i0 i1 d0 d1 p0 p1;clear hv FV;by_cases h1:ek=1
   ·subst h1
    obtain ⟨P2,hf2,hd2⟩:=q51 C4 Iy hT1 (by omega) en ec ei ed ep ⟨⟨i0,by show ei < _;omega⟩,⟨d0,by show ed < _;omega⟩,p0,by show ep < _;omega⟩;have HD2:=Vh hd2;have sD:=Vh hf2;obtain ⟨m,hm,hm3⟩:∃ m:Nat,en % 4=m/\m<=3:=⟨(en % 4).toNat,by omega,by omega⟩;clear hd2 hf2 i0 i1 d0 d1 p0 p1;simp only [fG.val] at HD2;go_wp2_with fail
    refine Qa.run (zbs 1 en ec ei ed ep) (HT) [] ?_
    rintro e w1 gs ⟨rfl,rfl⟩ HT;simp only [PU] at HT;clear c0 c1 c2 c3 c4 c5 hb;go_wp2_with fail
    refine Qa.run HD2 HT [1] ?_
    rintro e w1 gs ⟨g2,rfl,hg2,rfl⟩ HT;simp only [PU] at HT;obtain ⟨P3,hf3,hd3⟩:=q1w hg2 sD m hm3 Dp (by omega);have HD3:=Vh hd3;have HF3:=Vh hf3;simp only [fG.val] at HD3;obtain ⟨b,off,cp,hv,hb,c0,c1,c2,c3,c4,c5⟩:=Ps HRW HT 2 rfl HEK yA;cases hv
    simp only at c1;clear hd3 hf3 hg2 HD2 sD c0 c2 c3 c4 c5;go_wp2_with fail
    refine Qa.run HD3 HT [1] ?_
    rintro e w1 gs ⟨g3,rfl,hg3,rfl⟩ HT;simp only [PU] at HT;have C4:=Vh hg3;clear hg3 c1 hb;go_wp2
    first | go_roundw | refine ⟨?rel,?measure⟩ | ((repeat apply WY);refine ⟨⟨?rel,rfl⟩,?measure⟩)
    case rel=>exact ⟨k+1,P3,g3,by omega,by go_num,C4.mono (by omega),HF3.mono (by omega),HT⟩
    case measure=>simp [intOf];omega
   ·have hq:(ek == 1)=false:=beq_eq_false_iff_ne.2 h1
    go_wp2
    first | go_roundw | refine ⟨?rel,?measure⟩ | ((repeat apply WY);refine ⟨⟨?rel,rfl⟩,?measure⟩)
    case rel=>exact ⟨k+1,P,ga,by omega,by go_num,C4.mono (by omega),Iy.mono (by omega),HT⟩
    case measure=>simp [intOf];omega
  ·obtain ⟨P2,n2,hi2,hl2,hd2⟩:=qth C4 Iy Dp (by omega)
   have HD2:=Vh hd2;have HL2:=Vh hl2;have HI2:=Vh hi2;clear hd2 hl2 hi2;go_wp2_with fail
   refine Qa.run HD2 HT [1] ?_
   rintro e w1 gs ⟨g2,rfl,hg2,rfl⟩ HT;simp only [PU] at HT;have fM:=Vh (Te hg2);have hid:=Hy hg2 (by omega);rw [HI2.out] at hid;have sG:=Vh hid;clear hg2 hid;obtain ⟨b4,b5⟩:=HT.c2 0 0 4 5;simp only [aT] at b4 b5;have bI:=HT.l 0 0;simp only [] at bI;go_wp2_with fail
   refine Qa.run fM HT [1] ?_
   rintro e w1 gs ⟨rfl,rfl⟩ HT;simp only [PU] at HT;go_wp2_with fail
   refine Qa.run sG HT [1] ?_
   rintro e w1 gs ⟨g3,rfl,hg3,rfl⟩ HT;simp only [PU] at HT;have dR:=Vh (qyb hg3);have hdl:decide ((P2.dJ:Int)<=2*(T:Int) - 1)=true:=decide_eq_true (by have:=HL2.out;omega);clear hg3;go_wp2_with fail
   refine Qa.run dR HT [1] ?_
   rintro e w1 gs ⟨rfl,rfl⟩ HT;simp only [PU] at HT;go_wp2
   go_ret
   exact ⟨rfl,(HT.p []).bel⟩
end
end Go.Proofs.YtcneeepdclgdcaaGreat
