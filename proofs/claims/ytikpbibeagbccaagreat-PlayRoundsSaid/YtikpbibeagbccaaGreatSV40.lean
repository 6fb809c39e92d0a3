import Derived.Test.YtikpbibeagbccaaGreatSV39
import Derived.Test.YtikpbibeagbccaaGreatSV18
set_option maxRecDepth 100000
set_option maxHeartbeats 4000000
namespace Go.Proofs.YtikpbibeagbccaaGreat
set_option linter.unusedVariables false
set_option linter.unusedSimpArgs false
open Go.Proofs.Tryz
section
open Go.RowKit Go.Shelf
attribute [local go_sem] Oper.semAt_some
def PlS.thr (P:PlS):Nat:=P.S.own.length+P.S.crew.length
theorem qkq (S:SvS) (i:Int):(S.stepS i).1.own=S.own∧(S.stepS i).1.crew.length=S.crew.length:=by
 unfold SvS.stepS;split
 ·exact ⟨rfl,rfl⟩
 ·split
  ·next t _ =>
   cases h:t.2 with
   | job a=>exact ⟨rfl,rfl⟩
   | wkr i=>exact ⟨rfl,List.length_set⟩
  ·exact ⟨rfl,rfl⟩
theorem qnp (P:PlS) (a:Nat):(P.step a).thr=P.thr:=by
 obtain ⟨h1,h2⟩:=qkq P.S a;unfold PlS.step PlS.thr;split
 ·show ((P.S.stepS a).1.own.length+(P.S.stepS a).1.crew.length)=_
  rw [h1,h2]
 ·show ((P.S.stepS a).1.own.length+(P.S.stepS a).1.crew.length)=_
  rw [h1,h2]
theorem qjx:∀ (l:List Nat) (P:PlS),(l.foldl PlS.step P).thr=P.thr
 | [],_=>rfl
 | a::l,P=>by rw [List.foldl_cons,qjx l,qnp]
theorem q8:∀ (n:Nat) (P:PlS),(PlS.rounds n P).thr=P.thr
 | 0,_=>rfl
 | n+1,P=>by rw [PlS.rounds_next];unfold PlS.round;rw [qjx,q8 n]
theorem qos (P:PlS):P.S.mays.length≤P.thr:=by
 have h1:=qeb P.S.own 0;have h2:=qho P.S.crew P.S.own.length 0;refine Nat.le_trans (m:=P.S.ths.length) ?_ ?_
 ·unfold SvS.mays
  rw [List.length_map];exact List.length_filter_le _ _
 ·unfold SvS.ths PlS.thr
  rw [List.length_append];omega
section
variable {N:Nat} {L:Lay} {pb sb:Nat} {P:PlS} {g:List Blk}
theorem qcl {h H:GH} {w w1:World} (T:TG h w H w1) (i:Nat) (hi:H.getD i []=g) (hp:Zl N L pb sb P g):w1.cell? ⟨pb,0,none⟩=some (Qb sb)∧pb<w1.heap.size:=by
 obtain ⟨mb,gS,gM,_,rfl⟩:=hp;exact ⟨T.cell i 0 (b:=pb) (by rw [hi];rfl) 0,T.lt i 0 (p:=(pb,_)) (by rw [hi];rfl)⟩
theorem q3b (h:Zl N L pb sb P g) (hN:N<999998):Qa prog 18 #[Qb sb] [g] fun e gs =>
 ∃ v gl g',e=.returned v∧Qr 3 1 v P.S.mays.length (qd7 P.S.mays) gl∧Zl N L pb sb P g'∧gs=[g',gl]:=by
 obtain ⟨mb,gS,gM,hi,rfl⟩:=h;intro w hw;have T:=(TG.refl hw).sum2 (H':=[plB pb sb mb P.cli P.steps P.lon,gS,gM]);refine (Qa.use (q4k hi.sv hN) T [1] rfl rfl).mono ?_
 rintro e w' ⟨gs,⟨v,gl,g',he,hr,hs,rfl⟩,T'⟩;exact ⟨_,⟨v,gl,_,he,hr,⟨mb,g',gM,⟨hs,hi.mp,hi.pn⟩,rfl⟩,rfl⟩,TG.sum2 (H:=[plB pb sb mb P.cli P.steps P.lon,g',gM,gl]) T'⟩
theorem qye (h:Zl N L pb sb P g) (hN:N<999998):Qa prog 17 #[Qb sb] [g] fun e gs=>∃ g',e=.returned (.bool P.S.idle)∧Zl N L pb sb P g'∧gs=[g']:=by
 obtain ⟨mb,gS,gM,hi,rfl⟩:=h;intro w hw;have T:=(TG.refl hw).sum2 (H':=[plB pb sb mb P.cli P.steps P.lon,gS,gM]);refine (Qa.use (q48 hi.sv hN) T [1] rfl rfl).mono ?_
 rintro e w' ⟨gs,⟨g',he,hs,rfl⟩,T'⟩;exact ⟨_,⟨_,he,⟨mb,g',gM,⟨hs,hi.mp,hi.pn⟩,rfl⟩,rfl⟩,TG.sum2 (H:=[plB pb sb mb P.cli P.steps P.lon,g',gM]) T'⟩
theorem qag (h:Zl N L pb sb P g) (hN:N<999998):Qa prog 35 #[Qb sb] [g] fun e gs=>∃ v gv g',e=.returned v∧trG v P.S.z.x.tr gv∧Zl N L pb sb P g'∧gs=[g',gv]:=by
 obtain ⟨mb,gS,gM,hi,rfl⟩:=h;intro w hw;have T:=(TG.refl hw).sum2 (H':=[plB pb sb mb P.cli P.steps P.lon,gS,gM]);refine (Qa.use (q23 hi.sv hN) T [1] rfl rfl).mono ?_
 rintro e w' ⟨gs,⟨v,gv,g',he,hv,hs,rfl⟩,T'⟩;exact ⟨_,⟨v,gv,_,he,hv,⟨mb,g',gM,⟨hs,hi.mp,hi.pn⟩,rfl⟩,rfl⟩,TG.sum2 (H:=[plB pb sb mb P.cli P.steps P.lon,g',gM,gv]) T'⟩
theorem qzh (h:Zl N L pb sb P g) (hN:N<999998):Qa prog 39 #[Qb sb] [g] fun e gs=>∃ v gv g',e=.returned v∧Qr 82 4 v P.S.z.lg.length (Jc P.S.z.lg) gv∧Zl N L pb sb P g'∧gs=[g',gv]:=by
 obtain ⟨mb,gS,gM,hi,rfl⟩:=h;intro w hw;have T:=(TG.refl hw).sum2 (H':=[plB pb sb mb P.cli P.steps P.lon,gS,gM]);refine (Qa.use (bLog hi.sv hN) T [1] rfl rfl).mono ?_
 rintro e w' ⟨gs,⟨v,gv,g',he,hv,hs,rfl⟩,T'⟩;exact ⟨_,⟨v,gv,_,he,hv,⟨mb,g',gM,⟨hs,hi.mp,hi.pn⟩,rfl⟩,rfl⟩,TG.sum2 (H:=[plB pb sb mb P.cli P.steps P.lon,g',gM,gv]) T'⟩
theorem qxu (h:Zl N L pb sb P g) (hN:N<999998) (no:Int):Qa prog 20 #[Qb sb,.int .i64 no] [g] fun e gs =>
 ∃ v gv g',e=.returned (.tuple #[.agg ((P.S.ansS no).cells v),.int .i64 (P.S.ansS no).code])∧Qr 30 1 v (P.S.ansS no).left.length (qgf (P.S.ansS no).left) gv∧Zl N L pb sb P g'∧gs=[g',gv]:=by
 obtain ⟨mb,gS,gM,hi,rfl⟩:=h;intro w hw;have T:=(TG.refl hw).sum2 (H':=[plB pb sb mb P.cli P.steps P.lon,gS,gM]);refine (Qa.use (q03 hi.sv hN no) T [1] rfl rfl).mono ?_
 rintro e w' ⟨gs,⟨v,gv,g',he,hv,hs,rfl⟩,T'⟩;exact ⟨_,⟨v,gv,_,he,hv,⟨mb,g',gM,⟨hs,hi.mp,hi.pn⟩,rfl⟩,rfl⟩,TG.sum2 (H:=[plB pb sb mb P.cli P.steps P.lon,g',gM,gv]) T'⟩
theorem qjt (h:Zl N L pb sb P g):∀ t∈P.S.mays,t<1000000:=by
 obtain ⟨mb,gS,gM,hi,rfl⟩:=h;exact (qiv hi.sv).2
theorem qok:Qa prog 55 #[Qb pb] [] fun e gs=>∃ bx,e=.returned (.func (.func 75) #[] #[Qb bx])∧gs=[[cl bx 55 #[Qb pb]]]:=by
 refine GO fun w HT=>?_
 go_enter func55,ntmps55
 go_wp2
 go_ret
 exact ⟨_,⟨_,rfl,rfl⟩,HT.out.alloc rfl _ _⟩
end
def itRd (N0 T:Nat) (L:Lay) (pb sb bx:Nat) (P0:PlS):ItZ where
 σ:=Nat
 O k Oy:=∃ g,Zl (N0+k*T) L pb sb (PlS.rounds k P0) g∧Oy=[g,[cl bx 55 #[Qb pb]]]
 step k x k':=x=#[.int .i64 ((k:Int)+1)]∧k'=k+1
 fin _:=False
theorem qf2 (L:Lay) (pb sb bx:Nat) {P0:PlS} {N0 T bound:Nat} (hT:P0.thr≤T) (hbd:bound≤1000000) (hN:N0+bound*T<999990):q17 prog 75 #[Qb bx] (itRd N0 T L pb sb bx P0) (fun (k:Nat)=>k<bound) (0:Nat):=by
 intro ly J Jx hok hY H0 O0 W hJ0 hO hH;obtain ⟨g0,hg0,rfl⟩:=hO;have HT0:=Vh (TG.refl hH);have HJ:=Vh hJ0;have HG0:=Vh hg0;have HOK:=Vh hok;have HY:=Vh hY;clear hH hY hok hJ0 hg0;refine (callsIn_wide (n:=9)).1 (callsIn_of_wp func75 rfl trivial ?_ rfl)
 simp only [ntmps75,List.size_toArray,List.length_cons,List.length_nil,Nat.reduceAdd,Nat.reduceSub,Array.replicate_succ,Array.replicate_zero,List.push_toArray,List.append_toArray,List.nil_append,List.cons_append];gi_wp2
 gi_loopw [3] (fun i wr=>∃ (k:Nat) (H:GH) (g:List Blk),i=.int .i64 ((k:Int)+1)∧J k H∧Zl (N0+k*T) L pb sb (PlS.rounds k P0) g∧TG (H0++[g0,[cl bx 55 #[Qb pb]]]) W (H++[g,[cl bx 55 #[Qb pb]]]) wr) (fun i _=>bound+2 - (intOf i).toNat)
 case atStart=>exact ⟨0,H0,g0,rfl,HJ.out,HG0.out,HT0.out⟩
 case round =>
  obtain ⟨k,H,g,rfl,hj,hg,T1⟩:=hrel;clear HJ HG0 HT0;have hkb:k<bound:=HOK.out k H hj
  have hkT:N0+k*T+T<999990:=by
   have h1:(k+1)*T≤bound*T:=Nat.mul_le_mul_right _ hkb;rw [Nat.add_mul,Nat.one_mul] at h1;omega
  have HT1:=Vh T1;have HJ:=Vh hj;have HL:=Vh (TG.refl T1.has.right);have HTHR:=Vh (show (PlS.rounds k P0).S.mays.length≤T from Nat.le_trans (qos _) (by rw [q8];exact hT));have HNXT:=Vh (PlS.rounds_next k P0);obtain ⟨PK,hPK⟩:∃ PK,PlS.rounds k P0=PK:=⟨_,rfl⟩;rw [hPK] at hg HTHR HNXT;have HMY:=Vh (q3b hg (by omega));obtain ⟨p0,ltp⟩:=qcl HL.out 0 rfl hg;have c0:=HL.out.cell 1 0 rfl 0;have ltb:=HL.out.lt 1 0 rfl;simp only [GE2] at c0 ltb;obtain ⟨NK,hNK⟩:∃ NK,N0+k*T=NK:=⟨_,rfl⟩;rw [hNK] at hkT HMY hg;have HNK:=Vh hNK;have HPK:=Vh hPK;clear T1 hj hg hPK hNK;gi_wp2
  refine ⟨trivial,(callsIn_wide (n:=8)).2 ((Qa.use HMY.out HL.out [0] rfl rfl).mono ?_)⟩
  rintro e w1 ⟨gs,⟨v,gl,g1,rfl,hrow,hg1,rfl⟩,Ta⟩;simp only [PU] at Ta;have hmt:=qjt hg1;obtain ⟨av,cap,hv⟩:=Qr.val hrow;subst hv;have HROW:=Vh hrow;have HMT:=Vh hmt;have HG1:=Vh hg1;have HL:=Vh Ta;clear Ta hrow hg1 p0 ltp c0 ltb hmt;obtain ⟨M,hM⟩:∃ M,PK.S.mays.length=M:=⟨_,rfl⟩;have HMM:=Vh hM;have hMT:M≤T:=by rw [← hM];exact HTHR.out
  clear hM;rw [HMM.out];gi_wp2
  gi_loopw [14] (fun i wr2=>∃ (j:Nat) (g2:List Blk),j≤M∧i=.int .i64 j∧Zl (NK+j) L pb sb ((PK.S.mays.take j).foldl PlS.step PK) g2∧TG [g,[cl bx 55 #[Qb pb]]] wr [g2,[cl bx 55 #[Qb pb]],gl] wr2) (fun i _=>M+1 - (intOf i).toNat)
  case atStart=>exact ⟨0,g1,Nat.zero_le _,rfl,HG1.out,HL.out⟩
  case round =>
   obtain ⟨j,g2,hjM,rfl,hg2,T2⟩:=hrel;clear HL HG1;have c0:=T2.cell 1 0 rfl 0;have ltb:=T2.lt 1 0 rfl;simp only [GE2] at c0 ltb;by_cases hlt:j<M
   ·obtain ⟨t,ht⟩:∃ t,PK.S.mays[j]?=some t:=⟨_,List.getElem?_eq_getElem (by rw [HMM.out];exact hlt)⟩
    have ht6:=HMT.out t (List.mem_of_getElem? ht);obtain ⟨rb,cp,hv,hb⟩:=Jv HROW.out T2 2 rfl (by simp) (k:=j) (x:=.int .i64 (t:Int)) (by unfold qd7;rw [List.getElem?_map,ht];rfl);rw [HMM.out] at hv;obtain ⟨rfl,rfl⟩:av=some ⟨rb,0,none⟩∧cap=cp:=by cases hv;exact ⟨rfl,rfl⟩
    have HT2:=Vh T2;have HST:=Vh (qx9 hg2 (by omega) t ht6)
    have HNX:=Vh (show (PK.S.mays.take (j+1)).foldl PlS.step PK=((PK.S.mays.take j).foldl PlS.step PK).step t by
     obtain ⟨h1,h2⟩:=List.getElem?_eq_some_iff.1 ht;rw [List.take_succ_eq_append_getElem h1,h2,List.foldl_append]
     rfl)
    clear T2 ht hv hg2;gi_wp2
    refine ⟨trivial,(callsIn_wide (n:=8)).2 ((Qa.use HST.out HT2.out [0] rfl rfl).mono ?_)⟩
    rintro e w3 ⟨gs,⟨g3,rfl,hg3,rfl⟩,Ta⟩;simp only [PU] at Ta;have HX:=Vh (And.intro hg3 Ta);clear hg3 Ta hb c0 ltb;gi_wp2
    go_roundw
    case rel=>exact ⟨j+1,g3,by omega,by go_num,by rw [HNX.out];exact HX.out.1,HX.out.2⟩
    case measure=>simp [intOf];omega
   ·obtain rfl:j=M:=by omega
    have hfin:(PK.S.mays.take j).foldl PlS.step PK=PlS.rounds (k+1) P0:=by rw [List.take_of_length_le (Nat.le_of_eq HMM.out),HNXT.out];rfl
    rw [hfin] at hg2;have hg3:Zl (N0+(k+1)*T) L pb sb (PlS.rounds (k+1) P0) g2:=hg2.mono (by have:=HNK.out;rw [Nat.add_mul,Nat.one_mul];omega);have T3:=T2.pick [0,1] rfl;have T4:=HT1.out.trans (TG.frameL (T3.eq (H':=[g2,[cl bx 55 #[Qb pb]]]) rfl) HT1.out.has);have hy0:=HY.out k #[.int .i64 ((k:Int)+1)] (k+1) H [g2,[cl bx 55 #[Qb pb]]] _ HJ.out ⟨rfl,rfl⟩ ⟨g2,hg3,rfl⟩ T4.has;obtain ⟨fn,tmps,assign,body,hy,hR⟩:=X0 (n:=8) hy0;have HRR:=Vh hR;have HT4:=Vh T4;clear T2 T3 T4 hy0 hR hg3 hg2 hfin c0 ltb hjM hlt;gi_wp2
    refine HRR.out.mono ?_
    rintro e W' ⟨H',Oy',hT',⟨g3,hg3,rfl⟩,hj'⟩;have HT5:=Vh (HT4.out.trans hT');rcases hj' with ⟨rfl,hj'⟩ | ⟨rfl,hj'⟩
    ·have HJ2:=Vh (And.intro hj' hg3)
     clear hj' hg3 hT' hy;gi_wp2
     go_roundw
     case rel=>exact ⟨k+1,H',g3,by go_num,HJ2.out.1,HJ2.out.2,HT5.out⟩
     case measure=>simp [intOf];omega
    ·have HJ2:=Vh (And.intro hj' hg3)
     clear hj' hg3 hT' hy;gi_wp2
     refine bodyPost_ret (results_none rfl _ _ _) rfl ?_
     exact ⟨⟨_,rfl⟩,k+1,H',_,HT5.out,⟨g3,HJ2.out.2,rfl⟩,.inr HJ2.out.1⟩
section
variable {N:Nat} {L:Lay} {pb sb:Nat} {P:PlS} {g:List Blk}
theorem q18 (h:Zl N L pb sb P g) {T:Nat} (hT:P.thr≤T) (n:Nat) (hn:n≤1000000) (hN:N+n*T<999990):Qa prog 52 #[Qb pb,.int .i64 n] [g] fun e gs =>
 ∃ g',e=.returned (.tuple #[])∧Zl (N+n*T) L pb sb (PlS.rounds n P) g'∧gs=[g']:=by
 by_cases h0:n=0
 ·subst h0
  have HG:=Vh h;refine GO fun w HT=>?_
  clear h;refine Qu func52 rfl ?_
  simp only [ntmps52,List.size_toArray,List.length_cons,List.length_nil,Nat.reduceAdd,Nat.reduceSub,Array.replicate_succ,Array.replicate_zero,List.push_toArray,List.append_toArray,List.nil_append,List.cons_append];go_wp2
  exact qac (results_none rfl _ _ _) ⟨_,⟨g,rfl,by rw [Nat.zero_mul];exact HG.out,rfl⟩,HT.out.alloc0 _⟩
 ·have HI:=Vh (show ∀ bx,_ from fun bx=>qf2 L pb sb bx (P0:=P) (N0:=N) (T:=T) (bound:=n) hT hn hN)
  have eg:=enters_of func75 (P:=prog) (by kernel_rfl) rfl;have HG:=Vh h;have hn1:1≤n:=by omega
  refine GO fun w HT=>?_
  clear h h0;refine Qu func52 rfl ?_
  simp only [ntmps52,List.size_toArray,List.length_cons,List.length_nil,Nat.reduceAdd,Nat.reduceSub,Array.replicate_succ,Array.replicate_zero,List.push_toArray,List.append_toArray,List.nil_append,List.cons_append];go_wp2_with fail
  obtain ⟨nb,hnb⟩:∃ nb,w.heap.size=nb:=⟨_,rfl⟩;have HT:=Vh (HT.out.alloc (k:=nb) hnb.symm 3 #[.int .i64 n]);rw [hnb];clear hnb;go_wp2_with fail
  refine Qa.run (qok) (HT.out) [] ?_
  rintro e w1 gs ⟨bx,rfl,rfl⟩ HT;simp only [PU] at HT;have T0:=HT.out.re (H':=[[cl nb 3 #[.int .i64 n]]]++[g,[cl bx 55 #[Qb pb]]]) (List.Perm.swap _ _ _ |>.flatten);go_wp2_with fail
  refine qjj (H0:=[[cl nb 3 #[.int .i64 n]]]) (O0:=[g,[cl bx 55 #[Qb pb]]]) rfl eg (HI.out bx) ?hps T0 ⟨g,by rw [Nat.zero_mul];exact HG.out,rfl⟩ (fun (k:Nat) H=>k<n∧H=[[cl nb 3 #[.int .i64 n]]]) (fun (k:Nat) cd H=>cd=.ret∧k=n∧H=[[cl nb 3 #[.int .i64 n]]]) ?h0 ?hT ?hbody ?hdone ?hstop
  case hps=>rintro s x s' ⟨rfl,_⟩;rfl
  case h0=>exact ⟨by omega,rfl⟩
  case hT=>exact fun s H h=>h.1
  case hbody =>
   rintro (k:Nat) x (k':Nat) H Oy W ly ⟨hk,rfl⟩ ⟨rfl,rfl⟩ ⟨g2,hg2,rfl⟩ hH;have HG2:=Vh hg2;have HH:=Vh hH;clear hg2 hH T0 HG;refine Q1 (n:=9) ?_
   gi_wp2
   refine ⟨_,TG.refl HH.out,fun Wb hb=>?_⟩
   have c0:=(TG.refl hb).cell 0 0 rfl 0;have ltb:=(TG.refl hb).lt 0 0 rfl;simp only [GE2] at c0 ltb;have HT:=Vh (TG.refl hb);clear hb HH;by_cases hkn:k+1=n
   ·have hq:((k:Int)+1 == (n:Int))=true:=by rw [beq_iff_eq];omega
    refine Q1 (n:=9) ?_
    gi_wp2
    exact ⟨_,⟨_,_,rfl,⟨rfl,hkn,rfl⟩,⟨g2,HG2.out,rfl⟩⟩,HT.out⟩
   ·have hq:((k:Int)+1 == (n:Int))=false:=by rw [beq_eq_false_iff_ne];omega
    refine Q1 (n:=9) ?_
    gi_wp2
    exact ⟨_,⟨_,_,rfl,⟨by omega,rfl⟩,⟨g2,HG2.out,rfl⟩⟩,HT.out⟩
  case hdone=>intro s H O W D h;exact h.elim
  case hstop =>
   rintro (k:Nat) cd H O W D ⟨rfl,rfl,rfl⟩ ⟨g2,hg2,rfl⟩ hT;have T3:=hT.turnLast (.deferred none);refine wp_ret (Xs hT.has.last (results_none rfl _ _ _) ?_)
   exact ⟨_,⟨g2,rfl,hg2,rfl⟩,(T3.pick [1] rfl)⟩
end
end
end Go.Proofs.YtikpbibeagbccaaGreat
