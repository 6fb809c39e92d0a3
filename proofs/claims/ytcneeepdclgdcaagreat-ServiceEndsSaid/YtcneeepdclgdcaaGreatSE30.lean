import Derived.Test.YtcneeepdclgdcaaGreatSE23
import Derived.Test.YtcneeepdclgdcaaGreatSE9
import Derived.Test.YtcneeepdclgdcaaGreatSE14
set_option maxRecDepth 100000
set_option maxHeartbeats 4000000
namespace Go.Proofs.YtcneeepdclgdcaaGreat
open Go.IntKind renaming u64->U1,i64->U4
open Go.Value renaming int->U2,agg->U3,tuple->U5,pointer->U8
open Go.Ending renaming returned->U6
open Go.World renaming alloc->U7
open _root_.List renaming map_append->U9,length_cons->UA,length->UB,size_toArray->UC,append_toArray->UF,length_map->UG,push_toArray->UH,cons_append->UI,length_nil->UJ,nil_append->UK,map_cons->UM,length_append->UN
open _root_.Array renaming replicate_succ->UD,replicate_zero->UE
open Go renaming wpQuiet_nil->UL,bodyPost_ret->UO,execOp->UQ
set_option linter.all false
open Go.Proofs.Tryz
section
open Go.RowKit Go.Shelf Go.Conc
theorem TG.setChan {h H:GH} {w w':World} (a:TG h w H w') (i:Nat) {c:Nat} {o:Obj} (hi:i<H.length) (hg:H.getD i []=[(c,o)]) (cap:Nat) (buf:Array Value) (cl:Bool) (s r:Nat) (tm:Bool) :
 TG h w (H.set i [(c,.chan cap buf cl s r tm)]) (w'.setChan c cap buf cl s r tm):=by
 have hl:=a.lt i 0 (p:=(c,o)) (by rw [hg];rfl);exact a.turn (pre:=[]) (post:=[]) (o':=.chan cap buf cl s r tm) (w'':=w'.setChan c cap buf cl s r tm) i hi hg (heap_setChan w' c cap buf cl s r tm hl) (fun k hk=>by simp only [World.setChan];rw [Array.getElem?_setIfInBounds_ne (fun e=>hk e.symm)]) (size_setChan _ _ _ _ _ _ _ _) rfl rfl rfl
theorem Dq (w:World):(zeroValue 63).run prog w=.ok (.agg #[U2 U1 0,U2 U1 0,U2 U1 0,U2 U1 0]) w:=by kernel_rfl
section
variable {pb:Nat} {p:Q2} {g:List ak}
theorem OC (hg:Zd pb p g) (v:Xj) (hr:p.ch.length<p.room):Qa prog 109 #[Qb pb,.agg v.vals.toArray] [g] fun e gs =>
 e=U6 (.bool true)/\∃ g',Zd pb { p with ch:=p.ch++[v] } g'/\gs=[g']:=by
 obtain ⟨cb,lb,hb,a,b,l,gl,h1,h2,rfl⟩:=hg;refine GO fun w HT=>?_
 have HT:=Vh (HT.out.m [X6 pb cb lb p,[(cb,.chan p.room (p.ch.map fun f=>U3 f.vals.toArray).toArray false a b false)],gl]);have H1:=Vh h1;have H2:=Vh h2;have c0:=HT.c 0 0 0;simp only [X6,az] at c0;have hch:=HT.obj 1 0 rfl;simp only [] at hch;have lt:=HT.l 0 0;simp only [] at lt;clear h1 h2;simp only [Xj.vals];refine Y7 func109 rfl ?_
 simp only [ntmps109,UC,UA,UJ,Nat.reduceAdd,Nat.reduceSub,UD,UE,UH,UF,UK,UI];refine Zq (Xl ?_)
 go_wp2
 have HT:=Vh (HT.out.a 63 #[U2 U1 v.id,U2 U1 v.gen,U2 U1 v.dl,U2 U1 v.tick]);clear c0 hch;generalize w.alloc _=w1 at HT |-;have c0:=HT.c 0 0 0;simp only [X6,az] at c0;obtain ⟨b0,b1,b2,b3⟩:=HT.c4 3 0 0 1 2 3;simp only [aN] at b0 b1 b2 b3;have hch:=HT.obj 1 0 rfl;simp only [] at hch;refine Zq (Xl ?_)
 go_wp2
 refine Zq ?_
 refine Jp (cases:=#[scase cb (.agg #[U2 U1 v.id,U2 U1 v.gen,U2 U1 v.dl,U2 U1 v.tick]) (.agg #[U2 U1 0,U2 U1 0,U2 U1 0,U2 U1 0])]) (blocking:=false) (shape:=.select) (v:=U5 #[goInt 0,.bool false]) (w1:=w1) (w':=w1.setChan cb p.room ((p.ch.map fun f=>U3 f.vals.toArray).toArray.push (.agg #[U2 U1 v.id,U2 U1 v.gen,U2 U1 v.dl,U2 U1 v.tick])) false (a+1) b false) rfl ?_ (fun fr cs es h=>step_lone_select_send_room h hch (by simpa using hr)) ?_
 ·have hz:=fun w=>Dq w
  simp [go_sem,UQ,scase,Act.eval,hz]
 ·have HT:=Vh (HT.out.setChan 1 (by simp) rfl p.room ((p.ch.map fun f=>U3 f.vals.toArray).toArray.push (.agg #[U2 U1 v.id,U2 U1 v.gen,U2 U1 v.dl,U2 U1 v.tick])) false (a+1) b false)
  generalize World.setChan _ _ _ _ _ _ _ _=w2 at HT |-;simp only [goInt];go_wp2
  refine Xl ?_
  go_wp2
  go_ret
  exact ⟨_,⟨rfl,_,⟨cb,lb,hb,a+1,b,l,gl,H1,H2,rfl⟩,rfl⟩,(HT.p [0,1,2]).eq (by simp [lI,Xj.vals])⟩
theorem qo9 (hg:Zd pb p g) (v:Xj) (hr:p.room<=p.ch.length):Qa prog 109 #[Qb pb,.agg v.vals.toArray] [g] fun e gs =>
 e=U6 (.bool false)/\∃ g',Zd pb p g'/\gs=[g']:=by
 obtain ⟨cb,lb,hb,a,b,l,gl,h1,h2,rfl⟩:=hg;refine GO fun w HT=>?_
 have HT:=Vh (HT.out.m [X6 pb cb lb p,[(cb,.chan p.room (p.ch.map fun f=>U3 f.vals.toArray).toArray false a b false)],gl]);have H1:=Vh h1;have H2:=Vh h2;have c0:=HT.c 0 0 0;simp only [X6,az] at c0;have hch:=HT.obj 1 0 rfl;simp only [] at hch;have lt:=HT.l 0 0;simp only [] at lt;clear h1 h2;simp only [Xj.vals];refine Y7 func109 rfl ?_
 simp only [ntmps109,UC,UA,UJ,Nat.reduceAdd,Nat.reduceSub,UD,UE,UH,UF,UK,UI];refine Zq (Xl ?_)
 go_wp2
 have HT:=Vh (HT.out.a 63 #[U2 U1 v.id,U2 U1 v.gen,U2 U1 v.dl,U2 U1 v.tick]);clear c0 hch;generalize w.alloc _=w1 at HT |-;have c0:=HT.c 0 0 0;simp only [X6,az] at c0;obtain ⟨b0,b1,b2,b3⟩:=HT.c4 3 0 0 1 2 3;simp only [aN] at b0 b1 b2 b3;have hch:=HT.obj 1 0 rfl;simp only [] at hch;refine Zq (Xl ?_)
 go_wp2
 refine Zq ?_
 refine Jp (cases:=#[scase cb (.agg #[U2 U1 v.id,U2 U1 v.gen,U2 U1 v.dl,U2 U1 v.tick]) (.agg #[U2 U1 0,U2 U1 0,U2 U1 0,U2 U1 0])]) (blocking:=false) (shape:=.select) (v:=U5 #[goInt (-1),.bool false]) (w1:=w1) (w':=w1) rfl ?_ (fun fr cs es h=>step_lone_select_send_full h hch (by simpa using hr)) ?_
 ·have hz:=fun w=>Dq w
  simp [go_sem,UQ,scase,Act.eval,hz]
 ·simp only [goInt]
  go_wp2
  refine Xl ?_
  go_wp2
  go_ret
  exact ⟨_,⟨rfl,_,⟨cb,lb,hb,a,b,l,gl,H1,H2,rfl⟩,rfl⟩,(HT.p [0,1,2]).eq (by simp [lI,Xj.vals])⟩
end
end
section
open Go.RowKit Go.Shelf
def Q2.put (p:Q2) (v:Xj):Q2 × Bool × Int :=
 if p.shut=true then (p,false,3)
 else if p.sp=[]/\p.ch.length<p.room then ({ p with ch:=p.ch++[v] },false,0)
 else ({ p with sp:=p.sp++[v],most:=max p.most (p.sp.length+1) },true,0)
theorem Py {lb hb:Nat} {l:List Nd} {g:List ak} (hg:Yr lb hb l g) (hn:l.length<=1000000000) (v:Xj) :
 Qa prog 339 #[Qb lb,.agg v.vals.toArray] [g] fun e gs=>∃ nb g',e=U6 (Qb nb)/\Yr lb hb (l++[⟨nb,v.vals⟩]) g'/\gs=[g']:=by
 have HP:=Vh (show ∀ nb,_ from fun nb=>qsv hg hn nb (U2 U1 v.id) (U2 U1 v.gen) (U2 U1 v.dl) (U2 U1 v.tick) (U8 none) (U8 none));refine GO fun w HT=>?_
 simp only [Xj.vals];clear hg hn;go_enter func339,ntmps339
 go_wp2_with fail
 obtain ⟨nb,hnb⟩:∃ nb,nb=w.heap.size+1:=⟨_,rfl⟩;have HT:=Vh ((HT.aT (.cells #[U2 U1 v.id,U2 U1 v.gen,U2 U1 v.dl,U2 U1 v.tick] 63)).alloc (k:=nb) (by rw [hnb];simp) 192 #[U2 U1 v.id,U2 U1 v.gen,U2 U1 v.dl,U2 U1 v.tick,U8 none,U8 none,U8 none]);rw [<- hnb];clear hnb;generalize U7 (U7 w _) _=w1 at HT |-;go_wp2_with fail
 refine Qa.run (HP nb) (HT) [0,1] ?_
 rintro e w1 gs ⟨rfl,g1,hg1,rfl⟩ HT;simp only [PU] at HT;have HG:=Vh hg1;clear hg1;go_wp2
 go_ret
 exact ⟨_,⟨nb,g1,rfl,HG,rfl⟩,HT.p [0]⟩
section
variable {pb:Nat} {p:Q2} {g:List ak}
theorem QU (hg:Zd pb p g) (hn:p.ch.length<=1000000/\p.sp.length<=1000000):Qd prog 45 #[Qb pb] [g] (U2 U4 ((p.ch.length:Int)+p.sp.length)):=by
 obtain ⟨cb,lb,hb,a,b,l,gl,h1,h2,rfl⟩:=hg
 have hll:l.length=p.sp.length:=by
  have:=congrArg UB h2;simpa using this
 refine GO fun w HT=>?_
 have HT:=Vh (HT.out.m [X6 pb cb lb p,[(cb,.chan p.room (p.ch.map fun f=>U3 f.vals.toArray).toArray false a b false)],gl]);have H1:=Vh h1;have H2:=Vh h2;have b1:=HT.obj 1 0 rfl;simp only [] at b1;have hlc:=fun m=>RF cb p.room _ false a b (w.drewN m) b1
 simp only [UC,UG] at hlc;have mW:=Vh (qv h1);rw [hll] at mW;obtain ⟨c0,c1⟩:=HT.c2 0 0 0 1;simp only [X6,az] at c0 c1;clear h1 h2 b1;generalize p.ch.length=n at *;generalize p.sp.length=m at *;obtain ⟨hn1,hn2⟩:=hn;go_enter func45,ntmps45
 go_wp2_with fail
 go_quiet ((first | (go_at_call 106;with_reducible exact Qd.quiet (mW.out) HT.out _ [2] rfl rfl)))
 have HT:=Vh (HT.out.drewN nq);go_wp2
 go_ret
 exact ⟨rfl,_,rfl⟩
theorem J8 (v:Xj):v.vals.toArray=#[U2 U1 v.id,U2 U1 v.gen,U2 U1 v.dl,U2 U1 v.tick]:=rfl
theorem qwz (hg:Zd pb p g) (v:Xj) (hn:p.sp.length<=1000000):Qa prog 327 #[Qb pb,.agg v.vals.toArray] [g] fun e gs =>
 e=U6 (U5 #[.bool (p.put v).2.1,U2 U4 (p.put v).2.2])/\∃ g',Zd pb (p.put v).1 g'/\gs=[g']:=by
 cases hs:p.shut with
 | true =>
   have he:p.put v=(p,false,3):=by unfold Q2.put;rw [if_pos hs]
   rw [he];obtain ⟨cb,lb,hb,a,b,l,gl,h1,h2,rfl⟩:=hg
   have hll:l.length=p.sp.length:=by
    have:=congrArg UB h2;simpa using this
   refine GO fun w HT=>?_
   have HT:=Vh (HT.out.m [X6 pb cb lb p,[(cb,.chan p.room (p.ch.map fun f=>U3 f.vals.toArray).toArray false a b false)],gl]);have H1:=Vh h1;have H2:=Vh h2;have c3:=HT.c 0 0 3;simp only [X6,hs,az] at c3;have lt:=HT.l 0 0;simp only [] at lt;rw [J8];clear h1 h2 he hs;go_enter func327,ntmps327
   go_wp2
   go_ret2
   exact ⟨_,⟨rfl,_,⟨cb,lb,hb,a,b,l,gl,H1,H2,rfl⟩,rfl⟩,(HT.aT _).sum⟩
 | false =>
   by_cases hsp:p.sp=[]
   ·by_cases hr:p.ch.length<p.room
    ·have he:p.put v=({ p with ch:=p.ch++[v] },false,0):=by unfold Q2.put;rw [if_neg (by rw [hs];decide),if_pos ⟨hsp,hr⟩]
     rw [he];have hsd:=OC hg v hr;have hg0:=hg;obtain ⟨cb,lb,hb,a,b,l,gl,h1,h2,rfl⟩:=hg
     have hll:l.length=p.sp.length:=by
      have:=congrArg UB h2;simpa using this
     refine GO fun w HT=>?_
     have HT:=Vh (HT.out.m [X6 pb cb lb p,[(cb,.chan p.room (p.ch.map fun f=>U3 f.vals.toArray).toArray false a b false)],gl]);have H1:=Vh h1;have H2:=Vh h2;rw [J8] at hsd |-;have BH:=Vh hsd;have mW:=Vh (qv h1);rw [hll,hsp] at mW;obtain ⟨c1,c3⟩:=HT.c2 0 0 1 3;simp only [X6,hs,az] at c1 c3;have lt:=HT.l 0 0;simp only [] at lt;clear h1 h2 he hs hsd hll hsp hg0;go_enter func327,ntmps327
     go_wp2_with fail
     obtain ⟨vb,hvb⟩:∃ vb,vb=w.heap.size:=⟨_,rfl⟩;have HT:=Vh (HT.out.alloc (k:=vb) hvb 63 #[U2 U1 v.id,U2 U1 v.gen,U2 U1 v.dl,U2 U1 v.tick]);rw [<- hvb];clear c1 c3 lt hvb;generalize U7 w _=w1 at HT |-;go_wp2_with fail
     refine Qd.run mW HT [2] ?_
     rintro e wq rfl HT;obtain ⟨a0,a1,a2,a3⟩:=HT.c4 3 0 0 1 2 3;simp only [aN] at a0 a1 a2 a3;go_wp2_with fail
     refine Qa.run BH (HT.sum (H':=[X6 pb cb lb p++([(cb,.chan p.room (p.ch.map fun f=>U3 f.vals.toArray).toArray false a b false)]++gl),[cl vb 63 #[U2 U1 v.id,U2 U1 v.gen,U2 U1 v.dl,U2 U1 v.tick]]])) [0] ?_
     rintro e w1 gs ⟨rfl,g1,hg1,rfl⟩ HT;simp only [PU] at HT;have HG:=Vh hg1;clear hg1 a0 a1 a2 a3;go_wp2
     go_ret2
     exact ⟨_,⟨rfl,g1,HG,rfl⟩,HT.p [0]⟩
    ·have he:p.put v=({ p with sp:=p.sp++[v],most:=max p.most ((p.sp.length:Int)+1) },true,0):=by unfold Q2.put;rw [if_neg (by rw [hs];decide),if_neg (fun h=>hr h.2)]
     rw [he];obtain ⟨M,hM⟩:∃ M,max p.most ((p.sp.length:Int)+1)=M:=⟨_,rfl⟩;rw [hM]
     have yC:∀ lb hb l gl,Yr lb hb l gl->l.map Nd.v=p.sp.map Xj.vals->_:=fun lb hb l gl h1 h2=>Py h1 (by
      have:=congrArg UB h2;simp only [UG] at this
      omega) v
     have hln:∀ lb hb (l:List Nd) nb g',l.map Nd.v=p.sp.map Xj.vals->Yr lb hb (l++[⟨nb,v.vals⟩]) g'->Qd prog 106 #[Qb lb] [g'] (U2 U4 ((p.sp.length:Int)+1)):=fun lb hb l nb g' h2 h=>by
      have:=qv h;have e:=congrArg UB h2;simp only [UG] at e;rw [UN,e] at this;exact this
     rw [J8] at yC |-;have xW:=Vh yC;have dJ:=Vh hln;have HM:=Vh hM;have hsd:=qo9 hg v (by omega);obtain ⟨cb,lb,hb,a,b,l,gl,h1,h2,rfl⟩:=hg
     have hll:l.length=p.sp.length:=by
      have:=congrArg UB h2;simpa using this
     refine GO fun w HT=>?_
     have HT:=Vh (HT.out.m [X6 pb cb lb p,[(cb,.chan p.room (p.ch.map fun f=>U3 f.vals.toArray).toArray false a b false)],gl]);have H1:=Vh h1;have H2:=Vh h2;rw [J8] at hsd;have BH:=Vh hsd;have mW:=Vh (qv h1);rw [hll,hsp] at mW;obtain ⟨c1,c3⟩:=HT.c2 0 0 1 3;simp only [X6,hs,az] at c1 c3;have lt:=HT.l 0 0;simp only [] at lt;clear h1 h2 he hs hsd hll hsp yC hln hr;generalize (p.sp.length:Int)=n at *;go_enter func327,ntmps327
     go_wp2_with fail
     obtain ⟨vb,hvb⟩:∃ vb,vb=w.heap.size:=⟨_,rfl⟩;have HT:=Vh (HT.out.alloc (k:=vb) hvb 63 #[U2 U1 v.id,U2 U1 v.gen,U2 U1 v.dl,U2 U1 v.tick]);rw [<- hvb];clear c1 c3 lt hvb;generalize U7 w _=w1 at HT |-;go_wp2_with fail
     refine Qd.run mW HT [2] ?_
     rintro e wq rfl HT;obtain ⟨a0,a1,a2,a3⟩:=HT.c4 3 0 0 1 2 3;simp only [aN] at a0 a1 a2 a3;go_wp2_with fail
     refine Qa.run BH (HT.sum (H':=[X6 pb cb lb p++([(cb,.chan p.room (p.ch.map fun f=>U3 f.vals.toArray).toArray false a b false)]++gl),[cl vb 63 #[U2 U1 v.id,U2 U1 v.gen,U2 U1 v.dl,U2 U1 v.tick]]])) [0] ?_
     rintro e w1 gs ⟨rfl,g1,hg1,rfl⟩ HT;simp only [PU] at HT;clear a0 a1 a2 a3;obtain ⟨cb,lb,hb,a,b,l,gl,h1,h2,rfl⟩:=hg1;have HT:=Vh (HT.out.sum (H':=[X6 pb cb lb p,[(cb,.chan p.room (p.ch.map fun f=>U3 f.vals.toArray).toArray false a b false)],gl,[cl vb 63 #[U2 U1 v.id,U2 U1 v.gen,U2 U1 v.dl,U2 U1 v.tick]]]));have H1:=Vh h1;have H2:=Vh h2;clear h1 h2;have BB:=Vh (xW.out _ _ _ _ H1 H2);obtain ⟨a0,a1,a2,a3⟩:=HT.c4 3 0 0 1 2 3;simp only [aN] at a0 a1 a2 a3;have c1:=HT.c 0 0 1;simp only [X6,az] at c1;go_wp2_with fail
     refine Mx 5 ?_
     simp only [bY]
     repeat (go_big_quiet_step ((fail)))
     refine UL (QT HT fun nq HT=>?_)
     go_wp2_with fail
     refine Qa.run BB HT [2] ?_
     rintro e w1 gs ⟨nb,g1,rfl,hg1,rfl⟩ HT;simp only [PU] at HT;have HG:=Vh hg1;have nC:=Vh (dJ.out _ _ _ nb g1 H2 hg1);clear hg1 a0 a1 a2 a3 c1;go_wp2_with fail
     refine ⟨rfl,?_⟩
     obtain ⟨c1,c2⟩:=HT.c2 0 0 1 2;have kC:=HT.f 0 0 2;simp only [X6,az] at c1 c2;have wQ:=HM.out;clear hM xW dJ BB;by_cases hmx:p.most<n+1
     ·obtain rfl:M=n+1:=by omega
      have y9:p.most<=n+1:=by omega
      clear HM wQ;go_wp2_with fail
      refine Mx 13 ?_
      simp only [bY]
      repeat (go_big_quiet_step ((first | (go_at_call 106;with_reducible exact Qd.quiet (nC.out) HT.out _ [2] rfl rfl))))
      refine UL (QT HT fun nq HT=>?_)
      go_wp2_with fail
      refine ⟨rfl,?_⟩
      go_wp2
      go_ret2
      exact ⟨_,⟨rfl,_,⟨cb,lb,hb,a,b,_,g1,HG,by rw [U9,H2.out,U9];rfl,rfl⟩,rfl⟩,((HT.set 0 0 rfl 2 (U2 U4 (n+1))).p [0,1,2]).eq (H':=[X6 pb cb lb { p with sp:=p.sp++[v],most:=n+1 }++([(cb,.chan p.room (p.ch.map fun f=>U3 f.vals.toArray).toArray false a b false)]++g1)]) (by simp [lI,X6])⟩
     ·obtain rfl:M=p.most:=by omega
      have y9:n+1<=p.most:=by omega
      clear HM wQ;go_wp2_with fail
      refine Mx 13 ?_
      simp only [bY]
      repeat (go_big_quiet_step ((first | (go_at_call 106;with_reducible exact Qd.quiet (nC.out) HT.out _ [2] rfl rfl))))
      refine UL (QT HT fun nq HT=>?_)
      go_wp2_with fail
      refine ⟨rfl,?_⟩
      go_wp2
      go_ret2
      exact ⟨_,⟨rfl,_,⟨cb,lb,hb,a,b,_,g1,HG,by rw [U9,H2.out,U9];rfl,rfl⟩,rfl⟩,((HT.set 0 0 rfl 2 (U2 U4 p.most)).p [0,1,2]).eq (H':=[X6 pb cb lb { p with sp:=p.sp++[v],most:=p.most }++([(cb,.chan p.room (p.ch.map fun f=>U3 f.vals.toArray).toArray false a b false)]++g1)]) (by simp [lI,X6])⟩
   ·have he:p.put v=({ p with sp:=p.sp++[v],most:=max p.most ((p.sp.length:Int)+1) },true,0):=by unfold Q2.put;rw [if_neg (by rw [hs];decide),if_neg (fun h=>hsp h.1)]
    rw [he];obtain ⟨M,hM⟩:∃ M,max p.most ((p.sp.length:Int)+1)=M:=⟨_,rfl⟩;rw [hM]
    have yC:∀ lb hb l gl,Yr lb hb l gl->l.map Nd.v=p.sp.map Xj.vals->_:=fun lb hb l gl h1 h2=>Py h1 (by
     have:=congrArg UB h2;simp only [UG] at this
     omega) v
    have hln:∀ lb hb (l:List Nd) nb g',l.map Nd.v=p.sp.map Xj.vals->Yr lb hb (l++[⟨nb,v.vals⟩]) g'->Qd prog 106 #[Qb lb] [g'] (U2 U4 ((p.sp.length:Int)+1)):=fun lb hb l nb g' h2 h=>by
     have:=qv h;have e:=congrArg UB h2;simp only [UG] at e;rw [UN,e] at this;exact this
    rw [J8] at yC |-;have xW:=Vh yC;have dJ:=Vh hln;have HM:=Vh hM;obtain ⟨cb,lb,hb,a,b,l,gl,h1,h2,rfl⟩:=hg
    have hll:l.length=p.sp.length:=by
     have:=congrArg UB h2;simpa using this
    refine GO fun w HT=>?_
    have HT:=Vh (HT.out.m [X6 pb cb lb p,[(cb,.chan p.room (p.ch.map fun f=>U3 f.vals.toArray).toArray false a b false)],gl]);have H1:=Vh h1;have H2:=Vh h2;have mW:=Vh (qv h1);rw [hll] at mW
    have hz:(((p.sp.length:Nat):Int) == 0)=false:=beq_eq_false_iff_ne.2 (by
     intro h0;have:p.sp.length=0:=by omega
     exact hsp (List.eq_nil_of_length_eq_zero this))
    obtain ⟨c1,c3⟩:=HT.c2 0 0 1 3;simp only [X6,hs,az] at c1 c3;have lt:=HT.l 0 0;simp only [] at lt;clear h1 h2 he hs hll hsp yC hln;generalize (p.sp.length:Int)=n at *;go_enter func327,ntmps327
    go_wp2_with fail
    obtain ⟨vb,hvb⟩:∃ vb,vb=w.heap.size:=⟨_,rfl⟩;have HT:=Vh (HT.out.alloc (k:=vb) hvb 63 #[U2 U1 v.id,U2 U1 v.gen,U2 U1 v.dl,U2 U1 v.tick]);rw [<- hvb];clear c1 c3 lt hvb;generalize U7 w _=w1 at HT |-;go_wp2_with fail
    refine Qd.run mW HT [2] ?_
    rintro e wq rfl HT;have BB:=Vh (xW.out _ _ _ _ H1 H2);obtain ⟨a0,a1,a2,a3⟩:=HT.c4 3 0 0 1 2 3;simp only [aN] at a0 a1 a2 a3;have c1:=HT.c 0 0 1;simp only [X6,az] at c1;go_wp2_with fail
    refine Mx 5 ?_
    simp only [bY]
    repeat (go_big_quiet_step ((fail)))
    refine UL (QT HT fun nq HT=>?_)
    go_wp2_with fail
    refine Qa.run BB HT [2] ?_
    rintro e w1 gs ⟨nb,g1,rfl,hg1,rfl⟩ HT;simp only [PU] at HT;have HG:=Vh hg1;have nC:=Vh (dJ.out _ _ _ nb g1 H2 hg1);clear hg1 a0 a1 a2 a3 c1;go_wp2_with fail
    refine ⟨rfl,?_⟩
    obtain ⟨c1,c2⟩:=HT.c2 0 0 1 2;have kC:=HT.f 0 0 2;simp only [X6,az] at c1 c2;have wQ:=HM.out;clear hM xW dJ BB;by_cases hmx:p.most<n+1
    ·obtain rfl:M=n+1:=by omega
     have y9:p.most<=n+1:=by omega
     clear HM wQ;go_wp2_with fail
     refine Mx 13 ?_
     simp only [bY]
     repeat (go_big_quiet_step ((first | (go_at_call 106;with_reducible exact Qd.quiet (nC.out) HT.out _ [2] rfl rfl))))
     refine UL (QT HT fun nq HT=>?_)
     go_wp2_with fail
     refine ⟨rfl,?_⟩
     go_wp2
     go_ret2
     exact ⟨_,⟨rfl,_,⟨cb,lb,hb,a,b,_,g1,HG,by rw [U9,H2.out,U9];rfl,rfl⟩,rfl⟩,((HT.set 0 0 rfl 2 (U2 U4 (n+1))).p [0,1,2]).eq (H':=[X6 pb cb lb { p with sp:=p.sp++[v],most:=n+1 }++([(cb,.chan p.room (p.ch.map fun f=>U3 f.vals.toArray).toArray false a b false)]++g1)]) (by simp [lI,X6])⟩
    ·obtain rfl:M=p.most:=by omega
     have y9:n+1<=p.most:=by omega
     clear HM wQ;go_wp2_with fail
     refine Mx 13 ?_
     simp only [bY]
     repeat (go_big_quiet_step ((first | (go_at_call 106;with_reducible exact Qd.quiet (nC.out) HT.out _ [2] rfl rfl))))
     refine UL (QT HT fun nq HT=>?_)
     go_wp2_with fail
     refine ⟨rfl,?_⟩
     go_wp2
     go_ret2
     exact ⟨_,⟨rfl,_,⟨cb,lb,hb,a,b,_,g1,HG,by rw [U9,H2.out,U9];rfl,rfl⟩,rfl⟩,((HT.set 0 0 rfl 2 (U2 U4 p.most)).p [0,1,2]).eq (H':=[X6 pb cb lb { p with sp:=p.sp++[v],most:=p.most }++([(cb,.chan p.room (p.ch.map fun f=>U3 f.vals.toArray).toArray false a b false)]++g1)]) (by simp [lI,X6])⟩
end
end
section
open Go.RowKit Go.Shelf Go.Conc
def Xj.zero:Xj:=⟨0,0,0,0⟩
def Q2.take (p:Q2):Q2 × Xj × Int :=
 match p.ch,p.sp with
 | [],_=>(p,Xj.zero,6)
 | f::l,[]=>({ p with ch:=l },f,0)
 | f::l,x::sp=>({ p with ch:=l++[x],sp:=sp },f,0)
section
variable {pb:Nat} {p:Q2} {g:List ak}
theorem qpa (hg:Zd pb p g) (he:p.ch=[]):Qa prog 46 #[Qb pb] [g] fun e gs =>
 e=U6 (U5 #[.agg Xj.zero.vals.toArray,U2 U4 6])/\∃ g',Zd pb p g'/\gs=[g']:=by
 obtain ⟨cb,lb,hb,a,b,l,gl,h1,h2,rfl⟩:=hg;refine GO fun w HT=>?_
 have HT:=Vh (HT.out.m [X6 pb cb lb p,[(cb,.chan p.room (p.ch.map fun f=>U3 f.vals.toArray).toArray false a b false)],gl]);have H1:=Vh h1;have H2:=Vh h2;clear h1 h2;refine Y7 func46 rfl ?_
 simp only [ntmps46,UC,UA,UJ,Nat.reduceAdd,Nat.reduceSub,UD,UE,UH,UF,UK,UI];refine Zq (Xl ?_)
 go_wp2
 have HT:=Vh (HT.out.a 63 #[U2 U1 0,U2 U1 0,U2 U1 0,U2 U1 0]);obtain ⟨rb,hrb⟩:∃ rb,rb=w.heap.size:=⟨_,rfl⟩;rw [<- hrb] at HT |-;clear hrb;generalize U7 w _=w1 at HT |-;refine Zq (Xl ?_)
 go_wp2
 have HT:=Vh (HT.out.a 63 #[U2 U1 0,U2 U1 0,U2 U1 0,U2 U1 0]);obtain ⟨zb,hzb⟩:∃ zb,zb=w1.heap.size:=⟨_,rfl⟩;rw [<- hzb] at HT |-;clear hzb;generalize U7 w1 _=w2 at HT |-;obtain ⟨c0,c1⟩:=HT.c2 0 0 0 1;simp only [X6,az] at c0 c1;have hch:=HT.obj 1 0 rfl;simp only [] at hch;refine Zq (Xl ?_)
 go_wp2
 refine Zq (Xl ?_)
 go_wp2
 refine Zq ?_
 rw [he] at hch;refine Jp (cases:=#[rcase cb (.agg #[U2 U1 0,U2 U1 0,U2 U1 0,U2 U1 0])]) (blocking:=false) (shape:=.select) (v:=U5 #[goInt (-1),.bool false,.agg #[U2 U1 0,U2 U1 0,U2 U1 0,U2 U1 0]]) (w1:=w2) (w':=w2) rfl ?_ (fun fr cs es h=>step_lone_select_default h hch) ?_
 ·have hz:=fun w=>Dq w
  simp [go_sem,UQ,rcase,Act.eval,hz]
 ·simp only [goInt]
  obtain ⟨z0,z1,z2,z3⟩:=HT.c4 4 0 0 1 2 3;simp only [aN] at z0 z1 z2 z3;obtain ⟨r0,r1,r2,r3⟩:=HT.c4 3 0 0 1 2 3;obtain ⟨cr,df,yh,yj⟩:=HT.f4 3 0 0 1 2 3;simp only [aN] at r0 r1 r2 r3;clear c0 c1 hch;go_wp2
  refine Xl ?_
  go_wp2
  exact UO (v:=U5 #[.agg #[U2 U1 0,U2 U1 0,U2 U1 0,U2 U1 0],U2 U4 6]) (by simp [results,results46,go_sem,r0,r1,r2,r3]) rfl ⟨_,⟨rfl,_,⟨cb,lb,hb,a,b,l,gl,H1,H2,rfl⟩,rfl⟩,(((((HT.set 3 0 rfl 0 _).set 3 0 rfl 1 _).set 3 0 rfl 2 _).set 3 0 rfl 3 _).p [0,1,2]).sum⟩
theorem qtg {f:Xj} {tl:List Xj} (hg:Zd pb p g) (he:p.ch=f::tl) (hs:p.sp=[]):Qa prog 46 #[Qb pb] [g] fun e gs =>
 e=U6 (U5 #[.agg f.vals.toArray,U2 U4 0])/\∃ g',Zd pb { p with ch:=tl } g'/\gs=[g']:=by
 rw [J8];have Gv:=Vh he;clear he;obtain ⟨cb,lb,hb,a,b,l,gl,h1,h2,rfl⟩:=hg;refine GO fun w HT=>?_
 have HT:=Vh (HT.out.m [X6 pb cb lb p,[(cb,.chan p.room (p.ch.map fun f=>U3 f.vals.toArray).toArray false a b false)],gl]);have H1:=Vh h1;have H2:=Vh h2;clear h1 h2;refine Y7 func46 rfl ?_
 simp only [ntmps46,UC,UA,UJ,Nat.reduceAdd,Nat.reduceSub,UD,UE,UH,UF,UK,UI];refine Zq (Xl ?_)
 go_wp2
 have HT:=Vh (HT.out.a 63 #[U2 U1 0,U2 U1 0,U2 U1 0,U2 U1 0]);obtain ⟨rb,hrb⟩:∃ rb,rb=w.heap.size:=⟨_,rfl⟩;rw [<- hrb] at HT |-;clear hrb;generalize U7 w _=w1 at HT |-;refine Zq (Xl ?_)
 go_wp2
 have HT:=Vh (HT.out.a 63 #[U2 U1 0,U2 U1 0,U2 U1 0,U2 U1 0]);obtain ⟨zb,hzb⟩:∃ zb,zb=w1.heap.size:=⟨_,rfl⟩;rw [<- hzb] at HT |-;clear hzb;generalize U7 w1 _=w2 at HT |-;obtain ⟨c0,c1⟩:=HT.c2 0 0 0 1;simp only [X6,az] at c0 c1;have hch:=HT.obj 1 0 rfl;simp only [] at hch;refine Zq (Xl ?_)
 go_wp2
 refine Zq (Xl ?_)
 go_wp2
 refine Zq ?_
 rw [Gv.out] at hch;simp only [UM] at hch;rw [J8] at hch
 refine Jp (cases:=#[rcase cb (.agg #[U2 U1 0,U2 U1 0,U2 U1 0,U2 U1 0])]) (blocking:=false) (shape:=.select) (v:=U5 #[goInt 0,.bool true,.agg #[U2 U1 f.id,U2 U1 f.gen,U2 U1 f.dl,U2 U1 f.tick]]) (w1:=w2) (w':=w2.setChan cb p.room (tl.map fun f=>U3 f.vals.toArray).toArray false a (b+1) false) rfl ?_ (fun fr cs es h=>by
  have:=step_lone_select_recv_buf h hch (by simp)
  simpa [List.take_of_length_le] using this) ?_
 ·have hz:=fun w=>Dq w
  simp [go_sem,UQ,rcase,Act.eval,hz]
 have HT:=Vh (HT.out.setChan 1 (by simp) rfl p.room (tl.map fun f=>U3 f.vals.toArray).toArray false a (b+1) false);generalize World.setChan _ _ _ _ _ _ _ _=w3 at HT |-;clear c0 c1 hch;simp only [goInt];have c1:=HT.c 0 0 1;simp only [X6,az] at c1;have lt:=HT.l 0 0;simp only [] at lt;go_wp2
 refine Xl ?_
 go_wp2_with fail
 have HT:=Vh (HT.out.a 63 #[U2 U1 f.id,U2 U1 f.gen,U2 U1 f.dl,U2 U1 f.tick]);obtain ⟨vb,hvb⟩:∃ vb,vb=w3.heap.size:=⟨_,rfl⟩;rw [<- hvb] at HT |-;clear hvb lt c1;generalize U7 w3 _=w4 at HT |-;go_wp2_with fail
 refine Qd.run (OA H1) HT [2] ?_
 rintro e wq rfl HT
 have hl:l=[]:=by
  have:=H2.out;rw [hs] at this;simpa using this
 subst hl;simp only [iw];obtain ⟨v0,v1,v2,v3⟩:=HT.c4 5 0 0 1 2 3;simp only [aN] at v0 v1 v2 v3;obtain ⟨r0,r1,r2,r3⟩:=HT.c4 3 0 0 1 2 3;obtain ⟨cr,df,yh,yj⟩:=HT.f4 3 0 0 1 2 3;simp only [aN] at r0 r1 r2 r3;have ne1:=HT.ne 3 0 5 0 (by decide) rfl rfl;simp only [] at ne1;have o7:=Ne.symm ne1;go_wp2
 exact UO (v:=U5 #[.agg #[U2 U1 f.id,U2 U1 f.gen,U2 U1 f.dl,U2 U1 f.tick],U2 U4 0]) (by simp [results,results46,go_sem,r0,r1,r2,r3]) rfl ⟨_,⟨rfl,_,⟨cb,lb,hb,a,b+1,[],gl,H1,H2,rfl⟩,rfl⟩,(((((HT.set 3 0 rfl 0 _).set 3 0 rfl 1 _).set 3 0 rfl 2 _).set 3 0 rfl 3 _).p [0,1,2]).sum⟩
theorem qth {f x:Xj} {tl sp':List Xj} (hg:Zd pb p g) (he:p.ch=f::tl) (hs:p.sp=x::sp') (hr:tl.length<p.room) (hn:sp'.length<=1000000):Qa prog 46 #[Qb pb] [g] fun e gs =>
 e=U6 (U5 #[.agg f.vals.toArray,U2 U4 0])/\∃ g',Zd pb { p with ch:=tl++[x],sp:=sp' } g'/\gs=[g']:=by
 have hsd:∀ g1,Zd pb { p with ch:=tl,sp:=sp' } g1->_:=fun g1 h=>OC h x hr
 rw [J8] at hsd |-;have Gv:=Vh he;clear he;obtain ⟨cb,lb,hb,a,b,l,gl,h1,h2,rfl⟩:=hg;refine GO fun w HT=>?_
 have HT:=Vh (HT.out.m [X6 pb cb lb p,[(cb,.chan p.room (p.ch.map fun f=>U3 f.vals.toArray).toArray false a b false)],gl]);have H1:=Vh h1;have H2:=Vh h2;clear h1 h2;refine Y7 func46 rfl ?_
 simp only [ntmps46,UC,UA,UJ,Nat.reduceAdd,Nat.reduceSub,UD,UE,UH,UF,UK,UI];refine Zq (Xl ?_)
 go_wp2
 have HT:=Vh (HT.out.a 63 #[U2 U1 0,U2 U1 0,U2 U1 0,U2 U1 0]);obtain ⟨rb,hrb⟩:∃ rb,rb=w.heap.size:=⟨_,rfl⟩;rw [<- hrb] at HT |-;clear hrb;generalize U7 w _=w1 at HT |-;refine Zq (Xl ?_)
 go_wp2
 have HT:=Vh (HT.out.a 63 #[U2 U1 0,U2 U1 0,U2 U1 0,U2 U1 0]);obtain ⟨zb,hzb⟩:∃ zb,zb=w1.heap.size:=⟨_,rfl⟩;rw [<- hzb] at HT |-;clear hzb;generalize U7 w1 _=w2 at HT |-;obtain ⟨c0,c1⟩:=HT.c2 0 0 0 1;simp only [X6,az] at c0 c1;have hch:=HT.obj 1 0 rfl;simp only [] at hch;refine Zq (Xl ?_)
 go_wp2
 refine Zq (Xl ?_)
 go_wp2
 refine Zq ?_
 have BH:=Vh hsd;clear hsd;rw [Gv.out] at hch;simp only [UM] at hch;rw [J8] at hch
 refine Jp (cases:=#[rcase cb (.agg #[U2 U1 0,U2 U1 0,U2 U1 0,U2 U1 0])]) (blocking:=false) (shape:=.select) (v:=U5 #[goInt 0,.bool true,.agg #[U2 U1 f.id,U2 U1 f.gen,U2 U1 f.dl,U2 U1 f.tick]]) (w1:=w2) (w':=w2.setChan cb p.room (tl.map fun f=>U3 f.vals.toArray).toArray false a (b+1) false) rfl ?_ (fun fr cs es h=>by
  have:=step_lone_select_recv_buf h hch (by simp)
  simpa [List.take_of_length_le] using this) ?_
 ·have hz:=fun w=>Dq w
  simp [go_sem,UQ,rcase,Act.eval,hz]
 have HT:=Vh (HT.out.setChan 1 (by simp) rfl p.room (tl.map fun f=>U3 f.vals.toArray).toArray false a (b+1) false);generalize World.setChan _ _ _ _ _ _ _ _=w3 at HT |-;clear c0 c1 hch;simp only [goInt];have c1:=HT.c 0 0 1;simp only [X6,az] at c1;have lt:=HT.l 0 0;simp only [] at lt;go_wp2
 refine Xl ?_
 go_wp2_with fail
 have HT:=Vh (HT.out.a 63 #[U2 U1 f.id,U2 U1 f.gen,U2 U1 f.dl,U2 U1 f.tick]);obtain ⟨vb,hvb⟩:∃ vb,vb=w3.heap.size:=⟨_,rfl⟩;rw [<- hvb] at HT |-;clear hvb lt c1;generalize U7 w3 _=w4 at HT |-;go_wp2_with fail
 refine Qd.run (OA H1) HT [2] ?_
 rintro e wq rfl HT
 obtain ⟨yb,l',rfl,hl'⟩:∃ yb l',l=⟨yb,x.vals⟩::l'/\l'.map Nd.v=sp'.map Xj.vals:=by
  have h2:=H2.out;rw [hs] at h2;cases l with
  | nil=>cases h2
  | cons y l' =>
    simp only [UM,List.cons.injEq] at h2;obtain ⟨yb,yv⟩:=y;exact ⟨yb,l',by rw [<- h2.1],h2.2⟩
 have hln:l'.length<=1000000000:=by
  have:=congrArg UB hl';simp only [UG] at this;omega
 have GM:=Vh (qko yb H1 hln);have HL':=Vh hl';clear hl' hln;simp only [aR];have c1:=HT.c 0 0 1;simp only [X6,az] at c1;go_wp2_with fail
 refine Qa.run GM HT [2] ?_
 rintro e w1 gs ⟨rfl,g1,hg1,rfl⟩ HT;simp only [PU] at HT;have jM:=Vh hg1;clear hg1 c1;have HIP:=Vh (show Zd pb { p with ch:=tl,sp:=sp' } (X6 pb cb lb p++([(cb,.chan p.room (tl.map fun f=>U3 f.vals.toArray).toArray false a (b+1) false)]++g1)) from ⟨cb,lb,hb,a,b+1,l',g1,jM,HL',rfl⟩);obtain ⟨n0,n1,n2,n3⟩:=HT.c4 6 0 0 1 2 3;simp only [aN] at n0 n1 n2 n3;go_wp2_with fail
 refine Qa.run (BH _ HIP) (HT.sum (H':=[X6 pb cb lb p++([(cb,.chan p.room (tl.map fun f=>U3 f.vals.toArray).toArray false a (b+1) false)]++g1),[cl rb 63 #[U2 U1 0,U2 U1 0,U2 U1 0,U2 U1 0]],[cl vb 63 #[U2 U1 f.id,U2 U1 f.gen,U2 U1 f.dl,U2 U1 f.tick]],[cl zb 63 #[U2 U1 0,U2 U1 0,U2 U1 0,U2 U1 0]],[cl yb 192 #[U2 U1 x.id,U2 U1 x.gen,U2 U1 x.dl,U2 U1 x.tick,U8 none,U8 none,U8 none]]])) [0] ?_
 rintro e w1 gs ⟨rfl,g2,hg2,rfl⟩ HT;simp only [PU] at HT;have xQ:=Vh hg2;clear hg2 n0 n1 n2 n3;obtain ⟨v0,v1,v2,v3⟩:=HT.c4 2 0 0 1 2 3;simp only [aN] at v0 v1 v2 v3;obtain ⟨r0,r1,r2,r3⟩:=HT.c4 1 0 0 1 2 3;obtain ⟨cr,df,yh,yj⟩:=HT.f4 1 0 0 1 2 3;simp only [aN] at r0 r1 r2 r3;have ne1:=HT.ne 1 0 2 0 (by decide) rfl rfl;simp only [] at ne1;have o7:=Ne.symm ne1;go_wp2
 exact UO (v:=U5 #[.agg #[U2 U1 f.id,U2 U1 f.gen,U2 U1 f.dl,U2 U1 f.tick],U2 U4 0]) (by simp [results,results46,go_sem,r0,r1,r2,r3]) rfl ⟨_,⟨rfl,g2,xQ,rfl⟩,(((((HT.set 1 0 rfl 0 _).set 1 0 rfl 1 _).set 1 0 rfl 2 _).set 1 0 rfl 3 _).p [0])⟩
structure Gb (p:Q2):Prop where
 ch:p.ch.length<=p.room
 sp:p.sp.length<=1000000
theorem qti (hg:Zd pb p g) (ho:Gb p):Qa prog 46 #[Qb pb] [g] fun e gs =>
 e=U6 (U5 #[.agg p.take.2.1.vals.toArray,U2 U4 p.take.2.2])/\∃ g',Zd pb p.take.1 g'/\gs=[g']:=by
 cases hc:p.ch with
 | nil =>
   have e:p.take=(p,Xj.zero,6):=by unfold Q2.take;rw [hc]
   rw [e];exact qpa hg hc
 | cons f tl =>
   have h1:=ho.ch;have h2:=ho.sp;rw [hc] at h1;simp only [UA] at h1;cases hs:p.sp with
   | nil =>
     have e:p.take=({ p with ch:=tl },f,0):=by unfold Q2.take;rw [hc,hs]
     rw [e];exact qtg hg hc hs
   | cons x sp' =>
     have e:p.take=({ p with ch:=tl++[x],sp:=sp' },f,0):=by unfold Q2.take;rw [hc,hs]
     rw [hs] at h2;simp only [UA] at h2;rw [e];exact qth hg hc hs (by omega) (by omega)
end
end
end Go.Proofs.YtcneeepdclgdcaaGreat
