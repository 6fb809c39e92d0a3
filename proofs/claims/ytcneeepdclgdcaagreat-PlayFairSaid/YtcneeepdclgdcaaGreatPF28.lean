import Derived.Test.YtcneeepdclgdcaaGreatPF23
import Derived.Test.YtcneeepdclgdcaaGreatPF8
import Derived.Test.YtcneeepdclgdcaaGreatPF15
set_option maxRecDepth 100000
set_option maxHeartbeats 4000000
namespace Go.Proofs.YtcneeepdclgdcaaGreat
open Go.IntKind renaming u64->WK,i64->WN
open Go.Value renaming int->WL,agg->WM,pointer->WO,tuple->WQ
open _root_.List renaming map_append->WR,length->WS,length_map->WU,length_cons->WW,size_toArray->WX,append_toArray->XB,push_toArray->XC,cons_append->XD,length_nil->XE,nil_append->XF,length_append->XG,map_cons->XI
open Go.Ending renaming returned->WT
open Go.World renaming alloc->WV
open Go renaming wpQuiet_nil->WY,bodyPost_ret->XH
open _root_.Array renaming replicate_succ->WZ,replicate_zero->XA
set_option linter.all false
open Go.Proofs.Tryz
section
open Go.RowKit Go.Shelf Go.Conc
theorem TG.setChan {h H:GH} {w w':World} (a:TG h w H w') (i:Nat) {c:Nat} {o:Obj} (hi:i<H.length) (hg:H.getD i []=[(c,o)]) (cap:Nat) (buf:Array Value) (cl:Bool) (s r:Nat) (tm:Bool) :
 TG h w (H.set i [(c,.chan cap buf cl s r tm)]) (w'.setChan c cap buf cl s r tm):=by
 have hl:=a.lt i 0 (p:=(c,o)) (by rw [hg];rfl);exact a.turn (pre:=[]) (post:=[]) (o':=.chan cap buf cl s r tm) (w'':=w'.setChan c cap buf cl s r tm) i hi hg (heap_setChan w' c cap buf cl s r tm hl) (fun k hk=>by simp only [World.setChan];rw [Array.getElem?_setIfInBounds_ne (fun e=>hk e.symm)]) (size_setChan _ _ _ _ _ _ _ _) rfl rfl rfl
theorem Gw (w:World):(zeroValue 63).run prog w=.ok (.agg #[WL WK 0,WL WK 0,WL WK 0,WL WK 0]) w:=by kernel_rfl
section
variable {pb:Nat} {p:Qz} {g:List ak}
theorem QX (hg:Z3 pb p g) (v:Xm) (hr:p.ch.length<p.room):Qa prog 109 #[Qb pb,.agg v.vals.toArray] [g] fun e gs =>
 e=WT (.bool true)/\∃ g',Z3 pb { p with ch:=p.ch++[v] } g'/\gs=[g']:=by
 obtain ⟨cb,lb,hb,a,b,l,gl,h1,h2,rfl⟩:=hg;refine GO fun w HT=>?_
 have HT:=Vh (HT.out.m [Ze pb cb lb p,[(cb,.chan p.room (p.ch.map fun f=>WM f.vals.toArray).toArray false a b false)],gl]);have H1:=Vh h1;have H2:=Vh h2;have c0:=HT.c 0 0 0;simp only [Ze,aC] at c0;have hch:=HT.obj 1 0 rfl;simp only [] at hch;have lt:=HT.l 0 0;simp only [] at lt;clear h1 h2;simp only [Xm.vals];refine KW func109 rfl ?_
 simp only [ntmps109,WX,WW,XE,Nat.reduceAdd,Nat.reduceSub,WZ,XA,XC,XB,XF,XD];refine zc (Z7 ?_)
 go_wp2
 have HT:=Vh (HT.out.a 63 #[WL WK v.id,WL WK v.gen,WL WK v.dl,WL WK v.tick]);clear c0 hch;generalize w.alloc _=w1 at HT |-;have c0:=HT.c 0 0 0;simp only [Ze,aC] at c0;obtain ⟨b0,b1,b2,b3⟩:=HT.c4 3 0 0 1 2 3;simp only [aT] at b0 b1 b2 b3;have hch:=HT.obj 1 0 rfl;simp only [] at hch;refine zc (Z7 ?_)
 go_wp2
 refine zc ?_
 refine Yt (cases:=#[scase cb (.agg #[WL WK v.id,WL WK v.gen,WL WK v.dl,WL WK v.tick]) (.agg #[WL WK 0,WL WK 0,WL WK 0,WL WK 0])]) (blocking:=false) (shape:=.select) (v:=WQ #[goInt 0,.bool false]) (w1:=w1) (w':=w1.setChan cb p.room ((p.ch.map fun f=>WM f.vals.toArray).toArray.push (.agg #[WL WK v.id,WL WK v.gen,WL WK v.dl,WL WK v.tick])) false (a+1) b false) rfl ?_ (fun fr cs es h=>step_lone_select_send_room h hch (by simpa using hr)) ?_
 ·have hz:=fun w=>Gw w
  simp [go_sem,execOp,scase,Act.eval,hz]
 ·have HT:=Vh (HT.out.setChan 1 (by simp) rfl p.room ((p.ch.map fun f=>WM f.vals.toArray).toArray.push (.agg #[WL WK v.id,WL WK v.gen,WL WK v.dl,WL WK v.tick])) false (a+1) b false)
  generalize World.setChan _ _ _ _ _ _ _ _=w2 at HT |-;simp only [goInt];go_wp2
  refine Z7 ?_
  go_wp2
  go_ret
  exact ⟨_,⟨rfl,_,⟨cb,lb,hb,a+1,b,l,gl,H1,H2,rfl⟩,rfl⟩,(HT.p [0,1,2]).eq (by simp [kS,Xm.vals])⟩
theorem qpx (hg:Z3 pb p g) (v:Xm) (hr:p.room<=p.ch.length):Qa prog 109 #[Qb pb,.agg v.vals.toArray] [g] fun e gs =>
 e=WT (.bool false)/\∃ g',Z3 pb p g'/\gs=[g']:=by
 obtain ⟨cb,lb,hb,a,b,l,gl,h1,h2,rfl⟩:=hg;refine GO fun w HT=>?_
 have HT:=Vh (HT.out.m [Ze pb cb lb p,[(cb,.chan p.room (p.ch.map fun f=>WM f.vals.toArray).toArray false a b false)],gl]);have H1:=Vh h1;have H2:=Vh h2;have c0:=HT.c 0 0 0;simp only [Ze,aC] at c0;have hch:=HT.obj 1 0 rfl;simp only [] at hch;have lt:=HT.l 0 0;simp only [] at lt;clear h1 h2;simp only [Xm.vals];refine KW func109 rfl ?_
 simp only [ntmps109,WX,WW,XE,Nat.reduceAdd,Nat.reduceSub,WZ,XA,XC,XB,XF,XD];refine zc (Z7 ?_)
 go_wp2
 have HT:=Vh (HT.out.a 63 #[WL WK v.id,WL WK v.gen,WL WK v.dl,WL WK v.tick]);clear c0 hch;generalize w.alloc _=w1 at HT |-;have c0:=HT.c 0 0 0;simp only [Ze,aC] at c0;obtain ⟨b0,b1,b2,b3⟩:=HT.c4 3 0 0 1 2 3;simp only [aT] at b0 b1 b2 b3;have hch:=HT.obj 1 0 rfl;simp only [] at hch;refine zc (Z7 ?_)
 go_wp2
 refine zc ?_
 refine Yt (cases:=#[scase cb (.agg #[WL WK v.id,WL WK v.gen,WL WK v.dl,WL WK v.tick]) (.agg #[WL WK 0,WL WK 0,WL WK 0,WL WK 0])]) (blocking:=false) (shape:=.select) (v:=WQ #[goInt (-1),.bool false]) (w1:=w1) (w':=w1) rfl ?_ (fun fr cs es h=>step_lone_select_send_full h hch (by simpa using hr)) ?_
 ·have hz:=fun w=>Gw w
  simp [go_sem,execOp,scase,Act.eval,hz]
 ·simp only [goInt]
  go_wp2
  refine Z7 ?_
  go_wp2
  go_ret
  exact ⟨_,⟨rfl,_,⟨cb,lb,hb,a,b,l,gl,H1,H2,rfl⟩,rfl⟩,(HT.p [0,1,2]).eq (by simp [kS,Xm.vals])⟩
end
end
section
open Go.RowKit Go.Shelf
def Qz.put (p:Qz) (v:Xm):Qz × Bool × Int :=
 if p.shut=true then (p,false,3)
 else if p.sp=[]/\p.ch.length<p.room then ({ p with ch:=p.ch++[v] },false,0)
 else ({ p with sp:=p.sp++[v],most:=max p.most (p.sp.length+1) },true,0)
theorem Ry {lb hb:Nat} {l:List Nd} {g:List ak} (hg:Yp lb hb l g) (hn:l.length<=1000000000) (v:Xm) :
 Qa prog 339 #[Qb lb,.agg v.vals.toArray] [g] fun e gs=>∃ nb g',e=WT (Qb nb)/\Yp lb hb (l++[⟨nb,v.vals⟩]) g'/\gs=[g']:=by
 have HP:=Vh (show ∀ nb,_ from fun nb=>qtx hg hn nb (WL WK v.id) (WL WK v.gen) (WL WK v.dl) (WL WK v.tick) (WO none) (WO none));refine GO fun w HT=>?_
 simp only [Xm.vals];clear hg hn;go_enter func339,ntmps339
 go_wp2_with fail
 obtain ⟨nb,hnb⟩:∃ nb,nb=w.heap.size+1:=⟨_,rfl⟩;have HT:=Vh ((HT.aN (.cells #[WL WK v.id,WL WK v.gen,WL WK v.dl,WL WK v.tick] 63)).alloc (k:=nb) (by rw [hnb];simp) 192 #[WL WK v.id,WL WK v.gen,WL WK v.dl,WL WK v.tick,WO none,WO none,WO none]);rw [<- hnb];clear hnb;generalize WV (WV w _) _=w1 at HT |-;go_wp2_with fail
 refine Qa.run (HP nb) (HT) [0,1] ?_
 rintro e w1 gs ⟨rfl,g1,hg1,rfl⟩ HT;simp only [PU] at HT;have HG:=Vh hg1;clear hg1;go_wp2
 go_ret
 exact ⟨_,⟨nb,g1,rfl,HG,rfl⟩,HT.p [0]⟩
section
variable {pb:Nat} {p:Qz} {g:List ak}
theorem Td (hg:Z3 pb p g) (hn:p.ch.length<=1000000/\p.sp.length<=1000000):Qe prog 45 #[Qb pb] [g] (WL WN ((p.ch.length:Int)+p.sp.length)):=by
 obtain ⟨cb,lb,hb,a,b,l,gl,h1,h2,rfl⟩:=hg
 have hll:l.length=p.sp.length:=by
  have:=congrArg WS h2;simpa using this
 refine GO fun w HT=>?_
 have HT:=Vh (HT.out.m [Ze pb cb lb p,[(cb,.chan p.room (p.ch.map fun f=>WM f.vals.toArray).toArray false a b false)],gl]);have H1:=Vh h1;have H2:=Vh h2;have b1:=HT.obj 1 0 rfl;simp only [] at b1;have hlc:=fun m=>Ue cb p.room _ false a b (w.drewN m) b1
 simp only [WX,WU] at hlc;have ni:=Vh (qv h1);rw [hll] at ni;obtain ⟨c0,c1⟩:=HT.c2 0 0 0 1;simp only [Ze,aC] at c0 c1;clear h1 h2 b1;generalize p.ch.length=n at *;generalize p.sp.length=m at *;obtain ⟨hn1,hn2⟩:=hn;go_enter func45,ntmps45
 go_wp2_with fail
 go_quiet ((first | (go_at_call 106;with_reducible exact Qe.quiet (ni.out) HT.out _ [2] rfl rfl)))
 have HT:=Vh (HT.out.drewN nq);go_wp2
 go_ret
 exact ⟨rfl,_,rfl⟩
theorem Y4 (v:Xm):v.vals.toArray=#[WL WK v.id,WL WK v.gen,WL WK v.dl,WL WK v.tick]:=rfl
theorem qx8 (hg:Z3 pb p g) (v:Xm) (hn:p.sp.length<=1000000):Qa prog 327 #[Qb pb,.agg v.vals.toArray] [g] fun e gs =>
 e=WT (WQ #[.bool (p.put v).2.1,WL WN (p.put v).2.2])/\∃ g',Z3 pb (p.put v).1 g'/\gs=[g']:=by
 cases hs:p.shut with
 | true =>
   have he:p.put v=(p,false,3):=by unfold Qz.put;rw [if_pos hs]
   rw [he];obtain ⟨cb,lb,hb,a,b,l,gl,h1,h2,rfl⟩:=hg
   have hll:l.length=p.sp.length:=by
    have:=congrArg WS h2;simpa using this
   refine GO fun w HT=>?_
   have HT:=Vh (HT.out.m [Ze pb cb lb p,[(cb,.chan p.room (p.ch.map fun f=>WM f.vals.toArray).toArray false a b false)],gl]);have H1:=Vh h1;have H2:=Vh h2;have c3:=HT.c 0 0 3;simp only [Ze,hs,aC] at c3;have lt:=HT.l 0 0;simp only [] at lt;rw [Y4];clear h1 h2 he hs;go_enter func327,ntmps327
   go_wp2
   go_ret2
   exact ⟨_,⟨rfl,_,⟨cb,lb,hb,a,b,l,gl,H1,H2,rfl⟩,rfl⟩,(HT.aN _).sum⟩
 | false =>
   by_cases hsp:p.sp=[]
   ·by_cases hr:p.ch.length<p.room
    ·have he:p.put v=({ p with ch:=p.ch++[v] },false,0):=by unfold Qz.put;rw [if_neg (by rw [hs];decide),if_pos ⟨hsp,hr⟩]
     rw [he];have hsd:=QX hg v hr;have hg0:=hg;obtain ⟨cb,lb,hb,a,b,l,gl,h1,h2,rfl⟩:=hg
     have hll:l.length=p.sp.length:=by
      have:=congrArg WS h2;simpa using this
     refine GO fun w HT=>?_
     have HT:=Vh (HT.out.m [Ze pb cb lb p,[(cb,.chan p.room (p.ch.map fun f=>WM f.vals.toArray).toArray false a b false)],gl]);have H1:=Vh h1;have H2:=Vh h2;rw [Y4] at hsd |-;have C9:=Vh hsd;have ni:=Vh (qv h1);rw [hll,hsp] at ni;obtain ⟨c1,c3⟩:=HT.c2 0 0 1 3;simp only [Ze,hs,aC] at c1 c3;have lt:=HT.l 0 0;simp only [] at lt;clear h1 h2 he hs hsd hll hsp hg0;go_enter func327,ntmps327
     go_wp2_with fail
     obtain ⟨vb,hvb⟩:∃ vb,vb=w.heap.size:=⟨_,rfl⟩;have HT:=Vh (HT.out.alloc (k:=vb) hvb 63 #[WL WK v.id,WL WK v.gen,WL WK v.dl,WL WK v.tick]);rw [<- hvb];clear c1 c3 lt hvb;generalize WV w _=w1 at HT |-;go_wp2_with fail
     refine Qe.run ni HT [2] ?_
     rintro e wq rfl HT;obtain ⟨a0,a1,a2,a3⟩:=HT.c4 3 0 0 1 2 3;simp only [aT] at a0 a1 a2 a3;go_wp2_with fail
     refine Qa.run C9 (HT.sum (H':=[Ze pb cb lb p++([(cb,.chan p.room (p.ch.map fun f=>WM f.vals.toArray).toArray false a b false)]++gl),[cl vb 63 #[WL WK v.id,WL WK v.gen,WL WK v.dl,WL WK v.tick]]])) [0] ?_
     rintro e w1 gs ⟨rfl,g1,hg1,rfl⟩ HT;simp only [PU] at HT;have HG:=Vh hg1;clear hg1 a0 a1 a2 a3;go_wp2
     go_ret2
     exact ⟨_,⟨rfl,g1,HG,rfl⟩,HT.p [0]⟩
    ·have he:p.put v=({ p with sp:=p.sp++[v],most:=max p.most ((p.sp.length:Int)+1) },true,0):=by unfold Qz.put;rw [if_neg (by rw [hs];decide),if_neg (fun h=>hr h.2)]
     rw [he];obtain ⟨M,hM⟩:∃ M,max p.most ((p.sp.length:Int)+1)=M:=⟨_,rfl⟩;rw [hM]
     have zL:∀ lb hb l gl,Yp lb hb l gl->l.map Nd.v=p.sp.map Xm.vals->_:=fun lb hb l gl h1 h2=>Ry h1 (by
      have:=congrArg WS h2;simp only [WU] at this
      omega) v
     have hln:∀ lb hb (l:List Nd) nb g',l.map Nd.v=p.sp.map Xm.vals->Yp lb hb (l++[⟨nb,v.vals⟩]) g'->Qe prog 106 #[Qb lb] [g'] (WL WN ((p.sp.length:Int)+1)):=fun lb hb l nb g' h2 h=>by
      have:=qv h;have e:=congrArg WS h2;simp only [WU] at e;rw [XG,e] at this;exact this
     rw [Y4] at zL |-;have yJ:=Vh zL;have dR:=Vh hln;have HM:=Vh hM;have hsd:=qpx hg v (by omega);obtain ⟨cb,lb,hb,a,b,l,gl,h1,h2,rfl⟩:=hg
     have hll:l.length=p.sp.length:=by
      have:=congrArg WS h2;simpa using this
     refine GO fun w HT=>?_
     have HT:=Vh (HT.out.m [Ze pb cb lb p,[(cb,.chan p.room (p.ch.map fun f=>WM f.vals.toArray).toArray false a b false)],gl]);have H1:=Vh h1;have H2:=Vh h2;rw [Y4] at hsd;have C9:=Vh hsd;have ni:=Vh (qv h1);rw [hll,hsp] at ni;obtain ⟨c1,c3⟩:=HT.c2 0 0 1 3;simp only [Ze,hs,aC] at c1 c3;have lt:=HT.l 0 0;simp only [] at lt;clear h1 h2 he hs hsd hll hsp zL hln hr;generalize (p.sp.length:Int)=n at *;go_enter func327,ntmps327
     go_wp2_with fail
     obtain ⟨vb,hvb⟩:∃ vb,vb=w.heap.size:=⟨_,rfl⟩;have HT:=Vh (HT.out.alloc (k:=vb) hvb 63 #[WL WK v.id,WL WK v.gen,WL WK v.dl,WL WK v.tick]);rw [<- hvb];clear c1 c3 lt hvb;generalize WV w _=w1 at HT |-;go_wp2_with fail
     refine Qe.run ni HT [2] ?_
     rintro e wq rfl HT;obtain ⟨a0,a1,a2,a3⟩:=HT.c4 3 0 0 1 2 3;simp only [aT] at a0 a1 a2 a3;go_wp2_with fail
     refine Qa.run C9 (HT.sum (H':=[Ze pb cb lb p++([(cb,.chan p.room (p.ch.map fun f=>WM f.vals.toArray).toArray false a b false)]++gl),[cl vb 63 #[WL WK v.id,WL WK v.gen,WL WK v.dl,WL WK v.tick]]])) [0] ?_
     rintro e w1 gs ⟨rfl,g1,hg1,rfl⟩ HT;simp only [PU] at HT;clear a0 a1 a2 a3;obtain ⟨cb,lb,hb,a,b,l,gl,h1,h2,rfl⟩:=hg1;have HT:=Vh (HT.out.sum (H':=[Ze pb cb lb p,[(cb,.chan p.room (p.ch.map fun f=>WM f.vals.toArray).toArray false a b false)],gl,[cl vb 63 #[WL WK v.id,WL WK v.gen,WL WK v.dl,WL WK v.tick]]]));have H1:=Vh h1;have H2:=Vh h2;clear h1 h2;have xI:=Vh (yJ.out _ _ _ _ H1 H2);obtain ⟨a0,a1,a2,a3⟩:=HT.c4 3 0 0 1 2 3;simp only [aT] at a0 a1 a2 a3;have c1:=HT.c 0 0 1;simp only [Ze,aC] at c1;go_wp2_with fail
     refine Mx 5 ?_
     simp only [dx]
     repeat (go_big_quiet_step ((fail)))
     refine WY (QT HT fun nq HT=>?_)
     go_wp2_with fail
     refine Qa.run xI HT [2] ?_
     rintro e w1 gs ⟨nb,g1,rfl,hg1,rfl⟩ HT;simp only [PU] at HT;have HG:=Vh hg1;have yD:=Vh (dR.out _ _ _ nb g1 H2 hg1);clear hg1 a0 a1 a2 a3 c1;go_wp2_with fail
     refine ⟨rfl,?_⟩
     obtain ⟨c1,c2⟩:=HT.c2 0 0 1 2;have kg:=HT.f 0 0 2;simp only [Ze,aC] at c1 c2;have Ct:=HM.out;clear hM yJ dR xI;by_cases hmx:p.most<n+1
     ·obtain rfl:M=n+1:=by omega
      have zH:p.most<=n+1:=by omega
      clear HM Ct;go_wp2_with fail
      refine Mx 13 ?_
      simp only [dx]
      repeat (go_big_quiet_step ((first | (go_at_call 106;with_reducible exact Qe.quiet (yD.out) HT.out _ [2] rfl rfl))))
      refine WY (QT HT fun nq HT=>?_)
      go_wp2_with fail
      refine ⟨rfl,?_⟩
      go_wp2
      go_ret2
      exact ⟨_,⟨rfl,_,⟨cb,lb,hb,a,b,_,g1,HG,by rw [WR,H2.out,WR];rfl,rfl⟩,rfl⟩,((HT.set 0 0 rfl 2 (WL WN (n+1))).p [0,1,2]).eq (H':=[Ze pb cb lb { p with sp:=p.sp++[v],most:=n+1 }++([(cb,.chan p.room (p.ch.map fun f=>WM f.vals.toArray).toArray false a b false)]++g1)]) (by simp [kS,Ze])⟩
     ·obtain rfl:M=p.most:=by omega
      have zH:n+1<=p.most:=by omega
      clear HM Ct;go_wp2_with fail
      refine Mx 13 ?_
      simp only [dx]
      repeat (go_big_quiet_step ((first | (go_at_call 106;with_reducible exact Qe.quiet (yD.out) HT.out _ [2] rfl rfl))))
      refine WY (QT HT fun nq HT=>?_)
      go_wp2_with fail
      refine ⟨rfl,?_⟩
      go_wp2
      go_ret2
      exact ⟨_,⟨rfl,_,⟨cb,lb,hb,a,b,_,g1,HG,by rw [WR,H2.out,WR];rfl,rfl⟩,rfl⟩,((HT.set 0 0 rfl 2 (WL WN p.most)).p [0,1,2]).eq (H':=[Ze pb cb lb { p with sp:=p.sp++[v],most:=p.most }++([(cb,.chan p.room (p.ch.map fun f=>WM f.vals.toArray).toArray false a b false)]++g1)]) (by simp [kS,Ze])⟩
   ·have he:p.put v=({ p with sp:=p.sp++[v],most:=max p.most ((p.sp.length:Int)+1) },true,0):=by unfold Qz.put;rw [if_neg (by rw [hs];decide),if_neg (fun h=>hsp h.1)]
    rw [he];obtain ⟨M,hM⟩:∃ M,max p.most ((p.sp.length:Int)+1)=M:=⟨_,rfl⟩;rw [hM]
    have zL:∀ lb hb l gl,Yp lb hb l gl->l.map Nd.v=p.sp.map Xm.vals->_:=fun lb hb l gl h1 h2=>Ry h1 (by
     have:=congrArg WS h2;simp only [WU] at this
     omega) v
    have hln:∀ lb hb (l:List Nd) nb g',l.map Nd.v=p.sp.map Xm.vals->Yp lb hb (l++[⟨nb,v.vals⟩]) g'->Qe prog 106 #[Qb lb] [g'] (WL WN ((p.sp.length:Int)+1)):=fun lb hb l nb g' h2 h=>by
     have:=qv h;have e:=congrArg WS h2;simp only [WU] at e;rw [XG,e] at this;exact this
    rw [Y4] at zL |-;have yJ:=Vh zL;have dR:=Vh hln;have HM:=Vh hM;obtain ⟨cb,lb,hb,a,b,l,gl,h1,h2,rfl⟩:=hg
    have hll:l.length=p.sp.length:=by
     have:=congrArg WS h2;simpa using this
    refine GO fun w HT=>?_
    have HT:=Vh (HT.out.m [Ze pb cb lb p,[(cb,.chan p.room (p.ch.map fun f=>WM f.vals.toArray).toArray false a b false)],gl]);have H1:=Vh h1;have H2:=Vh h2;have ni:=Vh (qv h1);rw [hll] at ni
    have hz:(((p.sp.length:Nat):Int) == 0)=false:=beq_eq_false_iff_ne.2 (by
     intro h0;have:p.sp.length=0:=by omega
     exact hsp (List.eq_nil_of_length_eq_zero this))
    obtain ⟨c1,c3⟩:=HT.c2 0 0 1 3;simp only [Ze,hs,aC] at c1 c3;have lt:=HT.l 0 0;simp only [] at lt;clear h1 h2 he hs hll hsp zL hln;generalize (p.sp.length:Int)=n at *;go_enter func327,ntmps327
    go_wp2_with fail
    obtain ⟨vb,hvb⟩:∃ vb,vb=w.heap.size:=⟨_,rfl⟩;have HT:=Vh (HT.out.alloc (k:=vb) hvb 63 #[WL WK v.id,WL WK v.gen,WL WK v.dl,WL WK v.tick]);rw [<- hvb];clear c1 c3 lt hvb;generalize WV w _=w1 at HT |-;go_wp2_with fail
    refine Qe.run ni HT [2] ?_
    rintro e wq rfl HT;have xI:=Vh (yJ.out _ _ _ _ H1 H2);obtain ⟨a0,a1,a2,a3⟩:=HT.c4 3 0 0 1 2 3;simp only [aT] at a0 a1 a2 a3;have c1:=HT.c 0 0 1;simp only [Ze,aC] at c1;go_wp2_with fail
    refine Mx 5 ?_
    simp only [dx]
    repeat (go_big_quiet_step ((fail)))
    refine WY (QT HT fun nq HT=>?_)
    go_wp2_with fail
    refine Qa.run xI HT [2] ?_
    rintro e w1 gs ⟨nb,g1,rfl,hg1,rfl⟩ HT;simp only [PU] at HT;have HG:=Vh hg1;have yD:=Vh (dR.out _ _ _ nb g1 H2 hg1);clear hg1 a0 a1 a2 a3 c1;go_wp2_with fail
    refine ⟨rfl,?_⟩
    obtain ⟨c1,c2⟩:=HT.c2 0 0 1 2;have kg:=HT.f 0 0 2;simp only [Ze,aC] at c1 c2;have Ct:=HM.out;clear hM yJ dR xI;by_cases hmx:p.most<n+1
    ·obtain rfl:M=n+1:=by omega
     have zH:p.most<=n+1:=by omega
     clear HM Ct;go_wp2_with fail
     refine Mx 13 ?_
     simp only [dx]
     repeat (go_big_quiet_step ((first | (go_at_call 106;with_reducible exact Qe.quiet (yD.out) HT.out _ [2] rfl rfl))))
     refine WY (QT HT fun nq HT=>?_)
     go_wp2_with fail
     refine ⟨rfl,?_⟩
     go_wp2
     go_ret2
     exact ⟨_,⟨rfl,_,⟨cb,lb,hb,a,b,_,g1,HG,by rw [WR,H2.out,WR];rfl,rfl⟩,rfl⟩,((HT.set 0 0 rfl 2 (WL WN (n+1))).p [0,1,2]).eq (H':=[Ze pb cb lb { p with sp:=p.sp++[v],most:=n+1 }++([(cb,.chan p.room (p.ch.map fun f=>WM f.vals.toArray).toArray false a b false)]++g1)]) (by simp [kS,Ze])⟩
    ·obtain rfl:M=p.most:=by omega
     have zH:n+1<=p.most:=by omega
     clear HM Ct;go_wp2_with fail
     refine Mx 13 ?_
     simp only [dx]
     repeat (go_big_quiet_step ((first | (go_at_call 106;with_reducible exact Qe.quiet (yD.out) HT.out _ [2] rfl rfl))))
     refine WY (QT HT fun nq HT=>?_)
     go_wp2_with fail
     refine ⟨rfl,?_⟩
     go_wp2
     go_ret2
     exact ⟨_,⟨rfl,_,⟨cb,lb,hb,a,b,_,g1,HG,by rw [WR,H2.out,WR];rfl,rfl⟩,rfl⟩,((HT.set 0 0 rfl 2 (WL WN p.most)).p [0,1,2]).eq (H':=[Ze pb cb lb { p with sp:=p.sp++[v],most:=p.most }++([(cb,.chan p.room (p.ch.map fun f=>WM f.vals.toArray).toArray false a b false)]++g1)]) (by simp [kS,Ze])⟩
end
end
section
open Go.RowKit Go.Shelf Go.Conc
def Xm.zero:Xm:=⟨0,0,0,0⟩
def Qz.take (p:Qz):Qz × Xm × Int :=
 match p.ch,p.sp with
 | [],_=>(p,Xm.zero,6)
 | f::l,[]=>({ p with ch:=l },f,0)
 | f::l,x::sp=>({ p with ch:=l++[x],sp:=sp },f,0)
section
variable {pb:Nat} {p:Qz} {g:List ak}
structure Hu (p:Qz):Prop where
 ch:p.ch.length<=p.room
 sp:p.sp.length<=1000000
theorem quh (hg:Z3 pb p g) (ho:Hu p):Qa prog 46 #[Qb pb] [g] fun e gs =>
 e=WT (WQ #[.agg p.take.2.1.vals.toArray,WL WN p.take.2.2])/\∃ g',Z3 pb p.take.1 g'/\gs=[g']:=by
 obtain ⟨RS,il⟩:∃ RS,p.take=RS:=⟨_,rfl⟩;have HE:=Vh il;have HO:=Vh ho;rw [il];clear il ho;obtain ⟨cb,lb,hb,a,b,l,gl,h1,h2,rfl⟩:=hg;refine GO fun w HT=>?_
 have HT:=Vh (HT.out.m [Ze pb cb lb p,[(cb,.chan p.room (p.ch.map fun f=>WM f.vals.toArray).toArray false a b false)],gl]);have H1:=Vh h1;have H2:=Vh h2;clear h1 h2;refine KW func46 rfl ?_
 simp only [ntmps46,WX,WW,XE,Nat.reduceAdd,Nat.reduceSub,WZ,XA,XC,XB,XF,XD];refine zc (Z7 ?_)
 go_wp2
 have HT:=Vh (HT.out.a 63 #[WL WK 0,WL WK 0,WL WK 0,WL WK 0]);obtain ⟨rb,hrb⟩:∃ rb,rb=w.heap.size:=⟨_,rfl⟩;rw [<- hrb] at HT |-;clear hrb;generalize WV w _=w1 at HT |-;refine zc (Z7 ?_)
 go_wp2
 have HT:=Vh (HT.out.a 63 #[WL WK 0,WL WK 0,WL WK 0,WL WK 0]);obtain ⟨zb,hzb⟩:∃ zb,zb=w1.heap.size:=⟨_,rfl⟩;rw [<- hzb] at HT |-;clear hzb;generalize WV w1 _=w2 at HT |-;obtain ⟨c0,c1⟩:=HT.c2 0 0 0 1;simp only [Ze,aC] at c0 c1;have hch:=HT.obj 1 0 rfl;simp only [] at hch;refine zc (Z7 ?_)
 go_wp2
 refine zc (Z7 ?_)
 go_wp2
 refine zc ?_
 have cs:∀ l:List Xm,l=[]\/∃ f tl,l=f::tl:=fun l=>by cases l <;> simp
 rcases cs p.ch with hc | ⟨f,tl,hc⟩
 ·have e:p.take=(p,Xm.zero,6):=by unfold Qz.take;rw [hc]
  have he:=e.symm.trans HE;subst he;clear e;have Av:=Vh hc;clear hc;rw [Av.out] at hch;refine Yt (cases:=#[rcase cb (.agg #[WL WK 0,WL WK 0,WL WK 0,WL WK 0])]) (blocking:=false) (shape:=.select) (v:=WQ #[goInt (-1),.bool false,.agg #[WL WK 0,WL WK 0,WL WK 0,WL WK 0]]) (w1:=w2) (w':=w2) rfl ?_ (fun fr cs es h=>step_lone_select_default h hch) ?_
  ·have hz:=fun w=>Gw w
   simp [go_sem,execOp,rcase,Act.eval,hz]
  ·simp only [goInt]
   obtain ⟨z0,z1,z2,z3⟩:=HT.c4 4 0 0 1 2 3;simp only [aT] at z0 z1 z2 z3;obtain ⟨r0,r1,r2,r3⟩:=HT.c4 3 0 0 1 2 3;obtain ⟨df,dm,yR,yS⟩:=HT.f4 3 0 0 1 2 3;simp only [aT] at r0 r1 r2 r3;clear c0 c1 hch;go_wp2
   refine Z7 ?_
   go_wp2
   exact XH (v:=WQ #[.agg #[WL WK 0,WL WK 0,WL WK 0,WL WK 0],WL WN 6]) (by simp [results,results46,go_sem,r0,r1,r2,r3]) rfl ⟨_,⟨rfl,_,⟨cb,lb,hb,a,b,l,gl,H1,H2,rfl⟩,rfl⟩,(((((HT.set 3 0 rfl 0 _).set 3 0 rfl 1 _).set 3 0 rfl 2 _).set 3 0 rfl 3 _).p [0,1,2]).sum⟩
 ·have Av:=Vh hc
  clear hc;rw [Av.out] at hch;simp only [XI] at hch;rw [Y4] at hch
  refine Yt (cases:=#[rcase cb (.agg #[WL WK 0,WL WK 0,WL WK 0,WL WK 0])]) (blocking:=false) (shape:=.select) (v:=WQ #[goInt 0,.bool true,.agg #[WL WK f.id,WL WK f.gen,WL WK f.dl,WL WK f.tick]]) (w1:=w2) (w':=w2.setChan cb p.room (tl.map fun f=>WM f.vals.toArray).toArray false a (b+1) false) rfl ?_ (fun fr cs es h=>by
   have:=step_lone_select_recv_buf h hch (by simp)
   simpa [List.take_of_length_le] using this) ?_
  ·have hz:=fun w=>Gw w
   simp [go_sem,execOp,rcase,Act.eval,hz]
  have HT:=Vh (HT.out.setChan 1 (by simp) rfl p.room (tl.map fun f=>WM f.vals.toArray).toArray false a (b+1) false);generalize World.setChan _ _ _ _ _ _ _ _=w3 at HT |-;clear c0 c1 hch;simp only [goInt];have c1:=HT.c 0 0 1;simp only [Ze,aC] at c1;have lt:=HT.l 0 0;simp only [] at lt;go_wp2
  refine Z7 ?_
  go_wp2_with fail
  have HT:=Vh (HT.out.a 63 #[WL WK f.id,WL WK f.gen,WL WK f.dl,WL WK f.tick]);obtain ⟨vb,hvb⟩:∃ vb,vb=w3.heap.size:=⟨_,rfl⟩;rw [<- hvb] at HT |-;clear hvb lt c1;generalize WV w3 _=w4 at HT |-;go_wp2_with fail
  refine Qe.run (qnd H1) HT [2] ?_
  rintro e wq rfl HT;rcases cs p.sp with hs | ⟨x,sp',hs⟩
  ·have he:=(show p.take=({ p with ch:=tl },f,0) by unfold Qz.take;rw [Av.out,hs]).symm.trans HE
   subst he
   have hl:l=[]:=by
    have:=H2.out;rw [hs] at this;simpa using this
   subst hl;simp only [ic];obtain ⟨v0,v1,v2,v3⟩:=HT.c4 5 0 0 1 2 3;simp only [aT] at v0 v1 v2 v3;obtain ⟨r0,r1,r2,r3⟩:=HT.c4 3 0 0 1 2 3;obtain ⟨df,dm,yR,yS⟩:=HT.f4 3 0 0 1 2 3;simp only [aT] at r0 r1 r2 r3;have ne1:=HT.ne 3 0 5 0 (by decide) rfl rfl;simp only [] at ne1;have oI:=Ne.symm ne1;go_wp2
   exact XH (v:=WQ #[.agg #[WL WK f.id,WL WK f.gen,WL WK f.dl,WL WK f.tick],WL WN 0]) (by simp [results,results46,go_sem,r0,r1,r2,r3]) rfl ⟨_,⟨rfl,_,⟨cb,lb,hb,a,b+1,[],gl,H1,H2.trans (by rw [hs]),rfl⟩,rfl⟩,(((((HT.set 3 0 rfl 0 _).set 3 0 rfl 1 _).set 3 0 rfl 2 _).set 3 0 rfl 3 _).p [0,1,2]).sum⟩
  ·have he:=(show p.take=({ p with ch:=tl++[x],sp:=sp' },f,0) by unfold Qz.take;rw [Av.out,hs]).symm.trans HE
   subst he;have h1:=HO.ch;have hn:=HO.sp;rw [Av.out,WW] at h1;rw [hs,WW] at hn;have hsd:∀ g1,Z3 pb { p with ch:=tl,sp:=sp' } g1->_:=fun g1 h=>QX h x (by show tl.length<p.room;omega)
   rw [Y4] at hsd;have C9:=Vh hsd;clear hsd
   obtain ⟨yb,l',rfl,hl'⟩:∃ yb l',l=⟨yb,x.vals⟩::l'/\l'.map Nd.v=sp'.map Xm.vals:=by
    have h2:=H2.out;rw [hs] at h2;cases l with
    | nil=>cases h2
    | cons y l' =>
      simp only [XI,List.cons.injEq] at h2;obtain ⟨yb,yv⟩:=y;exact ⟨yb,l',by rw [<- h2.1],h2.2⟩
   have hln:l'.length<=1000000000:=by
    have:=congrArg WS hl';simp only [WU] at this;omega
   have IJ:=Vh (qld yb H1 hln);have HL':=Vh hl';clear hl' hln;simp only [aQ];have c1:=HT.c 0 0 1;simp only [Ze,aC] at c1;go_wp2_with fail
   refine Qa.run IJ HT [2] ?_
   rintro e w1 gs ⟨rfl,g1,hg1,rfl⟩ HT;simp only [PU] at HT;have kF:=Vh hg1;clear hg1 c1;have HIP:=Vh (show Z3 pb { p with ch:=tl,sp:=sp' } (Ze pb cb lb p++([(cb,.chan p.room (tl.map fun f=>WM f.vals.toArray).toArray false a (b+1) false)]++g1)) from ⟨cb,lb,hb,a,b+1,l',g1,kF,HL',rfl⟩);obtain ⟨n0,n1,n2,n3⟩:=HT.c4 6 0 0 1 2 3;simp only [aT] at n0 n1 n2 n3;go_wp2_with fail
   refine Qa.run (C9 _ HIP) (HT.sum (H':=[Ze pb cb lb p++([(cb,.chan p.room (tl.map fun f=>WM f.vals.toArray).toArray false a (b+1) false)]++g1),[cl rb 63 #[WL WK 0,WL WK 0,WL WK 0,WL WK 0]],[cl vb 63 #[WL WK f.id,WL WK f.gen,WL WK f.dl,WL WK f.tick]],[cl zb 63 #[WL WK 0,WL WK 0,WL WK 0,WL WK 0]],[cl yb 192 #[WL WK x.id,WL WK x.gen,WL WK x.dl,WL WK x.tick,WO none,WO none,WO none]]])) [0] ?_
   rintro e w1 gs ⟨rfl,g2,hg2,rfl⟩ HT;simp only [PU] at HT;have qV:=Vh hg2;clear hg2 n0 n1 n2 n3;obtain ⟨v0,v1,v2,v3⟩:=HT.c4 2 0 0 1 2 3;simp only [aT] at v0 v1 v2 v3;obtain ⟨r0,r1,r2,r3⟩:=HT.c4 1 0 0 1 2 3;obtain ⟨df,dm,yR,yS⟩:=HT.f4 1 0 0 1 2 3;simp only [aT] at r0 r1 r2 r3;have ne1:=HT.ne 1 0 2 0 (by decide) rfl rfl;simp only [] at ne1;have oI:=Ne.symm ne1;go_wp2
   exact XH (v:=WQ #[.agg #[WL WK f.id,WL WK f.gen,WL WK f.dl,WL WK f.tick],WL WN 0]) (by simp [results,results46,go_sem,r0,r1,r2,r3]) rfl ⟨_,⟨rfl,g2,qV,rfl⟩,(((((HT.set 1 0 rfl 0 _).set 1 0 rfl 1 _).set 1 0 rfl 2 _).set 1 0 rfl 3 _).p [0])⟩
end
end
end Go.Proofs.YtcneeepdclgdcaaGreat
