import Derived.Test.YtikpbibeagbccaaGreatGV24
import Derived.Test.YtikpbibeagbccaaGreatGV9
import Derived.Test.YtikpbibeagbccaaGreatGV14
set_option maxRecDepth 100000
set_option maxHeartbeats 4000000
namespace Go.Proofs.YtikpbibeagbccaaGreat
set_option linter.unusedVariables false
set_option linter.unusedSimpArgs false
open Go.Proofs.Tryz
section
open Go.RowKit Go.Shelf Go.Conc
theorem TG.setChan {h H:GH} {w w':World} (a:TG h w H w') (i:Nat) {c:Nat} {o:Obj} (hi:i<H.length) (hg:H.getD i []=[(c,o)]) (cap:Nat) (buf:Array Value) (cl:Bool) (s r:Nat) (tm:Bool) :
 TG h w (H.set i [(c,.chan cap buf cl s r tm)]) (w'.setChan c cap buf cl s r tm):=by
 have hl:=a.lt i 0 (p:=(c,o)) (by rw [hg];rfl);exact a.turn (pre:=[]) (post:=[]) (o':=.chan cap buf cl s r tm) (w'':=w'.setChan c cap buf cl s r tm) i hi hg (heap_setChan w' c cap buf cl s r tm hl) (fun k hk=>by simp only [World.setChan];rw [Array.getElem?_setIfInBounds_ne (fun e=>hk e.symm)]) (size_setChan _ _ _ _ _ _ _ _) rfl rfl rfl
theorem qaf (w:World):(zeroValue 82).run prog w=.ok (.agg #[.int .u64 0,.int .u64 0,.int .u64 0,.int .u64 0]) w:=by kernel_rfl
section
variable {pb:Nat} {p:Qy} {g:List Blk}
theorem qda (hg:Xs pb p g) (v:Q7) (hr:p.ch.length<p.room):Qa prog 201 #[Qb pb,.agg v.vals.toArray] [g] fun e gs =>
 e=.returned (.bool true)∧∃ g',Xs pb { p with ch:=p.ch++[v] } g'∧gs=[g']:=by
 obtain ⟨cb,lb,hb,a,b,l,gl,h1,h2,rfl⟩:=hg;refine GO fun w HT=>?_
 have HT:=Vh (HT.out.sum (H':=[Xn pb cb lb p,[(cb,.chan p.room (p.ch.map fun f=>Value.agg f.vals.toArray).toArray false a b false)],gl]));have H1:=Vh h1;have H2:=Vh h2;have c0:=HT.out.cell 0 0 rfl 0;simp only [Xn,GE3] at c0;have hch:=HT.out.obj 1 0 rfl;simp only [] at hch;have lt:=HT.out.lt 0 0 rfl;simp only [] at lt;clear h1 h2;simp only [Q7.vals];refine J8 func201 rfl ?_
 simp only [ntmps201,List.size_toArray,List.length_cons,List.length_nil,Nat.reduceAdd,Nat.reduceSub,Array.replicate_succ,Array.replicate_zero,List.push_toArray,List.append_toArray,List.nil_append,List.cons_append];refine X2 (Q4 ?_)
 go_wp2
 have HT:=Vh (HT.out.alloc (k:=w.heap.size) rfl 82 #[.int .u64 v.id,.int .u64 v.gen,.int .u64 v.dl,.int .u64 v.tick]);clear c0 hch;generalize w.alloc _=w1 at HT ⊢;have c0:=HT.out.cell 0 0 rfl 0;simp only [Xn,GE3] at c0;obtain ⟨b0,b1,b2,b3⟩:=Ce4 (HT.out.cell 3 0 rfl) 0 1 2 3;simp only [GE4] at b0 b1 b2 b3;have hch:=HT.out.obj 1 0 rfl;simp only [] at hch;refine X2 (Q4 ?_)
 go_wp2
 refine X2 ?_
 refine Z4 (cases:=#[scase cb (.agg #[.int .u64 v.id,.int .u64 v.gen,.int .u64 v.dl,.int .u64 v.tick]) (.agg #[.int .u64 0,.int .u64 0,.int .u64 0,.int .u64 0])]) (blocking:=false) (shape:=.select) (v:=.tuple #[goInt 0,.bool false]) (w1:=w1) (w':=w1.setChan cb p.room ((p.ch.map fun f=>Value.agg f.vals.toArray).toArray.push (.agg #[.int .u64 v.id,.int .u64 v.gen,.int .u64 v.dl,.int .u64 v.tick])) false (a+1) b false) rfl ?_ (fun fr cs es h=>step_lone_select_send_room h hch (by simpa using hr)) ?_
 ·have hz:=fun w=>qaf w
  simp [go_sem,execOp,scase,Act.eval,hz]
 ·have HT:=Vh (HT.out.setChan 1 (by simp) rfl p.room ((p.ch.map fun f=>Value.agg f.vals.toArray).toArray.push (.agg #[.int .u64 v.id,.int .u64 v.gen,.int .u64 v.dl,.int .u64 v.tick])) false (a+1) b false)
  generalize World.setChan _ _ _ _ _ _ _ _=w2 at HT ⊢;simp only [goInt];go_wp2
  refine Q4 ?_
  go_wp2
  go_ret
  exact ⟨_,⟨rfl,_,⟨cb,lb,hb,a+1,b,l,gl,H1.out,H2.out,rfl⟩,rfl⟩,(HT.out.pick [0,1,2] rfl).eq (by simp [qaj,Q7.vals])⟩
theorem qld (hg:Xs pb p g) (v:Q7) (hr:p.room≤p.ch.length):Qa prog 201 #[Qb pb,.agg v.vals.toArray] [g] fun e gs =>
 e=.returned (.bool false)∧∃ g',Xs pb p g'∧gs=[g']:=by
 obtain ⟨cb,lb,hb,a,b,l,gl,h1,h2,rfl⟩:=hg;refine GO fun w HT=>?_
 have HT:=Vh (HT.out.sum (H':=[Xn pb cb lb p,[(cb,.chan p.room (p.ch.map fun f=>Value.agg f.vals.toArray).toArray false a b false)],gl]));have H1:=Vh h1;have H2:=Vh h2;have c0:=HT.out.cell 0 0 rfl 0;simp only [Xn,GE3] at c0;have hch:=HT.out.obj 1 0 rfl;simp only [] at hch;have lt:=HT.out.lt 0 0 rfl;simp only [] at lt;clear h1 h2;simp only [Q7.vals];refine J8 func201 rfl ?_
 simp only [ntmps201,List.size_toArray,List.length_cons,List.length_nil,Nat.reduceAdd,Nat.reduceSub,Array.replicate_succ,Array.replicate_zero,List.push_toArray,List.append_toArray,List.nil_append,List.cons_append];refine X2 (Q4 ?_)
 go_wp2
 have HT:=Vh (HT.out.alloc (k:=w.heap.size) rfl 82 #[.int .u64 v.id,.int .u64 v.gen,.int .u64 v.dl,.int .u64 v.tick]);clear c0 hch;generalize w.alloc _=w1 at HT ⊢;have c0:=HT.out.cell 0 0 rfl 0;simp only [Xn,GE3] at c0;obtain ⟨b0,b1,b2,b3⟩:=Ce4 (HT.out.cell 3 0 rfl) 0 1 2 3;simp only [GE4] at b0 b1 b2 b3;have hch:=HT.out.obj 1 0 rfl;simp only [] at hch;refine X2 (Q4 ?_)
 go_wp2
 refine X2 ?_
 refine Z4 (cases:=#[scase cb (.agg #[.int .u64 v.id,.int .u64 v.gen,.int .u64 v.dl,.int .u64 v.tick]) (.agg #[.int .u64 0,.int .u64 0,.int .u64 0,.int .u64 0])]) (blocking:=false) (shape:=.select) (v:=.tuple #[goInt (-1),.bool false]) (w1:=w1) (w':=w1) rfl ?_ (fun fr cs es h=>step_lone_select_send_full h hch (by simpa using hr)) ?_
 ·have hz:=fun w=>qaf w
  simp [go_sem,execOp,scase,Act.eval,hz]
 ·simp only [goInt]
  go_wp2
  refine Q4 ?_
  go_wp2
  go_ret
  exact ⟨_,⟨rfl,_,⟨cb,lb,hb,a,b,l,gl,H1.out,H2.out,rfl⟩,rfl⟩,(HT.out.pick [0,1,2] rfl).eq (by simp [qaj,Q7.vals])⟩
end
end
section
open Go.RowKit Go.Shelf
def Qy.put (p:Qy) (v:Q7):Qy × Bool × Int :=
 if p.shut=true then (p,false,3)
 else if p.sp=[]∧p.ch.length<p.room then ({ p with ch:=p.ch++[v] },false,0)
 else ({ p with sp:=p.sp++[v],most:=max p.most (p.sp.length+1) },true,0)
theorem qf3 {lb hb:Nat} {l:List Nd} {g:List Blk} (hg:Jw lb hb l g) (hn:l.length≤1000000000) (v:Q7) :
 Qa prog 301 #[Qb lb,.agg v.vals.toArray] [g] fun e gs=>∃ nb g',e=.returned (Qb nb)∧Jw lb hb (l++[⟨nb,v.vals⟩]) g'∧gs=[g']:=by
 have HP:=Vh (show ∀ nb,_ from fun nb=>qpx hg hn nb (.int .u64 v.id) (.int .u64 v.gen) (.int .u64 v.dl) (.int .u64 v.tick) (.pointer none) (.pointer none));refine GO fun w HT=>?_
 simp only [Q7.vals];clear hg hn;go_enter func301,ntmps301
 go_wp2_with fail
 obtain ⟨nb,hnb⟩:∃ nb,nb=w.heap.size+1:=⟨_,rfl⟩;have HT:=Vh ((HT.out.alloc0 (.cells #[.int .u64 v.id,.int .u64 v.gen,.int .u64 v.dl,.int .u64 v.tick] 82)).alloc (k:=nb) (by rw [hnb];simp) 300 #[.int .u64 v.id,.int .u64 v.gen,.int .u64 v.dl,.int .u64 v.tick,.pointer none,.pointer none,.pointer none]);rw [← hnb];clear hnb;generalize World.alloc (World.alloc w _) _=w1 at HT ⊢;go_wp2_with fail
 refine (Qa.use (HP.out nb) (HT.out) [0,1] rfl rfl).mono ?_
 rintro e w1 ⟨gs,⟨rfl,g1,hg1,rfl⟩,Ta⟩;simp only [PU] at Ta;have HG:=Vh hg1;clear hg1;have HT:=Vh Ta;clear Ta;go_wp2
 go_ret
 exact ⟨_,⟨nb,g1,rfl,HG.out,rfl⟩,HT.out.pick [0] rfl⟩
section
variable {pb:Nat} {p:Qy} {g:List Blk}
theorem qj7 (hg:Xs pb p g) (hn:p.ch.length≤1000000∧p.sp.length≤1000000):Qe prog 71 #[Qb pb] [g] (.int .i64 ((p.ch.length:Int)+p.sp.length)):=by
 obtain ⟨cb,lb,hb,a,b,l,gl,h1,h2,rfl⟩:=hg
 have hll:l.length=p.sp.length:=by
  have:=congrArg List.length h2;simpa using this
 refine GO fun w HT=>?_
 have HT:=Vh (HT.out.sum (H':=[Xn pb cb lb p,[(cb,.chan p.room (p.ch.map fun f=>Value.agg f.vals.toArray).toArray false a b false)],gl]));have H1:=Vh h1;have H2:=Vh h2;have b1:=HT.out.obj 1 0 rfl;simp only [] at b1;have hlc:=fun m=>qmp cb p.room _ false a b (w.drewN m) b1
 simp only [List.size_toArray,List.length_map] at hlc;have HLL:=Vh (Yq h1);rw [hll] at HLL;obtain ⟨c0,c1⟩:=Ce2 (HT.out.cell 0 0 rfl) 0 1;simp only [Xn,GE3] at c0 c1;clear h1 h2 b1;generalize p.ch.length=n at *;generalize p.sp.length=m at *;obtain ⟨hn1,hn2⟩:=hn;go_enter func71,ntmps71
 go_wp2_with fail
 go_quiet ((first | (go_at_call 97;with_reducible exact Qe.quiet (HLL.out) HT.out _ [2] rfl rfl)))
 have HT:=Vh (HT.out.drewN nq);go_wp2
 go_ret
 exact ⟨rfl,_,rfl⟩
theorem Jg (v:Q7):v.vals.toArray=#[.int .u64 v.id,.int .u64 v.gen,.int .u64 v.dl,.int .u64 v.tick]:=rfl
theorem qtg (hg:Xs pb p g) (v:Q7) (hn:p.sp.length≤1000000):Qa prog 288 #[Qb pb,.agg v.vals.toArray] [g] fun e gs =>
 e=.returned (.tuple #[.bool (p.put v).2.1,.int .i64 (p.put v).2.2])∧∃ g',Xs pb (p.put v).1 g'∧gs=[g']:=by
 cases hs:p.shut with
 | true =>
   have he:p.put v=(p,false,3):=by unfold Qy.put;rw [if_pos hs]
   rw [he];obtain ⟨cb,lb,hb,a,b,l,gl,h1,h2,rfl⟩:=hg
   have hll:l.length=p.sp.length:=by
    have:=congrArg List.length h2;simpa using this
   refine GO fun w HT=>?_
   have HT:=Vh (HT.out.sum (H':=[Xn pb cb lb p,[(cb,.chan p.room (p.ch.map fun f=>Value.agg f.vals.toArray).toArray false a b false)],gl]));have H1:=Vh h1;have H2:=Vh h2;have c3:=HT.out.cell 0 0 rfl 3;simp only [Xn,hs,GE3] at c3;have lt:=HT.out.lt 0 0 rfl;simp only [] at lt;rw [Jg];clear h1 h2 he hs;go_enter func288,ntmps288
   go_wp2
   go_ret2
   exact ⟨_,⟨rfl,_,⟨cb,lb,hb,a,b,l,gl,H1.out,H2.out,rfl⟩,rfl⟩,(HT.out.alloc0 _).sum⟩
 | false =>
   by_cases hsp:p.sp=[]
   ·by_cases hr:p.ch.length<p.room
    ·have he:p.put v=({ p with ch:=p.ch++[v] },false,0):=by unfold Qy.put;rw [if_neg (by rw [hs];decide),if_pos ⟨hsp,hr⟩]
     rw [he];have hsd:=qda hg v hr;have hg0:=hg;obtain ⟨cb,lb,hb,a,b,l,gl,h1,h2,rfl⟩:=hg
     have hll:l.length=p.sp.length:=by
      have:=congrArg List.length h2;simpa using this
     refine GO fun w HT=>?_
     have HT:=Vh (HT.out.sum (H':=[Xn pb cb lb p,[(cb,.chan p.room (p.ch.map fun f=>Value.agg f.vals.toArray).toArray false a b false)],gl]));have H1:=Vh h1;have H2:=Vh h2;rw [Jg] at hsd ⊢;have HSD:=Vh hsd;have HLL:=Vh (Yq h1);rw [hll,hsp] at HLL;obtain ⟨c1,c3⟩:=Ce2 (HT.out.cell 0 0 rfl) 1 3;simp only [Xn,hs,GE3] at c1 c3;have lt:=HT.out.lt 0 0 rfl;simp only [] at lt;clear h1 h2 he hs hsd hll hsp hg0;go_enter func288,ntmps288
     go_wp2_with fail
     obtain ⟨vb,hvb⟩:∃ vb,vb=w.heap.size:=⟨_,rfl⟩;have HT:=Vh (HT.out.alloc (k:=vb) hvb 82 #[.int .u64 v.id,.int .u64 v.gen,.int .u64 v.dl,.int .u64 v.tick]);rw [← hvb];clear c1 c3 lt hvb;generalize World.alloc w _=w1 at HT ⊢;go_wp2_with fail
     refine (Qe.use (HLL.out) (HT.out) [2] rfl rfl).mono ?_
     rintro e w1 ⟨rfl,mq,rfl⟩;have HT:=Vh (HT.out.drewN mq);generalize World.drewN _ _=wq at HT ⊢;obtain ⟨a0,a1,a2,a3⟩:=Ce4 (HT.out.cell 3 0 rfl) 0 1 2 3;simp only [GE4] at a0 a1 a2 a3;go_wp2_with fail
     refine (Qa.use (HSD.out) (HT.out.sum (H':=[Xn pb cb lb p++([(cb,.chan p.room (p.ch.map fun f=>Value.agg f.vals.toArray).toArray false a b false)]++gl),[cl vb 82 #[.int .u64 v.id,.int .u64 v.gen,.int .u64 v.dl,.int .u64 v.tick]]])) [0] rfl rfl).mono ?_
     rintro e w1 ⟨gs,⟨rfl,g1,hg1,rfl⟩,Ta⟩;simp only [PU] at Ta;have HG:=Vh hg1;clear hg1 a0 a1 a2 a3;have HT:=Vh Ta;clear Ta;go_wp2
     go_ret2
     exact ⟨_,⟨rfl,g1,HG.out,rfl⟩,HT.out.pick [0] rfl⟩
    ·have he:p.put v=({ p with sp:=p.sp++[v],most:=max p.most ((p.sp.length:Int)+1) },true,0):=by unfold Qy.put;rw [if_neg (by rw [hs];decide),if_neg (fun h=>hr h.2)]
     rw [he];obtain ⟨M,hM⟩:∃ M,max p.most ((p.sp.length:Int)+1)=M:=⟨_,rfl⟩;rw [hM]
     have hpu:∀ lb hb l gl,Jw lb hb l gl→l.map Nd.v=p.sp.map Q7.vals→_:=fun lb hb l gl h1 h2=>qf3 h1 (by
      have:=congrArg List.length h2;simp only [List.length_map] at this
      omega) v
     have hln:∀ lb hb (l:List Nd) nb g',l.map Nd.v=p.sp.map Q7.vals→Jw lb hb (l++[⟨nb,v.vals⟩]) g'→Qe prog 97 #[Qb lb] [g'] (.int .i64 ((p.sp.length:Int)+1)):=fun lb hb l nb g' h2 h=>by
      have:=Yq h;have e:=congrArg List.length h2;simp only [List.length_map] at e;rw [List.length_append,e] at this;exact this
     rw [Jg] at hpu ⊢;have HPU:=Vh hpu;have HLN:=Vh hln;have HM:=Vh hM;have hsd:=qld hg v (by omega);obtain ⟨cb,lb,hb,a,b,l,gl,h1,h2,rfl⟩:=hg
     have hll:l.length=p.sp.length:=by
      have:=congrArg List.length h2;simpa using this
     refine GO fun w HT=>?_
     have HT:=Vh (HT.out.sum (H':=[Xn pb cb lb p,[(cb,.chan p.room (p.ch.map fun f=>Value.agg f.vals.toArray).toArray false a b false)],gl]));have H1:=Vh h1;have H2:=Vh h2;rw [Jg] at hsd;have HSD:=Vh hsd;have HLL:=Vh (Yq h1);rw [hll,hsp] at HLL;obtain ⟨c1,c3⟩:=Ce2 (HT.out.cell 0 0 rfl) 1 3;simp only [Xn,hs,GE3] at c1 c3;have lt:=HT.out.lt 0 0 rfl;simp only [] at lt;clear h1 h2 he hs hsd hll hsp hpu hln hr;generalize (p.sp.length:Int)=n at *;go_enter func288,ntmps288
     go_wp2_with fail
     obtain ⟨vb,hvb⟩:∃ vb,vb=w.heap.size:=⟨_,rfl⟩;have HT:=Vh (HT.out.alloc (k:=vb) hvb 82 #[.int .u64 v.id,.int .u64 v.gen,.int .u64 v.dl,.int .u64 v.tick]);rw [← hvb];clear c1 c3 lt hvb;generalize World.alloc w _=w1 at HT ⊢;go_wp2_with fail
     refine (Qe.use (HLL.out) (HT.out) [2] rfl rfl).mono ?_
     rintro e w1 ⟨rfl,mq,rfl⟩;have HT:=Vh (HT.out.drewN mq);generalize World.drewN _ _=wq at HT ⊢;obtain ⟨a0,a1,a2,a3⟩:=Ce4 (HT.out.cell 3 0 rfl) 0 1 2 3;simp only [GE4] at a0 a1 a2 a3;go_wp2_with fail
     refine (Qa.use (HSD.out) (HT.out.sum (H':=[Xn pb cb lb p++([(cb,.chan p.room (p.ch.map fun f=>Value.agg f.vals.toArray).toArray false a b false)]++gl),[cl vb 82 #[.int .u64 v.id,.int .u64 v.gen,.int .u64 v.dl,.int .u64 v.tick]]])) [0] rfl rfl).mono ?_
     rintro e w1 ⟨gs,⟨rfl,g1,hg1,rfl⟩,Ta⟩;simp only [PU] at Ta;clear a0 a1 a2 a3;have HT:=Vh Ta;clear Ta;obtain ⟨cb,lb,hb,a,b,l,gl,h1,h2,rfl⟩:=hg1;have HT:=Vh (HT.out.sum (H':=[Xn pb cb lb p,[(cb,.chan p.room (p.ch.map fun f=>Value.agg f.vals.toArray).toArray false a b false)],gl,[cl vb 82 #[.int .u64 v.id,.int .u64 v.gen,.int .u64 v.dl,.int .u64 v.tick]]]));have H1:=Vh h1;have H2:=Vh h2;clear h1 h2;have HP1:=Vh (HPU.out _ _ _ _ H1.out H2.out);obtain ⟨a0,a1,a2,a3⟩:=Ce4 (HT.out.cell 3 0 rfl) 0 1 2 3;simp only [GE4] at a0 a1 a2 a3;have c1:=HT.out.cell 0 0 rfl 1;simp only [Xn,GE3] at c1;go_wp2_with fail
     refine Qc 5 (by kernel_rfl) (by kernel_rfl) ?_
     simp only [TD4]
     repeat (go_big_quiet_step ((fail)))
     refine wpQuiet_nil (QE fun nq=>?_)
     have HT:=Vh (HT.out.drewN nq);go_wp2_with fail
     refine (Qa.use (HP1.out) (HT.out) [2] rfl rfl).mono ?_
     rintro e w1 ⟨gs,⟨nb,g1,rfl,hg1,rfl⟩,Ta⟩;simp only [PU] at Ta;have HG:=Vh hg1;have HL1:=Vh (HLN.out _ _ _ nb g1 H2.out hg1);clear hg1 a0 a1 a2 a3 c1;have HT:=Vh Ta;clear Ta;go_wp2_with fail
     refine ⟨rfl,?_⟩
     obtain ⟨c1,c2⟩:=Ce2 (HT.out.cell 0 0 rfl) 1 2;have fc2:=HT.out.free 0 0 rfl 2;simp only [Xn,GE3] at c1 c2;have HM1:=HM.out;clear hM HPU HLN HP1;by_cases hmx:p.most<n+1
     ·obtain rfl:M=n+1:=by omega
      have hmx2:p.most≤n+1:=by omega
      clear HM HM1;go_wp2_with fail
      refine Qc 13 (by kernel_rfl) (by kernel_rfl) ?_
      simp only [TD4]
      repeat (go_big_quiet_step ((first | (go_at_call 97;with_reducible exact Qe.quiet (HL1.out) HT.out _ [2] rfl rfl))))
      refine wpQuiet_nil (QE fun nq=>?_)
      have HT:=Vh (HT.out.drewN nq);go_wp2_with fail
      refine ⟨rfl,?_⟩
      go_wp2
      go_ret2
      exact ⟨_,⟨rfl,_,⟨cb,lb,hb,a,b,_,g1,HG.out,by rw [List.map_append,H2.out,List.map_append];rfl,rfl⟩,rfl⟩,((HT.out.set 0 0 rfl 2 (.int .i64 (n+1))).pick [0,1,2] rfl).eq (H':=[Xn pb cb lb { p with sp:=p.sp++[v],most:=n+1 }++([(cb,.chan p.room (p.ch.map fun f=>Value.agg f.vals.toArray).toArray false a b false)]++g1)]) (by simp [qaj,Xn])⟩
     ·obtain rfl:M=p.most:=by omega
      have hmx2:n+1≤p.most:=by omega
      clear HM HM1;go_wp2_with fail
      refine Qc 13 (by kernel_rfl) (by kernel_rfl) ?_
      simp only [TD4]
      repeat (go_big_quiet_step ((first | (go_at_call 97;with_reducible exact Qe.quiet (HL1.out) HT.out _ [2] rfl rfl))))
      refine wpQuiet_nil (QE fun nq=>?_)
      have HT:=Vh (HT.out.drewN nq);go_wp2_with fail
      refine ⟨rfl,?_⟩
      go_wp2
      go_ret2
      exact ⟨_,⟨rfl,_,⟨cb,lb,hb,a,b,_,g1,HG.out,by rw [List.map_append,H2.out,List.map_append];rfl,rfl⟩,rfl⟩,((HT.out.set 0 0 rfl 2 (.int .i64 p.most)).pick [0,1,2] rfl).eq (H':=[Xn pb cb lb { p with sp:=p.sp++[v],most:=p.most }++([(cb,.chan p.room (p.ch.map fun f=>Value.agg f.vals.toArray).toArray false a b false)]++g1)]) (by simp [qaj,Xn])⟩
   ·have he:p.put v=({ p with sp:=p.sp++[v],most:=max p.most ((p.sp.length:Int)+1) },true,0):=by unfold Qy.put;rw [if_neg (by rw [hs];decide),if_neg (fun h=>hsp h.1)]
    rw [he];obtain ⟨M,hM⟩:∃ M,max p.most ((p.sp.length:Int)+1)=M:=⟨_,rfl⟩;rw [hM]
    have hpu:∀ lb hb l gl,Jw lb hb l gl→l.map Nd.v=p.sp.map Q7.vals→_:=fun lb hb l gl h1 h2=>qf3 h1 (by
     have:=congrArg List.length h2;simp only [List.length_map] at this
     omega) v
    have hln:∀ lb hb (l:List Nd) nb g',l.map Nd.v=p.sp.map Q7.vals→Jw lb hb (l++[⟨nb,v.vals⟩]) g'→Qe prog 97 #[Qb lb] [g'] (.int .i64 ((p.sp.length:Int)+1)):=fun lb hb l nb g' h2 h=>by
     have:=Yq h;have e:=congrArg List.length h2;simp only [List.length_map] at e;rw [List.length_append,e] at this;exact this
    rw [Jg] at hpu ⊢;have HPU:=Vh hpu;have HLN:=Vh hln;have HM:=Vh hM;obtain ⟨cb,lb,hb,a,b,l,gl,h1,h2,rfl⟩:=hg
    have hll:l.length=p.sp.length:=by
     have:=congrArg List.length h2;simpa using this
    refine GO fun w HT=>?_
    have HT:=Vh (HT.out.sum (H':=[Xn pb cb lb p,[(cb,.chan p.room (p.ch.map fun f=>Value.agg f.vals.toArray).toArray false a b false)],gl]));have H1:=Vh h1;have H2:=Vh h2;have HLL:=Vh (Yq h1);rw [hll] at HLL
    have hz:(((p.sp.length:Nat):Int) == 0)=false:=beq_eq_false_iff_ne.2 (by
     intro h0;have:p.sp.length=0:=by omega
     exact hsp (List.eq_nil_of_length_eq_zero this))
    obtain ⟨c1,c3⟩:=Ce2 (HT.out.cell 0 0 rfl) 1 3;simp only [Xn,hs,GE3] at c1 c3;have lt:=HT.out.lt 0 0 rfl;simp only [] at lt;clear h1 h2 he hs hll hsp hpu hln;generalize (p.sp.length:Int)=n at *;go_enter func288,ntmps288
    go_wp2_with fail
    obtain ⟨vb,hvb⟩:∃ vb,vb=w.heap.size:=⟨_,rfl⟩;have HT:=Vh (HT.out.alloc (k:=vb) hvb 82 #[.int .u64 v.id,.int .u64 v.gen,.int .u64 v.dl,.int .u64 v.tick]);rw [← hvb];clear c1 c3 lt hvb;generalize World.alloc w _=w1 at HT ⊢;go_wp2_with fail
    refine (Qe.use (HLL.out) (HT.out) [2] rfl rfl).mono ?_
    rintro e w1 ⟨rfl,mq,rfl⟩;have HT:=Vh (HT.out.drewN mq);generalize World.drewN _ _=wq at HT ⊢;have HP1:=Vh (HPU.out _ _ _ _ H1.out H2.out);obtain ⟨a0,a1,a2,a3⟩:=Ce4 (HT.out.cell 3 0 rfl) 0 1 2 3;simp only [GE4] at a0 a1 a2 a3;have c1:=HT.out.cell 0 0 rfl 1;simp only [Xn,GE3] at c1;go_wp2_with fail
    refine Qc 5 (by kernel_rfl) (by kernel_rfl) ?_
    simp only [TD4]
    repeat (go_big_quiet_step ((fail)))
    refine wpQuiet_nil (QE fun nq=>?_)
    have HT:=Vh (HT.out.drewN nq);go_wp2_with fail
    refine (Qa.use (HP1.out) (HT.out) [2] rfl rfl).mono ?_
    rintro e w1 ⟨gs,⟨nb,g1,rfl,hg1,rfl⟩,Ta⟩;simp only [PU] at Ta;have HG:=Vh hg1;have HL1:=Vh (HLN.out _ _ _ nb g1 H2.out hg1);clear hg1 a0 a1 a2 a3 c1;have HT:=Vh Ta;clear Ta;go_wp2_with fail
    refine ⟨rfl,?_⟩
    obtain ⟨c1,c2⟩:=Ce2 (HT.out.cell 0 0 rfl) 1 2;have fc2:=HT.out.free 0 0 rfl 2;simp only [Xn,GE3] at c1 c2;have HM1:=HM.out;clear hM HPU HLN HP1;by_cases hmx:p.most<n+1
    ·obtain rfl:M=n+1:=by omega
     have hmx2:p.most≤n+1:=by omega
     clear HM HM1;go_wp2_with fail
     refine Qc 13 (by kernel_rfl) (by kernel_rfl) ?_
     simp only [TD4]
     repeat (go_big_quiet_step ((first | (go_at_call 97;with_reducible exact Qe.quiet (HL1.out) HT.out _ [2] rfl rfl))))
     refine wpQuiet_nil (QE fun nq=>?_)
     have HT:=Vh (HT.out.drewN nq);go_wp2_with fail
     refine ⟨rfl,?_⟩
     go_wp2
     go_ret2
     exact ⟨_,⟨rfl,_,⟨cb,lb,hb,a,b,_,g1,HG.out,by rw [List.map_append,H2.out,List.map_append];rfl,rfl⟩,rfl⟩,((HT.out.set 0 0 rfl 2 (.int .i64 (n+1))).pick [0,1,2] rfl).eq (H':=[Xn pb cb lb { p with sp:=p.sp++[v],most:=n+1 }++([(cb,.chan p.room (p.ch.map fun f=>Value.agg f.vals.toArray).toArray false a b false)]++g1)]) (by simp [qaj,Xn])⟩
    ·obtain rfl:M=p.most:=by omega
     have hmx2:n+1≤p.most:=by omega
     clear HM HM1;go_wp2_with fail
     refine Qc 13 (by kernel_rfl) (by kernel_rfl) ?_
     simp only [TD4]
     repeat (go_big_quiet_step ((first | (go_at_call 97;with_reducible exact Qe.quiet (HL1.out) HT.out _ [2] rfl rfl))))
     refine wpQuiet_nil (QE fun nq=>?_)
     have HT:=Vh (HT.out.drewN nq);go_wp2_with fail
     refine ⟨rfl,?_⟩
     go_wp2
     go_ret2
     exact ⟨_,⟨rfl,_,⟨cb,lb,hb,a,b,_,g1,HG.out,by rw [List.map_append,H2.out,List.map_append];rfl,rfl⟩,rfl⟩,((HT.out.set 0 0 rfl 2 (.int .i64 p.most)).pick [0,1,2] rfl).eq (H':=[Xn pb cb lb { p with sp:=p.sp++[v],most:=p.most }++([(cb,.chan p.room (p.ch.map fun f=>Value.agg f.vals.toArray).toArray false a b false)]++g1)]) (by simp [qaj,Xn])⟩
end
end
section
open Go.RowKit Go.Shelf Go.Conc
def Q7.zero:Q7:=⟨0,0,0,0⟩
def Qy.take (p:Qy):Qy × Q7 × Int :=
 match p.ch,p.sp with
 | [],_=>(p,Q7.zero,6)
 | f::l,[]=>({ p with ch:=l },f,0)
 | f::l,x::sp=>({ p with ch:=l++[x],sp:=sp },f,0)
section
variable {pb:Nat} {p:Qy} {g:List Blk}
theorem qlo (hg:Xs pb p g) (he:p.ch=[]):Qa prog 158 #[Qb pb] [g] fun e gs =>
 e=.returned (.tuple #[.agg Q7.zero.vals.toArray,.int .i64 6])∧∃ g',Xs pb p g'∧gs=[g']:=by
 obtain ⟨cb,lb,hb,a,b,l,gl,h1,h2,rfl⟩:=hg;refine GO fun w HT=>?_
 have HT:=Vh (HT.out.sum (H':=[Xn pb cb lb p,[(cb,.chan p.room (p.ch.map fun f=>Value.agg f.vals.toArray).toArray false a b false)],gl]));have H1:=Vh h1;have H2:=Vh h2;clear h1 h2;refine J8 func158 rfl ?_
 simp only [ntmps158,List.size_toArray,List.length_cons,List.length_nil,Nat.reduceAdd,Nat.reduceSub,Array.replicate_succ,Array.replicate_zero,List.push_toArray,List.append_toArray,List.nil_append,List.cons_append];refine X2 (Q4 ?_)
 go_wp2
 have HT:=Vh (HT.out.alloc (k:=w.heap.size) rfl 82 #[.int .u64 0,.int .u64 0,.int .u64 0,.int .u64 0]);obtain ⟨rb,hrb⟩:∃ rb,rb=w.heap.size:=⟨_,rfl⟩;rw [← hrb] at HT ⊢;clear hrb;generalize World.alloc w _=w1 at HT ⊢;refine X2 (Q4 ?_)
 go_wp2
 have HT:=Vh (HT.out.alloc (k:=w1.heap.size) rfl 82 #[.int .u64 0,.int .u64 0,.int .u64 0,.int .u64 0]);obtain ⟨zb,hzb⟩:∃ zb,zb=w1.heap.size:=⟨_,rfl⟩;rw [← hzb] at HT ⊢;clear hzb;generalize World.alloc w1 _=w2 at HT ⊢;obtain ⟨c0,c1⟩:=Ce2 (HT.out.cell 0 0 rfl) 0 1;simp only [Xn,GE3] at c0 c1;have hch:=HT.out.obj 1 0 rfl;simp only [] at hch;refine X2 (Q4 ?_)
 go_wp2
 refine X2 (Q4 ?_)
 go_wp2
 refine X2 ?_
 rw [he] at hch;refine Z4 (cases:=#[rcase cb (.agg #[.int .u64 0,.int .u64 0,.int .u64 0,.int .u64 0])]) (blocking:=false) (shape:=.select) (v:=.tuple #[goInt (-1),.bool false,.agg #[.int .u64 0,.int .u64 0,.int .u64 0,.int .u64 0]]) (w1:=w2) (w':=w2) rfl ?_ (fun fr cs es h=>step_lone_select_default h hch) ?_
 ·have hz:=fun w=>qaf w
  simp [go_sem,execOp,rcase,Act.eval,hz]
 ·simp only [goInt]
  obtain ⟨z0,z1,z2,z3⟩:=Ce4 (HT.out.cell 4 0 rfl) 0 1 2 3;simp only [GE4] at z0 z1 z2 z3;obtain ⟨r0,r1,r2,r3⟩:=Ce4 (HT.out.cell 3 0 rfl) 0 1 2 3;obtain ⟨fr0,fr1,fr2,fr3⟩:=Ce4 (HT.out.free 3 0 rfl) 0 1 2 3;simp only [GE4] at r0 r1 r2 r3;clear c0 c1 hch;go_wp2
  refine Q4 ?_
  go_wp2
  exact bodyPost_ret (v:=.tuple #[.agg #[.int .u64 0,.int .u64 0,.int .u64 0,.int .u64 0],.int .i64 6]) (by simp [results,results158,go_sem,r0,r1,r2,r3]) rfl ⟨_,⟨rfl,_,⟨cb,lb,hb,a,b,l,gl,H1.out,H2.out,rfl⟩,rfl⟩,(((((HT.out.set 3 0 rfl 0 _).set 3 0 rfl 1 _).set 3 0 rfl 2 _).set 3 0 rfl 3 _).pick [0,1,2] rfl).sum⟩
theorem qo8 {f:Q7} {tl:List Q7} (hg:Xs pb p g) (he:p.ch=f::tl) (hs:p.sp=[]):Qa prog 158 #[Qb pb] [g] fun e gs =>
 e=.returned (.tuple #[.agg f.vals.toArray,.int .i64 0])∧∃ g',Xs pb { p with ch:=tl } g'∧gs=[g']:=by
 rw [Jg];have HCH:=Vh he;clear he;obtain ⟨cb,lb,hb,a,b,l,gl,h1,h2,rfl⟩:=hg;refine GO fun w HT=>?_
 have HT:=Vh (HT.out.sum (H':=[Xn pb cb lb p,[(cb,.chan p.room (p.ch.map fun f=>Value.agg f.vals.toArray).toArray false a b false)],gl]));have H1:=Vh h1;have H2:=Vh h2;clear h1 h2;refine J8 func158 rfl ?_
 simp only [ntmps158,List.size_toArray,List.length_cons,List.length_nil,Nat.reduceAdd,Nat.reduceSub,Array.replicate_succ,Array.replicate_zero,List.push_toArray,List.append_toArray,List.nil_append,List.cons_append];refine X2 (Q4 ?_)
 go_wp2
 have HT:=Vh (HT.out.alloc (k:=w.heap.size) rfl 82 #[.int .u64 0,.int .u64 0,.int .u64 0,.int .u64 0]);obtain ⟨rb,hrb⟩:∃ rb,rb=w.heap.size:=⟨_,rfl⟩;rw [← hrb] at HT ⊢;clear hrb;generalize World.alloc w _=w1 at HT ⊢;refine X2 (Q4 ?_)
 go_wp2
 have HT:=Vh (HT.out.alloc (k:=w1.heap.size) rfl 82 #[.int .u64 0,.int .u64 0,.int .u64 0,.int .u64 0]);obtain ⟨zb,hzb⟩:∃ zb,zb=w1.heap.size:=⟨_,rfl⟩;rw [← hzb] at HT ⊢;clear hzb;generalize World.alloc w1 _=w2 at HT ⊢;obtain ⟨c0,c1⟩:=Ce2 (HT.out.cell 0 0 rfl) 0 1;simp only [Xn,GE3] at c0 c1;have hch:=HT.out.obj 1 0 rfl;simp only [] at hch;refine X2 (Q4 ?_)
 go_wp2
 refine X2 (Q4 ?_)
 go_wp2
 refine X2 ?_
 rw [HCH.out] at hch;simp only [List.map_cons] at hch;rw [Jg] at hch
 refine Z4 (cases:=#[rcase cb (.agg #[.int .u64 0,.int .u64 0,.int .u64 0,.int .u64 0])]) (blocking:=false) (shape:=.select) (v:=.tuple #[goInt 0,.bool true,.agg #[.int .u64 f.id,.int .u64 f.gen,.int .u64 f.dl,.int .u64 f.tick]]) (w1:=w2) (w':=w2.setChan cb p.room (tl.map fun f=>Value.agg f.vals.toArray).toArray false a (b+1) false) rfl ?_ (fun fr cs es h=>by
  have:=step_lone_select_recv_buf h hch (by simp)
  simpa [List.take_of_length_le] using this) ?_
 ·have hz:=fun w=>qaf w
  simp [go_sem,execOp,rcase,Act.eval,hz]
 have HT:=Vh (HT.out.setChan 1 (by simp) rfl p.room (tl.map fun f=>Value.agg f.vals.toArray).toArray false a (b+1) false);generalize World.setChan _ _ _ _ _ _ _ _=w3 at HT ⊢;clear c0 c1 hch;simp only [goInt];have c1:=HT.out.cell 0 0 rfl 1;simp only [Xn,GE3] at c1;have lt:=HT.out.lt 0 0 rfl;simp only [] at lt;go_wp2
 refine Q4 ?_
 go_wp2_with fail
 have HT:=Vh (HT.out.alloc (k:=w3.heap.size) rfl 82 #[.int .u64 f.id,.int .u64 f.gen,.int .u64 f.dl,.int .u64 f.tick]);obtain ⟨vb,hvb⟩:∃ vb,vb=w3.heap.size:=⟨_,rfl⟩;rw [← hvb] at HT ⊢;clear hvb lt c1;generalize World.alloc w3 _=w4 at HT ⊢;go_wp2_with fail
 refine (Qe.use (qc6 H1.out) (HT.out) [2] rfl rfl).mono ?_
 rintro e w1 ⟨rfl,mq,rfl⟩;have HT:=Vh (HT.out.drewN mq);generalize World.drewN _ _=wq at HT ⊢
 have hl:l=[]:=by
  have:=H2.out;rw [hs] at this;simpa using this
 subst hl;simp only [nxV_nil];obtain ⟨v0,v1,v2,v3⟩:=Ce4 (HT.out.cell 5 0 rfl) 0 1 2 3;simp only [GE4] at v0 v1 v2 v3;obtain ⟨r0,r1,r2,r3⟩:=Ce4 (HT.out.cell 3 0 rfl) 0 1 2 3;obtain ⟨fr0,fr1,fr2,fr3⟩:=Ce4 (HT.out.free 3 0 rfl) 0 1 2 3;simp only [GE4] at r0 r1 r2 r3;have ne1:=HT.out.ne 3 0 5 0 (by decide) rfl rfl;simp only [] at ne1;have ne2:=Ne.symm ne1;go_wp2
 exact bodyPost_ret (v:=.tuple #[.agg #[.int .u64 f.id,.int .u64 f.gen,.int .u64 f.dl,.int .u64 f.tick],.int .i64 0]) (by simp [results,results158,go_sem,r0,r1,r2,r3]) rfl ⟨_,⟨rfl,_,⟨cb,lb,hb,a,b+1,[],gl,H1.out,H2.out,rfl⟩,rfl⟩,(((((HT.out.set 3 0 rfl 0 _).set 3 0 rfl 1 _).set 3 0 rfl 2 _).set 3 0 rfl 3 _).pick [0,1,2] rfl).sum⟩
theorem qpu {f x:Q7} {tl sp':List Q7} (hg:Xs pb p g) (he:p.ch=f::tl) (hs:p.sp=x::sp') (hr:tl.length<p.room) (hn:sp'.length≤1000000):Qa prog 158 #[Qb pb] [g] fun e gs =>
 e=.returned (.tuple #[.agg f.vals.toArray,.int .i64 0])∧∃ g',Xs pb { p with ch:=tl++[x],sp:=sp' } g'∧gs=[g']:=by
 have hsd:∀ g1,Xs pb { p with ch:=tl,sp:=sp' } g1→_:=fun g1 h=>qda h x hr
 rw [Jg] at hsd ⊢;have HCH:=Vh he;clear he;obtain ⟨cb,lb,hb,a,b,l,gl,h1,h2,rfl⟩:=hg;refine GO fun w HT=>?_
 have HT:=Vh (HT.out.sum (H':=[Xn pb cb lb p,[(cb,.chan p.room (p.ch.map fun f=>Value.agg f.vals.toArray).toArray false a b false)],gl]));have H1:=Vh h1;have H2:=Vh h2;clear h1 h2;refine J8 func158 rfl ?_
 simp only [ntmps158,List.size_toArray,List.length_cons,List.length_nil,Nat.reduceAdd,Nat.reduceSub,Array.replicate_succ,Array.replicate_zero,List.push_toArray,List.append_toArray,List.nil_append,List.cons_append];refine X2 (Q4 ?_)
 go_wp2
 have HT:=Vh (HT.out.alloc (k:=w.heap.size) rfl 82 #[.int .u64 0,.int .u64 0,.int .u64 0,.int .u64 0]);obtain ⟨rb,hrb⟩:∃ rb,rb=w.heap.size:=⟨_,rfl⟩;rw [← hrb] at HT ⊢;clear hrb;generalize World.alloc w _=w1 at HT ⊢;refine X2 (Q4 ?_)
 go_wp2
 have HT:=Vh (HT.out.alloc (k:=w1.heap.size) rfl 82 #[.int .u64 0,.int .u64 0,.int .u64 0,.int .u64 0]);obtain ⟨zb,hzb⟩:∃ zb,zb=w1.heap.size:=⟨_,rfl⟩;rw [← hzb] at HT ⊢;clear hzb;generalize World.alloc w1 _=w2 at HT ⊢;obtain ⟨c0,c1⟩:=Ce2 (HT.out.cell 0 0 rfl) 0 1;simp only [Xn,GE3] at c0 c1;have hch:=HT.out.obj 1 0 rfl;simp only [] at hch;refine X2 (Q4 ?_)
 go_wp2
 refine X2 (Q4 ?_)
 go_wp2
 refine X2 ?_
 have HSD:=Vh hsd;clear hsd;rw [HCH.out] at hch;simp only [List.map_cons] at hch;rw [Jg] at hch
 refine Z4 (cases:=#[rcase cb (.agg #[.int .u64 0,.int .u64 0,.int .u64 0,.int .u64 0])]) (blocking:=false) (shape:=.select) (v:=.tuple #[goInt 0,.bool true,.agg #[.int .u64 f.id,.int .u64 f.gen,.int .u64 f.dl,.int .u64 f.tick]]) (w1:=w2) (w':=w2.setChan cb p.room (tl.map fun f=>Value.agg f.vals.toArray).toArray false a (b+1) false) rfl ?_ (fun fr cs es h=>by
  have:=step_lone_select_recv_buf h hch (by simp)
  simpa [List.take_of_length_le] using this) ?_
 ·have hz:=fun w=>qaf w
  simp [go_sem,execOp,rcase,Act.eval,hz]
 have HT:=Vh (HT.out.setChan 1 (by simp) rfl p.room (tl.map fun f=>Value.agg f.vals.toArray).toArray false a (b+1) false);generalize World.setChan _ _ _ _ _ _ _ _=w3 at HT ⊢;clear c0 c1 hch;simp only [goInt];have c1:=HT.out.cell 0 0 rfl 1;simp only [Xn,GE3] at c1;have lt:=HT.out.lt 0 0 rfl;simp only [] at lt;go_wp2
 refine Q4 ?_
 go_wp2_with fail
 have HT:=Vh (HT.out.alloc (k:=w3.heap.size) rfl 82 #[.int .u64 f.id,.int .u64 f.gen,.int .u64 f.dl,.int .u64 f.tick]);obtain ⟨vb,hvb⟩:∃ vb,vb=w3.heap.size:=⟨_,rfl⟩;rw [← hvb] at HT ⊢;clear hvb lt c1;generalize World.alloc w3 _=w4 at HT ⊢;go_wp2_with fail
 refine (Qe.use (qc6 H1.out) (HT.out) [2] rfl rfl).mono ?_
 rintro e w1 ⟨rfl,mq,rfl⟩;have HT:=Vh (HT.out.drewN mq);generalize World.drewN _ _=wq at HT ⊢
 obtain ⟨yb,l',rfl,hl'⟩:∃ yb l',l=⟨yb,x.vals⟩::l'∧l'.map Nd.v=sp'.map Q7.vals:=by
  have h2:=H2.out;rw [hs] at h2;cases l with
  | nil=>cases h2
  | cons y l' =>
    simp only [List.map_cons,List.cons.injEq] at h2;obtain ⟨yb,yv⟩:=y;exact ⟨yb,l',by rw [← h2.1],h2.2⟩
 have hln:l'.length≤1000000000:=by
  have:=congrArg List.length hl';simp only [List.length_map] at this;omega
 have HUL:=Vh (qhk yb H1.out hln);have HL':=Vh hl';clear hl' hln;simp only [nxV_cons];have c1:=HT.out.cell 0 0 rfl 1;simp only [Xn,GE3] at c1;go_wp2_with fail
 refine (Qa.use (HUL.out) (HT.out) [2] rfl rfl).mono ?_
 rintro e w1 ⟨gs,⟨rfl,g1,hg1,rfl⟩,Ta⟩;simp only [PU] at Ta;have HG1:=Vh hg1;clear hg1 c1;have HT:=Vh Ta;clear Ta;have HIP:=Vh (show Xs pb { p with ch:=tl,sp:=sp' } (Xn pb cb lb p++([(cb,.chan p.room (tl.map fun f=>Value.agg f.vals.toArray).toArray false a (b+1) false)]++g1)) from ⟨cb,lb,hb,a,b+1,l',g1,HG1.out,HL'.out,rfl⟩);obtain ⟨n0,n1,n2,n3⟩:=Ce4 (HT.out.cell 6 0 rfl) 0 1 2 3;simp only [GE4] at n0 n1 n2 n3;go_wp2_with fail
 refine (Qa.use (HSD.out _ HIP.out) (HT.out.sum (H':=[Xn pb cb lb p++([(cb,.chan p.room (tl.map fun f=>Value.agg f.vals.toArray).toArray false a (b+1) false)]++g1),[cl rb 82 #[.int .u64 0,.int .u64 0,.int .u64 0,.int .u64 0]],[cl vb 82 #[.int .u64 f.id,.int .u64 f.gen,.int .u64 f.dl,.int .u64 f.tick]],[cl zb 82 #[.int .u64 0,.int .u64 0,.int .u64 0,.int .u64 0]],[cl yb 300 #[.int .u64 x.id,.int .u64 x.gen,.int .u64 x.dl,.int .u64 x.tick,.pointer none,.pointer none,.pointer none]]])) [0] rfl rfl).mono ?_
 rintro e w1 ⟨gs,⟨rfl,g2,hg2,rfl⟩,Ta⟩;simp only [PU] at Ta;have HG2:=Vh hg2;clear hg2 n0 n1 n2 n3;have HT:=Vh Ta;clear Ta;obtain ⟨v0,v1,v2,v3⟩:=Ce4 (HT.out.cell 2 0 rfl) 0 1 2 3;simp only [GE4] at v0 v1 v2 v3;obtain ⟨r0,r1,r2,r3⟩:=Ce4 (HT.out.cell 1 0 rfl) 0 1 2 3;obtain ⟨fr0,fr1,fr2,fr3⟩:=Ce4 (HT.out.free 1 0 rfl) 0 1 2 3;simp only [GE4] at r0 r1 r2 r3;have ne1:=HT.out.ne 1 0 2 0 (by decide) rfl rfl;simp only [] at ne1;have ne2:=Ne.symm ne1;go_wp2
 exact bodyPost_ret (v:=.tuple #[.agg #[.int .u64 f.id,.int .u64 f.gen,.int .u64 f.dl,.int .u64 f.tick],.int .i64 0]) (by simp [results,results158,go_sem,r0,r1,r2,r3]) rfl ⟨_,⟨rfl,g2,HG2.out,rfl⟩,(((((HT.out.set 1 0 rfl 0 _).set 1 0 rfl 1 _).set 1 0 rfl 2 _).set 1 0 rfl 3 _).pick [0] rfl)⟩
structure qm9 (p:Qy):Prop where
 ch:p.ch.length≤p.room
 sp:p.sp.length≤1000000
theorem qqi (hg:Xs pb p g) (ho:qm9 p):Qa prog 158 #[Qb pb] [g] fun e gs =>
 e=.returned (.tuple #[.agg p.take.2.1.vals.toArray,.int .i64 p.take.2.2])∧∃ g',Xs pb p.take.1 g'∧gs=[g']:=by
 cases hc:p.ch with
 | nil =>
   have e:p.take=(p,Q7.zero,6):=by unfold Qy.take;rw [hc]
   rw [e];exact qlo hg hc
 | cons f tl =>
   have h1:=ho.ch;have h2:=ho.sp;rw [hc] at h1;simp only [List.length_cons] at h1;cases hs:p.sp with
   | nil =>
     have e:p.take=({ p with ch:=tl },f,0):=by unfold Qy.take;rw [hc,hs]
     rw [e];exact qo8 hg hc hs
   | cons x sp' =>
     have e:p.take=({ p with ch:=tl++[x],sp:=sp' },f,0):=by unfold Qy.take;rw [hc,hs]
     rw [hs] at h2;simp only [List.length_cons] at h2;rw [e];exact qpu hg hc hs (by omega) (by omega)
end
end
end Go.Proofs.YtikpbibeagbccaaGreat
