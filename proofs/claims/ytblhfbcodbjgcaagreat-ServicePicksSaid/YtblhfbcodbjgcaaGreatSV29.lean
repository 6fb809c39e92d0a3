import Derived.Test.YtblhfbcodbjgcaaGreatSV23
import Derived.Test.YtblhfbcodbjgcaaGreatSV8
import Derived.Test.YtblhfbcodbjgcaaGreatSV13
namespace Go.Proofs.YtblhfbcodbjgcaaGreat
set_option linter.unusedVariables false
set_option linter.unusedSimpArgs false
section
open Go.RowKit Go.Shelf Go.Conc
theorem TG.setChan {h H:GH} {w w':World} (a:TG h w H w') (i:Nat) {c:Nat} {o:Obj} (hi:i<H.length) (hg:H.getD i []=[(c,o)]) (cap:Nat) (buf:Array Value) (cl:Bool) (s r:Nat) (tm:Bool) :
 TG h w (H.set i [(c,.chan cap buf cl s r tm)]) (w'.setChan c cap buf cl s r tm):=by
 have hl:=a.lt i 0 (p:=(c,o)) (by rw [hg];rfl)
 exact a.turn (pre:=[]) (post:=[]) (o':=.chan cap buf cl s r tm) (w'':=w'.setChan c cap buf cl s r tm) i hi hg (heap_setChan w' c cap buf cl s r tm hl) (fun k hk=>by simp only [World.setChan];rw [Array.getElem?_setIfInBounds_ne (fun e=>hk e.symm)]) (size_setChan _ _ _ _ _ _ _ _) rfl rfl rfl
theorem fire_zero (w:World):(zeroValue 69).run Tryz.prog w=.ok (.agg #[.int .u64 0,.int .u64 0,.int .u64 0,.int .u64 0]) w:=by kernel_rfl
section
variable {pb:Nat} {p:PipeS} {g:List Blk}
set_option maxRecDepth 100000 in
theorem pipeSend_yes (hg:isPipe pb p g) (v:FireS) (hr:p.ch.length<p.room):DoesG Tryz.prog 292 #[ptr' pb,.agg v.vals.toArray] [g] fun e gs =>
 e=.returned (.bool true)∧∃ g',isPipe pb { p with ch:=p.ch++[v] } g'∧gs=[g']:=by
 obtain ⟨cb,lb,hb,a,b,l,gl,h1,h2,rfl⟩:=hg
 intro w hw
 have T0:=TG.refl hw
 have HT:=Lib.hid T0
 clear hw T0
 have HT:=Lib.hid (HT.out.sum (H':=[pipeB pb cb lb p,[(cb,.chan p.room (p.ch.map fun f=>Value.agg f.vals.toArray).toArray false a b false)],gl]))
 have H1:=Lib.hid h1
 have H2:=Lib.hid h2
 have c0:=HT.out.cell 0 0 rfl 0
 simp only [pipeB,GE3] at c0
 have hch:=HT.out.obj 1 0 rfl
 simp only [] at hch
 have lt:=HT.out.lt 0 0 rfl
 simp only [] at lt
 clear h1 h2
 simp only [FireS.vals]
 refine calls_of_wpN Tryz.func292 rfl ?_
 simp only [Tryz.ntmps292,List.size_toArray,List.length_cons,List.length_nil,Nat.reduceAdd,Nat.reduceSub,Array.replicate_succ,Array.replicate_zero,List.push_toArray,List.append_toArray,List.nil_append,List.cons_append]
 refine wpN_seq (wpN_of_wp ?_)
 go_wp2
 have HT:=Lib.hid (HT.out.alloc (k:=w.heap.size) rfl 69 #[.int .u64 v.id,.int .u64 v.gen,.int .u64 v.dl,.int .u64 v.tick])
 clear c0 hch
 generalize w.alloc _=w1 at HT ⊢
 have c0:=HT.out.cell 0 0 rfl 0
 simp only [pipeB,GE3] at c0
 have b0:=HT.out.cell 3 0 rfl 0
 have b1:=HT.out.cell 3 0 rfl 1
 have b2:=HT.out.cell 3 0 rfl 2
 have b3:=HT.out.cell 3 0 rfl 3
 simp only [GE4] at b0 b1 b2 b3
 have hch:=HT.out.obj 1 0 rfl
 simp only [] at hch
 refine wpN_seq (wpN_of_wp ?_)
 go_wp2
 refine wpN_seq ?_
 refine wpN_region_comm (cases:=#[scase cb (.agg #[.int .u64 v.id,.int .u64 v.gen,.int .u64 v.dl,.int .u64 v.tick]) (.agg #[.int .u64 0,.int .u64 0,.int .u64 0,.int .u64 0])]) (blocking:=false) (shape:=.select) (v:=.tuple #[goInt 0,.bool false]) (w1:=w1) (w':=w1.setChan cb p.room ((p.ch.map fun f=>Value.agg f.vals.toArray).toArray.push (.agg #[.int .u64 v.id,.int .u64 v.gen,.int .u64 v.dl,.int .u64 v.tick])) false (a+1) b false) rfl ?_ (fun fr cs es h=>step_lone_select_send_room h hch (by simpa using hr)) ?_
 ·have hz:=fun w=>fire_zero w
  simp [go_sem,execOp,scase,Act.eval,hz]
 ·have HT:=Lib.hid (HT.out.setChan 1 (by simp) rfl p.room ((p.ch.map fun f=>Value.agg f.vals.toArray).toArray.push (.agg #[.int .u64 v.id,.int .u64 v.gen,.int .u64 v.dl,.int .u64 v.tick])) false (a+1) b false)
  generalize World.setChan _ _ _ _ _ _ _ _=w2 at HT ⊢
  simp only [goInt]
  go_wp2
  refine wpN_of_wp ?_
  go_wp2
  go_ret
  exact ⟨_,⟨rfl,_,⟨cb,lb,hb,a+1,b,l,gl,H1.out,H2.out,rfl⟩,rfl⟩,(HT.out.pick [0,1,2] rfl).eq (by simp [pickG,FireS.vals])⟩
set_option maxRecDepth 100000 in
theorem pipeSend_no (hg:isPipe pb p g) (v:FireS) (hr:p.room≤p.ch.length):DoesG Tryz.prog 292 #[ptr' pb,.agg v.vals.toArray] [g] fun e gs =>
 e=.returned (.bool false)∧∃ g',isPipe pb p g'∧gs=[g']:=by
 obtain ⟨cb,lb,hb,a,b,l,gl,h1,h2,rfl⟩:=hg
 intro w hw
 have T0:=TG.refl hw
 have HT:=Lib.hid T0
 clear hw T0
 have HT:=Lib.hid (HT.out.sum (H':=[pipeB pb cb lb p,[(cb,.chan p.room (p.ch.map fun f=>Value.agg f.vals.toArray).toArray false a b false)],gl]))
 have H1:=Lib.hid h1
 have H2:=Lib.hid h2
 have c0:=HT.out.cell 0 0 rfl 0
 simp only [pipeB,GE3] at c0
 have hch:=HT.out.obj 1 0 rfl
 simp only [] at hch
 have lt:=HT.out.lt 0 0 rfl
 simp only [] at lt
 clear h1 h2
 simp only [FireS.vals]
 refine calls_of_wpN Tryz.func292 rfl ?_
 simp only [Tryz.ntmps292,List.size_toArray,List.length_cons,List.length_nil,Nat.reduceAdd,Nat.reduceSub,Array.replicate_succ,Array.replicate_zero,List.push_toArray,List.append_toArray,List.nil_append,List.cons_append]
 refine wpN_seq (wpN_of_wp ?_)
 go_wp2
 have HT:=Lib.hid (HT.out.alloc (k:=w.heap.size) rfl 69 #[.int .u64 v.id,.int .u64 v.gen,.int .u64 v.dl,.int .u64 v.tick])
 clear c0 hch
 generalize w.alloc _=w1 at HT ⊢
 have c0:=HT.out.cell 0 0 rfl 0
 simp only [pipeB,GE3] at c0
 have b0:=HT.out.cell 3 0 rfl 0
 have b1:=HT.out.cell 3 0 rfl 1
 have b2:=HT.out.cell 3 0 rfl 2
 have b3:=HT.out.cell 3 0 rfl 3
 simp only [GE4] at b0 b1 b2 b3
 have hch:=HT.out.obj 1 0 rfl
 simp only [] at hch
 refine wpN_seq (wpN_of_wp ?_)
 go_wp2
 refine wpN_seq ?_
 refine wpN_region_comm (cases:=#[scase cb (.agg #[.int .u64 v.id,.int .u64 v.gen,.int .u64 v.dl,.int .u64 v.tick]) (.agg #[.int .u64 0,.int .u64 0,.int .u64 0,.int .u64 0])]) (blocking:=false) (shape:=.select) (v:=.tuple #[goInt (-1),.bool false]) (w1:=w1) (w':=w1) rfl ?_ (fun fr cs es h=>step_lone_select_send_full h hch (by simpa using hr)) ?_
 ·have hz:=fun w=>fire_zero w
  simp [go_sem,execOp,scase,Act.eval,hz]
 ·simp only [goInt]
  go_wp2
  refine wpN_of_wp ?_
  go_wp2
  go_ret
  exact ⟨_,⟨rfl,_,⟨cb,lb,hb,a,b,l,gl,H1.out,H2.out,rfl⟩,rfl⟩,(HT.out.pick [0,1,2] rfl).eq (by simp [pickG,FireS.vals])⟩
end
end
section
open Go.RowKit Go.Shelf
def PipeS.put (p:PipeS) (v:FireS):PipeS × Bool × Int :=
 if p.shut=true then (p,false,3)
 else if p.sp=[]∧p.ch.length<p.room then ({ p with ch:=p.ch++[v] },false,0)
 else ({ p with sp:=p.sp++[v],most:=max p.most (p.sp.length+1) },true,0)
set_option maxRecDepth 100000 in
theorem listPush_g {lb hb:Nat} {l:List Nd} {g:List Blk} (hg:isListF lb hb l g) (hn:l.length≤1000000000) (v:FireS) :
 DoesG Tryz.prog 336 #[ptr' lb,.agg v.vals.toArray] [g] fun e gs=>∃ nb g',e=.returned (ptr' nb)∧isListF lb hb (l++[⟨nb,v.vals⟩]) g'∧gs=[g']:=by
 have HP:=Lib.hid (show ∀ nb,_ from fun nb=>listPutF_g hg hn nb (.int .u64 v.id) (.int .u64 v.gen) (.int .u64 v.dl) (.int .u64 v.tick) (.pointer none) (.pointer none))
 intro w hw
 have T0:=TG.refl hw
 have HT:=Lib.hid T0
 clear hw T0
 simp only [FireS.vals]
 clear hg hn
 go_enter Tryz.func336,Tryz.ntmps336
 go_wp2_with fail
 obtain ⟨nb,hnb⟩:∃ nb,nb=w.heap.size+1:=⟨_,rfl⟩
 have HT:=Lib.hid ((HT.out.alloc0 (.cells #[.int .u64 v.id,.int .u64 v.gen,.int .u64 v.dl,.int .u64 v.tick] 69)).alloc (k:=nb) (by rw [hnb];simp) 320 #[.int .u64 v.id,.int .u64 v.gen,.int .u64 v.dl,.int .u64 v.tick,.pointer none,.pointer none,.pointer none])
 rw [← hnb]
 clear hnb
 generalize World.alloc (World.alloc w _) _=w1 at HT ⊢
 go_wp2_with fail
 refine (DoesG.use (HP.out nb) (HT.out) [0,1] rfl rfl).mono ?_
 rintro e w1 ⟨gs,⟨rfl,g1,hg1,rfl⟩,Ta⟩
 simp only [PU] at Ta
 have HG:=Lib.hid hg1
 clear hg1
 have HT:=Lib.hid Ta
 clear Ta
 go_wp2
 go_ret
 exact ⟨_,⟨nb,g1,rfl,HG.out,rfl⟩,HT.out.pick [0] rfl⟩
section
variable {pb:Nat} {p:PipeS} {g:List Blk}
set_option maxRecDepth 100000 in
theorem pipeLen_r (hg:isPipe pb p g) (hn:p.ch.length≤1000000∧p.sp.length≤1000000):ReadsG Tryz.prog 41 #[ptr' pb] [g] (.int .i64 ((p.ch.length:Int)+p.sp.length)):=by
 obtain ⟨cb,lb,hb,a,b,l,gl,h1,h2,rfl⟩:=hg
 have hll:l.length=p.sp.length:=by
  have:=congrArg List.length h2
  simpa using this
 intro w hw
 have T0:=TG.refl hw
 have HT:=Lib.hid T0
 clear hw T0
 have HT:=Lib.hid (HT.out.sum (H':=[pipeB pb cb lb p,[(cb,.chan p.room (p.ch.map fun f=>Value.agg f.vals.toArray).toArray false a b false)],gl]))
 have H1:=Lib.hid h1
 have H2:=Lib.hid h2
 have b1:=HT.out.obj 1 0 rfl
 simp only [] at b1
 have hlc:=fun m=>len_chan cb p.room _ false a b (w.drewN m) b1
 simp only [List.size_toArray,List.length_map] at hlc
 have HLL:=Lib.hid (listLenF_r h1)
 rw [hll] at HLL
 have c0:=HT.out.cell 0 0 rfl 0
 have c1:=HT.out.cell 0 0 rfl 1
 simp only [pipeB,GE3] at c0 c1
 clear h1 h2 b1
 generalize p.ch.length=n at *
 generalize p.sp.length=m at *
 obtain ⟨hn1,hn2⟩:=hn
 go_enter Tryz.func41,Tryz.ntmps41
 go_wp2_with fail
 go_quiet ((first | (go_at_call 107;with_reducible exact ReadsG.quiet (HLL.out) HT.out _ [2] rfl rfl)))
 have HT:=Lib.hid (HT.out.drewN nq)
 go_wp2
 go_ret
 exact ⟨rfl,_,rfl⟩
theorem vals_arr (v:FireS):v.vals.toArray=#[.int .u64 v.id,.int .u64 v.gen,.int .u64 v.dl,.int .u64 v.tick]:=rfl
set_option maxRecDepth 100000 in
set_option maxHeartbeats 2000000 in
theorem pipePut_g (hg:isPipe pb p g) (v:FireS) (hn:p.sp.length≤1000000):DoesG Tryz.prog 323 #[ptr' pb,.agg v.vals.toArray] [g] fun e gs =>
 e=.returned (.tuple #[.bool (p.put v).2.1,.int .i64 (p.put v).2.2])∧∃ g',isPipe pb (p.put v).1 g'∧gs=[g']:=by
 cases hs:p.shut with
 | true =>
   have he:p.put v=(p,false,3):=by unfold PipeS.put;rw [if_pos hs]
   rw [he]
   obtain ⟨cb,lb,hb,a,b,l,gl,h1,h2,rfl⟩:=hg
   have hll:l.length=p.sp.length:=by
    have:=congrArg List.length h2
    simpa using this
   intro w hw
   have T0:=TG.refl hw
   have HT:=Lib.hid T0
   clear hw T0
   have HT:=Lib.hid (HT.out.sum (H':=[pipeB pb cb lb p,[(cb,.chan p.room (p.ch.map fun f=>Value.agg f.vals.toArray).toArray false a b false)],gl]))
   have H1:=Lib.hid h1
   have H2:=Lib.hid h2
   have c3:=HT.out.cell 0 0 rfl 3
   simp only [pipeB,hs,GE3] at c3
   have lt:=HT.out.lt 0 0 rfl
   simp only [] at lt
   rw [vals_arr]
   clear h1 h2 he hs
   go_enter Tryz.func323,Tryz.ntmps323
   go_wp2
   go_ret2
   exact ⟨_,⟨rfl,_,⟨cb,lb,hb,a,b,l,gl,H1.out,H2.out,rfl⟩,rfl⟩,(HT.out.alloc0 _).sum⟩
 | false =>
   by_cases hsp:p.sp=[]
   ·by_cases hr:p.ch.length<p.room
    ·have he:p.put v=({ p with ch:=p.ch++[v] },false,0):=by unfold PipeS.put;rw [if_neg (by rw [hs];decide),if_pos ⟨hsp,hr⟩]
     rw [he]
     have hsd:=pipeSend_yes hg v hr
     have hg0:=hg
     obtain ⟨cb,lb,hb,a,b,l,gl,h1,h2,rfl⟩:=hg
     have hll:l.length=p.sp.length:=by
      have:=congrArg List.length h2
      simpa using this
     intro w hw
     have T0:=TG.refl hw
     have HT:=Lib.hid T0
     clear hw T0
     have HT:=Lib.hid (HT.out.sum (H':=[pipeB pb cb lb p,[(cb,.chan p.room (p.ch.map fun f=>Value.agg f.vals.toArray).toArray false a b false)],gl]))
     have H1:=Lib.hid h1
     have H2:=Lib.hid h2
     rw [vals_arr] at hsd ⊢
     have HSD:=Lib.hid hsd
     have HLL:=Lib.hid (listLenF_r h1)
     rw [hll,hsp] at HLL
     have c1:=HT.out.cell 0 0 rfl 1
     have c3:=HT.out.cell 0 0 rfl 3
     simp only [pipeB,hs,GE3] at c1 c3
     have lt:=HT.out.lt 0 0 rfl
     simp only [] at lt
     clear h1 h2 he hs hsd hll hsp hg0
     go_enter Tryz.func323,Tryz.ntmps323
     go_wp2_with fail
     obtain ⟨vb,hvb⟩:∃ vb,vb=w.heap.size:=⟨_,rfl⟩
     have HT:=Lib.hid (HT.out.alloc (k:=vb) hvb 69 #[.int .u64 v.id,.int .u64 v.gen,.int .u64 v.dl,.int .u64 v.tick])
     rw [← hvb]
     clear c1 c3 lt hvb
     generalize World.alloc w _=w1 at HT ⊢
     go_wp2_with fail
     refine (ReadsG.use (HLL.out) (HT.out) [2] rfl rfl).mono ?_
     rintro e w1 ⟨rfl,mq,rfl⟩
     have HT:=Lib.hid (HT.out.drewN mq)
     generalize World.drewN _ _=wq at HT ⊢
     have a0:=HT.out.cell 3 0 rfl 0
     have a1:=HT.out.cell 3 0 rfl 1
     have a2:=HT.out.cell 3 0 rfl 2
     have a3:=HT.out.cell 3 0 rfl 3
     simp only [GE4] at a0 a1 a2 a3
     go_wp2_with fail
     refine (DoesG.use (HSD.out) (HT.out.sum (H':=[pipeB pb cb lb p++([(cb,.chan p.room (p.ch.map fun f=>Value.agg f.vals.toArray).toArray false a b false)]++gl),[cl vb 69 #[.int .u64 v.id,.int .u64 v.gen,.int .u64 v.dl,.int .u64 v.tick]]])) [0] rfl rfl).mono ?_
     rintro e w1 ⟨gs,⟨rfl,g1,hg1,rfl⟩,Ta⟩
     simp only [PU] at Ta
     have HG:=Lib.hid hg1
     clear hg1 a0 a1 a2 a3
     have HT:=Lib.hid Ta
     clear Ta
     go_wp2
     go_ret2
     exact ⟨_,⟨rfl,g1,HG.out,rfl⟩,HT.out.pick [0] rfl⟩
    ·have he:p.put v=({ p with sp:=p.sp++[v],most:=max p.most ((p.sp.length:Int)+1) },true,0):=by unfold PipeS.put;rw [if_neg (by rw [hs];decide),if_neg (fun h=>hr h.2)]
     rw [he]
     obtain ⟨M,hM⟩:∃ M,max p.most ((p.sp.length:Int)+1)=M:=⟨_,rfl⟩
     rw [hM]
     have hpu:∀ lb hb l gl,isListF lb hb l gl→l.map Nd.v=p.sp.map FireS.vals→_:=fun lb hb l gl h1 h2=>listPush_g h1 (by
      have:=congrArg List.length h2
      simp only [List.length_map] at this
      omega) v
     have hln:∀ lb hb (l:List Nd) nb g',l.map Nd.v=p.sp.map FireS.vals→isListF lb hb (l++[⟨nb,v.vals⟩]) g'→ReadsG Tryz.prog 107 #[ptr' lb] [g'] (.int .i64 ((p.sp.length:Int)+1)):=fun lb hb l nb g' h2 h=>by
      have:=listLenF_r h
      have e:=congrArg List.length h2
      simp only [List.length_map] at e
      rw [List.length_append,e] at this
      exact this
     rw [vals_arr] at hpu ⊢
     have HPU:=Lib.hid hpu
     have HLN:=Lib.hid hln
     have HM:=Lib.hid hM
     have hsd:=pipeSend_no hg v (by omega)
     obtain ⟨cb,lb,hb,a,b,l,gl,h1,h2,rfl⟩:=hg
     have hll:l.length=p.sp.length:=by
      have:=congrArg List.length h2
      simpa using this
     intro w hw
     have T0:=TG.refl hw
     have HT:=Lib.hid T0
     clear hw T0
     have HT:=Lib.hid (HT.out.sum (H':=[pipeB pb cb lb p,[(cb,.chan p.room (p.ch.map fun f=>Value.agg f.vals.toArray).toArray false a b false)],gl]))
     have H1:=Lib.hid h1
     have H2:=Lib.hid h2
     rw [vals_arr] at hsd
     have HSD:=Lib.hid hsd
     have HLL:=Lib.hid (listLenF_r h1)
     rw [hll,hsp] at HLL
     have c1:=HT.out.cell 0 0 rfl 1
     have c3:=HT.out.cell 0 0 rfl 3
     simp only [pipeB,hs,GE3] at c1 c3
     have lt:=HT.out.lt 0 0 rfl
     simp only [] at lt
     clear h1 h2 he hs hsd hll hsp hpu hln hr
     generalize (p.sp.length:Int)=n at *
     go_enter Tryz.func323,Tryz.ntmps323
     go_wp2_with fail
     obtain ⟨vb,hvb⟩:∃ vb,vb=w.heap.size:=⟨_,rfl⟩
     have HT:=Lib.hid (HT.out.alloc (k:=vb) hvb 69 #[.int .u64 v.id,.int .u64 v.gen,.int .u64 v.dl,.int .u64 v.tick])
     rw [← hvb]
     clear c1 c3 lt hvb
     generalize World.alloc w _=w1 at HT ⊢
     go_wp2_with fail
     refine (ReadsG.use (HLL.out) (HT.out) [2] rfl rfl).mono ?_
     rintro e w1 ⟨rfl,mq,rfl⟩
     have HT:=Lib.hid (HT.out.drewN mq)
     generalize World.drewN _ _=wq at HT ⊢
     have a0:=HT.out.cell 3 0 rfl 0
     have a1:=HT.out.cell 3 0 rfl 1
     have a2:=HT.out.cell 3 0 rfl 2
     have a3:=HT.out.cell 3 0 rfl 3
     simp only [GE4] at a0 a1 a2 a3
     go_wp2_with fail
     refine (DoesG.use (HSD.out) (HT.out.sum (H':=[pipeB pb cb lb p++([(cb,.chan p.room (p.ch.map fun f=>Value.agg f.vals.toArray).toArray false a b false)]++gl),[cl vb 69 #[.int .u64 v.id,.int .u64 v.gen,.int .u64 v.dl,.int .u64 v.tick]]])) [0] rfl rfl).mono ?_
     rintro e w1 ⟨gs,⟨rfl,g1,hg1,rfl⟩,Ta⟩
     simp only [PU] at Ta
     clear a0 a1 a2 a3
     have HT:=Lib.hid Ta
     clear Ta
     obtain ⟨cb,lb,hb,a,b,l,gl,h1,h2,rfl⟩:=hg1
     have HT:=Lib.hid (HT.out.sum (H':=[pipeB pb cb lb p,[(cb,.chan p.room (p.ch.map fun f=>Value.agg f.vals.toArray).toArray false a b false)],gl,[cl vb 69 #[.int .u64 v.id,.int .u64 v.gen,.int .u64 v.dl,.int .u64 v.tick]]]))
     have H1:=Lib.hid h1
     have H2:=Lib.hid h2
     clear h1 h2
     have HP1:=Lib.hid (HPU.out _ _ _ _ H1.out H2.out)
     have a0:=HT.out.cell 3 0 rfl 0
     have a1:=HT.out.cell 3 0 rfl 1
     have a2:=HT.out.cell 3 0 rfl 2
     have a3:=HT.out.cell 3 0 rfl 3
     simp only [GE4] at a0 a1 a2 a3
     have c1:=HT.out.cell 0 0 rfl 1
     simp only [pipeB,GE3] at c1
     go_wp2_with fail
     refine wp_region_mix1 5 (by kernel_rfl) (by kernel_rfl) ?_
     simp only [TD4]
     repeat (go_big_quiet_step ((fail)))
     refine wpQuiet_nil ?_
     intro _ hw'
     obtain ⟨nq,hw''⟩:=hw'
     subst hw''
     have HT:=Lib.hid (HT.out.drewN nq)
     go_wp2_with fail
     refine (DoesG.use (HP1.out) (HT.out) [2] rfl rfl).mono ?_
     rintro e w1 ⟨gs,⟨nb,g1,rfl,hg1,rfl⟩,Ta⟩
     simp only [PU] at Ta
     have HG:=Lib.hid hg1
     have HL1:=Lib.hid (HLN.out _ _ _ nb g1 H2.out hg1)
     clear hg1 a0 a1 a2 a3 c1
     have HT:=Lib.hid Ta
     clear Ta
     go_wp2_with fail
     refine ⟨rfl,?_⟩
     have c1:=HT.out.cell 0 0 rfl 1
     have c2:=HT.out.cell 0 0 rfl 2
     have fc2:=HT.out.free 0 0 rfl 2
     simp only [pipeB,GE3] at c1 c2
     have HM1:=HM.out
     clear hM HPU HLN HP1
     by_cases hmx:p.most<n+1
     ·obtain rfl:M=n+1:=by omega
      have hmx2:p.most≤n+1:=by omega
      clear HM HM1
      go_wp2_with fail
      refine wp_region_mix1 13 (by kernel_rfl) (by kernel_rfl) ?_
      simp only [TD4]
      repeat (go_big_quiet_step ((first | (go_at_call 107;with_reducible exact ReadsG.quiet (HL1.out) HT.out _ [2] rfl rfl))))
      refine wpQuiet_nil ?_
      intro _ hw'
      obtain ⟨nq,hw''⟩:=hw'
      subst hw''
      have HT:=Lib.hid (HT.out.drewN nq)
      go_wp2_with fail
      refine ⟨rfl,?_⟩
      go_wp2
      go_ret2
      exact ⟨_,⟨rfl,_,⟨cb,lb,hb,a,b,_,g1,HG.out,by rw [List.map_append,H2.out,List.map_append];rfl,rfl⟩,rfl⟩,((HT.out.set 0 0 rfl 2 (.int .i64 (n+1))).pick [0,1,2] rfl).eq (H':=[pipeB pb cb lb { p with sp:=p.sp++[v],most:=n+1 }++([(cb,.chan p.room (p.ch.map fun f=>Value.agg f.vals.toArray).toArray false a b false)]++g1)]) (by simp [pickG,pipeB])⟩
     ·obtain rfl:M=p.most:=by omega
      have hmx2:n+1≤p.most:=by omega
      clear HM HM1
      go_wp2_with fail
      refine wp_region_mix1 13 (by kernel_rfl) (by kernel_rfl) ?_
      simp only [TD4]
      repeat (go_big_quiet_step ((first | (go_at_call 107;with_reducible exact ReadsG.quiet (HL1.out) HT.out _ [2] rfl rfl))))
      refine wpQuiet_nil ?_
      intro _ hw'
      obtain ⟨nq,hw''⟩:=hw'
      subst hw''
      have HT:=Lib.hid (HT.out.drewN nq)
      go_wp2_with fail
      refine ⟨rfl,?_⟩
      go_wp2
      go_ret2
      exact ⟨_,⟨rfl,_,⟨cb,lb,hb,a,b,_,g1,HG.out,by rw [List.map_append,H2.out,List.map_append];rfl,rfl⟩,rfl⟩,((HT.out.set 0 0 rfl 2 (.int .i64 p.most)).pick [0,1,2] rfl).eq (H':=[pipeB pb cb lb { p with sp:=p.sp++[v],most:=p.most }++([(cb,.chan p.room (p.ch.map fun f=>Value.agg f.vals.toArray).toArray false a b false)]++g1)]) (by simp [pickG,pipeB])⟩
   ·have he:p.put v=({ p with sp:=p.sp++[v],most:=max p.most ((p.sp.length:Int)+1) },true,0):=by unfold PipeS.put;rw [if_neg (by rw [hs];decide),if_neg (fun h=>hsp h.1)]
    rw [he]
    obtain ⟨M,hM⟩:∃ M,max p.most ((p.sp.length:Int)+1)=M:=⟨_,rfl⟩
    rw [hM]
    have hpu:∀ lb hb l gl,isListF lb hb l gl→l.map Nd.v=p.sp.map FireS.vals→_:=fun lb hb l gl h1 h2=>listPush_g h1 (by
     have:=congrArg List.length h2
     simp only [List.length_map] at this
     omega) v
    have hln:∀ lb hb (l:List Nd) nb g',l.map Nd.v=p.sp.map FireS.vals→isListF lb hb (l++[⟨nb,v.vals⟩]) g'→ReadsG Tryz.prog 107 #[ptr' lb] [g'] (.int .i64 ((p.sp.length:Int)+1)):=fun lb hb l nb g' h2 h=>by
     have:=listLenF_r h
     have e:=congrArg List.length h2
     simp only [List.length_map] at e
     rw [List.length_append,e] at this
     exact this
    rw [vals_arr] at hpu ⊢
    have HPU:=Lib.hid hpu
    have HLN:=Lib.hid hln
    have HM:=Lib.hid hM
    obtain ⟨cb,lb,hb,a,b,l,gl,h1,h2,rfl⟩:=hg
    have hll:l.length=p.sp.length:=by
     have:=congrArg List.length h2
     simpa using this
    intro w hw
    have T0:=TG.refl hw
    have HT:=Lib.hid T0
    clear hw T0
    have HT:=Lib.hid (HT.out.sum (H':=[pipeB pb cb lb p,[(cb,.chan p.room (p.ch.map fun f=>Value.agg f.vals.toArray).toArray false a b false)],gl]))
    have H1:=Lib.hid h1
    have H2:=Lib.hid h2
    have HLL:=Lib.hid (listLenF_r h1)
    rw [hll] at HLL
    have hz:(((p.sp.length:Nat):Int) == 0)=false:=beq_eq_false_iff_ne.2 (by
     intro h0
     have:p.sp.length=0:=by omega
     exact hsp (List.eq_nil_of_length_eq_zero this))
    have c1:=HT.out.cell 0 0 rfl 1
    have c3:=HT.out.cell 0 0 rfl 3
    simp only [pipeB,hs,GE3] at c1 c3
    have lt:=HT.out.lt 0 0 rfl
    simp only [] at lt
    clear h1 h2 he hs hll hsp hpu hln
    generalize (p.sp.length:Int)=n at *
    go_enter Tryz.func323,Tryz.ntmps323
    go_wp2_with fail
    obtain ⟨vb,hvb⟩:∃ vb,vb=w.heap.size:=⟨_,rfl⟩
    have HT:=Lib.hid (HT.out.alloc (k:=vb) hvb 69 #[.int .u64 v.id,.int .u64 v.gen,.int .u64 v.dl,.int .u64 v.tick])
    rw [← hvb]
    clear c1 c3 lt hvb
    generalize World.alloc w _=w1 at HT ⊢
    go_wp2_with fail
    refine (ReadsG.use (HLL.out) (HT.out) [2] rfl rfl).mono ?_
    rintro e w1 ⟨rfl,mq,rfl⟩
    have HT:=Lib.hid (HT.out.drewN mq)
    generalize World.drewN _ _=wq at HT ⊢
    have HP1:=Lib.hid (HPU.out _ _ _ _ H1.out H2.out)
    have a0:=HT.out.cell 3 0 rfl 0
    have a1:=HT.out.cell 3 0 rfl 1
    have a2:=HT.out.cell 3 0 rfl 2
    have a3:=HT.out.cell 3 0 rfl 3
    simp only [GE4] at a0 a1 a2 a3
    have c1:=HT.out.cell 0 0 rfl 1
    simp only [pipeB,GE3] at c1
    go_wp2_with fail
    refine wp_region_mix1 5 (by kernel_rfl) (by kernel_rfl) ?_
    simp only [TD4]
    repeat (go_big_quiet_step ((fail)))
    refine wpQuiet_nil ?_
    intro _ hw'
    obtain ⟨nq,hw''⟩:=hw'
    subst hw''
    have HT:=Lib.hid (HT.out.drewN nq)
    go_wp2_with fail
    refine (DoesG.use (HP1.out) (HT.out) [2] rfl rfl).mono ?_
    rintro e w1 ⟨gs,⟨nb,g1,rfl,hg1,rfl⟩,Ta⟩
    simp only [PU] at Ta
    have HG:=Lib.hid hg1
    have HL1:=Lib.hid (HLN.out _ _ _ nb g1 H2.out hg1)
    clear hg1 a0 a1 a2 a3 c1
    have HT:=Lib.hid Ta
    clear Ta
    go_wp2_with fail
    refine ⟨rfl,?_⟩
    have c1:=HT.out.cell 0 0 rfl 1
    have c2:=HT.out.cell 0 0 rfl 2
    have fc2:=HT.out.free 0 0 rfl 2
    simp only [pipeB,GE3] at c1 c2
    have HM1:=HM.out
    clear hM HPU HLN HP1
    by_cases hmx:p.most<n+1
    ·obtain rfl:M=n+1:=by omega
     have hmx2:p.most≤n+1:=by omega
     clear HM HM1
     go_wp2_with fail
     refine wp_region_mix1 13 (by kernel_rfl) (by kernel_rfl) ?_
     simp only [TD4]
     repeat (go_big_quiet_step ((first | (go_at_call 107;with_reducible exact ReadsG.quiet (HL1.out) HT.out _ [2] rfl rfl))))
     refine wpQuiet_nil ?_
     intro _ hw'
     obtain ⟨nq,hw''⟩:=hw'
     subst hw''
     have HT:=Lib.hid (HT.out.drewN nq)
     go_wp2_with fail
     refine ⟨rfl,?_⟩
     go_wp2
     go_ret2
     exact ⟨_,⟨rfl,_,⟨cb,lb,hb,a,b,_,g1,HG.out,by rw [List.map_append,H2.out,List.map_append];rfl,rfl⟩,rfl⟩,((HT.out.set 0 0 rfl 2 (.int .i64 (n+1))).pick [0,1,2] rfl).eq (H':=[pipeB pb cb lb { p with sp:=p.sp++[v],most:=n+1 }++([(cb,.chan p.room (p.ch.map fun f=>Value.agg f.vals.toArray).toArray false a b false)]++g1)]) (by simp [pickG,pipeB])⟩
    ·obtain rfl:M=p.most:=by omega
     have hmx2:n+1≤p.most:=by omega
     clear HM HM1
     go_wp2_with fail
     refine wp_region_mix1 13 (by kernel_rfl) (by kernel_rfl) ?_
     simp only [TD4]
     repeat (go_big_quiet_step ((first | (go_at_call 107;with_reducible exact ReadsG.quiet (HL1.out) HT.out _ [2] rfl rfl))))
     refine wpQuiet_nil ?_
     intro _ hw'
     obtain ⟨nq,hw''⟩:=hw'
     subst hw''
     have HT:=Lib.hid (HT.out.drewN nq)
     go_wp2_with fail
     refine ⟨rfl,?_⟩
     go_wp2
     go_ret2
     exact ⟨_,⟨rfl,_,⟨cb,lb,hb,a,b,_,g1,HG.out,by rw [List.map_append,H2.out,List.map_append];rfl,rfl⟩,rfl⟩,((HT.out.set 0 0 rfl 2 (.int .i64 p.most)).pick [0,1,2] rfl).eq (H':=[pipeB pb cb lb { p with sp:=p.sp++[v],most:=p.most }++([(cb,.chan p.room (p.ch.map fun f=>Value.agg f.vals.toArray).toArray false a b false)]++g1)]) (by simp [pickG,pipeB])⟩
end
end
section
open Go.RowKit Go.Shelf Go.Conc
def FireS.zero:FireS:=⟨0,0,0,0⟩
def PipeS.take (p:PipeS):PipeS × FireS × Int :=
 match p.ch,p.sp with
 | [],_=>(p,FireS.zero,6)
 | f::l,[]=>({ p with ch:=l },f,0)
 | f::l,x::sp=>({ p with ch:=l++[x],sp:=sp },f,0)
section
variable {pb:Nat} {p:PipeS} {g:List Blk}
set_option maxRecDepth 100000 in
theorem pipeTake_no (hg:isPipe pb p g) (he:p.ch=[]):DoesG Tryz.prog 270 #[ptr' pb] [g] fun e gs =>
 e=.returned (.tuple #[.agg FireS.zero.vals.toArray,.int .i64 6])∧∃ g',isPipe pb p g'∧gs=[g']:=by
 obtain ⟨cb,lb,hb,a,b,l,gl,h1,h2,rfl⟩:=hg
 intro w hw
 have T0:=TG.refl hw
 have HT:=Lib.hid T0
 clear hw T0
 have HT:=Lib.hid (HT.out.sum (H':=[pipeB pb cb lb p,[(cb,.chan p.room (p.ch.map fun f=>Value.agg f.vals.toArray).toArray false a b false)],gl]))
 have H1:=Lib.hid h1
 have H2:=Lib.hid h2
 clear h1 h2
 refine calls_of_wpN Tryz.func270 rfl ?_
 simp only [Tryz.ntmps270,List.size_toArray,List.length_cons,List.length_nil,Nat.reduceAdd,Nat.reduceSub,Array.replicate_succ,Array.replicate_zero,List.push_toArray,List.append_toArray,List.nil_append,List.cons_append]
 refine wpN_seq (wpN_of_wp ?_)
 go_wp2
 have HT:=Lib.hid (HT.out.alloc (k:=w.heap.size) rfl 69 #[.int .u64 0,.int .u64 0,.int .u64 0,.int .u64 0])
 obtain ⟨rb,hrb⟩:∃ rb,rb=w.heap.size:=⟨_,rfl⟩
 rw [← hrb] at HT ⊢
 clear hrb
 generalize World.alloc w _=w1 at HT ⊢
 refine wpN_seq (wpN_of_wp ?_)
 go_wp2
 have HT:=Lib.hid (HT.out.alloc (k:=w1.heap.size) rfl 69 #[.int .u64 0,.int .u64 0,.int .u64 0,.int .u64 0])
 obtain ⟨zb,hzb⟩:∃ zb,zb=w1.heap.size:=⟨_,rfl⟩
 rw [← hzb] at HT ⊢
 clear hzb
 generalize World.alloc w1 _=w2 at HT ⊢
 have c0:=HT.out.cell 0 0 rfl 0
 have c1:=HT.out.cell 0 0 rfl 1
 simp only [pipeB,GE3] at c0 c1
 have hch:=HT.out.obj 1 0 rfl
 simp only [] at hch
 refine wpN_seq (wpN_of_wp ?_)
 go_wp2
 refine wpN_seq (wpN_of_wp ?_)
 go_wp2
 refine wpN_seq ?_
 rw [he] at hch
 refine wpN_region_comm (cases:=#[rcase cb (.agg #[.int .u64 0,.int .u64 0,.int .u64 0,.int .u64 0])]) (blocking:=false) (shape:=.select) (v:=.tuple #[goInt (-1),.bool false,.agg #[.int .u64 0,.int .u64 0,.int .u64 0,.int .u64 0]]) (w1:=w2) (w':=w2) rfl ?_ (fun fr cs es h=>step_lone_select_default h hch) ?_
 ·have hz:=fun w=>fire_zero w
  simp [go_sem,execOp,rcase,Act.eval,hz]
 ·simp only [goInt]
  have z0:=HT.out.cell 4 0 rfl 0
  have z1:=HT.out.cell 4 0 rfl 1
  have z2:=HT.out.cell 4 0 rfl 2
  have z3:=HT.out.cell 4 0 rfl 3
  simp only [GE4] at z0 z1 z2 z3
  have r0:=HT.out.cell 3 0 rfl 0
  have fr0:=HT.out.free 3 0 rfl 0
  have r1:=HT.out.cell 3 0 rfl 1
  have fr1:=HT.out.free 3 0 rfl 1
  have r2:=HT.out.cell 3 0 rfl 2
  have fr2:=HT.out.free 3 0 rfl 2
  have r3:=HT.out.cell 3 0 rfl 3
  have fr3:=HT.out.free 3 0 rfl 3
  simp only [GE4] at r0 r1 r2 r3
  clear c0 c1 hch
  go_wp2
  refine wpN_of_wp ?_
  go_wp2
  exact bodyPost_ret (v:=.tuple #[.agg #[.int .u64 0,.int .u64 0,.int .u64 0,.int .u64 0],.int .i64 6]) (by simp [results,Tryz.results270,go_sem,r0,r1,r2,r3]) rfl ⟨_,⟨rfl,_,⟨cb,lb,hb,a,b,l,gl,H1.out,H2.out,rfl⟩,rfl⟩,(((((HT.out.set 3 0 rfl 0 _).set 3 0 rfl 1 _).set 3 0 rfl 2 _).set 3 0 rfl 3 _).pick [0,1,2] rfl).sum⟩
set_option maxRecDepth 100000 in
theorem pipeTake_1 {f:FireS} {tl:List FireS} (hg:isPipe pb p g) (he:p.ch=f::tl) (hs:p.sp=[]):DoesG Tryz.prog 270 #[ptr' pb] [g] fun e gs =>
 e=.returned (.tuple #[.agg f.vals.toArray,.int .i64 0])∧∃ g',isPipe pb { p with ch:=tl } g'∧gs=[g']:=by
 rw [vals_arr]
 have HCH:=Lib.hid he
 clear he
 obtain ⟨cb,lb,hb,a,b,l,gl,h1,h2,rfl⟩:=hg
 intro w hw
 have T0:=TG.refl hw
 have HT:=Lib.hid T0
 clear hw T0
 have HT:=Lib.hid (HT.out.sum (H':=[pipeB pb cb lb p,[(cb,.chan p.room (p.ch.map fun f=>Value.agg f.vals.toArray).toArray false a b false)],gl]))
 have H1:=Lib.hid h1
 have H2:=Lib.hid h2
 clear h1 h2
 refine calls_of_wpN Tryz.func270 rfl ?_
 simp only [Tryz.ntmps270,List.size_toArray,List.length_cons,List.length_nil,Nat.reduceAdd,Nat.reduceSub,Array.replicate_succ,Array.replicate_zero,List.push_toArray,List.append_toArray,List.nil_append,List.cons_append]
 refine wpN_seq (wpN_of_wp ?_)
 go_wp2
 have HT:=Lib.hid (HT.out.alloc (k:=w.heap.size) rfl 69 #[.int .u64 0,.int .u64 0,.int .u64 0,.int .u64 0])
 obtain ⟨rb,hrb⟩:∃ rb,rb=w.heap.size:=⟨_,rfl⟩
 rw [← hrb] at HT ⊢
 clear hrb
 generalize World.alloc w _=w1 at HT ⊢
 refine wpN_seq (wpN_of_wp ?_)
 go_wp2
 have HT:=Lib.hid (HT.out.alloc (k:=w1.heap.size) rfl 69 #[.int .u64 0,.int .u64 0,.int .u64 0,.int .u64 0])
 obtain ⟨zb,hzb⟩:∃ zb,zb=w1.heap.size:=⟨_,rfl⟩
 rw [← hzb] at HT ⊢
 clear hzb
 generalize World.alloc w1 _=w2 at HT ⊢
 have c0:=HT.out.cell 0 0 rfl 0
 have c1:=HT.out.cell 0 0 rfl 1
 simp only [pipeB,GE3] at c0 c1
 have hch:=HT.out.obj 1 0 rfl
 simp only [] at hch
 refine wpN_seq (wpN_of_wp ?_)
 go_wp2
 refine wpN_seq (wpN_of_wp ?_)
 go_wp2
 refine wpN_seq ?_
 rw [HCH.out] at hch
 simp only [List.map_cons] at hch
 rw [vals_arr] at hch
 refine wpN_region_comm (cases:=#[rcase cb (.agg #[.int .u64 0,.int .u64 0,.int .u64 0,.int .u64 0])]) (blocking:=false) (shape:=.select) (v:=.tuple #[goInt 0,.bool true,.agg #[.int .u64 f.id,.int .u64 f.gen,.int .u64 f.dl,.int .u64 f.tick]]) (w1:=w2) (w':=w2.setChan cb p.room (tl.map fun f=>Value.agg f.vals.toArray).toArray false a (b+1) false) rfl ?_ (fun fr cs es h=>by
  have:=step_lone_select_recv_buf h hch (by simp)
  simpa [List.take_of_length_le] using this) ?_
 ·have hz:=fun w=>fire_zero w
  simp [go_sem,execOp,rcase,Act.eval,hz]
 have HT:=Lib.hid (HT.out.setChan 1 (by simp) rfl p.room (tl.map fun f=>Value.agg f.vals.toArray).toArray false a (b+1) false)
 generalize World.setChan _ _ _ _ _ _ _ _=w3 at HT ⊢
 clear c0 c1 hch
 simp only [goInt]
 have c1:=HT.out.cell 0 0 rfl 1
 simp only [pipeB,GE3] at c1
 have lt:=HT.out.lt 0 0 rfl
 simp only [] at lt
 go_wp2
 refine wpN_of_wp ?_
 go_wp2_with fail
 have HT:=Lib.hid (HT.out.alloc (k:=w3.heap.size) rfl 69 #[.int .u64 f.id,.int .u64 f.gen,.int .u64 f.dl,.int .u64 f.tick])
 obtain ⟨vb,hvb⟩:∃ vb,vb=w3.heap.size:=⟨_,rfl⟩
 rw [← hvb] at HT ⊢
 clear hvb lt c1
 generalize World.alloc w3 _=w4 at HT ⊢
 go_wp2_with fail
 refine (ReadsG.use (listFirstF_r H1.out) (HT.out) [2] rfl rfl).mono ?_
 rintro e w1 ⟨rfl,mq,rfl⟩
 have HT:=Lib.hid (HT.out.drewN mq)
 generalize World.drewN _ _=wq at HT ⊢
 have hl:l=[]:=by
  have:=H2.out
  rw [hs] at this
  simpa using this
 subst hl
 simp only [nxV_nil]
 have v0:=HT.out.cell 5 0 rfl 0
 have v1:=HT.out.cell 5 0 rfl 1
 have v2:=HT.out.cell 5 0 rfl 2
 have v3:=HT.out.cell 5 0 rfl 3
 simp only [GE4] at v0 v1 v2 v3
 have r0:=HT.out.cell 3 0 rfl 0
 have fr0:=HT.out.free 3 0 rfl 0
 have r1:=HT.out.cell 3 0 rfl 1
 have fr1:=HT.out.free 3 0 rfl 1
 have r2:=HT.out.cell 3 0 rfl 2
 have fr2:=HT.out.free 3 0 rfl 2
 have r3:=HT.out.cell 3 0 rfl 3
 have fr3:=HT.out.free 3 0 rfl 3
 simp only [GE4] at r0 r1 r2 r3
 have ne1:=HT.out.ne 3 0 5 0 (by decide) rfl rfl
 simp only [] at ne1
 have ne2:=Ne.symm ne1
 go_wp2
 exact bodyPost_ret (v:=.tuple #[.agg #[.int .u64 f.id,.int .u64 f.gen,.int .u64 f.dl,.int .u64 f.tick],.int .i64 0]) (by simp [results,Tryz.results270,go_sem,r0,r1,r2,r3]) rfl ⟨_,⟨rfl,_,⟨cb,lb,hb,a,b+1,[],gl,H1.out,H2.out,rfl⟩,rfl⟩,(((((HT.out.set 3 0 rfl 0 _).set 3 0 rfl 1 _).set 3 0 rfl 2 _).set 3 0 rfl 3 _).pick [0,1,2] rfl).sum⟩
set_option maxRecDepth 100000 in
set_option maxHeartbeats 2000000 in
theorem pipeTake_2 {f x:FireS} {tl sp':List FireS} (hg:isPipe pb p g) (he:p.ch=f::tl) (hs:p.sp=x::sp') (hr:tl.length<p.room) (hn:sp'.length≤1000000):DoesG Tryz.prog 270 #[ptr' pb] [g] fun e gs =>
 e=.returned (.tuple #[.agg f.vals.toArray,.int .i64 0])∧∃ g',isPipe pb { p with ch:=tl++[x],sp:=sp' } g'∧gs=[g']:=by
 have hsd:∀ g1,isPipe pb { p with ch:=tl,sp:=sp' } g1→_:=fun g1 h=>pipeSend_yes h x hr
 rw [vals_arr] at hsd ⊢
 have HCH:=Lib.hid he
 clear he
 obtain ⟨cb,lb,hb,a,b,l,gl,h1,h2,rfl⟩:=hg
 intro w hw
 have T0:=TG.refl hw
 have HT:=Lib.hid T0
 clear hw T0
 have HT:=Lib.hid (HT.out.sum (H':=[pipeB pb cb lb p,[(cb,.chan p.room (p.ch.map fun f=>Value.agg f.vals.toArray).toArray false a b false)],gl]))
 have H1:=Lib.hid h1
 have H2:=Lib.hid h2
 clear h1 h2
 refine calls_of_wpN Tryz.func270 rfl ?_
 simp only [Tryz.ntmps270,List.size_toArray,List.length_cons,List.length_nil,Nat.reduceAdd,Nat.reduceSub,Array.replicate_succ,Array.replicate_zero,List.push_toArray,List.append_toArray,List.nil_append,List.cons_append]
 refine wpN_seq (wpN_of_wp ?_)
 go_wp2
 have HT:=Lib.hid (HT.out.alloc (k:=w.heap.size) rfl 69 #[.int .u64 0,.int .u64 0,.int .u64 0,.int .u64 0])
 obtain ⟨rb,hrb⟩:∃ rb,rb=w.heap.size:=⟨_,rfl⟩
 rw [← hrb] at HT ⊢
 clear hrb
 generalize World.alloc w _=w1 at HT ⊢
 refine wpN_seq (wpN_of_wp ?_)
 go_wp2
 have HT:=Lib.hid (HT.out.alloc (k:=w1.heap.size) rfl 69 #[.int .u64 0,.int .u64 0,.int .u64 0,.int .u64 0])
 obtain ⟨zb,hzb⟩:∃ zb,zb=w1.heap.size:=⟨_,rfl⟩
 rw [← hzb] at HT ⊢
 clear hzb
 generalize World.alloc w1 _=w2 at HT ⊢
 have c0:=HT.out.cell 0 0 rfl 0
 have c1:=HT.out.cell 0 0 rfl 1
 simp only [pipeB,GE3] at c0 c1
 have hch:=HT.out.obj 1 0 rfl
 simp only [] at hch
 refine wpN_seq (wpN_of_wp ?_)
 go_wp2
 refine wpN_seq (wpN_of_wp ?_)
 go_wp2
 refine wpN_seq ?_
 have HSD:=Lib.hid hsd
 clear hsd
 rw [HCH.out] at hch
 simp only [List.map_cons] at hch
 rw [vals_arr] at hch
 refine wpN_region_comm (cases:=#[rcase cb (.agg #[.int .u64 0,.int .u64 0,.int .u64 0,.int .u64 0])]) (blocking:=false) (shape:=.select) (v:=.tuple #[goInt 0,.bool true,.agg #[.int .u64 f.id,.int .u64 f.gen,.int .u64 f.dl,.int .u64 f.tick]]) (w1:=w2) (w':=w2.setChan cb p.room (tl.map fun f=>Value.agg f.vals.toArray).toArray false a (b+1) false) rfl ?_ (fun fr cs es h=>by
  have:=step_lone_select_recv_buf h hch (by simp)
  simpa [List.take_of_length_le] using this) ?_
 ·have hz:=fun w=>fire_zero w
  simp [go_sem,execOp,rcase,Act.eval,hz]
 have HT:=Lib.hid (HT.out.setChan 1 (by simp) rfl p.room (tl.map fun f=>Value.agg f.vals.toArray).toArray false a (b+1) false)
 generalize World.setChan _ _ _ _ _ _ _ _=w3 at HT ⊢
 clear c0 c1 hch
 simp only [goInt]
 have c1:=HT.out.cell 0 0 rfl 1
 simp only [pipeB,GE3] at c1
 have lt:=HT.out.lt 0 0 rfl
 simp only [] at lt
 go_wp2
 refine wpN_of_wp ?_
 go_wp2_with fail
 have HT:=Lib.hid (HT.out.alloc (k:=w3.heap.size) rfl 69 #[.int .u64 f.id,.int .u64 f.gen,.int .u64 f.dl,.int .u64 f.tick])
 obtain ⟨vb,hvb⟩:∃ vb,vb=w3.heap.size:=⟨_,rfl⟩
 rw [← hvb] at HT ⊢
 clear hvb lt c1
 generalize World.alloc w3 _=w4 at HT ⊢
 go_wp2_with fail
 refine (ReadsG.use (listFirstF_r H1.out) (HT.out) [2] rfl rfl).mono ?_
 rintro e w1 ⟨rfl,mq,rfl⟩
 have HT:=Lib.hid (HT.out.drewN mq)
 generalize World.drewN _ _=wq at HT ⊢
 obtain ⟨yb,l',rfl,hl'⟩:∃ yb l',l=⟨yb,x.vals⟩::l'∧l'.map Nd.v=sp'.map FireS.vals:=by
  have h2:=H2.out
  rw [hs] at h2
  cases l with
  | nil=>cases h2
  | cons y l' =>
    simp only [List.map_cons,List.cons.injEq] at h2
    obtain ⟨yb,yv⟩:=y
    exact ⟨yb,l',by rw [← h2.1],h2.2⟩
 have hln:l'.length≤1000000000:=by
  have:=congrArg List.length hl'
  simp only [List.length_map] at this
  omega
 have HUL:=Lib.hid (listUnlinkF_g yb H1.out hln)
 have HL':=Lib.hid hl'
 clear hl' hln
 simp only [nxV_cons]
 have c1:=HT.out.cell 0 0 rfl 1
 simp only [pipeB,GE3] at c1
 go_wp2_with fail
 refine (DoesG.use (HUL.out) (HT.out) [2] rfl rfl).mono ?_
 rintro e w1 ⟨gs,⟨rfl,g1,hg1,rfl⟩,Ta⟩
 simp only [PU] at Ta
 have HG1:=Lib.hid hg1
 clear hg1 c1
 have HT:=Lib.hid Ta
 clear Ta
 have HIP:=Lib.hid (show isPipe pb { p with ch:=tl,sp:=sp' } (pipeB pb cb lb p++([(cb,.chan p.room (tl.map fun f=>Value.agg f.vals.toArray).toArray false a (b+1) false)]++g1)) from ⟨cb,lb,hb,a,b+1,l',g1,HG1.out,HL'.out,rfl⟩)
 have n0:=HT.out.cell 6 0 rfl 0
 have n1:=HT.out.cell 6 0 rfl 1
 have n2:=HT.out.cell 6 0 rfl 2
 have n3:=HT.out.cell 6 0 rfl 3
 simp only [GE4] at n0 n1 n2 n3
 go_wp2_with fail
 refine (DoesG.use (HSD.out _ HIP.out) (HT.out.sum (H':=[pipeB pb cb lb p++([(cb,.chan p.room (tl.map fun f=>Value.agg f.vals.toArray).toArray false a (b+1) false)]++g1),[cl rb 69 #[.int .u64 0,.int .u64 0,.int .u64 0,.int .u64 0]],[cl vb 69 #[.int .u64 f.id,.int .u64 f.gen,.int .u64 f.dl,.int .u64 f.tick]],[cl zb 69 #[.int .u64 0,.int .u64 0,.int .u64 0,.int .u64 0]],[cl yb 320 #[.int .u64 x.id,.int .u64 x.gen,.int .u64 x.dl,.int .u64 x.tick,.pointer none,.pointer none,.pointer none]]])) [0] rfl rfl).mono ?_
 rintro e w1 ⟨gs,⟨rfl,g2,hg2,rfl⟩,Ta⟩
 simp only [PU] at Ta
 have HG2:=Lib.hid hg2
 clear hg2 n0 n1 n2 n3
 have HT:=Lib.hid Ta
 clear Ta
 have v0:=HT.out.cell 2 0 rfl 0
 have v1:=HT.out.cell 2 0 rfl 1
 have v2:=HT.out.cell 2 0 rfl 2
 have v3:=HT.out.cell 2 0 rfl 3
 simp only [GE4] at v0 v1 v2 v3
 have r0:=HT.out.cell 1 0 rfl 0
 have fr0:=HT.out.free 1 0 rfl 0
 have r1:=HT.out.cell 1 0 rfl 1
 have fr1:=HT.out.free 1 0 rfl 1
 have r2:=HT.out.cell 1 0 rfl 2
 have fr2:=HT.out.free 1 0 rfl 2
 have r3:=HT.out.cell 1 0 rfl 3
 have fr3:=HT.out.free 1 0 rfl 3
 simp only [GE4] at r0 r1 r2 r3
 have ne1:=HT.out.ne 1 0 2 0 (by decide) rfl rfl
 simp only [] at ne1
 have ne2:=Ne.symm ne1
 go_wp2
 exact bodyPost_ret (v:=.tuple #[.agg #[.int .u64 f.id,.int .u64 f.gen,.int .u64 f.dl,.int .u64 f.tick],.int .i64 0]) (by simp [results,Tryz.results270,go_sem,r0,r1,r2,r3]) rfl ⟨_,⟨rfl,g2,HG2.out,rfl⟩,(((((HT.out.set 1 0 rfl 0 _).set 1 0 rfl 1 _).set 1 0 rfl 2 _).set 1 0 rfl 3 _).pick [0] rfl)⟩
structure PipeOk (p:PipeS):Prop where
 ch:p.ch.length≤p.room
 sp:p.sp.length≤1000000
theorem pipeTake_g (hg:isPipe pb p g) (ho:PipeOk p):DoesG Tryz.prog 270 #[ptr' pb] [g] fun e gs =>
 e=.returned (.tuple #[.agg p.take.2.1.vals.toArray,.int .i64 p.take.2.2])∧∃ g',isPipe pb p.take.1 g'∧gs=[g']:=by
 cases hc:p.ch with
 | nil =>
   have e:p.take=(p,FireS.zero,6):=by unfold PipeS.take;rw [hc]
   rw [e];exact pipeTake_no hg hc
 | cons f tl =>
   have h1:=ho.ch
   have h2:=ho.sp
   rw [hc] at h1
   simp only [List.length_cons] at h1
   cases hs:p.sp with
   | nil =>
     have e:p.take=({ p with ch:=tl },f,0):=by unfold PipeS.take;rw [hc,hs]
     rw [e];exact pipeTake_1 hg hc hs
   | cons x sp' =>
     have e:p.take=({ p with ch:=tl++[x],sp:=sp' },f,0):=by unfold PipeS.take;rw [hc,hs]
     rw [hs] at h2
     simp only [List.length_cons] at h2
     rw [e];exact pipeTake_2 hg hc hs (by omega) (by omega)
end
end
end Go.Proofs.YtblhfbcodbjgcaaGreat
