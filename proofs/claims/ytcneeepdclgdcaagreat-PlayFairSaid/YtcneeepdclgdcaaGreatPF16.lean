import Derived.Test.YtcneeepdclgdcaaGreatPF15
import Derived.Test.YtcneeepdclgdcaaGreatPF4
set_option maxRecDepth 100000
set_option maxHeartbeats 4000000
namespace Go.Proofs.YtcneeepdclgdcaaGreat
open _root_.List renaming append_assoc->WK,flatten_append->WL,getD_eq_getElem?_getD->WN,getElem?_append_right->WO
open Go.Ending renaming returned->WM
open Go.Fence renaming wide->WQ
open _root_.Nat renaming le_refl->WR
open Go renaming Program->WS
set_option linter.all false
section
open Go.RowKit Go.Shelf
structure A8 where
 σ:Type
 /-- its own groups,in a state -/
 O:σ->GH->Prop
 /-- what it reads of the caller's -/
 T:σ->GH->Prop
 /-- a round: what it hands over: values,groups;the next state -/
 step:σ->Array Value->GH->σ->Prop
 /-- no more comes -/
 fin:σ->Prop
def uy (P:WS) (g:Nat) (lb:Array Value) (I:A8) (s0:I.σ):Prop :=
 ∀ (l:Nat) (J Jx:I.σ->GH->Prop),(∀ s H,J s H->I.T s H) ->
   (∀ s x G s' H W,J s H->I.step s x G s'->Yc (H++G) W->YieldAt WQ 0 P l x W fun e W' =>
     ∃ H',TG (H++G) W H' W'/\((e=WM (.bool true)/\J s' H')\/(e=WM (.bool false)/\Jx s' H'))) ->
   ∀ H0 O0 W,J s0 H0->I.O s0 O0->Yc (H0++O0) W ->
     Calls P g (#[.func (.yield l) #[] #[]]++lb) W fun e W'=>(∃ v,e=WM v)/\∃ s H' O',TG (H0++O0) W (H'++O') W'/\((I.fin s/\J s H'/\I.O s O')\/Jx s H')
theorem Qh.dG {h h2 h':PH} {w w':World} (a:Qh h w h' w') (p:h.Perm h2):Qh h2 w h' w':=by
 have hm:∀ k,k∈keys h↔k∈keys h2:=fun k=>(p.map Prod.fst).mem_iff
 exact ⟨a.has,a.only.mono (fun k _ hk=>(hm k).1 hk),fun k hk=>(a.news k hk).imp (hm k).1 id⟩
theorem TG.dG {h h2 H:GH} {w w':World} (a:TG h w H w') (p:h.flatten.Perm h2.flatten):TG h2 w H w':=Qh.dG a (qe p)
theorem TG.dropLast {h H:GH} {w w':World} {b:List ak} (a:TG h w (H++[b]) w'):TG h w H w':=by
 have a':Qh _ _ _ _:=a;have e:(H++[b]).flatten=H.flatten++b:=by simp
 rw [e,Zq] at a';exact a'.xM
theorem TG.frame {H H' K:GH} {w w':World} (T:TG H w H' w') (hK:Yc (H++K) w):TG (H++K) w (H'++K) w':=by
 have T':Qh _ _ _ _:=T
 have hh:Has (ex H.flatten++ex K.flatten) w:=by
  have:Has (ex (H++K).flatten) w:=hK;rwa [WL,Zq] at this
 have:=T'.frame hh;rw [<- Zq,<- Zq,<- WL,<- WL] at this;exact this
theorem Yc.re {H H':GH} {w:World} (h:Yc H w) (p:H.flatten.Perm H'.flatten):Yc H' w:=((TG.refl h).re p).has
theorem Yc.left {H K:GH} {w:World} (h:Yc (H++K) w):Yc H w:=by
 have hh:Has (ex H.flatten++ex K.flatten) w:=by
  have:Has (ex (H++K).flatten) w:=h;rwa [WL,Zq] at this
 exact hh.left
theorem Yc.last {H:GH} {b:Nat} {o:Obj} {w:World} (h:Yc (H++[[(b,o)]]) w):w.heap[b]?=some o :=
 h.obj H.length 0 (p:=(b,o)) (by rw [WN,WO (WR _)];simp)
theorem TG.bY {h H:GH} {w w':World} {b:Nat} {o:Obj} (T:TG h w (H++[[(b,o)]]) w') (o':Obj):TG h w (H++[[(b,o')]]) (w'.putObj b o'):=by
 have hb:=T.has.last;have hl:=(Array.getElem?_eq_some_iff.1 hb).1
 have hd:(H++[[(b,o)]]).getD H.length []=[(b,o)]:=by
  rw [WN,WO (WR _)];simp
 have:=T.turn (pre:=[]) (post:=[]) (o':=o') (w'':=w'.putObj b o') H.length (by simp) hd (World.putObj_heap_same hl) (fun k hk=>World.putObj_heap_other hk) World.putObj_size rfl rfl rfl;rwa [List.set_append_right _ _ (WR _),Nat.sub_self,List.set_cons_zero,List.nil_append] at this
theorem TG.app {a H:GH} {w w':World} (T:TG a w H w') {a':GH} (p:a.flatten=a'.flatten):TG a' w H w':=T.base p
def Ea (J:GH->Prop) (Jx:Code->GH->Prop) (H:GH) (W:World):Exit->Act->World->Prop
 | .normal,_,W'=>∃ H',J H'/\TG H W H' W'
 | .ret,_,W'=>∃ H',Jx .ret H'/\TG H W H' W'
 | .exit id,_,W'=>∃ H',Jx (.exit id) H'/\TG H W H' W'
 | .goto t,_,W'=>∃ H',Jx (.goto t) H'/\TG H W H' W'
 | .panic _,_,_=>False
 | .outgrown,_,_=>False
theorem MB {α:Type} (a b c:List α):(a++b++c).Perm (a++c++b):=by
 rw [WK,WK];exact List.perm_append_comm.append_left a
theorem Bt {P:WS} {g:Operand} {ps:Array Tmp} {assign body:Code} {Q:Exit->Act->World->Prop} {a:Act} {w0 w:World} {gf:Nat} {lb:Array Value}
 (hg:a.eval g=.func (.func gf) #[] lb) (eg:∀ args w,(callFunc gf args).run P w=.ok (.enter gf args) w)
 {I:A8} {s0:I.σ} (hit:uy P gf lb I s0) (hps:∀ s x G s',I.step s x G s'->x.size=ps.size)
 {h H0 O0:GH} (T0:TG h w0 (H0++O0) w) (hO:I.O s0 O0) (J:I.σ->GH->Prop) (Jx:I.σ->Code->GH->Prop) (h0:J s0 H0) (hT:∀ s H K,J s H->I.T s (H++K))
 (hbody:∀ s x G s' (H:GH) (W:World) (l:Nat),J s H->I.step s x G s'->Yc (H++G) W ->
   assign.wpIn (Fence.wide.inRound l) 0 P (Exit.then (fun a₁ Wa=>∃ Ha,TG (H++G) W Ha Wa /\
    ∀ Wb,Yc Ha Wb->body.wpIn (Fence.wide.inRound l) 0 P (Ea (J s') (Jx s') Ha Wb) a₁ Wb) (fun _ _ _=>False))
    { tmps:=(ps.zip x).foldl (fun t (p,v)=>t.setIfInBounds p v) a.tmps,defers:=[] } W)
 (hdone:∀ s H O W D,I.fin s->J s H->I.O s O->TG h w0 (H++O++[[(D,.deferred (some []))]]) W->Q .normal { a with defers:=rC D::a.defers } W)
 (hstop:∀ s cd H O W D,Jx s cd H->TG h w0 (H++O++[[(D,.deferred (some []))]]) W->cd.wp P Q { a with defers:=rC D::a.defers } W) :
 (Code.rangeFunc g ps assign body).wp P Q a w:=by
 refine (wpIn_wide (n:=0)).1 (wpIn_rangeFunc ?_)
 intro fn hfn;obtain ⟨D,hD⟩:∃ D,D=w.heap.size:=⟨_,rfl⟩;obtain ⟨L,hL⟩:∃ L,L=w.heap.size+1:=⟨_,rfl⟩;obtain ⟨rec,hrec⟩:∃ rec:LoopState->Option Code->Loop,rec=fun st pe=>{ state:=st,pending:=pe,fn,tmps:=a.tmps,params:=ps,assign,body,defers:=w.heap.size }:=⟨_,rfl⟩
 obtain ⟨W1,hW1⟩:∃ W1,(w.alloc (.deferred (some []))).alloc (.loop (rec .ready none))=W1:=⟨_,rfl⟩
 have T1:TG h w0 (H0++O0++[[(D,.deferred (some []))]]++[[(L,.loop (rec .ready none))]]) W1:=by
  rw [<- hW1];exact (T0.put hD _).put (by rw [World.size_alloc];exact hL) _
 refine ⟨w.heap.size+1,[rC w.heap.size],W1,{ target:=.fn (.func gf) lb,args:=#[.func (.yield (w.heap.size+1)) #[] #[]] },W1,gf,
  #[.func (.yield (w.heap.size+1)) #[] #[]]++lb,W1,?_,?_,?_,?_,?_,?_⟩
 ·rw [<- hW1,hrec];exact run_enterLoop_outer _ _ _ _ _
 ·simp only [resolve,hg]
  simp [go_sem]
 ·intro f' hf';trivial
 ·simp [invoke,go_sem,eg]
 ·intro h;simp [WQ] at h
 refine callsIn_wide.2 ?_
 rw [<- hL,<- hD];have hdef:∀ st pe,rec st pe={ state:=st,pending:=pe,fn,tmps:=a.tmps,params:=ps,assign,body,defers:=w.heap.size }:=fun st pe=>by rw [hrec]
 have mid:∀ (x y:GH) (z:List ak),(x++y++[z]).flatten.Perm (x++[z]++y).flatten:=fun x y z=>by
  simp only [WL];exact MB _ _ _
 have jw:∀ (x y:GH) (z u:List ak),(x++y++[z]++[u]).flatten.Perm (x++[z]++[u]++y).flatten:=fun x y z u=>by
  have h1:(x++y++([z]++[u])).flatten.Perm (x++([z]++[u])++y).flatten:=by
   simp only [WL];exact MB _ _ _
  simpa only [WK] using h1
 refine (hit L (fun s H=>∃ H1,J s H1/\H=H1++[[(D,.deferred (some []))]]++[[(L,.loop (rec .ready none))]])
  (fun s H=>∃ H1 cd,Jx s cd H1/\H=H1++[[(D,.deferred (some []))]]++[[(L,.loop (rec .done (some cd)))]]) ?_ ?_
  (H0++[[(D,.deferred (some []))]]++[[(L,.loop (rec .ready none))]]) O0 W1 ⟨H0,h0,rfl⟩ hO ((T1.re (jw _ _ _ _)).has)).mono ?_
 ·rintro s H ⟨H1,hJ,rfl⟩
  rw [WK];exact hT s H1 _ hJ
 ·rintro s x G s' H W ⟨H1,hJ,rfl⟩ hst hH
  have hH2:Yc (H1++G++[[(D,.deferred (some []))]]++[[(L,.loop (rec .ready none))]]) W:=hH.re (jw H1 G _ _).symm;have hr:=hH2.last;have hH3:Yc ((H1++G)++([[(D,.deferred (some []))]]++[[(L,.loop (rec .ready none))]])) W:=by simpa only [WK] using hH2
  have hH1:Yc (H1++G) W:=hH3.left;have hy:=run_yield (P:=P) (args:=x) hr (by rw [hrec];exact hps s x G s' hst);rw [hrec] at hy;refine ⟨fn,_,assign,body,hy,roundIn_of_wpIn trivial ?_⟩
  clear hy;refine wpIn_mono (hbody s x G s' H1 W L hJ hst hH1) ?_
  intro e a₁ Wa hex;cases e with
  | normal =>
    obtain ⟨Ha,wJ,hb⟩:=hex;have Ta:TG ((H1++G)++([[(D,.deferred (some []))]]++[[(L,.loop (rec .ready none))]])) W (Ha++([[(D,.deferred (some []))]]++[[(L,.loop (rec .ready none))]])) Wa:=wJ.frame hH3;have CL:TG ((H1++G)++([[(D,.deferred (some []))]]++[[(L,.loop (rec .ready none))]])) W ((Ha++[[(D,.deferred (some []))]])++[[(L,.loop (rec .ready none))]]) Wa:=Ta.eq (by simp);have hra:Wa.heap[L]?=some (.loop (rec .ready none)):=CL.has.last;refine ⟨_,run_beginRound hra (by rw [hrec]),?_⟩
    have Tb:=CL.bY (.loop { rec .ready none with state:=.busy });have CO:TG ((H1++G)++([[(D,.deferred (some []))]]++[[(L,.loop (rec .ready none))]])) W (Ha++([[(D,.deferred (some []))]]++[[(L,.loop { rec .ready none with state:=.busy })]])) _:=Tb.eq (by simp);have yV:=CO.has;refine wpIn_mono (hb _ yV.left) ?_
    have hbase:((H1++G)++([[(D,Obj.deferred (some []))]]++[[(L,Obj.loop (rec .ready none))]]):GH).flatten.Perm (H1++[[(D,.deferred (some []))]]++[[(L,.loop (rec .ready none))]]++G:GH).flatten:=by
     have:=jw H1 G [(D,Obj.deferred (some []))] [(L,Obj.loop (rec .ready none))];simpa only [WK] using this
    have fin:∀ (jump:Option Code) (H':GH) (W3:World),TG Ha (Wa.putObj L (.loop { rec .ready none with state:=.busy })) H' W3 ->
     (Instr.endRound L jump).run P W3=.ok (.bool jump.isNone) (W3.putObj L (.loop (rec (if jump.isNone then .ready else .done) jump))) /\
     TG (H1++[[(D,.deferred (some []))]]++[[(L,.loop (rec .ready none))]]++G) W (H'++[[(D,.deferred (some []))]]++[[(L,.loop (rec (if jump.isNone then .ready else .done) jump))]]) (W3.putObj L (.loop (rec (if jump.isNone then .ready else .done) jump))):=by
     intro jump H' W3 h3;have T3:=h3.frame yV;have T4:=(CO.trans T3).eq (H':=(H'++[[(D,.deferred (some []))]])++[[(L,.loop { rec .ready none with state:=.busy })]]) (by simp);have he:=run_endRound (P:=P) jump T4.has.last;refine ⟨by rw [hrec] at he |-;exact he,?_⟩
     have T5:=T4.bY (.loop (rec (if jump.isNone then .ready else .done) jump));unfold TG at T5 |-;exact Qh.dG T5 (qe hbase)
    intro ex a₂ W3 hp;cases ex with
    | normal =>
      obtain ⟨H',hj,h3⟩:=hp;obtain ⟨f1,f2⟩:=fin none H' W3 h3;exact ⟨_,_,f1,_,f2,.inl ⟨rfl,H',hj,rfl⟩⟩
    | ret =>
      obtain ⟨H',hj,h3⟩:=hp;obtain ⟨f1,f2⟩:=fin (some .ret) H' W3 h3;exact ⟨_,_,f1,_,f2,.inr ⟨rfl,H',.ret,hj,rfl⟩⟩
    | exit id =>
      obtain ⟨H',hj,h3⟩:=hp;obtain ⟨f1,f2⟩:=fin (some (.exit id)) H' W3 h3;exact ⟨_,_,f1,_,f2,.inr ⟨rfl,H',.exit id,hj,rfl⟩⟩
    | goto t =>
      obtain ⟨H',hj,h3⟩:=hp;obtain ⟨f1,f2⟩:=fin (some (.goto t)) H' W3 h3;exact ⟨_,_,f1,_,f2,.inr ⟨rfl,H',.goto t,hj,rfl⟩⟩
    | panic ch=>exact hp.elim
    | outgrown=>exact hp.elim
  | ret=>exact hex.elim
  | exit id=>exact hex.elim
  | goto t=>exact hex.elim
  | panic ch=>exact hex.elim
  | outgrown=>exact hex.elim
 ·rintro e W2 ⟨⟨v,rfl⟩,s,H',O',T2,hr⟩
  have back:∀ (H1:GH) (st:LoopState) (pe:Option Code) (o':Obj),H'=H1++[[(D,.deferred (some []))]]++[[(L,.loop (rec st pe))]] ->
   W2.heap[L]?=some (.loop (rec st pe))/\TG h w0 (H1++O'++[[(D,.deferred (some []))]]++[[(L,o')]]) (W2.putObj L o'):=by
   rintro H1 st pe o' rfl;have T3:=(T1.re (jw H0 O0 _ _)).trans T2;have T4:=T3.re (jw H1 O' _ _).symm;exact ⟨T4.has.last,T4.bY o'⟩
  rcases hr with ⟨hf,⟨H1,hj,sV⟩,ho⟩ | ⟨H1,cd,hj,sV⟩
  ·obtain ⟨hl,_⟩:=back H1 .ready none (.loop (rec .ready none)) sV
   have he:=run_endLoop (P:=P) hl (by rw [hrec];simp);have hp:(rec .ready none).pending=none:=by rw [hrec]
   refine ⟨none,_,by rw [he,hp],?_⟩
   exact hdone s H1 O' _ D hf hj ho (TG.dropLast (back H1 .ready none _ sV).2)
  ·obtain ⟨hl,_⟩:=back H1 .done (some cd) (.loop (rec .ready none)) sV
   have he:=run_endLoop (P:=P) hl (by rw [hrec];simp);have hp:(rec .done (some cd)).pending=some cd:=by rw [hrec]
   refine ⟨some cd,_,by rw [he,hp],?_⟩
   exact (wpIn_wide (n:=0)).2 (hstop s cd H1 O' _ D hj (TG.dropLast (back H1 .done (some cd) _ sV).2))
structure IU where
 σ:Type
 O:σ->GH->Prop
 step:σ->Array Value->σ->Prop
 fin:σ->Prop
def QC (P:WS) (g:Nat) (lb:Array Value) (I:IU) (ok:I.σ->Prop) (s0:I.σ):Prop :=
 ∀ (l:Nat) (J Jx:I.σ->GH->Prop),(∀ s H,J s H->ok s) ->
   (∀ s x s' H Oy W,J s H->I.step s x s'->I.O s' Oy->Yc (H++Oy) W->YieldAt WQ 0 P l x W fun e W' =>
     ∃ H' iX,TG (H++Oy) W (H'++iX) W'/\I.O s' iX/\((e=WM (.bool true)/\J s' H')\/(e=WM (.bool false)/\Jx s' H'))) ->
   ∀ H0 O0 W,J s0 H0->I.O s0 O0->Yc (H0++O0) W ->
     Calls P g (#[.func (.yield l) #[] #[]]++lb) W fun e W'=>(∃ v,e=WM v)/\∃ s H' O',TG (H0++O0) W (H'++O') W'/\I.O s O'/\((I.fin s/\J s H')\/Jx s H')
theorem Tp {P:WS} {g:Operand} {ps:Array Tmp} {assign body:Code} {Q:Exit->Act->World->Prop} {a:Act} {w0 w:World} {gf:Nat} {lb:Array Value}
 (hg:a.eval g=.func (.func gf) #[] lb) (eg:∀ args w,(callFunc gf args).run P w=.ok (.enter gf args) w)
 {I:IU} {ok:I.σ->Prop} {s0:I.σ} (hit:QC P gf lb I ok s0) (hps:∀ s x s',I.step s x s'->x.size=ps.size)
 {h H0 O0:GH} (T0:TG h w0 (H0++O0) w) (hO:I.O s0 O0) (J:I.σ->GH->Prop) (Jx:I.σ->Code->GH->Prop) (h0:J s0 H0) (hT:∀ s H,J s H->ok s)
 (hbody:∀ s x s' (H Oy:GH) (W:World) (l:Nat),J s H->I.step s x s'->I.O s' Oy->Yc (H++Oy) W ->
   assign.wpIn (Fence.wide.inRound l) 0 P (Exit.then (fun a₁ Wa=>∃ Ha,TG (H++Oy) W Ha Wa /\
    ∀ Wb,Yc Ha Wb->body.wpIn (Fence.wide.inRound l) 0 P (Ea (fun X=>∃ H' iX,X=H'++iX/\J s' H'/\I.O s' iX) (fun cd X=>∃ H' iX,X=H'++iX/\Jx s' cd H'/\I.O s' iX) Ha Wb) a₁ Wb) (fun _ _ _=>False))
    { tmps:=(ps.zip x).foldl (fun t (p,v)=>t.setIfInBounds p v) a.tmps,defers:=[] } W)
 (hdone:∀ s H O W D,I.fin s->J s H->I.O s O->TG h w0 (H++O++[[(D,.deferred (some []))]]) W->Q .normal { a with defers:=rC D::a.defers } W)
 (hstop:∀ s cd H O W D,Jx s cd H->I.O s O->TG h w0 (H++O++[[(D,.deferred (some []))]]) W->cd.wp P Q { a with defers:=rC D::a.defers } W) :
 (Code.rangeFunc g ps assign body).wp P Q a w:=by
 refine (wpIn_wide (n:=0)).1 (wpIn_rangeFunc ?_)
 intro fn hfn;obtain ⟨D,hD⟩:∃ D,D=w.heap.size:=⟨_,rfl⟩;obtain ⟨L,hL⟩:∃ L,L=w.heap.size+1:=⟨_,rfl⟩;obtain ⟨rec,hrec⟩:∃ rec:LoopState->Option Code->Loop,rec=fun st pe=>{ state:=st,pending:=pe,fn,tmps:=a.tmps,params:=ps,assign,body,defers:=w.heap.size }:=⟨_,rfl⟩
 obtain ⟨W1,hW1⟩:∃ W1,(w.alloc (.deferred (some []))).alloc (.loop (rec .ready none))=W1:=⟨_,rfl⟩
 have T1:TG h w0 (H0++O0++[[(D,.deferred (some []))]]++[[(L,.loop (rec .ready none))]]) W1:=by
  rw [<- hW1];exact (T0.put hD _).put (by rw [World.size_alloc];exact hL) _
 refine ⟨w.heap.size+1,[rC w.heap.size],W1,{ target:=.fn (.func gf) lb,args:=#[.func (.yield (w.heap.size+1)) #[] #[]] },W1,gf,
  #[.func (.yield (w.heap.size+1)) #[] #[]]++lb,W1,?_,?_,?_,?_,?_,?_⟩
 ·rw [<- hW1,hrec];exact run_enterLoop_outer _ _ _ _ _
 ·simp only [resolve,hg]
  simp [go_sem]
 ·intro f' hf';trivial
 ·simp [invoke,go_sem,eg]
 ·intro h;simp [WQ] at h
 refine callsIn_wide.2 ?_
 rw [<- hL,<- hD]
 have jw:∀ (x y:GH) (z u:List ak),(x++y++[z]++[u]).flatten.Perm (x++[z]++[u]++y).flatten:=fun x y z u=>by
  have h1:(x++y++([z]++[u])).flatten.Perm (x++([z]++[u])++y).flatten:=by
   simp only [WL];exact MB _ _ _
  simpa only [WK] using h1
 refine (hit L (fun s H=>∃ H1,J s H1/\H=H1++[[(D,.deferred (some []))]]++[[(L,.loop (rec .ready none))]])
  (fun s H=>∃ H1 cd,Jx s cd H1/\H=H1++[[(D,.deferred (some []))]]++[[(L,.loop (rec .done (some cd)))]]) ?_ ?_
  (H0++[[(D,.deferred (some []))]]++[[(L,.loop (rec .ready none))]]) O0 W1 ⟨H0,h0,rfl⟩ hO ((T1.re (jw _ _ _ _)).has)).mono ?_
 ·rintro s H ⟨H1,hJ,rfl⟩
  exact hT s H1 hJ
 ·rintro s x s' H Oy W ⟨H1,hJ,rfl⟩ hst hOy hH
  have hH2:Yc (H1++Oy++[[(D,.deferred (some []))]]++[[(L,.loop (rec .ready none))]]) W:=hH.re (jw H1 Oy _ _).symm;have hr:=hH2.last;have hH3:Yc ((H1++Oy)++([[(D,.deferred (some []))]]++[[(L,.loop (rec .ready none))]])) W:=by simpa only [WK] using hH2
  have hH1:Yc (H1++Oy) W:=hH3.left;have hy:=run_yield (P:=P) (args:=x) hr (by rw [hrec];exact hps s x s' hst);rw [hrec] at hy;refine ⟨fn,_,assign,body,hy,roundIn_of_wpIn trivial ?_⟩
  clear hy;refine wpIn_mono (hbody s x s' H1 Oy W L hJ hst hOy hH1) ?_
  intro e a₁ Wa hex;cases e with
  | normal =>
    obtain ⟨Ha,wJ,hb⟩:=hex;have Ta:TG ((H1++Oy)++([[(D,.deferred (some []))]]++[[(L,.loop (rec .ready none))]])) W (Ha++([[(D,.deferred (some []))]]++[[(L,.loop (rec .ready none))]])) Wa:=wJ.frame hH3;have CL:TG ((H1++Oy)++([[(D,.deferred (some []))]]++[[(L,.loop (rec .ready none))]])) W ((Ha++[[(D,.deferred (some []))]])++[[(L,.loop (rec .ready none))]]) Wa:=Ta.eq (by simp);have hra:Wa.heap[L]?=some (.loop (rec .ready none)):=CL.has.last;refine ⟨_,run_beginRound hra (by rw [hrec]),?_⟩
    have Tb:=CL.bY (.loop { rec .ready none with state:=.busy });have CO:TG ((H1++Oy)++([[(D,.deferred (some []))]]++[[(L,.loop (rec .ready none))]])) W (Ha++([[(D,.deferred (some []))]]++[[(L,.loop { rec .ready none with state:=.busy })]])) _:=Tb.eq (by simp);have yV:=CO.has;refine wpIn_mono (hb _ yV.left) ?_
    have hbase:((H1++Oy)++([[(D,Obj.deferred (some []))]]++[[(L,Obj.loop (rec .ready none))]]):GH).flatten.Perm (H1++[[(D,.deferred (some []))]]++[[(L,.loop (rec .ready none))]]++Oy:GH).flatten:=by
     have:=jw H1 Oy [(D,Obj.deferred (some []))] [(L,Obj.loop (rec .ready none))];simpa only [WK] using this
    have fin:∀ (jump:Option Code) (H' iX:GH) (W3:World),TG Ha (Wa.putObj L (.loop { rec .ready none with state:=.busy })) (H'++iX) W3 ->
     (Instr.endRound L jump).run P W3=.ok (.bool jump.isNone) (W3.putObj L (.loop (rec (if jump.isNone then .ready else .done) jump))) /\
     TG (H1++[[(D,.deferred (some []))]]++[[(L,.loop (rec .ready none))]]++Oy) W ((H'++[[(D,.deferred (some []))]]++[[(L,.loop (rec (if jump.isNone then .ready else .done) jump))]])++iX) (W3.putObj L (.loop (rec (if jump.isNone then .ready else .done) jump))):=by
     intro jump H' iX W3 h3;have T3:=h3.frame yV;have T4:=(CO.trans T3).eq (H':=(H'++iX++[[(D,.deferred (some []))]])++[[(L,.loop { rec .ready none with state:=.busy })]]) (by simp);have he:=run_endRound (P:=P) jump T4.has.last;refine ⟨by rw [hrec] at he |-;exact he,?_⟩
     have T5:=T4.bY (.loop (rec (if jump.isNone then .ready else .done) jump));have T6:=T5.re (jw H' iX _ _);unfold TG at T6 |-;exact Qh.dG T6 (qe hbase)
    intro ex a₂ W3 hp;cases ex with
    | normal =>
      obtain ⟨X,⟨H',iX,rfl,hj,ho'⟩,h3⟩:=hp;obtain ⟨f1,f2⟩:=fin none H' iX W3 h3;exact ⟨_,_,f1,_,iX,f2,ho',.inl ⟨rfl,H',hj,rfl⟩⟩
    | ret =>
      obtain ⟨X,⟨H',iX,rfl,hj,ho'⟩,h3⟩:=hp;obtain ⟨f1,f2⟩:=fin (some .ret) H' iX W3 h3;exact ⟨_,_,f1,_,iX,f2,ho',.inr ⟨rfl,H',.ret,hj,rfl⟩⟩
    | exit id =>
      obtain ⟨X,⟨H',iX,rfl,hj,ho'⟩,h3⟩:=hp;obtain ⟨f1,f2⟩:=fin (some (.exit id)) H' iX W3 h3;exact ⟨_,_,f1,_,iX,f2,ho',.inr ⟨rfl,H',.exit id,hj,rfl⟩⟩
    | goto t =>
      obtain ⟨X,⟨H',iX,rfl,hj,ho'⟩,h3⟩:=hp;obtain ⟨f1,f2⟩:=fin (some (.goto t)) H' iX W3 h3;exact ⟨_,_,f1,_,iX,f2,ho',.inr ⟨rfl,H',.goto t,hj,rfl⟩⟩
    | panic ch=>exact hp.elim
    | outgrown=>exact hp.elim
  | ret=>exact hex.elim
  | exit id=>exact hex.elim
  | goto t=>exact hex.elim
  | panic ch=>exact hex.elim
  | outgrown=>exact hex.elim
 ·rintro e W2 ⟨⟨v,rfl⟩,s,H',O',T2,ho,hr⟩
  have back:∀ (H1:GH) (st:LoopState) (pe:Option Code) (o':Obj),H'=H1++[[(D,.deferred (some []))]]++[[(L,.loop (rec st pe))]] ->
   W2.heap[L]?=some (.loop (rec st pe))/\TG h w0 (H1++O'++[[(D,.deferred (some []))]]++[[(L,o')]]) (W2.putObj L o'):=by
   rintro H1 st pe o' rfl;have T3:=(T1.re (jw H0 O0 _ _)).trans T2;have T4:=T3.re (jw H1 O' _ _).symm;exact ⟨T4.has.last,T4.bY o'⟩
  rcases hr with ⟨hf,H1,hj,sV⟩ | ⟨H1,cd,hj,sV⟩
  ·obtain ⟨hl,_⟩:=back H1 .ready none (.loop (rec .ready none)) sV
   have he:=run_endLoop (P:=P) hl (by rw [hrec];simp);have hp:(rec .ready none).pending=none:=by rw [hrec]
   refine ⟨none,_,by rw [he,hp],?_⟩
   exact hdone s H1 O' _ D hf hj ho (TG.dropLast (back H1 .ready none _ sV).2)
  ·obtain ⟨hl,_⟩:=back H1 .done (some cd) (.loop (rec .ready none)) sV
   have he:=run_endLoop (P:=P) hl (by rw [hrec];simp);have hp:(rec .done (some cd)).pending=some cd:=by rw [hrec]
   refine ⟨some cd,_,by rw [he,hp],?_⟩
   exact (wpIn_wide (n:=0)).2 (hstop s cd H1 O' _ D hj ho (TG.dropLast (back H1 .done (some cd) _ sV).2))
end
end Go.Proofs.YtcneeepdclgdcaaGreat
