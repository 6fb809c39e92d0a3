import Derived.Test.YtcneeepdclgdcaaGreatPF23
import Derived.Test.YtcneeepdclgdcaaGreatPF21
set_option maxRecDepth 100000
set_option maxHeartbeats 4000000
namespace Go.Proofs.YtcneeepdclgdcaaGreat
open Go.Value renaming int->WK,nilFunc->WM,func->WQ,tuple->WV,pointer->WX
open Go.IntKind renaming i64->WL,u64->WN
open Go.Ending renaming returned->WO
open Go.Fn renaming func->WR
open Go renaming bodyPost_ret->WS,wpQuiet_nil->WU,bodyPost_end->WY,results_none->WZ
open Go.World renaming alloc->WT,drew->XB,setCell->XH
open _root_.List renaming mem_append_right->WW,mem_append_left->XC,set_cons_zero->XD,set_cons_succ->XE,length_append->XF
open _root_.Int renaming le_refl->XA
open _root_.Subtype renaming val->XG
set_option linter.all false
open Go.Proofs.Tryz
section
open Go.RowKit Go.Shelf
theorem Ss (a b c d e f:Value) (w:World):(Instr.field 30 (.agg #[a,b,c,d,e,f]) 1).run prog w=.ok b w:=by kernel_rfl
section
variable {L:Lay} {x:Qi} {p:Qz} {e g gC gK gF:List ak} {kb:Nat} {pv vl al:Value} {k:Yv}
theorem PL (hx:Qf L x gC) (ix:Int) (h0:0<=ix/\ix<=65):Qa prog 161 #[Qb kb,WK WL ix] [Xp kb L.fb pv vl al k,gC] fun en gs =>
 ∃ g' l,FK L kb pv (Zv ix ⟨k,x,p⟩) en g' l/\gs=[g',l,Xp kb L.fb pv vl al k,gC]:=by
 have hcf:=RE hx;simp only [Cfg.cells] at hcf;by_cases hi:x.f.cfg.cap<=ix
 ·have he:Zv ix ⟨k,x,p⟩=.thn (.ai .dE) .waits:=if_pos hi
  rw [he]
  have hrow:∀ (bk b bf bl bi:Nat),(wX L kb pv).SV [cl bk 94 #[Qb kb]] (.ai .dE) WM (WQ (WR 209) #[] #[Qb bf,Qb bl,Qb bi])
   ([cl bf 1 #[WQ (WR 197) #[] #[Qb bk]],cl bl 322 #[.slice (some ⟨b,0,none⟩) 1 1],cl bi 3 #[WK WL 0],cl b 1 #[WQ (WR 197) #[] #[Qb bk]]]++[]) :=
   fun bk b bf bl bi=>⟨rfl,bf,bl,bi,b,0,_,_,_,rfl,⟨rfl,bk,rfl,by simp⟩,rfl,rfl⟩
  have fA:∀ (bk b bf bl bi:Nat),_:=fun bk b bf bl bi=>aZ.bS (c:=(wX L kb pv).on [cl bk 94 #[Qb kb]]) (f:=MS.waits) (v:=WQ (WR 199) #[Qb kb] #[]) (gm:=[]) (Jg L kb pv _) rfl (hrow bk b bf bl bi) ⟨rfl,rfl⟩
  have hfc:=fun w=>Ss (WK WL x.f.cfg.sh) (WK WL x.f.cfg.cap) (WK WL x.f.cfg.ring) (WK WL x.f.cfg.room) (WK WL x.f.cfg.wk) (WK WL x.f.cfg.cO) w
  refine GO fun w HT=>?_
  have kG:=Vh fA;have si:=Vh hcf;have k0:=HT.c 0 0 0;simp only [Z9,aC] at k0;clear hrow fA hcf hx he h0;go_enter func161,ntmps161
  go_wp2
  have HT:=Vh (((HT.a 94 #[Qb kb]).alloc (k:=w.heap.size+1) (by simp) 3 #[WK WL ix]).alloc (k:=w.heap.size+1+1) (by simp) 153 #[WM,WM]);clear k0;generalize WT (WT (WT w _) _) _=w1 at HT |-;obtain ⟨ι,W,hW0,hend,hin⟩:∃ (ι:Type) (W:ι->World),(∃ i,XB w1=W i)/\(∀ i,∃ u:Unit,True/\TG [Xp kb L.fb pv vl al k,gC] w [Xp kb L.fb pv vl al k,gC,[cl w.heap.size 94 #[Qb kb]],[cl (w.heap.size+1) 3 #[WK WL ix]],[cl (w.heap.size+1+1) 153 #[WM,WM]]] (W i))/\(∀ w',(∃ u:Unit,True/\TG [Xp kb L.fb pv vl al k,gC] w [Xp kb L.fb pv vl al k,gC,[cl w.heap.size 94 #[Qb kb]],[cl (w.heap.size+1) 3 #[WK WL ix]],[cl (w.heap.size+1+1) 153 #[WM,WM]]] w')->∃ i,w'=W i):=⟨{w' // ∃ u:Unit,True/\TG [Xp kb L.fb pv vl al k,gC] w [Xp kb L.fb pv vl al k,gC,[cl w.heap.size 94 #[Qb kb]],[cl (w.heap.size+1) 3 #[WK WL ix]],[cl (w.heap.size+1+1) 153 #[WM,WM]]] w'},XG,⟨⟨_,(),trivial,HT.drew⟩,rfl⟩,fun i=>i.2,fun w' h=>⟨⟨w',h⟩,rfl⟩⟩;have hne:Nonempty ι:=hW0.elim fun i _=>⟨i⟩
  have k0:∀ i,(W i).cell? ⟨kb,0,none⟩=some (Qb L.fb):=fun i=>by obtain ⟨_,_,T⟩:=hend i;exact T.c 0 0 0
  have a0:∀ i,(W i).cell? ⟨w.heap.size,0,none⟩=some (Qb kb):=fun i=>by obtain ⟨_,_,T⟩:=hend i;exact T.c 2 0 0
  have b0:∀ i,(W i).cell? ⟨w.heap.size+1,0,none⟩=some (WK WL ix):=fun i=>by obtain ⟨_,_,T⟩:=hend i;exact T.c 3 0 0
  have m1:∀ i,Calls prog 195 #[Qb L.fb] (W i) fun e w2=>e=WO (.agg #[WK WL x.f.cfg.sh,WK WL x.f.cfg.cap,WK WL x.f.cfg.ring,WK WL x.f.cfg.room,WK WL x.f.cfg.wk,WK WL x.f.cfg.cO])/\∃ j,w2=W j:=fun i=>by
   obtain ⟨_,_,T⟩:=hend i;refine (Qa.use si T [1] rfl rfl).mono ?_
   rintro e w2 ⟨gs,⟨rfl,rfl⟩,T2⟩;exact ⟨rfl,hin _ ⟨(),trivial,T2⟩⟩
  refine Jw W (by kernel_rfl) (by kernel_rfl) hW0 ?_
  repeat (go_big_quiet_step ((first | (go_at_call 195;with_reducible exact m1 _))))
  refine WU ?_
  intro _ hw;obtain ⟨iq,hw2⟩:=hw;subst hw2;obtain ⟨_,_,T⟩:=hend iq;have HT:=Vh T;generalize W iq=w1 at HT |-;clear T hend hin hW0 hne;clear k0 a0 b0 m1;go_wp2_with fail
  have nU:=HT.l 2 0;have lt2:=HT.l 4 0;simp only [] at nU lt2;have bb0:=HT.c 2 0 0;simp only [aT] at bb0
  go_region_with (first
   | (go_at_call 178
      refine (Qa.use (aZ.eO (b:=w1.heap.size) (o:=0) (D:=#[WQ (WR 197) #[] #[Qb w.heap.size]]) rfl 1 (.inl rfl)) (HT.drew.alloc (k:=w1.heap.size) (by simp) _ _) [5] rfl rfl).mono ?_
      rintro e w2 ⟨gs,⟨bf,bl,bi,rfl,rfl⟩,Ta⟩;simp only [PU] at Ta;have b0:=Ta.c 2 0 0;simp only [bR] at b0;have HT1:=Vh (Ta.sum (H':=[[cl bf 1 #[WQ (WR 197) #[] #[Qb w.heap.size]],cl bl 322 #[.slice (some ⟨w1.heap.size,0,none⟩) 1 1],cl bi 3 #[WK WL 0],cl w1.heap.size 1 #[WQ (WR 197) #[] #[Qb w.heap.size]]]++[],[],[cl w.heap.size 94 #[Qb kb]],Xp kb L.fb pv vl al k,gC,[cl (w.heap.size+1+1) 153 #[WM,WM]],[cl (w.heap.size+1) 3 #[WK WL ix]]]))
      clear Ta)
   | (go_at_call 196
      refine (Qa.use (kG w.heap.size w1.heap.size bf bl bi) HT1 [0,1] rfl rfl).mono ?_
      rintro e w3 ⟨gs,⟨bs,br,rfl,rfl⟩,Ta⟩;simp only [PU] at Ta;obtain ⟨e0,e1⟩:=Ta.c2 5 0 0 1;obtain ⟨f0,f1⟩:=Ta.f2 5 0 0 1;have HT2:=Vh Ta
      clear Ta))
  all_goals
   go_wp2
   exact WS (v:=.agg #[_,_]) (by simp [results,results161,go_sem,e0,e1]) rfl ⟨_,⟨_,[cl w.heap.size 94 #[Qb kb]],⟨_,_,rfl,fun e he=>⟨bs,br,_,_,_,[],rfl,rfl,⟨rfl,bf,bl,bi,w1.heap.size,0,#[WQ (WR 197) #[] #[Qb w.heap.size]],_,[],rfl,⟨rfl,w.heap.size,rfl,he _ (by simp)⟩,rfl,rfl⟩,⟨rfl,rfl⟩,rfl⟩⟩,rfl⟩,(((HT2.set 5 0 rfl 0 _).set 5 0 rfl 1 _).p [0,2,3,4]).sum⟩
 ·have he:Zv ix ⟨k,x,p⟩=.thn (uf ix) (.az ix):=if_neg hi
  rw [he];have hi2:ix<x.f.cfg.cap:=by omega
  have hfc:=fun w=>Ss (WK WL x.f.cfg.sh) (WK WL x.f.cfg.cap) (WK WL x.f.cfg.ring) (WK WL x.f.cfg.room) (WK WL x.f.cfg.wk) (WK WL x.f.cfg.cO) w
  refine GO fun w HT=>?_
  have si:=Vh hcf;have k0:=HT.c 0 0 0;simp only [Z9,aC] at k0;clear hcf hx he h0;go_enter func161,ntmps161
  go_wp2
  have HT:=Vh (((HT.a 94 #[Qb kb]).alloc (k:=w.heap.size+1) (by simp) 3 #[WK WL ix]).alloc (k:=w.heap.size+1+1) (by simp) 153 #[WM,WM]);clear k0;generalize WT (WT (WT w _) _) _=w1 at HT |-;obtain ⟨ι,W,hW0,hend,hin⟩:∃ (ι:Type) (W:ι->World),(∃ i,XB w1=W i)/\(∀ i,∃ u:Unit,True/\TG [Xp kb L.fb pv vl al k,gC] w [Xp kb L.fb pv vl al k,gC,[cl w.heap.size 94 #[Qb kb]],[cl (w.heap.size+1) 3 #[WK WL ix]],[cl (w.heap.size+1+1) 153 #[WM,WM]]] (W i))/\(∀ w',(∃ u:Unit,True/\TG [Xp kb L.fb pv vl al k,gC] w [Xp kb L.fb pv vl al k,gC,[cl w.heap.size 94 #[Qb kb]],[cl (w.heap.size+1) 3 #[WK WL ix]],[cl (w.heap.size+1+1) 153 #[WM,WM]]] w')->∃ i,w'=W i):=⟨{w' // ∃ u:Unit,True/\TG [Xp kb L.fb pv vl al k,gC] w [Xp kb L.fb pv vl al k,gC,[cl w.heap.size 94 #[Qb kb]],[cl (w.heap.size+1) 3 #[WK WL ix]],[cl (w.heap.size+1+1) 153 #[WM,WM]]] w'},XG,⟨⟨_,(),trivial,HT.drew⟩,rfl⟩,fun i=>i.2,fun w' h=>⟨⟨w',h⟩,rfl⟩⟩;have hne:Nonempty ι:=hW0.elim fun i _=>⟨i⟩
  have k0:∀ i,(W i).cell? ⟨kb,0,none⟩=some (Qb L.fb):=fun i=>by obtain ⟨_,_,T⟩:=hend i;exact T.c 0 0 0
  have a0:∀ i,(W i).cell? ⟨w.heap.size,0,none⟩=some (Qb kb):=fun i=>by obtain ⟨_,_,T⟩:=hend i;exact T.c 2 0 0
  have b0:∀ i,(W i).cell? ⟨w.heap.size+1,0,none⟩=some (WK WL ix):=fun i=>by obtain ⟨_,_,T⟩:=hend i;exact T.c 3 0 0
  have m1:∀ i,Calls prog 195 #[Qb L.fb] (W i) fun e w2=>e=WO (.agg #[WK WL x.f.cfg.sh,WK WL x.f.cfg.cap,WK WL x.f.cfg.ring,WK WL x.f.cfg.room,WK WL x.f.cfg.wk,WK WL x.f.cfg.cO])/\∃ j,w2=W j:=fun i=>by
   obtain ⟨_,_,T⟩:=hend i;refine (Qa.use si T [1] rfl rfl).mono ?_
   rintro e w2 ⟨gs,⟨rfl,rfl⟩,T2⟩;exact ⟨rfl,hin _ ⟨(),trivial,T2⟩⟩
  refine Jw W (by kernel_rfl) (by kernel_rfl) hW0 ?_
  repeat (go_big_quiet_step ((first | (go_at_call 195;with_reducible exact m1 _))))
  refine WU ?_
  intro _ hw;obtain ⟨iq,hw2⟩:=hw;subst hw2;obtain ⟨_,_,T⟩:=hend iq;have HT:=Vh T;generalize W iq=w1 at HT |-;clear T hend hin hW0 hne;clear k0 a0 b0 m1
  all_goals
   skip
   have a0:=HT.c 2 0 0;simp only [aT] at a0;have b0:=HT.c 3 0 0;simp only [aT] at b0;go_wp2_with fail
   refine Qa.run (Vg L kb pv ix) (HT) [] ?_
   rintro e w1 gs ⟨g2,l2,⟨m2,d2,rfl,hs2⟩,rfl⟩ HT;simp only [PU] at HT;have HS2:=Vh hs2;clear hs2 a0 b0;go_wp2_with fail
   refine Qa.run (aZ.bS (c:=(wX L kb pv).on (l2++[cl w.heap.size 94 #[Qb kb],cl (w.heap.size+1) 3 #[WK WL ix]])) (f:=MS.az ix) (v:=WQ (WR 201) #[] #[Qb w.heap.size,Qb (w.heap.size+1)]) (gm:=[]) (Jg L kb pv _) rfl (HS2 _ (fun b hb=>XC _ hb)) ⟨rfl,w.heap.size,w.heap.size+1,rfl,by simp,by simp⟩) (HT.sum (H':=[Xp kb L.fb pv vl al k,gC,[cl w.heap.size 94 #[Qb kb]],[cl (w.heap.size+1) 3 #[WK WL ix]],[cl (w.heap.size+1+1) 153 #[WM,WM]],g2,l2,[]])) [5,7] ?_
   rintro e w1 gs ⟨bs,br,rfl,rfl⟩ HT;simp only [PU] at HT;obtain ⟨r0,r1⟩:=HT.c2 4 0 0 1;obtain ⟨df,dm⟩:=HT.f2 4 0 0 1;simp only [aT] at r0 r1;have hv2:=(Jg L kb pv l2).vals (HS2 l2 (fH.refl _));obtain ⟨st1,st2⟩:=aZ.aG (P:=prog) hv2.1 (.inr ⟨_,_,_,rfl⟩:aZ.eQ (WQ (WR 237) #[] #[Qb bs,Qb br])) r0 df r1 dm;clear hv2;go_wp2
   exact WS (v:=.agg #[_,_]) (by simp [results,results161,go_sem,r0,r1]) rfl ⟨_,⟨_,l2++[cl w.heap.size 94 #[Qb kb],cl (w.heap.size+1) 3 #[WK WL ix]],⟨_,_,rfl,fun e he=>⟨bs,br,d2,_,g2,[],rfl,rfl,HS2 _ (fun b hb=>he _ (XC _ hb)),⟨rfl,w.heap.size,w.heap.size+1,rfl,he _ (by simp),he _ (by simp)⟩,rfl⟩⟩,rfl⟩,(((HT.set 4 0 rfl 0 _).set 4 0 rfl 1 _).p [5,6,2,3,0,1]).sum⟩
end
section
variable {L:Lay} {x:Qi} {p:Qz} {e gK gF:List ak} {kb:Nat} {pv:Value} {k:Yv}
theorem q6f (hz:lL L kb pv e ⟨k,x,p⟩ gK gF) (hp:yg .bQ ⟨k,x,p⟩) (bk:Nat) (hb:cl bk 94 #[Qb kb]∈e):Qa prog 160 #[Qb bk] [gK,gF] (nG L kb pv e (Xu .bQ ⟨k,x,p⟩).1 (Xu .bQ ⟨k,x,p⟩).2):=by
 clear hp;unfold nG;dsimp only [Xu]
 obtain ⟨vl,al,gl,gC,gP,hl,hx,aW,rfl,rfl⟩:=hz;refine GO fun w HT=>?_
 have HT:=Vh (HT.out.m [Xp kb L.fb pv vl al k,gl,e,gC,gP]);have HX:=Vh hx;have HL:=Vh hl;have bD:=Vh aW;clear hx hl aW;have bI:=HT.bg 2 hb;simp only [] at bI;have b0:=HT.aj 2 hb 0;simp only [bR] at b0;have nk:=Vh (PL (p:=p) (kb:=kb) (pv:=pv) (vl:=vl) (al:=al) (k:=k) HX 0 (by decide));clear hb;go_enter func160,ntmps160
 go_wp2_with fail
 refine Qa.run nk (HT.a _ _) [0,3] ?_
 rintro e w1 gs ⟨g2,l2,⟨m2,d2,rfl,hs2⟩,rfl⟩ HT;simp only [PU] at HT;clear b0;obtain ⟨r0,r1⟩:=HT.c2 5 0 0 1;obtain ⟨df,dm⟩:=HT.f2 5 0 0 1;simp only [aT] at r0 r1;have hv2:=(Jg L kb pv l2).vals (hs2 l2 (fH.refl _));obtain ⟨st1,st2⟩:=aZ.aG (P:=prog) hv2.1 hv2.2 r0 df r1 dm;have HS:=Vh hs2;clear hv2 hs2;go_wp2
 exact WS (v:=.agg #[_,_]) (by simp [results,results160,go_sem,r0,r1]) rfl ⟨_,⟨e++l2,fH.app _ _,m2,d2,g2,_,_,rfl,HS _ (fun b hb=>WW _ hb),⟨vl,al,gl,gC,gP,HL,HX,bD,rfl,rfl⟩,rfl⟩,(((HT.set 5 0 rfl 0 _).set 5 0 rfl 1 _).p [0,6,1,2,7,3,4]).sum⟩
theorem q6g (i:Int) (hz:lL L kb pv e ⟨k,x,p⟩ gK gF) (hp:yg (.az i) ⟨k,x,p⟩) (bk bi:Nat) (hb:cl bk 94 #[Qb kb]∈e) (hbi:cl bi 3 #[WK WL i]∈e):Qa prog 201 #[Qb bk,Qb bi] [gK,gF] (nG L kb pv e (Xu (.az i) ⟨k,x,p⟩).1 (Xu (.az i) ⟨k,x,p⟩).2):=by
 obtain ⟨_,hi0,hi1⟩:=hp;unfold nG;dsimp only [Xu]
 obtain ⟨vl,al,gl,gC,gP,hl,hx,aW,rfl,rfl⟩:=hz;refine GO fun w HT=>?_
 have HT:=Vh (HT.out.m [Xp kb L.fb pv vl al k,gl,e,gC,gP]);have HX:=Vh hx;have HL:=Vh hl;have bD:=Vh aW;clear hx hl aW;have bI:=HT.bg 2 hb;have nV:=HT.bg 2 hbi;simp only [] at bI nV;have b0:=HT.aj 2 hb 0;have i0:=HT.aj 2 hbi 0;simp only [bR] at b0 i0;have nk:=Vh (PL (p:=p) (kb:=kb) (pv:=pv) (vl:=vl) (al:=al) (k:=k) HX (i+1) (by omega));clear hb hbi;go_enter func201,ntmps201
 go_wp2_with fail
 refine Qa.run nk (HT.a _ _) [0,3] ?_
 rintro e w1 gs ⟨g2,l2,⟨m2,d2,rfl,hs2⟩,rfl⟩ HT;simp only [PU] at HT;clear b0 i0;obtain ⟨r0,r1⟩:=HT.c2 5 0 0 1;obtain ⟨df,dm⟩:=HT.f2 5 0 0 1;simp only [aT] at r0 r1;have hv2:=(Jg L kb pv l2).vals (hs2 l2 (fH.refl _));obtain ⟨st1,st2⟩:=aZ.aG (P:=prog) hv2.1 hv2.2 r0 df r1 dm;have HS:=Vh hs2;clear hv2 hs2;go_wp2
 exact WS (v:=.agg #[_,_]) (by simp [results,results201,go_sem,r0,r1]) rfl ⟨_,⟨e++l2,fH.app _ _,m2,d2,g2,_,_,rfl,HS _ (fun b hb=>WW _ hb),⟨vl,al,gl,gC,gP,HL,HX,bD,rfl,rfl⟩,rfl⟩,(((HT.set 5 0 rfl 0 _).set 5 0 rfl 1 _).p [0,6,1,2,7,3,4]).sum⟩
theorem q9d (hz:lL L kb pv e ⟨k,x,p⟩ gK gF):Qa prog 199 #[Qb kb] [gK,gF] (nG L kb pv e (Xu .waits ⟨k,x,p⟩).1 (Xu .waits ⟨k,x,p⟩).2):=by
 unfold nG;dsimp only [Xu]
 obtain ⟨vl,al,gl,gC,gP,hl,hx,aW,rfl,rfl⟩:=hz;refine GO fun w HT=>?_
 have HT:=Vh (HT.out.m [Xp kb L.fb pv vl al k,gl,e,gC,gP]);have HX:=Vh hx;have HL:=Vh hl;have bD:=Vh aW;clear hx hl aW;go_enter func199,ntmps199
 go_wp2_with fail
 refine Qa.run (EL _ _ _ _ _ _) ((HT.a _ _).alloc (k:=w.heap.size+1) (by simp) _ _) [] ?_
 rintro e w1 gs ⟨rfl,rfl⟩ HT;simp only [PU] at HT;obtain ⟨r0,r1⟩:=HT.c2 6 0 0 1;obtain ⟨df,dm⟩:=HT.f2 6 0 0 1;simp only [aT] at r0 r1;go_wp2
 exact WS (v:=.agg #[_,_]) (by simp [results,results199,go_sem,r0,r1]) rfl ⟨_,⟨e++[cl w.heap.size 94 #[Qb kb]],fH.app _ _,_,_,[],_,_,rfl,⟨[],[],⟨rfl,w.heap.size,rfl,by simp⟩,⟨rfl,w.heap.size,rfl,by simp⟩,rfl⟩,⟨vl,al,gl,_,gP,HL,HX,bD,rfl,rfl⟩,rfl⟩,(((HT.set 6 0 rfl 0 _).set 6 0 rfl 1 _).p [0,1,2,5,3,4]).sum⟩
theorem q6i (hz:lL L kb pv e ⟨k,x,p⟩ gK gF) (hp:yg .cK ⟨k,x,p⟩) (bk:Nat) (hb:cl bk 94 #[Qb kb]∈e):Qa prog 240 #[Qb bk] [gK,gF] (nG L kb pv e (Xu .cK ⟨k,x,p⟩).1 (Xu .cK ⟨k,x,p⟩).2):=by
 have dR:=Vh hp.1.core.tr;simp only at dR;clear hp;unfold nG;dsimp only [Xu,ZS.note]
 obtain ⟨vl,al,gl,gC,gP,hl,hx,aW,rfl,rfl⟩:=hz;refine GO fun w HT=>?_
 have HT:=Vh (HT.out.m [Xp kb L.fb pv vl al k,gl,e,gC,gP]);have HX:=Vh hx;have HL:=Vh hl;have bD:=Vh aW;clear hx hl aW;have bI:=HT.bg 2 hb;simp only [] at bI;have b0:=HT.aj 2 hb 0;simp only [bR] at b0;have HB:=Vh hb;clear hb;obtain ⟨av,cap,hvl⟩:=Q1.val HL.1;subst hvl;go_enter func240,ntmps240
 go_wp2_with fail
 refine Qa.run (BF HX { bO with kind:=13 } dR) (HT.a _ _) [0,3] ?_
 rintro e w1 gs ⟨rfl,g3,hx3,rfl⟩ HT;simp only [PU] at HT;have HX:=Vh hx3;clear hx3 b0;have b0:=HT.aj 2 HB 0;simp only [bR] at b0;obtain ⟨k3,k4,k5,k6,k7,k9⟩:=HT.c6 0 0 3 4 5 6 7 9;obtain ⟨AO,Dh,Di,Dj,wI⟩:=HT.f5 0 0 3 4 5 6 7;simp only [Z9,aC] at k3 k4 k5 k6 k7 k9;go_wp2
 go_region
 go_wp2_with fail
 refine Qa.run (PG L kb pv) (((((((HT.set 0 0 rfl 3 (WK WL 0)).set 0 0 rfl 4 (.bool true)).set 0 0 rfl 5 (WK WN 0)).set 0 0 rfl 6 (WK WN 0)).set 0 0 rfl 7 (.slice av k.left.length cap)).eq (H':=[Xp kb L.fb pv (.slice av k.left.length cap) (.slice av k.left.length cap) { k with err:=0,ok:=true,fB:=true },gl,e,g3,gP,[cl w.heap.size 153 #[WM,WM]]]) rfl).drew) [] ?_
 rintro e w1 gs ⟨g2,l2,⟨m2,d2,rfl,hs2⟩,rfl⟩ HT;simp only [PU] at HT;clear b0 k3 AO k4 Dh k5 Di k6 Dj k7 wI k9;obtain ⟨r0,r1⟩:=HT.c2 5 0 0 1;obtain ⟨df,dm⟩:=HT.f2 5 0 0 1;simp only [aT] at r0 r1;have hv2:=(Jg L kb pv l2).vals (hs2 l2 (fH.refl _));obtain ⟨st1,st2⟩:=aZ.aG (P:=prog) hv2.1 hv2.2 r0 df r1 dm;have HS:=Vh hs2;clear hv2 hs2;go_wp2
 exact WS (v:=.agg #[_,_]) (by simp [results,results240,go_sem,r0,r1]) rfl ⟨_,⟨e++l2,fH.app _ _,m2,d2,g2,_,_,rfl,HS _ (fun b hb=>WW _ hb),⟨.slice av k.left.length cap,.slice av k.left.length cap,gl,g3,gP,⟨HL.1,rfl⟩,HX,bD,rfl,rfl⟩,rfl⟩,(((HT.set 5 0 rfl 0 _).set 5 0 rfl 1 _).p [6,0,1,2,7,3,4]).sum⟩
end
theorem Tryz.oG:(prog.info? 36).map (fun i=>(i.zero,i.size,i.bytes))=some (some (WK WN 0),1,8):=by kernel_rfl
section
variable {L:Lay} {x:Qi} {p:Qz} {e gl gC gK gF:List ak} {kb:Nat} {pv vl al:Value} {k:Yv}
theorem q6d (ix:Int) (hz:lL L kb pv e ⟨k,x,p⟩ gK gF) (hp:yg (.bJ ix) ⟨k,x,p⟩) (bk bi:Nat) (hb:cl bk 94 #[Qb kb]∈e) (hbi:cl bi 3 #[WK WL ix]∈e):Qa prog 241 #[Qb bk,Qb bi] [gK,gF] (nG L kb pv e (Xu (.bJ ix) ⟨k,x,p⟩).1 (Xu (.bJ ix) ⟨k,x,p⟩).2):=by
 have hok:=hp.1.core;simp only at hok;have jo:=Vh (Y3 hok.aa ix);have lU:=Vh (show ∀ g',Qf L x g'->_ from fun g' hx'=>zY (g:=g') hx' hok.aa.n1 ix);unfold nG;dsimp only [Xu,Yb]
 obtain ⟨wd,hwd⟩:∃ wd,wd=x.aa.word ix:=⟨_,rfl⟩;rw [<- hwd] at jo lU |-;clear hok hp hwd;obtain ⟨st,hst⟩:∃ st,st=bA wd:=⟨_,rfl⟩;have HST:=Vh hst;rw [<- hst];clear hst
 have hc:st=2\/st=3\/((st == 2)=false/\(st == 3)=false/\¬ (st=2\/st=3)):=by
  simp only [beq_eq_false_iff_ne];omega
 rcases hc with rfl | rfl | ⟨hb2,hb3,h23⟩
 all_goals
  first | rw [if_pos (by decide)] | rw [if_neg h23]
  dsimp only
  try clear h23
  obtain ⟨vl,al,gl,gC,gP,hl,hx,aW,rfl,rfl⟩:=hz;refine GO fun w HT=>?_
  have HT:=Vh (HT.out.m [Xp kb L.fb pv vl al k,gl,e,gC,gP]);have HX:=Vh hx;have HL:=Vh hl;have bD:=Vh aW;clear hx hl aW;have HB:=Vh hb;have lN:=Vh hbi;clear hb hbi;have b0:=HT.aj 2 HB 0;have i0:=HT.aj 2 lN 0;simp only [bR] at b0 i0;have k0:=HT.c 0 0 0;simp only [Z9,aC] at k0;go_enter func241,ntmps241
  go_wp2_with fail
  have HT:=Vh (HT.out.a 153 #[WM,WM]);clear k0 b0 i0;generalize w.alloc _=w1 at HT |-;have b0:=HT.aj 2 HB 0;have i0:=HT.aj 2 lN 0;simp only [bR] at b0 i0;have k0:=HT.c 0 0 0;simp only [Z9,aC] at k0;clear b0 i0 k0;obtain ⟨ι,W,hW0,hend,hin⟩:∃ (ι:Type) (W:ι->World),(∃ i,XB w1=W i)/\(∀ i,∃ gx,Qf L x gx/\TG [Xp kb L.fb pv vl al k++(gl++e),gC++gP] w [Xp kb L.fb pv vl al k,gl,e,gx,gP,[cl w.heap.size 153 #[WM,WM]]] (W i))/\(∀ w',(∃ gx,Qf L x gx/\TG [Xp kb L.fb pv vl al k++(gl++e),gC++gP] w [Xp kb L.fb pv vl al k,gl,e,gx,gP,[cl w.heap.size 153 #[WM,WM]]] w')->∃ i,w'=W i):=⟨{w' // ∃ gx,Qf L x gx/\TG [Xp kb L.fb pv vl al k++(gl++e),gC++gP] w [Xp kb L.fb pv vl al k,gl,e,gx,gP,[cl w.heap.size 153 #[WM,WM]]] w'},XG,⟨⟨_,gC,HX,HT.drew⟩,rfl⟩,fun i=>i.2,fun w' h=>⟨⟨w',h⟩,rfl⟩⟩;have hne:Nonempty ι:=hW0.elim fun i _=>⟨i⟩
  have k0:∀ i,(W i).cell? ⟨kb,0,none⟩=some (Qb L.fb):=fun i=>by obtain ⟨_,_,T⟩:=hend i;exact T.c 0 0 0
  have b0:∀ i,(W i).cell? ⟨bk,0,none⟩=some (Qb kb):=fun i=>by obtain ⟨_,_,T⟩:=hend i;exact T.aj 2 HB 0
  have i0:∀ i,(W i).cell? ⟨bi,0,none⟩=some (WK WL ix):=fun i=>by obtain ⟨_,_,T⟩:=hend i;exact T.aj 2 lN 0
  have m1:∀ i,Calls prog 19 #[Qb L.fb] (W i) fun e w2=>e=WO (Qb L.p.sb)/\∃ j,w2=W j:=fun i=>by
   obtain ⟨_,hg,T⟩:=hend i;refine (Qa.use ((Qq hg).does) T [3] rfl rfl).mono ?_
   rintro e w2 ⟨gs,⟨rfl,rfl⟩,T2⟩;exact ⟨rfl,hin _ ⟨_,hg,T2⟩⟩
  have m2:∀ i,Calls prog 38 #[Qb L.p.sb,WK WL ix] (W i) fun e w2=>e=WO (WV #[WK WN wd,WK WL (x.aa.kD ix)])/\∃ j,w2=W j:=fun i=>by
   obtain ⟨_,hg,T⟩:=hend i;refine (Qa.use (lU _ hg) T [3] rfl rfl).mono ?_
   rintro e w2 ⟨gs,⟨rfl,g3,hg3,rfl⟩,T2⟩;exact ⟨rfl,hin _ ⟨g3,hg3,T2⟩⟩
  refine Yu (fun w'=>∃ i,w'=W i) 13 (by kernel_rfl) (by kernel_rfl) hW0 ?_
  simp only [dx]
  repeat (go_big_quiet_step ((first | (go_at_call 19;with_reducible exact m1 _) | (go_at_call 38;with_reducible exact m2 _))))
  refine WU ?_
  intro _ hw';obtain ⟨iq,hw''⟩:=hw';subst hw'';obtain ⟨g1,hx1,T⟩:=hend iq;have HT:=Vh T;generalize W iq=w1 at HT |-;clear T hend hin hW0 hne;have jZ:=Vh hx1;clear hx1 k0 b0 i0 m1 m2;have k10:=HT.c 0 0 10;have nJ:=HT.f 0 0 10;simp only [Z9,aC] at k10;go_wp2_with fail
  refine ⟨rfl,?_⟩
  have HT:=Vh ((HT.set 0 0 rfl 10 (WK WN wd)).eq (H':=[Xp kb L.fb pv vl al { k with aA:=wd },gl,e,g1,gP,[cl w.heap.size 153 #[WM,WM]]]) rfl);clear k10 nJ;generalize XH _ _ _=w5 at HT |-;have b0:=HT.aj 2 HB 0;have i0:=HT.aj 2 lN 0;simp only [bR] at b0 i0;have k10:=HT.c 0 0 10;simp only [Z9,aC] at k10;obtain ⟨r0,r1⟩:=HT.c2 5 0 0 1;obtain ⟨df,dm⟩:=HT.f2 5 0 0 1;simp only [aT] at r0 r1;go_wp2_with (go_at_call 39;refine (Ld _ _ jo.1 jo.2.1).mono ?_;rw [<- HST.out];rintro en w' ⟨rfl,rfl⟩)
  first
  | exact WS (v:=.agg #[WM,WQ (WR 242) #[] #[Qb bk,Qb bi]]) (by simp [results,results241,go_sem,r0,r1]) rfl ⟨_,⟨e,fH.refl _,_,_,[],_,_,rfl,⟨rfl,rfl,bk,bi,rfl,HB,lN⟩,⟨vl,al,gl,g1,gP,HL,jZ,bD,rfl,rfl⟩,rfl⟩,(((HT.set 5 0 rfl 0 _).set 5 0 rfl 1 _).p [0,1,2,3,4]).sum⟩
  | exact WS (v:=.agg #[WM,WM]) (by simp [results,results241,go_sem,r0,r1]) rfl ⟨_,⟨e,fH.refl _,_,_,[],_,_,rfl,⟨rfl,rfl,rfl⟩,⟨vl,al,gl,g1,gP,HL,jZ,bD,rfl,rfl⟩,rfl⟩,(((HT.set 5 0 rfl 0 _).set 5 0 rfl 1 _).p [0,1,2,3,4]).sum⟩
end
section
variable {L:Lay} {x:Qi} {p:Qz} {e gK gF:List ak} {kb:Nat} {pv:Value} {k:Yv}
theorem q8l (hz:lL L kb pv e ⟨k,x,p⟩ gK gF) (hp:Cf .aR ⟨k,x,p⟩) (bk:Nat) (hb:cl bk 94 #[Qb kb]∈e):Qa prog 194 #[Qb bk] [gK,gF] (xE L kb pv e (Ya .aR ⟨k,x,p⟩)):=by
 have dR:=Vh hp.core.tr;simp only at dR;clear hp;unfold xE;dsimp only [Ya,ZS.note]
 obtain ⟨vl,al,gl,gC,gP,hl,hx,aW,rfl,rfl⟩:=hz;refine GO fun w HT=>?_
 have HT:=Vh (HT.out.m [Xp kb L.fb pv vl al k,gl,e,gC,gP]);have HX:=Vh hx;have HL:=Vh hl;have bD:=Vh aW;clear hx hl aW;have b0:=HT.aj 2 hb 0;simp only [bR] at b0;have HB:=Vh hb;clear hb;have k3:=HT.c 0 0 3;simp only [Z9,aC] at k3;go_enter func194,ntmps194
 go_wp2_with fail
 refine Mx 7 ?_
 simp only [dx]
 repeat (go_big_quiet_step ((fail)))
 refine WU (QT HT fun nq HT=>?_)
 go_wp2_with fail
 refine Qa.run (BF HX { bO with kind:=2,err:=k.err } dR) (HT) [0,3] ?_
 rintro e w1 gs ⟨rfl,g2,hx2,rfl⟩ HT;simp only [PU] at HT;have HX:=Vh hx2;clear hx2 k3 b0;go_wp2_with fail
 refine ⟨rfl,?_⟩
 go_wp2
 exact WY (WZ rfl _ _ _) rfl ⟨_,⟨e,fH.refl _,_,_,rfl,⟨vl,al,gl,g2,gP,HL,HX,bD,rfl,rfl⟩,rfl⟩,(HT.p [0,1,2,3,4]).sum⟩
theorem q8m (hz:lL L kb pv e ⟨k,x,p⟩ gK gF) (hp:Cf .dE ⟨k,x,p⟩) (bk:Nat) (hb:cl bk 94 #[Qb kb]∈e):Qa prog 197 #[Qb bk] [gK,gF] (xE L kb pv e (Ya .dE ⟨k,x,p⟩)):=by
 clear hp;unfold xE;dsimp only [Ya]
 obtain ⟨vl,al,gl,gC,gP,hl,hx,aW,rfl,rfl⟩:=hz;refine GO fun w HT=>?_
 have HT:=Vh (HT.out.m [Xp kb L.fb pv vl al k,gl,e,gC,gP]);have HX:=Vh hx;have HL:=Vh hl;have bD:=Vh aW;clear hx hl aW;have b0:=HT.aj 2 hb 0;simp only [bR] at b0;have HB:=Vh hb;clear hb;have k0:=HT.c 0 0 0;simp only [Z9,aC] at k0;go_enter func197,ntmps197
 go_wp2_with fail
 refine Qe.run (Ye HX) HT [3] ?_
 rintro e wq rfl HT;go_wp2_with fail
 refine Qa.run (qug bD) (HT) [4] ?_
 rintro e w1 gs ⟨rfl,g2,hp2,rfl⟩ HT;simp only [PU] at HT;have bD:=Vh hp2;clear hp2 k0 b0;go_wp2
 exact WY (WZ rfl _ _ _) rfl ⟨_,⟨e,fH.refl _,_,_,rfl,⟨vl,al,gl,gC,g2,HL,HX,bD,rfl,rfl⟩,rfl⟩,(HT.p [0,1,2,3,4]).sum⟩
theorem q8j (hz:lL L kb pv e ⟨k,x,p⟩ gK gF) (hp:Cf .drop ⟨k,x,p⟩) (bk:Nat) (hb:cl bk 94 #[Qb kb]∈e):Qa prog 268 #[Qb bk] [gK,gF] (xE L kb pv e (Ya .drop ⟨k,x,p⟩)):=by
 have HC:=Vh (And.intro hp.core.aa.c0 (show x.aa.count<=64 by have:=hp.core.aa.c1;have:=hp.core.aa.n1;simp only at *;omega));simp only at HC;clear hp;unfold xE;dsimp only [Ya]
 obtain ⟨vl,al,gl,gC,gP,hl,hx,aW,rfl,rfl⟩:=hz;refine GO fun w HT=>?_
 have HT:=Vh (HT.out.m [Xp kb L.fb pv vl al k,gl,e,gC,gP]);have HX:=Vh hx;have HL:=Vh hl;have bD:=Vh aW;clear hx hl aW;have b0:=HT.aj 2 hb 0;simp only [bR] at b0;have HB:=Vh hb;clear hb;have k0:=HT.c 0 0 0;simp only [Z9,aC] at k0;go_enter func268,ntmps268
 go_wp2_with fail
 refine Qe.run (Qq HX) HT [3] ?_
 rintro e wq rfl HT;go_wp2_with fail
 refine Qa.run (Mt HX HC.1 HC.2) (HT) [3] ?_
 rintro e w1 gs ⟨rfl,g2,hx2,rfl⟩ HT;simp only [PU] at HT;have HX:=Vh hx2;clear hx2 k0 b0;go_wp2
 exact WY (WZ rfl _ _ _) rfl ⟨_,⟨e,fH.refl _,_,_,rfl,⟨vl,al,gl,g2,gP,HL,HX,bD,rfl,rfl⟩,rfl⟩,(HT.p [0,1,2,3,4]).sum⟩
theorem qv1 (i:Int) (hz:lL L kb pv e ⟨k,x,p⟩ gK gF) (hp:Cf (.release i) ⟨k,x,p⟩) (bk bi:Nat) (hb:cl bk 94 #[Qb kb]∈e) (hbi:cl bi 3 #[WK WL i]∈e):Qa prog 267 #[Qb bk,Qb bi] [gK,gF] (xE L kb pv e (Ya (.release i) ⟨k,x,p⟩)):=by
 have hok:=hp.core;simp only at hok;obtain ⟨w0,w1,w2⟩:=Y3 hok.aa i;unfold xE;dsimp only [Ya]
 have HY:=Vh (show ∀ g',Qf L x g'->_ from fun g' hx'=>BL (g:=g') hx' hok.aa.n1 i (x.aa.word i) 10 w0 w1);have lU:=Vh (show ∀ g',Qf L x g'->_ from fun g' hx'=>zY (g:=g') hx' hok.aa.n1 i);clear w0 w1 w2 hok hp;obtain ⟨vl,al,gl,gC,gP,hl,hx,aW,rfl,rfl⟩:=hz;refine GO fun w HT=>?_
 have HT:=Vh (HT.out.m [Xp kb L.fb pv vl al k,gl,e,gC,gP]);have HX:=Vh hx;have HL:=Vh hl;have bD:=Vh aW;clear hx hl aW;have b0:=HT.aj 2 hb 0;simp only [bR] at b0;have HB:=Vh hb;clear hb;have i0:=HT.aj 2 hbi 0;simp only [bR] at i0;have lN:=Vh hbi;clear hbi;have k0:=HT.c 0 0 0;simp only [Z9,aC] at k0;go_enter func267,ntmps267
 go_wp2_with fail
 refine Mx 6 ?_
 simp only [dx]
 repeat (go_big_quiet_step ((first | (go_at_call 19;with_reducible exact Qe.quiet (Qq HX.out) HT.out _ [3] rfl rfl))))
 refine WU (QT HT fun nq HT=>?_)
 go_wp2_with fail
 refine Qa.run (lU _ HX) (HT) [3] ?_
 rintro e w1 gs ⟨rfl,g1,hx1,rfl⟩ HT;simp only [PU] at HT;have HX:=Vh hx1;clear hx1 k0 b0 i0;go_wp2_with fail
 refine ⟨rfl,?_⟩
 have hb:=HB.out;have hbi:=lN.out;have b0:=HT.aj 2 hb 0;simp only [bR] at b0;have HB:=Vh hb;clear hb;have i0:=HT.aj 2 hbi 0;simp only [bR] at i0;have lN:=Vh hbi;clear hbi;have k0:=HT.c 0 0 0;simp only [Z9,aC] at k0;go_wp2_with fail
 refine Mx 7 ?_
 simp only [dx]
 repeat (go_big_quiet_step ((first | (go_at_call 19;with_reducible exact Qe.quiet (Qq HX.out) HT.out _ [3] rfl rfl))))
 refine WU (QT HT fun nq HT=>?_)
 go_wp2_with fail
 refine Qa.run (HY _ HX) (HT) [3] ?_
 rintro e w1 gs ⟨rfl,g2,hx2,rfl⟩ HT;simp only [PU] at HT;have kH:=Vh hx2;clear hx2 k0 b0 i0;go_wp2_with fail
 refine ⟨rfl,?_⟩
 go_wp2
 exact WY (WZ rfl _ _ _) rfl ⟨_,⟨e,fH.refl _,_,_,rfl,⟨vl,al,gl,g2,gP,HL,kH,bD,rfl,rfl⟩,rfl⟩,(HT.p [0,1,2,3,4]).sum⟩
def FL (L:Lay) (kb:Nat) (pv:Value) (e:List ak) (v:Bool) (z:ZS) (en:Ending) (gs:GH):Prop:=∃ aY aI,en=WO (.bool v)/\lL L kb pv e z aY aI/\gs=[aY,aI]
theorem q7x (hz:lL L kb pv e ⟨k,x,p⟩ gK gF) (bk:Nat) (hb:cl bk 94 #[Qb kb]∈e):Qa prog 159 #[Qb bk] [gK,gF] (FL L kb pv e (Bf .inside ⟨k,x,p⟩) ⟨k,x,p⟩):=by
 unfold FL;dsimp only [Bf]
 obtain ⟨vl,al,gl,gC,gP,hl,hx,aW,rfl,rfl⟩:=hz;refine GO fun w HT=>?_
 have HT:=Vh (HT.out.m [Xp kb L.fb pv vl al k,gl,e,gC,gP]);have HX:=Vh hx;have HL:=Vh hl;have bD:=Vh aW;clear hx hl aW;have b0:=HT.aj 2 hb 0;simp only [bR] at b0;have HB:=Vh hb;clear hb;have k0:=HT.c 0 0 0;simp only [Z9,aC] at k0;go_enter func159,ntmps159
 go_wp2_with fail
 refine Qa.run (qta HX) (HT) [3] ?_
 rintro e w1 gs ⟨rfl,g2,hx2,rfl⟩ HT;simp only [PU] at HT;have HX:=Vh hx2;clear hx2 k0 b0;go_wp2
 go_ret
 exact ⟨_,⟨_,_,rfl,⟨vl,al,gl,g2,gP,HL,HX,bD,rfl,rfl⟩,rfl⟩,(HT.p [0,1,2,3,4]).sum⟩
theorem zcc (hz:lL L kb pv e ⟨k,x,p⟩ gK gF) (bk:Nat) (hb:cl bk 94 #[Qb kb]∈e):Qa prog 238 #[Qb bk] [gK,gF] (FL L kb pv e (Bf .idle ⟨k,x,p⟩) ⟨k,x,p⟩):=by
 unfold FL;dsimp only [Bf]
 obtain ⟨vl,al,gl,gC,gP,hl,hx,aW,rfl,rfl⟩:=hz;refine GO fun w HT=>?_
 have HT:=Vh (HT.out.m [Xp kb L.fb pv vl al k,gl,e,gC,gP]);have HX:=Vh hx;have HL:=Vh hl;have bD:=Vh aW;clear hx hl aW;have b0:=HT.aj 2 hb 0;simp only [bR] at b0;have HB:=Vh hb;clear hb;have k0:=HT.c 0 0 0;simp only [Z9,aC] at k0;have hcl:=qnk bD;cases hq:(p.shut && decide (p.ch=[])) with
 | false =>
   rw [hq] at hcl;have jU:=Vh hcl;clear hcl hq;go_enter func238,ntmps238
   go_wp2_with fail
   refine Qe.run (Ye HX) HT [3] ?_
   rintro e wq rfl HT;go_wp2_with fail
   refine Qe.run jU HT [4] ?_
   rintro e wq rfl HT;go_wp2
   go_ret
   exact ⟨_,⟨_,_,rfl,⟨vl,al,gl,gC,gP,HL,HX,bD,rfl,rfl⟩,rfl⟩,(HT.p [0,1,2,3,4]).sum⟩
 | true =>
   rw [hq] at hcl;have jU:=Vh hcl;clear hcl hq;go_enter func238,ntmps238
   go_wp2_with fail
   refine Qe.run (Ye HX) HT [3] ?_
   rintro e wq rfl HT;go_wp2_with fail
   refine Qe.run jU HT [4] ?_
   rintro e wq rfl HT;clear k0 b0;have hb:=HB.out;have b0:=HT.aj 2 hb 0;simp only [bR] at b0;have HB:=Vh hb;clear hb;have k0:=HT.c 0 0 0;simp only [Z9,aC] at k0;go_wp2_with fail
   refine Qa.run (q1d HX) (HT) [3] ?_
   rintro e w1 gs ⟨rfl,g2,hx2,rfl⟩ HT;simp only [PU] at HT;have HX:=Vh hx2;clear hx2 k0 b0;go_wp2
   go_ret
   exact ⟨_,⟨_,_,rfl,⟨vl,al,gl,g2,gP,HL,HX,bD,rfl,rfl⟩,rfl⟩,(HT.p [0,1,2,3,4]).sum⟩
end
theorem Oe (n:Int) (h0:0<=n) (h1:n<18446744073709551616):Qe prog 229 #[WK WN n] [] (WK WN (X7 n)):=fun w hw=>(Gx n w h0 h1).mono (by rintro e w' ⟨rfl,rfl⟩;exact ⟨rfl,0,rfl⟩)
theorem U8 {G:Prop} {α β:Type} {P A:α->β->World->Prop} (main:(∀ a b w2,A a b w2->P a b w2)->G) (key:∀ a b w2,A a b w2->P a b w2):G:=main key
section
variable {L:Lay} {x:Qi} {p:Qz} {e gl gC gK gF:List ak} {kb:Nat} {pv vl al:Value} {k:Yv}
def IV (L:Lay) (kb:Nat) (pv al:Value) (s:SS) (k:Yv) (x:Qi) (en:Ending) (gs:GH):Prop :=
 ∃ g' l WI OE iZ,FK L kb pv s en g' l/\Q1 36 1 WI k.left.length (kv k.left) OE/\Qf L x iZ/\gs=[g',l,Xp kb L.fb pv WI al k,OE,iZ]
theorem q20 (hr:Q1 36 1 vl k.left.length (kv k.left) gl) (hx:Qf L x gC) (hp:qc6 ⟨k,x,p⟩) (ix:Int) (h0:0<=ix/\ix<=64) :
 Qa prog 243 #[Qb kb,WK WL ix] [Xp kb L.fb pv vl al k,gl,gC] (IV L kb pv al (Xu (.aB ix) ⟨k,x,p⟩).1 (Xu (.aB ix) ⟨k,x,p⟩).2.k (Xu (.aB ix) ⟨k,x,p⟩).2.x):=by
 obtain ⟨s0,s1,s2⟩:=hp.aA;simp only at s0 s1 s2;have hok:=hp.core;simp only at hok;have hty:=BL hx hok.aa.n1 ix k.aA 6 s0 s1;obtain ⟨NJ,NL⟩:=ui hok.aa ix k.aA 6;obtain ⟨NM,NN⟩:=My hok.aa ix k.aA 6 s0 s1 s2;dsimp only [Xu,ZS.note]
 have hcap:=hp.cap;simp only at hcap;have HN:=Vh (show ∀ g',Qf L { x with aa:=(x.aa.try ix k.aA 6).1 } g'->_ from fun g' hx'=>qtb (g:=g') hx' (by simp only;rw [NL];exact hcap) NJ ix);have pI:=Vh (show x.tr.length<=1000000 from hok.tr);have ni:=Vh (show k.left.length<=1000000 from hp.left);generalize x.aa.try ix k.aA 6=r at *;obtain ⟨rs,Vw,re⟩:=r;simp only at hty NJ NL NM NN HN |-;have FJ:=Vh hty;have O3:=Vh (And.intro NM NN);clear hty hok hp s0 s1 s2 NJ NL NM NN hcap;obtain ⟨av,cap,rfl⟩:=hr.val;by_cases he:re=0
 ·subst he
  rw [if_neg (by simp)];unfold IV;dsimp only
  obtain ⟨nu,hnu⟩:∃ nu,nu=qR rs ix:=⟨_,rfl⟩;rw [<- hnu] at HN |-;obtain ⟨nv,ne⟩:=nu;dsimp only at HN |-
  clear hnu;refine GO fun w HT=>?_
  have HX:=Vh hx;have HR:=Vh hr;clear hx hr;go_enter func243,ntmps243
  go_wp2_with fail
  have HT:=Vh (((HT.a 94 #[Qb kb]).alloc (k:=w.heap.size+1) (by simp) 3 #[WK WL ix]).alloc (k:=w.heap.size+1+1) (by simp) 153 #[WM,WM]);generalize WT (WT (WT w _) _) _=w1 at HT |-;obtain ⟨k0,k10⟩:=HT.c2 0 0 0 10;simp only [Z9,aC] at k0 k10;have a0:=HT.c 3 0 0;simp only [aT] at a0;have b0:=HT.c 4 0 0;simp only [aT] at b0;refine Mx 10 ?_
  simp only [dx]
  repeat (go_big_quiet_step ((first | (go_at_call 19;with_reducible exact Qe.quiet (Qq HX.out) HT.out _ [2] rfl rfl))))
  refine WU (QT HT fun nq HT=>?_)
  go_wp2_with fail
  refine Qa.run FJ HT [2] ?_
  rintro e w1 gs ⟨rfl,g1,hx1,rfl⟩ HT;simp only [PU] at HT;have HX:=Vh hx1;clear hx1 k0 k10 a0 b0;go_wp2_with fail
  refine ⟨rfl,?_⟩
  have k0:=HT.c 0 0 0;simp only [Z9,aC] at k0;have a0:=HT.c 3 0 0;simp only [aT] at a0;have b0:=HT.c 4 0 0;simp only [aT] at b0;go_wp2_with fail
  refine Mx 5 ?_
  simp only [dx]
  repeat (go_big_quiet_step ((fail)))
  refine WU (QT HT fun nq HT=>?_)
  go_wp2_with fail
  refine Qa.run (HN _ HX) (HT) [2] ?_
  rintro e w1 gs ⟨rfl,g2,hx2,rfl⟩ HT;simp only [PU] at HT;have HX:=Vh hx2;clear hx2 k0 a0 b0;go_wp2_with fail
  refine ⟨rfl,?_⟩
  go_wp2_with fail
  have k9:=HT.c 0 0 9;have yQ:=HT.f 0 0 9;simp only [Z9,aC] at k9;have a0:=HT.c 3 0 0;simp only [aT] at a0;have HT:=Vh HT.out.drew;have hl0:=HT.l 0 0;have hl3:=HT.l 3 0;simp only [XB] at hl0 hl3;have hll:=ni.out;apply U8 (α:=Option Addr) (β:=Nat) (A:=fun a1 di w5=>∃ l7,Q1 36 1 (.slice a1 (k.left.length+1) di) (k.left.length+1) (kv k.left++[WK WN nv]) l7/\TG [Xp kb L.fb pv (.slice av k.left.length cap) al k,gl,gC] w [Xp kb L.fb pv (.slice a1 (k.left.length+1) di) al { k with left:=k.left++[nv] },l7,g2,[cl w.heap.size 94 #[Qb kb]],[cl (w.heap.size+1) 3 #[WK WL ix]],[cl (w.heap.size+1+1) 153 #[WM,WM]]] w5)
  case main =>
   intro key
   go_region_law (
    refine KV rfl (.tmp 41) (.tmp 43) 49 rfl 1 8 _ underlying49 Tryz.oG rfl (by decide) (HT.aN _) 1 rfl rfl HR rfl ⟨w1.heap.size,0,none⟩ 1 1 [WK WN nv] rfl rfl (Za _ _ _) (by simp [Value.oneCell']) (by unfold maxLen;omega) (by omega) ?_
    intro v w3 l7 r T;simp only [XD,XE] at T;obtain ⟨a1,di,rfl⟩:=r.val;have c9:=T.c 0 0 9;have f9:=T.f 0 0 9;have a1':=T.c 3 0 0;simp only [Z9,aC] at c9 a1';have T:=Vh T
    have r:=Vh r)
   all_goals
    have T5:=(T.set 0 0 rfl 9 (.slice a1 (k.left.length+1) di)).eq (H':=[Xp kb L.fb pv (.slice a1 (k.left.length+1) di) al { k with left:=k.left++[nv] },l7,g2,[cl w.heap.size 94 #[Qb kb]],[cl (w.heap.size+1) 3 #[WK WL ix]],[cl (w.heap.size+1+1) 153 #[WM,WM]]]) rfl;generalize XH _ _ _=w5 at T5 |-;exact key a1 di w5 ⟨l7,r.out,T5⟩
  case key =>
   rintro a1 di w5 ⟨l7,r,T⟩;have HT:=Vh T;have RR:=Vh (show Q1 36 1 (.slice a1 (k.left.length+1) di) (k.left++[nv]).length (kv (k.left++[nv])) l7 from by simpa [kv] using r);clear r T k9 yQ a0 hl0 hl3 hll;have a0:=HT.c 3 0 0;simp only [aT] at a0;go_wp2_with fail
   refine Mx 5 ?_
   simp only [dx]
   repeat (go_big_quiet_step ((first | (go_at_call 229;with_reducible exact Qe.quiet (Oe Vw O3.out.1 O3.out.2) HT.out _ [] rfl rfl))))
   refine WU (QT HT fun nq HT=>?_)
   go_wp2_with fail
   refine Qa.run (BF HX { bO with kind:=12,id:=nv,gen:=X7 Vw } pI) (HT) [0,2] ?_
   rintro e w1 gs ⟨rfl,g3,hx3,rfl⟩ HT;simp only [PU] at HT;have HX:=Vh hx3;clear hx3 a0;go_wp2_with fail
   refine ⟨rfl,?_⟩
   generalize w1=wq at HT |-;go_wp2_with fail
   refine Qa.run (aZ.eO (b:=wq.heap.size) (o:=0) (D:=#[WQ (WR 267) #[] #[Qb w.heap.size,Qb (w.heap.size+1)],WQ (WR 268) #[] #[Qb w.heap.size]]) rfl 2 (.inr rfl)) (HT.a _ _) [6] ?_
   rintro e w1 gs ⟨bf,bl,bi,rfl,rfl⟩ HT;simp only [PU] at HT;obtain ⟨e0,e1⟩:=HT.c2 5 0 0 1;obtain ⟨eX,eD⟩:=HT.f2 5 0 0 1;simp only [aT] at e0 e1;go_wp2
   exact WS (v:=.agg #[WM,_]) (by simp [results,results243,go_sem,e0,e1]) rfl ⟨_,⟨_,[cl w.heap.size 94 #[Qb kb],cl (w.heap.size+1) 3 #[WK WL ix]],_,l7,g3,⟨_,_,rfl,fun e he=>⟨rfl,bf,bl,bi,wq.heap.size,WQ (WR 267) #[] #[Qb w.heap.size,Qb (w.heap.size+1)],WQ (WR 268) #[] #[Qb w.heap.size],[],[],rfl,⟨rfl,w.heap.size,w.heap.size+1,rfl,he _ (by simp),he _ (by simp)⟩,⟨rfl,w.heap.size,rfl,he _ (by simp)⟩,rfl⟩⟩,RR,HX,rfl⟩,(((HT.set 5 0 rfl 0 _).set 5 0 rfl 1 _).p [7,8,9,6,3,4,0,1,2]).sum⟩
 ·rw [if_pos he]
  have hb:(re != 0)=true:=bne_iff_ne.2 he;unfold IV;dsimp only
  refine GO fun w HT=>?_
  have HX:=Vh hx;have HR:=Vh hr;clear hx hr;go_enter func243,ntmps243
  go_wp2_with fail
  have HT:=Vh (((HT.a 94 #[Qb kb]).alloc (k:=w.heap.size+1) (by simp) 3 #[WK WL ix]).alloc (k:=w.heap.size+1+1) (by simp) 153 #[WM,WM]);generalize WT (WT (WT w _) _) _=w1 at HT |-;obtain ⟨k0,k10⟩:=HT.c2 0 0 0 10;simp only [Z9,aC] at k0 k10;have a0:=HT.c 3 0 0;simp only [aT] at a0;have b0:=HT.c 4 0 0;simp only [aT] at b0;refine Mx 10 ?_
  simp only [dx]
  repeat (go_big_quiet_step ((first | (go_at_call 19;with_reducible exact Qe.quiet (Qq HX.out) HT.out _ [2] rfl rfl))))
  refine WU (QT HT fun nq HT=>?_)
  go_wp2_with fail
  refine Qa.run FJ HT [2] ?_
  rintro e w1 gs ⟨rfl,g1,hx1,rfl⟩ HT;simp only [PU] at HT;have HX:=Vh hx1;clear hx1 k0 k10 a0 b0;go_wp2_with fail
  refine ⟨rfl,?_⟩
  have a0:=HT.c 3 0 0;simp only [aT] at a0;have b0:=HT.c 4 0 0;simp only [aT] at b0;go_wp2_with fail
  refine Qa.run (Vg L kb pv ix) (HT) [] ?_
  rintro e w1 gs ⟨g2,l2,⟨m2,d2,rfl,hs2⟩,rfl⟩ HT;simp only [PU] at HT;clear a0 b0;obtain ⟨r0,r1⟩:=HT.c2 5 0 0 1;obtain ⟨df,dm⟩:=HT.f2 5 0 0 1;simp only [aT] at r0 r1;have hv2:=(Jg L kb pv l2).vals (hs2 l2 (fH.refl _));obtain ⟨st1,st2⟩:=aZ.aG (P:=prog) hv2.1 hv2.2 r0 df r1 dm;have HS:=Vh hs2;clear hv2 hs2;go_wp2
  exact WS (v:=.agg #[_,_]) (by simp [results,results243,go_sem,r0,r1]) rfl ⟨_,⟨g2,l2,_,gl,g1,⟨m2,d2,rfl,HS⟩,HR,HX,rfl⟩,((HT.set 5 0 rfl 0 _).set 5 0 rfl 1 _).p [6,7,0,1,2]⟩
end
section
variable {L:Lay} {x:Qi} {p:Qz} {e gl gC gK gF:List ak} {kb:Nat} {pv vl al:Value} {k:Yv}
theorem q2i (ix:Int) (hz:lL L kb pv e ⟨k,x,p⟩ gK gF) (hp:yg (.aB ix) ⟨k,x,p⟩) (bk bi:Nat) (hb:cl bk 94 #[Qb kb]∈e) (hbi:cl bi 3 #[WK WL ix]∈e):Qa prog 242 #[Qb bk,Qb bi] [gK,gF] (nG L kb pv e (Xu (.aB ix) ⟨k,x,p⟩).1 (Xu (.aB ix) ⟨k,x,p⟩).2):=by
 obtain ⟨hok,⟨hi0,hi1⟩,hset⟩:=hp;simp only at hset;unfold nG;obtain ⟨vl,al,gl,gC,gP,hl,hx,aW,rfl,rfl⟩:=hz
 have tC:(Xu (.aB ix) ⟨k,x,p⟩).2.k.fB=false:=by
  dsimp only [Xu]
  split <;> exact hset
 have tq:(Xu (.aB ix) ⟨k,x,p⟩).2.p=p:=by
  dsimp only [Xu]
  split <;> rfl
 have hal:al=.slice none 0 0:=by have:=hl.2;rw [hset] at this;simpa using this
 subst hal;have hlv:=q20 (kb:=kb) (pv:=pv) (al:=.slice none 0 0) hl.1 hx hok ix ⟨hi0,hi1⟩;generalize Xu (.aB ix) ⟨k,x,p⟩=R at *;obtain ⟨s',⟨k',x',p'⟩⟩:=R;simp only at tC tq hlv |-;subst tq;refine GO fun w HT=>?_
 have HT:=Vh (HT.out.m [Xp kb L.fb pv vl (.slice none 0 0) k,gl,e,gC,gP]);have Ay:=Vh hlv;have bD:=Vh aW;have HST:=Vh tC;have bI:=HT.bg 2 hb;have nV:=HT.bg 2 hbi;simp only [] at bI nV;have b0:=HT.aj 2 hb 0;have i0:=HT.aj 2 hbi 0;simp only [bR] at b0 i0;clear hb hbi hl hx aW hok hset tC hlv;go_enter func242,ntmps242
 go_wp2_with fail
 refine Qa.run Ay (HT.a _ _) [0,1,3] ?_
 rintro e w1 gs ⟨g2,l2,vl2,gl2,Dl,⟨m2,d2,rfl,hs2⟩,hr2,hx2,rfl⟩ HT;simp only [PU] at HT;clear b0 i0;obtain ⟨r0,r1⟩:=HT.c2 5 0 0 1;obtain ⟨df,dm⟩:=HT.f2 5 0 0 1;simp only [aT] at r0 r1;have hv2:=(Jg L kb pv l2).vals (hs2 l2 (fH.refl _));obtain ⟨st1,st2⟩:=aZ.aG (P:=prog) hv2.1 hv2.2 r0 df r1 dm;have HS:=Vh hs2;have HR2:=Vh hr2;have kH:=Vh hx2;clear hv2 hs2 hr2 hx2;go_wp2
 exact WS (v:=.agg #[_,_]) (by simp [results,results242,go_sem,r0,r1]) rfl ⟨_,⟨e++l2,fH.app _ _,m2,d2,g2,_,_,rfl,HS _ (fun b hb=>WW _ hb),⟨vl2,.slice none 0 0,gl2,Dl,gP,⟨HR2,by rw [HST.out];rfl⟩,kH,bD,rfl,rfl⟩,rfl⟩,(((HT.set 5 0 rfl 0 _).set 5 0 rfl 1 _).p [0,3,6,2,1,7,4]).sum⟩
theorem Ho (L:Lay) (kb:Nat) (pv:Value):(wX L kb pv).Ok where
 refl:=fH.refl
 trans h1 h2:=fun b hb=>h2 b (h1 b hb)
 mm hl h:=CR.le hl h
 ma hl h:=CP.le hl h
 v e:=Jg L kb pv e
 m {e f v g gK gF z} hv hz hp:=by
   obtain ⟨k,x,p⟩:=z;obtain ⟨rfl,hv⟩:=hv;cases f with
   | shuts=>subst hv;exact ⟨_,_,_,rfl,fun _ _=>rfl,(q9b hz hp).pre rfl⟩
   | bQ=>obtain ⟨bk,rfl,hb⟩:=hv;exact ⟨_,_,_,rfl,fun _ _=>rfl,(q6f hz hp bk hb).pre rfl⟩
   | az i=>obtain ⟨bk,bi,rfl,hb,hbi⟩:=hv;exact ⟨_,_,_,rfl,fun _ _=>rfl,(q6g i hz hp bk bi hb hbi).pre rfl⟩
   | waits=>subst hv;exact ⟨_,_,_,rfl,fun _ _=>rfl,(q9d hz).pre rfl⟩
   | bJ i=>obtain ⟨bk,bi,rfl,hb,hbi⟩:=hv;exact ⟨_,_,_,rfl,fun _ _=>rfl,(q6d i hz hp bk bi hb hbi).pre rfl⟩
   | aB i=>obtain ⟨bk,bi,rfl,hb,hbi⟩:=hv;exact ⟨_,_,_,rfl,fun _ _=>rfl,(q2i i hz hp bk bi hb hbi).pre rfl⟩
   | cK=>obtain ⟨bk,rfl,hb⟩:=hv;exact ⟨_,_,_,rfl,fun _ _=>rfl,(q6i hz hp bk hb).pre rfl⟩
 a {e f v g gK gF z} hv hz hp:=by
   obtain ⟨k,x,p⟩:=z;obtain ⟨rfl,hv⟩:=hv;cases f with
   | aR=>obtain ⟨bk,rfl,hb⟩:=hv;exact ⟨_,_,_,rfl,fun _ _=>rfl,(q8l hz hp bk hb).pre rfl⟩
   | dE=>obtain ⟨bk,rfl,hb⟩:=hv;exact ⟨_,_,_,rfl,fun _ _=>rfl,(q8m hz hp bk hb).pre rfl⟩
   | release i=>obtain ⟨bk,bi,rfl,hb,hbi⟩:=hv;exact ⟨_,_,_,rfl,fun _ _=>rfl,(qv1 i hz hp bk bi hb hbi).pre rfl⟩
   | drop=>obtain ⟨bk,rfl,hb⟩:=hv;exact ⟨_,_,_,rfl,fun _ _=>rfl,(q8j hz hp bk hb).pre rfl⟩
 y {e f v g gK gF z} hv hz hp:=by
   obtain ⟨k,x,p⟩:=z;obtain ⟨rfl,hv⟩:=hv;cases f with
   | inside=>obtain ⟨bk,rfl,hb⟩:=hv;exact ⟨_,_,_,rfl,fun _ _=>rfl,((q7x hz bk hb).pre rfl).post (by rintro e gs ⟨aY,aI,h1,h2,rfl⟩;exact ⟨_,⟨aY,aI,h1,h2,rfl⟩,.refl _⟩)⟩
   | idle=>obtain ⟨bk,rfl,hb⟩:=hv;exact ⟨_,_,_,rfl,fun _ _=>rfl,((zcc hz bk hb).pre rfl).post (by rintro e gs ⟨aY,aI,h1,h2,rfl⟩;exact ⟨_,⟨aY,aI,h1,h2,rfl⟩,.refl _⟩)⟩
end
def DK (L:Lay) (kb:Nat) (pv:Value) (e:List ak) (k:Yv) (gK:List ak):Prop:=∃ vl al gl,Pz k vl al gl/\gK=Xp kb L.fb pv vl al k++(gl++e)
def rT (L:Lay) (x:Qi) (p:Qz) (gF:List ak):Prop:=∃ gC gP,Qf L x gC/\Z3 L.p.pb p gP/\gF=gC++gP
theorem BB {L:Lay} {kb:Nat} {pv:Value} {e gK gF:List ak} {z:ZS}:lL L kb pv e z gK gF↔DK L kb pv e z.k gK/\rT L z.x z.p gF :=
 ⟨fun ⟨vl,al,gl,gC,gP,a,b,c,d,f⟩=>⟨⟨vl,al,gl,a,d⟩,⟨gC,gP,b,c,f⟩⟩,fun ⟨⟨vl,al,gl,a,d⟩,⟨gC,gP,b,c,f⟩⟩=>⟨vl,al,gl,gC,gP,a,b,c,d,f⟩⟩
def oK (L:Lay) (kb:Nat) (s:SS) (n:Int) (k:Yv) (g:List ak):Prop :=
 ∃ (pb:Nat) (e:List ak) (m d:Value) (cB gK:List ak),(wX L kb (Qb pb)).SV e s m d cB/\DK L kb (Qb pb) e k gK/\g=aZ.aJ pb m d n++(cB++gK)
def stepS (s:SS) (z:ZS):SS × ZS:=St.run Xu Ya s z
def QO (s:SS) (z:ZS):Prop:=St.pre Xu Ya yg Cf s z
def uG (s:SS) (z:ZS):Bool:=s.may Bf z
theorem Gl:∀ (s:SS) {z:ZS},qc6 z->St.dw (fun (_:YS) (z:ZS)=>qc6 z) s z
 | .nil,_,_=>trivial
 | .at none _,_,_=>trivial
 | .at (some y) _,_,h=>h
 | .ai _,_,_=>trivial
 | .aP _ _,_,_=>trivial
 | .thn s _,_,h=>Gl s h
section
variable {L:Lay} {x:Qi} {p:Qz} {g gF:List ak} {kb:Nat} {s:SS} {n:Int} {k:Yv}
theorem q5r (hc:oK L kb s n k g) (hx:rT L x p gF) (ho:qc6 ⟨k,x,p⟩) (hm:uG s ⟨k,x,p⟩=true) (hp:QO s ⟨k,x,p⟩) (hb:0<=n/\n<=1000000000) :
 Qa prog 48 #[Qb kb] [g,gF] fun en gs=>∃ g' aI,en=WO (.bool true)/\oK L kb (stepS s ⟨k,x,p⟩).1 (n+1) (stepS s ⟨k,x,p⟩).2.k g'/\rT L (stepS s ⟨k,x,p⟩).2.x (stepS s ⟨k,x,p⟩).2.p aI/\gs=[g',aI]:=by
 obtain ⟨pb,e,m,d,cB,gK,hs,hk,rfl⟩:=hc;have hd:=kT.fJ (n:=n) (Ho L kb (Qb pb)) hs (x:=(⟨k,x,p⟩:ZS)) (BB.2 ⟨hk,hx⟩) (Gl s ho) hp pb hb hm;obtain ⟨vl,al,gl,hl,rfl⟩:=hk;refine GO fun w HT=>?_
 have T1:=HT.sum (H':=[Xp kb L.fb (Qb pb) vl al k,aZ.aJ pb m d n++(cB++(gl++e)),gF]);have k8:=T1.c 0 0 8;simp only [Z9,aC] at k8;have lt:=T1.l 0 0;simp only [] at lt;have HD:=Vh hd;have HT:=Vh (HT.out.m [aZ.aJ pb m d n,cB,Xp kb L.fb (Qb pb) vl al k++(gl++e),gF]);clear hs hl hx ho hm hp hb hd T1;go_enter func48,ntmps48
 go_wp2_with fail
 refine Qa.run HD HT [0,1,2,3] ?_
 rintro e w1 gs ⟨e',hle,m',d',nN,aY,aI,rfl,hs',hx',rfl⟩ HT;simp only [PU] at HT;have HS:=Vh hs';have HX:=Vh (BB.1 hx');clear hs' hx' k8;go_wp2
 go_ret
 exact ⟨_,⟨_,aI,rfl,⟨pb,e',m',d',nN,aY,HS,HX.1,rfl⟩,HX.2,rfl⟩,HT.sum⟩
theorem zbd (hc:oK L kb s n k g) (hx:rT L x p gF) (ho:qc6 ⟨k,x,p⟩) (hm:uG s ⟨k,x,p⟩=false) :
 Qa prog 48 #[Qb kb] [g,gF] fun en gs=>en=WO (.bool false)/\∃ g' aI,oK L kb s n k g'/\rT L x p aI/\gs=[g',aI]:=by
 obtain ⟨pb,e,m,d,cB,gK,hs,hk,rfl⟩:=hc;have hd:=kT.dQ (n:=n) (Ho L kb (Qb pb)) hs (x:=(⟨k,x,p⟩:ZS)) (BB.2 ⟨hk,hx⟩) (Gl s ho) pb hm;obtain ⟨vl,al,gl,hl,rfl⟩:=hk;refine GO fun w HT=>?_
 have T1:=HT.sum (H':=[Xp kb L.fb (Qb pb) vl al k,aZ.aJ pb m d n++(cB++(gl++e)),gF]);have k8:=T1.c 0 0 8;simp only [Z9,aC] at k8;have lt:=T1.l 0 0;simp only [] at lt;have HD:=Vh hd;have HS:=Vh hs;have HT:=Vh (HT.out.m [aZ.aJ pb m d n,cB,Xp kb L.fb (Qb pb) vl al k++(gl++e),gF]);clear hs hl hx ho hm hd T1;go_enter func48,ntmps48
 go_wp2_with fail
 refine Qa.run HD HT [0,1,2,3] ?_
 rintro e w1 gs ⟨aY,aI,rfl,hx',rfl⟩ HT;simp only [PU] at HT;have HX:=Vh (BB.1 hx');clear hx' k8;go_wp2
 go_ret
 exact ⟨_,⟨rfl,_,aI,⟨pb,e,m,d,cB,aY,HS,HX.1,rfl⟩,HX.2,rfl⟩,HT.sum⟩
theorem q8t (hc:oK L kb s n k g) (hx:rT L x p gF) (ho:qc6 ⟨k,x,p⟩) :
 Qa prog 366 #[Qb kb] [g,gF] fun en gs=>en=WO (.bool (uG s ⟨k,x,p⟩))/\∃ g' aI,oK L kb s n k g'/\rT L x p aI/\gs=[g',aI]:=by
 obtain ⟨pb,e,m,d,cB,gK,hs,hk,rfl⟩:=hc;have hd:=kT.dP (n:=n) (Ho L kb (Qb pb)) hs (x:=(⟨k,x,p⟩:ZS)) (BB.2 ⟨hk,hx⟩) (Gl s ho) pb;have hd:Qa prog 146 _ _ fun en gs=>∃ aY aI,en=WO (.bool (uG s ⟨k,x,p⟩))/\lL L kb (Qb pb) e ⟨k,x,p⟩ aY aI/\_:=hd
 generalize uG s ⟨k,x,p⟩=v at *;obtain ⟨vl,al,gl,hl,rfl⟩:=hk;refine GO fun w HT=>?_
 have T1:=HT.sum (H':=[Xp kb L.fb (Qb pb) vl al k,aZ.aJ pb m d n++(cB++(gl++e)),gF]);have k8:=T1.c 0 0 8;simp only [Z9,aC] at k8;have lt:=T1.l 0 0;simp only [] at lt;have HD:=Vh hd;have HS:=Vh hs;have HT:=Vh (HT.out.m [aZ.aJ pb m d n,cB,Xp kb L.fb (Qb pb) vl al k++(gl++e),gF]);clear hs hl hx ho hd T1;go_enter func366,ntmps366
 go_wp2_with fail
 refine Qa.run HD HT [0,1,2,3] ?_
 rintro e w1 gs ⟨aY,aI,rfl,hx',rfl⟩ HT;simp only [PU] at HT;have HX:=Vh (BB.1 hx');clear hx' k8;go_wp2
 go_ret
 exact ⟨_,⟨rfl,_,aI,⟨pb,e,m,d,cB,aY,HS,HX.1,rfl⟩,HX.2,rfl⟩,HT.sum⟩
theorem MN (hc:oK L kb s n k g):Qe prog 112 #[Qb kb] [g] (.bool s.isNil):=by
 obtain ⟨pb,e,m,d,cB,gK,hs,hk,rfl⟩:=hc;have hd:=kT.eU (Ho L kb (Qb pb)) hs pb n;obtain ⟨vl,al,gl,hl,rfl⟩:=hk;refine GO fun w HT=>?_
 have T1:=HT.sum (H':=[Xp kb L.fb (Qb pb) vl al k,aZ.aJ pb m d n++(cB++(gl++e))]);have k8:=T1.c 0 0 8;simp only [Z9,aC] at k8;have lt:=T1.l 0 0;simp only [] at lt;have HD:=Vh hd;have HT:=Vh (HT.out.m [aZ.aJ pb m d n,cB,Xp kb L.fb (Qb pb) vl al k++(gl++e)]);clear hs hl hd T1;go_enter func112,ntmps112
 go_wp2_with fail
 refine (Qe.use HD HT [0] rfl rfl).mono ?_
 rintro e w1 ⟨rfl,mq,rfl⟩;go_wp2
 go_ret
 exact ⟨rfl,_,rfl⟩
end
theorem aZ.iC {c:aZ} (h:c.iA) {s:c.S} {m d:Value} {g:List ak} (hs:c.SV s m d g):Qa prog 79 #[.agg #[m,d]] [g] fun e gs=>∃ pb,e=WO (Qb pb)/\gs=[g,aZ.aJ pb m d 0]:=by
 obtain ⟨v1,v2⟩:=h.vals hs;refine GO fun w HT=>?_
 clear hs h;rcases v1 with rfl | ⟨pO,eF,fZ,rfl⟩ <;> rcases v2 with rfl | ⟨Dk,lu,o9,rfl⟩
 all_goals
  go_enter func79,ntmps79
  go_wp2
  go_ret
  exact ⟨_,⟨_,rfl,rfl⟩,(HT.aN _).alloc (k:=w.heap.size+1) (by simp) _ _⟩
theorem q3o (l:List Int):∀ u∈kv l,u.oneCell'=true:=by
 intro u hu;obtain ⟨n,_,rfl⟩:=List.mem_map.1 hu;rfl
theorem Tv {tr:Value} {l:List Int} {gT:List ak} (hr:Q1 36 1 tr l.length (kv l) gT) (hn:l.length<=1000000000) :
 Qa prog 113 #[tr] [gT] fun e gs=>∃ v g',e=WO v/\Q1 36 1 v l.length (kv l) g'/\gs=[gT,g']:=by
 have hr':=hr;obtain ⟨hl,(⟨rfl,h0,rfl⟩ | ⟨b,cap,cur,rfl,rfl,h1,h2,h3,h4⟩)⟩:=hr
 ·have he:l=[]:=List.eq_nil_of_length_eq_zero h0
  subst he;clear hr' h0 hl hn;refine GO fun w HT=>?_
  have hn:=fun (w:World)=>Lib.run_eql_slice_nil (P:=prog) w 49 36 none 0 0 0 0 underlying49
  go_enter func113,ntmps113
  go_wp2
  go_ret
  exact ⟨[[],[]],⟨_,[],rfl,X5 _ _,rfl⟩,HT.eq (by simp)⟩
 ·refine GO fun w HT=>?_
  have HN:=Vh (show ∀ j u,(kv l)[j]?=some u->(w.alloc (.cells #[] 36)).cell? ((⟨b,0,none⟩:Addr).add j)=some u from ((HT.a 36 #[]).owns 0 rfl hr').cells (g:=b) rfl);have HL:=Vh hl;have HC:=Vh (q3o l);clear hr' hl h4 h3;have hn:=fun (w:World)=>Lib.run_eql_slice_nil (P:=prog) w 49 36 (some ⟨b,0,none⟩) l.length cap 0 0 underlying49
  go_enter func113,ntmps113
  go_wp2_with (
   at_builtin
   (with_reducible refine X3 rfl (.tmp 5) (.tmp 6) 49 rfl 36 1 8 _ underlying49 Tryz.oG rfl (by decide) (HT.out.alloc rfl _ _) 1 rfl rfl (Up _ 1 _ 0 0 #[] (Nat.le_refl _) (by decide) rfl) rfl ⟨b,0,none⟩ l.length cap (kv l) rfl HL.out HN.out HC.out (by unfold maxLen;omega) (by omega) ?_)
   intro v w2 g2 r T;simp only [XD,XE,List.cons_append,List.nil_append] at T;have T:=Vh T
   have r:=Vh r)
  go_ret
  have hv:Q1 36 1 v l.length (kv l) g2:=by simpa using r.out
  exact ⟨_,⟨_,rfl,_,hv,rfl⟩,T⟩
def oZ (th no:Int):Yv:=⟨th,no,0,false,false,[],0⟩
def H6:SS:=.at none .shuts
def dh (err:Int) (ok:Bool) (v:Value):Array Value:=#[WK WL err,.bool ok,WK WN 0,WK WN 0,v]
section
variable {L:Lay} {x:Qi} {p:Qz} {g gF:List ak} {kb:Nat} {s:SS} {n:Int} {k:Yv}
theorem q09 (hx:rT L x p gF) (hn:x.tr.length<=1000000) (th no:Int):Qa prog 47 #[Qb L.fb,WK WL th,WK WL no] [gF] fun en gs =>
 ∃ kb g aI,en=WO (WV #[Qb kb,WK WL 0])/\oK L kb H6 0 (oZ th no) g/\rT L { x with tr:=x.tr++[pM (oZ th no) { bO with kind:=1 }] } p aI/\gs=[g,aI]:=by
 obtain ⟨gC,gP,hx,aW,rfl⟩:=hx;have HS:=Vh (show ∀ kb pv,((wX L kb pv).on []).SV (.at none .shuts) WM (WQ (WR 110) #[Qb kb] #[]) [] from fun kb pv=>⟨rfl,rfl,rfl⟩);have lh:=Vh (show ∀ kb,_ from fun kb=>aZ.iC (Jg L kb (WX none) []) (HS kb (WX none)));refine GO fun w HT=>?_
 have HX:=Vh hx;have bD:=Vh aW;have dR:=Vh hn;clear hx hn aW;go_enter func47,ntmps47
 go_wp2_with fail
 refine Qa.run (lh w.heap.size) ((HT.a 194 (Z9 L.fb (WX none) (.slice none 0 0) (.slice none 0 0) (oZ th no))).m [gC,gP,[],[cl w.heap.size 194 (Z9 L.fb (WX none) (.slice none 0 0) (.slice none 0 0) (oZ th no))]]) [2] ?_
 rintro e w1 gs ⟨pb,rfl,rfl⟩ HT;simp only [PU] at HT;have k8:=HT.c 3 0 8;have yP:=HT.f 3 0 8;simp only [Z9,aC] at k8;go_wp2_with fail
 refine Qa.run (BF (pv:=Qb pb) HX { bO with kind:=1 } dR) ((HT.set 3 0 rfl 8 (Qb pb)).eq (H':=[gC,gP,[],Xp w.heap.size L.fb (Qb pb) (.slice none 0 0) (.slice none 0 0) (oZ th no),aZ.aJ pb WM (WQ (WR 110) #[Qb w.heap.size] #[]) 0]) rfl) [3,0] ?_
 rintro e w1 gs ⟨rfl,g1,hx1,rfl⟩ HT;simp only [PU] at HT;have HX:=Vh hx1;clear hx1 k8 yP;go_wp2
 go_ret2
 exact ⟨_,⟨_,_,_,rfl,⟨pb,[],_,_,[],[cl w.heap.size 194 (Z9 L.fb (Qb pb) (.slice none 0 0) (.slice none 0 0) (oZ th no))],HS _ _,⟨_,_,[],⟨X5 _ _,rfl⟩,rfl⟩,rfl⟩,⟨g1,gP,HX,bD,rfl⟩,rfl⟩,((HT.p [4,3,0,1]).eq (H':=[aZ.aJ pb WM (WQ (WR 110) #[Qb w.heap.size] #[]) 0,[cl w.heap.size 194 (Z9 L.fb (Qb pb) (.slice none 0 0) (.slice none 0 0) (oZ th no))],g1,gP]) rfl).sum⟩
theorem q5n (hc:oK L kb s n k g) (hn:s.isNil=false):Qa prog 49 #[Qb kb] [g] fun en gs =>
 en=WO (WV #[.agg (dh 0 false (.slice none 0 0)),WK WL 10])/\gs=[g]:=by
 have hd:=MN hc;rw [hn] at hd;refine GO fun w HT=>?_
 have HD:=Vh hd;clear hd hc;go_enter func49,ntmps49
 go_wp2_with fail
 have HT:=Vh (HT.out.a 51 #[WK WL 0,.bool false,WK WN 0,WK WN 0,.slice none 0 0]);go_wp2_with fail
 refine Qe.run HD HT [0] ?_
 rintro e wq rfl HT;obtain ⟨e0,e1,e2,e3,e4⟩:=HT.c5 1 0 0 1 2 3 4;obtain ⟨eX,eD,FO,O8,AM⟩:=HT.f5 1 0 0 1 2 3 4;simp only [aT] at e0 e1 e2 e3 e4;go_wp2
 exact WS (v:=WV #[.agg (dh 0 false (.slice none 0 0)),WK WL 10]) (by simp [results,results49,go_sem,e0,e1,e2,e3,e4,dh]) rfl ⟨_,⟨rfl,rfl⟩,(((((HT.set 1 0 rfl 0 _).set 1 0 rfl 1 _).set 1 0 rfl 2 _).set 1 0 rfl 3 _).set 1 0 rfl 4 _).p [0]⟩
def Yv.told (k:Yv):List Int:=if k.fB then k.left else []
theorem qwq (hc:oK L kb s n k g) (hn:s.isNil=true) (hl:k.left.length<=1000000):Qa prog 49 #[Qb kb] [g] fun en gs =>
 ∃ v gv,en=WO (WV #[.agg (dh k.err k.ok v),WK WL 0])/\Q1 36 1 v k.told.length (kv k.told) gv/\gs=[g,gv]:=by
 have hd:=MN hc;rw [hn] at hd;obtain ⟨pb,e,m,d,cB,gK,hs,⟨vl,al,gl,⟨hr,hal⟩,rfl⟩,rfl⟩:=hc;obtain ⟨av,cap,rfl⟩:=hr.val
 have pV:(al=.slice none 0 0/\k.told=[])\/(al=.slice av k.left.length cap/\k.told=k.left):=by
  unfold Yv.told;cases hh:k.fB <;> rw [hh] at hal <;> simp at hal <;> simp [hal]
 clear hal;rcases pV with ⟨rfl,ht⟩ | ⟨rfl,ht⟩
 ·rw [ht]
  have HC:=Vh (Tv (tr:=.slice none 0 0) (l:=[]) (X5 _ _) (by simp));refine GO fun w HT=>?_
  have HD:=Vh hd;clear hd hs hr;go_enter func49,ntmps49
  go_wp2_with fail
  have HT:=Vh (HT.out.a 51 #[WK WL 0,.bool false,WK WN 0,WK WN 0,.slice none 0 0]);go_wp2_with fail
  refine Qe.run HD HT [0] ?_
  rintro e wq rfl HT;have HT:=Vh (HT.out.sum (H':=[Xp kb L.fb (Qb pb) (.slice av k.left.length cap) (.slice none 0 0) k,gl,aZ.aJ pb m d n++cB++e,[cl w.heap.size 51 #[WK WL 0,.bool false,WK WN 0,WK WN 0,.slice none 0 0]],[]]));obtain ⟨k3,k4,k5,k6,k7⟩:=HT.c5 0 0 3 4 5 6 7;simp only [Z9,aC] at k3 k4 k5 k6 k7;have lt:=HT.l 0 0;have nW:=HT.l 3 0;simp only [] at lt nW;go_wp2_with fail
  refine Qa.run HC (HT.a 51 #[WK WL k.err,.bool k.ok,WK WN 0,WK WN 0,.slice none 0 0]) [4] ?_
  rintro e w1 gs ⟨v,g2,rfl,hv,rfl⟩ HT;simp only [PU] at HT;obtain ⟨CW,cap2,rfl⟩:=Q1.val hv;have HV:=Vh hv;clear hv k3 k4 k5 k6 k7;obtain ⟨a0,a1,a2,a3,a4⟩:=HT.c5 5 0 0 1 2 3 4;have fa4:=HT.f 5 0 4;simp only [aT] at a0 a1 a2 a3 a4;obtain ⟨r0,r1,r2,r3,r4⟩:=HT.c5 3 0 0 1 2 3 4;obtain ⟨df,dm,yR,yS,FP⟩:=HT.f5 3 0 0 1 2 3 4;simp only [aT] at r0 r1 r2 r3 r4;have ne1:=HT.ne 5 0 3 0 (by decide) rfl rfl;simp only [] at ne1;have oI:=Ne.symm ne1;go_wp2
  exact WS (v:=WV #[.agg (dh k.err k.ok (.slice CW ([]:List Int).length cap2)),WK WL 0]) (by simp [results,results49,go_sem,r0,r1,r2,r3,r4,dh,ne1,oI]) rfl ⟨_,⟨_,g2,rfl,HV,rfl⟩,(((((((HT.set 5 0 rfl 4 _).set 3 0 rfl 0 _).set 3 0 rfl 1 _).set 3 0 rfl 2 _).set 3 0 rfl 3 _).set 3 0 rfl 4 _).p [0,1,2,6]).sum⟩
 ·rw [ht]
  have HC:=Vh (Tv (tr:=.slice av k.left.length cap) hr (by omega));refine GO fun w HT=>?_
  have HD:=Vh hd;clear hd hs hr;go_enter func49,ntmps49
  go_wp2_with fail
  have HT:=Vh (HT.out.a 51 #[WK WL 0,.bool false,WK WN 0,WK WN 0,.slice none 0 0]);go_wp2_with fail
  refine Qe.run HD HT [0] ?_
  rintro e wq rfl HT;have HT:=Vh (HT.out.sum (H':=[Xp kb L.fb (Qb pb) (.slice av k.left.length cap) (.slice av k.left.length cap) k,gl,aZ.aJ pb m d n++cB++e,[cl w.heap.size 51 #[WK WL 0,.bool false,WK WN 0,WK WN 0,.slice none 0 0]],[]]));obtain ⟨k3,k4,k5,k6,k7⟩:=HT.c5 0 0 3 4 5 6 7;simp only [Z9,aC] at k3 k4 k5 k6 k7;have lt:=HT.l 0 0;have nW:=HT.l 3 0;simp only [] at lt nW;go_wp2_with fail
  refine Qa.run HC (HT.a 51 #[WK WL k.err,.bool k.ok,WK WN 0,WK WN 0,.slice av k.left.length cap]) [1] ?_
  rintro e w1 gs ⟨v,g2,rfl,hv,rfl⟩ HT;simp only [PU] at HT;obtain ⟨CW,cap2,rfl⟩:=Q1.val hv;have HV:=Vh hv;clear hv k3 k4 k5 k6 k7;obtain ⟨a0,a1,a2,a3,a4⟩:=HT.c5 5 0 0 1 2 3 4;have fa4:=HT.f 5 0 4;simp only [aT] at a0 a1 a2 a3 a4;obtain ⟨r0,r1,r2,r3,r4⟩:=HT.c5 3 0 0 1 2 3 4;obtain ⟨df,dm,yR,yS,FP⟩:=HT.f5 3 0 0 1 2 3 4;simp only [aT] at r0 r1 r2 r3 r4;have ne1:=HT.ne 5 0 3 0 (by decide) rfl rfl;simp only [] at ne1;have oI:=Ne.symm ne1;go_wp2
  exact WS (v:=WV #[.agg (dh k.err k.ok (.slice CW k.left.length cap2)),WK WL 0]) (by simp [results,results49,go_sem,r0,r1,r2,r3,r4,dh,ne1,oI]) rfl ⟨_,⟨_,g2,rfl,HV,rfl⟩,(((((((HT.set 5 0 rfl 4 _).set 3 0 rfl 0 _).set 3 0 rfl 1 _).set 3 0 rfl 2 _).set 3 0 rfl 3 _).set 3 0 rfl 4 _).p [0,1,2,6]).sum⟩
end
def xY:SS->Yv->Prop
 | .nil,_=>True
 | .at none .shuts,k=>k.fB=false
 | .at (some .inside) .bQ,k=>k.fB=false
 | .at (some .idle) .cK,_=>True
 | .ai .aR,_=>True
 | .thn (.ai .dE) .waits,k=>k.fB=false
 | .thn (.at none (.bJ i)) (.az j),k=>k.fB=false/\i=j/\0<=i/\i<64
 | .thn (.at none (.aB i)) (.az j),k=>k.fB=false/\i=j/\0<=i/\i<64
 | .thn (.aP (.release _) .drop) (.az j),k=>k.fB=false/\0<=j/\j<64
 | .thn (.ai .drop) (.az j),k=>k.fB=false/\0<=j/\j<64
 | _,_=>False
structure JB (N:Nat) (z:ZS):Prop where
 core:Zg N z.x
 cap:z.x.f.cfg.cap=z.x.aa.recs.length
 busy:0<=z.x.f.busy/\z.x.f.busy<=N
 aA:0<=z.k.aA/\z.k.aA<18446744073709551616/\okW z.k.aA=true
 left:z.k.left.length<=N
structure JS (N:Nat) (s:SS) (z:ZS):Prop where
 b:JB N z
 fit:xY s z.k
theorem JB.mono {N M:Nat} {z:ZS} (h:JB N z) (hm:N<=M):JB M z :=
 ⟨h.core.mono hm,h.cap,by have:=h.busy;omega,h.aA,by have:=h.left;omega⟩
theorem JB.ok {N:Nat} {z:ZS} (h:JB N z) (hN:N<=1000000):qc6 z :=
 ⟨h.core.ok hN,h.cap,by have:=h.busy;omega,h.aA,by have:=h.left;omega⟩
section
variable {N:Nat} {z:ZS}
theorem Gi {x:Qi} (h:Zg N x) (E:EvS):Zg (N+1) { x with tr:=x.tr++[E] } :=
 ⟨h.aa,h.i0,by have:=h.i1;show x.f.inside<=_;omega,by have:=h.tr;show (x.tr++[_]).length<=_;rw [XF];simp;omega,h.sh,h.rings (by omega)⟩
theorem JB.note (h:JB N z) (E:EvS):JB (N+1) (z.note E) :=
 ⟨Gi h.core _,h.cap,by have:=h.busy;show 0<=z.x.f.busy/\z.x.f.busy<=_;omega,h.aA,by have:=h.left;show z.k.left.length<=_;omega⟩
theorem JB.aa (h:JB N z) {s:Qj} (hs:Xc s) (hl:s.recs.length=z.x.aa.recs.length):JB N { z with x:={ z.x with aa:=s } } :=
 ⟨Bo h.core hs,by show z.x.f.cfg.cap=s.recs.length;rw [hl];exact h.cap,h.busy,h.aA,h.left⟩
theorem Px (h:JB N z) (a:AS):JB (N+1) (Ya a z):=by
 cases a with
 | aR=>exact h.note _
 | dE=>exact (⟨h.core,h.cap,h.busy,h.aA,h.left⟩:JB N { z with p:={ z.p with shut:=true } }).mono (by omega)
 | release i =>
   obtain ⟨a,b⟩:=ui h.core.aa i (z.x.aa.word i) 10;exact (h.aa a b).mono (by omega)
 | drop =>
   obtain ⟨a,b⟩:=EA h.core.aa;exact (h.aa a b).mono (by omega)
theorem L6 {k:Yv} (h:k.fB=false) {i:Int} (h0:0<=i) (hc:z.x.f.cfg.cap<=64):xY (Zv i z) k:=by
 unfold Zv uf;split
 ·exact h
 ·exact ⟨h,rfl,h0,by omega⟩
theorem JB.c64 (h:JB N z):z.x.f.cfg.cap<=64:=by have:=h.cap;have:=h.core.aa.n1;omega
theorem JS.pre {s:SS} (h:JS N s z) (hN:N<1000000):QO s z:=by
 obtain ⟨hb,hf⟩:=h;have ho:=hb.ok (by omega);have ha:=fun a=>(Px hb a).ok (by omega)
 match s,hf with
 | .nil,_=>trivial
 | .at none .shuts,hf=>exact ⟨ho,trivial⟩
 | .at (some .inside) .bQ,_=>exact ⟨ho,trivial⟩
 | .at (some .idle) .cK,_=>exact ⟨ho,trivial⟩
 | .ai .aR,_=>exact ho
 | .thn (.ai .dE) .waits,_=>exact ⟨ho,fun _=>⟨ha .dE,trivial⟩⟩
 | .thn (.at none (.bJ i)) (.az j),hf =>
   obtain ⟨h1,rfl,h3,h4⟩:=hf;refine ⟨⟨ho,h3,by omega⟩,fun _=>?_⟩
   have e:(St.run Xu Ya (.at none (.bJ i)) z).2=Yb i z:=by
    show (Xu (.bJ i) z).2=_
    dsimp only [Xu]
    split <;> rfl
   rw [e];exact ⟨⟨ho.core,ho.cap,ho.busy,Y3 ho.core.aa i,ho.left⟩,h3,by omega⟩
 | .thn (.at none (.aB i)) (.az j),hf =>
   obtain ⟨h1,rfl,h3,h4⟩:=hf;refine ⟨⟨ho,⟨h3,by omega⟩,h1⟩,fun hn=>?_⟩
   have:(St.run Xu Ya (.at none (.aB i)) z).1.isNil=true:=hn;change (Xu (.aB i) z).1.isNil=true at this
   dsimp only [Xu] at this
   split at this <;> cases this
 | .thn (.aP (.release i) .drop) (.az j),hf=>exact ⟨ho,fun h=>by cases h⟩
 | .thn (.ai .drop) (.az j),hf=>exact ⟨ho,fun _=>⟨ha .drop,hf.2.1,by have:=hf.2.2;omega⟩⟩
theorem JS.step {s:SS} (h:JS N s z):JS (N+1) (stepS s z).1 (stepS s z).2:=by
 obtain ⟨hb,hf⟩:=h;have ha:=fun a=>Px hb a
 have hc:=hb.c64
 match s,hf with
 | .nil,_=>exact ⟨hb.mono (by omega),trivial⟩
 | .at none .shuts,hf =>
   show JS (N+1) (Xu .shuts z).1 (Xu .shuts z).2
   dsimp only [Xu]
   split
   ·have:=hb.note { bO with kind:=9,err:=3 }
    exact ⟨⟨this.core,this.cap,this.busy,this.aA,this.left⟩,trivial⟩
   ·exact ⟨JB.note (z:={ z with x:={ z.x with f:={ z.x.f with closed:=true } } }) ⟨⟨hb.core.aa,hb.core.i0,hb.core.i1,hb.core.tr,hb.core.sh,hb.core.ring⟩,hb.cap,hb.busy,hb.aA,hb.left⟩ _,hf⟩
 | .at (some .inside) .bQ,hf=>exact ⟨hb.mono (by omega),L6 hf (by decide) hc⟩
 | .at (some .idle) .cK,_ =>
   have:=hb.note { bO with kind:=13 };exact ⟨⟨this.core,this.cap,this.busy,this.aA,this.left⟩,trivial⟩
 | .ai .aR,_=>exact ⟨ha .aR,trivial⟩
 | .thn (.ai .dE) .waits,_=>exact ⟨ha .dE,trivial⟩
 | .thn (.at none (.bJ i)) (.az j),hf =>
   obtain ⟨h1,rfl,h3,h4⟩:=hf;have hw:JB N (Yb i z):=⟨hb.core,hb.cap,hb.busy,Y3 hb.core.aa i,hb.left⟩
   show JS (N+1) (Qd Xu (Xu (.bJ i) z).1 (.az i) (Xu (.bJ i) z).2).1 (Qd Xu (Xu (.bJ i) z).1 (.az i) (Xu (.bJ i) z).2).2
   dsimp only [Xu]
   split
   ·exact ⟨hw.mono (by omega),h1,rfl,h3,h4⟩
   ·exact ⟨hw.mono (by omega),L6 (z:=Yb i z) (k:=(Yb i z).k) (i:=i+1) h1 (by omega) hc⟩
 | .thn (.at none (.aB i)) (.az j),hf =>
   obtain ⟨h1,rfl,h3,h4⟩:=hf;obtain ⟨a,b⟩:=ui hb.core.aa i z.k.aA 6;have hs:=hb.aa a b
   show JS (N+1) (Qd Xu (Xu (.aB i) z).1 (.az i) (Xu (.aB i) z).2).1 (Qd Xu (Xu (.aB i) z).1 (.az i) (Xu (.aB i) z).2).2
   dsimp only [Xu]
   split
   ·exact ⟨hs.mono (by omega),h1,rfl,h3,h4⟩
   ·have hn:=Gi hs.core (pM { z.k with left:=z.k.left++[(qR (z.x.aa.try i z.k.aA 6).1 i).1] } { bO with kind:=12,id:=(qR (z.x.aa.try i z.k.aA 6).1 i).1,gen:=X7 (z.x.aa.try i z.k.aA 6).2.1 })
    refine ⟨⟨hn,hs.cap,?_,hs.aA,?_⟩,h1,h3,h4⟩
    ·have:=hb.busy;exact ⟨this.1,by show z.x.f.busy<=_;omega⟩
    ·have:=hb.left;show (z.k.left++[_]).length<=_;rw [XF];simp;omega
 | .thn (.aP (.release i) .drop) (.az j),hf=>exact ⟨ha (.release i),hf⟩
 | .thn (.ai .drop) (.az j),hf=>exact ⟨ha .drop,L6 (z:=Ya .drop z) (i:=j+1) hf.1 (by have:=hf.2.1;omega) hc⟩
end
theorem qxz {n:Nat} (h1:1<=n) (h2:n<=64):lH 0 (Jj n):=by
 refine ⟨?_,?_,XA 0,XA 0,XA 0,XA 0⟩ <;> simp [Jj] <;> omega
theorem q5t {c:Cfg} (h:c.ok=true):Zg 0 (KE c):=by
 obtain ⟨h1,h2,h3,_⟩:=Cfg.bd h;refine ⟨qt9 (by omega) (by omega),by show (0:Int)<=0;omega,by show (0:Int)<=0;omega,by show ([]:List EvS).length<=0;simp,?_,?_⟩
 ·show 1<=(List.replicate _ _).length
  rw [List.length_replicate];omega
 ·intro s hs
  obtain ⟨_,rfl⟩:=List.mem_replicate.1 hs;exact qxz (by omega) (by omega)
structure Q4.wf (c:Q4):Prop where
 id:0<=c.id/\c.id<18446744073709551616
 dl:0<=c.dl/\c.dl<18446744073709551616
 per:0<=c.per/\c.per<18446744073709551616
theorem q9h {N:Nat} {c:Q4} (h:c.wf) (th no:Int) (x:Qi):Zm N (ku th no c) x :=
 ⟨h.dl,h.per,h.id,by show (0:Int)<=0;omega,⟨by show (0:Int)<=0;omega,by show (0:Int) < _;omega,by show okW 0=true;decide⟩,fun q hq=>(by cases hq),fun i t ht=>(by cases ht)⟩
theorem qw5 (kd:Int) (k:Qt):uL (q7 kd) k:=by
 unfold q7;split
 ·trivial
 ·split <;> trivial
def JK:Cfg:=⟨1,1,1,1,1,1⟩
def ER:Q4:=⟨1,0,5,0⟩
def z5:ZC:=(ku 0 1 ER,xC (ku 0 1 ER) { bO with kind:=1,id:=ER.id,dl:=ER.dl,per:=ER.per } (KE JK))
end
end Go.Proofs.YtcneeepdclgdcaaGreat
