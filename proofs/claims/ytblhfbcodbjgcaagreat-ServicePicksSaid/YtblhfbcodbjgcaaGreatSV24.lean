import Derived.Test.YtblhfbcodbjgcaaGreatSV23
import Derived.Test.YtblhfbcodbjgcaaGreatSV20
namespace Go.Proofs.YtblhfbcodbjgcaaGreat
set_option linter.unusedVariables false
set_option linter.unusedSimpArgs false
section
open Go.RowKit Go.Shelf
theorem Tryz.infoU64:(Tryz.prog.info? 36).map (fun i=>(i.zero,i.size,i.bytes))=some (some (.int .u64 0),1,8):=by kernel_rfl
section
variable {L:Lay} {x:CoreS} {p:PipeS} {e gl gC gK gF:List Blk} {kb:Nat} {pv vl al:Value} {k:ShutS}
set_option maxRecDepth 100000 in
set_option maxHeartbeats 4000000 in
theorem mLooks1 (ix:Int) (hz:repS L kb pv e ⟨k,x,p⟩ gK gF) (hp:preS (.looks1 ix) ⟨k,x,p⟩) (bk bi:Nat) (hb:cl bk 251 #[ptr' kb]∈e) (hbi:cl bi 3 #[.int .i64 ix]∈e):DoesG Tryz.prog 276 #[ptr' bk,ptr' bi] [gK,gF] (MRS L kb pv e (runS (.looks1 ix) ⟨k,x,p⟩).1 (runS (.looks1 ix) ⟨k,x,p⟩).2):=by
 have hok:=hp.1.core
 simp only at hok
 have HWB:=Lib.hid (word_bd hok.slab ix)
 have HWD:=Lib.hid (show ∀ g',isCore L x g'→_ from fun g' hx'=>coreWord (g:=g') hx' hok.slab.n1 ix)
 unfold MRS
 dsimp only [runS,wordZ]
 obtain ⟨wd,hwd⟩:∃ wd,wd=x.slab.word ix:=⟨_,rfl⟩
 rw [← hwd] at HWB HWD ⊢
 clear hok hp hwd
 obtain ⟨st,hst⟩:∃ st,st=stW wd:=⟨_,rfl⟩
 have HST:=Lib.hid hst
 rw [← hst]
 clear hst
 by_cases h23:st=2∨st=3
 ·rw [if_pos h23]
  dsimp only
  rcases h23 with rfl | rfl
  ·obtain ⟨vl,al,gl,gC,gP,hl,hx,hpp,rfl,rfl⟩:=hz
   intro w hw
   have T0:=TG.refl hw
   have HT:=Lib.hid T0
   clear hw T0
   have HT:=Lib.hid (HT.out.sum (H':=[shutB kb L.fb pv vl al k,gl,e,gC,gP]))
   have HX:=Lib.hid hx
   have HL:=Lib.hid hl
   have HPP:=Lib.hid hpp
   clear hx hl hpp
   have HB:=Lib.hid hb
   have HBI:=Lib.hid hbi
   clear hb hbi
   have b0:=HT.out.mem_cell 2 HB.out 0
   have i0:=HT.out.mem_cell 2 HBI.out 0
   simp only [GE2] at b0 i0
   have k0:=HT.out.cell 0 0 rfl 0
   simp only [shutC,GE3] at k0
   go_enter Tryz.func276,Tryz.ntmps276
   go_wp2_with fail
   have HT:=Lib.hid (HT.out.alloc (k:=w.heap.size) rfl 148 #[.nilFunc,.nilFunc])
   clear k0 b0 i0
   generalize w.alloc _=w1 at HT ⊢
   have b0:=HT.out.mem_cell 2 HB.out 0
   have i0:=HT.out.mem_cell 2 HBI.out 0
   simp only [GE2] at b0 i0
   have k0:=HT.out.cell 0 0 rfl 0
   simp only [shutC,GE3] at k0
   clear b0 i0 k0
   obtain ⟨ι,W,hW0,hend,hin⟩:∃ (ι:Type) (W:ι→World),(∃ i,World.drew w1=W i)∧(∀ i,∃ gx,isCore L x gx∧TG [shutB kb L.fb pv vl al k++(gl++e),gC++gP] w [shutB kb L.fb pv vl al k,gl,e,gx,gP,[cl w.heap.size 148 #[.nilFunc,.nilFunc]]] (W i))∧(∀ w',(∃ gx,isCore L x gx∧TG [shutB kb L.fb pv vl al k++(gl++e),gC++gP] w [shutB kb L.fb pv vl al k,gl,e,gx,gP,[cl w.heap.size 148 #[.nilFunc,.nilFunc]]] w')→∃ i,w'=W i):=⟨{w' // ∃ gx,isCore L x gx∧TG [shutB kb L.fb pv vl al k++(gl++e),gC++gP] w [shutB kb L.fb pv vl al k,gl,e,gx,gP,[cl w.heap.size 148 #[.nilFunc,.nilFunc]]] w'},Subtype.val,⟨⟨_,gC,HX.out,HT.out.drew⟩,rfl⟩,fun i=>i.2,fun w' h=>⟨⟨w',h⟩,rfl⟩⟩
   have hne:Nonempty ι:=hW0.elim fun i _=>⟨i⟩
   have k0:∀ i,(W i).cell? ⟨kb,0,none⟩=some (ptr' L.fb):=fun i=>by obtain ⟨_,_,T⟩:=hend i;exact T.cell 0 0 rfl 0
   have b0:∀ i,(W i).cell? ⟨bk,0,none⟩=some (ptr' kb):=fun i=>by obtain ⟨_,_,T⟩:=hend i;exact T.mem_cell 2 HB.out 0
   have i0:∀ i,(W i).cell? ⟨bi,0,none⟩=some (.int .i64 ix):=fun i=>by obtain ⟨_,_,T⟩:=hend i;exact T.mem_cell 2 HBI.out 0
   have m1:∀ i,Calls Tryz.prog 22 #[ptr' L.fb] (W i) fun e w2=>e=.returned (ptr' L.p.sb)∧∃ j,w2=W j:=fun i=>by
    obtain ⟨_,hg,T⟩:=hend i
    refine (DoesG.use ((coreSlab_r hg).does) T [3] rfl rfl).mono ?_
    rintro e w2 ⟨gs,⟨rfl,rfl⟩,T2⟩
    exact ⟨rfl,hin _ ⟨_,hg,T2⟩⟩
   have m2:∀ i,Calls Tryz.prog 46 #[ptr' L.p.sb,.int .i64 ix] (W i) fun e w2=>e=.returned (.tuple #[.int .u64 wd,.int .i64 (x.slab.werr ix)])∧∃ j,w2=W j:=fun i=>by
    obtain ⟨_,hg,T⟩:=hend i
    refine (DoesG.use (HWD.out _ hg) T [3] rfl rfl).mono ?_
    rintro e w2 ⟨gs,⟨rfl,g3,hg3,rfl⟩,T2⟩
    exact ⟨rfl,hin _ ⟨g3,hg3,T2⟩⟩
   refine wp_region_mix (fun w'=>∃ i,w'=W i) 13 (by kernel_rfl) (by kernel_rfl) hW0 ?_
   simp only [TD4]
   repeat (go_big_quiet_step ((first | (go_at_call 22;with_reducible exact m1 _) | (go_at_call 46;with_reducible exact m2 _))))
   refine wpQuiet_nil ?_
   intro _ hw'
   obtain ⟨iq,hw''⟩:=hw'
   subst hw''
   obtain ⟨g1,hx1,T⟩:=hend iq
   have HT:=Lib.hid T
   generalize W iq=w1 at HT ⊢
   clear T hend hin hW0 hne
   have HX1:=Lib.hid hx1
   clear hx1 k0 b0 i0 m1 m2
   have k10:=HT.out.cell 0 0 rfl 10
   have fk10:=HT.out.free 0 0 rfl 10
   simp only [shutC,GE3] at k10
   go_wp2_with fail
   refine ⟨rfl,?_⟩
   have HT:=Lib.hid ((HT.out.set 0 0 rfl 10 (.int .u64 wd)).eq (H':=[shutB kb L.fb pv vl al { k with saw:=wd },gl,e,g1,gP,[cl w.heap.size 148 #[.nilFunc,.nilFunc]]]) rfl)
   clear k10 fk10
   generalize World.setCell _ _ _=w5 at HT ⊢
   have b0:=HT.out.mem_cell 2 HB.out 0
   have i0:=HT.out.mem_cell 2 HBI.out 0
   simp only [GE2] at b0 i0
   have k10:=HT.out.cell 0 0 rfl 10
   simp only [shutC,GE3] at k10
   have r0:=HT.out.cell 5 0 rfl 0
   have fr0:=HT.out.free 5 0 rfl 0
   have r1:=HT.out.cell 5 0 rfl 1
   have fr1:=HT.out.free 5 0 rfl 1
   simp only [GE4] at r0 r1
   go_wp2_with (go_at_call 47;refine (state_calls _ _ HWB.out.1 HWB.out.2.1).mono ?_;rw [← HST.out];rintro en w' ⟨rfl,rfl⟩)
   exact bodyPost_ret (v:=.agg #[.nilFunc,.func (.func 277) #[] #[ptr' bk,ptr' bi]]) (by simp [results,Tryz.results276,go_sem,r0,r1]) rfl ⟨_,⟨e,leE.refl _,_,_,[],_,_,rfl,⟨rfl,rfl,bk,bi,rfl,HB.out,HBI.out⟩,⟨vl,al,gl,g1,gP,HL.out,HX1.out,HPP.out,rfl,rfl⟩,rfl⟩,(((HT.out.set 5 0 rfl 0 _).set 5 0 rfl 1 _).pick [0,1,2,3,4] rfl).sum⟩
  ·obtain ⟨vl,al,gl,gC,gP,hl,hx,hpp,rfl,rfl⟩:=hz
   intro w hw
   have T0:=TG.refl hw
   have HT:=Lib.hid T0
   clear hw T0
   have HT:=Lib.hid (HT.out.sum (H':=[shutB kb L.fb pv vl al k,gl,e,gC,gP]))
   have HX:=Lib.hid hx
   have HL:=Lib.hid hl
   have HPP:=Lib.hid hpp
   clear hx hl hpp
   have HB:=Lib.hid hb
   have HBI:=Lib.hid hbi
   clear hb hbi
   have b0:=HT.out.mem_cell 2 HB.out 0
   have i0:=HT.out.mem_cell 2 HBI.out 0
   simp only [GE2] at b0 i0
   have k0:=HT.out.cell 0 0 rfl 0
   simp only [shutC,GE3] at k0
   go_enter Tryz.func276,Tryz.ntmps276
   go_wp2_with fail
   have HT:=Lib.hid (HT.out.alloc (k:=w.heap.size) rfl 148 #[.nilFunc,.nilFunc])
   clear k0 b0 i0
   generalize w.alloc _=w1 at HT ⊢
   have b0:=HT.out.mem_cell 2 HB.out 0
   have i0:=HT.out.mem_cell 2 HBI.out 0
   simp only [GE2] at b0 i0
   have k0:=HT.out.cell 0 0 rfl 0
   simp only [shutC,GE3] at k0
   clear b0 i0 k0
   obtain ⟨ι,W,hW0,hend,hin⟩:∃ (ι:Type) (W:ι→World),(∃ i,World.drew w1=W i)∧(∀ i,∃ gx,isCore L x gx∧TG [shutB kb L.fb pv vl al k++(gl++e),gC++gP] w [shutB kb L.fb pv vl al k,gl,e,gx,gP,[cl w.heap.size 148 #[.nilFunc,.nilFunc]]] (W i))∧(∀ w',(∃ gx,isCore L x gx∧TG [shutB kb L.fb pv vl al k++(gl++e),gC++gP] w [shutB kb L.fb pv vl al k,gl,e,gx,gP,[cl w.heap.size 148 #[.nilFunc,.nilFunc]]] w')→∃ i,w'=W i):=⟨{w' // ∃ gx,isCore L x gx∧TG [shutB kb L.fb pv vl al k++(gl++e),gC++gP] w [shutB kb L.fb pv vl al k,gl,e,gx,gP,[cl w.heap.size 148 #[.nilFunc,.nilFunc]]] w'},Subtype.val,⟨⟨_,gC,HX.out,HT.out.drew⟩,rfl⟩,fun i=>i.2,fun w' h=>⟨⟨w',h⟩,rfl⟩⟩
   have hne:Nonempty ι:=hW0.elim fun i _=>⟨i⟩
   have k0:∀ i,(W i).cell? ⟨kb,0,none⟩=some (ptr' L.fb):=fun i=>by obtain ⟨_,_,T⟩:=hend i;exact T.cell 0 0 rfl 0
   have b0:∀ i,(W i).cell? ⟨bk,0,none⟩=some (ptr' kb):=fun i=>by obtain ⟨_,_,T⟩:=hend i;exact T.mem_cell 2 HB.out 0
   have i0:∀ i,(W i).cell? ⟨bi,0,none⟩=some (.int .i64 ix):=fun i=>by obtain ⟨_,_,T⟩:=hend i;exact T.mem_cell 2 HBI.out 0
   have m1:∀ i,Calls Tryz.prog 22 #[ptr' L.fb] (W i) fun e w2=>e=.returned (ptr' L.p.sb)∧∃ j,w2=W j:=fun i=>by
    obtain ⟨_,hg,T⟩:=hend i
    refine (DoesG.use ((coreSlab_r hg).does) T [3] rfl rfl).mono ?_
    rintro e w2 ⟨gs,⟨rfl,rfl⟩,T2⟩
    exact ⟨rfl,hin _ ⟨_,hg,T2⟩⟩
   have m2:∀ i,Calls Tryz.prog 46 #[ptr' L.p.sb,.int .i64 ix] (W i) fun e w2=>e=.returned (.tuple #[.int .u64 wd,.int .i64 (x.slab.werr ix)])∧∃ j,w2=W j:=fun i=>by
    obtain ⟨_,hg,T⟩:=hend i
    refine (DoesG.use (HWD.out _ hg) T [3] rfl rfl).mono ?_
    rintro e w2 ⟨gs,⟨rfl,g3,hg3,rfl⟩,T2⟩
    exact ⟨rfl,hin _ ⟨g3,hg3,T2⟩⟩
   refine wp_region_mix (fun w'=>∃ i,w'=W i) 13 (by kernel_rfl) (by kernel_rfl) hW0 ?_
   simp only [TD4]
   repeat (go_big_quiet_step ((first | (go_at_call 22;with_reducible exact m1 _) | (go_at_call 46;with_reducible exact m2 _))))
   refine wpQuiet_nil ?_
   intro _ hw'
   obtain ⟨iq,hw''⟩:=hw'
   subst hw''
   obtain ⟨g1,hx1,T⟩:=hend iq
   have HT:=Lib.hid T
   generalize W iq=w1 at HT ⊢
   clear T hend hin hW0 hne
   have HX1:=Lib.hid hx1
   clear hx1 k0 b0 i0 m1 m2
   have k10:=HT.out.cell 0 0 rfl 10
   have fk10:=HT.out.free 0 0 rfl 10
   simp only [shutC,GE3] at k10
   go_wp2_with fail
   refine ⟨rfl,?_⟩
   have HT:=Lib.hid ((HT.out.set 0 0 rfl 10 (.int .u64 wd)).eq (H':=[shutB kb L.fb pv vl al { k with saw:=wd },gl,e,g1,gP,[cl w.heap.size 148 #[.nilFunc,.nilFunc]]]) rfl)
   clear k10 fk10
   generalize World.setCell _ _ _=w5 at HT ⊢
   have b0:=HT.out.mem_cell 2 HB.out 0
   have i0:=HT.out.mem_cell 2 HBI.out 0
   simp only [GE2] at b0 i0
   have k10:=HT.out.cell 0 0 rfl 10
   simp only [shutC,GE3] at k10
   have r0:=HT.out.cell 5 0 rfl 0
   have fr0:=HT.out.free 5 0 rfl 0
   have r1:=HT.out.cell 5 0 rfl 1
   have fr1:=HT.out.free 5 0 rfl 1
   simp only [GE4] at r0 r1
   go_wp2_with (go_at_call 47;refine (state_calls _ _ HWB.out.1 HWB.out.2.1).mono ?_;rw [← HST.out];rintro en w' ⟨rfl,rfl⟩)
   exact bodyPost_ret (v:=.agg #[.nilFunc,.func (.func 277) #[] #[ptr' bk,ptr' bi]]) (by simp [results,Tryz.results276,go_sem,r0,r1]) rfl ⟨_,⟨e,leE.refl _,_,_,[],_,_,rfl,⟨rfl,rfl,bk,bi,rfl,HB.out,HBI.out⟩,⟨vl,al,gl,g1,gP,HL.out,HX1.out,HPP.out,rfl,rfl⟩,rfl⟩,(((HT.out.set 5 0 rfl 0 _).set 5 0 rfl 1 _).pick [0,1,2,3,4] rfl).sum⟩
 ·rw [if_neg h23]
  dsimp only
  have hb2:(st == 2)=false:=beq_eq_false_iff_ne.2 (fun h=>h23 (.inl h))
  have hb3:(st == 3)=false:=beq_eq_false_iff_ne.2 (fun h=>h23 (.inr h))
  clear h23
  obtain ⟨vl,al,gl,gC,gP,hl,hx,hpp,rfl,rfl⟩:=hz
  intro w hw
  have T0:=TG.refl hw
  have HT:=Lib.hid T0
  clear hw T0
  have HT:=Lib.hid (HT.out.sum (H':=[shutB kb L.fb pv vl al k,gl,e,gC,gP]))
  have HX:=Lib.hid hx
  have HL:=Lib.hid hl
  have HPP:=Lib.hid hpp
  clear hx hl hpp
  have HB:=Lib.hid hb
  have HBI:=Lib.hid hbi
  clear hb hbi
  have b0:=HT.out.mem_cell 2 HB.out 0
  have i0:=HT.out.mem_cell 2 HBI.out 0
  simp only [GE2] at b0 i0
  have k0:=HT.out.cell 0 0 rfl 0
  simp only [shutC,GE3] at k0
  go_enter Tryz.func276,Tryz.ntmps276
  go_wp2_with fail
  have HT:=Lib.hid (HT.out.alloc (k:=w.heap.size) rfl 148 #[.nilFunc,.nilFunc])
  clear k0 b0 i0
  generalize w.alloc _=w1 at HT ⊢
  have b0:=HT.out.mem_cell 2 HB.out 0
  have i0:=HT.out.mem_cell 2 HBI.out 0
  simp only [GE2] at b0 i0
  have k0:=HT.out.cell 0 0 rfl 0
  simp only [shutC,GE3] at k0
  clear b0 i0 k0
  obtain ⟨ι,W,hW0,hend,hin⟩:∃ (ι:Type) (W:ι→World),(∃ i,World.drew w1=W i)∧(∀ i,∃ gx,isCore L x gx∧TG [shutB kb L.fb pv vl al k++(gl++e),gC++gP] w [shutB kb L.fb pv vl al k,gl,e,gx,gP,[cl w.heap.size 148 #[.nilFunc,.nilFunc]]] (W i))∧(∀ w',(∃ gx,isCore L x gx∧TG [shutB kb L.fb pv vl al k++(gl++e),gC++gP] w [shutB kb L.fb pv vl al k,gl,e,gx,gP,[cl w.heap.size 148 #[.nilFunc,.nilFunc]]] w')→∃ i,w'=W i):=⟨{w' // ∃ gx,isCore L x gx∧TG [shutB kb L.fb pv vl al k++(gl++e),gC++gP] w [shutB kb L.fb pv vl al k,gl,e,gx,gP,[cl w.heap.size 148 #[.nilFunc,.nilFunc]]] w'},Subtype.val,⟨⟨_,gC,HX.out,HT.out.drew⟩,rfl⟩,fun i=>i.2,fun w' h=>⟨⟨w',h⟩,rfl⟩⟩
  have hne:Nonempty ι:=hW0.elim fun i _=>⟨i⟩
  have k0:∀ i,(W i).cell? ⟨kb,0,none⟩=some (ptr' L.fb):=fun i=>by obtain ⟨_,_,T⟩:=hend i;exact T.cell 0 0 rfl 0
  have b0:∀ i,(W i).cell? ⟨bk,0,none⟩=some (ptr' kb):=fun i=>by obtain ⟨_,_,T⟩:=hend i;exact T.mem_cell 2 HB.out 0
  have i0:∀ i,(W i).cell? ⟨bi,0,none⟩=some (.int .i64 ix):=fun i=>by obtain ⟨_,_,T⟩:=hend i;exact T.mem_cell 2 HBI.out 0
  have m1:∀ i,Calls Tryz.prog 22 #[ptr' L.fb] (W i) fun e w2=>e=.returned (ptr' L.p.sb)∧∃ j,w2=W j:=fun i=>by
   obtain ⟨_,hg,T⟩:=hend i
   refine (DoesG.use ((coreSlab_r hg).does) T [3] rfl rfl).mono ?_
   rintro e w2 ⟨gs,⟨rfl,rfl⟩,T2⟩
   exact ⟨rfl,hin _ ⟨_,hg,T2⟩⟩
  have m2:∀ i,Calls Tryz.prog 46 #[ptr' L.p.sb,.int .i64 ix] (W i) fun e w2=>e=.returned (.tuple #[.int .u64 wd,.int .i64 (x.slab.werr ix)])∧∃ j,w2=W j:=fun i=>by
   obtain ⟨_,hg,T⟩:=hend i
   refine (DoesG.use (HWD.out _ hg) T [3] rfl rfl).mono ?_
   rintro e w2 ⟨gs,⟨rfl,g3,hg3,rfl⟩,T2⟩
   exact ⟨rfl,hin _ ⟨g3,hg3,T2⟩⟩
  refine wp_region_mix (fun w'=>∃ i,w'=W i) 13 (by kernel_rfl) (by kernel_rfl) hW0 ?_
  simp only [TD4]
  repeat (go_big_quiet_step ((first | (go_at_call 22;with_reducible exact m1 _) | (go_at_call 46;with_reducible exact m2 _))))
  refine wpQuiet_nil ?_
  intro _ hw'
  obtain ⟨iq,hw''⟩:=hw'
  subst hw''
  obtain ⟨g1,hx1,T⟩:=hend iq
  have HT:=Lib.hid T
  generalize W iq=w1 at HT ⊢
  clear T hend hin hW0 hne
  have HX1:=Lib.hid hx1
  clear hx1 k0 b0 i0 m1 m2
  have k10:=HT.out.cell 0 0 rfl 10
  have fk10:=HT.out.free 0 0 rfl 10
  simp only [shutC,GE3] at k10
  go_wp2_with fail
  refine ⟨rfl,?_⟩
  have HT:=Lib.hid ((HT.out.set 0 0 rfl 10 (.int .u64 wd)).eq (H':=[shutB kb L.fb pv vl al { k with saw:=wd },gl,e,g1,gP,[cl w.heap.size 148 #[.nilFunc,.nilFunc]]]) rfl)
  clear k10 fk10
  generalize World.setCell _ _ _=w5 at HT ⊢
  have b0:=HT.out.mem_cell 2 HB.out 0
  have i0:=HT.out.mem_cell 2 HBI.out 0
  simp only [GE2] at b0 i0
  have k10:=HT.out.cell 0 0 rfl 10
  simp only [shutC,GE3] at k10
  have r0:=HT.out.cell 5 0 rfl 0
  have fr0:=HT.out.free 5 0 rfl 0
  have r1:=HT.out.cell 5 0 rfl 1
  have fr1:=HT.out.free 5 0 rfl 1
  simp only [GE4] at r0 r1
  go_wp2_with (go_at_call 47;refine (state_calls _ _ HWB.out.1 HWB.out.2.1).mono ?_;rw [← HST.out];rintro en w' ⟨rfl,rfl⟩)
  exact bodyPost_ret (v:=.agg #[.nilFunc,.nilFunc]) (by simp [results,Tryz.results276,go_sem,r0,r1]) rfl ⟨_,⟨e,leE.refl _,_,_,[],_,_,rfl,⟨rfl,rfl,rfl⟩,⟨vl,al,gl,g1,gP,HL.out,HX1.out,HPP.out,rfl,rfl⟩,rfl⟩,(((HT.out.set 5 0 rfl 0 _).set 5 0 rfl 1 _).pick [0,1,2,3,4] rfl).sum⟩
end
end
section
open Go.RowKit Go.Shelf
section
variable {L:Lay} {x:CoreS} {p:PipeS} {e gK gF:List Blk} {kb:Nat} {pv:Value} {k:ShutS}
set_option maxRecDepth 100000 in
theorem aEndsS (hz:repS L kb pv e ⟨k,x,p⟩ gK gF) (hp:preAS .ends1 ⟨k,x,p⟩) (bk:Nat) (hb:cl bk 251 #[ptr' kb]∈e):DoesG Tryz.prog 246 #[ptr' bk] [gK,gF] (ARS L kb pv e (runAS .ends1 ⟨k,x,p⟩)):=by
 have HLN:=Lib.hid hp.core.tr
 simp only at HLN
 clear hp
 unfold ARS
 dsimp only [runAS,ZS.note]
 obtain ⟨vl,al,gl,gC,gP,hl,hx,hpp,rfl,rfl⟩:=hz
 intro w hw
 have T0:=TG.refl hw
 have HT:=Lib.hid T0
 clear hw T0
 have HT:=Lib.hid (HT.out.sum (H':=[shutB kb L.fb pv vl al k,gl,e,gC,gP]))
 have HX:=Lib.hid hx
 have HL:=Lib.hid hl
 have HPP:=Lib.hid hpp
 clear hx hl hpp
 have b0:=HT.out.mem_cell 2 hb 0
 simp only [GE2] at b0
 have HB:=Lib.hid hb
 clear hb
 have k3:=HT.out.cell 0 0 rfl 3
 simp only [shutC,GE3] at k3
 go_enter Tryz.func246,Tryz.ntmps246
 go_wp2_with fail
 refine wp_region_mix1 7 (by kernel_rfl) (by kernel_rfl) ?_
 simp only [TD4]
 repeat (go_big_quiet_step ((fail)))
 refine wpQuiet_nil ?_
 intro _ hw'
 obtain ⟨nq,hw''⟩:=hw'
 subst hw''
 have HT:=Lib.hid (HT.out.drewN nq)
 go_wp2_with fail
 refine (DoesG.use (shutNote HX.out { ev0 with kind:=2,err:=k.err } HLN.out) (HT.out) [0,3] rfl rfl).mono ?_
 rintro e w1 ⟨gs,⟨rfl,g2,hx2,rfl⟩,Ta⟩
 simp only [PU] at Ta
 have HX:=Lib.hid hx2
 clear hx2 k3 b0
 have HT:=Lib.hid Ta
 clear Ta
 go_wp2_with fail
 refine ⟨rfl,?_⟩
 go_wp2
 exact bodyPost_end (results_none rfl _ _ _) rfl ⟨_,⟨e,leE.refl _,_,_,rfl,⟨vl,al,gl,g2,gP,HL.out,HX.out,HPP.out,rfl,rfl⟩,rfl⟩,(HT.out.pick [0,1,2,3,4] rfl).sum⟩
set_option maxRecDepth 100000 in
theorem aPshut (hz:repS L kb pv e ⟨k,x,p⟩ gK gF) (hp:preAS .pshut ⟨k,x,p⟩) (bk:Nat) (hb:cl bk 251 #[ptr' kb]∈e):DoesG Tryz.prog 247 #[ptr' bk] [gK,gF] (ARS L kb pv e (runAS .pshut ⟨k,x,p⟩)):=by
 clear hp
 unfold ARS
 dsimp only [runAS]
 obtain ⟨vl,al,gl,gC,gP,hl,hx,hpp,rfl,rfl⟩:=hz
 intro w hw
 have T0:=TG.refl hw
 have HT:=Lib.hid T0
 clear hw T0
 have HT:=Lib.hid (HT.out.sum (H':=[shutB kb L.fb pv vl al k,gl,e,gC,gP]))
 have HX:=Lib.hid hx
 have HL:=Lib.hid hl
 have HPP:=Lib.hid hpp
 clear hx hl hpp
 have b0:=HT.out.mem_cell 2 hb 0
 simp only [GE2] at b0
 have HB:=Lib.hid hb
 clear hb
 have k0:=HT.out.cell 0 0 rfl 0
 simp only [shutC,GE3] at k0
 go_enter Tryz.func247,Tryz.ntmps247
 go_wp2_with fail
 refine (ReadsG.use (corePipe_r HX.out) (HT.out) [3] rfl rfl).mono ?_
 rintro e w1 ⟨rfl,mq,rfl⟩
 have HT:=Lib.hid (HT.out.drewN mq)
 generalize World.drewN _ _=wq at HT ⊢
 go_wp2_with fail
 refine (DoesG.use (pipeShut_g HPP.out) (HT.out) [4] rfl rfl).mono ?_
 rintro e w1 ⟨gs,⟨rfl,g2,hp2,rfl⟩,Ta⟩
 simp only [PU] at Ta
 have HPP:=Lib.hid hp2
 clear hp2 k0 b0
 have HT:=Lib.hid Ta
 clear Ta
 go_wp2
 exact bodyPost_end (results_none rfl _ _ _) rfl ⟨_,⟨e,leE.refl _,_,_,rfl,⟨vl,al,gl,gC,g2,HL.out,HX.out,HPP.out,rfl,rfl⟩,rfl⟩,(HT.out.pick [0,1,2,3,4] rfl).sum⟩
set_option maxRecDepth 100000 in
theorem aDropS (hz:repS L kb pv e ⟨k,x,p⟩ gK gF) (hp:preAS .drop ⟨k,x,p⟩) (bk:Nat) (hb:cl bk 251 #[ptr' kb]∈e):DoesG Tryz.prog 296 #[ptr' bk] [gK,gF] (ARS L kb pv e (runAS .drop ⟨k,x,p⟩)):=by
 have HC:=Lib.hid (And.intro hp.core.slab.c0 (show x.slab.count≤64 by have:=hp.core.slab.c1;have:=hp.core.slab.n1;simp only at *;omega))
 simp only at HC
 clear hp
 unfold ARS
 dsimp only [runAS]
 obtain ⟨vl,al,gl,gC,gP,hl,hx,hpp,rfl,rfl⟩:=hz
 intro w hw
 have T0:=TG.refl hw
 have HT:=Lib.hid T0
 clear hw T0
 have HT:=Lib.hid (HT.out.sum (H':=[shutB kb L.fb pv vl al k,gl,e,gC,gP]))
 have HX:=Lib.hid hx
 have HL:=Lib.hid hl
 have HPP:=Lib.hid hpp
 clear hx hl hpp
 have b0:=HT.out.mem_cell 2 hb 0
 simp only [GE2] at b0
 have HB:=Lib.hid hb
 clear hb
 have k0:=HT.out.cell 0 0 rfl 0
 simp only [shutC,GE3] at k0
 go_enter Tryz.func296,Tryz.ntmps296
 go_wp2_with fail
 refine (ReadsG.use (coreSlab_r HX.out) (HT.out) [3] rfl rfl).mono ?_
 rintro e w1 ⟨rfl,mq,rfl⟩
 have HT:=Lib.hid (HT.out.drewN mq)
 generalize World.drewN _ _=wq at HT ⊢
 go_wp2_with fail
 refine (DoesG.use (coreDrop HX.out HC.out.1 HC.out.2) (HT.out) [3] rfl rfl).mono ?_
 rintro e w1 ⟨gs,⟨rfl,g2,hx2,rfl⟩,Ta⟩
 simp only [PU] at Ta
 have HX:=Lib.hid hx2
 clear hx2 k0 b0
 have HT:=Lib.hid Ta
 clear Ta
 go_wp2
 exact bodyPost_end (results_none rfl _ _ _) rfl ⟨_,⟨e,leE.refl _,_,_,rfl,⟨vl,al,gl,g2,gP,HL.out,HX.out,HPP.out,rfl,rfl⟩,rfl⟩,(HT.out.pick [0,1,2,3,4] rfl).sum⟩
set_option maxRecDepth 100000 in
theorem aReleaseS (i:Int) (hz:repS L kb pv e ⟨k,x,p⟩ gK gF) (hp:preAS (.release i) ⟨k,x,p⟩) (bk bi:Nat) (hb:cl bk 251 #[ptr' kb]∈e) (hbi:cl bi 3 #[.int .i64 i]∈e):DoesG Tryz.prog 295 #[ptr' bk,ptr' bi] [gK,gF] (ARS L kb pv e (runAS (.release i) ⟨k,x,p⟩)):=by
 have hok:=hp.core
 simp only at hok
 obtain ⟨w0,w1,w2⟩:=word_bd hok.slab i
 unfold ARS
 dsimp only [runAS]
 have HY:=Lib.hid (show ∀ g',isCore L x g'→_ from fun g' hx'=>coreTry (g:=g') hx' hok.slab.n1 i (x.slab.word i) 10 w0 w1)
 have HWD:=Lib.hid (show ∀ g',isCore L x g'→_ from fun g' hx'=>coreWord (g:=g') hx' hok.slab.n1 i)
 clear w0 w1 w2 hok hp
 obtain ⟨vl,al,gl,gC,gP,hl,hx,hpp,rfl,rfl⟩:=hz
 intro w hw
 have T0:=TG.refl hw
 have HT:=Lib.hid T0
 clear hw T0
 have HT:=Lib.hid (HT.out.sum (H':=[shutB kb L.fb pv vl al k,gl,e,gC,gP]))
 have HX:=Lib.hid hx
 have HL:=Lib.hid hl
 have HPP:=Lib.hid hpp
 clear hx hl hpp
 have b0:=HT.out.mem_cell 2 hb 0
 simp only [GE2] at b0
 have HB:=Lib.hid hb
 clear hb
 have i0:=HT.out.mem_cell 2 hbi 0
 simp only [GE2] at i0
 have HBI:=Lib.hid hbi
 clear hbi
 have k0:=HT.out.cell 0 0 rfl 0
 simp only [shutC,GE3] at k0
 go_enter Tryz.func295,Tryz.ntmps295
 go_wp2_with fail
 refine wp_region_mix1 6 (by kernel_rfl) (by kernel_rfl) ?_
 simp only [TD4]
 repeat (go_big_quiet_step ((first | (go_at_call 22;with_reducible exact ReadsG.quiet (coreSlab_r HX.out) HT.out _ [3] rfl rfl))))
 refine wpQuiet_nil ?_
 intro _ hw'
 obtain ⟨nq,hw''⟩:=hw'
 subst hw''
 have HT:=Lib.hid (HT.out.drewN nq)
 go_wp2_with fail
 refine (DoesG.use (HWD.out _ HX.out) (HT.out) [3] rfl rfl).mono ?_
 rintro e w1 ⟨gs,⟨rfl,g1,hx1,rfl⟩,Ta⟩
 simp only [PU] at Ta
 have HX:=Lib.hid hx1
 clear hx1 k0 b0 i0
 have HT:=Lib.hid Ta
 clear Ta
 go_wp2_with fail
 refine ⟨rfl,?_⟩
 have hb:=HB.out
 have hbi:=HBI.out
 have b0:=HT.out.mem_cell 2 hb 0
 simp only [GE2] at b0
 have HB:=Lib.hid hb
 clear hb
 have i0:=HT.out.mem_cell 2 hbi 0
 simp only [GE2] at i0
 have HBI:=Lib.hid hbi
 clear hbi
 have k0:=HT.out.cell 0 0 rfl 0
 simp only [shutC,GE3] at k0
 go_wp2_with fail
 refine wp_region_mix1 7 (by kernel_rfl) (by kernel_rfl) ?_
 simp only [TD4]
 repeat (go_big_quiet_step ((first | (go_at_call 22;with_reducible exact ReadsG.quiet (coreSlab_r HX.out) HT.out _ [3] rfl rfl))))
 refine wpQuiet_nil ?_
 intro _ hw'
 obtain ⟨nq,hw''⟩:=hw'
 subst hw''
 have HT:=Lib.hid (HT.out.drewN nq)
 go_wp2_with fail
 refine (DoesG.use (HY.out _ HX.out) (HT.out) [3] rfl rfl).mono ?_
 rintro e w1 ⟨gs,⟨rfl,g2,hx2,rfl⟩,Ta⟩
 simp only [PU] at Ta
 have HX2:=Lib.hid hx2
 clear hx2 k0 b0 i0
 have HT:=Lib.hid Ta
 clear Ta
 go_wp2_with fail
 refine ⟨rfl,?_⟩
 go_wp2
 exact bodyPost_end (results_none rfl _ _ _) rfl ⟨_,⟨e,leE.refl _,_,_,rfl,⟨vl,al,gl,g2,gP,HL.out,HX2.out,HPP.out,rfl,rfl⟩,rfl⟩,(HT.out.pick [0,1,2,3,4] rfl).sum⟩
def YRS (L:Lay) (kb:Nat) (pv:Value) (e:List Blk) (v:Bool) (z:ZS) (en:Ending) (gs:GH):Prop:=∃ gK' gF',en=.returned (.bool v)∧repS L kb pv e z gK' gF'∧gs=[gK',gF']
set_option maxRecDepth 100000 in
theorem yInside (hz:repS L kb pv e ⟨k,x,p⟩ gK gF) (bk:Nat) (hb:cl bk 251 #[ptr' kb]∈e):DoesG Tryz.prog 222 #[ptr' bk] [gK,gF] (YRS L kb pv e (mayS .inside ⟨k,x,p⟩) ⟨k,x,p⟩):=by
 unfold YRS
 dsimp only [mayS]
 obtain ⟨vl,al,gl,gC,gP,hl,hx,hpp,rfl,rfl⟩:=hz
 intro w hw
 have T0:=TG.refl hw
 have HT:=Lib.hid T0
 clear hw T0
 have HT:=Lib.hid (HT.out.sum (H':=[shutB kb L.fb pv vl al k,gl,e,gC,gP]))
 have HX:=Lib.hid hx
 have HL:=Lib.hid hl
 have HPP:=Lib.hid hpp
 clear hx hl hpp
 have b0:=HT.out.mem_cell 2 hb 0
 simp only [GE2] at b0
 have HB:=Lib.hid hb
 clear hb
 have k0:=HT.out.cell 0 0 rfl 0
 simp only [shutC,GE3] at k0
 go_enter Tryz.func222,Tryz.ntmps222
 go_wp2_with fail
 refine (DoesG.use (coreInside HX.out) (HT.out) [3] rfl rfl).mono ?_
 rintro e w1 ⟨gs,⟨rfl,g2,hx2,rfl⟩,Ta⟩
 simp only [PU] at Ta
 have HX:=Lib.hid hx2
 clear hx2 k0 b0
 have HT:=Lib.hid Ta
 clear Ta
 go_wp2
 go_ret
 exact ⟨_,⟨_,_,rfl,⟨vl,al,gl,g2,gP,HL.out,HX.out,HPP.out,rfl,rfl⟩,rfl⟩,(HT.out.pick [0,1,2,3,4] rfl).sum⟩
set_option maxRecDepth 100000 in
theorem yIdle (hz:repS L kb pv e ⟨k,x,p⟩ gK gF) (bk:Nat) (hb:cl bk 251 #[ptr' kb]∈e):DoesG Tryz.prog 273 #[ptr' bk] [gK,gF] (YRS L kb pv e (mayS .idle ⟨k,x,p⟩) ⟨k,x,p⟩):=by
 unfold YRS
 dsimp only [mayS]
 obtain ⟨vl,al,gl,gC,gP,hl,hx,hpp,rfl,rfl⟩:=hz
 intro w hw
 have T0:=TG.refl hw
 have HT:=Lib.hid T0
 clear hw T0
 have HT:=Lib.hid (HT.out.sum (H':=[shutB kb L.fb pv vl al k,gl,e,gC,gP]))
 have HX:=Lib.hid hx
 have HL:=Lib.hid hl
 have HPP:=Lib.hid hpp
 clear hx hl hpp
 have b0:=HT.out.mem_cell 2 hb 0
 simp only [GE2] at b0
 have HB:=Lib.hid hb
 clear hb
 have k0:=HT.out.cell 0 0 rfl 0
 simp only [shutC,GE3] at k0
 have hcl:=pipeClosed_r HPP.out
 cases hq:(p.shut && decide (p.ch=[])) with
 | false =>
   rw [hq] at hcl
   have HCL:=Lib.hid hcl
   clear hcl hq
   go_enter Tryz.func273,Tryz.ntmps273
   go_wp2_with fail
   refine (ReadsG.use (corePipe_r HX.out) (HT.out) [3] rfl rfl).mono ?_
   rintro e w1 ⟨rfl,mq,rfl⟩
   have HT:=Lib.hid (HT.out.drewN mq)
   generalize World.drewN _ _=wq at HT ⊢
   go_wp2_with fail
   refine (ReadsG.use (HCL.out) (HT.out) [4] rfl rfl).mono ?_
   rintro e w1 ⟨rfl,mq,rfl⟩
   have HT:=Lib.hid (HT.out.drewN mq)
   generalize World.drewN _ _=wq at HT ⊢
   go_wp2
   go_ret
   exact ⟨_,⟨_,_,rfl,⟨vl,al,gl,gC,gP,HL.out,HX.out,HPP.out,rfl,rfl⟩,rfl⟩,(HT.out.pick [0,1,2,3,4] rfl).sum⟩
 | true =>
   rw [hq] at hcl
   have HCL:=Lib.hid hcl
   clear hcl hq
   go_enter Tryz.func273,Tryz.ntmps273
   go_wp2_with fail
   refine (ReadsG.use (corePipe_r HX.out) (HT.out) [3] rfl rfl).mono ?_
   rintro e w1 ⟨rfl,mq,rfl⟩
   have HT:=Lib.hid (HT.out.drewN mq)
   generalize World.drewN _ _=wq at HT ⊢
   go_wp2_with fail
   refine (ReadsG.use (HCL.out) (HT.out) [4] rfl rfl).mono ?_
   rintro e w1 ⟨rfl,mq,rfl⟩
   have HT:=Lib.hid (HT.out.drewN mq)
   generalize World.drewN _ _=wq at HT ⊢
   clear k0 b0
   have hb:=HB.out
   have b0:=HT.out.mem_cell 2 hb 0
   simp only [GE2] at b0
   have HB:=Lib.hid hb
   clear hb
   have k0:=HT.out.cell 0 0 rfl 0
   simp only [shutC,GE3] at k0
   go_wp2_with fail
   refine (DoesG.use (coreBusy HX.out) (HT.out) [3] rfl rfl).mono ?_
   rintro e w1 ⟨gs,⟨rfl,g2,hx2,rfl⟩,Ta⟩
   simp only [PU] at Ta
   have HX:=Lib.hid hx2
   clear hx2 k0 b0
   have HT:=Lib.hid Ta
   clear Ta
   go_wp2
   go_ret
   exact ⟨_,⟨_,_,rfl,⟨vl,al,gl,g2,gP,HL.out,HX.out,HPP.out,rfl,rfl⟩,rfl⟩,(HT.out.pick [0,1,2,3,4] rfl).sum⟩
end
end
section
open Go.RowKit Go.Shelf
theorem genR (n:Int) (h0:0≤n) (h1:n<18446744073709551616):ReadsG Tryz.prog 209 #[.int .u64 n] [] (.int .u64 (genW n)):=fun w hw=>(gen_calls n w h0 h1).mono (by rintro e w' ⟨rfl,rfl⟩;exact ⟨rfl,0,rfl⟩)
theorem use_key3 {G:Prop} {α β:Type} {P A:α→β→World→Prop} (main:(∀ a b w2,A a b w2→P a b w2)→G) (key:∀ a b w2,A a b w2→P a b w2):G:=main key
section
variable {L:Lay} {x:CoreS} {p:PipeS} {e gl gC gK gF:List Blk} {kb:Nat} {pv vl al:Value} {k:ShutS}
def LVS (L:Lay) (kb:Nat) (pv al:Value) (s:SS) (k:ShutS) (x:CoreS) (en:Ending) (gs:GH):Prop :=
 ∃ g' l vl' gl' gC',SRS L kb pv s en g' l∧rowG 36 1 vl' k.left.length (u64s k.left) gl'∧isCore L x gC'∧gs=[g',l,shutB kb L.fb pv vl' al k,gl',gC']
set_option maxRecDepth 100000 in
set_option maxHeartbeats 4000000 in
theorem sLeavesS (hr:rowG 36 1 vl k.left.length (u64s k.left) gl) (hx:isCore L x gC) (hp:ShutOk ⟨k,x,p⟩) (ix:Int) (h0:0≤ix∧ix≤64) :
 DoesG Tryz.prog 278 #[ptr' kb,.int .i64 ix] [shutB kb L.fb pv vl al k,gl,gC] (LVS L kb pv al (runS (.leaves0 ix) ⟨k,x,p⟩).1 (runS (.leaves0 ix) ⟨k,x,p⟩).2.k (runS (.leaves0 ix) ⟨k,x,p⟩).2.x):=by
 obtain ⟨s0,s1,s2⟩:=hp.saw
 simp only at s0 s1 s2
 have hok:=hp.core
 simp only at hok
 have hty:=coreTry hx hok.slab.n1 ix k.saw 6 s0 s1
 obtain ⟨to1,to2⟩:=try_ok hok.slab ix k.saw 6
 obtain ⟨tw0,tw1⟩:=try_word hok.slab ix k.saw 6 s0 s1 s2
 dsimp only [runS,ZS.note]
 have hcap:=hp.cap
 simp only at hcap
 have HN:=Lib.hid (show ∀ g',isCore L { x with slab:=(x.slab.try ix k.saw 6).1 } g'→_ from fun g' hx'=>coreNumber (g:=g') hx' (by simp only;rw [to2];exact hcap) to1 ix)
 have HTR:=Lib.hid (show x.tr.length≤1000000 from hok.tr)
 have HLL:=Lib.hid (show k.left.length≤1000000 from hp.left)
 generalize x.slab.try ix k.saw 6=r at *
 obtain ⟨rs,rw_,re⟩:=r
 simp only at hty to1 to2 tw0 tw1 HN ⊢
 have HTY:=Lib.hid hty
 have HTW:=Lib.hid (And.intro tw0 tw1)
 clear hty hok hp s0 s1 s2 to1 to2 tw0 tw1 hcap
 obtain ⟨av,cap,rfl⟩:=hr.val
 by_cases he:re=0
 ·subst he
  rw [if_neg (by simp)]
  unfold LVS
  dsimp only
  obtain ⟨nu,hnu⟩:∃ nu,nu=numV rs ix:=⟨_,rfl⟩
  rw [← hnu] at HN ⊢
  obtain ⟨nv,ne⟩:=nu
  dsimp only at HN ⊢
  clear hnu
  intro w hw
  have T0:=TG.refl hw
  have HT:=Lib.hid T0
  clear hw T0
  have HX:=Lib.hid hx
  have HR:=Lib.hid hr
  clear hx hr
  go_enter Tryz.func278,Tryz.ntmps278
  go_wp2_with fail
  have HT:=Lib.hid (((HT.out.alloc (k:=w.heap.size) rfl 251 #[ptr' kb]).alloc (k:=w.heap.size+1) (by simp) 3 #[.int .i64 ix]).alloc (k:=w.heap.size+1+1) (by simp) 148 #[.nilFunc,.nilFunc])
  generalize World.alloc (World.alloc (World.alloc w _) _) _=w1 at HT ⊢
  have k0:=HT.out.cell 0 0 rfl 0
  have k10:=HT.out.cell 0 0 rfl 10
  simp only [shutC,GE3] at k0 k10
  have a0:=HT.out.cell 3 0 rfl 0
  simp only [GE4] at a0
  have b0:=HT.out.cell 4 0 rfl 0
  simp only [GE4] at b0
  refine wp_region_mix1 10 (by kernel_rfl) (by kernel_rfl) ?_
  simp only [TD4]
  repeat (go_big_quiet_step ((first | (go_at_call 22;with_reducible exact ReadsG.quiet (coreSlab_r HX.out) HT.out _ [2] rfl rfl))))
  refine wpQuiet_nil ?_
  intro _ hw'
  obtain ⟨nq,hw''⟩:=hw'
  subst hw''
  have HT:=Lib.hid (HT.out.drewN nq)
  go_wp2_with fail
  refine (DoesG.use (HTY.out) (HT.out) [2] rfl rfl).mono ?_
  rintro e w1 ⟨gs,⟨rfl,g1,hx1,rfl⟩,Ta⟩
  simp only [PU] at Ta
  have HX:=Lib.hid hx1
  clear hx1 k0 k10 a0 b0
  have HT:=Lib.hid Ta
  clear Ta
  go_wp2_with fail
  refine ⟨rfl,?_⟩
  have k0:=HT.out.cell 0 0 rfl 0
  simp only [shutC,GE3] at k0
  have a0:=HT.out.cell 3 0 rfl 0
  simp only [GE4] at a0
  have b0:=HT.out.cell 4 0 rfl 0
  simp only [GE4] at b0
  go_wp2_with fail
  refine wp_region_mix1 5 (by kernel_rfl) (by kernel_rfl) ?_
  simp only [TD4]
  repeat (go_big_quiet_step ((fail)))
  refine wpQuiet_nil ?_
  intro _ hw'
  obtain ⟨nq,hw''⟩:=hw'
  subst hw''
  have HT:=Lib.hid (HT.out.drewN nq)
  go_wp2_with fail
  refine (DoesG.use (HN.out _ HX.out) (HT.out) [2] rfl rfl).mono ?_
  rintro e w1 ⟨gs,⟨rfl,g2,hx2,rfl⟩,Ta⟩
  simp only [PU] at Ta
  have HX:=Lib.hid hx2
  clear hx2 k0 a0 b0
  have HT:=Lib.hid Ta
  clear Ta
  go_wp2_with fail
  refine ⟨rfl,?_⟩
  go_wp2_with fail
  have k9:=HT.out.cell 0 0 rfl 9
  have fk9:=HT.out.free 0 0 rfl 9
  simp only [shutC,GE3] at k9
  have a0:=HT.out.cell 3 0 rfl 0
  simp only [GE4] at a0
  have HT:=Lib.hid HT.out.drew
  have hl0:=HT.out.lt 0 0 rfl
  have hl3:=HT.out.lt 3 0 rfl
  simp only [World.drew] at hl0 hl3
  have hll:=HLL.out
  apply use_key3 (α:=Option Addr) (β:=Nat) (A:=fun a1 cap1 w5=>∃ gl1,rowG 36 1 (.slice a1 (k.left.length+1) cap1) (k.left.length+1) (u64s k.left++[.int .u64 nv]) gl1∧TG [shutB kb L.fb pv (.slice av k.left.length cap) al k,gl,gC] w [shutB kb L.fb pv (.slice a1 (k.left.length+1) cap1) al { k with left:=k.left++[nv] },gl1,g2,[cl w.heap.size 251 #[ptr' kb]],[cl (w.heap.size+1) 3 #[.int .i64 ix]],[cl (w.heap.size+1+1) 148 #[.nilFunc,.nilFunc]]] w5)
  case main =>
   intro key
   go_region_law (
    refine step_append_G rfl (.tmp 41) (.tmp 43) 49 rfl 1 8 _ Tryz.underlying49 Tryz.infoU64 rfl (by decide) (HT.out.alloc0 _) 1 rfl rfl HR.out rfl ⟨w1.heap.size,0,none⟩ 1 1 [.int .u64 nv] rfl rfl (news_alloc _ _ _) (by simp [Value.oneCell']) (by unfold maxLen;omega) (by omega) ?_
    intro v w3 gl1 r T
    simp only [List.set_cons_zero,List.set_cons_succ] at T
    obtain ⟨a1,cap1,rfl⟩:=r.val
    have f9:=T.free 0 0 rfl 9
    have c9:=T.cell 0 0 rfl 9
    have a1':=T.cell 3 0 rfl 0
    simp only [shutC,GE3] at c9 a1'
    have T:=Lib.hid T
    have r:=Lib.hid r)
   all_goals
    have T5:=(T.out.set 0 0 rfl 9 (.slice a1 (k.left.length+1) cap1)).eq (H':=[shutB kb L.fb pv (.slice a1 (k.left.length+1) cap1) al { k with left:=k.left++[nv] },gl1,g2,[cl w.heap.size 251 #[ptr' kb]],[cl (w.heap.size+1) 3 #[.int .i64 ix]],[cl (w.heap.size+1+1) 148 #[.nilFunc,.nilFunc]]]) rfl
    generalize World.setCell _ _ _=w5 at T5 ⊢
    exact key a1 cap1 w5 ⟨gl1,r.out,T5⟩
  case key =>
   rintro a1 cap1 w5 ⟨gl1,r,T⟩
   have HT:=Lib.hid T
   have RR:=Lib.hid (show rowG 36 1 (.slice a1 (k.left.length+1) cap1) (k.left++[nv]).length (u64s (k.left++[nv])) gl1 from by simpa [u64s] using r)
   clear r T k9 fk9 a0 hl0 hl3 hll
   have a0:=HT.out.cell 3 0 rfl 0
   simp only [GE4] at a0
   go_wp2_with fail
   refine wp_region_mix1 5 (by kernel_rfl) (by kernel_rfl) ?_
   simp only [TD4]
   repeat (go_big_quiet_step ((first | (go_at_call 209;with_reducible exact ReadsG.quiet (genR rw_ HTW.out.1 HTW.out.2) HT.out _ [] rfl rfl))))
   refine wpQuiet_nil ?_
   intro _ hw'
   obtain ⟨nq,hw''⟩:=hw'
   subst hw''
   have HT:=Lib.hid (HT.out.drewN nq)
   go_wp2_with fail
   refine (DoesG.use (shutNote HX.out { ev0 with kind:=12,id:=nv,gen:=genW rw_ } HTR.out) (HT.out) [0,2] rfl rfl).mono ?_
   rintro e w1 ⟨gs,⟨rfl,g3,hx3,rfl⟩,Ta⟩
   simp only [PU] at Ta
   have HX:=Lib.hid hx3
   clear hx3 a0
   have HT:=Lib.hid Ta
   clear Ta
   go_wp2_with fail
   refine ⟨rfl,?_⟩
   generalize w1=wq at HT ⊢
   go_wp2_with fail
   refine (DoesG.use (Cli.row_1 (b:=wq.heap.size) (o:=0) (D:=#[.func (.func 295) #[] #[ptr' w.heap.size,ptr' (w.heap.size+1)],.func (.func 296) #[] #[ptr' w.heap.size]]) rfl 2 (.inr rfl)) (HT.out.alloc (k:=wq.heap.size) rfl _ _) [6] rfl rfl).mono ?_
   rintro e w1 ⟨gs,⟨bf,bl,bi,rfl,rfl⟩,Ta⟩
   simp only [PU] at Ta
   have HT:=Lib.hid Ta
   clear Ta
   have e0:=HT.out.cell 5 0 rfl 0
   have fe0:=HT.out.free 5 0 rfl 0
   have e1:=HT.out.cell 5 0 rfl 1
   have fe1:=HT.out.free 5 0 rfl 1
   simp only [GE4] at e0 e1
   go_wp2
   exact bodyPost_ret (v:=.agg #[.nilFunc,_]) (by simp [results,Tryz.results278,go_sem,e0,e1]) rfl ⟨_,⟨_,[cl w.heap.size 251 #[ptr' kb],cl (w.heap.size+1) 3 #[.int .i64 ix]],_,gl1,g3,⟨_,_,rfl,fun e he=>⟨rfl,bf,bl,bi,wq.heap.size,.func (.func 295) #[] #[ptr' w.heap.size,ptr' (w.heap.size+1)],.func (.func 296) #[] #[ptr' w.heap.size],[],[],rfl,⟨rfl,w.heap.size,w.heap.size+1,rfl,he _ (by simp),he _ (by simp)⟩,⟨rfl,w.heap.size,rfl,he _ (by simp)⟩,rfl⟩⟩,RR.out,HX.out,rfl⟩,(((HT.out.set 5 0 rfl 0 _).set 5 0 rfl 1 _).pick [7,8,9,6,3,4,0,1,2] rfl).sum⟩
 ·rw [if_pos he]
  have hb:(re != 0)=true:=bne_iff_ne.2 he
  unfold LVS
  dsimp only
  intro w hw
  have T0:=TG.refl hw
  have HT:=Lib.hid T0
  clear hw T0
  have HX:=Lib.hid hx
  have HR:=Lib.hid hr
  clear hx hr
  go_enter Tryz.func278,Tryz.ntmps278
  go_wp2_with fail
  have HT:=Lib.hid (((HT.out.alloc (k:=w.heap.size) rfl 251 #[ptr' kb]).alloc (k:=w.heap.size+1) (by simp) 3 #[.int .i64 ix]).alloc (k:=w.heap.size+1+1) (by simp) 148 #[.nilFunc,.nilFunc])
  generalize World.alloc (World.alloc (World.alloc w _) _) _=w1 at HT ⊢
  have k0:=HT.out.cell 0 0 rfl 0
  have k10:=HT.out.cell 0 0 rfl 10
  simp only [shutC,GE3] at k0 k10
  have a0:=HT.out.cell 3 0 rfl 0
  simp only [GE4] at a0
  have b0:=HT.out.cell 4 0 rfl 0
  simp only [GE4] at b0
  refine wp_region_mix1 10 (by kernel_rfl) (by kernel_rfl) ?_
  simp only [TD4]
  repeat (go_big_quiet_step ((first | (go_at_call 22;with_reducible exact ReadsG.quiet (coreSlab_r HX.out) HT.out _ [2] rfl rfl))))
  refine wpQuiet_nil ?_
  intro _ hw'
  obtain ⟨nq,hw''⟩:=hw'
  subst hw''
  have HT:=Lib.hid (HT.out.drewN nq)
  go_wp2_with fail
  refine (DoesG.use (HTY.out) (HT.out) [2] rfl rfl).mono ?_
  rintro e w1 ⟨gs,⟨rfl,g1,hx1,rfl⟩,Ta⟩
  simp only [PU] at Ta
  have HX:=Lib.hid hx1
  clear hx1 k0 k10 a0 b0
  have HT:=Lib.hid Ta
  clear Ta
  go_wp2_with fail
  refine ⟨rfl,?_⟩
  have a0:=HT.out.cell 3 0 rfl 0
  simp only [GE4] at a0
  have b0:=HT.out.cell 4 0 rfl 0
  simp only [GE4] at b0
  go_wp2_with fail
  refine (DoesG.use (sLooksS L kb pv ix) (HT.out) [] rfl rfl).mono ?_
  rintro e w1 ⟨gs,⟨g2,l2,⟨m2,d2,rfl,hs2⟩,rfl⟩,Ta⟩
  simp only [PU] at Ta
  clear a0 b0
  have HT:=Lib.hid Ta
  clear Ta
  have r0:=HT.out.cell 5 0 rfl 0
  have fr0:=HT.out.free 5 0 rfl 0
  have r1:=HT.out.cell 5 0 rfl 1
  have fr1:=HT.out.free 5 0 rfl 1
  simp only [GE4] at r0 r1
  have hv2:=(cliS_vals L kb pv l2).vals (hs2 l2 (leE.refl _))
  obtain ⟨st1,st2⟩:=Cli.store_fv2 (P:=Tryz.prog) hv2.1 hv2.2 r0 fr0 r1 fr1
  have HS:=Lib.hid hs2
  clear hv2 hs2
  go_wp2
  exact bodyPost_ret (v:=.agg #[_,_]) (by simp [results,Tryz.results278,go_sem,r0,r1]) rfl ⟨_,⟨g2,l2,_,gl,g1,⟨m2,d2,rfl,HS.out⟩,HR.out,HX.out,rfl⟩,((HT.out.set 5 0 rfl 0 _).set 5 0 rfl 1 _).pick [6,7,0,1,2] rfl⟩
end
end
section
open Go.RowKit Go.Shelf
section
variable {L:Lay} {x:CoreS} {p:PipeS} {e gl gC gK gF:List Blk} {kb:Nat} {pv vl al:Value} {k:ShutS}
set_option maxRecDepth 100000 in
theorem mLeaves0 (ix:Int) (hz:repS L kb pv e ⟨k,x,p⟩ gK gF) (hp:preS (.leaves0 ix) ⟨k,x,p⟩) (bk bi:Nat) (hb:cl bk 251 #[ptr' kb]∈e) (hbi:cl bi 3 #[.int .i64 ix]∈e):DoesG Tryz.prog 277 #[ptr' bk,ptr' bi] [gK,gF] (MRS L kb pv e (runS (.leaves0 ix) ⟨k,x,p⟩).1 (runS (.leaves0 ix) ⟨k,x,p⟩).2):=by
 obtain ⟨hok,⟨hi0,hi1⟩,hset⟩:=hp
 simp only at hset
 unfold MRS
 obtain ⟨vl,al,gl,gC,gP,hl,hx,hpp,rfl,rfl⟩:=hz
 have hset2:(runS (.leaves0 ix) ⟨k,x,p⟩).2.k.aset=false:=by
  dsimp only [runS]
  split <;> exact hset
 have hpipe:(runS (.leaves0 ix) ⟨k,x,p⟩).2.p=p:=by
  dsimp only [runS]
  split <;> rfl
 have hal:al=.slice none 0 0:=by have:=hl.2;rw [hset] at this;simpa using this
 subst hal
 have hlv:=sLeavesS (kb:=kb) (pv:=pv) (al:=.slice none 0 0) hl.1 hx hok ix ⟨hi0,hi1⟩
 generalize runS (.leaves0 ix) ⟨k,x,p⟩=R at *
 obtain ⟨s',⟨k',x',p'⟩⟩:=R
 simp only at hset2 hpipe hlv ⊢
 subst hpipe
 intro w hw
 have T0:=TG.refl hw
 have HT:=Lib.hid T0
 clear hw T0
 have HT:=Lib.hid (HT.out.sum (H':=[shutB kb L.fb pv vl (.slice none 0 0) k,gl,e,gC,gP]))
 have HLV:=Lib.hid hlv
 have HPP:=Lib.hid hpp
 have HST:=Lib.hid hset2
 have ltb:=HT.out.mem_lt 2 hb
 have lti:=HT.out.mem_lt 2 hbi
 simp only [] at ltb lti
 have b0:=HT.out.mem_cell 2 hb 0
 have i0:=HT.out.mem_cell 2 hbi 0
 simp only [GE2] at b0 i0
 clear hb hbi hl hx hpp hok hset hset2 hlv
 go_enter Tryz.func277,Tryz.ntmps277
 go_wp2_with fail
 refine (DoesG.use (HLV.out) (HT.out.alloc (k:=w.heap.size) rfl _ _) [0,1,3] rfl rfl).mono ?_
 rintro e w1 ⟨gs,⟨g2,l2,vl2,gl2,gC2,⟨m2,d2,rfl,hs2⟩,hr2,hx2,rfl⟩,Ta⟩
 simp only [PU] at Ta
 clear b0 i0
 have HT:=Lib.hid Ta
 clear Ta
 have r0:=HT.out.cell 5 0 rfl 0
 have fr0:=HT.out.free 5 0 rfl 0
 have r1:=HT.out.cell 5 0 rfl 1
 have fr1:=HT.out.free 5 0 rfl 1
 simp only [GE4] at r0 r1
 have hv2:=(cliS_vals L kb pv l2).vals (hs2 l2 (leE.refl _))
 obtain ⟨st1,st2⟩:=Cli.store_fv2 (P:=Tryz.prog) hv2.1 hv2.2 r0 fr0 r1 fr1
 have HS:=Lib.hid hs2
 have HR2:=Lib.hid hr2
 have HX2:=Lib.hid hx2
 clear hv2 hs2 hr2 hx2
 go_wp2
 exact bodyPost_ret (v:=.agg #[_,_]) (by simp [results,Tryz.results277,go_sem,r0,r1]) rfl ⟨_,⟨e++l2,leE.app _ _,m2,d2,g2,_,_,rfl,HS.out _ (fun b hb=>List.mem_append_right _ hb),⟨vl2,.slice none 0 0,gl2,gC2,gP,⟨HR2.out,by rw [HST.out];rfl⟩,HX2.out,HPP.out,rfl,rfl⟩,rfl⟩,(((HT.out.set 5 0 rfl 0 _).set 5 0 rfl 1 _).pick [0,3,6,2,1,7,4] rfl).sum⟩
set_option maxRecDepth 100000 in
theorem cliS_ok (L:Lay) (kb:Nat) (pv:Value):(cliS L kb pv).Ok where
 refl:=leE.refl
 trans h1 h2:=fun b hb=>h2 b (h1 b hb)
 mm hl h:=VMS.le hl h
 ma hl h:=VAS.le hl h
 v e:=cliS_vals L kb pv e
 m {e f v g gK gF z} hv hz hp:=by
   obtain ⟨k,x,p⟩:=z
   obtain ⟨rfl,hv⟩:=hv
   cases f with
   | shuts=>subst hv;exact ⟨_,_,_,rfl,fun _ _=>rfl,(mShuts hz hp).pre rfl⟩
   | slots0=>obtain ⟨bk,rfl,hb⟩:=hv;exact ⟨_,_,_,rfl,fun _ _=>rfl,(mSlots0 hz hp bk hb).pre rfl⟩
   | slots2 i=>obtain ⟨bk,bi,rfl,hb,hbi⟩:=hv;exact ⟨_,_,_,rfl,fun _ _=>rfl,(mSlots2 i hz hp bk bi hb hbi).pre rfl⟩
   | waits=>subst hv;exact ⟨_,_,_,rfl,fun _ _=>rfl,(mWaits hz).pre rfl⟩
   | looks1 i=>obtain ⟨bk,bi,rfl,hb,hbi⟩:=hv;exact ⟨_,_,_,rfl,fun _ _=>rfl,(mLooks1 i hz hp bk bi hb hbi).pre rfl⟩
   | leaves0 i=>obtain ⟨bk,bi,rfl,hb,hbi⟩:=hv;exact ⟨_,_,_,rfl,fun _ _=>rfl,(mLeaves0 i hz hp bk bi hb hbi).pre rfl⟩
   | waits2=>obtain ⟨bk,rfl,hb⟩:=hv;exact ⟨_,_,_,rfl,fun _ _=>rfl,(mWaits2 hz hp bk hb).pre rfl⟩
 a {e f v g gK gF z} hv hz hp:=by
   obtain ⟨k,x,p⟩:=z
   obtain ⟨rfl,hv⟩:=hv
   cases f with
   | ends1=>obtain ⟨bk,rfl,hb⟩:=hv;exact ⟨_,_,_,rfl,fun _ _=>rfl,(aEndsS hz hp bk hb).pre rfl⟩
   | pshut=>obtain ⟨bk,rfl,hb⟩:=hv;exact ⟨_,_,_,rfl,fun _ _=>rfl,(aPshut hz hp bk hb).pre rfl⟩
   | release i=>obtain ⟨bk,bi,rfl,hb,hbi⟩:=hv;exact ⟨_,_,_,rfl,fun _ _=>rfl,(aReleaseS i hz hp bk bi hb hbi).pre rfl⟩
   | drop=>obtain ⟨bk,rfl,hb⟩:=hv;exact ⟨_,_,_,rfl,fun _ _=>rfl,(aDropS hz hp bk hb).pre rfl⟩
 y {e f v g gK gF z} hv hz hp:=by
   obtain ⟨k,x,p⟩:=z
   obtain ⟨rfl,hv⟩:=hv
   cases f with
   | inside=>obtain ⟨bk,rfl,hb⟩:=hv;exact ⟨_,_,_,rfl,fun _ _=>rfl,((yInside hz bk hb).pre rfl).post (by rintro e gs ⟨gK',gF',h1,h2,rfl⟩;exact ⟨_,⟨gK',gF',h1,h2,rfl⟩,.refl _⟩)⟩
   | idle=>obtain ⟨bk,rfl,hb⟩:=hv;exact ⟨_,_,_,rfl,fun _ _=>rfl,((yIdle hz bk hb).pre rfl).post (by rintro e gs ⟨gK',gF',h1,h2,rfl⟩;exact ⟨_,⟨gK',gF',h1,h2,rfl⟩,.refl _⟩)⟩
end
end
section
open Go.RowKit Go.Shelf
def isSK (L:Lay) (kb:Nat) (pv:Value) (e:List Blk) (k:ShutS) (gK:List Blk):Prop:=∃ vl al gl,isLeft k vl al gl∧gK=shutB kb L.fb pv vl al k++(gl++e)
def isCP (L:Lay) (x:CoreS) (p:PipeS) (gF:List Blk):Prop:=∃ gC gP,isCore L x gC∧isPipe L.p.pb p gP∧gF=gC++gP
theorem repS_iff {L:Lay} {kb:Nat} {pv:Value} {e gK gF:List Blk} {z:ZS}:repS L kb pv e z gK gF↔isSK L kb pv e z.k gK∧isCP L z.x z.p gF :=
 ⟨fun ⟨vl,al,gl,gC,gP,a,b,c,d,f⟩=>⟨⟨vl,al,gl,a,d⟩,⟨gC,gP,b,c,f⟩⟩,fun ⟨⟨vl,al,gl,a,d⟩,⟨gC,gP,b,c,f⟩⟩=>⟨vl,al,gl,gC,gP,a,b,c,d,f⟩⟩
def isClo (L:Lay) (kb:Nat) (s:SS) (n:Int) (k:ShutS) (g:List Blk):Prop :=
 ∃ (pb:Nat) (e:List Blk) (m d:Value) (gst gK:List Blk),(cliS L kb (ptr' pb)).SV e s m d gst∧isSK L kb (ptr' pb) e k gK∧g=Cli.progB pb m d n++(gst++gK)
def stepS (s:SS) (z:ZS):SS × ZS:=St.run runS runAS s z
def preSS (s:SS) (z:ZS):Prop:=St.pre runS runAS preS preAS s z
def mayS' (s:SS) (z:ZS):Bool:=s.may mayS z
theorem preYS:∀ (s:SS) {z:ZS},ShutOk z→St.preY (fun (_:YS) (z:ZS)=>ShutOk z) s z
 | .nil,_,_=>trivial
 | .at none _,_,_=>trivial
 | .at (some y) _,_,h=>h
 | .row1 _,_,_=>trivial
 | .row2 _ _,_,_=>trivial
 | .thn s _,_,h=>preYS s h
section
variable {L:Lay} {x:CoreS} {p:PipeS} {g gF:List Blk} {kb:Nat} {s:SS} {n:Int} {k:ShutS}
set_option maxRecDepth 100000 in
theorem cloStep (hc:isClo L kb s n k g) (hx:isCP L x p gF) (ho:ShutOk ⟨k,x,p⟩) (hm:mayS' s ⟨k,x,p⟩=true) (hp:preSS s ⟨k,x,p⟩) (hb:0≤n∧n≤1000000000) :
 DoesG Tryz.prog 376 #[ptr' kb] [g,gF] fun en gs=>∃ g' gF',en=.returned (.bool true)∧isClo L kb (stepS s ⟨k,x,p⟩).1 (n+1) (stepS s ⟨k,x,p⟩).2.k g'∧isCP L (stepS s ⟨k,x,p⟩).2.x (stepS s ⟨k,x,p⟩).2.p gF'∧gs=[g',gF']:=by
 obtain ⟨pb,e,m,d,gst,gK,hs,hk,rfl⟩:=hc
 have hd:=CliE.prog_step (n:=n) (cliS_ok L kb (ptr' pb)) hs (x:=(⟨k,x,p⟩:ZS)) (repS_iff.2 ⟨hk,hx⟩) (preYS s ho) hp pb hb hm
 obtain ⟨vl,al,gl,hl,rfl⟩:=hk
 intro w hw
 have T0:=TG.refl hw
 have HT:=Lib.hid T0
 clear hw T0
 have T1:=HT.out.sum (H':=[shutB kb L.fb (ptr' pb) vl al k,Cli.progB pb m d n++(gst++(gl++e)),gF])
 have k8:=T1.cell 0 0 rfl 8
 simp only [shutC,GE3] at k8
 have lt:=T1.lt 0 0 rfl
 simp only [] at lt
 have HD:=Lib.hid hd
 have HT:=Lib.hid (HT.out.sum (H':=[Cli.progB pb m d n,gst,shutB kb L.fb (ptr' pb) vl al k++(gl++e),gF]))
 clear hs hl hx ho hm hp hb hd T1
 go_enter Tryz.func376,Tryz.ntmps376
 go_wp2_with fail
 refine (DoesG.use (HD.out) (HT.out) [0,1,2,3] rfl rfl).mono ?_
 rintro e w1 ⟨gs,⟨e',hle,m',d',gst',gK',gF',rfl,hs',hx',rfl⟩,Ta⟩
 simp only [PU] at Ta
 have HS:=Lib.hid hs'
 have HX:=Lib.hid (repS_iff.1 hx')
 clear hs' hx' k8
 have HT:=Lib.hid Ta
 clear Ta
 go_wp2
 go_ret
 exact ⟨_,⟨_,gF',rfl,⟨pb,e',m',d',gst',gK',HS.out,HX.out.1,rfl⟩,HX.out.2,rfl⟩,HT.out.sum⟩
set_option maxRecDepth 100000 in
theorem cloNo (hc:isClo L kb s n k g) (hx:isCP L x p gF) (ho:ShutOk ⟨k,x,p⟩) (hm:mayS' s ⟨k,x,p⟩=false) :
 DoesG Tryz.prog 376 #[ptr' kb] [g,gF] fun en gs=>en=.returned (.bool false)∧∃ g' gF',isClo L kb s n k g'∧isCP L x p gF'∧gs=[g',gF']:=by
 obtain ⟨pb,e,m,d,gst,gK,hs,hk,rfl⟩:=hc
 have hd:=CliE.prog_step_no (n:=n) (cliS_ok L kb (ptr' pb)) hs (x:=(⟨k,x,p⟩:ZS)) (repS_iff.2 ⟨hk,hx⟩) (preYS s ho) pb hm
 obtain ⟨vl,al,gl,hl,rfl⟩:=hk
 intro w hw
 have T0:=TG.refl hw
 have HT:=Lib.hid T0
 clear hw T0
 have T1:=HT.out.sum (H':=[shutB kb L.fb (ptr' pb) vl al k,Cli.progB pb m d n++(gst++(gl++e)),gF])
 have k8:=T1.cell 0 0 rfl 8
 simp only [shutC,GE3] at k8
 have lt:=T1.lt 0 0 rfl
 simp only [] at lt
 have HD:=Lib.hid hd
 have HS:=Lib.hid hs
 have HT:=Lib.hid (HT.out.sum (H':=[Cli.progB pb m d n,gst,shutB kb L.fb (ptr' pb) vl al k++(gl++e),gF]))
 clear hs hl hx ho hm hd T1
 go_enter Tryz.func376,Tryz.ntmps376
 go_wp2_with fail
 refine (DoesG.use (HD.out) (HT.out) [0,1,2,3] rfl rfl).mono ?_
 rintro e w1 ⟨gs,⟨gK',gF',rfl,hx',rfl⟩,Ta⟩
 simp only [PU] at Ta
 have HX:=Lib.hid (repS_iff.1 hx')
 clear hx' k8
 have HT:=Lib.hid Ta
 clear Ta
 go_wp2
 go_ret
 exact ⟨_,⟨rfl,_,gF',⟨pb,e,m,d,gst,gK',HS.out,HX.out.1,rfl⟩,HX.out.2,rfl⟩,HT.out.sum⟩
set_option maxRecDepth 100000 in
theorem cloMay (hc:isClo L kb s n k g) (hx:isCP L x p gF) (ho:ShutOk ⟨k,x,p⟩) :
 DoesG Tryz.prog 375 #[ptr' kb] [g,gF] fun en gs=>en=.returned (.bool (mayS' s ⟨k,x,p⟩))∧∃ g' gF',isClo L kb s n k g'∧isCP L x p gF'∧gs=[g',gF']:=by
 obtain ⟨pb,e,m,d,gst,gK,hs,hk,rfl⟩:=hc
 have hd:=CliE.prog_may (n:=n) (cliS_ok L kb (ptr' pb)) hs (x:=(⟨k,x,p⟩:ZS)) (repS_iff.2 ⟨hk,hx⟩) (preYS s ho) pb
 have hd:DoesG Tryz.prog 101 _ _ fun en gs=>∃ gK' gF',en=.returned (.bool (mayS' s ⟨k,x,p⟩))∧repS L kb (ptr' pb) e ⟨k,x,p⟩ gK' gF'∧_:=hd
 generalize mayS' s ⟨k,x,p⟩=v at *
 obtain ⟨vl,al,gl,hl,rfl⟩:=hk
 intro w hw
 have T0:=TG.refl hw
 have HT:=Lib.hid T0
 clear hw T0
 have T1:=HT.out.sum (H':=[shutB kb L.fb (ptr' pb) vl al k,Cli.progB pb m d n++(gst++(gl++e)),gF])
 have k8:=T1.cell 0 0 rfl 8
 simp only [shutC,GE3] at k8
 have lt:=T1.lt 0 0 rfl
 simp only [] at lt
 have HD:=Lib.hid hd
 have HS:=Lib.hid hs
 have HT:=Lib.hid (HT.out.sum (H':=[Cli.progB pb m d n,gst,shutB kb L.fb (ptr' pb) vl al k++(gl++e),gF]))
 clear hs hl hx ho hd T1
 go_enter Tryz.func375,Tryz.ntmps375
 go_wp2_with fail
 refine (DoesG.use (HD.out) (HT.out) [0,1,2,3] rfl rfl).mono ?_
 rintro e w1 ⟨gs,⟨gK',gF',rfl,hx',rfl⟩,Ta⟩
 simp only [PU] at Ta
 have HX:=Lib.hid (repS_iff.1 hx')
 clear hx' k8
 have HT:=Lib.hid Ta
 clear Ta
 go_wp2
 go_ret
 exact ⟨_,⟨rfl,_,gF',⟨pb,e,m,d,gst,gK',HS.out,HX.out.1,rfl⟩,HX.out.2,rfl⟩,HT.out.sum⟩
set_option maxRecDepth 100000 in
theorem cloDone (hc:isClo L kb s n k g):ReadsG Tryz.prog 374 #[ptr' kb] [g] (.bool s.isNil):=by
 obtain ⟨pb,e,m,d,gst,gK,hs,hk,rfl⟩:=hc
 have hd:=CliE.prog_done (cliS_ok L kb (ptr' pb)) hs pb n
 obtain ⟨vl,al,gl,hl,rfl⟩:=hk
 intro w hw
 have T0:=TG.refl hw
 have HT:=Lib.hid T0
 clear hw T0
 have T1:=HT.out.sum (H':=[shutB kb L.fb (ptr' pb) vl al k,Cli.progB pb m d n++(gst++(gl++e))])
 have k8:=T1.cell 0 0 rfl 8
 simp only [shutC,GE3] at k8
 have lt:=T1.lt 0 0 rfl
 simp only [] at lt
 have HD:=Lib.hid hd
 have HT:=Lib.hid (HT.out.sum (H':=[Cli.progB pb m d n,gst,shutB kb L.fb (ptr' pb) vl al k++(gl++e)]))
 clear hs hl hd T1
 go_enter Tryz.func374,Tryz.ntmps374
 go_wp2_with fail
 refine (ReadsG.use (HD.out) (HT.out) [0] rfl rfl).mono ?_
 rintro e w1 ⟨rfl,mq,rfl⟩
 go_wp2
 go_ret
 exact ⟨rfl,_,rfl⟩
end
end
section
open Go.RowKit Go.Shelf
set_option maxRecDepth 100000 in
theorem Cli.prog_new_v {c:Cli} (h:c.Vals) {s:c.S} {m d:Value} {g:List Blk} (hs:c.SV s m d g):DoesG Tryz.prog 84 #[.agg #[m,d]] [g] fun e gs=>∃ pb,e=.returned (ptr' pb)∧gs=[g,Cli.progB pb m d 0]:=by
 obtain ⟨v1,v2⟩:=h.vals hs
 intro w hw
 have T0:=TG.refl hw
 have HT:=Lib.hid T0
 clear hw T0
 clear hs h
 rcases v1 with rfl | ⟨fn1,first1,caps1,rfl⟩ <;> rcases v2 with rfl | ⟨fn2,first2,caps2,rfl⟩
 all_goals
  go_enter Tryz.func84,Tryz.ntmps84
  go_wp2
  go_ret
  exact ⟨_,⟨_,rfl,rfl⟩,(HT.out.alloc0 _).alloc (k:=w.heap.size+1) (by simp) _ _⟩
def newS (th no:Int):ShutS:=⟨th,no,0,false,false,[],0⟩
def firstS:SS:=.at none .shuts
section
variable {L:Lay} {x:CoreS} {p:PipeS} {g gF:List Blk} {kb:Nat} {s:SS} {n:Int} {k:ShutS}
set_option maxRecDepth 100000 in
theorem cloBegin (hx:isCP L x p gF) (hn:x.tr.length≤1000000) (th no:Int):DoesG Tryz.prog 149 #[ptr' L.fb,.int .i64 th,.int .i64 no] [gF] fun en gs =>
 ∃ kb g gF',en=.returned (.tuple #[ptr' kb,.int .i64 0])∧isClo L kb firstS 0 (newS th no) g∧isCP L { x with tr:=x.tr++[evS (newS th no) { ev0 with kind:=1 }] } p gF'∧gs=[g,gF']:=by
 obtain ⟨gC,gP,hx,hpp,rfl⟩:=hx
 have HS:=Lib.hid (show ∀ kb pv,((cliS L kb pv).on []).SV (.at none .shuts) .nilFunc (.func (.func 181) #[ptr' kb] #[]) [] from fun kb pv=>⟨rfl,rfl,rfl⟩)
 have HNW:=Lib.hid (show ∀ kb,_ from fun kb=>Cli.prog_new_v (cliS_vals L kb (.pointer none) []) (HS.out kb (.pointer none)))
 intro w hw
 have T0:=TG.refl hw
 have HT:=Lib.hid T0
 clear hw T0
 have HX:=Lib.hid hx
 have HPP:=Lib.hid hpp
 have HLN:=Lib.hid hn
 clear hx hn hpp
 go_enter Tryz.func149,Tryz.ntmps149
 go_wp2_with fail
 refine (DoesG.use (HNW.out w.heap.size) ((HT.out.alloc (k:=w.heap.size) rfl 289 (shutC L.fb (.pointer none) (.slice none 0 0) (.slice none 0 0) (newS th no))).sum (H':=[gC,gP,[],[cl w.heap.size 289 (shutC L.fb (.pointer none) (.slice none 0 0) (.slice none 0 0) (newS th no))]])) [2] rfl rfl).mono ?_
 rintro e w1 ⟨gs,⟨pb,rfl,rfl⟩,Ta⟩
 simp only [PU] at Ta
 have HT:=Lib.hid Ta
 clear Ta
 have k8:=HT.out.cell 3 0 rfl 8
 have fk8:=HT.out.free 3 0 rfl 8
 simp only [shutC,GE3] at k8
 go_wp2_with fail
 refine (DoesG.use (shutNote (pv:=ptr' pb) HX.out { ev0 with kind:=1 } HLN.out) ((HT.out.set 3 0 rfl 8 (ptr' pb)).eq (H':=[gC,gP,[],shutB w.heap.size L.fb (ptr' pb) (.slice none 0 0) (.slice none 0 0) (newS th no),Cli.progB pb .nilFunc (.func (.func 181) #[ptr' w.heap.size] #[]) 0]) rfl) [3,0] rfl rfl).mono ?_
 rintro e w1 ⟨gs,⟨rfl,g1,hx1,rfl⟩,Ta⟩
 simp only [PU] at Ta
 have HX:=Lib.hid hx1
 clear hx1 k8 fk8
 have HT:=Lib.hid Ta
 clear Ta
 go_wp2
 go_ret2
 exact ⟨_,⟨_,_,_,rfl,⟨pb,[],_,_,[],[cl w.heap.size 289 (shutC L.fb (ptr' pb) (.slice none 0 0) (.slice none 0 0) (newS th no))],HS.out _ _,⟨_,_,[],⟨rowG_nil _ _,rfl⟩,rfl⟩,rfl⟩,⟨g1,gP,HX.out,HPP.out,rfl⟩,rfl⟩,((HT.out.pick [4,3,0,1] rfl).eq (H':=[Cli.progB pb .nilFunc (.func (.func 181) #[ptr' w.heap.size] #[]) 0,[cl w.heap.size 289 (shutC L.fb (ptr' pb) (.slice none 0 0) (.slice none 0 0) (newS th no))],g1,gP]) rfl).sum⟩
end
end
section
open Go.RowKit Go.Shelf
def FitS:SS→ShutS→Prop
 | .nil,_=>True
 | .at none .shuts,k=>k.aset=false
 | .at (some .inside) .slots0,k=>k.aset=false
 | .at (some .idle) .waits2,_=>True
 | .row1 .ends1,_=>True
 | .thn (.row1 .pshut) .waits,k=>k.aset=false
 | .thn (.at none (.looks1 i)) (.slots2 j),k=>k.aset=false∧i=j∧0≤i∧i<64
 | .thn (.at none (.leaves0 i)) (.slots2 j),k=>k.aset=false∧i=j∧0≤i∧i<64
 | .thn (.row2 (.release _) .drop) (.slots2 j),k=>k.aset=false∧0≤j∧j<64
 | .thn (.row1 .drop) (.slots2 j),k=>k.aset=false∧0≤j∧j<64
 | _,_=>False
structure JB (N:Nat) (z:ZS):Prop where
 core:CoreN N z.x
 cap:z.x.f.cfg.cap=z.x.slab.recs.length
 busy:0≤z.x.f.busy∧z.x.f.busy≤N
 saw:0≤z.k.saw∧z.k.saw<18446744073709551616∧okW z.k.saw=true
 left:z.k.left.length≤N
structure JS (N:Nat) (s:SS) (z:ZS):Prop where
 b:JB N z
 fit:FitS s z.k
theorem JB.mono {N M:Nat} {z:ZS} (h:JB N z) (hm:N≤M):JB M z :=
 ⟨h.core.mono hm,h.cap,by have:=h.busy;omega,h.saw,by have:=h.left;omega⟩
theorem JB.ok {N:Nat} {z:ZS} (h:JB N z) (hN:N≤1000000):ShutOk z :=
 ⟨h.core.ok hN,h.cap,by have:=h.busy;omega,h.saw,by have:=h.left;omega⟩
section
variable {N:Nat} {z:ZS}
theorem noteN {x:CoreS} (h:CoreN N x) (E:EvS):CoreN (N+1) { x with tr:=x.tr++[E] } :=
 ⟨h.slab,h.i0,by have:=h.i1;show x.f.inside≤_;omega,by have:=h.tr;show (x.tr++[_]).length≤_;rw [List.length_append];simp;omega,h.sh,h.rings (by omega)⟩
theorem JB.note (h:JB N z) (E:EvS):JB (N+1) (z.note E) :=
 ⟨noteN h.core _,h.cap,by have:=h.busy;show 0≤z.x.f.busy∧z.x.f.busy≤_;omega,h.saw,by have:=h.left;show z.k.left.length≤_;omega⟩
theorem JB.slab (h:JB N z) {s:SlabS} (hs:SlabOk s) (hl:s.recs.length=z.x.slab.recs.length):JB N { z with x:={ z.x with slab:=s } } :=
 ⟨core_slab h.core hs,by show z.x.f.cfg.cap=s.recs.length;rw [hl];exact h.cap,h.busy,h.saw,h.left⟩
theorem actS_n (h:JB N z) (a:AS):JB (N+1) (runAS a z):=by
 cases a with
 | ends1=>exact h.note _
 | pshut=>exact (⟨h.core,h.cap,h.busy,h.saw,h.left⟩:JB N { z with p:={ z.p with shut:=true } }).mono (by omega)
 | release i =>
   obtain ⟨a,b⟩:=try_ok h.core.slab i (z.x.slab.word i) 10
   exact (h.slab a b).mono (by omega)
 | drop =>
   obtain ⟨a,b⟩:=drop_ok h.core.slab
   exact (h.slab a b).mono (by omega)
theorem slotsS_fit {k:ShutS} (h:k.aset=false) {i:Int} (h0:0≤i) (hc:z.x.f.cfg.cap≤64):FitS (slotsS i z) k:=by
 unfold slotsS looksS
 split
 ·exact h
 ·exact ⟨h,rfl,h0,by omega⟩
theorem JB.c64 (h:JB N z):z.x.f.cfg.cap≤64:=by have:=h.cap;have:=h.core.slab.n1;omega
theorem JS.pre {s:SS} (h:JS N s z) (hN:N<1000000):preSS s z:=by
 obtain ⟨hb,hf⟩:=h
 have ho:=hb.ok (by omega)
 have ha:=fun a=>(actS_n hb a).ok (by omega)
 match s,hf with
 | .nil,_=>trivial
 | .at none .shuts,hf=>exact ⟨ho,trivial⟩
 | .at (some .inside) .slots0,_=>exact ⟨ho,trivial⟩
 | .at (some .idle) .waits2,_=>exact ⟨ho,trivial⟩
 | .row1 .ends1,_=>exact ho
 | .thn (.row1 .pshut) .waits,_=>exact ⟨ho,fun _=>⟨ha .pshut,trivial⟩⟩
 | .thn (.at none (.looks1 i)) (.slots2 j),hf =>
   obtain ⟨h1,rfl,h3,h4⟩:=hf
   refine ⟨⟨ho,h3,by omega⟩,fun _=>?_⟩
   have e:(St.run runS runAS (.at none (.looks1 i)) z).2=wordZ i z:=by
    show (runS (.looks1 i) z).2=_
    dsimp only [runS]
    split <;> rfl
   rw [e]
   exact ⟨⟨ho.core,ho.cap,ho.busy,word_bd ho.core.slab i,ho.left⟩,h3,by omega⟩
 | .thn (.at none (.leaves0 i)) (.slots2 j),hf =>
   obtain ⟨h1,rfl,h3,h4⟩:=hf
   refine ⟨⟨ho,⟨h3,by omega⟩,h1⟩,fun hn=>?_⟩
   have:(St.run runS runAS (.at none (.leaves0 i)) z).1.isNil=true:=hn
   change (runS (.leaves0 i) z).1.isNil=true at this
   dsimp only [runS] at this
   split at this <;> cases this
 | .thn (.row2 (.release i) .drop) (.slots2 j),hf=>exact ⟨ho,fun h=>by cases h⟩
 | .thn (.row1 .drop) (.slots2 j),hf=>exact ⟨ho,fun _=>⟨ha .drop,hf.2.1,by have:=hf.2.2;omega⟩⟩
theorem JS.step {s:SS} (h:JS N s z):JS (N+1) (stepS s z).1 (stepS s z).2:=by
 obtain ⟨hb,hf⟩:=h
 have ha:=fun a=>actS_n hb a
 have hc:=hb.c64
 match s,hf with
 | .nil,_=>exact ⟨hb.mono (by omega),trivial⟩
 | .at none .shuts,hf =>
   show JS (N+1) (runS .shuts z).1 (runS .shuts z).2
   dsimp only [runS]
   split
   ·have:=hb.note { ev0 with kind:=9,err:=3 }
    exact ⟨⟨this.core,this.cap,this.busy,this.saw,this.left⟩,trivial⟩
   ·exact ⟨JB.note (z:={ z with x:={ z.x with f:={ z.x.f with closed:=true } } }) ⟨⟨hb.core.slab,hb.core.i0,hb.core.i1,hb.core.tr,hb.core.sh,hb.core.ring⟩,hb.cap,hb.busy,hb.saw,hb.left⟩ _,hf⟩
 | .at (some .inside) .slots0,hf=>exact ⟨hb.mono (by omega),slotsS_fit hf (by decide) hc⟩
 | .at (some .idle) .waits2,_ =>
   have:=hb.note { ev0 with kind:=13 }
   exact ⟨⟨this.core,this.cap,this.busy,this.saw,this.left⟩,trivial⟩
 | .row1 .ends1,_=>exact ⟨ha .ends1,trivial⟩
 | .thn (.row1 .pshut) .waits,_=>exact ⟨ha .pshut,trivial⟩
 | .thn (.at none (.looks1 i)) (.slots2 j),hf =>
   obtain ⟨h1,rfl,h3,h4⟩:=hf
   have hw:JB N (wordZ i z):=⟨hb.core,hb.cap,hb.busy,word_bd hb.core.slab i,hb.left⟩
   show JS (N+1) (thenSt runS (runS (.looks1 i) z).1 (.slots2 i) (runS (.looks1 i) z).2).1 (thenSt runS (runS (.looks1 i) z).1 (.slots2 i) (runS (.looks1 i) z).2).2
   dsimp only [runS]
   split
   ·exact ⟨hw.mono (by omega),h1,rfl,h3,h4⟩
   ·exact ⟨hw.mono (by omega),slotsS_fit (z:=wordZ i z) (k:=(wordZ i z).k) (i:=i+1) h1 (by omega) hc⟩
 | .thn (.at none (.leaves0 i)) (.slots2 j),hf =>
   obtain ⟨h1,rfl,h3,h4⟩:=hf
   obtain ⟨a,b⟩:=try_ok hb.core.slab i z.k.saw 6
   have hs:=hb.slab a b
   show JS (N+1) (thenSt runS (runS (.leaves0 i) z).1 (.slots2 i) (runS (.leaves0 i) z).2).1 (thenSt runS (runS (.leaves0 i) z).1 (.slots2 i) (runS (.leaves0 i) z).2).2
   dsimp only [runS]
   split
   ·exact ⟨hs.mono (by omega),h1,rfl,h3,h4⟩
   ·have hn:=noteN hs.core (evS { z.k with left:=z.k.left++[(numV (z.x.slab.try i z.k.saw 6).1 i).1] } { ev0 with kind:=12,id:=(numV (z.x.slab.try i z.k.saw 6).1 i).1,gen:=genW (z.x.slab.try i z.k.saw 6).2.1 })
    refine ⟨⟨hn,hs.cap,?_,hs.saw,?_⟩,h1,h3,h4⟩
    ·have:=hb.busy;exact ⟨this.1,by show z.x.f.busy≤_;omega⟩
    ·have:=hb.left;show (z.k.left++[_]).length≤_;rw [List.length_append];simp;omega
 | .thn (.row2 (.release i) .drop) (.slots2 j),hf=>exact ⟨ha (.release i),hf⟩
 | .thn (.row1 .drop) (.slots2 j),hf=>exact ⟨ha .drop,slotsS_fit (z:=runAS .drop z) (i:=j+1) hf.1 (by have:=hf.2.1;omega) hc⟩
end
def itS:Nat→SS→ZS→SS × ZS
 | 0,s,z=>(s,z)
 | n+1,s,z=>itS n (stepS s z).1 (stepS s z).2
theorem JS.it:∀ (n:Nat) {N:Nat} {s:SS} {z:ZS},JS N s z→JS (N+n) (itS n s z).1 (itS n s z).2
 | 0,_,_,_,h=>h
 | n+1,N,s,z,h=>by
   have:=JS.it n h.step
   rwa [show N+1+n=N+(n+1) by omega] at this
end
section
open Go.RowKit Go.Shelf
theorem newRing_n {n:Nat} (h1:1≤n) (h2:n≤64):RingN 0 (newRing n):=by
 refine ⟨?_,?_,Int.le_refl 0,Int.le_refl 0,Int.le_refl 0,Int.le_refl 0⟩ <;> simp [newRing] <;> omega
theorem core0_n {c:Cfg} (h:c.ok=true):CoreN 0 (core0 c):=by
 obtain ⟨h1,h2,h3,_⟩:=Cfg.bd h
 refine ⟨newSlab_ok (by omega) (by omega),by show (0:Int)≤0;omega,by show (0:Int)≤0;omega,by show ([]:List EvS).length≤0;simp,?_,?_⟩
 ·show 1≤(List.replicate _ _).length
  rw [List.length_replicate];omega
 ·intro s hs
  obtain ⟨_,rfl⟩:=List.mem_replicate.1 hs
  exact newRing_n (by omega) (by omega)
structure CallC.wf (c:CallC):Prop where
 id:0≤c.id∧c.id<18446744073709551616
 dl:0≤c.dl∧c.dl<18446744073709551616
 per:0≤c.per∧c.per<18446744073709551616
theorem newW_n {N:Nat} {c:CallC} (h:c.wf) (th no:Int) (x:CoreS):WorkN N (newW th no c) x :=
 ⟨h.dl,h.per,h.id,by show (0:Int)≤0;omega,⟨by show (0:Int)≤0;omega,by show (0:Int) < _;omega,by show okW 0=true;decide⟩,fun q hq=>(by cases hq),fun i t ht=>(by cases ht)⟩
theorem first_fit (kd:Int) (k:WorkS):FitC (firstC kd) k:=by
 unfold firstC
 split
 ·trivial
 ·split <;> trivial
theorem JC.first {N:Nat} {x:CoreS} (hc:CoreN N x) {c:CallC} (h:c.wf) (th no:Int) :
 JC (N+1) (firstC c.kind) (newW th no c,noteC (newW th no c) { ev0 with kind:=1,id:=c.id,dl:=c.dl,per:=c.per } x) :=
 ⟨core_note hc _,newW_n h th no _,first_fit _ _⟩
end
section
open Go.RowKit Go.Shelf
end
section
open Go.RowKit Go.Shelf
theorem coreTrace {L:Lay} {x:CoreS} {g:List Blk} (hx:isCore L x g) (hn:x.tr.length≤1000000):DoesG Tryz.prog 35 #[ptr' L.fb] [g] fun e gs=>∃ v g' gv,e=.returned v∧isCore L x g'∧trG v x.tr gv∧gs=[g',gv]:=by
 obtain ⟨tr,gF,gS,gR,gH,gT,h1,h2,h3,h4,h5,h6,rfl⟩:=hx
 intro w hw
 have T:=(TG.refl hw).sum (H':=[gF,gS,gR,gH,gT])
 refine (DoesG.use (floorTrace_g h1 h6 (by omega)) T [0,4] rfl rfl).mono ?_
 rintro e w' ⟨gs,⟨v,gv,he,hv,rfl⟩,T'⟩
 exact ⟨_,⟨v,_,gv,he,⟨tr,gF,gS,gR,gH,gT,h1,h2,h3,h4,h5,h6,rfl⟩,hv,rfl⟩,TG.sum (H:=[gF,gS,gR,gH,gT,gv]) T'⟩
end
end Go.Proofs.YtblhfbcodbjgcaaGreat
