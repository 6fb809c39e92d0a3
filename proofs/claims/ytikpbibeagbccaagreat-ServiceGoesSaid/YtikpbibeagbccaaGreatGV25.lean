import Derived.Test.YtikpbibeagbccaaGreatGV24
import Derived.Test.YtikpbibeagbccaaGreatGV21
import Derived.Test.YtikpbibeagbccaaGreatGV23
set_option maxRecDepth 100000
set_option maxHeartbeats 4000000
namespace Go.Proofs.YtikpbibeagbccaaGreat
set_option linter.unusedVariables false
set_option linter.unusedSimpArgs false
open Go.Proofs.Tryz
section
open Go.RowKit Go.Shelf
theorem q3a (n:Int) (h0:0≤n) (h1:n<18446744073709551616):Qe prog 195 #[.int .u64 n] [] (.int .u64 (Zp n)):=fun w hw=>(qbo n w h0 h1).mono (by rintro e w' ⟨rfl,rfl⟩;exact ⟨rfl,0,rfl⟩)
theorem qmt {G:Prop} {α β:Type} {P A:α→β→World→Prop} (main:(∀ a b w2,A a b w2→P a b w2)→G) (key:∀ a b w2,A a b w2→P a b w2):G:=main key
section
variable {L:Lay} {x:Qj} {p:Qy} {e gl gC gK gF:List Blk} {kb:Nat} {pv vl al:Value} {k:Yl}
def LVS (L:Lay) (kb:Nat) (pv al:Value) (s:SS) (k:Yl) (x:Qj) (en:Ending) (gs:GH):Prop :=
 ∃ g' l vl' gl' gC',SRS L kb pv s en g' l∧Qu 30 1 vl' k.left.length (qz2 k.left) gl'∧Qf L x gC'∧gs=[g',l,Q1 kb L.fb pv vl' al k,gl',gC']
theorem qvh (hr:Qu 30 1 vl k.left.length (qz2 k.left) gl) (hx:Qf L x gC) (hp:qba ⟨k,x,p⟩) (ix:Int) (h0:0≤ix∧ix≤64) :
 Qa prog 175 #[Qb kb,.int .i64 ix] [Q1 kb L.fb pv vl al k,gl,gC] (LVS L kb pv al (Zn (.leaves0 ix) ⟨k,x,p⟩).1 (Zn (.leaves0 ix) ⟨k,x,p⟩).2.k (Zn (.leaves0 ix) ⟨k,x,p⟩).2.x):=by
 obtain ⟨s0,s1,s2⟩:=hp.saw;simp only at s0 s1 s2;have hok:=hp.core;simp only at hok;have hty:=qch hx hok.slab.n1 ix k.saw 6 s0 s1;obtain ⟨to1,to2⟩:=qbp hok.slab ix k.saw 6;obtain ⟨tw0,tw1⟩:=qh5 hok.slab ix k.saw 6 s0 s1 s2;dsimp only [Zn,ZS.note]
 have hcap:=hp.cap;simp only at hcap;have HN:=Vh (show ∀ g',Qf L { x with slab:=(x.slab.try ix k.saw 6).1 } g'→_ from fun g' hx'=>qp2 (g:=g') hx' (by simp only;rw [to2];exact hcap) to1 ix);have HTR:=Vh (show x.tr.length≤1000000 from hok.tr);have HLL:=Vh (show k.left.length≤1000000 from hp.left);generalize x.slab.try ix k.saw 6=r at *;obtain ⟨rs,rw_,re⟩:=r;simp only at hty to1 to2 tw0 tw1 HN ⊢;have HTY:=Vh hty;have HTW:=Vh (And.intro tw0 tw1);clear hty hok hp s0 s1 s2 to1 to2 tw0 tw1 hcap;obtain ⟨av,cap,rfl⟩:=hr.val;by_cases he:re=0
 ·subst he
  rw [if_neg (by simp)];unfold LVS;dsimp only
  obtain ⟨nu,hnu⟩:∃ nu,nu=qpv rs ix:=⟨_,rfl⟩;rw [← hnu] at HN ⊢;obtain ⟨nv,ne⟩:=nu;dsimp only at HN ⊢
  clear hnu;refine GO fun w HT=>?_
  have HX:=Vh hx;have HR:=Vh hr;clear hx hr;go_enter func175,ntmps175
  go_wp2_with fail
  have HT:=Vh (((HT.out.alloc (k:=w.heap.size) rfl 132 #[Qb kb]).alloc (k:=w.heap.size+1) (by simp) 3 #[.int .i64 ix]).alloc (k:=w.heap.size+1+1) (by simp) 180 #[.nilFunc,.nilFunc]);generalize World.alloc (World.alloc (World.alloc w _) _) _=w1 at HT ⊢;obtain ⟨k0,k10⟩:=Ce2 (HT.out.cell 0 0 rfl) 0 10;simp only [X1,GE3] at k0 k10;have a0:=HT.out.cell 3 0 rfl 0;simp only [GE4] at a0;have b0:=HT.out.cell 4 0 rfl 0;simp only [GE4] at b0;refine Qc 10 (by kernel_rfl) (by kernel_rfl) ?_
  simp only [TD4]
  repeat (go_big_quiet_step ((first | (go_at_call 124;with_reducible exact Qe.quiet (Qk HX.out) HT.out _ [2] rfl rfl))))
  refine wpQuiet_nil (QE fun nq=>?_)
  have HT:=Vh (HT.out.drewN nq);go_wp2_with fail
  refine (Qa.use (HTY.out) (HT.out) [2] rfl rfl).mono ?_
  rintro e w1 ⟨gs,⟨rfl,g1,hx1,rfl⟩,Ta⟩;simp only [PU] at Ta;have HX:=Vh hx1;clear hx1 k0 k10 a0 b0;have HT:=Vh Ta;clear Ta;go_wp2_with fail
  refine ⟨rfl,?_⟩
  have k0:=HT.out.cell 0 0 rfl 0;simp only [X1,GE3] at k0;have a0:=HT.out.cell 3 0 rfl 0;simp only [GE4] at a0;have b0:=HT.out.cell 4 0 rfl 0;simp only [GE4] at b0;go_wp2_with fail
  refine Qc 5 (by kernel_rfl) (by kernel_rfl) ?_
  simp only [TD4]
  repeat (go_big_quiet_step ((fail)))
  refine wpQuiet_nil (QE fun nq=>?_)
  have HT:=Vh (HT.out.drewN nq);go_wp2_with fail
  refine (Qa.use (HN.out _ HX.out) (HT.out) [2] rfl rfl).mono ?_
  rintro e w1 ⟨gs,⟨rfl,g2,hx2,rfl⟩,Ta⟩;simp only [PU] at Ta;have HX:=Vh hx2;clear hx2 k0 a0 b0;have HT:=Vh Ta;clear Ta;go_wp2_with fail
  refine ⟨rfl,?_⟩
  go_wp2_with fail
  have k9:=HT.out.cell 0 0 rfl 9;have fk9:=HT.out.free 0 0 rfl 9;simp only [X1,GE3] at k9;have a0:=HT.out.cell 3 0 rfl 0;simp only [GE4] at a0;have HT:=Vh HT.out.drew;have hl0:=HT.out.lt 0 0 rfl;have hl3:=HT.out.lt 3 0 rfl;simp only [World.drew] at hl0 hl3;have hll:=HLL.out;apply qmt (α:=Option Addr) (β:=Nat) (A:=fun a1 cap1 w5=>∃ gl1,Qu 30 1 (.slice a1 (k.left.length+1) cap1) (k.left.length+1) (qz2 k.left++[.int .u64 nv]) gl1∧TG [Q1 kb L.fb pv (.slice av k.left.length cap) al k,gl,gC] w [Q1 kb L.fb pv (.slice a1 (k.left.length+1) cap1) al { k with left:=k.left++[nv] },gl1,g2,[cl w.heap.size 132 #[Qb kb]],[cl (w.heap.size+1) 3 #[.int .i64 ix]],[cl (w.heap.size+1+1) 180 #[.nilFunc,.nilFunc]]] w5)
  case main =>
   intro key
   go_region_law (
    refine q7 rfl (.tmp 41) (.tmp 43) 44 rfl 1 8 _ underlying44 Tryz.infoU64 rfl (by decide) (HT.out.alloc0 _) 1 rfl rfl HR.out rfl ⟨w1.heap.size,0,none⟩ 1 1 [.int .u64 nv] rfl rfl (X8 _ _ _) (by simp [Value.oneCell']) (by unfold maxLen;omega) (by omega) ?_
    intro v w3 gl1 r T;simp only [List.set_cons_zero,List.set_cons_succ] at T;obtain ⟨a1,cap1,rfl⟩:=r.val;have c9:=T.cell 0 0 rfl 9;have f9:=T.free 0 0 rfl 9;have a1':=T.cell 3 0 rfl 0;simp only [X1,GE3] at c9 a1';have T:=Vh T
    have r:=Vh r)
   all_goals
    have T5:=(T.out.set 0 0 rfl 9 (.slice a1 (k.left.length+1) cap1)).eq (H':=[Q1 kb L.fb pv (.slice a1 (k.left.length+1) cap1) al { k with left:=k.left++[nv] },gl1,g2,[cl w.heap.size 132 #[Qb kb]],[cl (w.heap.size+1) 3 #[.int .i64 ix]],[cl (w.heap.size+1+1) 180 #[.nilFunc,.nilFunc]]]) rfl;generalize World.setCell _ _ _=w5 at T5 ⊢;exact key a1 cap1 w5 ⟨gl1,r.out,T5⟩
  case key =>
   rintro a1 cap1 w5 ⟨gl1,r,T⟩;have HT:=Vh T;have RR:=Vh (show Qu 30 1 (.slice a1 (k.left.length+1) cap1) (k.left++[nv]).length (qz2 (k.left++[nv])) gl1 from by simpa [qz2] using r);clear r T k9 fk9 a0 hl0 hl3 hll;have a0:=HT.out.cell 3 0 rfl 0;simp only [GE4] at a0;go_wp2_with fail
   refine Qc 5 (by kernel_rfl) (by kernel_rfl) ?_
   simp only [TD4]
   repeat (go_big_quiet_step ((first | (go_at_call 195;with_reducible exact Qe.quiet (q3a rw_ HTW.out.1 HTW.out.2) HT.out _ [] rfl rfl))))
   refine wpQuiet_nil (QE fun nq=>?_)
   have HT:=Vh (HT.out.drewN nq);go_wp2_with fail
   refine (Qa.use (qa1 HX.out { ev0 with kind:=12,id:=nv,gen:=Zp rw_ } HTR.out) (HT.out) [0,2] rfl rfl).mono ?_
   rintro e w1 ⟨gs,⟨rfl,g3,hx3,rfl⟩,Ta⟩;simp only [PU] at Ta;have HX:=Vh hx3;clear hx3 a0;have HT:=Vh Ta;clear Ta;go_wp2_with fail
   refine ⟨rfl,?_⟩
   generalize w1=wq at HT ⊢;go_wp2_with fail
   refine Qa.run (Cli.row_1 (b:=wq.heap.size) (o:=0) (D:=#[.func (.func 213) #[] #[Qb w.heap.size,Qb (w.heap.size+1)],.func (.func 214) #[] #[Qb w.heap.size]]) rfl 2 (.inr rfl)) (HT.out.alloc (k:=wq.heap.size) rfl _ _) [6] ?_
   rintro e w1 gs ⟨bf,bl,bi,rfl,rfl⟩ HT;simp only [PU] at HT;obtain ⟨e0,e1⟩:=Ce2 (HT.out.cell 5 0 rfl) 0 1;obtain ⟨fe0,fe1⟩:=Ce2 (HT.out.free 5 0 rfl) 0 1;simp only [GE4] at e0 e1;go_wp2
   exact bodyPost_ret (v:=.agg #[.nilFunc,_]) (by simp [results,results175,go_sem,e0,e1]) rfl ⟨_,⟨_,[cl w.heap.size 132 #[Qb kb],cl (w.heap.size+1) 3 #[.int .i64 ix]],_,gl1,g3,⟨_,_,rfl,fun e he=>⟨rfl,bf,bl,bi,wq.heap.size,.func (.func 213) #[] #[Qb w.heap.size,Qb (w.heap.size+1)],.func (.func 214) #[] #[Qb w.heap.size],[],[],rfl,⟨rfl,w.heap.size,w.heap.size+1,rfl,he _ (by simp),he _ (by simp)⟩,⟨rfl,w.heap.size,rfl,he _ (by simp)⟩,rfl⟩⟩,RR.out,HX.out,rfl⟩,(((HT.out.set 5 0 rfl 0 _).set 5 0 rfl 1 _).pick [7,8,9,6,3,4,0,1,2] rfl).sum⟩
 ·rw [if_pos he]
  have hb:(re != 0)=true:=bne_iff_ne.2 he;unfold LVS;dsimp only
  refine GO fun w HT=>?_
  have HX:=Vh hx;have HR:=Vh hr;clear hx hr;go_enter func175,ntmps175
  go_wp2_with fail
  have HT:=Vh (((HT.out.alloc (k:=w.heap.size) rfl 132 #[Qb kb]).alloc (k:=w.heap.size+1) (by simp) 3 #[.int .i64 ix]).alloc (k:=w.heap.size+1+1) (by simp) 180 #[.nilFunc,.nilFunc]);generalize World.alloc (World.alloc (World.alloc w _) _) _=w1 at HT ⊢;obtain ⟨k0,k10⟩:=Ce2 (HT.out.cell 0 0 rfl) 0 10;simp only [X1,GE3] at k0 k10;have a0:=HT.out.cell 3 0 rfl 0;simp only [GE4] at a0;have b0:=HT.out.cell 4 0 rfl 0;simp only [GE4] at b0;refine Qc 10 (by kernel_rfl) (by kernel_rfl) ?_
  simp only [TD4]
  repeat (go_big_quiet_step ((first | (go_at_call 124;with_reducible exact Qe.quiet (Qk HX.out) HT.out _ [2] rfl rfl))))
  refine wpQuiet_nil (QE fun nq=>?_)
  have HT:=Vh (HT.out.drewN nq);go_wp2_with fail
  refine (Qa.use (HTY.out) (HT.out) [2] rfl rfl).mono ?_
  rintro e w1 ⟨gs,⟨rfl,g1,hx1,rfl⟩,Ta⟩;simp only [PU] at Ta;have HX:=Vh hx1;clear hx1 k0 k10 a0 b0;have HT:=Vh Ta;clear Ta;go_wp2_with fail
  refine ⟨rfl,?_⟩
  have a0:=HT.out.cell 3 0 rfl 0;simp only [GE4] at a0;have b0:=HT.out.cell 4 0 rfl 0;simp only [GE4] at b0;go_wp2_with fail
  refine (Qa.use (qq5 L kb pv ix) (HT.out) [] rfl rfl).mono ?_
  rintro e w1 ⟨gs,⟨g2,l2,⟨m2,d2,rfl,hs2⟩,rfl⟩,Ta⟩;simp only [PU] at Ta;clear a0 b0;have HT:=Vh Ta;clear Ta;obtain ⟨r0,r1⟩:=Ce2 (HT.out.cell 5 0 rfl) 0 1;obtain ⟨fr0,fr1⟩:=Ce2 (HT.out.free 5 0 rfl) 0 1;simp only [GE4] at r0 r1;have hv2:=(Z5 L kb pv l2).vals (hs2 l2 (leE.refl _));obtain ⟨st1,st2⟩:=Cli.store_fv2 (P:=prog) hv2.1 hv2.2 r0 fr0 r1 fr1;have HS:=Vh hs2;clear hv2 hs2;go_wp2
  exact bodyPost_ret (v:=.agg #[_,_]) (by simp [results,results175,go_sem,r0,r1]) rfl ⟨_,⟨g2,l2,_,gl,g1,⟨m2,d2,rfl,HS.out⟩,HR.out,HX.out,rfl⟩,((HT.out.set 5 0 rfl 0 _).set 5 0 rfl 1 _).pick [6,7,0,1,2] rfl⟩
end
section
variable {L:Lay} {x:Qj} {p:Qy} {e gl gC gK gF:List Blk} {kb:Nat} {pv vl al:Value} {k:Yl}
theorem qvt (ix:Int) (hz:qg1 L kb pv e ⟨k,x,p⟩ gK gF) (hp:qxd (.leaves0 ix) ⟨k,x,p⟩) (bk bi:Nat) (hb:cl bk 132 #[Qb kb]∈e) (hbi:cl bi 3 #[.int .i64 ix]∈e):Qa prog 174 #[Qb bk,Qb bi] [gK,gF] (MRS L kb pv e (Zn (.leaves0 ix) ⟨k,x,p⟩).1 (Zn (.leaves0 ix) ⟨k,x,p⟩).2):=by
 obtain ⟨hok,⟨hi0,hi1⟩,hset⟩:=hp;simp only at hset;unfold MRS;obtain ⟨vl,al,gl,gC,gP,hl,hx,hpp,rfl,rfl⟩:=hz
 have hset2:(Zn (.leaves0 ix) ⟨k,x,p⟩).2.k.aset=false:=by
  dsimp only [Zn]
  split <;> exact hset
 have hpipe:(Zn (.leaves0 ix) ⟨k,x,p⟩).2.p=p:=by
  dsimp only [Zn]
  split <;> rfl
 have hal:al=.slice none 0 0:=by have:=hl.2;rw [hset] at this;simpa using this
 subst hal;have hlv:=qvh (kb:=kb) (pv:=pv) (al:=.slice none 0 0) hl.1 hx hok ix ⟨hi0,hi1⟩;generalize Zn (.leaves0 ix) ⟨k,x,p⟩=R at *;obtain ⟨s',⟨k',x',p'⟩⟩:=R;simp only at hset2 hpipe hlv ⊢;subst hpipe;refine GO fun w HT=>?_
 have HT:=Vh (HT.out.sum (H':=[Q1 kb L.fb pv vl (.slice none 0 0) k,gl,e,gC,gP]));have HLV:=Vh hlv;have HPP:=Vh hpp;have HST:=Vh hset2;have ltb:=HT.out.mem_lt 2 hb;have lti:=HT.out.mem_lt 2 hbi;simp only [] at ltb lti;have b0:=HT.out.mem_cell 2 hb 0;have i0:=HT.out.mem_cell 2 hbi 0;simp only [GE2] at b0 i0;clear hb hbi hl hx hpp hok hset hset2 hlv;go_enter func174,ntmps174
 go_wp2_with fail
 refine (Qa.use (HLV.out) (HT.out.alloc (k:=w.heap.size) rfl _ _) [0,1,3] rfl rfl).mono ?_
 rintro e w1 ⟨gs,⟨g2,l2,vl2,gl2,gC2,⟨m2,d2,rfl,hs2⟩,hr2,hx2,rfl⟩,Ta⟩;simp only [PU] at Ta;clear b0 i0;have HT:=Vh Ta;clear Ta;obtain ⟨r0,r1⟩:=Ce2 (HT.out.cell 5 0 rfl) 0 1;obtain ⟨fr0,fr1⟩:=Ce2 (HT.out.free 5 0 rfl) 0 1;simp only [GE4] at r0 r1;have hv2:=(Z5 L kb pv l2).vals (hs2 l2 (leE.refl _));obtain ⟨st1,st2⟩:=Cli.store_fv2 (P:=prog) hv2.1 hv2.2 r0 fr0 r1 fr1;have HS:=Vh hs2;have HR2:=Vh hr2;have HX2:=Vh hx2;clear hv2 hs2 hr2 hx2;go_wp2
 exact bodyPost_ret (v:=.agg #[_,_]) (by simp [results,results174,go_sem,r0,r1]) rfl ⟨_,⟨e++l2,leE.app _ _,m2,d2,g2,_,_,rfl,HS.out _ (fun b hb=>List.mem_append_right _ hb),⟨vl2,.slice none 0 0,gl2,gC2,gP,⟨HR2.out,by rw [HST.out];rfl⟩,HX2.out,HPP.out,rfl,rfl⟩,rfl⟩,(((HT.out.set 5 0 rfl 0 _).set 5 0 rfl 1 _).pick [0,3,6,2,1,7,4] rfl).sum⟩
theorem qho (L:Lay) (kb:Nat) (pv:Value):(qu1 L kb pv).Ok where
 refl:=leE.refl
 trans h1 h2:=fun b hb=>h2 b (h1 b hb)
 mm hl h:=VMS.le hl h
 ma hl h:=VAS.le hl h
 v e:=Z5 L kb pv e
 m {e f v g gK gF z} hv hz hp:=by
   obtain ⟨k,x,p⟩:=z;obtain ⟨rfl,hv⟩:=hv;cases f with
   | shuts=>subst hv;exact ⟨_,_,_,rfl,fun _ _=>rfl,(q1g hz hp).pre rfl⟩
   | slots0=>obtain ⟨bk,rfl,hb⟩:=hv;exact ⟨_,_,_,rfl,fun _ _=>rfl,(qzh hz hp bk hb).pre rfl⟩
   | slots2 i=>obtain ⟨bk,bi,rfl,hb,hbi⟩:=hv;exact ⟨_,_,_,rfl,fun _ _=>rfl,(qze i hz hp bk bi hb hbi).pre rfl⟩
   | waits=>subst hv;exact ⟨_,_,_,rfl,fun _ _=>rfl,(q1l hz).pre rfl⟩
   | looks1 i=>obtain ⟨bk,bi,rfl,hb,hbi⟩:=hv;exact ⟨_,_,_,rfl,fun _ _=>rfl,(qyn i hz hp bk bi hb hbi).pre rfl⟩
   | leaves0 i=>obtain ⟨bk,bi,rfl,hb,hbi⟩:=hv;exact ⟨_,_,_,rfl,fun _ _=>rfl,(qvt i hz hp bk bi hb hbi).pre rfl⟩
   | waits2=>obtain ⟨bk,rfl,hb⟩:=hv;exact ⟨_,_,_,rfl,fun _ _=>rfl,(qyx hz hp bk hb).pre rfl⟩
 a {e f v g gK gF z} hv hz hp:=by
   obtain ⟨k,x,p⟩:=z;obtain ⟨rfl,hv⟩:=hv;cases f with
   | ends1=>obtain ⟨bk,rfl,hb⟩:=hv;exact ⟨_,_,_,rfl,fun _ _=>rfl,(q12 hz hp bk hb).pre rfl⟩
   | pshut=>obtain ⟨bk,rfl,hb⟩:=hv;exact ⟨_,_,_,rfl,fun _ _=>rfl,(q1w hz hp bk hb).pre rfl⟩
   | release i=>obtain ⟨bk,bi,rfl,hb,hbi⟩:=hv;exact ⟨_,_,_,rfl,fun _ _=>rfl,(qr0 i hz hp bk bi hb hbi).pre rfl⟩
   | drop=>obtain ⟨bk,rfl,hb⟩:=hv;exact ⟨_,_,_,rfl,fun _ _=>rfl,(q1u hz hp bk hb).pre rfl⟩
 y {e f v g gK gF z} hv hz hp:=by
   obtain ⟨k,x,p⟩:=z;obtain ⟨rfl,hv⟩:=hv;cases f with
   | inside=>obtain ⟨bk,rfl,hb⟩:=hv;exact ⟨_,_,_,rfl,fun _ _=>rfl,((qxy hz bk hb).pre rfl).post (by rintro e gs ⟨gK',gF',h1,h2,rfl⟩;exact ⟨_,⟨gK',gF',h1,h2,rfl⟩,.refl _⟩)⟩
   | idle=>obtain ⟨bk,rfl,hb⟩:=hv;exact ⟨_,_,_,rfl,fun _ _=>rfl,((q2y hz bk hb).pre rfl).post (by rintro e gs ⟨gK',gF',h1,h2,rfl⟩;exact ⟨_,⟨gK',gF',h1,h2,rfl⟩,.refl _⟩)⟩
end
def isSK (L:Lay) (kb:Nat) (pv:Value) (e:List Blk) (k:Yl) (gK:List Blk):Prop:=∃ vl al gl,qwu k vl al gl∧gK=Q1 kb L.fb pv vl al k++(gl++e)
def qql (L:Lay) (x:Qj) (p:Qy) (gF:List Blk):Prop:=∃ gC gP,Qf L x gC∧Xs L.p.pb p gP∧gF=gC++gP
theorem qar {L:Lay} {kb:Nat} {pv:Value} {e gK gF:List Blk} {z:ZS}:qg1 L kb pv e z gK gF↔isSK L kb pv e z.k gK∧qql L z.x z.p gF :=
 ⟨fun ⟨vl,al,gl,gC,gP,a,b,c,d,f⟩=>⟨⟨vl,al,gl,a,d⟩,⟨gC,gP,b,c,f⟩⟩,fun ⟨⟨vl,al,gl,a,d⟩,⟨gC,gP,b,c,f⟩⟩=>⟨vl,al,gl,gC,gP,a,b,c,d,f⟩⟩
def qdm (L:Lay) (kb:Nat) (s:SS) (n:Int) (k:Yl) (g:List Blk):Prop :=
 ∃ (pb:Nat) (e:List Blk) (m d:Value) (gst gK:List Blk),(qu1 L kb (Qb pb)).SV e s m d gst∧isSK L kb (Qb pb) e k gK∧g=Cli.progB pb m d n++(gst++gK)
def stepS (s:SS) (z:ZS):SS × ZS:=St.run Zn Y3 s z
def q0k (s:SS) (z:ZS):Prop:=St.pre Zn Y3 qxd qn5 s z
def qeq (s:SS) (z:ZS):Bool:=s.may qz4 z
theorem quu:∀ (s:SS) {z:ZS},qba z→St.preY (fun (_:YS) (z:ZS)=>qba z) s z
 | .nil,_,_=>trivial
 | .at none _,_,_=>trivial
 | .at (some y) _,_,h=>h
 | .row1 _,_,_=>trivial
 | .row2 _ _,_,_=>trivial
 | .thn s _,_,h=>quu s h
section
variable {L:Lay} {x:Qj} {p:Qy} {g gF:List Blk} {kb:Nat} {s:SS} {n:Int} {k:Yl}
theorem qye (hc:qdm L kb s n k g) (hx:qql L x p gF) (ho:qba ⟨k,x,p⟩) (hm:qeq s ⟨k,x,p⟩=true) (hp:q0k s ⟨k,x,p⟩) (hb:0≤n∧n≤1000000000) :
 Qa prog 336 #[Qb kb] [g,gF] fun en gs=>∃ g' gF',en=.returned (.bool true)∧qdm L kb (stepS s ⟨k,x,p⟩).1 (n+1) (stepS s ⟨k,x,p⟩).2.k g'∧qql L (stepS s ⟨k,x,p⟩).2.x (stepS s ⟨k,x,p⟩).2.p gF'∧gs=[g',gF']:=by
 obtain ⟨pb,e,m,d,gst,gK,hs,hk,rfl⟩:=hc;have hd:=qgl.prog_step (n:=n) (qho L kb (Qb pb)) hs (x:=(⟨k,x,p⟩:ZS)) (qar.2 ⟨hk,hx⟩) (quu s ho) hp pb hb hm;obtain ⟨vl,al,gl,hl,rfl⟩:=hk;refine GO fun w HT=>?_
 have T1:=HT.out.sum (H':=[Q1 kb L.fb (Qb pb) vl al k,Cli.progB pb m d n++(gst++(gl++e)),gF]);have k8:=T1.cell 0 0 rfl 8;simp only [X1,GE3] at k8;have lt:=T1.lt 0 0 rfl;simp only [] at lt;have HD:=Vh hd;have HT:=Vh (HT.out.sum (H':=[Cli.progB pb m d n,gst,Q1 kb L.fb (Qb pb) vl al k++(gl++e),gF]));clear hs hl hx ho hm hp hb hd T1;go_enter func336,ntmps336
 go_wp2_with fail
 refine (Qa.use (HD.out) (HT.out) [0,1,2,3] rfl rfl).mono ?_
 rintro e w1 ⟨gs,⟨e',hle,m',d',gst',gK',gF',rfl,hs',hx',rfl⟩,Ta⟩;simp only [PU] at Ta;have HS:=Vh hs';have HX:=Vh (qar.1 hx');clear hs' hx' k8;have HT:=Vh Ta;clear Ta;go_wp2
 go_ret
 exact ⟨_,⟨_,gF',rfl,⟨pb,e',m',d',gst',gK',HS.out,HX.out.1,rfl⟩,HX.out.2,rfl⟩,HT.out.sum⟩
theorem q2l (hc:qdm L kb s n k g) (hx:qql L x p gF) (ho:qba ⟨k,x,p⟩) (hm:qeq s ⟨k,x,p⟩=false) :
 Qa prog 336 #[Qb kb] [g,gF] fun en gs=>en=.returned (.bool false)∧∃ g' gF',qdm L kb s n k g'∧qql L x p gF'∧gs=[g',gF']:=by
 obtain ⟨pb,e,m,d,gst,gK,hs,hk,rfl⟩:=hc;have hd:=qgl.prog_step_no (n:=n) (qho L kb (Qb pb)) hs (x:=(⟨k,x,p⟩:ZS)) (qar.2 ⟨hk,hx⟩) (quu s ho) pb hm;obtain ⟨vl,al,gl,hl,rfl⟩:=hk;refine GO fun w HT=>?_
 have T1:=HT.out.sum (H':=[Q1 kb L.fb (Qb pb) vl al k,Cli.progB pb m d n++(gst++(gl++e)),gF]);have k8:=T1.cell 0 0 rfl 8;simp only [X1,GE3] at k8;have lt:=T1.lt 0 0 rfl;simp only [] at lt;have HD:=Vh hd;have HS:=Vh hs;have HT:=Vh (HT.out.sum (H':=[Cli.progB pb m d n,gst,Q1 kb L.fb (Qb pb) vl al k++(gl++e),gF]));clear hs hl hx ho hm hd T1;go_enter func336,ntmps336
 go_wp2_with fail
 refine (Qa.use (HD.out) (HT.out) [0,1,2,3] rfl rfl).mono ?_
 rintro e w1 ⟨gs,⟨gK',gF',rfl,hx',rfl⟩,Ta⟩;simp only [PU] at Ta;have HX:=Vh (qar.1 hx');clear hx' k8;have HT:=Vh Ta;clear Ta;go_wp2
 go_ret
 exact ⟨_,⟨rfl,_,gF',⟨pb,e,m,d,gst,gK',HS.out,HX.out.1,rfl⟩,HX.out.2,rfl⟩,HT.out.sum⟩
theorem q16 (hc:qdm L kb s n k g) (hx:qql L x p gF) (ho:qba ⟨k,x,p⟩) :
 Qa prog 335 #[Qb kb] [g,gF] fun en gs=>en=.returned (.bool (qeq s ⟨k,x,p⟩))∧∃ g' gF',qdm L kb s n k g'∧qql L x p gF'∧gs=[g',gF']:=by
 obtain ⟨pb,e,m,d,gst,gK,hs,hk,rfl⟩:=hc;have hd:=qgl.prog_may (n:=n) (qho L kb (Qb pb)) hs (x:=(⟨k,x,p⟩:ZS)) (qar.2 ⟨hk,hx⟩) (quu s ho) pb;have hd:Qa prog 331 _ _ fun en gs=>∃ gK' gF',en=.returned (.bool (qeq s ⟨k,x,p⟩))∧qg1 L kb (Qb pb) e ⟨k,x,p⟩ gK' gF'∧_:=hd
 generalize qeq s ⟨k,x,p⟩=v at *;obtain ⟨vl,al,gl,hl,rfl⟩:=hk;refine GO fun w HT=>?_
 have T1:=HT.out.sum (H':=[Q1 kb L.fb (Qb pb) vl al k,Cli.progB pb m d n++(gst++(gl++e)),gF]);have k8:=T1.cell 0 0 rfl 8;simp only [X1,GE3] at k8;have lt:=T1.lt 0 0 rfl;simp only [] at lt;have HD:=Vh hd;have HS:=Vh hs;have HT:=Vh (HT.out.sum (H':=[Cli.progB pb m d n,gst,Q1 kb L.fb (Qb pb) vl al k++(gl++e),gF]));clear hs hl hx ho hd T1;go_enter func335,ntmps335
 go_wp2_with fail
 refine (Qa.use (HD.out) (HT.out) [0,1,2,3] rfl rfl).mono ?_
 rintro e w1 ⟨gs,⟨gK',gF',rfl,hx',rfl⟩,Ta⟩;simp only [PU] at Ta;have HX:=Vh (qar.1 hx');clear hx' k8;have HT:=Vh Ta;clear Ta;go_wp2
 go_ret
 exact ⟨_,⟨rfl,_,gF',⟨pb,e,m,d,gst,gK',HS.out,HX.out.1,rfl⟩,HX.out.2,rfl⟩,HT.out.sum⟩
theorem qy4 (hc:qdm L kb s n k g):Qe prog 334 #[Qb kb] [g] (.bool s.isNil):=by
 obtain ⟨pb,e,m,d,gst,gK,hs,hk,rfl⟩:=hc;have hd:=qgl.prog_done (qho L kb (Qb pb)) hs pb n;obtain ⟨vl,al,gl,hl,rfl⟩:=hk;refine GO fun w HT=>?_
 have T1:=HT.out.sum (H':=[Q1 kb L.fb (Qb pb) vl al k,Cli.progB pb m d n++(gst++(gl++e))]);have k8:=T1.cell 0 0 rfl 8;simp only [X1,GE3] at k8;have lt:=T1.lt 0 0 rfl;simp only [] at lt;have HD:=Vh hd;have HT:=Vh (HT.out.sum (H':=[Cli.progB pb m d n,gst,Q1 kb L.fb (Qb pb) vl al k++(gl++e)]));clear hs hl hd T1;go_enter func334,ntmps334
 go_wp2_with fail
 refine (Qe.use (HD.out) (HT.out) [0] rfl rfl).mono ?_
 rintro e w1 ⟨rfl,mq,rfl⟩;go_wp2
 go_ret
 exact ⟨rfl,_,rfl⟩
end
theorem Cli.prog_new_v {c:Cli} (h:c.Vals) {s:c.S} {m d:Value} {g:List Blk} (hs:c.SV s m d g):Qa prog 86 #[.agg #[m,d]] [g] fun e gs=>∃ pb,e=.returned (Qb pb)∧gs=[g,Cli.progB pb m d 0]:=by
 obtain ⟨v1,v2⟩:=h.vals hs;refine GO fun w HT=>?_
 clear hs h;rcases v1 with rfl | ⟨fn1,first1,caps1,rfl⟩ <;> rcases v2 with rfl | ⟨fn2,first2,caps2,rfl⟩
 all_goals
  go_enter func86,ntmps86
  go_wp2
  go_ret
  exact ⟨_,⟨_,rfl,rfl⟩,(HT.out.alloc0 _).alloc (k:=w.heap.size+1) (by simp) _ _⟩
def qm6 (th no:Int):Yl:=⟨th,no,0,false,false,[],0⟩
def qnl:SS:=.at none .shuts
section
variable {L:Lay} {x:Qj} {p:Qy} {g gF:List Blk} {kb:Nat} {s:SS} {n:Int} {k:Yl}
theorem qvr (hx:qql L x p gF) (hn:x.tr.length≤1000000) (th no:Int):Qa prog 65 #[Qb L.fb,.int .i64 th,.int .i64 no] [gF] fun en gs =>
 ∃ kb g gF',en=.returned (.tuple #[Qb kb,.int .i64 0])∧qdm L kb qnl 0 (qm6 th no) g∧qql L { x with tr:=x.tr++[evS (qm6 th no) { ev0 with kind:=1 }] } p gF'∧gs=[g,gF']:=by
 obtain ⟨gC,gP,hx,hpp,rfl⟩:=hx;have HS:=Vh (show ∀ kb pv,((qu1 L kb pv).on []).SV (.at none .shuts) .nilFunc (.func (.func 90) #[Qb kb] #[]) [] from fun kb pv=>⟨rfl,rfl,rfl⟩);have HNW:=Vh (show ∀ kb,_ from fun kb=>Cli.prog_new_v (Z5 L kb (.pointer none) []) (HS.out kb (.pointer none)));refine GO fun w HT=>?_
 have HX:=Vh hx;have HPP:=Vh hpp;have HLN:=Vh hn;clear hx hn hpp;go_enter func65,ntmps65
 go_wp2_with fail
 refine Qa.run (HNW.out w.heap.size) ((HT.out.alloc (k:=w.heap.size) rfl 184 (X1 L.fb (.pointer none) (.slice none 0 0) (.slice none 0 0) (qm6 th no))).sum (H':=[gC,gP,[],[cl w.heap.size 184 (X1 L.fb (.pointer none) (.slice none 0 0) (.slice none 0 0) (qm6 th no))]])) [2] ?_
 rintro e w1 gs ⟨pb,rfl,rfl⟩ HT;simp only [PU] at HT;have k8:=HT.out.cell 3 0 rfl 8;have fk8:=HT.out.free 3 0 rfl 8;simp only [X1,GE3] at k8;go_wp2_with fail
 refine (Qa.use (qa1 (pv:=Qb pb) HX.out { ev0 with kind:=1 } HLN.out) ((HT.out.set 3 0 rfl 8 (Qb pb)).eq (H':=[gC,gP,[],Q1 w.heap.size L.fb (Qb pb) (.slice none 0 0) (.slice none 0 0) (qm6 th no),Cli.progB pb .nilFunc (.func (.func 90) #[Qb w.heap.size] #[]) 0]) rfl) [3,0] rfl rfl).mono ?_
 rintro e w1 ⟨gs,⟨rfl,g1,hx1,rfl⟩,Ta⟩;simp only [PU] at Ta;have HX:=Vh hx1;clear hx1 k8 fk8;have HT:=Vh Ta;clear Ta;go_wp2
 go_ret2
 exact ⟨_,⟨_,_,_,rfl,⟨pb,[],_,_,[],[cl w.heap.size 184 (X1 L.fb (Qb pb) (.slice none 0 0) (.slice none 0 0) (qm6 th no))],HS.out _ _,⟨_,_,[],⟨Zi _ _,rfl⟩,rfl⟩,rfl⟩,⟨g1,gP,HX.out,HPP.out,rfl⟩,rfl⟩,((HT.out.pick [4,3,0,1] rfl).eq (H':=[Cli.progB pb .nilFunc (.func (.func 90) #[Qb w.heap.size] #[]) 0,[cl w.heap.size 184 (X1 L.fb (Qb pb) (.slice none 0 0) (.slice none 0 0) (qm6 th no))],g1,gP]) rfl).sum⟩
end
def q2c:SS→Yl→Prop
 | .nil,_=>True
 | .at none .shuts,k=>k.aset=false
 | .at (some .inside) .slots0,k=>k.aset=false
 | .at (some .idle) .waits2,_=>True
 | .row1 .ends1,_=>True
 | .thn (.row1 .pshut) .waits,k=>k.aset=false
 | .thn (.at none (.looks1 i)) (.slots2 j),k=>k.aset=false∧i=j∧0≤i∧i<64
 | .thn (.at none (.leaves0 i)) (.slots2 j),k=>k.aset=false∧i=j∧0≤i∧i<64
 | .thn (.row2 (.release _) .drop) (.slots2 j),k=>k.aset=false∧0≤j∧j<64
 | .thn (.row1 .drop) (.slots2 j),k=>k.aset=false∧0≤j∧j<64
 | _,_=>False
structure JB (N:Nat) (z:ZS):Prop where
 core:Zr N z.x
 cap:z.x.f.cfg.cap=z.x.slab.recs.length
 busy:0≤z.x.f.busy∧z.x.f.busy≤N
 saw:0≤z.k.saw∧z.k.saw<18446744073709551616∧okW z.k.saw=true
 left:z.k.left.length≤N
structure JS (N:Nat) (s:SS) (z:ZS):Prop where
 b:JB N z
 fit:q2c s z.k
theorem JB.mono {N M:Nat} {z:ZS} (h:JB N z) (hm:N≤M):JB M z :=
 ⟨h.core.mono hm,h.cap,by have:=h.busy;omega,h.saw,by have:=h.left;omega⟩
theorem JB.ok {N:Nat} {z:ZS} (h:JB N z) (hN:N≤1000000):qba z :=
 ⟨h.core.ok hN,h.cap,by have:=h.busy;omega,h.saw,by have:=h.left;omega⟩
section
variable {N:Nat} {z:ZS}
theorem qvo {x:Qj} (h:Zr N x) (E:EvS):Zr (N+1) { x with tr:=x.tr++[E] } :=
 ⟨h.slab,h.i0,by have:=h.i1;show x.f.inside≤_;omega,by have:=h.tr;show (x.tr++[_]).length≤_;rw [List.length_append];simp;omega,h.sh,h.rings (by omega)⟩
theorem JB.note (h:JB N z) (E:EvS):JB (N+1) (z.note E) :=
 ⟨qvo h.core _,h.cap,by have:=h.busy;show 0≤z.x.f.busy∧z.x.f.busy≤_;omega,h.saw,by have:=h.left;show z.k.left.length≤_;omega⟩
theorem JB.slab (h:JB N z) {s:Qn} (hs:Zm s) (hl:s.recs.length=z.x.slab.recs.length):JB N { z with x:={ z.x with slab:=s } } :=
 ⟨qr h.core hs,by show z.x.f.cfg.cap=s.recs.length;rw [hl];exact h.cap,h.busy,h.saw,h.left⟩
theorem qwy (h:JB N z) (a:AS):JB (N+1) (Y3 a z):=by
 cases a with
 | ends1=>exact h.note _
 | pshut=>exact (⟨h.core,h.cap,h.busy,h.saw,h.left⟩:JB N { z with p:={ z.p with shut:=true } }).mono (by omega)
 | release i =>
   obtain ⟨a,b⟩:=qbp h.core.slab i (z.x.slab.word i) 10;exact (h.slab a b).mono (by omega)
 | drop =>
   obtain ⟨a,b⟩:=qhs h.core.slab;exact (h.slab a b).mono (by omega)
theorem qco {k:Yl} (h:k.aset=false) {i:Int} (h0:0≤i) (hc:z.x.f.cfg.cap≤64):q2c (qbw i z) k:=by
 unfold qbw qfw;split
 ·exact h
 ·exact ⟨h,rfl,h0,by omega⟩
theorem JB.c64 (h:JB N z):z.x.f.cfg.cap≤64:=by have:=h.cap;have:=h.core.slab.n1;omega
theorem JS.pre {s:SS} (h:JS N s z) (hN:N<1000000):q0k s z:=by
 obtain ⟨hb,hf⟩:=h;have ho:=hb.ok (by omega);have ha:=fun a=>(qwy hb a).ok (by omega)
 match s,hf with
 | .nil,_=>trivial
 | .at none .shuts,hf=>exact ⟨ho,trivial⟩
 | .at (some .inside) .slots0,_=>exact ⟨ho,trivial⟩
 | .at (some .idle) .waits2,_=>exact ⟨ho,trivial⟩
 | .row1 .ends1,_=>exact ho
 | .thn (.row1 .pshut) .waits,_=>exact ⟨ho,fun _=>⟨ha .pshut,trivial⟩⟩
 | .thn (.at none (.looks1 i)) (.slots2 j),hf =>
   obtain ⟨h1,rfl,h3,h4⟩:=hf;refine ⟨⟨ho,h3,by omega⟩,fun _=>?_⟩
   have e:(St.run Zn Y3 (.at none (.looks1 i)) z).2=qk5 i z:=by
    show (Zn (.looks1 i) z).2=_
    dsimp only [Zn]
    split <;> rfl
   rw [e];exact ⟨⟨ho.core,ho.cap,ho.busy,J5 ho.core.slab i,ho.left⟩,h3,by omega⟩
 | .thn (.at none (.leaves0 i)) (.slots2 j),hf =>
   obtain ⟨h1,rfl,h3,h4⟩:=hf;refine ⟨⟨ho,⟨h3,by omega⟩,h1⟩,fun hn=>?_⟩
   have:(St.run Zn Y3 (.at none (.leaves0 i)) z).1.isNil=true:=hn;change (Zn (.leaves0 i) z).1.isNil=true at this
   dsimp only [Zn] at this
   split at this <;> cases this
 | .thn (.row2 (.release i) .drop) (.slots2 j),hf=>exact ⟨ho,fun h=>by cases h⟩
 | .thn (.row1 .drop) (.slots2 j),hf=>exact ⟨ho,fun _=>⟨ha .drop,hf.2.1,by have:=hf.2.2;omega⟩⟩
theorem JS.step {s:SS} (h:JS N s z):JS (N+1) (stepS s z).1 (stepS s z).2:=by
 obtain ⟨hb,hf⟩:=h;have ha:=fun a=>qwy hb a
 have hc:=hb.c64
 match s,hf with
 | .nil,_=>exact ⟨hb.mono (by omega),trivial⟩
 | .at none .shuts,hf =>
   show JS (N+1) (Zn .shuts z).1 (Zn .shuts z).2
   dsimp only [Zn]
   split
   ·have:=hb.note { ev0 with kind:=9,err:=3 }
    exact ⟨⟨this.core,this.cap,this.busy,this.saw,this.left⟩,trivial⟩
   ·exact ⟨JB.note (z:={ z with x:={ z.x with f:={ z.x.f with closed:=true } } }) ⟨⟨hb.core.slab,hb.core.i0,hb.core.i1,hb.core.tr,hb.core.sh,hb.core.ring⟩,hb.cap,hb.busy,hb.saw,hb.left⟩ _,hf⟩
 | .at (some .inside) .slots0,hf=>exact ⟨hb.mono (by omega),qco hf (by decide) hc⟩
 | .at (some .idle) .waits2,_ =>
   have:=hb.note { ev0 with kind:=13 };exact ⟨⟨this.core,this.cap,this.busy,this.saw,this.left⟩,trivial⟩
 | .row1 .ends1,_=>exact ⟨ha .ends1,trivial⟩
 | .thn (.row1 .pshut) .waits,_=>exact ⟨ha .pshut,trivial⟩
 | .thn (.at none (.looks1 i)) (.slots2 j),hf =>
   obtain ⟨h1,rfl,h3,h4⟩:=hf;have hw:JB N (qk5 i z):=⟨hb.core,hb.cap,hb.busy,J5 hb.core.slab i,hb.left⟩
   show JS (N+1) (Xl Zn (Zn (.looks1 i) z).1 (.slots2 i) (Zn (.looks1 i) z).2).1 (Xl Zn (Zn (.looks1 i) z).1 (.slots2 i) (Zn (.looks1 i) z).2).2
   dsimp only [Zn]
   split
   ·exact ⟨hw.mono (by omega),h1,rfl,h3,h4⟩
   ·exact ⟨hw.mono (by omega),qco (z:=qk5 i z) (k:=(qk5 i z).k) (i:=i+1) h1 (by omega) hc⟩
 | .thn (.at none (.leaves0 i)) (.slots2 j),hf =>
   obtain ⟨h1,rfl,h3,h4⟩:=hf;obtain ⟨a,b⟩:=qbp hb.core.slab i z.k.saw 6;have hs:=hb.slab a b
   show JS (N+1) (Xl Zn (Zn (.leaves0 i) z).1 (.slots2 i) (Zn (.leaves0 i) z).2).1 (Xl Zn (Zn (.leaves0 i) z).1 (.slots2 i) (Zn (.leaves0 i) z).2).2
   dsimp only [Zn]
   split
   ·exact ⟨hs.mono (by omega),h1,rfl,h3,h4⟩
   ·have hn:=qvo hs.core (evS { z.k with left:=z.k.left++[(qpv (z.x.slab.try i z.k.saw 6).1 i).1] } { ev0 with kind:=12,id:=(qpv (z.x.slab.try i z.k.saw 6).1 i).1,gen:=Zp (z.x.slab.try i z.k.saw 6).2.1 })
    refine ⟨⟨hn,hs.cap,?_,hs.saw,?_⟩,h1,h3,h4⟩
    ·have:=hb.busy;exact ⟨this.1,by show z.x.f.busy≤_;omega⟩
    ·have:=hb.left;show (z.k.left++[_]).length≤_;rw [List.length_append];simp;omega
 | .thn (.row2 (.release i) .drop) (.slots2 j),hf=>exact ⟨ha (.release i),hf⟩
 | .thn (.row1 .drop) (.slots2 j),hf=>exact ⟨ha .drop,qco (z:=Y3 .drop z) (i:=j+1) hf.1 (by have:=hf.2.1;omega) hc⟩
end
theorem qr3 {n:Nat} (h1:1≤n) (h2:n≤64):zg 0 (Jm n):=by
 refine ⟨?_,?_,Int.le_refl 0,Int.le_refl 0,Int.le_refl 0,Int.le_refl 0⟩ <;> simp [Jm] <;> omega
theorem qyh {c:Cfg} (h:c.ok=true):Zr 0 (q0n c):=by
 obtain ⟨h1,h2,h3,_⟩:=Cfg.bd h;refine ⟨qpp (by omega) (by omega),by show (0:Int)≤0;omega,by show (0:Int)≤0;omega,by show ([]:List EvS).length≤0;simp,?_,?_⟩
 ·show 1≤(List.replicate _ _).length
  rw [List.length_replicate];omega
 ·intro s hs
  obtain ⟨_,rfl⟩:=List.mem_replicate.1 hs;exact qr3 (by omega) (by omega)
structure Qr.wf (c:Qr):Prop where
 id:0≤c.id∧c.id<18446744073709551616
 dl:0≤c.dl∧c.dl<18446744073709551616
 per:0≤c.per∧c.per<18446744073709551616
theorem q15 {N:Nat} {c:Qr} (h:c.wf) (th no:Int) (x:Qj):Zo N (zu th no c) x :=
 ⟨h.dl,h.per,h.id,by show (0:Int)≤0;omega,⟨by show (0:Int)≤0;omega,by show (0:Int) < _;omega,by show okW 0=true;decide⟩,fun q hq=>(by cases hq),fun i t ht=>(by cases ht)⟩
theorem qrs (kd:Int) (k:Qt):qyw (J9 kd) k:=by
 unfold J9;split
 ·trivial
 ·split <;> trivial
end
end Go.Proofs.YtikpbibeagbccaaGreat
