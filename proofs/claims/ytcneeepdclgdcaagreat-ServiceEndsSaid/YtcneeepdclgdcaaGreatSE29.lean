import Derived.Test.YtcneeepdclgdcaaGreatSE27
import Derived.Test.YtcneeepdclgdcaaGreatSE22
import Derived.Test.YtcneeepdclgdcaaGreatSE5
import Derived.Test.YtcneeepdclgdcaaGreatSE23
import Derived.Test.YtcneeepdclgdcaaGreatSE16
import Derived.Test.YtcneeepdclgdcaaGreatSE24
set_option maxRecDepth 100000
set_option maxHeartbeats 4000000
namespace Go.Proofs.YtcneeepdclgdcaaGreat
open Go.Value renaming pointer->U1,int->U2,tuple->UB
open Go.IntKind renaming i64->U3,u64->U4
open _root_.List renaming getElem?_eq_getElem->U5,replicate->U9,length_map->UA,getElem?_eq_some_iff->UC,getElem?_map->UD,length_set->UF,set_cons_succ->UG,getElem?_modify->UI,mem_of_getElem?->UJ,getD_eq_getElem?_getD->UK,length_nil->UM,set_cons_zero->UN,length_cons->UO,take_succ_eq_append_getElem->UQ,length->UT,length_append->UU,setIfInBounds_toArray->UW,getElem?_append_right->UX,getElem?_append_left->V6,getElem?_cons_zero->V8,mem_iff_getElem?->Va,eq_replicate_iff->Vb,take_succ_cons->Vd,drop_succ_cons->Ve,mem_map->Vg,ext_getElem?->Vi,take_length->Vl,take_zero->Vm,drop_zero->Vn,map_map->Vo
open _root_.And renaming intro->U6
open Go.Ending renaming returned->U7
open Go renaming wpQuiet_nil->U8,results_none->UH,bodyPost_end->UR
open Go.World renaming setCell->UE,alloc->UL
open _root_.Exists renaming intro->US
open _root_.Classical renaming byContradiction->UY
open _root_.Array renaming getElem?_eq_getElem->UZ,size_setIfInBounds->V7
open _root_.Option renaming map_some->V9,getD_some->Vk
open _root_.Nat renaming eq_zero_or_pos->Vf,ne_of_gt->Vp,zero_le->Vq
open _root_.Option.some renaming injEq->Vj
open _root_.Ne renaming symm->Vr
set_option linter.all false
open Go.Proofs.Tryz
section
open Go.RowKit Go.Shelf
def jh (w:Xu):Nat:=(w.lv.map ny).sum+w.lT.length
structure ug (vs:List Nat) (bb:Nat) (now n:Nat) (C:Array Value):Prop where
 size:C.size=7
 now:C[0]?=some (U2 U4 now)
 lv:∀ (i:Nat) (v:Nat),vs[i]?=some v->C[1+i]?=some (Qb v)
 lT:C[5]?=some (Qb bb)
 n:C[6]?=some (U2 U3 n)
def X1 (wb:Nat) (w:Xu) (n:Nat) (g:List ak):Prop :=
 ∃ C vs bb bh gV gB gE,ug vs bb w.now n C/\vs.length=4/\w.lv.length=4/\Yy (fun (z:Nat × nG)=>uG z.1 (Qb wb) z.2) (vs.zip w.lv) gV/\zx bb bh (w.lT.map gy.nd) gB/\Yy (qV (Qb wb)) w.lT gE /\
   g=[cl wb 257 C]++(gV++(gB++gE))
def lvl (now:Nat) (due:Nat):Nat:=(max 0 (Be due now)).toNat
def Xu.place (w:Xu) (a:gy):Xu :=
 if 4<=lvl w.now a.e.due then { w with lT:=w.lT++[a] }
 else { w with lv:=w.lv.modify (lvl w.now a.e.due) (fun l=>l.modify (Z9 a.e.due (lvl w.now a.e.due)) (·++[a])) }
structure Df (w:Xu):Prop where
 now:w.now<16777215
 tot:jh w<=999999
theorem Zh {α:Type} {l:List α} {k:Nat} {a:α} (h:l[k]?=some a) (f:α->α):l.modify k f=l.set k (f a):=by
 apply Vi
 intro i;rw [UI,List.getElem?_set];by_cases hi:k=i
 ·subst hi
  have:=(UC.1 h);simp [h,this.1,this.2]
 ·simp [hi]
theorem zh (t l:Nat):Z9 t l<64:=Nat.mod_lt _ (by decide)
theorem q8c {l:List Nat} {k a:Nat} (h:l[k]?=some a):a<=l.sum:=by
 induction l generalizing k with
 | nil=>simp at h
 | cons b l ih =>
   cases k with
   | zero=>simp at h;subst h;simp
   | succ k=>simp at h;have:=ih h;simp;omega
theorem LH {w:Xu} {k:Nat} {l:nG} (h:w.lv[k]?=some l):ny l<=jh w:=by
 have:=q8c (l:=w.lv.map ny) (k:=k) (a:=ny l) (by rw [UD,h];rfl);unfold jh;omega
theorem IM {w:Xu} (h:w.lv.length=4) {k:Nat} (hk:k<4):∃ l,w.lv[k]?=some l:=⟨_,U5 (by omega)⟩
section
variable {wb:Nat} {w:Xu} {n:Nat} {g:List ak}
theorem Sz (hg:X1 wb w n g) (ho:Df w) (a:gy) (ge:List ak) (ha:qV (Qb wb) a ge) :
 Qa prog 309 #[Qb wb,Qb a.eb] [g,ge] fun e gs=>e=U7 (UB #[])/\∃ nb g',X1 wb (w.place { a with nb:=nb }) n g'/\gs=[g']:=by
 obtain ⟨C,vs,bb,bh,gV,gB,gE,hC,hvl,hll,hV,hB,hE,rfl⟩:=hg;obtain ⟨hd,lv,sl,nd,rfl⟩:=ha;have xO:=Vh hd;obtain ⟨lo,hlo⟩:∃ lo,lo=lvl w.now a.e.due:=⟨_,rfl⟩;have hap:max 0 (Be a.e.due w.now)=(lo:Int):=by rw [hlo];unfold lvl;omega
 have zI:=Vh (qnh a.e.due w.now hd (by have:=ho.now;omega));obtain ⟨ap,pE⟩:∃ ap,ap=Be a.e.due w.now:=⟨_,rfl⟩;rw [<- pE] at hap zI;have HBY:=Vh (show w.lT.length<=1000000 from by have:=ho.tot;unfold jh at this;omega);by_cases h4:4<=lo
 ·have uj:=Vh hlo
  have hpl:∀ nb,w.place { a with nb:=nb }={ w with lT:=w.lT++[{ a with nb:=nb }] }:=fun nb=>if_pos (by rw [<- hlo];exact h4)
  simp only [hpl];have hge:decide ((lo:Int) ≥ 4)=true:=decide_eq_true (by omega);refine GO fun w HT=>?_
  have HT:=Vh (HT.out.sum (H':=[[cl wb 257 C],gV,gB,gE,gX a.eb (Qb wb) a.e lv sl (.pointer nd)]));have HC:=Vh hC;have HV:=Vh hV;have HB:=Vh hB;have HE:=Vh hE;have M8:=Vh (U6 hvl hll);have c0:=(HT.out.cell 0 0 rfl 0).trans hC.now;obtain ⟨e6,e8,e9,e10⟩:=Ce4 (HT.out.cell 4 0 rfl) 6 8 9 10;obtain ⟨vD,mD,fK⟩:=Ce3 (HT.out.free 4 0 rfl) 8 9 10;simp only [jF,az] at e6 e8 e9 e10;clear hV hB hE hC ho hlo hpl hd pE hvl hll;go_enter func309,ntmps309
  go_wp2_with fail
  refine qik 13 (by kernel_rfl) (by kernel_rfl) ?_
  simp only [bY]
  repeat (go_big_quiet_step ((first | (go_at_call 320;with_reducible exact Qd.quiet (zI.out) HT.out _ [] rfl rfl))))
  refine U8 (QE fun nq=>?_)
  have HT:=Vh (HT.out.drewN nq);go_wp2_with fail
  refine ⟨rfl,?_⟩
  have HT:=Vh ((HT.out.set 4 0 rfl 8 (U2 U3 lo)).eq (H':=[[cl wb 257 C],gV,gB,gE,gX a.eb (Qb wb) a.e lo sl (.pointer nd)]) rfl);clear c0 e6 e8 vD e9 mD e10 fK;generalize UE _ _ _=w2 at HT |-;obtain ⟨e8,e10⟩:=Ce2 (HT.out.cell 4 0 rfl) 8 10;have fK:=HT.out.free 4 0 rfl 10;simp only [jF,az] at e8 e10;have o5:=HT.out.lt 4 0 rfl;simp only [] at o5;go_wp2_with fail
  obtain ⟨nb,hnb⟩:∃ nb,nb=w2.heap.size:=⟨_,rfl⟩;have HT:=Vh (((HT.out.set 4 0 rfl 10 (Qb nb)).alloc (k:=nb) (by rw [hnb];simp) 378 #[Qb a.eb,U1 none,U1 none,U1 none]).eq (H':=[[cl wb 257 C],gV,gB,gE,gX a.eb (Qb wb) a.e lo sl (Qb nb),[cl nb 378 #[Qb a.eb,U1 none,U1 none,U1 none]]]) rfl);rw [<- hnb];clear e8 e10 fK o5;generalize UL _ _=w3 at HT |-;clear hnb;have e10:=HT.out.cell 4 0 rfl 10;simp only [jF,az] at e10;have c5:=(HT.out.cell 0 0 rfl 5).trans HC.out.lT;refine qik 8 (by kernel_rfl) (by kernel_rfl) ?_
  simp only [bY]
  repeat (go_big_quiet_step ((fail)))
  refine U8 (QE fun nq=>?_)
  have HT:=Vh (HT.out.drewN nq);go_wp2_with fail
  refine (Qa.use (Pz HB.out (by have:=HBY.out;simp only [UA];omega) nb (Qb a.eb) (U1 none) (U1 none)) (HT.out) [2,5] rfl rfl).mono ?_
  rintro e w1 ⟨gs,⟨rfl,g1,hg1,rfl⟩,Ta⟩;simp only [PU] at Ta;have jM:=Vh hg1;clear hg1 e10 c5;have HT:=Vh Ta;clear Ta;go_wp2_with fail
  refine ⟨rfl,?_⟩
  go_wp2
  exact bodyPost_ret (v:=UB #[]) (UH rfl _ _ _) rfl ⟨_,⟨rfl,nb,_,⟨C,vs,bb,bh,gV,g1,gE++gX a.eb (Qb wb) a.e lo sl (Qb nb),HC.out,M8.out.1,M8.out.2,HV.out,(by simpa [gy.nd] using jM.out),Yy.snoc HE.out ⟨xO.out,_,_,_,rfl⟩,rfl⟩,rfl⟩,(HT.out.pick [0,1,2,3,4] rfl).sum⟩
 ·have h:lo=0\/lo=1\/lo=2\/lo=3:=by omega
  obtain ⟨ls,hls⟩:=IM hll (k:=lo) (by omega);obtain ⟨vb,hvb⟩:∃ vb,vs[lo]?=some vb:=⟨_,U5 (by omega)⟩;have hz:(vs.zip w.lv)[lo]?=some (vb,ls):=sN hvb hls;obtain ⟨u,y,hu,hp,hback⟩:=hV.out hz;have lU:ny ls<=1000000:=by have:=LH hls;have:=ho.tot;omega
  simp only at hu;obtain ⟨sl0,hsl⟩:∃ s,ls[Z9 a.e.due lo]?=some s:=⟨_,U5 (by rw [hu.len];exact zh _ _)⟩;clear h4;rcases h with rfl | rfl | rfl | rfl
  ·have uj:=Vh hlo
   have hpl:∀ nb,w.place { a with nb:=nb }={ w with lv:=w.lv.set 0 (ls.set (Z9 a.e.due 0) (sl0++[{ a with nb:=nb }])) }:=fun nb=>by
    unfold Xu.place;rw [<- hlo,if_neg (by decide),Zh hls,Zh hsl]
   simp only [hpl];have rA:=Vh (show Qd prog 312 #[U2 U4 a.e.due,U2 U3 0] [] (U2 U3 (Z9 a.e.due 0)) from Yk a.e.due 0 hd (by decide));have hdl:=zh a.e.due 0;refine GO fun w HT=>?_
   have HT:=Vh (((HT.out.sum (H':=[[cl wb 257 C],gV,gB,gE,gX a.eb (Qb wb) a.e lv sl (.pointer nd)])).bz 1 rfl hp).sum (H':=[[cl wb 257 C],u,gB,gE,gX a.eb (Qb wb) a.e lv sl (.pointer nd),y]));have HC:=Vh hC;have HU:=Vh hu;have r9:=Vh hback;have HB:=Vh hB;have HE:=Vh hE;have xZ:=Vh (hC.lv 0 vb hvb);have ku:=Vh hsl;have lh:=Vh (show ny ls<=1000000 from lU);have jH:=Vh (U6 hvl (U6 hll hvb));generalize Z9 a.e.due 0=dg at *;have c0:=(HT.out.cell 0 0 rfl 0).trans hC.now;obtain ⟨e6,e8,e9,e10⟩:=Ce4 (HT.out.cell 4 0 rfl) 6 8 9 10;obtain ⟨vD,mD,fK⟩:=Ce3 (HT.out.free 4 0 rfl) 8 9 10;simp only [jF,az] at e6 e8 e9 e10;clear hu hB hE hC ho hlo hpl hd pE hV hp hback hls hsl lU hvb hvl hll;go_enter func309,ntmps309
   go_wp2_with fail
   refine qik 13 (by kernel_rfl) (by kernel_rfl) ?_
   simp only [bY]
   repeat (go_big_quiet_step ((first | (go_at_call 320;with_reducible exact Qd.quiet (zI.out) HT.out _ [] rfl rfl))))
   refine U8 (QE fun nq=>?_)
   have HT:=Vh (HT.out.drewN nq);go_wp2_with fail
   refine ⟨rfl,?_⟩
   have HT:=Vh ((HT.out.set 4 0 rfl 8 (U2 U3 0)).eq (H':=[[cl wb 257 C],u,gB,gE,gX a.eb (Qb wb) a.e 0 sl (.pointer nd),y]) rfl);clear c0 e6 e8 vD e9 mD e10 fK;generalize UE _ _ _=w2 at HT |-;obtain ⟨e8,e10⟩:=Ce2 (HT.out.cell 4 0 rfl) 8 10;have fK:=HT.out.free 4 0 rfl 10;simp only [jF,az] at e8 e10;have o5:=HT.out.lt 4 0 rfl;simp only [] at o5;go_wp2_with fail
   obtain ⟨nb,hnb⟩:∃ nb,nb=w2.heap.size:=⟨_,rfl⟩;have HT:=Vh (((HT.out.set 4 0 rfl 10 (Qb nb)).alloc (k:=nb) (by rw [hnb];simp) 378 #[Qb a.eb,U1 none,U1 none,U1 none]).eq (H':=[[cl wb 257 C],u,gB,gE,gX a.eb (Qb wb) a.e 0 sl (Qb nb),y,[cl nb 378 #[Qb a.eb,U1 none,U1 none,U1 none]]]) rfl);rw [<- hnb];clear e8 e10 fK o5;generalize UL _ _=w3 at HT |-;clear hnb;obtain ⟨e6,e8,e9⟩:=Ce3 (HT.out.cell 4 0 rfl) 6 8 9;have mD:=HT.out.free 4 0 rfl 9;simp only [jF,az] at e6 e8 e9;refine qik 12 (by kernel_rfl) (by kernel_rfl) ?_
   simp only [bY]
   repeat (go_big_quiet_step ((first | (go_at_call 312;with_reducible exact Qd.quiet (rA.out) HT.out _ [] rfl rfl))))
   refine U8 (QE fun nq=>?_)
   have HT:=Vh (HT.out.drewN nq);go_wp2_with fail
   refine ⟨rfl,?_⟩
   have HT:=Vh ((HT.out.set 4 0 rfl 9 (U2 U3 dg)).eq (H':=[[cl wb 257 C],u,gB,gE,gX a.eb (Qb wb) a.e 0 dg (Qb nb),y,[cl nb 378 #[Qb a.eb,U1 none,U1 none,U1 none]]]) rfl);clear e6 e8 e9 mD;generalize UE _ _ _=w4 at HT |-;obtain ⟨e8,e9,e10⟩:=Ce3 (HT.out.cell 4 0 rfl) 8 9 10;simp only [jF,az] at e8 e9 e10;have c5:=(HT.out.cell 0 0 rfl (1+0)).trans xZ.out;go_wp2_with fail
   refine qik 17 (by kernel_rfl) (by kernel_rfl) ?_
   simp only [bY]
   repeat (go_big_quiet_step ((fail)))
   refine U8 (QE fun nq=>?_)
   have HT:=Vh (HT.out.drewN nq);go_wp2_with fail
   refine (Qa.use (FZ HU.out ku.out lh.out { a with nb:=nb } (gX a.eb (Qb wb) a.e 0 dg (Qb nb)) ⟨xO.out,_,_,_,rfl⟩ (U1 none) (U1 none)) (HT.out) [1,4,6] rfl rfl).mono ?_
   rintro e w1 ⟨gs,⟨rfl,g1,hg1,rfl⟩,Ta⟩;simp only [PU] at Ta;have jM:=Vh hg1;clear hg1 e8 e9 e10 c5;have HT:=Vh Ta;clear Ta;go_wp2_with fail
   refine ⟨rfl,?_⟩
   go_wp2
   obtain ⟨mF,hV',hp'⟩:=r9.out (vb,ls.set dg (sl0++[{ a with nb:=nb }])) g1 jM.out;exact UR (UH rfl _ _ _) rfl ⟨_,⟨rfl,nb,_,⟨C,vs,bb,bh,mF,gB,gE,HC.out,jH.out.1,(by rw [UF];exact jH.out.2.1),(by rw [<- Yv 0 jH.out.2.2];exact hV'),HB.out,HE.out,rfl⟩,rfl⟩,(((HT.out.sum (H':=[[cl wb 257 C],g1++y,gB,gE])).bz 1 rfl hp').sum)⟩
  ·have uj:=Vh hlo
   have hpl:∀ nb,w.place { a with nb:=nb }={ w with lv:=w.lv.set 1 (ls.set (Z9 a.e.due 1) (sl0++[{ a with nb:=nb }])) }:=fun nb=>by
    unfold Xu.place;rw [<- hlo,if_neg (by decide),Zh hls,Zh hsl]
   simp only [hpl];have rA:=Vh (show Qd prog 312 #[U2 U4 a.e.due,U2 U3 1] [] (U2 U3 (Z9 a.e.due 1)) from Yk a.e.due 1 hd (by decide));have hdl:=zh a.e.due 1;refine GO fun w HT=>?_
   have HT:=Vh (((HT.out.sum (H':=[[cl wb 257 C],gV,gB,gE,gX a.eb (Qb wb) a.e lv sl (.pointer nd)])).bz 1 rfl hp).sum (H':=[[cl wb 257 C],u,gB,gE,gX a.eb (Qb wb) a.e lv sl (.pointer nd),y]));have HC:=Vh hC;have HU:=Vh hu;have r9:=Vh hback;have HB:=Vh hB;have HE:=Vh hE;have xZ:=Vh (hC.lv 1 vb hvb);have ku:=Vh hsl;have lh:=Vh (show ny ls<=1000000 from lU);have jH:=Vh (U6 hvl (U6 hll hvb));generalize Z9 a.e.due 1=dg at *;have c0:=(HT.out.cell 0 0 rfl 0).trans hC.now;obtain ⟨e6,e8,e9,e10⟩:=Ce4 (HT.out.cell 4 0 rfl) 6 8 9 10;obtain ⟨vD,mD,fK⟩:=Ce3 (HT.out.free 4 0 rfl) 8 9 10;simp only [jF,az] at e6 e8 e9 e10;clear hu hB hE hC ho hlo hpl hd pE hV hp hback hls hsl lU hvb hvl hll;go_enter func309,ntmps309
   go_wp2_with fail
   refine qik 13 (by kernel_rfl) (by kernel_rfl) ?_
   simp only [bY]
   repeat (go_big_quiet_step ((first | (go_at_call 320;with_reducible exact Qd.quiet (zI.out) HT.out _ [] rfl rfl))))
   refine U8 (QE fun nq=>?_)
   have HT:=Vh (HT.out.drewN nq);go_wp2_with fail
   refine ⟨rfl,?_⟩
   have HT:=Vh ((HT.out.set 4 0 rfl 8 (U2 U3 1)).eq (H':=[[cl wb 257 C],u,gB,gE,gX a.eb (Qb wb) a.e 1 sl (.pointer nd),y]) rfl);clear c0 e6 e8 vD e9 mD e10 fK;generalize UE _ _ _=w2 at HT |-;obtain ⟨e8,e10⟩:=Ce2 (HT.out.cell 4 0 rfl) 8 10;have fK:=HT.out.free 4 0 rfl 10;simp only [jF,az] at e8 e10;have o5:=HT.out.lt 4 0 rfl;simp only [] at o5;go_wp2_with fail
   obtain ⟨nb,hnb⟩:∃ nb,nb=w2.heap.size:=⟨_,rfl⟩;have HT:=Vh (((HT.out.set 4 0 rfl 10 (Qb nb)).alloc (k:=nb) (by rw [hnb];simp) 378 #[Qb a.eb,U1 none,U1 none,U1 none]).eq (H':=[[cl wb 257 C],u,gB,gE,gX a.eb (Qb wb) a.e 1 sl (Qb nb),y,[cl nb 378 #[Qb a.eb,U1 none,U1 none,U1 none]]]) rfl);rw [<- hnb];clear e8 e10 fK o5;generalize UL _ _=w3 at HT |-;clear hnb;obtain ⟨e6,e8,e9⟩:=Ce3 (HT.out.cell 4 0 rfl) 6 8 9;have mD:=HT.out.free 4 0 rfl 9;simp only [jF,az] at e6 e8 e9;refine qik 12 (by kernel_rfl) (by kernel_rfl) ?_
   simp only [bY]
   repeat (go_big_quiet_step ((first | (go_at_call 312;with_reducible exact Qd.quiet (rA.out) HT.out _ [] rfl rfl))))
   refine U8 (QE fun nq=>?_)
   have HT:=Vh (HT.out.drewN nq);go_wp2_with fail
   refine ⟨rfl,?_⟩
   have HT:=Vh ((HT.out.set 4 0 rfl 9 (U2 U3 dg)).eq (H':=[[cl wb 257 C],u,gB,gE,gX a.eb (Qb wb) a.e 1 dg (Qb nb),y,[cl nb 378 #[Qb a.eb,U1 none,U1 none,U1 none]]]) rfl);clear e6 e8 e9 mD;generalize UE _ _ _=w4 at HT |-;obtain ⟨e8,e9,e10⟩:=Ce3 (HT.out.cell 4 0 rfl) 8 9 10;simp only [jF,az] at e8 e9 e10;have c5:=(HT.out.cell 0 0 rfl (1+1)).trans xZ.out;go_wp2_with fail
   refine qik 17 (by kernel_rfl) (by kernel_rfl) ?_
   simp only [bY]
   repeat (go_big_quiet_step ((fail)))
   refine U8 (QE fun nq=>?_)
   have HT:=Vh (HT.out.drewN nq);go_wp2_with fail
   refine (Qa.use (FZ HU.out ku.out lh.out { a with nb:=nb } (gX a.eb (Qb wb) a.e 1 dg (Qb nb)) ⟨xO.out,_,_,_,rfl⟩ (U1 none) (U1 none)) (HT.out) [1,4,6] rfl rfl).mono ?_
   rintro e w1 ⟨gs,⟨rfl,g1,hg1,rfl⟩,Ta⟩;simp only [PU] at Ta;have jM:=Vh hg1;clear hg1 e8 e9 e10 c5;have HT:=Vh Ta;clear Ta;go_wp2_with fail
   refine ⟨rfl,?_⟩
   go_wp2
   obtain ⟨mF,hV',hp'⟩:=r9.out (vb,ls.set dg (sl0++[{ a with nb:=nb }])) g1 jM.out;exact UR (UH rfl _ _ _) rfl ⟨_,⟨rfl,nb,_,⟨C,vs,bb,bh,mF,gB,gE,HC.out,jH.out.1,(by rw [UF];exact jH.out.2.1),(by rw [<- Yv 1 jH.out.2.2];exact hV'),HB.out,HE.out,rfl⟩,rfl⟩,(((HT.out.sum (H':=[[cl wb 257 C],g1++y,gB,gE])).bz 1 rfl hp').sum)⟩
  ·have uj:=Vh hlo
   have hpl:∀ nb,w.place { a with nb:=nb }={ w with lv:=w.lv.set 2 (ls.set (Z9 a.e.due 2) (sl0++[{ a with nb:=nb }])) }:=fun nb=>by
    unfold Xu.place;rw [<- hlo,if_neg (by decide),Zh hls,Zh hsl]
   simp only [hpl];have rA:=Vh (show Qd prog 312 #[U2 U4 a.e.due,U2 U3 2] [] (U2 U3 (Z9 a.e.due 2)) from Yk a.e.due 2 hd (by decide));have hdl:=zh a.e.due 2;refine GO fun w HT=>?_
   have HT:=Vh (((HT.out.sum (H':=[[cl wb 257 C],gV,gB,gE,gX a.eb (Qb wb) a.e lv sl (.pointer nd)])).bz 1 rfl hp).sum (H':=[[cl wb 257 C],u,gB,gE,gX a.eb (Qb wb) a.e lv sl (.pointer nd),y]));have HC:=Vh hC;have HU:=Vh hu;have r9:=Vh hback;have HB:=Vh hB;have HE:=Vh hE;have xZ:=Vh (hC.lv 2 vb hvb);have ku:=Vh hsl;have lh:=Vh (show ny ls<=1000000 from lU);have jH:=Vh (U6 hvl (U6 hll hvb));generalize Z9 a.e.due 2=dg at *;have c0:=(HT.out.cell 0 0 rfl 0).trans hC.now;obtain ⟨e6,e8,e9,e10⟩:=Ce4 (HT.out.cell 4 0 rfl) 6 8 9 10;obtain ⟨vD,mD,fK⟩:=Ce3 (HT.out.free 4 0 rfl) 8 9 10;simp only [jF,az] at e6 e8 e9 e10;clear hu hB hE hC ho hlo hpl hd pE hV hp hback hls hsl lU hvb hvl hll;go_enter func309,ntmps309
   go_wp2_with fail
   refine qik 13 (by kernel_rfl) (by kernel_rfl) ?_
   simp only [bY]
   repeat (go_big_quiet_step ((first | (go_at_call 320;with_reducible exact Qd.quiet (zI.out) HT.out _ [] rfl rfl))))
   refine U8 (QE fun nq=>?_)
   have HT:=Vh (HT.out.drewN nq);go_wp2_with fail
   refine ⟨rfl,?_⟩
   have HT:=Vh ((HT.out.set 4 0 rfl 8 (U2 U3 2)).eq (H':=[[cl wb 257 C],u,gB,gE,gX a.eb (Qb wb) a.e 2 sl (.pointer nd),y]) rfl);clear c0 e6 e8 vD e9 mD e10 fK;generalize UE _ _ _=w2 at HT |-;obtain ⟨e8,e10⟩:=Ce2 (HT.out.cell 4 0 rfl) 8 10;have fK:=HT.out.free 4 0 rfl 10;simp only [jF,az] at e8 e10;have o5:=HT.out.lt 4 0 rfl;simp only [] at o5;go_wp2_with fail
   obtain ⟨nb,hnb⟩:∃ nb,nb=w2.heap.size:=⟨_,rfl⟩;have HT:=Vh (((HT.out.set 4 0 rfl 10 (Qb nb)).alloc (k:=nb) (by rw [hnb];simp) 378 #[Qb a.eb,U1 none,U1 none,U1 none]).eq (H':=[[cl wb 257 C],u,gB,gE,gX a.eb (Qb wb) a.e 2 sl (Qb nb),y,[cl nb 378 #[Qb a.eb,U1 none,U1 none,U1 none]]]) rfl);rw [<- hnb];clear e8 e10 fK o5;generalize UL _ _=w3 at HT |-;clear hnb;obtain ⟨e6,e8,e9⟩:=Ce3 (HT.out.cell 4 0 rfl) 6 8 9;have mD:=HT.out.free 4 0 rfl 9;simp only [jF,az] at e6 e8 e9;refine qik 12 (by kernel_rfl) (by kernel_rfl) ?_
   simp only [bY]
   repeat (go_big_quiet_step ((first | (go_at_call 312;with_reducible exact Qd.quiet (rA.out) HT.out _ [] rfl rfl))))
   refine U8 (QE fun nq=>?_)
   have HT:=Vh (HT.out.drewN nq);go_wp2_with fail
   refine ⟨rfl,?_⟩
   have HT:=Vh ((HT.out.set 4 0 rfl 9 (U2 U3 dg)).eq (H':=[[cl wb 257 C],u,gB,gE,gX a.eb (Qb wb) a.e 2 dg (Qb nb),y,[cl nb 378 #[Qb a.eb,U1 none,U1 none,U1 none]]]) rfl);clear e6 e8 e9 mD;generalize UE _ _ _=w4 at HT |-;obtain ⟨e8,e9,e10⟩:=Ce3 (HT.out.cell 4 0 rfl) 8 9 10;simp only [jF,az] at e8 e9 e10;have c5:=(HT.out.cell 0 0 rfl (1+2)).trans xZ.out;go_wp2_with fail
   refine qik 17 (by kernel_rfl) (by kernel_rfl) ?_
   simp only [bY]
   repeat (go_big_quiet_step ((fail)))
   refine U8 (QE fun nq=>?_)
   have HT:=Vh (HT.out.drewN nq);go_wp2_with fail
   refine (Qa.use (FZ HU.out ku.out lh.out { a with nb:=nb } (gX a.eb (Qb wb) a.e 2 dg (Qb nb)) ⟨xO.out,_,_,_,rfl⟩ (U1 none) (U1 none)) (HT.out) [1,4,6] rfl rfl).mono ?_
   rintro e w1 ⟨gs,⟨rfl,g1,hg1,rfl⟩,Ta⟩;simp only [PU] at Ta;have jM:=Vh hg1;clear hg1 e8 e9 e10 c5;have HT:=Vh Ta;clear Ta;go_wp2_with fail
   refine ⟨rfl,?_⟩
   go_wp2
   obtain ⟨mF,hV',hp'⟩:=r9.out (vb,ls.set dg (sl0++[{ a with nb:=nb }])) g1 jM.out;exact UR (UH rfl _ _ _) rfl ⟨_,⟨rfl,nb,_,⟨C,vs,bb,bh,mF,gB,gE,HC.out,jH.out.1,(by rw [UF];exact jH.out.2.1),(by rw [<- Yv 2 jH.out.2.2];exact hV'),HB.out,HE.out,rfl⟩,rfl⟩,(((HT.out.sum (H':=[[cl wb 257 C],g1++y,gB,gE])).bz 1 rfl hp').sum)⟩
  ·have uj:=Vh hlo
   have hpl:∀ nb,w.place { a with nb:=nb }={ w with lv:=w.lv.set 3 (ls.set (Z9 a.e.due 3) (sl0++[{ a with nb:=nb }])) }:=fun nb=>by
    unfold Xu.place;rw [<- hlo,if_neg (by decide),Zh hls,Zh hsl]
   simp only [hpl];have rA:=Vh (show Qd prog 312 #[U2 U4 a.e.due,U2 U3 3] [] (U2 U3 (Z9 a.e.due 3)) from Yk a.e.due 3 hd (by decide));have hdl:=zh a.e.due 3;refine GO fun w HT=>?_
   have HT:=Vh (((HT.out.sum (H':=[[cl wb 257 C],gV,gB,gE,gX a.eb (Qb wb) a.e lv sl (.pointer nd)])).bz 1 rfl hp).sum (H':=[[cl wb 257 C],u,gB,gE,gX a.eb (Qb wb) a.e lv sl (.pointer nd),y]));have HC:=Vh hC;have HU:=Vh hu;have r9:=Vh hback;have HB:=Vh hB;have HE:=Vh hE;have xZ:=Vh (hC.lv 3 vb hvb);have ku:=Vh hsl;have lh:=Vh (show ny ls<=1000000 from lU);have jH:=Vh (U6 hvl (U6 hll hvb));generalize Z9 a.e.due 3=dg at *;have c0:=(HT.out.cell 0 0 rfl 0).trans hC.now;obtain ⟨e6,e8,e9,e10⟩:=Ce4 (HT.out.cell 4 0 rfl) 6 8 9 10;obtain ⟨vD,mD,fK⟩:=Ce3 (HT.out.free 4 0 rfl) 8 9 10;simp only [jF,az] at e6 e8 e9 e10;clear hu hB hE hC ho hlo hpl hd pE hV hp hback hls hsl lU hvb hvl hll;go_enter func309,ntmps309
   go_wp2_with fail
   refine qik 13 (by kernel_rfl) (by kernel_rfl) ?_
   simp only [bY]
   repeat (go_big_quiet_step ((first | (go_at_call 320;with_reducible exact Qd.quiet (zI.out) HT.out _ [] rfl rfl))))
   refine U8 (QE fun nq=>?_)
   have HT:=Vh (HT.out.drewN nq);go_wp2_with fail
   refine ⟨rfl,?_⟩
   have HT:=Vh ((HT.out.set 4 0 rfl 8 (U2 U3 3)).eq (H':=[[cl wb 257 C],u,gB,gE,gX a.eb (Qb wb) a.e 3 sl (.pointer nd),y]) rfl);clear c0 e6 e8 vD e9 mD e10 fK;generalize UE _ _ _=w2 at HT |-;obtain ⟨e8,e10⟩:=Ce2 (HT.out.cell 4 0 rfl) 8 10;have fK:=HT.out.free 4 0 rfl 10;simp only [jF,az] at e8 e10;have o5:=HT.out.lt 4 0 rfl;simp only [] at o5;go_wp2_with fail
   obtain ⟨nb,hnb⟩:∃ nb,nb=w2.heap.size:=⟨_,rfl⟩;have HT:=Vh (((HT.out.set 4 0 rfl 10 (Qb nb)).alloc (k:=nb) (by rw [hnb];simp) 378 #[Qb a.eb,U1 none,U1 none,U1 none]).eq (H':=[[cl wb 257 C],u,gB,gE,gX a.eb (Qb wb) a.e 3 sl (Qb nb),y,[cl nb 378 #[Qb a.eb,U1 none,U1 none,U1 none]]]) rfl);rw [<- hnb];clear e8 e10 fK o5;generalize UL _ _=w3 at HT |-;clear hnb;obtain ⟨e6,e8,e9⟩:=Ce3 (HT.out.cell 4 0 rfl) 6 8 9;have mD:=HT.out.free 4 0 rfl 9;simp only [jF,az] at e6 e8 e9;refine qik 12 (by kernel_rfl) (by kernel_rfl) ?_
   simp only [bY]
   repeat (go_big_quiet_step ((first | (go_at_call 312;with_reducible exact Qd.quiet (rA.out) HT.out _ [] rfl rfl))))
   refine U8 (QE fun nq=>?_)
   have HT:=Vh (HT.out.drewN nq);go_wp2_with fail
   refine ⟨rfl,?_⟩
   have HT:=Vh ((HT.out.set 4 0 rfl 9 (U2 U3 dg)).eq (H':=[[cl wb 257 C],u,gB,gE,gX a.eb (Qb wb) a.e 3 dg (Qb nb),y,[cl nb 378 #[Qb a.eb,U1 none,U1 none,U1 none]]]) rfl);clear e6 e8 e9 mD;generalize UE _ _ _=w4 at HT |-;obtain ⟨e8,e9,e10⟩:=Ce3 (HT.out.cell 4 0 rfl) 8 9 10;simp only [jF,az] at e8 e9 e10;have c5:=(HT.out.cell 0 0 rfl (1+3)).trans xZ.out;go_wp2_with fail
   refine qik 17 (by kernel_rfl) (by kernel_rfl) ?_
   simp only [bY]
   repeat (go_big_quiet_step ((fail)))
   refine U8 (QE fun nq=>?_)
   have HT:=Vh (HT.out.drewN nq);go_wp2_with fail
   refine (Qa.use (FZ HU.out ku.out lh.out { a with nb:=nb } (gX a.eb (Qb wb) a.e 3 dg (Qb nb)) ⟨xO.out,_,_,_,rfl⟩ (U1 none) (U1 none)) (HT.out) [1,4,6] rfl rfl).mono ?_
   rintro e w1 ⟨gs,⟨rfl,g1,hg1,rfl⟩,Ta⟩;simp only [PU] at Ta;have jM:=Vh hg1;clear hg1 e8 e9 e10 c5;have HT:=Vh Ta;clear Ta;go_wp2_with fail
   refine ⟨rfl,?_⟩
   go_wp2
   obtain ⟨mF,hV',hp'⟩:=r9.out (vb,ls.set dg (sl0++[{ a with nb:=nb }])) g1 jM.out;exact UR (UH rfl _ _ _) rfl ⟨_,⟨rfl,nb,_,⟨C,vs,bb,bh,mF,gB,gE,HC.out,jH.out.1,(by rw [UF];exact jH.out.2.1),(by rw [<- Yv 3 jH.out.2.2];exact hV'),HB.out,HE.out,rfl⟩,rfl⟩,(((HT.out.sum (H':=[[cl wb 257 C],g1++y,gB,gE])).bz 1 rfl hp').sum)⟩
end
theorem F6 {α:Type} {P:α->List ak->Prop} {a:α} {l:List α} {g:List ak} (h:Yy P (a::l) g):∃ x y,P a x/\Yy P l y/\g=x++y:=h
theorem drop_at {α:Type} {l:List α} {i:Nat} {a:α} (h:l[i]?=some a):l.drop i=a::l.drop (i+1):=by
 obtain ⟨h1,h2⟩:=UC.1 h;rw [List.drop_eq_getElem_cons h1,h2]
def Qg.place (w:Qg) (e:gU):Qg :=
 if 4<=lvl w.now e.due then { w with lT:=w.lT++[e] }
 else { w with lv:=w.lv.modify (lvl w.now e.due) (fun l=>l.modify (Z9 e.due (lvl w.now e.due)) (·++[e])) }
def Qg.dL (w:Qg) (l:List gU):Qg:=l.foldl Qg.place w
def Qg.slot (w:Qg) (l k:Nat):List gU:=(w.lv.getD l []).getD k []
def Qg.clear (w:Qg) (l k:Nat):Qg:={ w with lv:=w.lv.modify l (fun s=>s.set k []) }
def Qg.again (w:Qg) (l:Nat):Qg:=(w.clear l (Z9 w.now l)).dL (w.slot l (Z9 w.now l))
theorem Kj {α β:Type} (f:α->β) (g:α->α) (h:β->β) (hc:∀ a,f (g a)=h (f a)) (l:List α) (k:Nat):(l.modify k g).map f=(l.map f).modify k h:=by
 apply Vi
 intro i;simp only [UD,UI];split
 ·cases l[i]? <;> simp [hc]
 ·cases l[i]? <;> simp
theorem L9 (w:Xu) (a:gy):(w.place a).s=w.s.place a.e:=by
 unfold Xu.place Qg.place;have hn:w.s.now=w.now:=rfl;rw [hn];split
 ·unfold Xu.s;simp
 ·unfold Xu.s
  simp only;congr 1
  refine Kj _ _ _ (fun l=>?_) _ _
  exact Kj _ _ _ (fun s=>by simp) _ _
theorem q3w (w:Xu) (l k:Nat):({ w with lv:=w.lv.modify l (fun s=>s.set k []) }:Xu).s=w.s.clear l k:=by
 unfold Xu.s Qg.clear;simp only;congr 1
 refine Kj _ _ _ (fun s=>?_) _ _
 rw [List.map_set];rfl
def zt (w:Qg):Nat:=(w.lv.map fun l=>(l.map UT).sum).sum+w.lT.length
theorem uJ (w:Xu):jh w=zt w.s:=by
 unfold jh zt Xu.s ny;simp [Vo,Function.comp_def]
structure Qg.Sh (w:Qg):Prop where
 l4:w.lv.length=4
 yG:∀ l∈w.lv,l.length=64
def Qg.down:Nat->Qg->Qg
 | 0,w=>w
 | l+1,w=>(w.again (l+1)).down l
def Qg.fH (w:Qg):Qg × List gU :=
 let w2:=Qg.down (min (J6 (w.now+1)) 3) { w with now:=w.now+1 }
 (w2.clear 0 (Z9 w2.now 0),w2.slot 0 (Z9 w2.now 0))
theorem Qg.iL (l:List gU):∀ w:Qg,(w.dL l).now=w.now:=by
 induction l with
 | nil=>intro w;rfl
 | cons a l ih =>
   intro w
   show ((w.place a).dL l).now=_
   rw [ih];unfold Qg.place;split <;> rfl
theorem Qg.kN (w:Qg) (l:Nat):(w.again l).now=w.now:=Qg.iL _ _
theorem Qg.jQ:∀ (n:Nat) (w:Qg),(w.down n).now=w.now
 | 0,w=>rfl
 | l+1,w=>by show ((w.again (l+1)).down l).now=_;rw [Qg.jQ l,Qg.kN]
theorem Qg.iX {w:Qg} (h:w.Sh) (l k:Nat):(w.clear l k).Sh:=by
 refine ⟨by unfold Qg.clear;simp [h.l4],fun m hm=>?_⟩
 unfold Qg.clear at hm;simp only at hm;obtain ⟨i,hi⟩:=Va.1 hm;rw [UI] at hi;cases hq:w.lv[i]? with
 | none=>rw [hq] at hi;cases hi
 | some q =>
   rw [hq] at hi;have mH:=h.yG q (UJ hq);by_cases e:l=i
   ·simp [e] at hi;subst hi;simpa using mH
   ·simp [e] at hi;subst hi;exact mH
theorem Qg.jX {w:Qg} (h:w.Sh) (a:gU):(w.place a).Sh:=by
 unfold Qg.place;split
 ·exact ⟨h.l4,h.yG⟩
 ·refine ⟨by simp [h.l4],fun m hm=>?_⟩
  simp only at hm;obtain ⟨i,hi⟩:=Va.1 hm;rw [UI] at hi;cases hq:w.lv[i]? with
  | none=>rw [hq] at hi;cases hi
  | some q =>
    rw [hq] at hi;have mH:=h.yG q (UJ hq);by_cases e:lvl w.now a.due=i
    ·simp [e] at hi;subst hi;simpa using mH
    ·simp [e] at hi;subst hi;exact mH
theorem Qg.pQ (l:List gU):∀ {w:Qg},w.Sh->(w.dL l).Sh:=by
 induction l with
 | nil=>intro w h;exact h
 | cons a l ih=>intro w h;exact ih (Qg.jX h a)
theorem Qg.jP {w:Qg} (h:w.Sh) (l:Nat):(w.again l).Sh:=Qg.pQ _ (Qg.iX h _ _)
theorem Qg.ow:∀ (n:Nat) {w:Qg},w.Sh->(w.down n).Sh
 | 0,_,h=>h
 | l+1,_,h=>Qg.ow l (Qg.jP h (l+1))
theorem qg {α:Type} {f:α->Nat}:∀ {l:List α} {k:Nat} {a:α},l[k]?=some a->∀ b,((l.set k b).map f).sum+f a=(l.map f).sum+f b
 | [],k,a,h,b=>by simp at h
 | c::l,0,a,h,b=>by simp at h;subst h;simp;omega
 | c::l,k+1,a,h,b=>by
   simp only [List.getElem?_cons_succ] at h;have:=qg (f:=f) h b;simp only [UG,List.map_cons,List.sum_cons];omega
theorem qw {w:Qg} (h:w.Sh) (a:gU):zt (w.place a)=zt w+1:=by
 unfold Qg.place;split
 ·unfold zt;simp;omega
 ·next hl =>
  obtain ⟨q,hq⟩:∃ q,w.lv[lvl w.now a.due]?=some q:=⟨_,U5 (by rw [h.l4];omega)⟩;have mH:=h.yG q (UJ hq);obtain ⟨s,hs⟩:∃ s,q[Z9 a.due (lvl w.now a.due)]?=some s:=⟨_,U5 (by rw [mH];exact zh _ _)⟩;unfold zt;simp only;rw [Zh hq,Zh hs];have h1:=qg (f:=fun l:List (List gU)=>(l.map UT).sum) hq (q.set (Z9 a.due (lvl w.now a.due)) (s++[a]));have h2:=qg (f:=(UT:List gU->Nat)) hs (s++[a]);simp only [UU,UO,UM] at h2
  try simp only at h1
  omega
theorem OV (l:List gU):∀ {w:Qg},w.Sh->zt (w.dL l)=zt w+l.length:=by
 induction l with
 | nil=>intro w _;rfl
 | cons a l ih =>
   intro w h
   show zt ((w.place a).dL l)=_
   rw [ih (Qg.jX h a),qw h a];simp;omega
theorem Fz {w:Qg} (h:w.Sh) {l k:Nat} (hl:l<4) (hk:k<64):zt (w.clear l k)+(w.slot l k).length=zt w:=by
 obtain ⟨q,hq⟩:∃ q,w.lv[l]?=some q:=⟨_,U5 (by rw [h.l4];omega)⟩;have mH:=h.yG q (UJ hq);obtain ⟨s,hs⟩:∃ s,q[k]?=some s:=⟨_,U5 (by omega)⟩;unfold Qg.clear Qg.slot zt;simp only;rw [Zh hq];have h1:=qg (f:=fun l:List (List gU)=>(l.map UT).sum) hq (q.set k []);have h2:=qg (f:=(UT:List gU->Nat)) hs [];simp only [UM] at h2
 try simp only at h1
 rw [UK,UK,hq,Vk,hs,Vk];omega
theorem P9 {w:Qg} (h:w.Sh) {l:Nat} (hl:l<4):zt (w.again l)=zt w:=by
 unfold Qg.again;rw [OV _ (Qg.iX h _ _)];exact Fz h hl (zh _ _)
theorem Rc:∀ (n:Nat) {w:Qg},w.Sh->n<=3->zt (w.down n)=zt w
 | 0,_,_,_=>rfl
 | l+1,w,h,hn=>by
   show zt ((w.again (l+1)).down l)=_
   rw [Rc l (Qg.jP h _) (by omega),P9 h (by omega)]
theorem qse {t:Nat} (h:∀ j,j<4->Z9 t j=0):t % 16777216=0:=by
 have h0:=h 0 (by decide);have h1:=h 1 (by decide);have h2:=h 2 (by decide);have h3:=h 3 (by decide);unfold Z9 at h0 h1 h2 h3;simp only [Nat.reducePow] at h0 h1 h2 h3;omega
theorem qyu {t:Nat} (h0:0<t) (h1:t<16777216):J6 t<4:=by
 by_cases h:∀ j,j<4->Z9 t j=0
 ·have:=qse h;omega
 ·have hex:∃ j,j<4/\Z9 t j≠0:=by
   apply UY
   intro hn;exact h fun j hj=>UY fun hz=>hn ⟨j,hj,hz⟩
  have hk:Z9 t 0≠0\/Z9 t 0=0/\(Z9 t 1≠0\/Z9 t 1=0/\(Z9 t 2≠0\/Z9 t 2=0/\Z9 t 3≠0)):=by
   obtain ⟨j,hj,hz⟩:=hex;have:j=0\/j=1\/j=2\/j=3:=by omega
   rcases this with rfl | rfl | rfl | rfl <;> omega
  rcases hk with hk | ⟨e0,hk | ⟨e1,hk | ⟨e2,hk⟩⟩⟩
  ·rw [Dv (by decide) hk (fun j hj=>absurd hj (Nat.not_lt_zero _))];decide
  ·rw [Dv (k:=1) (by decide) hk (fun j hj=>by (obtain rfl:j=0:=by omega);exact e0)];decide
  ·rw [Dv (k:=2) (by decide) hk (fun j hj=>by
    have:j=0\/j=1:=by omega
    rcases this with rfl | rfl <;> assumption)];decide
  ·rw [Dv (k:=3) (by decide) hk (fun j hj=>by
    have:j=0\/j=1\/j=2:=by omega
    rcases this with rfl | rfl | rfl <;> assumption)];decide
section
variable {wb:Nat} {W0:Xu} {n:Nat} {g:List ak}
theorem Sw (w:Xu) {l k:Nat} {ls:nG} (hls:w.lv[l]?=some ls):({ w with lv:=w.lv.set l (ls.set k []) }:Xu).s=w.s.clear l k:=by
 rw [<- q3w,Zh hls]
theorem Ma {w:Xu} {l k:Nat} {ls:nG} {sl:List gy} (hls:w.lv[l]?=some ls) (hsl:ls[k]?=some sl):w.s.slot l k=sl.map gy.e:=by
 unfold Qg.slot Xu.s;simp [UK,UD,hls,hsl]
theorem q3g (hg:X1 wb W0 n g) (hsh:W0.s.Sh) (ho:Df W0) (l:Nat) (hl:l<4) :
 Qa prog 310 #[Qb wb,U2 U3 l] [g] fun e gs=>e=U7 (UB #[])/\∃ w' g',X1 wb w' n g'/\w'.s=W0.s.again l/\gs=[g']:=by
 obtain ⟨C,vs,bb,bh,gV,gB,gE,hC,hvl,hll,hV,hB,hE,rfl⟩:=hg;obtain ⟨ls,hls⟩:=IM hll (k:=l) hl;obtain ⟨vb,hvb⟩:∃ vb,vs[l]?=some vb:=⟨_,U5 (by omega)⟩;have hz:(vs.zip W0.lv)[l]?=some (vb,ls):=sN hvb hls;obtain ⟨u,y,hu,hp,hback⟩:=hV.out hz;have lU:ny ls<=1000000:=by have:=LH hls;have:=ho.tot;omega
 simp only at hu;have vJ:W0.now<16777215:=ho.now;have hwn:W0.s.now=W0.now:=rfl;obtain ⟨sl,hsl⟩:∃ s,ls[Z9 W0.now l]?=some s:=⟨_,U5 (by rw [hu.len];exact zh _ _)⟩
 have hag:W0.s.again l=(W0.s.clear l (Z9 W0.now l)).dL (sl.map gy.e):=by
  unfold Qg.again;rw [hwn,Ma hls hsl]
 have hcl:({ W0 with lv:=W0.lv.set l (ls.set (Z9 W0.now l) []) }:Xu).s=W0.s.clear l (Z9 W0.now l):=Sw W0 hls
 have htot:zt (W0.s.clear l (Z9 W0.now l))+sl.length<=999999:=by
  have:=Fz hsh hl (zh W0.now l);rw [Ma hls hsl,UA] at this;have h2:=ho.tot;rw [uJ] at h2;omega
 have yD:=Qg.iX hsh l (Z9 W0.now l);have hcn:(W0.s.clear l (Z9 W0.now l)).now=W0.now:=rfl;have rA:=Vh (show Qd prog 312 #[U2 U4 W0.now,U2 U3 l] [] (U2 U3 (Z9 W0.now l)) from Yk W0.now l (by omega) hl);have hdl:=zh W0.now l;rw [hag];generalize Z9 W0.now l=dg at *;obtain ⟨S1,hS1⟩:∃ S1,S1=W0.s.clear l dg:=⟨_,rfl⟩;rw [<- hS1] at hcl htot yD hcn |-;refine GO fun w HT=>?_
 have HT:=Vh (((HT.m [[cl wb 257 C],gV,gB,gE]).bz 1 rfl hp).m [[cl wb 257 C],u,gB,gE,y]);have HC:=Vh hC;have HU:=Vh hu;have r9:=Vh hback;have HB:=Vh hB;have HE:=Vh hE;have ku:=Vh hsl;have lh:=Vh lU;have jH:=Vh (U6 hvl (U6 hll hvb));have iB:=Vh hcl;have mr:=Vh (U6 htot (U6 yD (U6 hcn vJ)));have c0:=(HT.c 0 0 0).trans hC.now;have c1:=(HT.cell 0 0 rfl (1+l)).trans (hC.lv l vb hvb);have hlb:(l:Int)<4:=by omega
 clear hu hB hE hC ho hV hp hback hls hsl lU hvb hvl hll hz hwn hag hcl htot yD hcn vJ hsh hdl hS1;go_enter func310,ntmps310
 go_wp2_with fail
 refine O1 12 (by kernel_rfl) (by kernel_rfl) rfl rfl rfl rfl ?_
 simp only [Vd,Vm,Ve,Vn,UO,UM,Nat.reduceAdd,Nat.reduceSub,Act.put,Act.eval,UW,UG,UN]
 repeat (go_big_quiet_step ((first | (go_at_call 312;with_reducible exact Qd.quiet (rA.out) HT.out _ [] rfl rfl))))
 refine U8 (QT HT fun nq HT=>?_)
 go_wp2_with fail
 refine Qa.run (RG HU ku lh) (HT) [1] ?_
 rintro e w1 gs ⟨v,gr,gn,ge,g1,rfl,hr,hn,he,hg1,rfl⟩ HT;simp only [PU] at HT;obtain ⟨av,cap,pF⟩:=Q3.val hr;subst pF;have HR:=Vh hr;have HN:=Vh hn;have rC:=Vh he;have jM:=Vh hg1;clear hr hn he hg1 c0 c1;go_wp2_with fail
 refine ⟨rfl,?_⟩
 obtain ⟨mF,hV',hp'⟩:=r9.out (vb,ls.set dg []) g1 jM
 have hw1:X1 wb { W0 with lv:=W0.lv.set l (ls.set dg []) } n ([cl wb 257 C]++(mF++(gB++gE))) :=
  ⟨C,vs,bb,bh,mF,gB,gE,HC,jH.1,by rw [UF];exact jH.2.1,by rw [<- Yv l jH.out.2.2];exact hV',HB,HE,rfl⟩
 have T1:=((HT.m [[cl wb 257 C],g1++y,gB,gE,gr,gn,ge]).bz 1 rfl hp').sum (H':=[[cl wb 257 C]++(mF++(gB++gE)),gr,gn,ge]);generalize [cl wb 257 C]++(mF++(gB++gE))=gW0 at hw1 T1;have HW1:=Vh hw1;clear hw1 hV' hp' HT;have hln:sl.length<=999999:=by have:=mr.1;omega
 go_wp2
 go_loopw [5,20] (fun _ i wr=>∃ j:Nat,j<=sl.length/\i=U2 U3 j/\∃ wj gW wY wX,X1 wb wj n gW/\wj.s=S1.dL ((sl.take j).map gy.e)/\Yy (fun a=>q9 a.nd) (sl.drop j) wY/\Yy (qV (Qb wb)) (sl.drop j) wX /\
  TG [[cl wb 257 C]++(gV++(gB++gE))] w [gW,gr,wY,wX] wr) (fun _ i _=>sl.length+1 - (intOf i).toNat)
 case atStart=>exact ⟨0,Vq _,rfl,_,gW0,gn,ge,HW1,by rw [iB.out];rfl,by simpa using HN.out,by simpa using rC.out,T1⟩
 case round =>
  obtain ⟨j,hj,rfl,wj,gW,wY,wX,Ac,hws,hn,he,T⟩:=hrel;have HT:=Vh T;have MH:=Vh Ac;have HWS:=Vh hws;clear T T1 Ac;by_cases hlt:j<sl.length
  ·obtain ⟨a,ha⟩:∃ a,sl[j]?=some a:=⟨_,U5 hlt⟩
   rw [drop_at ha] at hn he;obtain ⟨x1,y1,hx1,hy1,rfl⟩:=F6 hn;obtain ⟨x2,y2,hx2,hy2,rfl⟩:=F6 he;have yF:x1=[cl a.nb 378 #[Qb a.eb,U1 none,U1 none,U1 none]]:=hx1;subst yF;obtain ⟨rb,cap',cur,hv,rfl,_,_,_,dQ⟩:=HR.open (by omega);cases hv
   have hcj:=dQ j (by omega);rw [UD,ha] at hcj
   have hok:Df wj:=by
    have h1:wj.now=S1.now:=by
     have:wj.s.now=S1.now:=by rw [hws,Qg.iL]
     exact this
    refine ⟨by rw [h1,mr.out.2.2.1];exact mr.2.2.2,?_⟩
    rw [uJ,hws,OV _ mr.out.2.1,UA,List.length_take];have:=mr.1;omega
   have uu:=Vh (Sz MH hok a x2 hx2);have GU:=Vh hy1;have GV:=Vh hy2;have HA:=Vh ha
   have hps:∀ nb,(wj.place { a with nb:=nb }).s=S1.dL ((sl.take (j+1)).map gy.e):=fun nb=>by
    rw [L9,hws,UQ hlt,List.map_append];have:sl[j]=a:=(UC.1 ha).2;rw [this];unfold Qg.dL;rw [List.foldl_append];rfl
   have HPS:=Vh hps;have HT:=Vh (HT.out.sum (H':=[gW,x2,[cl rb 315 cur],[cl a.nb 378 #[Qb a.eb,U1 none,U1 none,U1 none]],y1,y2]));have r0:=(HT.cell 2 0 rfl j).trans hcj;have b0:=HT.c 3 0 0;simp only [bP,V9] at r0 b0;clear hn he hx1 hx2 hy1 hy2 hcj dQ hok hps hws ha;go_wp2_with fail
   refine Qa.run uu HT [0,1] ?_
   rintro e w1 gs ⟨rfl,nb',g2,hg2,rfl⟩ HT;simp only [PU] at HT;have xQ:=Vh hg2;clear hg2;go_wp2
   first | go_roundw | refine ⟨?rel,?measure⟩ | ((repeat apply US);refine ⟨⟨?rel,rfl⟩,?measure⟩)
   case rel=>exact ⟨j+1,by omega,by go_num,_,g2,y1,y2,xQ,HPS nb',GU,GV,HT.p [0,2,4,5]⟩
   case measure=>simp [intOf];omega
  ·obtain rfl:j=sl.length:=by omega
   have e:sl.take sl.length=sl:=Vl;rw [e] at hws;go_wp2
   exact UR (UH rfl _ _ _) rfl ⟨_,⟨rfl,wj,gW,MH,hws,rfl⟩,HT.p [0]⟩
end
section
variable {wb:Nat} {W0:Xu} {n:Nat} {g:List ak}
theorem ug.count {vs:List Nat} {bb now n:Nat} {C:Array Value} (h:ug vs bb now n C) (hl:vs.length=4) (m:Nat):ug vs bb now m (C.setIfInBounds 6 (U2 U3 m)):=by
 refine ⟨by simpa using h.size,(Qc (by omega)).trans h.now,fun i v hv=>(Qc ?_).trans (h.lv i v hv),(Qc (by omega)).trans h.lT,?_⟩
 ·have:=(UC.1 hv).1;omega
 ·exact Xe h.n
theorem ug.clock {vs:List Nat} {bb now n:Nat} {C:Array Value} (h:ug vs bb now n C) (m:Nat):ug vs bb m n (C.setIfInBounds 0 (U2 U4 m)) :=
 ⟨by simpa using h.size,Xe h.now,fun i v hv=>(Qc (by omega)).trans (h.lv i v hv),(Qc (by omega)).trans h.lT,(Qc (by omega)).trans h.n⟩
theorem X1.open {g:List ak} (h:X1 wb W0 n g):∃ C vs bb gR,ug vs bb W0.now n C/\vs.length=4/\g=[cl wb 257 C]++gR /\
 ∀ (now' n':Nat) C',ug vs bb now' n' C'->X1 wb { W0 with now:=now' } n' ([cl wb 257 C']++gR):=by
 obtain ⟨C,vs,bb,bh,gV,gB,gE,hC,hvl,hll,hV,hB,hE,rfl⟩:=h;exact ⟨C,vs,bb,gV++(gB++gE),hC,hvl,rfl,fun now' n' C' h'=>⟨C',vs,bb,bh,gV,gB,gE,h',hvl,hll,hV,hB,hE,rfl⟩⟩
theorem qpw {W0:Xu} (h:W0.s.Sh) (a:gy):jh (W0.place a)=jh W0+1:=by
 rw [uJ,uJ,L9];exact qw h a.e
theorem q0l (hg:X1 wb W0 (jh W0) g) (hsh:W0.s.Sh) (ho:Df W0) (d:Nat) (hd:d<18446744073709551616) (hlt:W0.now<d) (v:Qp) :
 Qa prog 331 #[Qb wb,U2 U4 d,.agg v.cells] [g] fun e gs=>∃ eb,e=U7 (UB #[Qb eb,U2 U3 0])/\∃ w' g',X1 wb w' (jh w') g'/\w'.s=W0.s.place ⟨d,v,d⟩/\gs=[g']:=by
 have HPG:=Vh (show ∀ g',X1 wb W0 (jh W0) g'->_ from fun g' hg' a ge ha=>Sz (g:=g') hg' ho a ge ha);have htot:=ho.tot;have HTP:=Vh (show ∀ nb eb,(W0.place ⟨eb,nb,⟨d,v,d⟩⟩).s=W0.s.place ⟨d,v,d⟩/\jh (W0.place ⟨eb,nb,⟨d,v,d⟩⟩)=jh W0+1 from fun nb eb=>⟨L9 _ _,qpw hsh _⟩);have HW:=Vh hg;obtain ⟨C,vs,bb,gR,hC,hvl,rfl,hback⟩:=hg.open;have hle:decide ((d:Int)<=(W0.now:Int))=false:=decide_eq_false (by omega);have hle2:¬ d<=W0.now:=by omega
 refine GO fun w HT=>?_
 have HT:=Vh (HT.out.m [[cl wb 257 C],gR]);have c0:=(HT.c 0 0 0).trans hC.now;have lt:=HT.l 0 0;simp only [] at lt;have HD:=Vh hd;clear hC hvl hsh ho hlt hback hg hd;simp only [Qp.cells];go_enter func331,ntmps331
 go_wp2_with fail
 obtain ⟨eb,EU⟩:∃ eb,eb=w.heap.size+1:=⟨_,rfl⟩;have HT:=Vh ((((HT.aT (.cells #[U2 U4 v.id,U2 U3 v.slot,U2 U4 v.gen,U2 U4 v.dl,U2 U4 v.per] 40)).alloc (k:=eb) (by rw [EU];simp) 376 (jF (Qb wb) ⟨d,v,d⟩ 0 0 (U1 none))).m [[cl wb 257 C]++gR,[cl eb 376 (jF (Qb wb) ⟨d,v,d⟩ 0 0 (U1 none))]]).eq (H':=[[cl wb 257 C]++gR,gX eb (Qb wb) ⟨d,v,d⟩ 0 0 (U1 none)]) rfl);simp only [jF] at HT;rw [<- EU];clear EU c0 lt hle hle2;generalize UL (UL w _) _=w1 at HT |-;go_wp2_with fail
 refine Qa.run (HPG _ HW ⟨eb,0,⟨d,v,d⟩⟩ (gX eb (Qb wb) ⟨d,v,d⟩ 0 0 (U1 none)) ⟨HD,0,0,none,rfl⟩) (HT) [0,1] ?_
 rintro e w1 gs ⟨rfl,nb,g2,hg2,rfl⟩ HT;simp only [PU] at HT;have HP:=Vh (HTP.out nb eb);generalize W0.place ⟨eb,nb,⟨d,v,d⟩⟩=w2 at hg2 HP;obtain ⟨C2,vs2,bb2,MQ,hC2,rZ,rfl,jo⟩:=hg2.open
 have hfin:X1 wb w2 (jh w2) ([cl wb 257 (C2.setIfInBounds 6 (U2 U3 ((jh W0:Int)+1)))]++MQ):=by
  have:=jo w2.now (jh W0+1) _ (hC2.count rZ _);rw [HP.out.2];exact this
 have HF:=Vh hfin;have HT:=Vh (HT.out.m [[cl wb 257 C2],MQ]);have c6:=(HT.c 0 0 6).trans hC2.n;have f6:=HT.f 0 0 6;clear hg2 hC2 rZ jo hfin;generalize jh W0=N at *;go_wp2
 go_ret2
 exact ⟨_,⟨eb,rfl,w2,_,HF,HP.1,rfl⟩,(HT.set 0 0 rfl 6 _).sum⟩
end
theorem Tryz.nR:(prog.info? 284).map (fun i=>(i.zero,i.size,i.bytes))=some (some (U1 none),1,8):=by kernel_rfl
section
variable {wb:Nat} {W0:Xu} {n:Nat} {g:List ak}
def Bt (wb:Nat) (W0:Qg) (e:Ending) (gs:GH):Prop :=
 ∃ (v:Value) (l:List gy) (gr ge:List ak) (w':Xu) (g':List ak),e=U7 (UB #[v,U2 U3 0])/\l.map gy.e=W0.fH.2/\Q3 284 1 v l.length (l.map fun a=>Qb a.eb) gr /\
   Yy (qV (U1 none)) l ge/\X1 wb w' (jh w') g'/\w'.s=W0.fH.1/\gs=[g',gr,ge]
theorem qu5 (hg:X1 wb W0 (jh W0) g) (hsh:W0.s.Sh) (hn:W0.now<16000000) (ht:jh W0<=999999) :
 Qa prog 295 #[Qb wb] [g] (Bt wb W0.s):=by
 have hz:=qyu (t:=W0.now+1) (by omega) (by omega);have HA:=Vh (JV W0.now 1 (by omega) (by omega) (by omega));have HZ:=Vh (show Qa prog 307 #[U2 U4 ((W0.now:Int)+1)] [] _ from qnj (W0.now+1) (by omega))
 have vE:W0.s.fH=(let w2:=Qg.down (J6 (W0.now+1)) { W0.s with now:=W0.now+1 };(w2.clear 0 (Z9 w2.now 0),w2.slot 0 (Z9 w2.now 0))):=by
  unfold Qg.fH;have:min (J6 (W0.s.now+1)) 3=J6 (W0.now+1):=Nat.min_eq_left (by show J6 (W0.now+1)<=3;omega);rw [this];rfl
 have hD:=Qg.jQ (J6 (W0.now+1)) { W0.s with now:=W0.now+1 };obtain ⟨S2,hS2⟩:∃ S2,S2=Qg.down (J6 (W0.now+1)) { W0.s with now:=W0.now+1 }:=⟨_,rfl⟩;rw [<- hS2] at vE hD;simp only [] at vE;unfold Bt;rw [vE];generalize J6 (W0.now+1)=z at *;obtain ⟨C,vs,bb,gR,hC,hvl,rfl,hback⟩:=hg.open;refine GO fun w HT=>?_
 have HT:=Vh (HT.out.m [[cl wb 257 C],gR]);have c0:=(HT.c 0 0 0).trans hC.now;have f0:=HT.f 0 0 0;have HC:=Vh hC;have hW1:=hback (W0.now+1) (jh W0) _ (hC.clock (W0.now+1));have HW1:=Vh (show X1 wb { W0 with now:=W0.now+1 } (jh W0) ([cl wb 257 (C.setIfInBounds 0 (U2 U4 ((W0.now:Int)+1)))]++gR) from hW1);have kr:=Vh hsh;have HD:=Vh hD;have HS2:=Vh hS2;have hzi:¬ ((z:Int) ≥ 4):=by omega
 have hmin:min (z:Int) 3=z:=by omega
 clear hC hvl hback hg hsh vE hD hS2 hW1;go_enter func295,ntmps295
 go_wp2_with fail
 refine Qa.run HA HT [] ?_
 rintro e w1 gs ⟨rfl,rfl⟩ HT;simp only [PU] at HT;clear c0 f0;have c0:=(HT.c 0 0 0).trans HC.now;have f0:=HT.f 0 0 0;go_wp2_with fail
 refine Qa.run HZ (HT.set 0 0 rfl 0 (U2 U4 ((W0.now:Int)+1))) [] ?_
 rintro e w1 gs ⟨rfl,rfl⟩ HT;simp only [PU] at HT;clear c0 f0;go_wp2
 have T1:=HT.m [[cl wb 257 (C.setIfInBounds 0 (U2 U4 ((W0.now:Int)+1)))]++gR];have HB:=Vh (show ({ W0.s with now:=W0.now+1 }:Qg).Sh/\zt { W0.s with now:=W0.now+1 }=jh W0 from ⟨⟨kr.l4,kr.yG⟩,(uJ W0).symm⟩);generalize jh W0=N at *;generalize [cl wb 257 (C.setIfInBounds 0 (U2 U4 ((W0.now:Int)+1)))]++gR=iZ at HW1 T1;clear HT hmin hzi HC
 go_loopw [9] (fun l wr=>∃ j:Nat,j<=3/\l=U2 U3 j/\∃ wj gW,X1 wb wj N gW/\wj.s.down j=S2/\wj.s.Sh/\wj.now=W0.now+1/\zt wj.s=N/\TG [[cl wb 257 C]++gR] w [gW] wr) (fun l _=>(intOf l).toNat)
 case atStart=>exact ⟨z,by omega,rfl,_,iZ,HW1,HS2.symm,HB.1,rfl,HB.2,T1⟩
 case round =>
  obtain ⟨j,hj,rfl,wj,gW,Ac,hdn,hsj,EY,htj,T⟩:=hrel;have HT:=Vh T;clear T T1 HW1 HS2 HB;cases j with
  | succ j =>
    have hok:Df wj:=⟨by omega,by rw [uJ];omega⟩;have hag:=q3g Ac hsj hok (j+1) (by omega);have HAG:=Vh (show Qa prog 310 #[Qb wb,U2 U3 ((j:Int)+1)] [gW] _ from hag)
    have hX:∀ w':Xu,w'.s=wj.s.again (j+1)->w'.s.down j=S2/\w'.s.Sh/\w'.now=W0.now+1/\zt w'.s=N:=fun w' h=>by
     rw [h];refine ⟨hdn,Qg.jP hsj _,?_,?_⟩
     ·have h1:w'.s.now=wj.s.now:=by rw [h,Qg.kN]
      exact (show w'.now=wj.now from h1).trans EY
     ·rw [P9 hsj (by omega),htj]
    have HX:=Vh hX;have hj1:((j+1:Nat):Int)=(j:Int)+1:=by omega
    simp only [hj1];clear hdn hsj EY htj hok hag hX Ac hj1;go_wp2_with fail
    refine Qa.run HAG HT [0] ?_
    rintro e w1 gs ⟨rfl,w',g',hg',hs',rfl⟩ HT;simp only [PU] at HT;have HG:=Vh hg';have HY:=Vh (HX.out w' hs');clear hg' hs';go_wp2
    first | go_roundw | refine ⟨?rel,?measure⟩ | ((repeat apply US);refine ⟨⟨?rel,rfl⟩,?measure⟩)
    case rel=>exact ⟨j,by omega,rfl,w',g',HG,HY.1,HY.2.1,HY.2.2.1,HY.2.2.2,HT⟩
    case measure=>simp [intOf] <;> omega
  | zero =>
    have Ik:wj.s=S2:=hdn;subst Ik;obtain ⟨C2,vs2,bb2,bh2,gV,gB,gE,hC2,rZ,y8,hV,hB,hE,rfl⟩:=Ac;obtain ⟨ls,hls⟩:=IM y8 (k:=0) (by decide);obtain ⟨vb,hvb⟩:∃ vb,vs2[0]?=some vb:=⟨_,U5 (by omega)⟩;have hz:(vs2.zip wj.lv)[0]?=some (vb,ls):=sN hvb hls;obtain ⟨u,y,hu,hp,hback⟩:=hV.out hz;have qK:jh wj=N:=(uJ wj).trans htj;have lU:ny ls<=1000000:=by have:=LH hls;omega
    simp only at hu;have hwn:wj.s.now=W0.now+1:=EY;obtain ⟨sl,hsl⟩:∃ s,ls[Z9 (W0.now+1) 0]?=some s:=⟨_,U5 (by rw [hu.len];exact zh _ _)⟩;have hcl:({ wj with lv:=wj.lv.set 0 (ls.set (Z9 (W0.now+1) 0) []) }:Xu).s=wj.s.clear 0 (Z9 (W0.now+1) 0):=Sw wj hls;have rW:=Ma hls hsl;have htot:=Fz hsj (l:=0) (by decide) (zh (W0.now+1) 0);rw [rW,UA,htj] at htot;have rA:=Vh (show Qd prog 312 #[U2 U4 ((W0.now:Int)+1),U2 U3 0] [] (U2 U3 (Z9 (W0.now+1) 0)) from Yk (W0.now+1) 0 (by omega) (by decide));have hdl:=zh (W0.now+1) 0;have xP:=Vh (U6 (show Z9 wj.s.now 0=Z9 (W0.now+1) 0 by rw [hwn]) rW);generalize Z9 (W0.now+1) 0=dg at *;have HT:=Vh (((HT.m [[cl wb 257 C2],gV,gB,gE]).bz 1 rfl hp).m [[cl wb 257 C2],u,gB,gE,y]);have HC:=Vh hC2;have HU:=Vh hu;have r9:=Vh hback;have HB:=Vh hB;have HE:=Vh hE;have ku:=Vh hsl;have lh:=Vh lU;have jH:=Vh (U6 rZ (U6 y8 hvb));have iB:=Vh hcl;have mr:=Vh htot;have c1:=(HT.c 0 0 1).trans (hC2.lv 0 vb hvb);clear hu hB hE hC2 hV hp hback hls hsl lU hvb rZ y8 hz hwn rW hcl htot EY hsj hdl hdn htj qK;go_wp2_with fail
    refine O1 7 (by kernel_rfl) (by kernel_rfl) rfl rfl rfl rfl ?_
    simp only [Vd,Vm,Ve,Vn,UO,UM,Nat.reduceAdd,Nat.reduceSub,Act.put,Act.eval,UW,UG,UN]
    repeat (go_big_quiet_step ((first | (go_at_call 312;with_reducible exact Qd.quiet (rA.out) HT.out _ [] rfl rfl))))
    refine U8 (QT HT fun nq HT=>?_)
    go_wp2_with fail
    refine Qa.run (RG HU ku lh) (HT) [1] ?_
    rintro e w1 gs ⟨v,gr,gn,ge,g1,rfl,hr,hn,he,hg1,rfl⟩ HT;simp only [PU] at HT;obtain ⟨av,cap,pF⟩:=Q3.val hr;subst pF;have HR:=Vh hr;have HN:=Vh hn;have rC:=Vh he;have jM:=Vh hg1;clear hr hn he hg1 c1;go_wp2_with fail
    refine ⟨rfl,?_⟩
    obtain ⟨mF,hV',hp'⟩:=r9.out (vb,ls.set dg []) g1 jM
    have jC:∀ (m:Nat) (C':Array Value),ug vs2 bb2 wj.now m C'->X1 wb { wj with lv:=wj.lv.set 0 (ls.set dg []) } m ([cl wb 257 C']++(mF++(gB++gE))):=fun m C' h' =>
     ⟨C',vs2,bb2,bh2,mF,gB,gE,h',jH.1,by rw [UF];exact jH.2.1,by rw [<- Yv 0 jH.out.2.2];exact hV',HB,HE,rfl⟩
    have T1:=((HT.m [[cl wb 257 C2],g1++y,gB,gE,gr,gn,ge]).bz 1 rfl hp').m [[cl wb 257 C2],mF++(gB++gE),gr,gn,[],[],ge];generalize mF++(gB++gE)=mE at jC T1;have HWH:=Vh jC;clear jC hV' hp' HT;have hln:sl.length<=999999:=by have:=mr.out;omega
    go_wp2
    go_loopw [10,12,66] (fun out _ i wr=>∃ j:Nat,j<=sl.length/\i=U2 U3 j/\∃ (m:Nat) (Cj:Array Value) (gq wY gd wX:List ak),m+j=N/\ug vs2 bb2 wj.now m Cj/\Q3 284 1 out j ((sl.take j).map fun a=>Qb a.eb) gq /\
     Yy (fun a=>q9 a.nd) (sl.drop j) wY/\Yy (qV (U1 none)) (sl.take j) gd/\Yy (qV (Qb wb)) (sl.drop j) wX /\
     TG [[cl wb 257 C]++gR] w [[cl wb 257 Cj],mE,gr,wY,gq,gd,wX] wr) (fun _ _ i _=>sl.length+1 - (intOf i).toNat)
    case atStart=>exact ⟨0,Vq _,rfl,N,C2,[],gn,[],ge,rfl,HC,X7 _ _,by simpa using HN.out,rfl,by simpa using rC.out,T1⟩
    case round =>
     obtain ⟨j,hj,rfl,m,Cj,gq,wY,gd,wX,hm,hcj,hq,hn,hd,he,T⟩:=hrel;have HT:=Vh T;have Gw:=Vh hcj;have HQ:=Vh hq;have Bw:=Vh hd;obtain ⟨aq,capq,hv⟩:=Q3.val hq;subst hv;clear T T1 hcj hq hd;by_cases hlt:j<sl.length
     ·obtain ⟨a,ha⟩:∃ a,sl[j]?=some a:=⟨_,U5 hlt⟩
      rw [drop_at ha] at hn he;obtain ⟨x1,y1,hx1,hy1,rfl⟩:=F6 hn;obtain ⟨x2,y2,⟨vG,zQ,zS,zR,rfl⟩,hy2,rfl⟩:=F6 he;have yF:x1=[cl a.nb 378 #[Qb a.eb,U1 none,U1 none,U1 none]]:=hx1;subst yF;obtain ⟨rb,cap',cur,hv,rfl,_,_,_,dQ⟩:=HR.open (by omega);cases hv
      have hcj:=dQ j (by omega);rw [UD,ha] at hcj;obtain ⟨m',rfl⟩:∃ m',m=m'+1:=⟨m - 1,by have:=mr.out;omega⟩;have GU:=Vh hy1;have GV:=Vh hy2;have xO:=Vh vG
      have hq2:(sl.take (j+1))=sl.take j++[a]:=by
       rw [UQ hlt,(UC.1 ha).2]
      have BF:=Vh hq2;have HMJ:=Vh hm;have HT:=Vh (HT.out.sum (H':=[[cl wb 257 Cj],mE,[cl rb 315 cur],[cl a.nb 378 #[Qb a.eb,U1 none,U1 none,U1 none]],y1,gq,gd,gX a.eb (Qb wb) a.e zQ zS (.pointer zR),y2]));have r0:=(HT.cell 2 0 rfl j).trans hcj;have b0:=HT.c 3 0 0;have e7:=HT.c 7 0 7;have f7:=HT.f 7 0 7;have c6:=(HT.c 0 0 6).trans (show Cj[6]?=some (U2 U3 ((m':Int)+1)) from Gw.out.n);have f6:=HT.f 0 0 6;have ne1:=HT.ne 0 0 7 0 (by decide) rfl rfl;have xe:=HT.ne 3 0 7 0 (by decide) rfl rfl;have xg:=HT.ne 0 0 3 0 (by decide) rfl rfl;simp only [] at ne1 xe xg;have o7:=Vr ne1;have N5:=Vr xe;have N6:=Vr xg;simp only [az,V9,jF] at r0 b0 e7;have hmb:m'<=999999:=by omega
      have GL:=Vh ((HT.set 7 0 rfl 7 (U1 none)).set 0 0 rfl 6 (U2 U3 (m':Int)));simp only [UN,UG,List.getD_cons_zero,List.getD_cons_succ] at GL;clear hn he hx1 hy1 hy2 hcj dQ ha hq2 vG hm
      have hnw:∀ j u,([Qb a.eb]:List Value)[j]?=some u->(((wr.setCell ⟨a.eb,7,none⟩ (U1 none)).setCell ⟨wb,6,none⟩ (U2 U3 (m':Int))).alloc (.cells #[Qb a.eb] 284)).cell? ((⟨wr.heap.size,0,none⟩:Addr).add j)=some u:=by
       have:=Zy ((wr.setCell ⟨a.eb,7,none⟩ (U1 none)).setCell ⟨wb,6,none⟩ (U2 U3 (m':Int))) 284 [Qb a.eb];rw [Zv,Zv] at this;exact this
      have kz:=Vh hnw;clear hnw;go_wp2_with (at_builtin;(with_reducible refine Z0 rfl (.tmp 83) (.tmp 88) 360 rfl 284 1 8 _ underlying360 Tryz.nR rfl (by decide) ((GL.out).aT _) 5 rfl rfl (HQ.out) rfl ⟨wr.heap.size,0,none⟩ 1 1 [Qb a.eb] rfl rfl kz.out (by simp [Value.oneCell']) (by unfold maxLen;omega) (by omega) ?_);intro v1 w2 rO r1 T1;simp only [UN,UG] at T1;have T1:=Vh T1;have r1:=Vh r1)
      have HQ1:=Vh (show Q3 284 1 v1 (j+1) ((sl.take (j+1)).map fun a=>Qb a.eb) rO from by rw [BF.out];simpa using r1.out);have Gy:=Vh (show Yy (qV (U1 none)) (sl.take (j+1)) (gd++gX a.eb (U1 none) a.e zQ zS (.pointer zR)) from by rw [BF.out];exact Yy.snoc Bw ⟨xO,_,_,_,rfl⟩);have Gx:=Vh (Gw.out.count jH.1 m');have T2:=((T1.eq (H':=[[cl wb 257 (Cj.setIfInBounds 6 (U2 U3 (m':Int)))],mE,[cl rb 315 cur],[cl a.nb 378 #[Qb a.eb,U1 none,U1 none,U1 none]],y1,rO,gd,gX a.eb (U1 none) a.e zQ zS (.pointer zR),y2]) rfl).sum (H':=[[cl wb 257 (Cj.setIfInBounds 6 (U2 U3 (m':Int)))],mE,[cl rb 315 cur],y1,rO,gd++gX a.eb (U1 none) a.e zQ zS (.pointer zR),y2,[cl a.nb 378 #[Qb a.eb,U1 none,U1 none,U1 none]]])).p [0,1,2,3,4,5,6];have HT2:=Vh T2;clear T2 HT T1 GL;go_wp2
      first | go_roundw | refine ⟨?rel,?measure⟩ | ((repeat apply US);refine ⟨⟨?rel,rfl⟩,?measure⟩)
      case rel=>exact ⟨j+1,by omega,by go_num,m',_,rO,y1,_,y2,by have:=HMJ.out;omega,Gx,HQ1,GU,Gy,GV,HT2⟩
      case measure=>simp [intOf];omega
     ·obtain rfl:j=sl.length:=by omega
      have e:sl.take sl.length=sl:=Vl;rw [e] at HQ Bw
      have hmm:jh { wj with lv:=wj.lv.set 0 (ls.set dg []) }=m:=by
       rw [uJ,iB.out];have:=mr.out;omega
      have HM:=Vh hmm;clear hn he hmm e;go_wp2
      go_ret2
      refine ⟨_,⟨_,sl,gq,gd,{ wj with lv:=wj.lv.set 0 (ls.set dg []) },_,rfl,?_,HQ,Bw,by rw [HM.out];exact HWH m Cj Gw,?_,rfl⟩,(HT.m [[cl wb 257 Cj]++mE,gq,gd,gr++(wY++wX)]).p [0,1,2]⟩
      ·rw [xP.out.1];exact xP.2.symm
      ·rw [xP.out.1];exact iB
end
theorem qsr:Qa prog 176 #[] [] fun e gs=>∃ b ss g,e=U7 (Qb b)/\Yq b ss g/\(∀ s∈ss,s.l=[])/\gs=[g]:=by
 refine GO fun w HT=>?_
 go_enter func176,ntmps176
 go_wp2
 have T1:=HT.a 321 Tryz.zeroCells321
 go_loopw [2,5] (fun _ i wr=>∃ (k:Nat) (C:Array Value) (ss:List Jd) (gH:List ak),k<=64/\i=U2 U3 k/\C.size=66/\ss.length=k/\(∀ s∈ss,s.l=[])/\(∀ (i:Nat) (s:Jd),ss[i]?=some s->C[i]?=some (Qb s.lb))/\C[64]?=some (U2 U4 0)/\C[65]?=some (U2 U3 0)/\Yy Fs ss gH /\
  TG [] w [[cl w.heap.size 321 C],gH] wr) (fun _ i _=>65 - (intOf i).toNat)
 case atStart=>exact ⟨0,Tryz.zeroCells321,[],[],by omega,rfl,by kernel_rfl,rfl,fun s h=>(by cases h),fun i s h=>(by simp at h),by kernel_rfl,by kernel_rfl,rfl,T1.m [[cl w.heap.size 321 Tryz.zeroCells321],[]]⟩
 case round =>
  obtain ⟨lb,hlb⟩:∃ lb,lb=w.heap.size:=⟨_,rfl⟩;rw [<- hlb] at hrel |-;obtain ⟨k,C,ss,gH,hk,rfl,hC,hl,he,hat,h64,yo,hF,T⟩:=hrel;have HT:=Vh T;have HC:=Vh hC;have HS:=Vh (U6 hl (U6 he (U6 hat (U6 h64 (U6 yo hF)))));clear T T1 hC hlb hl he hat h64 yo hF;by_cases hlt:k<64
  ·have c0:=UZ (xs:=C) (i:=k) (by rw [HC.out];omega)
   have wO:=Vh c0;clear c0;go_wp2
   go_region_with (
    go_at_call 175
    refine (Qa.use Px HT.drew [] rfl rfl).mono ?_
    rintro e w1 ⟨gs,⟨b,hb,g,rfl,hg,rfl⟩,Ta⟩;simp only [PU] at Ta;have c1:=(Ta.cell 0 0 rfl k).trans wO;have f1:=Ta.free 0 0 rfl k;have HG:=Vh hg;have HT1:=Vh Ta
    clear Ta hg)
   obtain ⟨hl,he,hat,h64,yo,hF⟩:=HS.out
   have hs2:∀ (i:Nat) (s:Jd),(ss++[(⟨b,hb,[]⟩:Jd)])[i]?=some s->(C.setIfInBounds k (Qb b))[i]?=some (Qb s.lb):=fun i s h=>by
    by_cases hi:i<ss.length
    ·rw [V6 hi] at h
     rw [Qc (by omega)];exact hat i s h
    ·rw [UX (by omega)] at h
     have:i - ss.length=0:=by
      rcases Vf (i - ss.length) with h0 | h0
      ·exact h0
      ·rw [List.getElem?_cons] at h;simp [Vp h0] at h
     have hik:i=k:=by omega
     subst hik;rw [this] at h;simp only [V8,Vj] at h;subst h;exact Xe wO
   have HS2:=Vh (U6 hs2 (U6 (show ∀ s∈ss++[(⟨b,hb,[]⟩:Jd)],s.l=[] from fun s h=>by (rcases List.mem_append.1 h with h | h;exact he s h;rw [List.mem_singleton.1 h])) (Yy.snoc (P:=Fs) (a:=⟨b,hb,[]⟩) hF HG)));have HX:=Vh (U6 (show (C.setIfInBounds k (Qb b))[64]?=some (U2 U4 0) from (Qc (by omega)).trans h64) (show (C.setIfInBounds k (Qb b))[65]?=some (U2 U3 0) from (Qc (by omega)).trans yo));have dJ:=Vh hl;clear hl he hat h64 yo hF hs2;go_wp2
   first | go_roundw | refine ⟨?rel,?measure⟩ | ((repeat apply US);refine ⟨⟨?rel,rfl⟩,?measure⟩)
   case rel=>exact ⟨k+1,_,ss++[⟨b,hb,[]⟩],gH++g,by omega,by go_num,by rw [V7];exact HC,by rw [UU,dJ.out];rfl,HS2.2.1,HS2.1,HX.1,HX.2,HS2.2.2,(HT1.set 0 0 rfl k _).sum⟩
   case measure=>simp [intOf];omega
  ·go_wp2
   go_ret
   obtain ⟨hl,he,hat,h64,yo,hF⟩:=HS.out
   have ht:ky ss=0:=by
    unfold ky
    have:ss.map (fun s=>s.l.length)=U9 ss.length 0:=by
     rw [Vb];refine ⟨by simp,fun b hb=>?_⟩
     obtain ⟨s,hs,rfl⟩:=Vg.1 hb;rw [he s hs];rfl
    rw [this];simp
   exact ⟨_,⟨_,ss,_,rfl,⟨by omega,C,gH,⟨HC,hat,⟨0,h64⟩,by rw [ht];exact yo⟩,hF,rfl⟩,he,rfl⟩,HT.sum⟩
def uC:nG:=U9 64 []
def DU:Xu:=⟨0,U9 4 uC,[]⟩
theorem R8 {α:Type} {P:α->List ak->Prop}:∀ n:Nat,Yy (Yy P) (U9 n []) []
 | 0=>rfl
 | n+1=>⟨[],[],rfl,R8 n,rfl⟩
theorem qsn {b:Nat} {ss:List Jd} {g:List ak} (h:Yq b ss g) (he:∀ s∈ss,s.l=[]) (home:Value):uG b home uC g:=by
 refine ⟨ss,g,[],h,?_,R8 64,by simp⟩
 have:ss.map Jd.l=U9 64 []:=by
  rw [Vb];refine ⟨by rw [UA];exact h.1,fun b hb=>?_⟩
  obtain ⟨s,hs,rfl⟩:=Vg.1 hb;exact he s hs
 rw [this];rfl
theorem quj:Qa prog 135 #[U2 U4 0] [] fun e gs=>∃ b g,e=U7 (Qb b)/\X1 b DU 0 g/\gs=[g]:=by
 refine GO fun w HT=>?_
 go_enter func135,ntmps135
 go_wp2_with fail
 refine Qa.run Px HT [] ?_
 rintro e w1 gs ⟨b0,h0,gB,rfl,hgB,rfl⟩ HT;simp only [PU] at HT;have HB:=Vh hgB;clear hgB;go_wp2
 have T1:=HT.a 257 #[U2 U4 0,U1 none,U1 none,U1 none,U1 none,Qb b0,U2 U3 0];obtain ⟨wb,hwb⟩:∃ wb,wb=w1.heap.size:=⟨_,rfl⟩;rw [<- hwb] at T1 |-;clear HT
 go_loopw [4,9] (fun _ i wr=>∃ (k:Nat) (C:Array Value) (vs:List Nat) (gV:List ak),k<=4/\i=U2 U3 k/\C.size=7/\vs.length=k/\(C[0]?=some (U2 U4 0)/\C[5]?=some (Qb b0)/\C[6]?=some (U2 U3 0))/\(∀ (i:Nat) (v:Nat),vs[i]?=some v->C[1+i]?=some (Qb v)) /\
  Yy (fun (z:Nat × nG)=>uG z.1 (Qb wb) z.2) (vs.zip (U9 k uC)) gV/\TG [] w [[cl wb 257 C],gB,gV] wr) (fun _ i _=>5 - (intOf i).toNat)
 case atStart=>exact ⟨0,#[U2 U4 0,U1 none,U1 none,U1 none,U1 none,Qb b0,U2 U3 0],[],[],by omega,rfl,rfl,rfl,⟨rfl,rfl,rfl⟩,fun i s h=>(by simp at h),rfl,(T1.p [1,0]).eq (by simp [lI])⟩
 case round =>
  obtain ⟨k,C,vs,gV,hk,rfl,hC,hl,hx,hat,hF,T⟩:=hrel;have HT:=Vh T;have HC:=Vh hC;have HS:=Vh (U6 hl (U6 hx (U6 hat hF)));clear T T1 hC hwb hl hx hat hF;by_cases hlt:k<4
  ·have c0:=UZ (xs:=C) (i:=1+k) (by rw [HC.out];omega)
   have wO:=Vh c0;clear c0;go_wp2
   go_region_with (
    go_at_call 176
    refine (Qa.use qsr HT.drew [] rfl rfl).mono ?_
    rintro e w2 ⟨gs,⟨b,ss,g,rfl,hg,he,rfl⟩,Ta⟩;simp only [PU] at Ta;have c1:=(Ta.cell 0 0 rfl (1+k)).trans wO;have f1:=Ta.free 0 0 rfl (1+k);have HG:=Vh (qsn hg he (Qb wb));have HT1:=Vh Ta
    clear Ta hg he)
   obtain ⟨hl,hx,hat,hF⟩:=HS.out
   have hs2:∀ (i:Nat) (v:Nat),(vs++[b])[i]?=some v->(C.setIfInBounds (1+k) (Qb b))[1+i]?=some (Qb v):=fun i s h=>by
    by_cases hi:i<vs.length
    ·rw [V6 hi] at h
     rw [Qc (by omega)];exact hat i s h
    ·rw [UX (by omega)] at h
     have:i - vs.length=0:=by
      rcases Vf (i - vs.length) with h0 | h0
      ·exact h0
      ·rw [List.getElem?_cons] at h;simp [Vp h0] at h
     have hik:i=k:=by omega
     subst hik;rw [this] at h;simp only [V8,Vj] at h;subst h;exact Xe wO
   have hz:(vs++[b]).zip (U9 (k+1) uC)=vs.zip (U9 k uC)++[(b,uC)]:=by
    rw [show U9 (k+1) uC=U9 k uC++[uC] from List.replicate_succ',List.zip_append (by rw [hl];simp)];rfl
   have HS2:=Vh (U6 hs2 (show Yy (fun (z:Nat × nG)=>uG z.1 (Qb wb) z.2) ((vs++[b]).zip (U9 (k+1) uC)) (gV++g) from by rw [hz];exact Yy.snoc hF HG));have HX:=Vh (show (C.setIfInBounds (1+k) (Qb b))[0]?=some (U2 U4 0)/\(C.setIfInBounds (1+k) (Qb b))[5]?=some (Qb b0)/\(C.setIfInBounds (1+k) (Qb b))[6]?=some (U2 U3 0) from ⟨(Qc (by omega)).trans hx.1,(Qc (by omega)).trans hx.2.1,(Qc (by omega)).trans hx.2.2⟩);have dJ:=Vh hl;clear hl hx hat hF hs2 hz;go_wp2
   first | go_roundw | refine ⟨?rel,?measure⟩ | ((repeat apply US);refine ⟨⟨?rel,rfl⟩,?measure⟩)
   case rel=>exact ⟨k+1,_,vs++[b],gV++g,by omega,by go_num,by rw [V7];exact HC,by rw [UU,dJ.out];rfl,HX,HS2.1,HS2.2,(HT1.set 0 0 rfl (1+k) _).sum⟩
   case measure=>simp [intOf];omega
  ·obtain rfl:k=4:=by omega
   go_wp2
   go_ret
   obtain ⟨hl,hx,hat,hF⟩:=HS.out;exact ⟨_,⟨wb,_,rfl,⟨C,vs,b0,h0,gV,gB,[],⟨HC,hx.1,hat,hx.2.1,hx.2.2⟩,hl,rfl,hF,HB,rfl,rfl⟩,rfl⟩,HT.sum⟩
end
section
open Go.RowKit Go.Shelf
attribute [local go_sem] Oper.semAt_some
theorem Yz.right {H K:GH} {w:World} (h:Yz (H++K) w):Yz K w:=by
 have hh:Has (ex H.flatten++ex K.flatten) w:=by
  have:Has (ex (H++K).flatten) w:=h;rwa [List.flatten_append,Jg] at this
 exact hh.right
def xJ (a:gy):Array Value:=a.e.v.cells
theorem qt9 (tb:Nat) (l:List gy) (v home:Value) (gr ge:List ak) (hr:Q3 284 1 v l.length (l.map fun a=>Qb a.eb) gr) (he:Yy (qV home) l ge) (hn:l.length<=1000000) :
 sU prog 314 #[Qb tb] (Bb (l.map xJ) [[cl tb 360 #[v]],gr,ge]) (0:Nat):=by
 intro ly J Jx hT hY H0 O0 W hJ0 hO hH;have l8:O0=[[cl tb 360 #[v]],gr,ge]:=hO;subst l8;have T0:=TG.refl hH;have c0:=(TG.refl hH.right).c 0 0 0;simp only [bP] at c0;obtain ⟨av,cap,hv⟩:=Q3.val hr;subst hv;have HR:=Vh hr;have HE:=Vh he;have HH:=Vh (U6 hJ0 T0);have HY:=Vh hY;clear hr he hO hH hY hT hJ0 T0;refine (callsIn_wide (n:=9)).1 (callsIn_of_wp func314 rfl trivial ?_ rfl)
 simp only [ntmps314,List.size_toArray,UO,UM,Nat.reduceAdd,Nat.reduceSub,Array.replicate_succ,Array.replicate_zero,List.push_toArray,List.append_toArray,List.nil_append,List.cons_append];gi_wp2
 gi_loopw [4,7] (fun _ i wr=>∃ (k:Nat) (H:GH),k<=l.length/\i=U2 U3 k/\J k H/\TG (H0++[[cl tb 360 #[.slice av l.length cap]],gr,ge]) W (H++[[cl tb 360 #[.slice av l.length cap]],gr,ge]) wr) (fun _ i _=>l.length+1 - (intOf i).toNat)
 case atStart=>exact ⟨0,H0,by omega,rfl,HH.1,HH.2⟩
 case round =>
  obtain ⟨k,H,hk,rfl,hj,T⟩:=hrel;clear HH c0;by_cases hlt:k<l.length
  ·obtain ⟨a,ha⟩:∃ a,l[k]?=some a:=⟨_,U5 hlt⟩
   have hla:(l.map xJ).length=l.length:=UA _;have hat:(l.map xJ)[k]?=some (xJ a):=by rw [UD,ha];rfl
   have hy0:=HY.out k #[.agg (xJ a)] [] (k+1) H wr hj ⟨⟨_,hat,rfl⟩,rfl,rfl⟩ (by rw [List.append_nil];exact T.has.left);obtain ⟨fn,tmps,assign,body,hy,hR⟩:=Z8 (n:=8) hy0;clear hy0;have TO:=TG.refl T.has.right;obtain ⟨u,y,⟨vG,zQ,zS,zR,rfl⟩,hp,_⟩:=HE.out.out ha;have TE:=((TO.bz 2 rfl hp).sum (H':=[[cl tb 360 #[.slice av l.length cap]],gr,gX a.eb home a.e zQ zS (.pointer zR),y]));obtain ⟨rb,cap',cur,hv,rfl,_,_,_,dQ⟩:=HR.open (by omega);cases hv
   have hcj:=dQ k (by omega);rw [UD,ha] at hcj;have r0:=(TE.cell 1 0 rfl k).trans hcj;obtain ⟨e1,e2,e3,e4,e5⟩:=TE.c5 2 0 1 2 3 4 5;simp only [jF,az,V9] at r0 e1 e2 e3 e4 e5;simp only [xJ,Qp.cells] at hy;have uw:=Vh T;have HRR:=Vh hR;clear hR T TO TE dQ hcj hj hp hat hla vG;gi_wp2
   refine HRR.mono ?_
   rintro e W' ⟨H',hT',hj'⟩;have T2:=uw.trans ((hT'.app (a':=H) (by simp)).frame uw.has);have HT2:=Vh T2;have HJ:=Vh hj';clear hT' hj' T2 hy r0 e1 e2 e3 e4 e5;rcases HJ.out with ⟨rfl,hj'⟩ | ⟨rfl,hj'⟩
   ·have HJ2:=Vh hj'
    clear hj' HJ;gi_wp2
    go_roundw
    case rel=>exact ⟨k+1,H',by omega,by go_num,HJ2,HT2⟩
    case measure=>simp [intOf];omega
   ·have HJ2:=Vh hj'
    clear hj' HJ;gi_wp2
    refine bodyPost_ret (UH rfl _ _ _) rfl ?_
    exact ⟨⟨_,rfl⟩,k+1,H',_,HT2,.inr HJ2⟩
  ·have:k=l.length:=by omega
   subst this;gi_wp2
   go_end0
   exact ⟨⟨_,rfl⟩,l.length,H,_,T,.inl ⟨(UA _).symm,hj,rfl⟩⟩
end
section
open Go.RowKit Go.Shelf
def qj (wb:Nat) (S:Qg) (g:List ak):Prop:=∃ w:Xu,w.s=S/\X1 wb w (jh w) g
structure x8 (S:Qg):Prop where
 sh:S.Sh
 now:S.now<16000000
 tot:zt S<=999999
theorem Kt {S:Qg} (h:S.Sh):S.fH.1.Sh/\S.fH.1.now=S.now+1/\zt S.fH.1+S.fH.2.length=zt S:=by
 have h0:({ S with now:=S.now+1 }:Qg).Sh:=⟨h.l4,h.yG⟩;have h1:=Qg.ow (min (J6 (S.now+1)) 3) h0;have h2:=Qg.jQ (min (J6 (S.now+1)) 3) { S with now:=S.now+1 };refine ⟨Qg.iX h1 _ _,h2,?_⟩
 have h3:=Fz h1 (l:=0) (by decide) (zh (Qg.down (min (J6 (S.now+1)) 3) { S with now:=S.now+1 }).now 0);have h4:=Rc (min (J6 (S.now+1)) 3) h0 (by omega)
 show zt (Qg.clear _ _ _)+(Qg.slot _ _ _).length=_
 rw [h3,h4];rfl
section
variable {wb:Nat} {S:Qg} {g:List ak}
theorem quk (hg:qj wb S g):Qd prog 97 #[Qb wb] [g] (U2 U4 S.now):=by
 obtain ⟨W0,rfl,hg⟩:=hg;obtain ⟨C,vs,bb,gR,hC,hvl,rfl,hback⟩:=hg.open;refine GO fun w HT=>?_
 have c0:=((HT.m [[cl wb 257 C],gR]).c 0 0 0).trans hC.now;have hs:W0.s.now=W0.now:=rfl;rw [hs];clear hC hback hg hvl;go_enter func97,ntmps97
 go_wp2
 go_ret
 exact ⟨rfl,0,rfl⟩
def jE (S:Qg) (t:Qp):Nat:=max t.dl.toNat (S.now+1)
def mO (S:Qg) (t:Qp):gU:=⟨jE S t,{ t with dl:=jE S t },jE S t⟩
theorem qty (b rb lb:Nat) (hg:qj wb S g) (ho:x8 S) (t:Qp) (hs:0<=t.slot) (hd:0<=t.dl/\t.dl<18446744073709551616) :
 Qa prog 316 #[Qb b,.agg t.cells] [Xq b rb lb wb,g] fun e gs=>e=U7 (UB #[U2 U4 (jE S t),U2 U3 0])/\∃ g',qj wb (S.place (mO S t)) g'/\gs=[Xq b rb lb wb,g']:=by
 have kz:=Vh (quk hg);have hl:=qni t.dl S.now (by omega) (by have:=ho.now;omega) hd.1 hd.2
 have hmax:max t.dl ((S.now:Int)+1)=(jE S t:Int):=by
  unfold jE;have:=hd.1;omega
 rw [hmax] at hl;have B5:=Vh hl;have hlt:S.now<jE S t:=by unfold jE;omega
 have hdn:jE S t<18446744073709551616:=by unfold jE;have:=hd.2;have:=ho.now;omega
 have hI:Qa prog 331 #[Qb wb,U2 U4 (jE S t),.agg ({ t with dl:=jE S t }:Qp).cells] [g] fun e gs=>∃ eb,e=U7 (UB #[Qb eb,U2 U3 0])/\∃ g',qj wb (S.place (mO S t)) g'/\gs=[g']:=by
  obtain ⟨W0,rfl,hg⟩:=hg;refine (q0l hg ho.sh ⟨by have:=ho.now;have e:W0.s.now=W0.now:=rfl;omega,by rw [uJ];exact ho.tot⟩ (jE W0.s t) hdn hlt { t with dl:=jE W0.s t }).mono ?_
  rintro e gs ⟨eb,he,w',g',h1,h2,rfl⟩;exact ⟨eb,he,g',⟨w',h2,h1⟩,rfl⟩
 have HI:=Vh hI;generalize S.place (mO S t)=S1 at *;generalize jE S t=d at *;clear hl hmax hlt hdn hI ho hg;have hsn:¬ t.slot<0:=by omega
 refine GO fun w HT=>?_
 have hf:=fun w=>(J9 (Qb rb) (Qb lb) (Qb wb) w).2.2
 simp only [Qp.cells] at HI |-;go_enter func316,ntmps316
 go_wp2_with fail
 refine Qa.run (Jl b rb lb wb) (HT.a 40 #[U2 U4 t.id,U2 U3 t.slot,U2 U4 t.gen,U2 U4 t.dl,U2 U4 t.per]) [0] ?_
 rintro e w1 gs ⟨rfl,rfl⟩ HT;simp only [PU] at HT;obtain ⟨a0,a1,a2,a3,a4⟩:=HT.c5 2 0 0 1 2 3 4;have fa3:=HT.f 2 0 3;simp only [aN] at a0 a1 a2 a3 a4;go_wp2_with fail
 refine Mx 4 ?_
 simp only [bY]
 repeat (go_big_quiet_step ((first | (go_at_call 97;with_reducible exact Qd.quiet (kz.out) HT.out _ [1] rfl rfl))))
 refine U8 (QT HT fun nq HT=>?_)
 go_wp2_with fail
 refine Qa.run B5 HT [] ?_
 rintro e w1 gs ⟨rfl,rfl⟩ HT;simp only [PU] at HT;clear a0 a1 a2 a3 a4 fa3;go_wp2_with fail
 refine ⟨rfl,?_⟩
 obtain ⟨a0,a1,a2,a3,a4⟩:=HT.c5 2 0 0 1 2 3 4;have fa3:=HT.f 2 0 3;simp only [aN] at a0 a1 a2 a3 a4;go_wp2_with fail
 refine Qa.run HI (HT.set 2 0 rfl 3 (U2 U4 d)) [1] ?_
 rintro e w1 gs ⟨eb,rfl,g1,hg1,rfl⟩ HT;simp only [PU] at HT;have HG:=Vh hg1;clear hg1 a0 a1 a2 a3 a4 fa3;go_wp2
 go_ret2
 exact ⟨_,⟨rfl,g1,HG,rfl⟩,HT.p [0,1]⟩
theorem q5l (v:Value) (hv:∃ a n c,v=.slice a n c):Qa prog 297 #[v] [] fun e gs=>∃ tb,e=U7 (.func (.func 314) #[] #[Qb tb])/\gs=[[cl tb 360 #[v]]]:=by
 obtain ⟨a,n,c,rfl⟩:=hv;refine GO fun w HT=>?_
 go_enter func297,ntmps297
 go_wp2
 go_ret
 exact ⟨_,⟨_,rfl,rfl⟩,HT.alloc rfl _ _⟩
def yV (l:List Qp):List Value:=qc2 (l.map Qp.cells)
theorem qpm (b rb lb:Nat) (hg:qj wb S g) (ho:x8 S) :
 Qa prog 280 #[Qb b] [Xq b rb lb wb,g] fun e gs=>∃ v g' gr,e=U7 (UB #[v,U2 U3 0])/\qj wb S.fH.1 g'/\Q3 40 5 v S.fH.2.length (yV (S.fH.2.map gU.v)) gr/\gs=[Xq b rb lb wb,g',gr]:=by
 have hfa:=Kt ho.sh
 have hA:Qa prog 295 #[Qb wb] [g] fun e gs=>∃ (v:Value) (l:List gy) (gr ge:List ak) (g':List ak),e=U7 (UB #[v,U2 U3 0])/\l.map gy.e=S.fH.2/\Q3 284 1 v l.length (l.map fun a=>Qb a.eb) gr/\Yy (qV (U1 none)) l ge/\qj wb S.fH.1 g'/\gs=[g',gr,ge]:=by
  obtain ⟨W0,rfl,hg⟩:=hg;refine (qu5 hg ho.sh ho.now (by rw [uJ];exact ho.tot)).mono ?_
  rintro e gs ⟨v,l,gr,ge,w',g',h1,h2,h3,h4,h5,h6,rfl⟩;exact ⟨v,l,gr,ge,g',h1,h2,h3,h4,⟨w',h6,h5⟩,rfl⟩
 have HA:=Vh hA;have hlen:S.fH.2.length<=1000000:=by have:=ho.tot;omega
 have EA:=Vh hlen;generalize S.fH=R at *;obtain ⟨S1,es⟩:=R;simp only at HA EA |-;clear hfa hA hlen ho hg;refine GO fun w HT=>?_
 have hf:=fun w=>(J9 (Qb rb) (Qb lb) (Qb wb) w).2.2
 go_enter func280,ntmps280
 go_wp2_with fail
 refine Qa.run (Jl b rb lb wb) (HT) [0] ?_
 rintro e w1 gs ⟨rfl,rfl⟩ HT;simp only [PU] at HT;go_wp2_with fail
 refine Qa.run HA HT [1] ?_
 rintro e w1 gs ⟨v,l,gr,ge,g1,rfl,hl,hr,he,hg1,rfl⟩ HT;simp only [PU] at HT;have HG:=Vh hg1;have HR:=Vh hr;have HE:=Vh he;clear hg1 hr he;have hll:l.length=es.length:=by rw [<- hl,UA]
 have hn:l.length<=1000000:=by rw [hll];exact EA
 have CJ:l.map xJ=(es.map gU.v).map Qp.cells:=by rw [<- hl];simp [Vo,Function.comp_def,xJ]
 obtain ⟨av,cap,hv⟩:=Q3.val HR;subst hv
 have HC:=Vh (show ∀ tb,_ from fun tb=>qr9 (enters_of func314 (by kernel_rfl) rfl) (qt9 tb l (.slice av l.length cap) (U1 none) gr ge HR HE hn) (fun c hc=>by
  obtain ⟨a,_,rfl⟩:=Vg.1 hc
  exact ⟨_,_,_,_,_,rfl⟩) (by rw [UA];exact hn))
 have MF:=Vh (U6 hll CJ);clear hll CJ hn;go_wp2_with fail
 refine Qa.run (q5l _ ⟨_,_,_,rfl⟩) (HT) [] ?_
 rintro e w1 gs ⟨tb,rfl,rfl⟩ HT;simp only [PU] at HT;go_wp2_with fail
 refine Qa.run (HC tb) (HT) [4,2,3] ?_
 rintro e w1 gs ⟨v2,g2,rfl,hr2,rfl⟩ HT;simp only [PU] at HT;have HR2:=Vh hr2;clear hr2
 have hrf:Q3 40 5 v2 es.length (yV (es.map gU.v)) g2:=by
  have:=HR2.out;rw [UA,MF.out.1,MF.out.2] at this;exact this
 obtain ⟨a2,cap2,hv⟩:=Q3.val hrf;subst hv;have HRF:=Vh hrf;clear hrf hl;go_wp2
 go_ret2
 exact ⟨_,⟨_,g1,g2,rfl,HG,HRF,rfl⟩,HT.p [0,1,5]⟩
end
end
end Go.Proofs.YtcneeepdclgdcaaGreat
