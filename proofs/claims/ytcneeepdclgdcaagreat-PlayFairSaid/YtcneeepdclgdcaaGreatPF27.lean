import Derived.Test.YtcneeepdclgdcaaGreatPF25
import Derived.Test.YtcneeepdclgdcaaGreatPF22
import Derived.Test.YtcneeepdclgdcaaGreatPF5
import Derived.Test.YtcneeepdclgdcaaGreatPF23
import Derived.Test.YtcneeepdclgdcaaGreatPF17
set_option maxRecDepth 100000
set_option maxHeartbeats 4000000
namespace Go.Proofs.YtcneeepdclgdcaaGreat
open Go.Value renaming pointer->WK,int->WL,tuple->WU
open Go.IntKind renaming i64->WM,u64->WN
open _root_.List renaming getElem?_eq_getElem->WO,replicate->WS,length_map->WT,getElem?_eq_some_iff->WV,getElem?_map->WW,set_cons_succ->WX,getElem?_modify->WZ,mem_of_getElem?->XA,getD_eq_getElem?_getD->XB,length_nil->XC,set_cons_zero->XD,length_cons->XE,take_succ_eq_append_getElem->XF,length->XH,length_append->XI,setIfInBounds_toArray->XJ,getElem?_append_right->XK,getElem?_append_left->XN,getElem?_cons_zero->XQ,length_set->XR,mem_iff_getElem?->XV,eq_replicate_iff->XW,take_succ_cons->XY,mem_map->YA,ext_getElem?->YB,take_length->YE,map_map->YF
open _root_.And renaming intro->WQ
open Go.Ending renaming returned->WR
open Go renaming wpQuiet_nil->WY,results_none->XO
open _root_.Exists renaming intro->XG
open _root_.Classical renaming byContradiction->XL
open _root_.Array renaming getElem?_eq_getElem->XM,size_setIfInBounds->XP
open _root_.Option renaming map_some->XT,getD_some->YD
open Go.World renaming alloc->XU,setCell->XX
open _root_.Nat renaming eq_zero_or_pos->XZ,ne_of_gt->YG,zero_le->YH
open _root_.Option.some renaming injEq->YC
open _root_.Ne renaming symm->YI
set_option linter.all false
open Go.Proofs.Tryz
section
open Go.RowKit Go.Shelf
def iW (w:Xz):Nat:=(w.lv.map qU).sum+w.lV.length
structure uT (vs:List Nat) (bb:Nat) (now n:Nat) (C:Array Value):Prop where
 size:C.size=7
 now:C[0]?=some (WL WN now)
 lv:∀ (i:Nat) (v:Nat),vs[i]?=some v->C[1+i]?=some (Qb v)
 lV:C[5]?=some (Qb bb)
 n:C[6]?=some (WL WM n)
def Xx (wb:Nat) (w:Xz) (n:Nat) (g:List ak):Prop :=
 ∃ C vs bb bh gV gB gE,uT vs bb w.now n C/\vs.length=4/\w.lv.length=4/\Yx (fun (z:Nat × nE)=>vL z.1 (Qb wb) z.2) (vs.zip w.lv) gV/\zz bb bh (w.lV.map gp.nd) gB/\Yx (rQ (Qb wb)) w.lV gE /\
   g=[cl wb 257 C]++(gV++(gB++gE))
def lvl (now:Nat) (due:Nat):Nat:=(max 0 (BS due now)).toNat
def Xz.place (w:Xz) (a:gp):Xz :=
 if 4<=lvl w.now a.e.due then { w with lV:=w.lV++[a] }
 else { w with lv:=w.lv.modify (lvl w.now a.e.due) (fun l=>l.modify (J3 a.e.due (lvl w.now a.e.due)) (·++[a])) }
structure Ej (w:Xz):Prop where
 now:w.now<16777215
 tot:iW w<=999999
theorem qw {α:Type} {l:List α} {k:Nat} {a:α} (h:l[k]?=some a) (f:α->α):l.modify k f=l.set k (f a):=by
 apply YB
 intro i;rw [WZ,List.getElem?_set];by_cases hi:k=i
 ·subst hi
  have:=(WV.1 h);simp [h,this.1,this.2]
 ·simp [hi]
theorem tZ (t l:Nat):J3 t l<64:=Nat.mod_lt _ (by decide)
theorem zac {l:List Nat} {k a:Nat} (h:l[k]?=some a):a<=l.sum:=by
 induction l generalizing k with
 | nil=>simp at h
 | cons b l ih =>
   cases k with
   | zero=>simp at h;subst h;simp
   | succ k=>simp at h;have:=ih h;simp;omega
theorem Nq {w:Xz} {k:Nat} {l:nE} (h:w.lv[k]?=some l):qU l<=iW w:=by
 have:=zac (l:=w.lv.map qU) (k:=k) (a:=qU l) (by rw [WW,h];rfl);unfold iW;omega
theorem KI {w:Xz} (h:w.lv.length=4) {k:Nat} (hk:k<4):∃ l,w.lv[k]?=some l:=⟨_,WO (by omega)⟩
section
variable {wb:Nat} {w:Xz} {n:Nat} {g:List ak}
theorem UY (hg:Xx wb w n g) (ho:Ej w) (a:gp) (ge:List ak) (ha:rQ (Qb wb) a ge) :
 Qa prog 309 #[Qb wb,Qb a.eb] [g,ge] fun e gs=>e=WR (WU #[])/\∃ nb g',Xx wb (w.place { a with nb:=nb }) n g'/\gs=[g']:=by
 obtain ⟨C,vs,bb,bh,gV,gB,gE,hC,hvl,hll,hV,hB,hE,rfl⟩:=hg;obtain ⟨hd,lv,sl,nd,rfl⟩:=ha;have FE:=Vh hd;obtain ⟨lo,hlo⟩:∃ lo,lo=lvl w.now a.e.due:=⟨_,rfl⟩;have hap:max 0 (BS a.e.due w.now)=(lo:Int):=by rw [hlo];unfold lvl;omega
 have Il:=Vh (qob a.e.due w.now hd (by have:=ho.now;omega));obtain ⟨ap,yY⟩:∃ ap,ap=BS a.e.due w.now:=⟨_,rfl⟩;rw [<- yY] at hap Il;have HBY:=Vh (show w.lV.length<=1000000 from by have:=ho.tot;unfold iW at this;omega);by_cases h4:4<=lo
 ·have yE:=Vh hlo
  have hpl:∀ nb,w.place { a with nb:=nb }={ w with lV:=w.lV++[{ a with nb:=nb }] }:=fun nb=>if_pos (by rw [<- hlo];exact h4)
  simp only [hpl];have hge:decide ((lo:Int) ≥ 4)=true:=decide_eq_true (by omega);refine GO fun w HT=>?_
  have HT:=Vh (HT.out.sum (H':=[[cl wb 257 C],gV,gB,gE,mF a.eb (Qb wb) a.e lv sl (.pointer nd)]));have HC:=Vh hC;have HV:=Vh hV;have HB:=Vh hB;have HE:=Vh hE;have uW:=Vh (WQ hvl hll);have c0:=(HT.out.cell 0 0 rfl 0).trans hC.now;obtain ⟨e6,e8,e9,e10⟩:=Oi (HT.out.cell 4 0 rfl) 6 8 9 10;obtain ⟨JO,Df,nI⟩:=F8 (HT.out.free 4 0 rfl) 8 9 10;simp only [qN,aC] at e6 e8 e9 e10;clear hV hB hE hC ho hlo hpl hd yY hvl hll;go_enter func309,ntmps309
  go_wp2_with fail
  refine Z8 13 (by kernel_rfl) (by kernel_rfl) ?_
  simp only [dx]
  repeat (go_big_quiet_step ((first | (go_at_call 320;with_reducible exact Qe.quiet (Il.out) HT.out _ [] rfl rfl))))
  refine WY (QE fun nq=>?_)
  have HT:=Vh (HT.out.drewN nq);go_wp2_with fail
  refine ⟨rfl,?_⟩
  have HT:=Vh ((HT.out.set 4 0 rfl 8 (WL WM lo)).eq (H':=[[cl wb 257 C],gV,gB,gE,mF a.eb (Qb wb) a.e lo sl (.pointer nd)]) rfl);clear c0 e6 e8 JO e9 Df e10 nI;generalize XX _ _ _=w2 at HT |-;obtain ⟨e8,e10⟩:=Oh (HT.out.cell 4 0 rfl) 8 10;have nI:=HT.out.free 4 0 rfl 10;simp only [qN,aC] at e8 e10;have DV:=HT.out.lt 4 0 rfl;simp only [] at DV;go_wp2_with fail
  obtain ⟨nb,hnb⟩:∃ nb,nb=w2.heap.size:=⟨_,rfl⟩;have HT:=Vh (((HT.out.set 4 0 rfl 10 (Qb nb)).alloc (k:=nb) (by rw [hnb];simp) 378 #[Qb a.eb,WK none,WK none,WK none]).eq (H':=[[cl wb 257 C],gV,gB,gE,mF a.eb (Qb wb) a.e lo sl (Qb nb),[cl nb 378 #[Qb a.eb,WK none,WK none,WK none]]]) rfl);rw [<- hnb];clear e8 e10 nI DV;generalize XU _ _=w3 at HT |-;clear hnb;have e10:=HT.out.cell 4 0 rfl 10;simp only [qN,aC] at e10;have c5:=(HT.out.cell 0 0 rfl 5).trans HC.out.lV;refine Z8 8 (by kernel_rfl) (by kernel_rfl) ?_
  simp only [dx]
  repeat (go_big_quiet_step ((fail)))
  refine WY (QE fun nq=>?_)
  have HT:=Vh (HT.out.drewN nq);go_wp2_with fail
  refine (Qa.use (Rz HB.out (by have:=HBY.out;simp only [WT];omega) nb (Qb a.eb) (WK none) (WK none)) (HT.out) [2,5] rfl rfl).mono ?_
  rintro e w1 ⟨gs,⟨rfl,g1,hg1,rfl⟩,Ta⟩;simp only [PU] at Ta;have kF:=Vh hg1;clear hg1 e10 c5;have HT:=Vh Ta;clear Ta;go_wp2_with fail
  refine ⟨rfl,?_⟩
  go_wp2
  exact bodyPost_ret (v:=WU #[]) (XO rfl _ _ _) rfl ⟨_,⟨rfl,nb,_,⟨C,vs,bb,bh,gV,g1,gE++mF a.eb (Qb wb) a.e lo sl (Qb nb),HC.out,uW.out.1,uW.out.2,HV.out,(by simpa [gp.nd] using kF.out),Yx.snoc HE.out ⟨FE.out,_,_,_,rfl⟩,rfl⟩,rfl⟩,(HT.out.pick [0,1,2,3,4] rfl).sum⟩
 ·have h:lo=0\/lo=1\/lo=2\/lo=3:=by omega
  obtain ⟨ls,hls⟩:=KI hll (k:=lo) (by omega);obtain ⟨vb,hvb⟩:∃ vb,vs[lo]?=some vb:=⟨_,WO (by omega)⟩;have hz:(vs.zip w.lv)[lo]?=some (vb,ls):=uk hvb hls;obtain ⟨u,y,hu,hp,hback⟩:=hV.out hz;have pV:qU ls<=1000000:=by have:=Nq hls;have:=ho.tot;omega
  simp only at hu;obtain ⟨sl0,hsl⟩:∃ s,ls[J3 a.e.due lo]?=some s:=⟨_,WO (by rw [hu.len];exact tZ _ _)⟩;clear h4;have hlo4:lo<4:=by omega
  clear h;have yE:=Vh hlo
  have hpl:∀ nb,w.place { a with nb:=nb }={ w with lv:=w.lv.set lo (ls.set (J3 a.e.due lo) (sl0++[{ a with nb:=nb }])) }:=fun nb=>by
   unfold Xz.place;rw [<- hlo,if_neg (by omega),qw hls,qw hsl]
  simp only [hpl];have Cm:=Vh (show Qe prog 312 #[WL WN a.e.due,WL WM lo] [] (WL WM (J3 a.e.due lo)) from KX a.e.due lo hd (by omega));have hdl:=tZ a.e.due lo;refine GO fun w HT=>?_
  have HT:=Vh (((HT.out.sum (H':=[[cl wb 257 C],gV,gB,gE,mF a.eb (Qb wb) a.e lv sl (.pointer nd)])).bF 1 rfl hp).sum (H':=[[cl wb 257 C],u,gB,gE,mF a.eb (Qb wb) a.e lv sl (.pointer nd),y]));have HC:=Vh hC;have HU:=Vh hu;have Ck:=Vh hback;have HB:=Vh hB;have HE:=Vh hE;have HVB:=Vh (hC.lv lo vb hvb);have nk:=Vh hsl;have pG:=Vh (show qU ls<=1000000 from pV);have qW:=Vh (WQ hvl (WQ hll hvb));generalize J3 a.e.due lo=dg at *;have c0:=(HT.out.cell 0 0 rfl 0).trans hC.now;obtain ⟨e6,e8,e9,e10⟩:=Oi (HT.out.cell 4 0 rfl) 6 8 9 10;obtain ⟨JO,Df,nI⟩:=F8 (HT.out.free 4 0 rfl) 8 9 10;simp only [qN,aC] at e6 e8 e9 e10;clear hu hB hE hC ho hlo hpl hd yY hV hp hback hls hsl pV hvb hvl hll;go_enter func309,ntmps309
  go_wp2_with fail
  refine Z8 13 (by kernel_rfl) (by kernel_rfl) ?_
  simp only [dx]
  repeat (go_big_quiet_step ((first | (go_at_call 320;with_reducible exact Qe.quiet (Il.out) HT.out _ [] rfl rfl))))
  refine WY (QE fun nq=>?_)
  have HT:=Vh (HT.out.drewN nq);go_wp2_with fail
  refine ⟨rfl,?_⟩
  have HT:=Vh ((HT.out.set 4 0 rfl 8 (WL WM lo)).eq (H':=[[cl wb 257 C],u,gB,gE,mF a.eb (Qb wb) a.e lo sl (.pointer nd),y]) rfl);clear c0 e6 e8 JO e9 Df e10 nI;generalize XX _ _ _=w2 at HT |-;obtain ⟨e8,e10⟩:=Oh (HT.out.cell 4 0 rfl) 8 10;have nI:=HT.out.free 4 0 rfl 10;simp only [qN,aC] at e8 e10;have DV:=HT.out.lt 4 0 rfl;simp only [] at DV;go_wp2_with fail
  obtain ⟨nb,hnb⟩:∃ nb,nb=w2.heap.size:=⟨_,rfl⟩;have HT:=Vh (((HT.out.set 4 0 rfl 10 (Qb nb)).alloc (k:=nb) (by rw [hnb];simp) 378 #[Qb a.eb,WK none,WK none,WK none]).eq (H':=[[cl wb 257 C],u,gB,gE,mF a.eb (Qb wb) a.e lo sl (Qb nb),y,[cl nb 378 #[Qb a.eb,WK none,WK none,WK none]]]) rfl);rw [<- hnb];clear e8 e10 nI DV;generalize XU _ _=w3 at HT |-;clear hnb;obtain ⟨e6,e8,e9⟩:=F8 (HT.out.cell 4 0 rfl) 6 8 9;have Df:=HT.out.free 4 0 rfl 9;simp only [qN,aC] at e6 e8 e9;refine Z8 12 (by kernel_rfl) (by kernel_rfl) ?_
  simp only [dx]
  repeat (go_big_quiet_step ((first | (go_at_call 312;with_reducible exact Qe.quiet (Cm.out) HT.out _ [] rfl rfl))))
  refine WY (QE fun nq=>?_)
  have HT:=Vh (HT.out.drewN nq);go_wp2_with fail
  refine ⟨rfl,?_⟩
  have HT:=Vh ((HT.out.set 4 0 rfl 9 (WL WM dg)).eq (H':=[[cl wb 257 C],u,gB,gE,mF a.eb (Qb wb) a.e lo dg (Qb nb),y,[cl nb 378 #[Qb a.eb,WK none,WK none,WK none]]]) rfl);clear e6 e8 e9 Df;generalize XX _ _ _=w4 at HT |-;obtain ⟨e8,e9,e10⟩:=F8 (HT.out.cell 4 0 rfl) 8 9 10;simp only [qN,aC] at e8 e9 e10;have c5:=(HT.out.cell 0 0 rfl (1+lo)).trans HVB.out;go_wp2_with fail
  refine Z8 17 (by kernel_rfl) (by kernel_rfl) ?_
  simp only [dx]
  repeat (go_big_quiet_step ((fail)))
  refine WY (QE fun nq=>?_)
  have HT:=Vh (HT.out.drewN nq);go_wp2_with fail
  refine (Qa.use (q6a HU.out nk.out pG.out { a with nb:=nb } (mF a.eb (Qb wb) a.e lo dg (Qb nb)) ⟨FE.out,_,_,_,rfl⟩ (WK none) (WK none)) (HT.out) [1,4,6] rfl rfl).mono ?_
  rintro e w1 ⟨gs,⟨rfl,g1,hg1,rfl⟩,Ta⟩;simp only [PU] at Ta;have kF:=Vh hg1;clear hg1 e8 e9 e10 c5;have HT:=Vh Ta;clear Ta;go_wp2_with fail
  refine ⟨rfl,?_⟩
  go_wp2
  obtain ⟨sS,hV',hp'⟩:=Ck.out (vb,ls.set dg (sl0++[{ a with nb:=nb }])) g1 kF.out;exact bodyPost_end (XO rfl _ _ _) rfl ⟨_,⟨rfl,nb,_,⟨C,vs,bb,bh,sS,gB,gE,HC.out,qW.out.1,(by rw [XR];exact qW.out.2.1),(by rw [<- ze lo qW.out.2.2];exact hV'),HB.out,HE.out,rfl⟩,rfl⟩,(((HT.out.sum (H':=[[cl wb 257 C],g1++y,gB,gE])).bF 1 rfl hp').sum)⟩
end
theorem G6 {α:Type} {P:α->List ak->Prop} {a:α} {l:List α} {g:List ak} (h:Yx P (a::l) g):∃ x y,P a x/\Yx P l y/\g=x++y:=h
theorem drop_at {α:Type} {l:List α} {i:Nat} {a:α} (h:l[i]?=some a):l.drop i=a::l.drop (i+1):=by
 obtain ⟨h1,h2⟩:=WV.1 h;rw [List.drop_eq_getElem_cons h1,h2]
def Qg.place (w:Qg) (e:gI):Qg :=
 if 4<=lvl w.now e.due then { w with lV:=w.lV++[e] }
 else { w with lv:=w.lv.modify (lvl w.now e.due) (fun l=>l.modify (J3 e.due (lvl w.now e.due)) (·++[e])) }
def Qg.dK (w:Qg) (l:List gI):Qg:=l.foldl Qg.place w
def Qg.slot (w:Qg) (l k:Nat):List gI:=(w.lv.getD l []).getD k []
def Qg.clear (w:Qg) (l k:Nat):Qg:={ w with lv:=w.lv.modify l (fun s=>s.set k []) }
def Qg.again (w:Qg) (l:Nat):Qg:=(w.clear l (J3 w.now l)).dK (w.slot l (J3 w.now l))
theorem Ll {α β:Type} (f:α->β) (g:α->α) (h:β->β) (hc:∀ a,f (g a)=h (f a)) (l:List α) (k:Nat):(l.modify k g).map f=(l.map f).modify k h:=by
 apply YB
 intro i;simp only [WW,WZ];split
 ·cases l[i]? <;> simp [hc]
 ·cases l[i]? <;> simp
theorem MX (w:Xz) (a:gp):(w.place a).s=w.s.place a.e:=by
 unfold Xz.place Qg.place;have hn:w.s.now=w.now:=rfl;rw [hn];split
 ·unfold Xz.s;simp
 ·unfold Xz.s
  simp only;congr 1
  refine Ll _ _ _ (fun l=>?_) _ _
  exact Ll _ _ _ (fun s=>by simp) _ _
theorem q5m (w:Xz) (l k:Nat):({ w with lv:=w.lv.modify l (fun s=>s.set k []) }:Xz).s=w.s.clear l k:=by
 unfold Xz.s Qg.clear;simp only;congr 1
 refine Ll _ _ _ (fun s=>?_) _ _
 rw [List.map_set];rfl
def zv (w:Qg):Nat:=(w.lv.map fun l=>(l.map XH).sum).sum+w.lV.length
theorem vO (w:Xz):iW w=zv w.s:=by
 unfold iW zv Xz.s qU;simp [YF,Function.comp_def]
structure Qg.Sh (w:Qg):Prop where
 l4:w.lv.length=4
 zQ:∀ l∈w.lv,l.length=64
def Qg.down:Nat->Qg->Qg
 | 0,w=>w
 | l+1,w=>(w.again (l+1)).down l
def Qg.fO (w:Qg):Qg × List gI :=
 let w2:=Qg.down (min (J6 (w.now+1)) 3) { w with now:=w.now+1 }
 (w2.clear 0 (J3 w2.now 0),w2.slot 0 (J3 w2.now 0))
theorem Qg.iB (l:List gI):∀ w:Qg,(w.dK l).now=w.now:=by
 induction l with
 | nil=>intro w;rfl
 | cons a l ih =>
   intro w
   show ((w.place a).dK l).now=_
   rw [ih];unfold Qg.place;split <;> rfl
theorem Qg.kI (w:Qg) (l:Nat):(w.again l).now=w.now:=Qg.iB _ _
theorem Qg.jH:∀ (n:Nat) (w:Qg),(w.down n).now=w.now
 | 0,w=>rfl
 | l+1,w=>by show ((w.again (l+1)).down l).now=_;rw [Qg.jH l,Qg.kI]
theorem Qg.iL {w:Qg} (h:w.Sh) (l k:Nat):(w.clear l k).Sh:=by
 refine ⟨by unfold Qg.clear;simp [h.l4],fun m hm=>?_⟩
 unfold Qg.clear at hm;simp only at hm;obtain ⟨i,hi⟩:=XV.1 hm;rw [WZ] at hi;cases hq:w.lv[i]? with
 | none=>rw [hq] at hi;cases hi
 | some q =>
   rw [hq] at hi;have mJ:=h.zQ q (XA hq);by_cases e:l=i
   ·simp [e] at hi;subst hi;simpa using mJ
   ·simp [e] at hi;subst hi;exact mJ
theorem Qg.jN {w:Qg} (h:w.Sh) (a:gI):(w.place a).Sh:=by
 unfold Qg.place;split
 ·exact ⟨h.l4,h.zQ⟩
 ·refine ⟨by simp [h.l4],fun m hm=>?_⟩
  simp only at hm;obtain ⟨i,hi⟩:=XV.1 hm;rw [WZ] at hi;cases hq:w.lv[i]? with
  | none=>rw [hq] at hi;cases hi
  | some q =>
    rw [hq] at hi;have mJ:=h.zQ q (XA hq);by_cases e:lvl w.now a.due=i
    ·simp [e] at hi;subst hi;simpa using mJ
    ·simp [e] at hi;subst hi;exact mJ
theorem Qg.qA (l:List gI):∀ {w:Qg},w.Sh->(w.dK l).Sh:=by
 induction l with
 | nil=>intro w h;exact h
 | cons a l ih=>intro w h;exact ih (Qg.jN h a)
theorem Qg.jF {w:Qg} (h:w.Sh) (l:Nat):(w.again l).Sh:=Qg.qA _ (Qg.iL h _ _)
theorem Qg.oD:∀ (n:Nat) {w:Qg},w.Sh->(w.down n).Sh
 | 0,_,h=>h
 | l+1,_,h=>Qg.oD l (Qg.jF h (l+1))
theorem qa {α:Type} {f:α->Nat}:∀ {l:List α} {k:Nat} {a:α},l[k]?=some a->∀ b,((l.set k b).map f).sum+f a=(l.map f).sum+f b
 | [],k,a,h,b=>by simp at h
 | c::l,0,a,h,b=>by simp at h;subst h;simp;omega
 | c::l,k+1,a,h,b=>by
   simp only [List.getElem?_cons_succ] at h;have:=qa (f:=f) h b;simp only [WX,List.map_cons,List.sum_cons];omega
theorem qx {w:Qg} (h:w.Sh) (a:gI):zv (w.place a)=zv w+1:=by
 unfold Qg.place;split
 ·unfold zv;simp;omega
 ·next hl =>
  obtain ⟨q,hq⟩:∃ q,w.lv[lvl w.now a.due]?=some q:=⟨_,WO (by rw [h.l4];omega)⟩;have mJ:=h.zQ q (XA hq);obtain ⟨s,hs⟩:∃ s,q[J3 a.due (lvl w.now a.due)]?=some s:=⟨_,WO (by rw [mJ];exact tZ _ _)⟩;unfold zv;simp only;rw [qw hq,qw hs];have h1:=qa (f:=fun l:List (List gI)=>(l.map XH).sum) hq (q.set (J3 a.due (lvl w.now a.due)) (s++[a]));have h2:=qa (f:=(XH:List gI->Nat)) hs (s++[a]);simp only [XI,XE,XC] at h2
  try simp only at h1
  omega
theorem Ru (l:List gI):∀ {w:Qg},w.Sh->zv (w.dK l)=zv w+l.length:=by
 induction l with
 | nil=>intro w _;rfl
 | cons a l ih =>
   intro w h
   show zv ((w.place a).dK l)=_
   rw [ih (Qg.jN h a),qx h a];simp;omega
theorem qc1 {w:Qg} (h:w.Sh) {l k:Nat} (hl:l<4) (hk:k<64):zv (w.clear l k)+(w.slot l k).length=zv w:=by
 obtain ⟨q,hq⟩:∃ q,w.lv[l]?=some q:=⟨_,WO (by rw [h.l4];omega)⟩;have mJ:=h.zQ q (XA hq);obtain ⟨s,hs⟩:∃ s,q[k]?=some s:=⟨_,WO (by omega)⟩;unfold Qg.clear Qg.slot zv;simp only;rw [qw hq];have h1:=qa (f:=fun l:List (List gI)=>(l.map XH).sum) hq (q.set k []);have h2:=qa (f:=(XH:List gI->Nat)) hs [];simp only [XC] at h2
 try simp only at h1
 rw [XB,XB,hq,YD,hs,YD];omega
theorem RY {w:Qg} (h:w.Sh) {l:Nat} (hl:l<4):zv (w.again l)=zv w:=by
 unfold Qg.again;rw [Ru _ (Qg.iL h _ _)];exact qc1 h hl (tZ _ _)
theorem Tm:∀ (n:Nat) {w:Qg},w.Sh->n<=3->zv (w.down n)=zv w
 | 0,_,_,_=>rfl
 | l+1,w,h,hn=>by
   show zv ((w.again (l+1)).down l)=_
   rw [Tm l (Qg.jF h _) (by omega),RY h (by omega)]
theorem qtf {t:Nat} (h:∀ j,j<4->J3 t j=0):t % 16777216=0:=by
 have h0:=h 0 (by decide);have h1:=h 1 (by decide);have h2:=h 2 (by decide);have h3:=h 3 (by decide);unfold J3 at h0 h1 h2 h3;simp only [Nat.reducePow] at h0 h1 h2 h3;omega
theorem q0f {t:Nat} (h0:0<t) (h1:t<16777216):J6 t<4:=by
 by_cases h:∀ j,j<4->J3 t j=0
 ·have:=qtf h;omega
 ·have hex:∃ j,j<4/\J3 t j≠0:=by
   apply XL
   intro hn;exact h fun j hj=>XL fun hz=>hn ⟨j,hj,hz⟩
  have hk:J3 t 0≠0\/J3 t 0=0/\(J3 t 1≠0\/J3 t 1=0/\(J3 t 2≠0\/J3 t 2=0/\J3 t 3≠0)):=by
   obtain ⟨j,hj,hz⟩:=hex;have:j=0\/j=1\/j=2\/j=3:=by omega
   rcases this with rfl | rfl | rfl | rfl <;> omega
  rcases hk with hk | ⟨e0,hk | ⟨e1,hk | ⟨e2,hk⟩⟩⟩
  ·rw [E7 (by decide) hk (fun j hj=>absurd hj (Nat.not_lt_zero _))];decide
  ·rw [E7 (k:=1) (by decide) hk (fun j hj=>by (obtain rfl:j=0:=by omega);exact e0)];decide
  ·rw [E7 (k:=2) (by decide) hk (fun j hj=>by
    have:j=0\/j=1:=by omega
    rcases this with rfl | rfl <;> assumption)];decide
  ·rw [E7 (k:=3) (by decide) hk (fun j hj=>by
    have:j=0\/j=1\/j=2:=by omega
    rcases this with rfl | rfl | rfl <;> assumption)];decide
section
variable {wb:Nat} {W0:Xz} {n:Nat} {g:List ak}
theorem UJ (w:Xz) {l k:Nat} {ls:nE} (hls:w.lv[l]?=some ls):({ w with lv:=w.lv.set l (ls.set k []) }:Xz).s=w.s.clear l k:=by
 rw [<- q5m,qw hls]
theorem N9 {w:Xz} {l k:Nat} {ls:nE} {sl:List gp} (hls:w.lv[l]?=some ls) (hsl:ls[k]?=some sl):w.s.slot l k=sl.map gp.e:=by
 unfold Qg.slot Xz.s;simp [XB,WW,hls,hsl]
theorem q46 (hg:Xx wb W0 n g) (hsh:W0.s.Sh) (ho:Ej W0) (l:Nat) (hl:l<4) :
 Qa prog 310 #[Qb wb,WL WM l] [g] fun e gs=>e=WR (WU #[])/\∃ w' g',Xx wb w' n g'/\w'.s=W0.s.again l/\gs=[g']:=by
 obtain ⟨C,vs,bb,bh,gV,gB,gE,hC,hvl,hll,hV,hB,hE,rfl⟩:=hg;obtain ⟨ls,hls⟩:=KI hll (k:=l) hl;obtain ⟨vb,hvb⟩:∃ vb,vs[l]?=some vb:=⟨_,WO (by omega)⟩;have hz:(vs.zip W0.lv)[l]?=some (vb,ls):=uk hvb hls;obtain ⟨u,y,hu,hp,hback⟩:=hV.out hz;have pV:qU ls<=1000000:=by have:=Nq hls;have:=ho.tot;omega
 simp only at hu;have wQ:W0.now<16777215:=ho.now;have hwn:W0.s.now=W0.now:=rfl;obtain ⟨sl,hsl⟩:∃ s,ls[J3 W0.now l]?=some s:=⟨_,WO (by rw [hu.len];exact tZ _ _)⟩
 have hag:W0.s.again l=(W0.s.clear l (J3 W0.now l)).dK (sl.map gp.e):=by
  unfold Qg.again;rw [hwn,N9 hls hsl]
 have hcl:({ W0 with lv:=W0.lv.set l (ls.set (J3 W0.now l) []) }:Xz).s=W0.s.clear l (J3 W0.now l):=UJ W0 hls
 have htot:zv (W0.s.clear l (J3 W0.now l))+sl.length<=999999:=by
  have:=qc1 hsh hl (tZ W0.now l);rw [N9 hls hsl,WT] at this;have h2:=ho.tot;rw [vO] at h2;omega
 have zM:=Qg.iL hsh l (J3 W0.now l);have hcn:(W0.s.clear l (J3 W0.now l)).now=W0.now:=rfl;have Cm:=Vh (show Qe prog 312 #[WL WN W0.now,WL WM l] [] (WL WM (J3 W0.now l)) from KX W0.now l (by omega) hl);have hdl:=tZ W0.now l;rw [hag];generalize J3 W0.now l=dg at *;obtain ⟨S1,hS1⟩:∃ S1,S1=W0.s.clear l dg:=⟨_,rfl⟩;rw [<- hS1] at hcl htot zM hcn |-;refine GO fun w HT=>?_
 have HT:=Vh (((HT.m [[cl wb 257 C],gV,gB,gE]).bF 1 rfl hp).m [[cl wb 257 C],u,gB,gE,y]);have HC:=Vh hC;have HU:=Vh hu;have Ck:=Vh hback;have HB:=Vh hB;have HE:=Vh hE;have nk:=Vh hsl;have pG:=Vh pV;have qW:=Vh (WQ hvl (WQ hll hvb));have jU:=Vh hcl;have mH:=Vh (WQ htot (WQ zM (WQ hcn wQ)));have c0:=(HT.c 0 0 0).trans hC.now;have c1:=(HT.cell 0 0 rfl (1+l)).trans (hC.lv l vb hvb);have hlb:(l:Int)<4:=by omega
 clear hu hB hE hC ho hV hp hback hls hsl pV hvb hvl hll hz hwn hag hcl htot zM hcn wQ hsh hdl hS1;go_enter func310,ntmps310
 go_wp2_with fail
 refine QU 12 (by kernel_rfl) (by kernel_rfl) rfl rfl rfl rfl ?_
 simp only [XY,List.take_zero,List.drop_succ_cons,List.drop_zero,XE,XC,Nat.reduceAdd,Nat.reduceSub,Act.put,Act.eval,XJ,WX,XD]
 repeat (go_big_quiet_step ((first | (go_at_call 312;with_reducible exact Qe.quiet (Cm.out) HT.out _ [] rfl rfl))))
 refine WY (QT HT fun nq HT=>?_)
 go_wp2_with fail
 refine Qa.run (Uf HU nk pG) (HT) [1] ?_
 rintro e w1 gs ⟨v,gr,gn,ge,g1,rfl,hr,hn,he,hg1,rfl⟩ HT;simp only [PU] at HT;obtain ⟨av,cap,pP⟩:=Q1.val hr;subst pP;have HR:=Vh hr;have HN:=Vh hn;have su:=Vh he;have kF:=Vh hg1;clear hr hn he hg1 c0 c1;go_wp2_with fail
 refine ⟨rfl,?_⟩
 obtain ⟨sS,hV',hp'⟩:=Ck.out (vb,ls.set dg []) g1 kF
 have hw1:Xx wb { W0 with lv:=W0.lv.set l (ls.set dg []) } n ([cl wb 257 C]++(sS++(gB++gE))) :=
  ⟨C,vs,bb,bh,sS,gB,gE,HC,qW.1,by rw [XR];exact qW.2.1,by rw [<- ze l qW.out.2.2];exact hV',HB,HE,rfl⟩
 have T1:=((HT.m [[cl wb 257 C],g1++y,gB,gE,gr,gn,ge]).bF 1 rfl hp').sum (H':=[[cl wb 257 C]++(sS++(gB++gE)),gr,gn,ge]);generalize [cl wb 257 C]++(sS++(gB++gE))=gW0 at hw1 T1;have HW1:=Vh hw1;clear hw1 hV' hp' HT;have hln:sl.length<=999999:=by have:=mH.1;omega
 go_wp2
 go_loopw [5,20] (fun _ i wr=>∃ j:Nat,j<=sl.length/\i=WL WM j/\∃ wj gW xO xN,Xx wb wj n gW/\wj.s=S1.dK ((sl.take j).map gp.e)/\Yx (fun a=>q8 a.nd) (sl.drop j) xO/\Yx (rQ (Qb wb)) (sl.drop j) xN /\
  TG [[cl wb 257 C]++(gV++(gB++gE))] w [gW,gr,xO,xN] wr) (fun _ i _=>sl.length+1 - (intOf i).toNat)
 case atStart=>exact ⟨0,YH _,rfl,_,gW0,gn,ge,HW1,by rw [jU.out];rfl,by simpa using HN.out,by simpa using su.out,T1⟩
 case round =>
  obtain ⟨j,hj,rfl,wj,gW,xO,xN,Ba,hws,hn,he,T⟩:=hrel;have HT:=Vh T;have O4:=Vh Ba;have HWS:=Vh hws;clear T T1 Ba;by_cases hlt:j<sl.length
  ·obtain ⟨a,ha⟩:∃ a,sl[j]?=some a:=⟨_,WO hlt⟩
   rw [drop_at ha] at hn he;obtain ⟨x1,y1,hx1,hy1,rfl⟩:=G6 hn;obtain ⟨x2,y2,hx2,hy2,rfl⟩:=G6 he;have zP:x1=[cl a.nb 378 #[Qb a.eb,WK none,WK none,WK none]]:=hx1;subst zP;obtain ⟨rb,cap',cur,hv,rfl,_,_,_,dN⟩:=HR.open (by omega);cases hv
   have hcj:=dN j (by omega);rw [WW,ha] at hcj
   have hok:Ej wj:=by
    have h1:wj.now=S1.now:=by
     have:wj.s.now=S1.now:=by rw [hws,Qg.iB]
     exact this
    refine ⟨by rw [h1,mH.out.2.2.1];exact mH.2.2.2,?_⟩
    rw [vO,hws,Ru _ mH.out.2.1,WT,List.length_take];have:=mH.1;omega
   have o7:=Vh (UY O4 hok a x2 hx2);have IP:=Vh hy1;have IQ:=Vh hy2;have HA:=Vh ha
   have hps:∀ nb,(wj.place { a with nb:=nb }).s=S1.dK ((sl.take (j+1)).map gp.e):=fun nb=>by
    rw [MX,hws,XF hlt,List.map_append];have:sl[j]=a:=(WV.1 ha).2;rw [this];unfold Qg.dK;rw [List.foldl_append];rfl
   have HPS:=Vh hps;have HT:=Vh (HT.out.sum (H':=[gW,x2,[cl rb 315 cur],[cl a.nb 378 #[Qb a.eb,WK none,WK none,WK none]],y1,y2]));have r0:=(HT.cell 2 0 rfl j).trans hcj;have b0:=HT.c 3 0 0;simp only [bR,XT] at r0 b0;clear hn he hx1 hx2 hy1 hy2 hcj dN hok hps hws ha;go_wp2_with fail
   refine Qa.run o7 HT [0,1] ?_
   rintro e w1 gs ⟨rfl,nb',g2,hg2,rfl⟩ HT;simp only [PU] at HT;have qV:=Vh hg2;clear hg2;go_wp2
   first | go_roundw | refine ⟨?rel,?measure⟩ | ((repeat apply XG);refine ⟨⟨?rel,rfl⟩,?measure⟩)
   case rel=>exact ⟨j+1,by omega,by go_num,_,g2,y1,y2,qV,HPS nb',IP,IQ,HT.p [0,2,4,5]⟩
   case measure=>simp [intOf];omega
  ·obtain rfl:j=sl.length:=by omega
   have e:sl.take sl.length=sl:=YE;rw [e] at hws;go_wp2
   exact bodyPost_end (XO rfl _ _ _) rfl ⟨_,⟨rfl,wj,gW,O4,hws,rfl⟩,HT.p [0]⟩
end
section
variable {wb:Nat} {W0:Xz} {n:Nat} {g:List ak}
theorem uT.count {vs:List Nat} {bb now n:Nat} {C:Array Value} (h:uT vs bb now n C) (hl:vs.length=4) (m:Nat):uT vs bb now m (C.setIfInBounds 6 (WL WM m)):=by
 refine ⟨by simpa using h.size,(Qc (by omega)).trans h.now,fun i v hv=>(Qc ?_).trans (h.lv i v hv),(Qc (by omega)).trans h.lV,?_⟩
 ·have:=(WV.1 hv).1;omega
 ·exact Xa h.n
theorem uT.clock {vs:List Nat} {bb now n:Nat} {C:Array Value} (h:uT vs bb now n C) (m:Nat):uT vs bb m n (C.setIfInBounds 0 (WL WN m)) :=
 ⟨by simpa using h.size,Xa h.now,fun i v hv=>(Qc (by omega)).trans (h.lv i v hv),(Qc (by omega)).trans h.lV,(Qc (by omega)).trans h.n⟩
theorem Xx.open {g:List ak} (h:Xx wb W0 n g):∃ C vs bb gR,uT vs bb W0.now n C/\vs.length=4/\g=[cl wb 257 C]++gR /\
 ∀ (now' n':Nat) C',uT vs bb now' n' C'->Xx wb { W0 with now:=now' } n' ([cl wb 257 C']++gR):=by
 obtain ⟨C,vs,bb,bh,gV,gB,gE,hC,hvl,hll,hV,hB,hE,rfl⟩:=h;exact ⟨C,vs,bb,gV++(gB++gE),hC,hvl,rfl,fun now' n' C' h'=>⟨C',vs,bb,bh,gV,gB,gE,h',hvl,hll,hV,hB,hE,rfl⟩⟩
theorem qqn {W0:Xz} (h:W0.s.Sh) (a:gp):iW (W0.place a)=iW W0+1:=by
 rw [vO,vO,MX];exact qx h a.e
theorem q15 (hg:Xx wb W0 (iW W0) g) (hsh:W0.s.Sh) (ho:Ej W0) (d:Nat) (hd:d<18446744073709551616) (hlt:W0.now<d) (v:Qn) :
 Qa prog 331 #[Qb wb,WL WN d,.agg v.cells] [g] fun e gs=>∃ eb,e=WR (WU #[Qb eb,WL WM 0])/\∃ w' g',Xx wb w' (iW w') g'/\w'.s=W0.s.place ⟨d,v,d⟩/\gs=[g']:=by
 have HPG:=Vh (show ∀ g',Xx wb W0 (iW W0) g'->_ from fun g' hg' a ge ha=>UY (g:=g') hg' ho a ge ha);have htot:=ho.tot;have HTP:=Vh (show ∀ nb eb,(W0.place ⟨eb,nb,⟨d,v,d⟩⟩).s=W0.s.place ⟨d,v,d⟩/\iW (W0.place ⟨eb,nb,⟨d,v,d⟩⟩)=iW W0+1 from fun nb eb=>⟨MX _ _,qqn hsh _⟩);have HW:=Vh hg;obtain ⟨C,vs,bb,gR,hC,hvl,rfl,hback⟩:=hg.open;have hle:decide ((d:Int)<=(W0.now:Int))=false:=decide_eq_false (by omega);have hle2:¬ d<=W0.now:=by omega
 refine GO fun w HT=>?_
 have HT:=Vh (HT.out.m [[cl wb 257 C],gR]);have c0:=(HT.c 0 0 0).trans hC.now;have lt:=HT.l 0 0;simp only [] at lt;have HD:=Vh hd;clear hC hvl hsh ho hlt hback hg hd;simp only [Qn.cells];go_enter func331,ntmps331
 go_wp2_with fail
 obtain ⟨eb,FU⟩:∃ eb,eb=w.heap.size+1:=⟨_,rfl⟩;have HT:=Vh ((((HT.aN (.cells #[WL WN v.id,WL WM v.slot,WL WN v.gen,WL WN v.dl,WL WN v.per] 40)).alloc (k:=eb) (by rw [FU];simp) 376 (qN (Qb wb) ⟨d,v,d⟩ 0 0 (WK none))).m [[cl wb 257 C]++gR,[cl eb 376 (qN (Qb wb) ⟨d,v,d⟩ 0 0 (WK none))]]).eq (H':=[[cl wb 257 C]++gR,mF eb (Qb wb) ⟨d,v,d⟩ 0 0 (WK none)]) rfl);simp only [qN] at HT;rw [<- FU];clear FU c0 lt hle hle2;generalize XU (XU w _) _=w1 at HT |-;go_wp2_with fail
 refine Qa.run (HPG _ HW ⟨eb,0,⟨d,v,d⟩⟩ (mF eb (Qb wb) ⟨d,v,d⟩ 0 0 (WK none)) ⟨HD,0,0,none,rfl⟩) (HT) [0,1] ?_
 rintro e w1 gs ⟨rfl,nb,g2,hg2,rfl⟩ HT;simp only [PU] at HT;have HP:=Vh (HTP.out nb eb);generalize W0.place ⟨eb,nb,⟨d,v,d⟩⟩=w2 at hg2 HP;obtain ⟨C2,vs2,bb2,OA,hC2,tK,rfl,ja⟩:=hg2.open
 have hfin:Xx wb w2 (iW w2) ([cl wb 257 (C2.setIfInBounds 6 (WL WM ((iW W0:Int)+1)))]++OA):=by
  have:=ja w2.now (iW W0+1) _ (hC2.count tK _);rw [HP.out.2];exact this
 have HF:=Vh hfin;have HT:=Vh (HT.out.m [[cl wb 257 C2],OA]);have c6:=(HT.c 0 0 6).trans hC2.n;have f6:=HT.f 0 0 6;clear hg2 hC2 tK ja hfin;generalize iW W0=N at *;go_wp2
 go_ret2
 exact ⟨_,⟨eb,rfl,w2,_,HF,HP.1,rfl⟩,(HT.set 0 0 rfl 6 _).sum⟩
end
theorem Tryz.nT:(prog.info? 284).map (fun i=>(i.zero,i.size,i.bytes))=some (some (WK none),1,8):=by kernel_rfl
section
variable {wb:Nat} {W0:Xz} {n:Nat} {g:List ak}
def Ci (wb:Nat) (W0:Qg) (e:Ending) (gs:GH):Prop :=
 ∃ (v:Value) (l:List gp) (gr ge:List ak) (w':Xz) (g':List ak),e=WR (WU #[v,WL WM 0])/\l.map gp.e=W0.fO.2/\Q1 284 1 v l.length (l.map fun a=>Qb a.eb) gr /\
   Yx (rQ (WK none)) l ge/\Xx wb w' (iW w') g'/\w'.s=W0.fO.1/\gs=[g',gr,ge]
theorem qv6 (hg:Xx wb W0 (iW W0) g) (hsh:W0.s.Sh) (hn:W0.now<16000000) (ht:iW W0<=999999) :
 Qa prog 295 #[Qb wb] [g] (Ci wb W0.s):=by
 have hz:=q0f (t:=W0.now+1) (by omega) (by omega);have HA:=Vh (LB W0.now 1 (by omega) (by omega) (by omega));have HZ:=Vh (show Qa prog 307 #[WL WN ((W0.now:Int)+1)] [] _ from qod (W0.now+1) (by omega))
 have wK:W0.s.fO=(let w2:=Qg.down (J6 (W0.now+1)) { W0.s with now:=W0.now+1 };(w2.clear 0 (J3 w2.now 0),w2.slot 0 (J3 w2.now 0))):=by
  unfold Qg.fO;have:min (J6 (W0.s.now+1)) 3=J6 (W0.now+1):=Nat.min_eq_left (by show J6 (W0.now+1)<=3;omega);rw [this];rfl
 have hD:=Qg.jH (J6 (W0.now+1)) { W0.s with now:=W0.now+1 };obtain ⟨S2,hS2⟩:∃ S2,S2=Qg.down (J6 (W0.now+1)) { W0.s with now:=W0.now+1 }:=⟨_,rfl⟩;rw [<- hS2] at wK hD;simp only [] at wK;unfold Ci;rw [wK];generalize J6 (W0.now+1)=z at *;obtain ⟨C,vs,bb,gR,hC,hvl,rfl,hback⟩:=hg.open;refine GO fun w HT=>?_
 have HT:=Vh (HT.out.m [[cl wb 257 C],gR]);have c0:=(HT.c 0 0 0).trans hC.now;have f0:=HT.f 0 0 0;have HC:=Vh hC;have hW1:=hback (W0.now+1) (iW W0) _ (hC.clock (W0.now+1));have HW1:=Vh (show Xx wb { W0 with now:=W0.now+1 } (iW W0) ([cl wb 257 (C.setIfInBounds 0 (WL WN ((W0.now:Int)+1)))]++gR) from hW1);have jV:=Vh hsh;have HD:=Vh hD;have HS2:=Vh hS2;have hzi:¬ ((z:Int) ≥ 4):=by omega
 have hmin:min (z:Int) 3=z:=by omega
 clear hC hvl hback hg hsh wK hD hS2 hW1;go_enter func295,ntmps295
 go_wp2_with fail
 refine Qa.run HA HT [] ?_
 rintro e w1 gs ⟨rfl,rfl⟩ HT;simp only [PU] at HT;clear c0 f0;have c0:=(HT.c 0 0 0).trans HC.now;have f0:=HT.f 0 0 0;go_wp2_with fail
 refine Qa.run HZ (HT.set 0 0 rfl 0 (WL WN ((W0.now:Int)+1))) [] ?_
 rintro e w1 gs ⟨rfl,rfl⟩ HT;simp only [PU] at HT;clear c0 f0;go_wp2
 have T1:=HT.m [[cl wb 257 (C.setIfInBounds 0 (WL WN ((W0.now:Int)+1)))]++gR];have HB:=Vh (show ({ W0.s with now:=W0.now+1 }:Qg).Sh/\zv { W0.s with now:=W0.now+1 }=iW W0 from ⟨⟨jV.l4,jV.zQ⟩,(vO W0).symm⟩);generalize iW W0=N at *;generalize [cl wb 257 (C.setIfInBounds 0 (WL WN ((W0.now:Int)+1)))]++gR=iN at HW1 T1;clear HT hmin hzi HC
 go_loopw [9] (fun l wr=>∃ j:Nat,j<=3/\l=WL WM j/\∃ wj gW,Xx wb wj N gW/\wj.s.down j=S2/\wj.s.Sh/\wj.now=W0.now+1/\zv wj.s=N/\TG [[cl wb 257 C]++gR] w [gW] wr) (fun l _=>(intOf l).toNat)
 case atStart=>exact ⟨z,by omega,rfl,_,iN,HW1,HS2.symm,HB.1,rfl,HB.2,T1⟩
 case round =>
  obtain ⟨j,hj,rfl,wj,gW,Ba,hdn,hsj,FZ,htj,T⟩:=hrel;have HT:=Vh T;clear T T1 HW1 HS2 HB;cases j with
  | succ j =>
    have hok:Ej wj:=⟨by omega,by rw [vO];omega⟩;have hag:=q46 Ba hsj hok (j+1) (by omega);have HAG:=Vh (show Qa prog 310 #[Qb wb,WL WM ((j:Int)+1)] [gW] _ from hag)
    have hX:∀ w':Xz,w'.s=wj.s.again (j+1)->w'.s.down j=S2/\w'.s.Sh/\w'.now=W0.now+1/\zv w'.s=N:=fun w' h=>by
     rw [h];refine ⟨hdn,Qg.jF hsj _,?_,?_⟩
     ·have h1:w'.s.now=wj.s.now:=by rw [h,Qg.kI]
      exact (show w'.now=wj.now from h1).trans FZ
     ·rw [RY hsj (by omega),htj]
    have HX:=Vh hX;have hj1:((j+1:Nat):Int)=(j:Int)+1:=by omega
    simp only [hj1];clear hdn hsj FZ htj hok hag hX Ba hj1;go_wp2_with fail
    refine Qa.run HAG HT [0] ?_
    rintro e w1 gs ⟨rfl,w',g',hg',hs',rfl⟩ HT;simp only [PU] at HT;have HG:=Vh hg';have HY:=Vh (HX.out w' hs');clear hg' hs';go_wp2
    first | go_roundw | refine ⟨?rel,?measure⟩ | ((repeat apply XG);refine ⟨⟨?rel,rfl⟩,?measure⟩)
    case rel=>exact ⟨j,by omega,rfl,w',g',HG,HY.1,HY.2.1,HY.2.2.1,HY.2.2.2,HT⟩
    case measure=>simp [intOf] <;> omega
  | zero =>
    have Kk:wj.s=S2:=hdn;subst Kk;obtain ⟨C2,vs2,bb2,bh2,gV,gB,gE,hC2,tK,zF,hV,hB,hE,rfl⟩:=Ba;obtain ⟨ls,hls⟩:=KI zF (k:=0) (by decide);obtain ⟨vb,hvb⟩:∃ vb,vs2[0]?=some vb:=⟨_,WO (by omega)⟩;have hz:(vs2.zip wj.lv)[0]?=some (vb,ls):=uk hvb hls;obtain ⟨u,y,hu,hp,hback⟩:=hV.out hz;have rf:iW wj=N:=(vO wj).trans htj;have pV:qU ls<=1000000:=by have:=Nq hls;omega
    simp only at hu;have hwn:wj.s.now=W0.now+1:=FZ;obtain ⟨sl,hsl⟩:∃ s,ls[J3 (W0.now+1) 0]?=some s:=⟨_,WO (by rw [hu.len];exact tZ _ _)⟩;have hcl:({ wj with lv:=wj.lv.set 0 (ls.set (J3 (W0.now+1) 0) []) }:Xz).s=wj.s.clear 0 (J3 (W0.now+1) 0):=UJ wj hls;have tF:=N9 hls hsl;have htot:=qc1 hsj (l:=0) (by decide) (tZ (W0.now+1) 0);rw [tF,WT,htj] at htot;have Cm:=Vh (show Qe prog 312 #[WL WN ((W0.now:Int)+1),WL WM 0] [] (WL WM (J3 (W0.now+1) 0)) from KX (W0.now+1) 0 (by omega) (by decide));have hdl:=tZ (W0.now+1) 0;have yB:=Vh (WQ (show J3 wj.s.now 0=J3 (W0.now+1) 0 by rw [hwn]) tF);generalize J3 (W0.now+1) 0=dg at *;have HT:=Vh (((HT.m [[cl wb 257 C2],gV,gB,gE]).bF 1 rfl hp).m [[cl wb 257 C2],u,gB,gE,y]);have HC:=Vh hC2;have HU:=Vh hu;have Ck:=Vh hback;have HB:=Vh hB;have HE:=Vh hE;have nk:=Vh hsl;have pG:=Vh pV;have qW:=Vh (WQ tK (WQ zF hvb));have jU:=Vh hcl;have mH:=Vh htot;have c1:=(HT.c 0 0 1).trans (hC2.lv 0 vb hvb);clear hu hB hE hC2 hV hp hback hls hsl pV hvb tK zF hz hwn tF hcl htot FZ hsj hdl hdn htj rf;go_wp2_with fail
    refine QU 7 (by kernel_rfl) (by kernel_rfl) rfl rfl rfl rfl ?_
    simp only [XY,List.take_zero,List.drop_succ_cons,List.drop_zero,XE,XC,Nat.reduceAdd,Nat.reduceSub,Act.put,Act.eval,XJ,WX,XD]
    repeat (go_big_quiet_step ((first | (go_at_call 312;with_reducible exact Qe.quiet (Cm.out) HT.out _ [] rfl rfl))))
    refine WY (QT HT fun nq HT=>?_)
    go_wp2_with fail
    refine Qa.run (Uf HU nk pG) (HT) [1] ?_
    rintro e w1 gs ⟨v,gr,gn,ge,g1,rfl,hr,hn,he,hg1,rfl⟩ HT;simp only [PU] at HT;obtain ⟨av,cap,pP⟩:=Q1.val hr;subst pP;have HR:=Vh hr;have HN:=Vh hn;have su:=Vh he;have kF:=Vh hg1;clear hr hn he hg1 c1;go_wp2_with fail
    refine ⟨rfl,?_⟩
    obtain ⟨sS,hV',hp'⟩:=Ck.out (vb,ls.set dg []) g1 kF
    have jv:∀ (m:Nat) (C':Array Value),uT vs2 bb2 wj.now m C'->Xx wb { wj with lv:=wj.lv.set 0 (ls.set dg []) } m ([cl wb 257 C']++(sS++(gB++gE))):=fun m C' h' =>
     ⟨C',vs2,bb2,bh2,sS,gB,gE,h',qW.1,by rw [XR];exact qW.2.1,by rw [<- ze 0 qW.out.2.2];exact hV',HB,HE,rfl⟩
    have T1:=((HT.m [[cl wb 257 C2],g1++y,gB,gE,gr,gn,ge]).bF 1 rfl hp').m [[cl wb 257 C2],sS++(gB++gE),gr,gn,[],[],ge];generalize sS++(gB++gE)=mI at jv T1;have HWH:=Vh jv;clear jv hV' hp' HT;have hln:sl.length<=999999:=by have:=mH.out;omega
    go_wp2
    go_loopw [10,12,66] (fun out _ i wr=>∃ j:Nat,j<=sl.length/\i=WL WM j/\∃ (m:Nat) (Cj:Array Value) (gq xO gd xN:List ak),m+j=N/\uT vs2 bb2 wj.now m Cj/\Q1 284 1 out j ((sl.take j).map fun a=>Qb a.eb) gq /\
     Yx (fun a=>q8 a.nd) (sl.drop j) xO/\Yx (rQ (WK none)) (sl.take j) gd/\Yx (rQ (Qb wb)) (sl.drop j) xN /\
     TG [[cl wb 257 C]++gR] w [[cl wb 257 Cj],mI,gr,xO,gq,gd,xN] wr) (fun _ _ i _=>sl.length+1 - (intOf i).toNat)
    case atStart=>exact ⟨0,YH _,rfl,N,C2,[],gn,[],ge,rfl,HC,X5 _ _,by simpa using HN.out,rfl,by simpa using su.out,T1⟩
    case round =>
     obtain ⟨j,hj,rfl,m,Cj,gq,xO,gd,xN,hm,hcj,hq,hn,hd,he,T⟩:=hrel;have HT:=Vh T;have Ir:=Vh hcj;have HQ:=Vh hq;have Cn:=Vh hd;obtain ⟨aq,capq,hv⟩:=Q1.val hq;subst hv;clear T T1 hcj hq hd;by_cases hlt:j<sl.length
     ·obtain ⟨a,ha⟩:∃ a,sl[j]?=some a:=⟨_,WO hlt⟩
      rw [drop_at ha] at hn he;obtain ⟨x1,y1,hx1,hy1,rfl⟩:=G6 hn;obtain ⟨x2,y2,⟨wM,AF,AL,AJ,rfl⟩,hy2,rfl⟩:=G6 he;have zP:x1=[cl a.nb 378 #[Qb a.eb,WK none,WK none,WK none]]:=hx1;subst zP;obtain ⟨rb,cap',cur,hv,rfl,_,_,_,dN⟩:=HR.open (by omega);cases hv
      have hcj:=dN j (by omega);rw [WW,ha] at hcj;obtain ⟨m',rfl⟩:∃ m',m=m'+1:=⟨m - 1,by have:=mH.out;omega⟩;have IP:=Vh hy1;have IQ:=Vh hy2;have FE:=Vh wM
      have hq2:(sl.take (j+1))=sl.take j++[a]:=by
       rw [XF hlt,(WV.1 ha).2]
      have C6:=Vh hq2;have HMJ:=Vh hm;have HT:=Vh (HT.out.sum (H':=[[cl wb 257 Cj],mI,[cl rb 315 cur],[cl a.nb 378 #[Qb a.eb,WK none,WK none,WK none]],y1,gq,gd,mF a.eb (Qb wb) a.e AF AL (.pointer AJ),y2]));have r0:=(HT.cell 2 0 rfl j).trans hcj;have b0:=HT.c 3 0 0;have e7:=HT.c 7 0 7;have f7:=HT.f 7 0 7;have c6:=(HT.c 0 0 6).trans (show Cj[6]?=some (WL WM ((m':Int)+1)) from Ir.out.n);have f6:=HT.f 0 0 6;have ne1:=HT.ne 0 0 7 0 (by decide) rfl rfl;have xS:=HT.ne 3 0 7 0 (by decide) rfl rfl;have xU:=HT.ne 0 0 3 0 (by decide) rfl rfl;simp only [] at ne1 xS xU;have oI:=YI ne1;have Ph:=YI xS;have Pj:=YI xU;simp only [aC,XT,qN] at r0 b0 e7;have hmb:m'<=999999:=by omega
      have II:=Vh ((HT.set 7 0 rfl 7 (WK none)).set 0 0 rfl 6 (WL WM (m':Int)));simp only [XD,WX,List.getD_cons_zero,List.getD_cons_succ] at II;clear hn he hx1 hy1 hy2 hcj dN ha hq2 wM hm
      have hnw:∀ j u,([Qb a.eb]:List Value)[j]?=some u->(((wr.setCell ⟨a.eb,7,none⟩ (WK none)).setCell ⟨wb,6,none⟩ (WL WM (m':Int))).alloc (.cells #[Qb a.eb] 284)).cell? ((⟨wr.heap.size,0,none⟩:Addr).add j)=some u:=by
       have:=Za ((wr.setCell ⟨a.eb,7,none⟩ (WK none)).setCell ⟨wb,6,none⟩ (WL WM (m':Int))) 284 [Qb a.eb];rw [Zs,Zs] at this;exact this
      have lh:=Vh hnw;clear hnw;go_wp2_with (at_builtin;(with_reducible refine X3 rfl (.tmp 83) (.tmp 88) 360 rfl 284 1 8 _ underlying360 Tryz.nT rfl (by decide) ((II.out).aN _) 5 rfl rfl (HQ.out) rfl ⟨wr.heap.size,0,none⟩ 1 1 [Qb a.eb] rfl rfl lh.out (by simp [Value.oneCell']) (by unfold maxLen;omega) (by omega) ?_);intro v1 w2 nM r1 T1;simp only [XD,WX] at T1;have T1:=Vh T1;have r1:=Vh r1)
      have HQ1:=Vh (show Q1 284 1 v1 (j+1) ((sl.take (j+1)).map fun a=>Qb a.eb) nM from by rw [C6.out];simpa using r1.out);have Iv:=Vh (show Yx (rQ (WK none)) (sl.take (j+1)) (gd++mF a.eb (WK none) a.e AF AL (.pointer AJ)) from by rw [C6.out];exact Yx.snoc Cn ⟨FE,_,_,_,rfl⟩);have Iu:=Vh (Ir.out.count qW.1 m');have T2:=((T1.eq (H':=[[cl wb 257 (Cj.setIfInBounds 6 (WL WM (m':Int)))],mI,[cl rb 315 cur],[cl a.nb 378 #[Qb a.eb,WK none,WK none,WK none]],y1,nM,gd,mF a.eb (WK none) a.e AF AL (.pointer AJ),y2]) rfl).sum (H':=[[cl wb 257 (Cj.setIfInBounds 6 (WL WM (m':Int)))],mI,[cl rb 315 cur],y1,nM,gd++mF a.eb (WK none) a.e AF AL (.pointer AJ),y2,[cl a.nb 378 #[Qb a.eb,WK none,WK none,WK none]]])).p [0,1,2,3,4,5,6];have HT2:=Vh T2;clear T2 HT T1 II;go_wp2
      first | go_roundw | refine ⟨?rel,?measure⟩ | ((repeat apply XG);refine ⟨⟨?rel,rfl⟩,?measure⟩)
      case rel=>exact ⟨j+1,by omega,by go_num,m',_,nM,y1,_,y2,by have:=HMJ.out;omega,Iu,HQ1,IP,Iv,IQ,HT2⟩
      case measure=>simp [intOf];omega
     ·obtain rfl:j=sl.length:=by omega
      have e:sl.take sl.length=sl:=YE;rw [e] at HQ Cn
      have hmm:iW { wj with lv:=wj.lv.set 0 (ls.set dg []) }=m:=by
       rw [vO,jU.out];have:=mH.out;omega
      have HM:=Vh hmm;clear hn he hmm e;go_wp2
      go_ret2
      refine ⟨_,⟨_,sl,gq,gd,{ wj with lv:=wj.lv.set 0 (ls.set dg []) },_,rfl,?_,HQ,Cn,by rw [HM.out];exact HWH m Cj Ir,?_,rfl⟩,(HT.m [[cl wb 257 Cj]++mI,gq,gd,gr++(xO++xN)]).p [0,1,2]⟩
      ·rw [yB.out.1];exact yB.2.symm
      ·rw [yB.out.1];exact jU
end
theorem qtt:Qa prog 176 #[] [] fun e gs=>∃ b ss g,e=WR (Qb b)/\Yo b ss g/\(∀ s∈ss,s.l=[])/\gs=[g]:=by
 refine GO fun w HT=>?_
 go_enter func176,ntmps176
 go_wp2
 have T1:=HT.a 321 Tryz.zeroCells321
 go_loopw [2,5] (fun _ i wr=>∃ (k:Nat) (C:Array Value) (ss:List Je) (gH:List ak),k<=64/\i=WL WM k/\C.size=66/\ss.length=k/\(∀ s∈ss,s.l=[])/\(∀ (i:Nat) (s:Je),ss[i]?=some s->C[i]?=some (Qb s.lb))/\C[64]?=some (WL WN 0)/\C[65]?=some (WL WM 0)/\Yx q22 ss gH /\
  TG [] w [[cl w.heap.size 321 C],gH] wr) (fun _ i _=>65 - (intOf i).toNat)
 case atStart=>exact ⟨0,Tryz.zeroCells321,[],[],by omega,rfl,by kernel_rfl,rfl,fun s h=>(by cases h),fun i s h=>(by simp at h),by kernel_rfl,by kernel_rfl,rfl,T1.m [[cl w.heap.size 321 Tryz.zeroCells321],[]]⟩
 case round =>
  obtain ⟨lb,hlb⟩:∃ lb,lb=w.heap.size:=⟨_,rfl⟩;rw [<- hlb] at hrel |-;obtain ⟨k,C,ss,gH,hk,rfl,hC,hl,he,hat,h64,yU,hF,T⟩:=hrel;have HT:=Vh T;have HC:=Vh hC;have HS:=Vh (WQ hl (WQ he (WQ hat (WQ h64 (WQ yU hF)))));clear T T1 hC hlb hl he hat h64 yU hF;by_cases hlt:k<64
  ·have c0:=XM (xs:=C) (i:=k) (by rw [HC.out];omega)
   have xF:=Vh c0;clear c0;go_wp2
   go_region_with (
    go_at_call 175
    refine (Qa.use Rx HT.drew [] rfl rfl).mono ?_
    rintro e w1 ⟨gs,⟨b,hb,g,rfl,hg,rfl⟩,Ta⟩;simp only [PU] at Ta;have c1:=(Ta.cell 0 0 rfl k).trans xF;have f1:=Ta.free 0 0 rfl k;have HG:=Vh hg;have HT1:=Vh Ta
    clear Ta hg)
   obtain ⟨hl,he,hat,h64,yU,hF⟩:=HS.out
   have hs2:∀ (i:Nat) (s:Je),(ss++[(⟨b,hb,[]⟩:Je)])[i]?=some s->(C.setIfInBounds k (Qb b))[i]?=some (Qb s.lb):=fun i s h=>by
    by_cases hi:i<ss.length
    ·rw [XN hi] at h
     rw [Qc (by omega)];exact hat i s h
    ·rw [XK (by omega)] at h
     have:i - ss.length=0:=by
      rcases XZ (i - ss.length) with h0 | h0
      ·exact h0
      ·rw [List.getElem?_cons] at h;simp [YG h0] at h
     have hik:i=k:=by omega
     subst hik;rw [this] at h;simp only [XQ,YC] at h;subst h;exact Xa xF
   have HS2:=Vh (WQ hs2 (WQ (show ∀ s∈ss++[(⟨b,hb,[]⟩:Je)],s.l=[] from fun s h=>by (rcases List.mem_append.1 h with h | h;exact he s h;rw [List.mem_singleton.1 h])) (Yx.snoc (P:=q22) (a:=⟨b,hb,[]⟩) hF HG)));have HX:=Vh (WQ (show (C.setIfInBounds k (Qb b))[64]?=some (WL WN 0) from (Qc (by omega)).trans h64) (show (C.setIfInBounds k (Qb b))[65]?=some (WL WM 0) from (Qc (by omega)).trans yU));have dR:=Vh hl;clear hl he hat h64 yU hF hs2;go_wp2
   first | go_roundw | refine ⟨?rel,?measure⟩ | ((repeat apply XG);refine ⟨⟨?rel,rfl⟩,?measure⟩)
   case rel=>exact ⟨k+1,_,ss++[⟨b,hb,[]⟩],gH++g,by omega,by go_num,by rw [XP];exact HC,by rw [XI,dR.out];rfl,HS2.2.1,HS2.1,HX.1,HX.2,HS2.2.2,(HT1.set 0 0 rfl k _).sum⟩
   case measure=>simp [intOf];omega
  ·go_wp2
   go_ret
   obtain ⟨hl,he,hat,h64,yU,hF⟩:=HS.out
   have ht:jY ss=0:=by
    unfold jY
    have:ss.map (fun s=>s.l.length)=WS ss.length 0:=by
     rw [XW];refine ⟨by simp,fun b hb=>?_⟩
     obtain ⟨s,hs,rfl⟩:=YA.1 hb;rw [he s hs];rfl
    rw [this];simp
   exact ⟨_,⟨_,ss,_,rfl,⟨by omega,C,gH,⟨HC,hat,⟨0,h64⟩,by rw [ht];exact yU⟩,hF,rfl⟩,he,rfl⟩,HT.sum⟩
def vB:nE:=WS 64 []
def EO:Xz:=⟨0,WS 4 vB,[]⟩
theorem TU {α:Type} {P:α->List ak->Prop}:∀ n:Nat,Yx (Yx P) (WS n []) []
 | 0=>rfl
 | n+1=>⟨[],[],rfl,TU n,rfl⟩
theorem qtp {b:Nat} {ss:List Je} {g:List ak} (h:Yo b ss g) (he:∀ s∈ss,s.l=[]) (home:Value):vL b home vB g:=by
 refine ⟨ss,g,[],h,?_,TU 64,by simp⟩
 have:ss.map Je.l=WS 64 []:=by
  rw [XW];refine ⟨by rw [WT];exact h.1,fun b hb=>?_⟩
  obtain ⟨s,hs,rfl⟩:=YA.1 hb;exact he s hs
 rw [this];rfl
theorem qvi:Qa prog 135 #[WL WN 0] [] fun e gs=>∃ b g,e=WR (Qb b)/\Xx b EO 0 g/\gs=[g]:=by
 refine GO fun w HT=>?_
 go_enter func135,ntmps135
 go_wp2_with fail
 refine Qa.run Rx HT [] ?_
 rintro e w1 gs ⟨b0,h0,gB,rfl,hgB,rfl⟩ HT;simp only [PU] at HT;have HB:=Vh hgB;clear hgB;go_wp2
 have T1:=HT.a 257 #[WL WN 0,WK none,WK none,WK none,WK none,Qb b0,WL WM 0];obtain ⟨wb,hwb⟩:∃ wb,wb=w1.heap.size:=⟨_,rfl⟩;rw [<- hwb] at T1 |-;clear HT
 go_loopw [4,9] (fun _ i wr=>∃ (k:Nat) (C:Array Value) (vs:List Nat) (gV:List ak),k<=4/\i=WL WM k/\C.size=7/\vs.length=k/\(C[0]?=some (WL WN 0)/\C[5]?=some (Qb b0)/\C[6]?=some (WL WM 0))/\(∀ (i:Nat) (v:Nat),vs[i]?=some v->C[1+i]?=some (Qb v)) /\
  Yx (fun (z:Nat × nE)=>vL z.1 (Qb wb) z.2) (vs.zip (WS k vB)) gV/\TG [] w [[cl wb 257 C],gB,gV] wr) (fun _ i _=>5 - (intOf i).toNat)
 case atStart=>exact ⟨0,#[WL WN 0,WK none,WK none,WK none,WK none,Qb b0,WL WM 0],[],[],by omega,rfl,rfl,rfl,⟨rfl,rfl,rfl⟩,fun i s h=>(by simp at h),rfl,(T1.p [1,0]).eq (by simp [kS])⟩
 case round =>
  obtain ⟨k,C,vs,gV,hk,rfl,hC,hl,hx,hat,hF,T⟩:=hrel;have HT:=Vh T;have HC:=Vh hC;have HS:=Vh (WQ hl (WQ hx (WQ hat hF)));clear T T1 hC hwb hl hx hat hF;by_cases hlt:k<4
  ·have c0:=XM (xs:=C) (i:=1+k) (by rw [HC.out];omega)
   have xF:=Vh c0;clear c0;go_wp2
   go_region_with (
    go_at_call 176
    refine (Qa.use qtt HT.drew [] rfl rfl).mono ?_
    rintro e w2 ⟨gs,⟨b,ss,g,rfl,hg,he,rfl⟩,Ta⟩;simp only [PU] at Ta;have c1:=(Ta.cell 0 0 rfl (1+k)).trans xF;have f1:=Ta.free 0 0 rfl (1+k);have HG:=Vh (qtp hg he (Qb wb));have HT1:=Vh Ta
    clear Ta hg he)
   obtain ⟨hl,hx,hat,hF⟩:=HS.out
   have hs2:∀ (i:Nat) (v:Nat),(vs++[b])[i]?=some v->(C.setIfInBounds (1+k) (Qb b))[1+i]?=some (Qb v):=fun i s h=>by
    by_cases hi:i<vs.length
    ·rw [XN hi] at h
     rw [Qc (by omega)];exact hat i s h
    ·rw [XK (by omega)] at h
     have:i - vs.length=0:=by
      rcases XZ (i - vs.length) with h0 | h0
      ·exact h0
      ·rw [List.getElem?_cons] at h;simp [YG h0] at h
     have hik:i=k:=by omega
     subst hik;rw [this] at h;simp only [XQ,YC] at h;subst h;exact Xa xF
   have hz:(vs++[b]).zip (WS (k+1) vB)=vs.zip (WS k vB)++[(b,vB)]:=by
    rw [show WS (k+1) vB=WS k vB++[vB] from List.replicate_succ',List.zip_append (by rw [hl];simp)];rfl
   have HS2:=Vh (WQ hs2 (show Yx (fun (z:Nat × nE)=>vL z.1 (Qb wb) z.2) ((vs++[b]).zip (WS (k+1) vB)) (gV++g) from by rw [hz];exact Yx.snoc hF HG));have HX:=Vh (show (C.setIfInBounds (1+k) (Qb b))[0]?=some (WL WN 0)/\(C.setIfInBounds (1+k) (Qb b))[5]?=some (Qb b0)/\(C.setIfInBounds (1+k) (Qb b))[6]?=some (WL WM 0) from ⟨(Qc (by omega)).trans hx.1,(Qc (by omega)).trans hx.2.1,(Qc (by omega)).trans hx.2.2⟩);have dR:=Vh hl;clear hl hx hat hF hs2 hz;go_wp2
   first | go_roundw | refine ⟨?rel,?measure⟩ | ((repeat apply XG);refine ⟨⟨?rel,rfl⟩,?measure⟩)
   case rel=>exact ⟨k+1,_,vs++[b],gV++g,by omega,by go_num,by rw [XP];exact HC,by rw [XI,dR.out];rfl,HX,HS2.1,HS2.2,(HT1.set 0 0 rfl (1+k) _).sum⟩
   case measure=>simp [intOf];omega
  ·obtain rfl:k=4:=by omega
   go_wp2
   go_ret
   obtain ⟨hl,hx,hat,hF⟩:=HS.out;exact ⟨_,⟨wb,_,rfl,⟨C,vs,b0,h0,gV,gB,[],⟨HC,hx.1,hat,hx.2.1,hx.2.2⟩,hl,rfl,hF,HB,rfl,rfl⟩,rfl⟩,HT.sum⟩
end
section
open Go.RowKit Go.Shelf
attribute [local go_sem] Oper.semAt_some
theorem Yc.right {H K:GH} {w:World} (h:Yc (H++K) w):Yc K w:=by
 have hh:Has (ex H.flatten++ex K.flatten) w:=by
  have:Has (ex (H++K).flatten) w:=h;rwa [List.flatten_append,Zq] at this
 exact hh.right
def yw (a:gp):Array Value:=a.e.v.cells
theorem qu7 (tb:Nat) (l:List gp) (v home:Value) (gr ge:List ak) (hr:Q1 284 1 v l.length (l.map fun a=>Qb a.eb) gr) (he:Yx (rQ home) l ge) (hn:l.length<=1000000) :
 uy prog 314 #[Qb tb] (BV (l.map yw) [[cl tb 360 #[v]],gr,ge]) (0:Nat):=by
 intro ly J Jx hT hY H0 O0 W hJ0 hO hH;have l8:O0=[[cl tb 360 #[v]],gr,ge]:=hO;subst l8;have T0:=TG.refl hH;have c0:=(TG.refl hH.right).c 0 0 0;simp only [bR] at c0;obtain ⟨av,cap,hv⟩:=Q1.val hr;subst hv;have HR:=Vh hr;have HE:=Vh he;have HH:=Vh (WQ hJ0 T0);have HY:=Vh hY;clear hr he hO hH hY hT hJ0 T0;refine (callsIn_wide (n:=9)).1 (callsIn_of_wp func314 rfl trivial ?_ rfl)
 simp only [ntmps314,List.size_toArray,XE,XC,Nat.reduceAdd,Nat.reduceSub,Array.replicate_succ,Array.replicate_zero,List.push_toArray,List.append_toArray,List.nil_append,List.cons_append];gi_wp2
 gi_loopw [4,7] (fun _ i wr=>∃ (k:Nat) (H:GH),k<=l.length/\i=WL WM k/\J k H/\TG (H0++[[cl tb 360 #[.slice av l.length cap]],gr,ge]) W (H++[[cl tb 360 #[.slice av l.length cap]],gr,ge]) wr) (fun _ i _=>l.length+1 - (intOf i).toNat)
 case atStart=>exact ⟨0,H0,by omega,rfl,HH.1,HH.2⟩
 case round =>
  obtain ⟨k,H,hk,rfl,hj,T⟩:=hrel;clear HH c0;by_cases hlt:k<l.length
  ·obtain ⟨a,ha⟩:∃ a,l[k]?=some a:=⟨_,WO hlt⟩
   have hla:(l.map yw).length=l.length:=WT _;have hat:(l.map yw)[k]?=some (yw a):=by rw [WW,ha];rfl
   have hy0:=HY.out k #[.agg (yw a)] [] (k+1) H wr hj ⟨⟨_,hat,rfl⟩,rfl,rfl⟩ (by rw [List.append_nil];exact T.has.left);obtain ⟨fn,tmps,assign,body,hy,hR⟩:=Zw (n:=8) hy0;clear hy0;have TO:=TG.refl T.has.right;obtain ⟨u,y,⟨wM,AF,AL,AJ,rfl⟩,hp,_⟩:=HE.out.out ha;have TE:=((TO.bF 2 rfl hp).sum (H':=[[cl tb 360 #[.slice av l.length cap]],gr,mF a.eb home a.e AF AL (.pointer AJ),y]));obtain ⟨rb,cap',cur,hv,rfl,_,_,_,dN⟩:=HR.open (by omega);cases hv
   have hcj:=dN k (by omega);rw [WW,ha] at hcj;have r0:=(TE.cell 1 0 rfl k).trans hcj;obtain ⟨e1,e2,e3,e4,e5⟩:=TE.c5 2 0 1 2 3 4 5;simp only [qN,aC,XT] at r0 e1 e2 e3 e4 e5;simp only [yw,Qn.cells] at hy;have uY:=Vh T;have HRR:=Vh hR;clear hR T TO TE dN hcj hj hp hat hla wM;gi_wp2
   refine HRR.mono ?_
   rintro e W' ⟨H',hT',hj'⟩;have T2:=uY.trans ((hT'.app (a':=H) (by simp)).frame uY.has);have HT2:=Vh T2;have HJ:=Vh hj';clear hT' hj' T2 hy r0 e1 e2 e3 e4 e5;rcases HJ.out with ⟨rfl,hj'⟩ | ⟨rfl,hj'⟩
   ·have HJ2:=Vh hj'
    clear hj' HJ;gi_wp2
    go_roundw
    case rel=>exact ⟨k+1,H',by omega,by go_num,HJ2,HT2⟩
    case measure=>simp [intOf];omega
   ·have HJ2:=Vh hj'
    clear hj' HJ;gi_wp2
    refine bodyPost_ret (XO rfl _ _ _) rfl ?_
    exact ⟨⟨_,rfl⟩,k+1,H',_,HT2,.inr HJ2⟩
  ·have:k=l.length:=by omega
   subst this;gi_wp2
   go_end0
   exact ⟨⟨_,rfl⟩,l.length,H,_,T,.inl ⟨(WT _).symm,hj,rfl⟩⟩
end
section
open Go.RowKit Go.Shelf
def qg (wb:Nat) (S:Qg) (g:List ak):Prop:=∃ w:Xz,w.s=S/\Xx wb w (iW w) g
structure yl (S:Qg):Prop where
 sh:S.Sh
 now:S.now<16000000
 tot:zv S<=999999
theorem LH {S:Qg} (h:S.Sh):S.fO.1.Sh/\S.fO.1.now=S.now+1/\zv S.fO.1+S.fO.2.length=zv S:=by
 have h0:({ S with now:=S.now+1 }:Qg).Sh:=⟨h.l4,h.zQ⟩;have h1:=Qg.oD (min (J6 (S.now+1)) 3) h0;have h2:=Qg.jH (min (J6 (S.now+1)) 3) { S with now:=S.now+1 };refine ⟨Qg.iL h1 _ _,h2,?_⟩
 have h3:=qc1 h1 (l:=0) (by decide) (tZ (Qg.down (min (J6 (S.now+1)) 3) { S with now:=S.now+1 }).now 0);have h4:=Tm (min (J6 (S.now+1)) 3) h0 (by omega)
 show zv (Qg.clear _ _ _)+(Qg.slot _ _ _).length=_
 rw [h3,h4];rfl
section
variable {wb:Nat} {S:Qg} {g:List ak}
theorem qvj (hg:qg wb S g):Qe prog 97 #[Qb wb] [g] (WL WN S.now):=by
 obtain ⟨W0,rfl,hg⟩:=hg;obtain ⟨C,vs,bb,gR,hC,hvl,rfl,hback⟩:=hg.open;refine GO fun w HT=>?_
 have c0:=((HT.m [[cl wb 257 C],gR]).c 0 0 0).trans hC.now;have hs:W0.s.now=W0.now:=rfl;rw [hs];clear hC hback hg hvl;go_enter func97,ntmps97
 go_wp2
 go_ret
 exact ⟨rfl,0,rfl⟩
def j3 (S:Qg) (t:Qn):Nat:=max t.dl.toNat (S.now+1)
def mQ (S:Qg) (t:Qn):gI:=⟨j3 S t,{ t with dl:=j3 S t },j3 S t⟩
theorem quw (b rb lb:Nat) (hg:qg wb S g) (ho:yl S) (t:Qn) (hs:0<=t.slot) (hd:0<=t.dl/\t.dl<18446744073709551616) :
 Qa prog 316 #[Qb b,.agg t.cells] [Xl b rb lb wb,g] fun e gs=>e=WR (WU #[WL WN (j3 S t),WL WM 0])/\∃ g',qg wb (S.place (mQ S t)) g'/\gs=[Xl b rb lb wb,g']:=by
 have lh:=Vh (qvj hg);have hl:=qoc t.dl S.now (by omega) (by have:=ho.now;omega) hd.1 hd.2
 have hmax:max t.dl ((S.now:Int)+1)=(j3 S t:Int):=by
  unfold j3;have:=hd.1;omega
 rw [hmax] at hl;have Cs:=Vh hl;have hlt:S.now<j3 S t:=by unfold j3;omega
 have hdn:j3 S t<18446744073709551616:=by unfold j3;have:=hd.2;have:=ho.now;omega
 have hI:Qa prog 331 #[Qb wb,WL WN (j3 S t),.agg ({ t with dl:=j3 S t }:Qn).cells] [g] fun e gs=>∃ eb,e=WR (WU #[Qb eb,WL WM 0])/\∃ g',qg wb (S.place (mQ S t)) g'/\gs=[g']:=by
  obtain ⟨W0,rfl,hg⟩:=hg;refine (q15 hg ho.sh ⟨by have:=ho.now;have e:W0.s.now=W0.now:=rfl;omega,by rw [vO];exact ho.tot⟩ (j3 W0.s t) hdn hlt { t with dl:=j3 W0.s t }).mono ?_
  rintro e gs ⟨eb,he,w',g',h1,h2,rfl⟩;exact ⟨eb,he,g',⟨w',h2,h1⟩,rfl⟩
 have HI:=Vh hI;generalize S.place (mQ S t)=S1 at *;generalize j3 S t=d at *;clear hl hmax hlt hdn hI ho hg;have hsn:¬ t.slot<0:=by omega
 refine GO fun w HT=>?_
 have hf:=fun w=>(J8 (Qb rb) (Qb lb) (Qb wb) w).2.2
 simp only [Qn.cells] at HI |-;go_enter func316,ntmps316
 go_wp2_with fail
 refine Qa.run (Jm b rb lb wb) (HT.a 40 #[WL WN t.id,WL WM t.slot,WL WN t.gen,WL WN t.dl,WL WN t.per]) [0] ?_
 rintro e w1 gs ⟨rfl,rfl⟩ HT;simp only [PU] at HT;obtain ⟨a0,a1,a2,a3,a4⟩:=HT.c5 2 0 0 1 2 3 4;have fa3:=HT.f 2 0 3;simp only [aT] at a0 a1 a2 a3 a4;go_wp2_with fail
 refine Mx 4 ?_
 simp only [dx]
 repeat (go_big_quiet_step ((first | (go_at_call 97;with_reducible exact Qe.quiet (lh.out) HT.out _ [1] rfl rfl))))
 refine WY (QT HT fun nq HT=>?_)
 go_wp2_with fail
 refine Qa.run Cs HT [] ?_
 rintro e w1 gs ⟨rfl,rfl⟩ HT;simp only [PU] at HT;clear a0 a1 a2 a3 a4 fa3;go_wp2_with fail
 refine ⟨rfl,?_⟩
 obtain ⟨a0,a1,a2,a3,a4⟩:=HT.c5 2 0 0 1 2 3 4;have fa3:=HT.f 2 0 3;simp only [aT] at a0 a1 a2 a3 a4;go_wp2_with fail
 refine Qa.run HI (HT.set 2 0 rfl 3 (WL WN d)) [1] ?_
 rintro e w1 gs ⟨eb,rfl,g1,hg1,rfl⟩ HT;simp only [PU] at HT;have HG:=Vh hg1;clear hg1 a0 a1 a2 a3 a4 fa3;go_wp2
 go_ret2
 exact ⟨_,⟨rfl,g1,HG,rfl⟩,HT.p [0,1]⟩
theorem q7i (v:Value) (hv:∃ a n c,v=.slice a n c):Qa prog 297 #[v] [] fun e gs=>∃ tb,e=WR (.func (.func 314) #[] #[Qb tb])/\gs=[[cl tb 360 #[v]]]:=by
 obtain ⟨a,n,c,rfl⟩:=hv;refine GO fun w HT=>?_
 go_enter func297,ntmps297
 go_wp2
 go_ret
 exact ⟨_,⟨_,rfl,rfl⟩,HT.alloc rfl _ _⟩
def Ai (l:List Qn):List Value:=oh (l.map Qn.cells)
theorem qqd (b rb lb:Nat) (hg:qg wb S g) (ho:yl S) :
 Qa prog 280 #[Qb b] [Xl b rb lb wb,g] fun e gs=>∃ v g' gr,e=WR (WU #[v,WL WM 0])/\qg wb S.fO.1 g'/\Q1 40 5 v S.fO.2.length (Ai (S.fO.2.map gI.v)) gr/\gs=[Xl b rb lb wb,g',gr]:=by
 have hfa:=LH ho.sh
 have hA:Qa prog 295 #[Qb wb] [g] fun e gs=>∃ (v:Value) (l:List gp) (gr ge:List ak) (g':List ak),e=WR (WU #[v,WL WM 0])/\l.map gp.e=S.fO.2/\Q1 284 1 v l.length (l.map fun a=>Qb a.eb) gr/\Yx (rQ (WK none)) l ge/\qg wb S.fO.1 g'/\gs=[g',gr,ge]:=by
  obtain ⟨W0,rfl,hg⟩:=hg;refine (qv6 hg ho.sh ho.now (by rw [vO];exact ho.tot)).mono ?_
  rintro e gs ⟨v,l,gr,ge,w',g',h1,h2,h3,h4,h5,h6,rfl⟩;exact ⟨v,l,gr,ge,g',h1,h2,h3,h4,⟨w',h6,h5⟩,rfl⟩
 have HA:=Vh hA;have hlen:S.fO.2.length<=1000000:=by have:=ho.tot;omega
 have FH:=Vh hlen;generalize S.fO=R at *;obtain ⟨S1,es⟩:=R;simp only at HA FH |-;clear hfa hA hlen ho hg;refine GO fun w HT=>?_
 have hf:=fun w=>(J8 (Qb rb) (Qb lb) (Qb wb) w).2.2
 go_enter func280,ntmps280
 go_wp2_with fail
 refine Qa.run (Jm b rb lb wb) (HT) [0] ?_
 rintro e w1 gs ⟨rfl,rfl⟩ HT;simp only [PU] at HT;go_wp2_with fail
 refine Qa.run HA HT [1] ?_
 rintro e w1 gs ⟨v,l,gr,ge,g1,rfl,hl,hr,he,hg1,rfl⟩ HT;simp only [PU] at HT;have HG:=Vh hg1;have HR:=Vh hr;have HE:=Vh he;clear hg1 hr he;have hll:l.length=es.length:=by rw [<- hl,WT]
 have hn:l.length<=1000000:=by rw [hll];exact FH
 have DF:l.map yw=(es.map gI.v).map Qn.cells:=by rw [<- hl];simp [YF,Function.comp_def,yw]
 obtain ⟨av,cap,hv⟩:=Q1.val HR;subst hv
 have HC:=Vh (show ∀ tb,_ from fun tb=>qs9 (enters_of func314 (by kernel_rfl) rfl) (qu7 tb l (.slice av l.length cap) (WK none) gr ge HR HE hn) (fun c hc=>by
  obtain ⟨a,_,rfl⟩:=YA.1 hc
  exact ⟨_,_,_,_,_,rfl⟩) (by rw [WT];exact hn))
 have O1:=Vh (WQ hll DF);clear hll DF hn;go_wp2_with fail
 refine Qa.run (q7i _ ⟨_,_,_,rfl⟩) (HT) [] ?_
 rintro e w1 gs ⟨tb,rfl,rfl⟩ HT;simp only [PU] at HT;go_wp2_with fail
 refine Qa.run (HC tb) (HT) [4,2,3] ?_
 rintro e w1 gs ⟨v2,g2,rfl,hr2,rfl⟩ HT;simp only [PU] at HT;have HR2:=Vh hr2;clear hr2
 have hrf:Q1 40 5 v2 es.length (Ai (es.map gI.v)) g2:=by
  have:=HR2.out;rw [WT,O1.out.1,O1.out.2] at this;exact this
 obtain ⟨a2,cap2,hv⟩:=Q1.val hrf;subst hv;have HRF:=Vh hrf;clear hrf hl;go_wp2
 go_ret2
 exact ⟨_,⟨_,g1,g2,rfl,HG,HRF,rfl⟩,HT.p [0,1,5]⟩
end
end
end Go.Proofs.YtcneeepdclgdcaaGreat
