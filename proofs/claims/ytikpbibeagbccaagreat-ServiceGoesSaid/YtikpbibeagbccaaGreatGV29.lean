import Derived.Test.YtikpbibeagbccaaGreatGV27
import Derived.Test.YtikpbibeagbccaaGreatGV22
import Derived.Test.YtikpbibeagbccaaGreatGV5
import Derived.Test.YtikpbibeagbccaaGreatGV24
import Derived.Test.YtikpbibeagbccaaGreatGV16
set_option maxRecDepth 100000
set_option maxHeartbeats 4000000
namespace Go.Proofs.YtikpbibeagbccaaGreat
set_option linter.unusedVariables false
set_option linter.unusedSimpArgs false
open Go.Proofs.Tryz
section
open Go.RowKit Go.Shelf
def qb8 (w:Xe):Nat:=(w.lv.map qkh).sum+w.by_.length
structure whC (vs:List Nat) (bb:Nat) (now n:Nat) (C:Array Value):Prop where
 size:C.size=7
 now:C[0]?=some (.int .u64 now)
 lv:∀ (i:Nat) (v:Nat),vs[i]?=some v→C[1+i]?=some (Qb v)
 by_:C[5]?=some (Qb bb)
 n:C[6]?=some (.int .i64 n)
def Xg (wb:Nat) (w:Xe) (n:Nat) (g:List Blk):Prop :=
 ∃ C vs bb bh gV gB gE,whC vs bb w.now n C∧vs.length=4∧w.lv.length=4∧J4 (fun (z:Nat × LvA)=>qa8 z.1 (Qb wb) z.2) (vs.zip w.lv) gV∧qh bb bh (w.by_.map zt.nd) gB∧J4 (qqm (Qb wb)) w.by_ gE ∧
   g=[cl wb 253 C]++(gV++(gB++gE))
def lvl (now:Nat) (due:Nat):Nat:=(max 0 (qgb due now)).toNat
def Xe.place (w:Xe) (a:zt):Xe :=
 if 4≤lvl w.now a.e.due then { w with by_:=w.by_++[a] }
 else { w with lv:=w.lv.modify (lvl w.now a.e.due) (fun l=>l.modify (Zq a.e.due (lvl w.now a.e.due)) (·++[a])) }
structure q2b (w:Xe):Prop where
 now:w.now<16777215
 tot:qb8 w≤999999
theorem Xx {α:Type} {l:List α} {k:Nat} {a:α} (h:l[k]?=some a) (f:α→α):l.modify k f=l.set k (f a):=by
 apply List.ext_getElem?
 intro i;rw [List.getElem?_modify,List.getElem?_set];by_cases hi:k=i
 ·subst hi
  have:=(List.getElem?_eq_some_iff.1 h);simp [h,this.1,this.2]
 ·simp [hi]
theorem Y7 (t l:Nat):Zq t l<64:=Nat.mod_lt _ (by decide)
theorem q19 {l:List Nat} {k a:Nat} (h:l[k]?=some a):a≤l.sum:=by
 induction l generalizing k with
 | nil=>simp at h
 | cons b l ih =>
   cases k with
   | zero=>simp at h;subst h;simp
   | succ k=>simp at h;have:=ih h;simp;omega
theorem qk7 {w:Xe} {k:Nat} {l:LvA} (h:w.lv[k]?=some l):qkh l≤qb8 w:=by
 have:=q19 (l:=w.lv.map qkh) (k:=k) (a:=qkh l) (by rw [List.getElem?_map,h];rfl);unfold qb8;omega
theorem qza {w:Xe} (h:w.lv.length=4) {k:Nat} (hk:k<4):∃ l,w.lv[k]?=some l:=⟨_,List.getElem?_eq_getElem (by omega)⟩
section
variable {wb:Nat} {w:Xe} {n:Nat} {g:List Blk}
theorem qth (hg:Xg wb w n g) (ho:q2b w) (a:zt) (ge:List Blk) (ha:qqm (Qb wb) a ge) :
 Qa prog 270 #[Qb wb,Qb a.eb] [g,ge] fun e gs=>e=.returned (.tuple #[])∧∃ nb g',Xg wb (w.place { a with nb:=nb }) n g'∧gs=[g']:=by
 obtain ⟨C,vs,bb,bh,gV,gB,gE,hC,hvl,hll,hV,hB,hE,rfl⟩:=hg;obtain ⟨hd,lv,sl,nd,rfl⟩:=ha;have HDU:=Vh hd;obtain ⟨lo,hlo⟩:∃ lo,lo=lvl w.now a.e.due:=⟨_,rfl⟩;have hap:max 0 (qgb a.e.due w.now)=(lo:Int):=by rw [hlo];unfold lvl;omega
 have HAP:=Vh (qjb a.e.due w.now hd (by have:=ho.now;omega));obtain ⟨ap,hape⟩:∃ ap,ap=qgb a.e.due w.now:=⟨_,rfl⟩;rw [← hape] at hap HAP;have HBY:=Vh (show w.by_.length≤1000000 from by have:=ho.tot;unfold qb8 at this;omega);by_cases h4:4≤lo
 ·have HLO:=Vh hlo
  have hpl:∀ nb,w.place { a with nb:=nb }={ w with by_:=w.by_++[{ a with nb:=nb }] }:=fun nb=>if_pos (by rw [← hlo];exact h4)
  simp only [hpl];have hge:decide ((lo:Int) ≥ 4)=true:=decide_eq_true (by omega);refine GO fun w HT=>?_
  have HT:=Vh (HT.out.sum (H':=[[cl wb 253 C],gV,gB,gE,zy a.eb (Qb wb) a.e lv sl (.pointer nd)]));have HC:=Vh hC;have HV:=Vh hV;have HB:=Vh hB;have HE:=Vh hE;have HL4:=Vh (And.intro hvl hll);have c0:=(HT.out.cell 0 0 rfl 0).trans hC.now;obtain ⟨e6,e8,e9,e10⟩:=Ce4 (HT.out.cell 4 0 rfl) 6 8 9 10;obtain ⟨fe8,fe9,fe10⟩:=Ce3 (HT.out.free 4 0 rfl) 8 9 10;simp only [qdk,GE3] at e6 e8 e9 e10;clear hV hB hE hC ho hlo hpl hd hape hvl hll;go_enter func270,ntmps270
  go_wp2_with fail
  refine Qc 13 (by kernel_rfl) (by kernel_rfl) ?_
  simp only [TD4]
  repeat (go_big_quiet_step ((first | (go_at_call 281;with_reducible exact Qe.quiet (HAP.out) HT.out _ [] rfl rfl))))
  refine wpQuiet_nil (QE fun nq=>?_)
  have HT:=Vh (HT.out.drewN nq);go_wp2_with fail
  refine ⟨rfl,?_⟩
  have HT:=Vh ((HT.out.set 4 0 rfl 8 (.int .i64 lo)).eq (H':=[[cl wb 253 C],gV,gB,gE,zy a.eb (Qb wb) a.e lo sl (.pointer nd)]) rfl);clear c0 e6 e8 fe8 e9 fe9 e10 fe10;generalize World.setCell _ _ _=w2 at HT ⊢;obtain ⟨e8,e10⟩:=Ce2 (HT.out.cell 4 0 rfl) 8 10;have fe10:=HT.out.free 4 0 rfl 10;simp only [qdk,GE3] at e8 e10;have lte:=HT.out.lt 4 0 rfl;simp only [] at lte;go_wp2_with fail
  obtain ⟨nb,hnb⟩:∃ nb,nb=w2.heap.size:=⟨_,rfl⟩;have HT:=Vh (((HT.out.set 4 0 rfl 10 (Qb nb)).alloc (k:=nb) (by rw [hnb];simp) 354 #[Qb a.eb,.pointer none,.pointer none,.pointer none]).eq (H':=[[cl wb 253 C],gV,gB,gE,zy a.eb (Qb wb) a.e lo sl (Qb nb),[cl nb 354 #[Qb a.eb,.pointer none,.pointer none,.pointer none]]]) rfl);rw [← hnb];clear e8 e10 fe10 lte;generalize World.alloc _ _=w3 at HT ⊢;clear hnb;have e10:=HT.out.cell 4 0 rfl 10;simp only [qdk,GE3] at e10;have c5:=(HT.out.cell 0 0 rfl 5).trans HC.out.by_;refine Qc 8 (by kernel_rfl) (by kernel_rfl) ?_
  simp only [TD4]
  repeat (go_big_quiet_step ((fail)))
  refine wpQuiet_nil (QE fun nq=>?_)
  have HT:=Vh (HT.out.drewN nq);go_wp2_with fail
  refine (Qa.use (qf5 HB.out (by have:=HBY.out;simp only [List.length_map];omega) nb (Qb a.eb) (.pointer none) (.pointer none)) (HT.out) [2,5] rfl rfl).mono ?_
  rintro e w1 ⟨gs,⟨rfl,g1,hg1,rfl⟩,Ta⟩;simp only [PU] at Ta;have HG1:=Vh hg1;clear hg1 e10 c5;have HT:=Vh Ta;clear Ta;go_wp2_with fail
  refine ⟨rfl,?_⟩
  go_wp2
  exact bodyPost_ret (v:=.tuple #[]) (results_none rfl _ _ _) rfl ⟨_,⟨rfl,nb,_,⟨C,vs,bb,bh,gV,g1,gE++zy a.eb (Qb wb) a.e lo sl (Qb nb),HC.out,HL4.out.1,HL4.out.2,HV.out,(by simpa [zt.nd] using HG1.out),J4.snoc HE.out ⟨HDU.out,_,_,_,rfl⟩,rfl⟩,rfl⟩,(HT.out.pick [0,1,2,3,4] rfl).sum⟩
 ·have h:lo=0∨lo=1∨lo=2∨lo=3:=by omega
  obtain ⟨ls,hls⟩:=qza hll (k:=lo) (by omega);obtain ⟨vb,hvb⟩:∃ vb,vs[lo]?=some vb:=⟨_,List.getElem?_eq_getElem (by omega)⟩;have hz:(vs.zip w.lv)[lo]?=some (vb,ls):=qam hvb hls;obtain ⟨u,y,hu,hp,hback⟩:=hV.out hz;have hta:qkh ls≤1000000:=by have:=qk7 hls;have:=ho.tot;omega
  simp only at hu;obtain ⟨sl0,hsl⟩:∃ s,ls[Zq a.e.due lo]?=some s:=⟨_,List.getElem?_eq_getElem (by rw [hu.len];exact Y7 _ _)⟩;clear h4;rcases h with rfl | rfl | rfl | rfl
  ·have HLO:=Vh hlo
   have hpl:∀ nb,w.place { a with nb:=nb }={ w with lv:=w.lv.set 0 (ls.set (Zq a.e.due 0) (sl0++[{ a with nb:=nb }])) }:=fun nb=>by
    unfold Xe.place;rw [← hlo,if_neg (by decide),Xx hls,Xx hsl]
   simp only [hpl];have HDG:=Vh (show Qe prog 273 #[.int .u64 a.e.due,.int .i64 0] [] (.int .i64 (Zq a.e.due 0)) from Jn a.e.due 0 hd (by decide));have hdl:=Y7 a.e.due 0;refine GO fun w HT=>?_
   have HT:=Vh (((HT.out.sum (H':=[[cl wb 253 C],gV,gB,gE,zy a.eb (Qb wb) a.e lv sl (.pointer nd)])).permAt 1 rfl hp).sum (H':=[[cl wb 253 C],u,gB,gE,zy a.eb (Qb wb) a.e lv sl (.pointer nd),y]));have HC:=Vh hC;have HU:=Vh hu;have HBK:=Vh hback;have HB:=Vh hB;have HE:=Vh hE;have HVB:=Vh (hC.lv 0 vb hvb);have HSL:=Vh hsl;have HTA:=Vh (show qkh ls≤1000000 from hta);have HVL:=Vh (And.intro hvl (And.intro hll hvb));generalize Zq a.e.due 0=dg at *;have c0:=(HT.out.cell 0 0 rfl 0).trans hC.now;obtain ⟨e6,e8,e9,e10⟩:=Ce4 (HT.out.cell 4 0 rfl) 6 8 9 10;obtain ⟨fe8,fe9,fe10⟩:=Ce3 (HT.out.free 4 0 rfl) 8 9 10;simp only [qdk,GE3] at e6 e8 e9 e10;clear hu hB hE hC ho hlo hpl hd hape hV hp hback hls hsl hta hvb hvl hll;go_enter func270,ntmps270
   go_wp2_with fail
   refine Qc 13 (by kernel_rfl) (by kernel_rfl) ?_
   simp only [TD4]
   repeat (go_big_quiet_step ((first | (go_at_call 281;with_reducible exact Qe.quiet (HAP.out) HT.out _ [] rfl rfl))))
   refine wpQuiet_nil (QE fun nq=>?_)
   have HT:=Vh (HT.out.drewN nq);go_wp2_with fail
   refine ⟨rfl,?_⟩
   have HT:=Vh ((HT.out.set 4 0 rfl 8 (.int .i64 0)).eq (H':=[[cl wb 253 C],u,gB,gE,zy a.eb (Qb wb) a.e 0 sl (.pointer nd),y]) rfl);clear c0 e6 e8 fe8 e9 fe9 e10 fe10;generalize World.setCell _ _ _=w2 at HT ⊢;obtain ⟨e8,e10⟩:=Ce2 (HT.out.cell 4 0 rfl) 8 10;have fe10:=HT.out.free 4 0 rfl 10;simp only [qdk,GE3] at e8 e10;have lte:=HT.out.lt 4 0 rfl;simp only [] at lte;go_wp2_with fail
   obtain ⟨nb,hnb⟩:∃ nb,nb=w2.heap.size:=⟨_,rfl⟩;have HT:=Vh (((HT.out.set 4 0 rfl 10 (Qb nb)).alloc (k:=nb) (by rw [hnb];simp) 354 #[Qb a.eb,.pointer none,.pointer none,.pointer none]).eq (H':=[[cl wb 253 C],u,gB,gE,zy a.eb (Qb wb) a.e 0 sl (Qb nb),y,[cl nb 354 #[Qb a.eb,.pointer none,.pointer none,.pointer none]]]) rfl);rw [← hnb];clear e8 e10 fe10 lte;generalize World.alloc _ _=w3 at HT ⊢;clear hnb;obtain ⟨e6,e8,e9⟩:=Ce3 (HT.out.cell 4 0 rfl) 6 8 9;have fe9:=HT.out.free 4 0 rfl 9;simp only [qdk,GE3] at e6 e8 e9;refine Qc 12 (by kernel_rfl) (by kernel_rfl) ?_
   simp only [TD4]
   repeat (go_big_quiet_step ((first | (go_at_call 273;with_reducible exact Qe.quiet (HDG.out) HT.out _ [] rfl rfl))))
   refine wpQuiet_nil (QE fun nq=>?_)
   have HT:=Vh (HT.out.drewN nq);go_wp2_with fail
   refine ⟨rfl,?_⟩
   have HT:=Vh ((HT.out.set 4 0 rfl 9 (.int .i64 dg)).eq (H':=[[cl wb 253 C],u,gB,gE,zy a.eb (Qb wb) a.e 0 dg (Qb nb),y,[cl nb 354 #[Qb a.eb,.pointer none,.pointer none,.pointer none]]]) rfl);clear e6 e8 e9 fe9;generalize World.setCell _ _ _=w4 at HT ⊢;obtain ⟨e8,e9,e10⟩:=Ce3 (HT.out.cell 4 0 rfl) 8 9 10;simp only [qdk,GE3] at e8 e9 e10;have c5:=(HT.out.cell 0 0 rfl (1+0)).trans HVB.out;go_wp2_with fail
   refine Qc 17 (by kernel_rfl) (by kernel_rfl) ?_
   simp only [TD4]
   repeat (go_big_quiet_step ((fail)))
   refine wpQuiet_nil (QE fun nq=>?_)
   have HT:=Vh (HT.out.drewN nq);go_wp2_with fail
   refine (Qa.use (qhw HU.out HSL.out HTA.out { a with nb:=nb } (zy a.eb (Qb wb) a.e 0 dg (Qb nb)) ⟨HDU.out,_,_,_,rfl⟩ (.pointer none) (.pointer none)) (HT.out) [1,4,6] rfl rfl).mono ?_
   rintro e w1 ⟨gs,⟨rfl,g1,hg1,rfl⟩,Ta⟩;simp only [PU] at Ta;have HG1:=Vh hg1;clear hg1 e8 e9 e10 c5;have HT:=Vh Ta;clear Ta;go_wp2_with fail
   refine ⟨rfl,?_⟩
   go_wp2
   obtain ⟨gV',hV',hp'⟩:=HBK.out (vb,ls.set dg (sl0++[{ a with nb:=nb }])) g1 HG1.out;exact bodyPost_end (results_none rfl _ _ _) rfl ⟨_,⟨rfl,nb,_,⟨C,vs,bb,bh,gV',gB,gE,HC.out,HVL.out.1,(by rw [List.length_set];exact HVL.out.2.1),(by rw [← Ju 0 HVL.out.2.2];exact hV'),HB.out,HE.out,rfl⟩,rfl⟩,(((HT.out.sum (H':=[[cl wb 253 C],g1++y,gB,gE])).permAt 1 rfl hp').sum)⟩
  ·have HLO:=Vh hlo
   have hpl:∀ nb,w.place { a with nb:=nb }={ w with lv:=w.lv.set 1 (ls.set (Zq a.e.due 1) (sl0++[{ a with nb:=nb }])) }:=fun nb=>by
    unfold Xe.place;rw [← hlo,if_neg (by decide),Xx hls,Xx hsl]
   simp only [hpl];have HDG:=Vh (show Qe prog 273 #[.int .u64 a.e.due,.int .i64 1] [] (.int .i64 (Zq a.e.due 1)) from Jn a.e.due 1 hd (by decide));have hdl:=Y7 a.e.due 1;refine GO fun w HT=>?_
   have HT:=Vh (((HT.out.sum (H':=[[cl wb 253 C],gV,gB,gE,zy a.eb (Qb wb) a.e lv sl (.pointer nd)])).permAt 1 rfl hp).sum (H':=[[cl wb 253 C],u,gB,gE,zy a.eb (Qb wb) a.e lv sl (.pointer nd),y]));have HC:=Vh hC;have HU:=Vh hu;have HBK:=Vh hback;have HB:=Vh hB;have HE:=Vh hE;have HVB:=Vh (hC.lv 1 vb hvb);have HSL:=Vh hsl;have HTA:=Vh (show qkh ls≤1000000 from hta);have HVL:=Vh (And.intro hvl (And.intro hll hvb));generalize Zq a.e.due 1=dg at *;have c0:=(HT.out.cell 0 0 rfl 0).trans hC.now;obtain ⟨e6,e8,e9,e10⟩:=Ce4 (HT.out.cell 4 0 rfl) 6 8 9 10;obtain ⟨fe8,fe9,fe10⟩:=Ce3 (HT.out.free 4 0 rfl) 8 9 10;simp only [qdk,GE3] at e6 e8 e9 e10;clear hu hB hE hC ho hlo hpl hd hape hV hp hback hls hsl hta hvb hvl hll;go_enter func270,ntmps270
   go_wp2_with fail
   refine Qc 13 (by kernel_rfl) (by kernel_rfl) ?_
   simp only [TD4]
   repeat (go_big_quiet_step ((first | (go_at_call 281;with_reducible exact Qe.quiet (HAP.out) HT.out _ [] rfl rfl))))
   refine wpQuiet_nil (QE fun nq=>?_)
   have HT:=Vh (HT.out.drewN nq);go_wp2_with fail
   refine ⟨rfl,?_⟩
   have HT:=Vh ((HT.out.set 4 0 rfl 8 (.int .i64 1)).eq (H':=[[cl wb 253 C],u,gB,gE,zy a.eb (Qb wb) a.e 1 sl (.pointer nd),y]) rfl);clear c0 e6 e8 fe8 e9 fe9 e10 fe10;generalize World.setCell _ _ _=w2 at HT ⊢;obtain ⟨e8,e10⟩:=Ce2 (HT.out.cell 4 0 rfl) 8 10;have fe10:=HT.out.free 4 0 rfl 10;simp only [qdk,GE3] at e8 e10;have lte:=HT.out.lt 4 0 rfl;simp only [] at lte;go_wp2_with fail
   obtain ⟨nb,hnb⟩:∃ nb,nb=w2.heap.size:=⟨_,rfl⟩;have HT:=Vh (((HT.out.set 4 0 rfl 10 (Qb nb)).alloc (k:=nb) (by rw [hnb];simp) 354 #[Qb a.eb,.pointer none,.pointer none,.pointer none]).eq (H':=[[cl wb 253 C],u,gB,gE,zy a.eb (Qb wb) a.e 1 sl (Qb nb),y,[cl nb 354 #[Qb a.eb,.pointer none,.pointer none,.pointer none]]]) rfl);rw [← hnb];clear e8 e10 fe10 lte;generalize World.alloc _ _=w3 at HT ⊢;clear hnb;obtain ⟨e6,e8,e9⟩:=Ce3 (HT.out.cell 4 0 rfl) 6 8 9;have fe9:=HT.out.free 4 0 rfl 9;simp only [qdk,GE3] at e6 e8 e9;refine Qc 12 (by kernel_rfl) (by kernel_rfl) ?_
   simp only [TD4]
   repeat (go_big_quiet_step ((first | (go_at_call 273;with_reducible exact Qe.quiet (HDG.out) HT.out _ [] rfl rfl))))
   refine wpQuiet_nil (QE fun nq=>?_)
   have HT:=Vh (HT.out.drewN nq);go_wp2_with fail
   refine ⟨rfl,?_⟩
   have HT:=Vh ((HT.out.set 4 0 rfl 9 (.int .i64 dg)).eq (H':=[[cl wb 253 C],u,gB,gE,zy a.eb (Qb wb) a.e 1 dg (Qb nb),y,[cl nb 354 #[Qb a.eb,.pointer none,.pointer none,.pointer none]]]) rfl);clear e6 e8 e9 fe9;generalize World.setCell _ _ _=w4 at HT ⊢;obtain ⟨e8,e9,e10⟩:=Ce3 (HT.out.cell 4 0 rfl) 8 9 10;simp only [qdk,GE3] at e8 e9 e10;have c5:=(HT.out.cell 0 0 rfl (1+1)).trans HVB.out;go_wp2_with fail
   refine Qc 17 (by kernel_rfl) (by kernel_rfl) ?_
   simp only [TD4]
   repeat (go_big_quiet_step ((fail)))
   refine wpQuiet_nil (QE fun nq=>?_)
   have HT:=Vh (HT.out.drewN nq);go_wp2_with fail
   refine (Qa.use (qhw HU.out HSL.out HTA.out { a with nb:=nb } (zy a.eb (Qb wb) a.e 1 dg (Qb nb)) ⟨HDU.out,_,_,_,rfl⟩ (.pointer none) (.pointer none)) (HT.out) [1,4,6] rfl rfl).mono ?_
   rintro e w1 ⟨gs,⟨rfl,g1,hg1,rfl⟩,Ta⟩;simp only [PU] at Ta;have HG1:=Vh hg1;clear hg1 e8 e9 e10 c5;have HT:=Vh Ta;clear Ta;go_wp2_with fail
   refine ⟨rfl,?_⟩
   go_wp2
   obtain ⟨gV',hV',hp'⟩:=HBK.out (vb,ls.set dg (sl0++[{ a with nb:=nb }])) g1 HG1.out;exact bodyPost_end (results_none rfl _ _ _) rfl ⟨_,⟨rfl,nb,_,⟨C,vs,bb,bh,gV',gB,gE,HC.out,HVL.out.1,(by rw [List.length_set];exact HVL.out.2.1),(by rw [← Ju 1 HVL.out.2.2];exact hV'),HB.out,HE.out,rfl⟩,rfl⟩,(((HT.out.sum (H':=[[cl wb 253 C],g1++y,gB,gE])).permAt 1 rfl hp').sum)⟩
  ·have HLO:=Vh hlo
   have hpl:∀ nb,w.place { a with nb:=nb }={ w with lv:=w.lv.set 2 (ls.set (Zq a.e.due 2) (sl0++[{ a with nb:=nb }])) }:=fun nb=>by
    unfold Xe.place;rw [← hlo,if_neg (by decide),Xx hls,Xx hsl]
   simp only [hpl];have HDG:=Vh (show Qe prog 273 #[.int .u64 a.e.due,.int .i64 2] [] (.int .i64 (Zq a.e.due 2)) from Jn a.e.due 2 hd (by decide));have hdl:=Y7 a.e.due 2;refine GO fun w HT=>?_
   have HT:=Vh (((HT.out.sum (H':=[[cl wb 253 C],gV,gB,gE,zy a.eb (Qb wb) a.e lv sl (.pointer nd)])).permAt 1 rfl hp).sum (H':=[[cl wb 253 C],u,gB,gE,zy a.eb (Qb wb) a.e lv sl (.pointer nd),y]));have HC:=Vh hC;have HU:=Vh hu;have HBK:=Vh hback;have HB:=Vh hB;have HE:=Vh hE;have HVB:=Vh (hC.lv 2 vb hvb);have HSL:=Vh hsl;have HTA:=Vh (show qkh ls≤1000000 from hta);have HVL:=Vh (And.intro hvl (And.intro hll hvb));generalize Zq a.e.due 2=dg at *;have c0:=(HT.out.cell 0 0 rfl 0).trans hC.now;obtain ⟨e6,e8,e9,e10⟩:=Ce4 (HT.out.cell 4 0 rfl) 6 8 9 10;obtain ⟨fe8,fe9,fe10⟩:=Ce3 (HT.out.free 4 0 rfl) 8 9 10;simp only [qdk,GE3] at e6 e8 e9 e10;clear hu hB hE hC ho hlo hpl hd hape hV hp hback hls hsl hta hvb hvl hll;go_enter func270,ntmps270
   go_wp2_with fail
   refine Qc 13 (by kernel_rfl) (by kernel_rfl) ?_
   simp only [TD4]
   repeat (go_big_quiet_step ((first | (go_at_call 281;with_reducible exact Qe.quiet (HAP.out) HT.out _ [] rfl rfl))))
   refine wpQuiet_nil (QE fun nq=>?_)
   have HT:=Vh (HT.out.drewN nq);go_wp2_with fail
   refine ⟨rfl,?_⟩
   have HT:=Vh ((HT.out.set 4 0 rfl 8 (.int .i64 2)).eq (H':=[[cl wb 253 C],u,gB,gE,zy a.eb (Qb wb) a.e 2 sl (.pointer nd),y]) rfl);clear c0 e6 e8 fe8 e9 fe9 e10 fe10;generalize World.setCell _ _ _=w2 at HT ⊢;obtain ⟨e8,e10⟩:=Ce2 (HT.out.cell 4 0 rfl) 8 10;have fe10:=HT.out.free 4 0 rfl 10;simp only [qdk,GE3] at e8 e10;have lte:=HT.out.lt 4 0 rfl;simp only [] at lte;go_wp2_with fail
   obtain ⟨nb,hnb⟩:∃ nb,nb=w2.heap.size:=⟨_,rfl⟩;have HT:=Vh (((HT.out.set 4 0 rfl 10 (Qb nb)).alloc (k:=nb) (by rw [hnb];simp) 354 #[Qb a.eb,.pointer none,.pointer none,.pointer none]).eq (H':=[[cl wb 253 C],u,gB,gE,zy a.eb (Qb wb) a.e 2 sl (Qb nb),y,[cl nb 354 #[Qb a.eb,.pointer none,.pointer none,.pointer none]]]) rfl);rw [← hnb];clear e8 e10 fe10 lte;generalize World.alloc _ _=w3 at HT ⊢;clear hnb;obtain ⟨e6,e8,e9⟩:=Ce3 (HT.out.cell 4 0 rfl) 6 8 9;have fe9:=HT.out.free 4 0 rfl 9;simp only [qdk,GE3] at e6 e8 e9;refine Qc 12 (by kernel_rfl) (by kernel_rfl) ?_
   simp only [TD4]
   repeat (go_big_quiet_step ((first | (go_at_call 273;with_reducible exact Qe.quiet (HDG.out) HT.out _ [] rfl rfl))))
   refine wpQuiet_nil (QE fun nq=>?_)
   have HT:=Vh (HT.out.drewN nq);go_wp2_with fail
   refine ⟨rfl,?_⟩
   have HT:=Vh ((HT.out.set 4 0 rfl 9 (.int .i64 dg)).eq (H':=[[cl wb 253 C],u,gB,gE,zy a.eb (Qb wb) a.e 2 dg (Qb nb),y,[cl nb 354 #[Qb a.eb,.pointer none,.pointer none,.pointer none]]]) rfl);clear e6 e8 e9 fe9;generalize World.setCell _ _ _=w4 at HT ⊢;obtain ⟨e8,e9,e10⟩:=Ce3 (HT.out.cell 4 0 rfl) 8 9 10;simp only [qdk,GE3] at e8 e9 e10;have c5:=(HT.out.cell 0 0 rfl (1+2)).trans HVB.out;go_wp2_with fail
   refine Qc 17 (by kernel_rfl) (by kernel_rfl) ?_
   simp only [TD4]
   repeat (go_big_quiet_step ((fail)))
   refine wpQuiet_nil (QE fun nq=>?_)
   have HT:=Vh (HT.out.drewN nq);go_wp2_with fail
   refine (Qa.use (qhw HU.out HSL.out HTA.out { a with nb:=nb } (zy a.eb (Qb wb) a.e 2 dg (Qb nb)) ⟨HDU.out,_,_,_,rfl⟩ (.pointer none) (.pointer none)) (HT.out) [1,4,6] rfl rfl).mono ?_
   rintro e w1 ⟨gs,⟨rfl,g1,hg1,rfl⟩,Ta⟩;simp only [PU] at Ta;have HG1:=Vh hg1;clear hg1 e8 e9 e10 c5;have HT:=Vh Ta;clear Ta;go_wp2_with fail
   refine ⟨rfl,?_⟩
   go_wp2
   obtain ⟨gV',hV',hp'⟩:=HBK.out (vb,ls.set dg (sl0++[{ a with nb:=nb }])) g1 HG1.out;exact bodyPost_end (results_none rfl _ _ _) rfl ⟨_,⟨rfl,nb,_,⟨C,vs,bb,bh,gV',gB,gE,HC.out,HVL.out.1,(by rw [List.length_set];exact HVL.out.2.1),(by rw [← Ju 2 HVL.out.2.2];exact hV'),HB.out,HE.out,rfl⟩,rfl⟩,(((HT.out.sum (H':=[[cl wb 253 C],g1++y,gB,gE])).permAt 1 rfl hp').sum)⟩
  ·have HLO:=Vh hlo
   have hpl:∀ nb,w.place { a with nb:=nb }={ w with lv:=w.lv.set 3 (ls.set (Zq a.e.due 3) (sl0++[{ a with nb:=nb }])) }:=fun nb=>by
    unfold Xe.place;rw [← hlo,if_neg (by decide),Xx hls,Xx hsl]
   simp only [hpl];have HDG:=Vh (show Qe prog 273 #[.int .u64 a.e.due,.int .i64 3] [] (.int .i64 (Zq a.e.due 3)) from Jn a.e.due 3 hd (by decide));have hdl:=Y7 a.e.due 3;refine GO fun w HT=>?_
   have HT:=Vh (((HT.out.sum (H':=[[cl wb 253 C],gV,gB,gE,zy a.eb (Qb wb) a.e lv sl (.pointer nd)])).permAt 1 rfl hp).sum (H':=[[cl wb 253 C],u,gB,gE,zy a.eb (Qb wb) a.e lv sl (.pointer nd),y]));have HC:=Vh hC;have HU:=Vh hu;have HBK:=Vh hback;have HB:=Vh hB;have HE:=Vh hE;have HVB:=Vh (hC.lv 3 vb hvb);have HSL:=Vh hsl;have HTA:=Vh (show qkh ls≤1000000 from hta);have HVL:=Vh (And.intro hvl (And.intro hll hvb));generalize Zq a.e.due 3=dg at *;have c0:=(HT.out.cell 0 0 rfl 0).trans hC.now;obtain ⟨e6,e8,e9,e10⟩:=Ce4 (HT.out.cell 4 0 rfl) 6 8 9 10;obtain ⟨fe8,fe9,fe10⟩:=Ce3 (HT.out.free 4 0 rfl) 8 9 10;simp only [qdk,GE3] at e6 e8 e9 e10;clear hu hB hE hC ho hlo hpl hd hape hV hp hback hls hsl hta hvb hvl hll;go_enter func270,ntmps270
   go_wp2_with fail
   refine Qc 13 (by kernel_rfl) (by kernel_rfl) ?_
   simp only [TD4]
   repeat (go_big_quiet_step ((first | (go_at_call 281;with_reducible exact Qe.quiet (HAP.out) HT.out _ [] rfl rfl))))
   refine wpQuiet_nil (QE fun nq=>?_)
   have HT:=Vh (HT.out.drewN nq);go_wp2_with fail
   refine ⟨rfl,?_⟩
   have HT:=Vh ((HT.out.set 4 0 rfl 8 (.int .i64 3)).eq (H':=[[cl wb 253 C],u,gB,gE,zy a.eb (Qb wb) a.e 3 sl (.pointer nd),y]) rfl);clear c0 e6 e8 fe8 e9 fe9 e10 fe10;generalize World.setCell _ _ _=w2 at HT ⊢;obtain ⟨e8,e10⟩:=Ce2 (HT.out.cell 4 0 rfl) 8 10;have fe10:=HT.out.free 4 0 rfl 10;simp only [qdk,GE3] at e8 e10;have lte:=HT.out.lt 4 0 rfl;simp only [] at lte;go_wp2_with fail
   obtain ⟨nb,hnb⟩:∃ nb,nb=w2.heap.size:=⟨_,rfl⟩;have HT:=Vh (((HT.out.set 4 0 rfl 10 (Qb nb)).alloc (k:=nb) (by rw [hnb];simp) 354 #[Qb a.eb,.pointer none,.pointer none,.pointer none]).eq (H':=[[cl wb 253 C],u,gB,gE,zy a.eb (Qb wb) a.e 3 sl (Qb nb),y,[cl nb 354 #[Qb a.eb,.pointer none,.pointer none,.pointer none]]]) rfl);rw [← hnb];clear e8 e10 fe10 lte;generalize World.alloc _ _=w3 at HT ⊢;clear hnb;obtain ⟨e6,e8,e9⟩:=Ce3 (HT.out.cell 4 0 rfl) 6 8 9;have fe9:=HT.out.free 4 0 rfl 9;simp only [qdk,GE3] at e6 e8 e9;refine Qc 12 (by kernel_rfl) (by kernel_rfl) ?_
   simp only [TD4]
   repeat (go_big_quiet_step ((first | (go_at_call 273;with_reducible exact Qe.quiet (HDG.out) HT.out _ [] rfl rfl))))
   refine wpQuiet_nil (QE fun nq=>?_)
   have HT:=Vh (HT.out.drewN nq);go_wp2_with fail
   refine ⟨rfl,?_⟩
   have HT:=Vh ((HT.out.set 4 0 rfl 9 (.int .i64 dg)).eq (H':=[[cl wb 253 C],u,gB,gE,zy a.eb (Qb wb) a.e 3 dg (Qb nb),y,[cl nb 354 #[Qb a.eb,.pointer none,.pointer none,.pointer none]]]) rfl);clear e6 e8 e9 fe9;generalize World.setCell _ _ _=w4 at HT ⊢;obtain ⟨e8,e9,e10⟩:=Ce3 (HT.out.cell 4 0 rfl) 8 9 10;simp only [qdk,GE3] at e8 e9 e10;have c5:=(HT.out.cell 0 0 rfl (1+3)).trans HVB.out;go_wp2_with fail
   refine Qc 17 (by kernel_rfl) (by kernel_rfl) ?_
   simp only [TD4]
   repeat (go_big_quiet_step ((fail)))
   refine wpQuiet_nil (QE fun nq=>?_)
   have HT:=Vh (HT.out.drewN nq);go_wp2_with fail
   refine (Qa.use (qhw HU.out HSL.out HTA.out { a with nb:=nb } (zy a.eb (Qb wb) a.e 3 dg (Qb nb)) ⟨HDU.out,_,_,_,rfl⟩ (.pointer none) (.pointer none)) (HT.out) [1,4,6] rfl rfl).mono ?_
   rintro e w1 ⟨gs,⟨rfl,g1,hg1,rfl⟩,Ta⟩;simp only [PU] at Ta;have HG1:=Vh hg1;clear hg1 e8 e9 e10 c5;have HT:=Vh Ta;clear Ta;go_wp2_with fail
   refine ⟨rfl,?_⟩
   go_wp2
   obtain ⟨gV',hV',hp'⟩:=HBK.out (vb,ls.set dg (sl0++[{ a with nb:=nb }])) g1 HG1.out;exact bodyPost_end (results_none rfl _ _ _) rfl ⟨_,⟨rfl,nb,_,⟨C,vs,bb,bh,gV',gB,gE,HC.out,HVL.out.1,(by rw [List.length_set];exact HVL.out.2.1),(by rw [← Ju 3 HVL.out.2.2];exact hV'),HB.out,HE.out,rfl⟩,rfl⟩,(((HT.out.sum (H':=[[cl wb 253 C],g1++y,gB,gE])).permAt 1 rfl hp').sum)⟩
end
theorem qbx {α:Type} {P:α→List Blk→Prop} {a:α} {l:List α} {g:List Blk} (h:J4 P (a::l) g):∃ x y,P a x∧J4 P l y∧g=x++y:=h
theorem drop_at {α:Type} {l:List α} {i:Nat} {a:α} (h:l[i]?=some a):l.drop i=a::l.drop (i+1):=by
 obtain ⟨h1,h2⟩:=List.getElem?_eq_some_iff.1 h;rw [List.drop_eq_getElem_cons h1,h2]
def Qg.place (w:Qg) (e:qa5):Qg :=
 if 4≤lvl w.now e.due then { w with by_:=w.by_++[e] }
 else { w with lv:=w.lv.modify (lvl w.now e.due) (fun l=>l.modify (Zq e.due (lvl w.now e.due)) (·++[e])) }
def Qg.placeL (w:Qg) (l:List qa5):Qg:=l.foldl Qg.place w
def Qg.slot (w:Qg) (l k:Nat):List qa5:=(w.lv.getD l []).getD k []
def Qg.clear (w:Qg) (l k:Nat):Qg:={ w with lv:=w.lv.modify l (fun s=>s.set k []) }
def Qg.again (w:Qg) (l:Nat):Qg:=(w.clear l (Zq w.now l)).placeL (w.slot l (Zq w.now l))
theorem qcg {α β:Type} (f:α→β) (g:α→α) (h:β→β) (hc:∀ a,f (g a)=h (f a)) (l:List α) (k:Nat):(l.modify k g).map f=(l.map f).modify k h:=by
 apply List.ext_getElem?
 intro i;simp only [List.getElem?_map,List.getElem?_modify];split
 ·cases l[i]? <;> simp [hc]
 ·cases l[i]? <;> simp
theorem qk1 (w:Xe) (a:zt):(w.place a).s=w.s.place a.e:=by
 unfold Xe.place Qg.place;have hn:w.s.now=w.now:=rfl;rw [hn];split
 ·unfold Xe.s;simp
 ·unfold Xe.s
  simp only;congr 1
  refine qcg _ _ _ (fun l=>?_) _ _
  exact qcg _ _ _ (fun s=>by simp) _ _
theorem qxl (w:Xe) (l k:Nat):({ w with lv:=w.lv.modify l (fun s=>s.set k []) }:Xe).s=w.s.clear l k:=by
 unfold Xe.s Qg.clear;simp only;congr 1
 refine qcg _ _ _ (fun s=>?_) _ _
 rw [List.map_set];rfl
def qdg (w:Qg):Nat:=(w.lv.map fun l=>(l.map List.length).sum).sum+w.by_.length
theorem qa9 (w:Xe):qb8 w=qdg w.s:=by
 unfold qb8 qdg Xe.s qkh;simp [List.map_map,Function.comp_def]
structure Qg.Sh (w:Qg):Prop where
 l4:w.lv.length=4
 l64:∀ l∈w.lv,l.length=64
def Qg.down:Nat→Qg→Qg
 | 0,w=>w
 | l+1,w=>(w.again (l+1)).down l
def Qg.adv (w:Qg):Qg × List qa5 :=
 let w2:=Qg.down (min (Jc (w.now+1)) 3) { w with now:=w.now+1 }
 (w2.clear 0 (Zq w2.now 0),w2.slot 0 (Zq w2.now 0))
theorem Qg.placeL_now (l:List qa5):∀ w:Qg,(w.placeL l).now=w.now:=by
 induction l with
 | nil=>intro w;rfl
 | cons a l ih =>
   intro w
   show ((w.place a).placeL l).now=_
   rw [ih];unfold Qg.place;split <;> rfl
theorem Qg.again_now (w:Qg) (l:Nat):(w.again l).now=w.now:=Qg.placeL_now _ _
theorem Qg.down_now:∀ (n:Nat) (w:Qg),(w.down n).now=w.now
 | 0,w=>rfl
 | l+1,w=>by show ((w.again (l+1)).down l).now=_;rw [Qg.down_now l,Qg.again_now]
theorem Qg.clear_sh {w:Qg} (h:w.Sh) (l k:Nat):(w.clear l k).Sh:=by
 refine ⟨by unfold Qg.clear;simp [h.l4],fun m hm=>?_⟩
 unfold Qg.clear at hm;simp only at hm;obtain ⟨i,hi⟩:=List.mem_iff_getElem?.1 hm;rw [List.getElem?_modify] at hi;cases hq:w.lv[i]? with
 | none=>rw [hq] at hi;cases hi
 | some q =>
   rw [hq] at hi;have hq64:=h.l64 q (List.mem_of_getElem? hq);by_cases e:l=i
   ·simp [e] at hi;subst hi;simpa using hq64
   ·simp [e] at hi;subst hi;exact hq64
theorem Qg.place_sh {w:Qg} (h:w.Sh) (a:qa5):(w.place a).Sh:=by
 unfold Qg.place;split
 ·exact ⟨h.l4,h.l64⟩
 ·refine ⟨by simp [h.l4],fun m hm=>?_⟩
  simp only at hm;obtain ⟨i,hi⟩:=List.mem_iff_getElem?.1 hm;rw [List.getElem?_modify] at hi;cases hq:w.lv[i]? with
  | none=>rw [hq] at hi;cases hi
  | some q =>
    rw [hq] at hi;have hq64:=h.l64 q (List.mem_of_getElem? hq);by_cases e:lvl w.now a.due=i
    ·simp [e] at hi;subst hi;simpa using hq64
    ·simp [e] at hi;subst hi;exact hq64
theorem Qg.placeL_sh (l:List qa5):∀ {w:Qg},w.Sh→(w.placeL l).Sh:=by
 induction l with
 | nil=>intro w h;exact h
 | cons a l ih=>intro w h;exact ih (Qg.place_sh h a)
theorem Qg.again_sh {w:Qg} (h:w.Sh) (l:Nat):(w.again l).Sh:=Qg.placeL_sh _ (Qg.clear_sh h _ _)
theorem Qg.down_sh:∀ (n:Nat) {w:Qg},w.Sh→(w.down n).Sh
 | 0,_,h=>h
 | l+1,_,h=>Qg.down_sh l (Qg.again_sh h (l+1))
theorem Ya {α:Type} {f:α→Nat}:∀ {l:List α} {k:Nat} {a:α},l[k]?=some a→∀ b,((l.set k b).map f).sum+f a=(l.map f).sum+f b
 | [],k,a,h,b=>by simp at h
 | c::l,0,a,h,b=>by simp at h;subst h;simp;omega
 | c::l,k+1,a,h,b=>by
   simp only [List.getElem?_cons_succ] at h;have:=Ya (f:=f) h b;simp only [List.set_cons_succ,List.map_cons,List.sum_cons];omega
theorem qcu {w:Qg} (h:w.Sh) (a:qa5):qdg (w.place a)=qdg w+1:=by
 unfold Qg.place;split
 ·unfold qdg;simp;omega
 ·next hl =>
  obtain ⟨q,hq⟩:∃ q,w.lv[lvl w.now a.due]?=some q:=⟨_,List.getElem?_eq_getElem (by rw [h.l4];omega)⟩;have hq64:=h.l64 q (List.mem_of_getElem? hq);obtain ⟨s,hs⟩:∃ s,q[Zq a.due (lvl w.now a.due)]?=some s:=⟨_,List.getElem?_eq_getElem (by rw [hq64];exact Y7 _ _)⟩;unfold qdg;simp only;rw [Xx hq,Xx hs];have h1:=Ya (f:=fun l:List (List qa5)=>(l.map List.length).sum) hq (q.set (Zq a.due (lvl w.now a.due)) (s++[a]));have h2:=Ya (f:=(List.length:List qa5→Nat)) hs (s++[a]);simp only [List.length_append,List.length_cons,List.length_nil] at h2
  try simp only at h1
  omega
theorem qfa (l:List qa5):∀ {w:Qg},w.Sh→qdg (w.placeL l)=qdg w+l.length:=by
 induction l with
 | nil=>intro w _;rfl
 | cons a l ih =>
   intro w h
   show qdg ((w.place a).placeL l)=_
   rw [ih (Qg.place_sh h a),qcu h a];simp;omega
theorem qa0 {w:Qg} (h:w.Sh) {l k:Nat} (hl:l<4) (hk:k<64):qdg (w.clear l k)+(w.slot l k).length=qdg w:=by
 obtain ⟨q,hq⟩:∃ q,w.lv[l]?=some q:=⟨_,List.getElem?_eq_getElem (by rw [h.l4];omega)⟩;have hq64:=h.l64 q (List.mem_of_getElem? hq);obtain ⟨s,hs⟩:∃ s,q[k]?=some s:=⟨_,List.getElem?_eq_getElem (by omega)⟩;unfold Qg.clear Qg.slot qdg;simp only;rw [Xx hq];have h1:=Ya (f:=fun l:List (List qa5)=>(l.map List.length).sum) hq (q.set k []);have h2:=Ya (f:=(List.length:List qa5→Nat)) hs [];simp only [List.length_nil] at h2
 try simp only at h1
 rw [List.getD_eq_getElem?_getD,List.getD_eq_getElem?_getD,hq,Option.getD_some,hs,Option.getD_some];omega
theorem qfq {w:Qg} (h:w.Sh) {l:Nat} (hl:l<4):qdg (w.again l)=qdg w:=by
 unfold Qg.again;rw [qfa _ (Qg.clear_sh h _ _)];exact qa0 h hl (Y7 _ _)
theorem qjh:∀ (n:Nat) {w:Qg},w.Sh→n≤3→qdg (w.down n)=qdg w
 | 0,_,_,_=>rfl
 | l+1,w,h,hn=>by
   show qdg ((w.again (l+1)).down l)=_
   rw [qjh l (Qg.again_sh h _) (by omega),qfq h (by omega)]
theorem qo0 {t:Nat} (h:∀ j,j<4→Zq t j=0):t % 16777216=0:=by
 have h0:=h 0 (by decide);have h1:=h 1 (by decide);have h2:=h 2 (by decide);have h3:=h 3 (by decide);unfold Zq at h0 h1 h2 h3;simp only [Nat.reducePow] at h0 h1 h2 h3;omega
theorem qsa {t:Nat} (h0:0<t) (h1:t<16777216):Jc t<4:=by
 by_cases h:∀ j,j<4→Zq t j=0
 ·have:=qo0 h;omega
 ·have hex:∃ j,j<4∧Zq t j≠0:=by
   apply Classical.byContradiction
   intro hn;exact h fun j hj=>Classical.byContradiction fun hz=>hn ⟨j,hj,hz⟩
  have hk:Zq t 0≠0∨Zq t 0=0∧(Zq t 1≠0∨Zq t 1=0∧(Zq t 2≠0∨Zq t 2=0∧Zq t 3≠0)):=by
   obtain ⟨j,hj,hz⟩:=hex;have:j=0∨j=1∨j=2∨j=3:=by omega
   rcases this with rfl | rfl | rfl | rfl <;> omega
  rcases hk with hk | ⟨e0,hk | ⟨e1,hk | ⟨e2,hk⟩⟩⟩
  ·rw [qb7 (by decide) hk (fun j hj=>absurd hj (Nat.not_lt_zero _))];decide
  ·rw [qb7 (k:=1) (by decide) hk (fun j hj=>by (obtain rfl:j=0:=by omega);exact e0)];decide
  ·rw [qb7 (k:=2) (by decide) hk (fun j hj=>by
    have:j=0∨j=1:=by omega
    rcases this with rfl | rfl <;> assumption)];decide
  ·rw [qb7 (k:=3) (by decide) hk (fun j hj=>by
    have:j=0∨j=1∨j=2:=by omega
    rcases this with rfl | rfl | rfl <;> assumption)];decide
section
variable {wb:Nat} {W0:Xe} {n:Nat} {g:List Blk}
theorem qs5 (w:Xe) {l k:Nat} {ls:LvA} (hls:w.lv[l]?=some ls):({ w with lv:=w.lv.set l (ls.set k []) }:Xe).s=w.s.clear l k:=by
 rw [← qxl,Xx hls]
theorem qre {w:Xe} {l k:Nat} {ls:LvA} {sl:List zt} (hls:w.lv[l]?=some ls) (hsl:ls[k]?=some sl):w.s.slot l k=sl.map zt.e:=by
 unfold Qg.slot Xe.s;simp [List.getD_eq_getElem?_getD,List.getElem?_map,hls,hsl]
theorem qyv (hg:Xg wb W0 n g) (hsh:W0.s.Sh) (ho:q2b W0) (l:Nat) (hl:l<4) :
 Qa prog 271 #[Qb wb,.int .i64 l] [g] fun e gs=>e=.returned (.tuple #[])∧∃ w' g',Xg wb w' n g'∧w'.s=W0.s.again l∧gs=[g']:=by
 obtain ⟨C,vs,bb,bh,gV,gB,gE,hC,hvl,hll,hV,hB,hE,rfl⟩:=hg;obtain ⟨ls,hls⟩:=qza hll (k:=l) hl;obtain ⟨vb,hvb⟩:∃ vb,vs[l]?=some vb:=⟨_,List.getElem?_eq_getElem (by omega)⟩;have hz:(vs.zip W0.lv)[l]?=some (vb,ls):=qam hvb hls;obtain ⟨u,y,hu,hp,hback⟩:=hV.out hz;have hta:qkh ls≤1000000:=by have:=qk7 hls;have:=ho.tot;omega
 simp only at hu;have hnow:W0.now<16777215:=ho.now;have hwn:W0.s.now=W0.now:=rfl;obtain ⟨sl,hsl⟩:∃ s,ls[Zq W0.now l]?=some s:=⟨_,List.getElem?_eq_getElem (by rw [hu.len];exact Y7 _ _)⟩
 have hag:W0.s.again l=(W0.s.clear l (Zq W0.now l)).placeL (sl.map zt.e):=by
  unfold Qg.again;rw [hwn,qre hls hsl]
 have hcl:({ W0 with lv:=W0.lv.set l (ls.set (Zq W0.now l) []) }:Xe).s=W0.s.clear l (Zq W0.now l):=qs5 W0 hls
 have htot:qdg (W0.s.clear l (Zq W0.now l))+sl.length≤999999:=by
  have:=qa0 hsh hl (Y7 W0.now l);rw [qre hls hsl,List.length_map] at this;have h2:=ho.tot;rw [qa9] at h2;omega
 have hsh1:=Qg.clear_sh hsh l (Zq W0.now l);have hcn:(W0.s.clear l (Zq W0.now l)).now=W0.now:=rfl;have HDG:=Vh (show Qe prog 273 #[.int .u64 W0.now,.int .i64 l] [] (.int .i64 (Zq W0.now l)) from Jn W0.now l (by omega) hl);have hdl:=Y7 W0.now l;rw [hag];generalize Zq W0.now l=dg at *;obtain ⟨S1,hS1⟩:∃ S1,S1=W0.s.clear l dg:=⟨_,rfl⟩;rw [← hS1] at hcl htot hsh1 hcn ⊢;refine GO fun w HT=>?_
 have HT:=Vh (((HT.out.sum (H':=[[cl wb 253 C],gV,gB,gE])).permAt 1 rfl hp).sum (H':=[[cl wb 253 C],u,gB,gE,y]));have HC:=Vh hC;have HU:=Vh hu;have HBK:=Vh hback;have HB:=Vh hB;have HE:=Vh hE;have HSL:=Vh hsl;have HTA:=Vh hta;have HVL:=Vh (And.intro hvl (And.intro hll hvb));have HCL:=Vh hcl;have HTO:=Vh (And.intro htot (And.intro hsh1 (And.intro hcn hnow)));have c0:=(HT.out.cell 0 0 rfl 0).trans hC.now;have c1:=(HT.out.cell 0 0 rfl (1+l)).trans (hC.lv l vb hvb);have hlb:(l:Int)<4:=by omega
 clear hu hB hE hC ho hV hp hback hls hsl hta hvb hvl hll hz hwn hag hcl htot hsh1 hcn hnow hsh hdl hS1;go_enter func271,ntmps271
 go_wp2_with fail
 refine z5 12 (by kernel_rfl) (by kernel_rfl) rfl rfl rfl rfl ?_
 simp only [List.take_succ_cons,List.take_zero,List.drop_succ_cons,List.drop_zero,List.length_cons,List.length_nil,Nat.reduceAdd,Nat.reduceSub,Act.put,Act.eval,List.setIfInBounds_toArray,List.set_cons_succ,List.set_cons_zero]
 repeat (go_big_quiet_step ((first | (go_at_call 273;with_reducible exact Qe.quiet (HDG.out) HT.out _ [] rfl rfl))))
 refine wpQuiet_nil (QE fun nq=>?_)
 have HT:=Vh (HT.out.drewN nq);go_wp2_with fail
 refine (Qa.use (qne HU.out HSL.out HTA.out) (HT.out) [1] rfl rfl).mono ?_
 rintro e w1 ⟨gs,⟨v,gr,gn,ge,g1,rfl,hr,hn,he,hg1,rfl⟩,Ta⟩;simp only [PU] at Ta;obtain ⟨av,cap,hav⟩:=Qu.val hr;subst hav;have HR:=Vh hr;have HN:=Vh hn;have HEE:=Vh he;have HG1:=Vh hg1;clear hr hn he hg1 c0 c1;have HT:=Vh Ta;clear Ta;go_wp2_with fail
 refine ⟨rfl,?_⟩
 obtain ⟨gV',hV',hp'⟩:=HBK.out (vb,ls.set dg []) g1 HG1.out
 have hw1:Xg wb { W0 with lv:=W0.lv.set l (ls.set dg []) } n ([cl wb 253 C]++(gV'++(gB++gE))) :=
  ⟨C,vs,bb,bh,gV',gB,gE,HC.out,HVL.out.1,by rw [List.length_set];exact HVL.out.2.1,by rw [← Ju l HVL.out.2.2];exact hV',HB.out,HE.out,rfl⟩
 have T1:=((HT.out.sum (H':=[[cl wb 253 C],g1++y,gB,gE,gr,gn,ge])).permAt 1 rfl hp').sum (H':=[[cl wb 253 C]++(gV'++(gB++gE)),gr,gn,ge]);generalize [cl wb 253 C]++(gV'++(gB++gE))=gW0 at hw1 T1;have HW1:=Vh hw1;clear hw1 hV' hp' HT;have hln:sl.length≤999999:=by have:=HTO.out.1;omega
 go_wp2
 go_loopw [5,20] (fun _ i wr=>∃ j:Nat,j≤sl.length∧i=.int .i64 j∧∃ wj gW gn' ge',Xg wb wj n gW∧wj.s=S1.placeL ((sl.take j).map zt.e)∧J4 (fun a=>Yw a.nd) (sl.drop j) gn'∧J4 (qqm (Qb wb)) (sl.drop j) ge' ∧
  TG [[cl wb 253 C]++(gV++(gB++gE))] w [gW,gr,gn',ge'] wr) (fun _ i _=>sl.length+1 - (intOf i).toNat)
 case atStart=>exact ⟨0,Nat.zero_le _,rfl,_,gW0,gn,ge,HW1.out,by rw [HCL.out];rfl,by simpa using HN.out,by simpa using HEE.out,T1⟩
 case round =>
  obtain ⟨j,hj,rfl,wj,gW,gn',ge',hwj,hws,hn,he,T⟩:=hrel;have HT:=Vh T;have HWJ:=Vh hwj;have HWS:=Vh hws;clear T T1 hwj;by_cases hlt:j<sl.length
  ·obtain ⟨a,ha⟩:∃ a,sl[j]?=some a:=⟨_,List.getElem?_eq_getElem hlt⟩
   rw [drop_at ha] at hn he;obtain ⟨x1,y1,hx1,hy1,rfl⟩:=qbx hn;obtain ⟨x2,y2,hx2,hy2,rfl⟩:=qbx he;have hx1':x1=[cl a.nb 354 #[Qb a.eb,.pointer none,.pointer none,.pointer none]]:=hx1;subst hx1';obtain ⟨rb,cap',cur,hv,rfl,_,_,_,hcur⟩:=HR.out.open (by omega);cases hv
   have hcj:=hcur j (by omega);rw [List.getElem?_map,ha] at hcj
   have hok:q2b wj:=by
    have h1:wj.now=S1.now:=by
     have:wj.s.now=S1.now:=by rw [hws,Qg.placeL_now]
     exact this
    refine ⟨by rw [h1,HTO.out.2.2.1];exact HTO.out.2.2.2,?_⟩
    rw [qa9,hws,qfa _ HTO.out.2.1,List.length_map,List.length_take];have:=HTO.out.1;omega
   have HPL:=Vh (qth HWJ.out hok a x2 hx2);have HY1:=Vh hy1;have HY2:=Vh hy2;have HA:=Vh ha
   have hps:∀ nb,(wj.place { a with nb:=nb }).s=S1.placeL ((sl.take (j+1)).map zt.e):=fun nb=>by
    rw [qk1,hws,List.take_succ_eq_append_getElem hlt,List.map_append];have:sl[j]=a:=(List.getElem?_eq_some_iff.1 ha).2;rw [this];unfold Qg.placeL;rw [List.foldl_append];rfl
   have HPS:=Vh hps;have HT:=Vh (HT.out.sum (H':=[gW,x2,[cl rb 270 cur],[cl a.nb 354 #[Qb a.eb,.pointer none,.pointer none,.pointer none]],y1,y2]));have r0:=(HT.out.cell 2 0 rfl j).trans hcj;have b0:=HT.out.cell 3 0 rfl 0;simp only [GE2,Option.map_some] at r0 b0;clear hn he hx1 hx2 hy1 hy2 hcj hcur hok hps hws ha;go_wp2_with fail
   refine (Qa.use (HPL.out) (HT.out) [0,1] rfl rfl).mono ?_
   rintro e w1 ⟨gs,⟨rfl,nb',g2,hg2,rfl⟩,Ta⟩;simp only [PU] at Ta;have HG2:=Vh hg2;clear hg2;have HT:=Vh Ta;clear Ta;go_wp2
   first
   | (go_roundw
      case rel=>exact ⟨j+1,by omega,by go_num,_,g2,y1,y2,HG2.out,HPS.out nb',HY1.out,HY2.out,HT.out.pick [0,2,4,5] rfl⟩
      case measure=>simp [intOf];omega)
   | exact ⟨⟨j+1,by omega,by go_num,_,g2,y1,y2,HG2.out,HPS.out nb',HY1.out,HY2.out,HT.out.pick [0,2,4,5] rfl⟩,by simp [intOf];omega⟩
   | ((repeat apply Exists.intro);exact ⟨⟨⟨j+1,by omega,by go_num,_,g2,y1,y2,HG2.out,HPS.out nb',HY1.out,HY2.out,HT.out.pick [0,2,4,5] rfl⟩,rfl⟩,by simp [intOf];omega⟩)
  ·obtain rfl:j=sl.length:=by omega
   have e:sl.take sl.length=sl:=List.take_length;rw [e] at hws;go_wp2
   exact bodyPost_end (results_none rfl _ _ _) rfl ⟨_,⟨rfl,wj,gW,HWJ.out,hws,rfl⟩,HT.out.pick [0] rfl⟩
end
section
variable {wb:Nat} {W0:Xe} {n:Nat} {g:List Blk}
theorem whC.count {vs:List Nat} {bb now n:Nat} {C:Array Value} (h:whC vs bb now n C) (hl:vs.length=4) (m:Nat):whC vs bb now m (C.setIfInBounds 6 (.int .i64 m)):=by
 refine ⟨by simpa using h.size,(Qd (by omega)).trans h.now,fun i v hv=>(Qd ?_).trans (h.lv i v hv),(Qd (by omega)).trans h.by_,?_⟩
 ·have:=(List.getElem?_eq_some_iff.1 hv).1;omega
 ·exact Q2 h.n
theorem whC.clock {vs:List Nat} {bb now n:Nat} {C:Array Value} (h:whC vs bb now n C) (m:Nat):whC vs bb m n (C.setIfInBounds 0 (.int .u64 m)) :=
 ⟨by simpa using h.size,Q2 h.now,fun i v hv=>(Qd (by omega)).trans (h.lv i v hv),(Qd (by omega)).trans h.by_,(Qd (by omega)).trans h.n⟩
theorem Xg.open {g:List Blk} (h:Xg wb W0 n g):∃ C vs bb gR,whC vs bb W0.now n C∧vs.length=4∧g=[cl wb 253 C]++gR ∧
 ∀ (now' n':Nat) C',whC vs bb now' n' C'→Xg wb { W0 with now:=now' } n' ([cl wb 253 C']++gR):=by
 obtain ⟨C,vs,bb,bh,gV,gB,gE,hC,hvl,hll,hV,hB,hE,rfl⟩:=h;exact ⟨C,vs,bb,gV++(gB++gE),hC,hvl,rfl,fun now' n' C' h'=>⟨C',vs,bb,bh,gV,gB,gE,h',hvl,hll,hV,hB,hE,rfl⟩⟩
theorem ql8 {W0:Xe} (h:W0.s.Sh) (a:zt):qb8 (W0.place a)=qb8 W0+1:=by
 rw [qa9,qa9,qk1];exact qcu h a.e
theorem qvb (hg:Xg wb W0 (qb8 W0) g) (hsh:W0.s.Sh) (ho:q2b W0) (d:Nat) (hd:d<18446744073709551616) (hlt:W0.now<d) (v:Qm) :
 Qa prog 293 #[Qb wb,.int .u64 d,.agg v.cells] [g] fun e gs=>∃ eb,e=.returned (.tuple #[Qb eb,.int .i64 0])∧∃ w' g',Xg wb w' (qb8 w') g'∧w'.s=W0.s.place ⟨d,v,d⟩∧gs=[g']:=by
 have HPG:=Vh (show ∀ g',Xg wb W0 (qb8 W0) g'→_ from fun g' hg' a ge ha=>qth (g:=g') hg' ho a ge ha);have htot:=ho.tot;have HTP:=Vh (show ∀ nb eb,(W0.place ⟨eb,nb,⟨d,v,d⟩⟩).s=W0.s.place ⟨d,v,d⟩∧qb8 (W0.place ⟨eb,nb,⟨d,v,d⟩⟩)=qb8 W0+1 from fun nb eb=>⟨qk1 _ _,ql8 hsh _⟩);have HW:=Vh hg;obtain ⟨C,vs,bb,gR,hC,hvl,rfl,hback⟩:=hg.open;have hle:decide ((d:Int)≤(W0.now:Int))=false:=decide_eq_false (by omega);have hle2:¬ d≤W0.now:=by omega
 refine GO fun w HT=>?_
 have HT:=Vh (HT.out.sum (H':=[[cl wb 253 C],gR]));have c0:=(HT.out.cell 0 0 rfl 0).trans hC.now;have lt:=HT.out.lt 0 0 rfl;simp only [] at lt;have HD:=Vh hd;clear hC hvl hsh ho hlt hback hg hd;simp only [Qm.cells];go_enter func293,ntmps293
 go_wp2_with fail
 obtain ⟨eb,heb⟩:∃ eb,eb=w.heap.size+1:=⟨_,rfl⟩;have HT:=Vh ((((HT.out.alloc0 (.cells #[.int .u64 v.id,.int .i64 v.slot,.int .u64 v.gen,.int .u64 v.dl,.int .u64 v.per] 173)).alloc (k:=eb) (by rw [heb];simp) 352 (qdk (Qb wb) ⟨d,v,d⟩ 0 0 (.pointer none))).sum (H':=[[cl wb 253 C]++gR,[cl eb 352 (qdk (Qb wb) ⟨d,v,d⟩ 0 0 (.pointer none))]])).eq (H':=[[cl wb 253 C]++gR,zy eb (Qb wb) ⟨d,v,d⟩ 0 0 (.pointer none)]) rfl);simp only [qdk] at HT;rw [← heb];clear heb c0 lt hle hle2;generalize World.alloc (World.alloc w _) _=w1 at HT ⊢;go_wp2_with fail
 refine Qa.run (HPG.out _ HW.out ⟨eb,0,⟨d,v,d⟩⟩ (zy eb (Qb wb) ⟨d,v,d⟩ 0 0 (.pointer none)) ⟨HD.out,0,0,none,rfl⟩) (HT.out) [0,1] ?_
 rintro e w1 gs ⟨rfl,nb,g2,hg2,rfl⟩ HT;simp only [PU] at HT;have HP:=Vh (HTP.out nb eb);generalize W0.place ⟨eb,nb,⟨d,v,d⟩⟩=w2 at hg2 HP;obtain ⟨C2,vs2,bb2,gR2,hC2,hvl2,rfl,hback2⟩:=hg2.open
 have hfin:Xg wb w2 (qb8 w2) ([cl wb 253 (C2.setIfInBounds 6 (.int .i64 ((qb8 W0:Int)+1)))]++gR2):=by
  have:=hback2 w2.now (qb8 W0+1) _ (hC2.count hvl2 _);rw [HP.out.2];exact this
 have HF:=Vh hfin;have HT:=Vh (HT.out.sum (H':=[[cl wb 253 C2],gR2]));have c6:=(HT.out.cell 0 0 rfl 6).trans hC2.n;have f6:=HT.out.free 0 0 rfl 6;clear hg2 hC2 hvl2 hback2 hfin;generalize qb8 W0=N at *;go_wp2
 go_ret2
 exact ⟨_,⟨eb,rfl,w2,_,HF.out,HP.out.1,rfl⟩,(HT.out.set 0 0 rfl 6 _).sum⟩
end
theorem Tryz.infoEntryP:(prog.info? 249).map (fun i=>(i.zero,i.size,i.bytes))=some (some (.pointer none),1,8):=by kernel_rfl
section
variable {wb:Nat} {W0:Xe} {n:Nat} {g:List Blk}
def AdvR (wb:Nat) (W0:Qg) (e:Ending) (gs:GH):Prop :=
 ∃ (v:Value) (l:List zt) (gr ge:List Blk) (w':Xe) (g':List Blk),e=.returned (.tuple #[v,.int .i64 0])∧l.map zt.e=W0.adv.2∧Qu 249 1 v l.length (l.map fun a=>Qb a.eb) gr ∧
   J4 (qqm (.pointer none)) l ge∧Xg wb w' (qb8 w') g'∧w'.s=W0.adv.1∧gs=[g',gr,ge]
theorem qrp (hg:Xg wb W0 (qb8 W0) g) (hsh:W0.s.Sh) (hn:W0.now<16000000) (ht:qb8 W0≤999999) :
 Qa prog 255 #[Qb wb] [g] (AdvR wb W0.s):=by
 have hz:=qsa (t:=W0.now+1) (by omega) (by omega);have HA:=Vh (qcm W0.now 1 (by omega) (by omega) (by omega));have HZ:=Vh (show Qa prog 268 #[.int .u64 ((W0.now:Int)+1)] [] _ from qi4 (W0.now+1) (by omega))
 have hadv:W0.s.adv=(let w2:=Qg.down (Jc (W0.now+1)) { W0.s with now:=W0.now+1 };(w2.clear 0 (Zq w2.now 0),w2.slot 0 (Zq w2.now 0))):=by
  unfold Qg.adv;have:min (Jc (W0.s.now+1)) 3=Jc (W0.now+1):=Nat.min_eq_left (by show Jc (W0.now+1)≤3;omega);rw [this];rfl
 have hD:=Qg.down_now (Jc (W0.now+1)) { W0.s with now:=W0.now+1 };obtain ⟨S2,hS2⟩:∃ S2,S2=Qg.down (Jc (W0.now+1)) { W0.s with now:=W0.now+1 }:=⟨_,rfl⟩;rw [← hS2] at hadv hD;simp only [] at hadv;unfold AdvR;rw [hadv];generalize Jc (W0.now+1)=z at *;obtain ⟨C,vs,bb,gR,hC,hvl,rfl,hback⟩:=hg.open;refine GO fun w HT=>?_
 have HT:=Vh (HT.out.sum (H':=[[cl wb 253 C],gR]));have c0:=(HT.out.cell 0 0 rfl 0).trans hC.now;have f0:=HT.out.free 0 0 rfl 0;have HC:=Vh hC;have hW1:=hback (W0.now+1) (qb8 W0) _ (hC.clock (W0.now+1));have HW1:=Vh (show Xg wb { W0 with now:=W0.now+1 } (qb8 W0) ([cl wb 253 (C.setIfInBounds 0 (.int .u64 ((W0.now:Int)+1)))]++gR) from hW1);have HSH:=Vh hsh;have HD:=Vh hD;have HS2:=Vh hS2;have hzi:¬ ((z:Int) ≥ 4):=by omega
 have hmin:min (z:Int) 3=z:=by omega
 clear hC hvl hback hg hsh hadv hD hS2 hW1;go_enter func255,ntmps255
 go_wp2_with fail
 refine (Qa.use (HA.out) (HT.out) [] rfl rfl).mono ?_
 rintro e w1 ⟨gs,⟨rfl,rfl⟩,Ta⟩;simp only [PU] at Ta;clear c0 f0;have c0:=(Ta.cell 0 0 rfl 0).trans HC.out.now;have f0:=Ta.free 0 0 rfl 0;have HT:=Vh Ta;clear Ta;go_wp2_with fail
 refine (Qa.use (HZ.out) (HT.out.set 0 0 rfl 0 (.int .u64 ((W0.now:Int)+1))) [] rfl rfl).mono ?_
 rintro e w1 ⟨gs,⟨rfl,rfl⟩,Ta⟩;simp only [PU] at Ta;clear c0 f0;have HT:=Vh Ta;clear Ta;go_wp2
 have T1:=HT.out.sum (H':=[[cl wb 253 (C.setIfInBounds 0 (.int .u64 ((W0.now:Int)+1)))]++gR]);have HB:=Vh (show ({ W0.s with now:=W0.now+1 }:Qg).Sh∧qdg { W0.s with now:=W0.now+1 }=qb8 W0 from ⟨⟨HSH.out.l4,HSH.out.l64⟩,(qa9 W0).symm⟩);generalize qb8 W0=N at *;generalize [cl wb 253 (C.setIfInBounds 0 (.int .u64 ((W0.now:Int)+1)))]++gR=gW1 at HW1 T1;clear HT hmin hzi HC
 go_loopw [9] (fun l wr=>∃ j:Nat,j≤3∧l=.int .i64 j∧∃ wj gW,Xg wb wj N gW∧wj.s.down j=S2∧wj.s.Sh∧wj.now=W0.now+1∧qdg wj.s=N∧TG [[cl wb 253 C]++gR] w [gW] wr) (fun l _=>(intOf l).toNat)
 case atStart=>exact ⟨z,by omega,rfl,_,gW1,HW1.out,HS2.out.symm,HB.out.1,rfl,HB.out.2,T1⟩
 case round =>
  obtain ⟨j,hj,rfl,wj,gW,hwj,hdn,hsj,hnj,htj,T⟩:=hrel;have HT:=Vh T;clear T T1 HW1 HS2 HB;cases j with
  | succ j =>
    have hok:q2b wj:=⟨by omega,by rw [qa9];omega⟩;have hag:=qyv hwj hsj hok (j+1) (by omega);have HAG:=Vh (show Qa prog 271 #[Qb wb,.int .i64 ((j:Int)+1)] [gW] _ from hag)
    have hX:∀ w':Xe,w'.s=wj.s.again (j+1)→w'.s.down j=S2∧w'.s.Sh∧w'.now=W0.now+1∧qdg w'.s=N:=fun w' h=>by
     rw [h];refine ⟨hdn,Qg.again_sh hsj _,?_,?_⟩
     ·have h1:w'.s.now=wj.s.now:=by rw [h,Qg.again_now]
      exact (show w'.now=wj.now from h1).trans hnj
     ·rw [qfq hsj (by omega),htj]
    have HX:=Vh hX;have hj1:((j+1:Nat):Int)=(j:Int)+1:=by omega
    simp only [hj1];clear hdn hsj hnj htj hok hag hX hwj hj1;go_wp2_with fail
    refine (Qa.use (HAG.out) (HT.out) [0] rfl rfl).mono ?_
    rintro e w1 ⟨gs,⟨rfl,w',g',hg',hs',rfl⟩,Ta⟩;simp only [PU] at Ta;have HG:=Vh hg';have HY:=Vh (HX.out w' hs');clear hg' hs';have HT:=Vh Ta;clear Ta;go_wp2
    first
    | (go_roundw
       case rel=>exact ⟨j,by omega,rfl,w',g',HG.out,HY.out.1,HY.out.2.1,HY.out.2.2.1,HY.out.2.2.2,HT.out⟩
       case measure=>simp [intOf] <;> omega)
    | exact ⟨⟨j,by omega,rfl,w',g',HG.out,HY.out.1,HY.out.2.1,HY.out.2.2.1,HY.out.2.2.2,HT.out⟩,by simp [intOf] <;> omega⟩
    | ((repeat apply Exists.intro);exact ⟨⟨⟨j,by omega,rfl,w',g',HG.out,HY.out.1,HY.out.2.1,HY.out.2.2.1,HY.out.2.2.2,HT.out⟩,rfl⟩,by simp [intOf] <;> omega⟩)
  | zero =>
    have hdn':wj.s=S2:=hdn;subst hdn';obtain ⟨C2,vs2,bb2,bh2,gV,gB,gE,hC2,hvl2,hll2,hV,hB,hE,rfl⟩:=hwj;obtain ⟨ls,hls⟩:=qza hll2 (k:=0) (by decide);obtain ⟨vb,hvb⟩:∃ vb,vs2[0]?=some vb:=⟨_,List.getElem?_eq_getElem (by omega)⟩;have hz:(vs2.zip wj.lv)[0]?=some (vb,ls):=qam hvb hls;obtain ⟨u,y,hu,hp,hback⟩:=hV.out hz;have htw:qb8 wj=N:=(qa9 wj).trans htj;have hta:qkh ls≤1000000:=by have:=qk7 hls;omega
    simp only at hu;have hwn:wj.s.now=W0.now+1:=hnj;obtain ⟨sl,hsl⟩:∃ s,ls[Zq (W0.now+1) 0]?=some s:=⟨_,List.getElem?_eq_getElem (by rw [hu.len];exact Y7 _ _)⟩;have hcl:({ wj with lv:=wj.lv.set 0 (ls.set (Zq (W0.now+1) 0) []) }:Xe).s=wj.s.clear 0 (Zq (W0.now+1) 0):=qs5 wj hls;have hslot:=qre hls hsl;have htot:=qa0 hsj (l:=0) (by decide) (Y7 (W0.now+1) 0);rw [hslot,List.length_map,htj] at htot;have HDG:=Vh (show Qe prog 273 #[.int .u64 ((W0.now:Int)+1),.int .i64 0] [] (.int .i64 (Zq (W0.now+1) 0)) from Jn (W0.now+1) 0 (by omega) (by decide));have hdl:=Y7 (W0.now+1) 0;have HFIN:=Vh (And.intro (show Zq wj.s.now 0=Zq (W0.now+1) 0 by rw [hwn]) hslot);generalize Zq (W0.now+1) 0=dg at *;have HT:=Vh (((HT.out.sum (H':=[[cl wb 253 C2],gV,gB,gE])).permAt 1 rfl hp).sum (H':=[[cl wb 253 C2],u,gB,gE,y]));have HC:=Vh hC2;have HU:=Vh hu;have HBK:=Vh hback;have HB:=Vh hB;have HE:=Vh hE;have HSL:=Vh hsl;have HTA:=Vh hta;have HVL:=Vh (And.intro hvl2 (And.intro hll2 hvb));have HCL:=Vh hcl;have HTO:=Vh htot;have c1:=(HT.out.cell 0 0 rfl 1).trans (hC2.lv 0 vb hvb);clear hu hB hE hC2 hV hp hback hls hsl hta hvb hvl2 hll2 hz hwn hslot hcl htot hnj hsj hdl hdn htj htw;go_wp2_with fail
    refine z5 7 (by kernel_rfl) (by kernel_rfl) rfl rfl rfl rfl ?_
    simp only [List.take_succ_cons,List.take_zero,List.drop_succ_cons,List.drop_zero,List.length_cons,List.length_nil,Nat.reduceAdd,Nat.reduceSub,Act.put,Act.eval,List.setIfInBounds_toArray,List.set_cons_succ,List.set_cons_zero]
    repeat (go_big_quiet_step ((first | (go_at_call 273;with_reducible exact Qe.quiet (HDG.out) HT.out _ [] rfl rfl))))
    refine wpQuiet_nil (QE fun nq=>?_)
    have HT:=Vh (HT.out.drewN nq);go_wp2_with fail
    refine (Qa.use (qne HU.out HSL.out HTA.out) (HT.out) [1] rfl rfl).mono ?_
    rintro e w1 ⟨gs,⟨v,gr,gn,ge,g1,rfl,hr,hn,he,hg1,rfl⟩,Ta⟩;simp only [PU] at Ta;obtain ⟨av,cap,hav⟩:=Qu.val hr;subst hav;have HR:=Vh hr;have HN:=Vh hn;have HEE:=Vh he;have HG1:=Vh hg1;clear hr hn he hg1 c1;have HT:=Vh Ta;clear Ta;go_wp2_with fail
    refine ⟨rfl,?_⟩
    obtain ⟨gV',hV',hp'⟩:=HBK.out (vb,ls.set dg []) g1 HG1.out
    have hwh:∀ (m:Nat) (C':Array Value),whC vs2 bb2 wj.now m C'→Xg wb { wj with lv:=wj.lv.set 0 (ls.set dg []) } m ([cl wb 253 C']++(gV'++(gB++gE))):=fun m C' h' =>
     ⟨C',vs2,bb2,bh2,gV',gB,gE,h',HVL.out.1,by rw [List.length_set];exact HVL.out.2.1,by rw [← Ju 0 HVL.out.2.2];exact hV',HB.out,HE.out,rfl⟩
    have T1:=((HT.out.sum (H':=[[cl wb 253 C2],g1++y,gB,gE,gr,gn,ge])).permAt 1 rfl hp').sum (H':=[[cl wb 253 C2],gV'++(gB++gE),gr,gn,[],[],ge]);generalize gV'++(gB++gE)=gRest at hwh T1;have HWH:=Vh hwh;clear hwh hV' hp' HT;have hln:sl.length≤999999:=by have:=HTO.out;omega
    go_wp2
    go_loopw [10,12,66] (fun out _ i wr=>∃ j:Nat,j≤sl.length∧i=.int .i64 j∧∃ (m:Nat) (Cj:Array Value) (gq gn' gd ge':List Blk),m+j=N∧whC vs2 bb2 wj.now m Cj∧Qu 249 1 out j ((sl.take j).map fun a=>Qb a.eb) gq ∧
     J4 (fun a=>Yw a.nd) (sl.drop j) gn'∧J4 (qqm (.pointer none)) (sl.take j) gd∧J4 (qqm (Qb wb)) (sl.drop j) ge' ∧
     TG [[cl wb 253 C]++gR] w [[cl wb 253 Cj],gRest,gr,gn',gq,gd,ge'] wr) (fun _ _ i _=>sl.length+1 - (intOf i).toNat)
    case atStart=>exact ⟨0,Nat.zero_le _,rfl,N,C2,[],gn,[],ge,rfl,HC.out,Zi _ _,by simpa using HN.out,rfl,by simpa using HEE.out,T1⟩
    case round =>
     obtain ⟨j,hj,rfl,m,Cj,gq,gn',gd,ge',hm,hcj,hq,hn,hd,he,T⟩:=hrel;have HT:=Vh T;have HCJ:=Vh hcj;have HQ:=Vh hq;have HDN:=Vh hd;obtain ⟨aq,capq,hv⟩:=Qu.val hq;subst hv;clear T T1 hcj hq hd;by_cases hlt:j<sl.length
     ·obtain ⟨a,ha⟩:∃ a,sl[j]?=some a:=⟨_,List.getElem?_eq_getElem hlt⟩
      rw [drop_at ha] at hn he;obtain ⟨x1,y1,hx1,hy1,rfl⟩:=qbx hn;obtain ⟨x2,y2,⟨hdue,elv,esl,eno,rfl⟩,hy2,rfl⟩:=qbx he;have hx1':x1=[cl a.nb 354 #[Qb a.eb,.pointer none,.pointer none,.pointer none]]:=hx1;subst hx1';obtain ⟨rb,cap',cur,hv,rfl,_,_,_,hcur⟩:=HR.out.open (by omega);cases hv
      have hcj:=hcur j (by omega);rw [List.getElem?_map,ha] at hcj;obtain ⟨m',rfl⟩:∃ m',m=m'+1:=⟨m - 1,by have:=HTO.out;omega⟩;have HY1:=Vh hy1;have HY2:=Vh hy2;have HDU:=Vh hdue
      have hq2:(sl.take (j+1))=sl.take j++[a]:=by
       rw [List.take_succ_eq_append_getElem hlt,(List.getElem?_eq_some_iff.1 ha).2]
      have HQ2:=Vh hq2;have HMJ:=Vh hm;have HT:=Vh (HT.out.sum (H':=[[cl wb 253 Cj],gRest,[cl rb 270 cur],[cl a.nb 354 #[Qb a.eb,.pointer none,.pointer none,.pointer none]],y1,gq,gd,zy a.eb (Qb wb) a.e elv esl (.pointer eno),y2]));have r0:=(HT.out.cell 2 0 rfl j).trans hcj;have b0:=HT.out.cell 3 0 rfl 0;have e7:=HT.out.cell 7 0 rfl 7;have f7:=HT.out.free 7 0 rfl 7;have c6:=(HT.out.cell 0 0 rfl 6).trans (show Cj[6]?=some (.int .i64 ((m':Int)+1)) from HCJ.out.n);have f6:=HT.out.free 0 0 rfl 6;have ne1:=HT.out.ne 0 0 7 0 (by decide) rfl rfl;have ne3:=HT.out.ne 3 0 7 0 (by decide) rfl rfl;have ne5:=HT.out.ne 0 0 3 0 (by decide) rfl rfl;simp only [] at ne1 ne3 ne5;have ne2:=Ne.symm ne1;have ne4:=Ne.symm ne3;have ne6:=Ne.symm ne5;simp only [GE3,Option.map_some,qdk] at r0 b0 e7;have hmb:m'≤999999:=by omega
      have HTS:=Vh ((HT.out.set 7 0 rfl 7 (.pointer none)).set 0 0 rfl 6 (.int .i64 (m':Int)));simp only [List.set_cons_zero,List.set_cons_succ,List.getD_cons_zero,List.getD_cons_succ] at HTS;clear hn he hx1 hy1 hy2 hcj hcur ha hq2 hdue hm
      have hnw:∀ j u,([Qb a.eb]:List Value)[j]?=some u→(((wr.setCell ⟨a.eb,7,none⟩ (.pointer none)).setCell ⟨wb,6,none⟩ (.int .i64 (m':Int))).alloc (.cells #[Qb a.eb] 249)).cell? ((⟨wr.heap.size,0,none⟩:Addr).add j)=some u:=by
       have:=X8 ((wr.setCell ⟨a.eb,7,none⟩ (.pointer none)).setCell ⟨wb,6,none⟩ (.int .i64 (m':Int))) 249 [Qb a.eb];rw [X9,X9] at this;exact this
      have HNW:=Vh hnw;clear hnw;go_wp2_with (at_builtin;(with_reducible refine Z0 rfl (.tmp 83) (.tmp 88) 337 rfl 249 1 8 _ underlying337 Tryz.infoEntryP rfl (by decide) ((HTS.out).alloc0 _) 5 rfl rfl (HQ.out) rfl ⟨wr.heap.size,0,none⟩ 1 1 [Qb a.eb] rfl rfl HNW.out (by simp [Value.oneCell']) (by unfold maxLen;omega) (by omega) ?_);intro v1 w2 gr1 r1 T1;simp only [List.set_cons_zero,List.set_cons_succ] at T1;have T1:=Vh T1;have r1:=Vh r1)
      have HQ1:=Vh (show Qu 249 1 v1 (j+1) ((sl.take (j+1)).map fun a=>Qb a.eb) gr1 from by rw [HQ2.out];simpa using r1.out);have HDN1:=Vh (show J4 (qqm (.pointer none)) (sl.take (j+1)) (gd++zy a.eb (.pointer none) a.e elv esl (.pointer eno)) from by rw [HQ2.out];exact J4.snoc HDN.out ⟨HDU.out,_,_,_,rfl⟩);have HCJ1:=Vh (HCJ.out.count HVL.out.1 m');have T2:=((T1.out.eq (H':=[[cl wb 253 (Cj.setIfInBounds 6 (.int .i64 (m':Int)))],gRest,[cl rb 270 cur],[cl a.nb 354 #[Qb a.eb,.pointer none,.pointer none,.pointer none]],y1,gr1,gd,zy a.eb (.pointer none) a.e elv esl (.pointer eno),y2]) rfl).sum (H':=[[cl wb 253 (Cj.setIfInBounds 6 (.int .i64 (m':Int)))],gRest,[cl rb 270 cur],y1,gr1,gd++zy a.eb (.pointer none) a.e elv esl (.pointer eno),y2,[cl a.nb 354 #[Qb a.eb,.pointer none,.pointer none,.pointer none]]])).pick [0,1,2,3,4,5,6] rfl;have HT2:=Vh T2;clear T2 HT T1 HTS;go_wp2
      first
      | (go_roundw
         case rel=>exact ⟨j+1,by omega,by go_num,m',_,gr1,y1,_,y2,by have:=HMJ.out;omega,HCJ1.out,HQ1.out,HY1.out,HDN1.out,HY2.out,HT2.out⟩
         case measure=>simp [intOf];omega)
      | exact ⟨⟨j+1,by omega,by go_num,m',_,gr1,y1,_,y2,by have:=HMJ.out;omega,HCJ1.out,HQ1.out,HY1.out,HDN1.out,HY2.out,HT2.out⟩,by simp [intOf];omega⟩
      | ((repeat apply Exists.intro);exact ⟨⟨⟨j+1,by omega,by go_num,m',_,gr1,y1,_,y2,by have:=HMJ.out;omega,HCJ1.out,HQ1.out,HY1.out,HDN1.out,HY2.out,HT2.out⟩,rfl⟩,by simp [intOf];omega⟩)
     ·obtain rfl:j=sl.length:=by omega
      have e:sl.take sl.length=sl:=List.take_length;rw [e] at HQ HDN
      have hmm:qb8 { wj with lv:=wj.lv.set 0 (ls.set dg []) }=m:=by
       rw [qa9,HCL.out];have:=HTO.out;omega
      have HM:=Vh hmm;clear hn he hmm e;go_wp2
      go_ret2
      refine ⟨_,⟨_,sl,gq,gd,{ wj with lv:=wj.lv.set 0 (ls.set dg []) },_,rfl,?_,HQ.out,HDN.out,by rw [HM.out];exact HWH.out m Cj HCJ.out,?_,rfl⟩,(HT.out.sum (H':=[[cl wb 253 Cj]++gRest,gq,gd,gr++(gn'++ge')])).pick [0,1,2] rfl⟩
      ·rw [HFIN.out.1];exact HFIN.out.2.symm
      ·rw [HFIN.out.1];exact HCL.out
end
theorem qol:Qa prog 132 #[] [] fun e gs=>∃ b ss g,e=.returned (Qb b)∧Jv b ss g∧(∀ s∈ss,s.l=[])∧gs=[g]:=by
 refine GO fun w HT=>?_
 go_enter func132,ntmps132
 go_wp2
 have T1:=HT.out.alloc (k:=w.heap.size) rfl 276 Tryz.zeroCells276
 go_loopw [2,5] (fun _ i wr=>∃ (k:Nat) (C:Array Value) (ss:List Zv) (gH:List Blk),k≤64∧i=.int .i64 k∧C.size=66∧ss.length=k∧(∀ s∈ss,s.l=[])∧(∀ (i:Nat) (s:Zv),ss[i]?=some s→C[i]?=some (Qb s.lb))∧C[64]?=some (.int .u64 0)∧C[65]?=some (.int .i64 0)∧J4 qus ss gH ∧
  TG [] w [[cl w.heap.size 276 C],gH] wr) (fun _ i _=>65 - (intOf i).toNat)
 case atStart=>exact ⟨0,Tryz.zeroCells276,[],[],by omega,rfl,by kernel_rfl,rfl,fun s h=>(by cases h),fun i s h=>(by simp at h),by kernel_rfl,by kernel_rfl,rfl,T1.sum (H':=[[cl w.heap.size 276 Tryz.zeroCells276],[]])⟩
 case round =>
  obtain ⟨lb,hlb⟩:∃ lb,lb=w.heap.size:=⟨_,rfl⟩;rw [← hlb] at hrel ⊢;obtain ⟨k,C,ss,gH,hk,rfl,hC,hl,he,hat,h64,h65,hF,T⟩:=hrel;have HT:=Vh T;have HC:=Vh hC;have HS:=Vh (And.intro hl (And.intro he (And.intro hat (And.intro h64 (And.intro h65 hF)))));clear T T1 hC hlb hl he hat h64 h65 hF;by_cases hlt:k<64
  ·have c0:=Array.getElem?_eq_getElem (xs:=C) (i:=k) (by rw [HC.out];omega)
   have HC0:=Vh c0;clear c0;go_wp2
   go_region_with (
    go_at_call 131
    refine (Qa.use qfy HT.out.drew [] rfl rfl).mono ?_
    rintro e w1 ⟨gs,⟨b,hb,g,rfl,hg,rfl⟩,Ta⟩;simp only [PU] at Ta;have c1:=(Ta.cell 0 0 rfl k).trans HC0.out;have f1:=Ta.free 0 0 rfl k;have HG:=Vh hg;have HT1:=Vh Ta
    clear Ta hg)
   obtain ⟨hl,he,hat,h64,h65,hF⟩:=HS.out
   have hs2:∀ (i:Nat) (s:Zv),(ss++[(⟨b,hb,[]⟩:Zv)])[i]?=some s→(C.setIfInBounds k (Qb b))[i]?=some (Qb s.lb):=fun i s h=>by
    by_cases hi:i<ss.length
    ·rw [List.getElem?_append_left hi] at h
     rw [Qd (by omega)];exact hat i s h
    ·rw [List.getElem?_append_right (by omega)] at h
     have:i - ss.length=0:=by
      rcases Nat.eq_zero_or_pos (i - ss.length) with h0 | h0
      ·exact h0
      ·rw [List.getElem?_cons] at h;simp [Nat.ne_of_gt h0] at h
     have hik:i=k:=by omega
     subst hik;rw [this] at h;simp only [List.getElem?_cons_zero,Option.some.injEq] at h;subst h;exact Q2 HC0.out
   have HS2:=Vh (And.intro hs2 (And.intro (show ∀ s∈ss++[(⟨b,hb,[]⟩:Zv)],s.l=[] from fun s h=>by (rcases List.mem_append.1 h with h | h;exact he s h;rw [List.mem_singleton.1 h])) (J4.snoc (P:=qus) (a:=⟨b,hb,[]⟩) hF HG.out)));have HX:=Vh (And.intro (show (C.setIfInBounds k (Qb b))[64]?=some (.int .u64 0) from (Qd (by omega)).trans h64) (show (C.setIfInBounds k (Qb b))[65]?=some (.int .i64 0) from (Qd (by omega)).trans h65));have HLN:=Vh hl;clear hl he hat h64 h65 hF hs2;go_wp2
   first
   | (go_roundw
      case rel=>exact ⟨k+1,_,ss++[⟨b,hb,[]⟩],gH++g,by omega,by go_num,by rw [Array.size_setIfInBounds];exact HC.out,by rw [List.length_append,HLN.out];rfl,HS2.out.2.1,HS2.out.1,HX.out.1,HX.out.2,HS2.out.2.2,(HT1.out.set 0 0 rfl k _).sum⟩
      case measure=>simp [intOf];omega)
   | exact ⟨⟨k+1,_,ss++[⟨b,hb,[]⟩],gH++g,by omega,by go_num,by rw [Array.size_setIfInBounds];exact HC.out,by rw [List.length_append,HLN.out];rfl,HS2.out.2.1,HS2.out.1,HX.out.1,HX.out.2,HS2.out.2.2,(HT1.out.set 0 0 rfl k _).sum⟩,by simp [intOf];omega⟩
   | ((repeat apply Exists.intro);exact ⟨⟨⟨k+1,_,ss++[⟨b,hb,[]⟩],gH++g,by omega,by go_num,by rw [Array.size_setIfInBounds];exact HC.out,by rw [List.length_append,HLN.out];rfl,HS2.out.2.1,HS2.out.1,HX.out.1,HX.out.2,HS2.out.2.2,(HT1.out.set 0 0 rfl k _).sum⟩,rfl⟩,by simp [intOf];omega⟩)
  ·go_wp2
   go_ret
   obtain ⟨hl,he,hat,h64,h65,hF⟩:=HS.out
   have ht:qfd ss=0:=by
    unfold qfd
    have:ss.map (fun s=>s.l.length)=List.replicate ss.length 0:=by
     rw [List.eq_replicate_iff];refine ⟨by simp,fun b hb=>?_⟩
     obtain ⟨s,hs,rfl⟩:=List.mem_map.1 hb;rw [he s hs];rfl
    rw [this];simp
   exact ⟨_,⟨_,ss,_,rfl,⟨by omega,C,gH,⟨HC.out,hat,⟨0,h64⟩,by rw [ht];exact h65⟩,hF,rfl⟩,he,rfl⟩,HT.out.sum⟩
def lv0:LvA:=List.replicate 64 []
def qjz:Xe:=⟨0,List.replicate 4 lv0,[]⟩
theorem qml {α:Type} {P:α→List Blk→Prop}:∀ n:Nat,J4 (J4 P) (List.replicate n []) []
 | 0=>rfl
 | n+1=>⟨[],[],rfl,qml n,rfl⟩
theorem qpc {b:Nat} {ss:List Zv} {g:List Blk} (h:Jv b ss g) (he:∀ s∈ss,s.l=[]) (home:Value):qa8 b home lv0 g:=by
 refine ⟨ss,g,[],h,?_,qml 64,by simp⟩
 have:ss.map Zv.l=List.replicate 64 []:=by
  rw [List.eq_replicate_iff];refine ⟨by rw [List.length_map];exact h.1,fun b hb=>?_⟩
  obtain ⟨s,hs,rfl⟩:=List.mem_map.1 hb;exact he s hs
 rw [this];rfl
theorem qpz:Qa prog 107 #[.int .u64 0] [] fun e gs=>∃ b g,e=.returned (Qb b)∧Xg b qjz 0 g∧gs=[g]:=by
 refine GO fun w HT=>?_
 go_enter func107,ntmps107
 go_wp2_with fail
 refine (Qa.use (qfy) (HT.out) [] rfl rfl).mono ?_
 rintro e w1 ⟨gs,⟨b0,h0,gB,rfl,hgB,rfl⟩,Ta⟩;simp only [PU] at Ta;have HB:=Vh hgB;clear hgB;have HT:=Vh Ta;clear Ta;go_wp2
 have T1:=HT.out.alloc (k:=w1.heap.size) rfl 253 #[.int .u64 0,.pointer none,.pointer none,.pointer none,.pointer none,Qb b0,.int .i64 0];obtain ⟨wb,hwb⟩:∃ wb,wb=w1.heap.size:=⟨_,rfl⟩;rw [← hwb] at T1 ⊢;clear HT
 go_loopw [4,9] (fun _ i wr=>∃ (k:Nat) (C:Array Value) (vs:List Nat) (gV:List Blk),k≤4∧i=.int .i64 k∧C.size=7∧vs.length=k∧(C[0]?=some (.int .u64 0)∧C[5]?=some (Qb b0)∧C[6]?=some (.int .i64 0))∧(∀ (i:Nat) (v:Nat),vs[i]?=some v→C[1+i]?=some (Qb v)) ∧
  J4 (fun (z:Nat × LvA)=>qa8 z.1 (Qb wb) z.2) (vs.zip (List.replicate k lv0)) gV∧TG [] w [[cl wb 253 C],gB,gV] wr) (fun _ i _=>5 - (intOf i).toNat)
 case atStart=>exact ⟨0,#[.int .u64 0,.pointer none,.pointer none,.pointer none,.pointer none,Qb b0,.int .i64 0],[],[],by omega,rfl,rfl,rfl,⟨rfl,rfl,rfl⟩,fun i s h=>(by simp at h),rfl,(T1.pick [1,0] rfl).eq (by simp [qaj])⟩
 case round =>
  obtain ⟨k,C,vs,gV,hk,rfl,hC,hl,hx,hat,hF,T⟩:=hrel;have HT:=Vh T;have HC:=Vh hC;have HS:=Vh (And.intro hl (And.intro hx (And.intro hat hF)));clear T T1 hC hwb hl hx hat hF;by_cases hlt:k<4
  ·have c0:=Array.getElem?_eq_getElem (xs:=C) (i:=1+k) (by rw [HC.out];omega)
   have HC0:=Vh c0;clear c0;go_wp2
   go_region_with (
    go_at_call 132
    refine (Qa.use qol HT.out.drew [] rfl rfl).mono ?_
    rintro e w2 ⟨gs,⟨b,ss,g,rfl,hg,he,rfl⟩,Ta⟩;simp only [PU] at Ta;have c1:=(Ta.cell 0 0 rfl (1+k)).trans HC0.out;have f1:=Ta.free 0 0 rfl (1+k);have HG:=Vh (qpc hg he (Qb wb));have HT1:=Vh Ta
    clear Ta hg he)
   obtain ⟨hl,hx,hat,hF⟩:=HS.out
   have hs2:∀ (i:Nat) (v:Nat),(vs++[b])[i]?=some v→(C.setIfInBounds (1+k) (Qb b))[1+i]?=some (Qb v):=fun i s h=>by
    by_cases hi:i<vs.length
    ·rw [List.getElem?_append_left hi] at h
     rw [Qd (by omega)];exact hat i s h
    ·rw [List.getElem?_append_right (by omega)] at h
     have:i - vs.length=0:=by
      rcases Nat.eq_zero_or_pos (i - vs.length) with h0 | h0
      ·exact h0
      ·rw [List.getElem?_cons] at h;simp [Nat.ne_of_gt h0] at h
     have hik:i=k:=by omega
     subst hik;rw [this] at h;simp only [List.getElem?_cons_zero,Option.some.injEq] at h;subst h;exact Q2 HC0.out
   have hz:(vs++[b]).zip (List.replicate (k+1) lv0)=vs.zip (List.replicate k lv0)++[(b,lv0)]:=by
    rw [show List.replicate (k+1) lv0=List.replicate k lv0++[lv0] from List.replicate_succ',List.zip_append (by rw [hl];simp)];rfl
   have HS2:=Vh (And.intro hs2 (show J4 (fun (z:Nat × LvA)=>qa8 z.1 (Qb wb) z.2) ((vs++[b]).zip (List.replicate (k+1) lv0)) (gV++g) from by rw [hz];exact J4.snoc hF HG.out));have HX:=Vh (show (C.setIfInBounds (1+k) (Qb b))[0]?=some (.int .u64 0)∧(C.setIfInBounds (1+k) (Qb b))[5]?=some (Qb b0)∧(C.setIfInBounds (1+k) (Qb b))[6]?=some (.int .i64 0) from ⟨(Qd (by omega)).trans hx.1,(Qd (by omega)).trans hx.2.1,(Qd (by omega)).trans hx.2.2⟩);have HLN:=Vh hl;clear hl hx hat hF hs2 hz;go_wp2
   first
   | (go_roundw
      case rel=>exact ⟨k+1,_,vs++[b],gV++g,by omega,by go_num,by rw [Array.size_setIfInBounds];exact HC.out,by rw [List.length_append,HLN.out];rfl,HX.out,HS2.out.1,HS2.out.2,(HT1.out.set 0 0 rfl (1+k) _).sum⟩
      case measure=>simp [intOf];omega)
   | exact ⟨⟨k+1,_,vs++[b],gV++g,by omega,by go_num,by rw [Array.size_setIfInBounds];exact HC.out,by rw [List.length_append,HLN.out];rfl,HX.out,HS2.out.1,HS2.out.2,(HT1.out.set 0 0 rfl (1+k) _).sum⟩,by simp [intOf];omega⟩
   | ((repeat apply Exists.intro);exact ⟨⟨⟨k+1,_,vs++[b],gV++g,by omega,by go_num,by rw [Array.size_setIfInBounds];exact HC.out,by rw [List.length_append,HLN.out];rfl,HX.out,HS2.out.1,HS2.out.2,(HT1.out.set 0 0 rfl (1+k) _).sum⟩,rfl⟩,by simp [intOf];omega⟩)
  ·obtain rfl:k=4:=by omega
   go_wp2
   go_ret
   obtain ⟨hl,hx,hat,hF⟩:=HS.out;exact ⟨_,⟨wb,_,rfl,⟨C,vs,b0,h0,gV,gB,[],⟨HC.out,hx.1,hat,hx.2.1,hx.2.2⟩,hl,rfl,hF,HB.out,rfl,rfl⟩,rfl⟩,HT.out.sum⟩
end
section
open Go.RowKit Go.Shelf
attribute [local go_sem] Oper.semAt_some
theorem J3.right {H K:GH} {w:World} (h:J3 (H++K) w):J3 K w:=by
 have hh:Has (ex H.flatten++ex K.flatten) w:=by
  have:Has (ex (H++K).flatten) w:=h;rwa [List.flatten_append,Zz] at this
 exact hh.right
def qii (a:zt):Array Value:=a.e.v.cells
theorem qqg (tb:Nat) (l:List zt) (v home:Value) (gr ge:List Blk) (hr:Qu 249 1 v l.length (l.map fun a=>Qb a.eb) gr) (he:J4 (qqm home) l ge) (hn:l.length≤1000000) :
 qeo prog 275 #[Qb tb] (qgm (l.map qii) [[cl tb 337 #[v]],gr,ge]) (0:Nat):=by
 intro ly J Jx hT hY H0 O0 W hJ0 hO hH;have hO':O0=[[cl tb 337 #[v]],gr,ge]:=hO;subst hO';have T0:=TG.refl hH;have c0:=(TG.refl hH.right).cell 0 0 rfl 0;simp only [GE2] at c0;obtain ⟨av,cap,hv⟩:=Qu.val hr;subst hv;have HR:=Vh hr;have HE:=Vh he;have HH:=Vh (And.intro hJ0 T0);have HY:=Vh hY;clear hr he hO hH hY hT hJ0 T0;refine (callsIn_wide (n:=9)).1 (callsIn_of_wp func275 rfl trivial ?_ rfl)
 simp only [ntmps275,List.size_toArray,List.length_cons,List.length_nil,Nat.reduceAdd,Nat.reduceSub,Array.replicate_succ,Array.replicate_zero,List.push_toArray,List.append_toArray,List.nil_append,List.cons_append];gi_wp2
 gi_loopw [4,7] (fun _ i wr=>∃ (k:Nat) (H:GH),k≤l.length∧i=.int .i64 k∧J k H∧TG (H0++[[cl tb 337 #[.slice av l.length cap]],gr,ge]) W (H++[[cl tb 337 #[.slice av l.length cap]],gr,ge]) wr) (fun _ i _=>l.length+1 - (intOf i).toNat)
 case atStart=>exact ⟨0,H0,by omega,rfl,HH.out.1,HH.out.2⟩
 case round =>
  obtain ⟨k,H,hk,rfl,hj,T⟩:=hrel;clear HH c0;by_cases hlt:k<l.length
  ·obtain ⟨a,ha⟩:∃ a,l[k]?=some a:=⟨_,List.getElem?_eq_getElem hlt⟩
   have hla:(l.map qii).length=l.length:=List.length_map _;have hat:(l.map qii)[k]?=some (qii a):=by rw [List.getElem?_map,ha];rfl
   have hy0:=HY.out k #[.agg (qii a)] [] (k+1) H wr hj ⟨⟨_,hat,rfl⟩,rfl,rfl⟩ (by rw [List.append_nil];exact T.has.left);obtain ⟨fn,tmps,assign,body,hy,hR⟩:=Zl (n:=8) hy0;clear hy0;have TO:=TG.refl T.has.right;obtain ⟨u,y,⟨hdue,elv,esl,eno,rfl⟩,hp,_⟩:=HE.out.out ha;have TE:=((TO.permAt 2 rfl hp).sum (H':=[[cl tb 337 #[.slice av l.length cap]],gr,zy a.eb home a.e elv esl (.pointer eno),y]));obtain ⟨rb,cap',cur,hv,rfl,_,_,_,hcur⟩:=HR.out.open (by omega);cases hv
   have hcj:=hcur k (by omega);rw [List.getElem?_map,ha] at hcj;have r0:=(TE.cell 1 0 rfl k).trans hcj;obtain ⟨e1,e2,e3,e4,e5⟩:=Ce5 (TE.cell 2 0 rfl) 1 2 3 4 5;simp only [qdk,GE3,Option.map_some] at r0 e1 e2 e3 e4 e5;simp only [qii,Qm.cells] at hy;have HTT:=Vh T;have HRR:=Vh hR;clear hR T TO TE hcur hcj hj hp hat hla hdue;gi_wp2
   refine HRR.out.mono ?_
   rintro e W' ⟨H',hT',hj'⟩;have T2:=HTT.out.trans ((hT'.app (a':=H) (by simp)).frame HTT.out.has);have HT2:=Vh T2;have HJ:=Vh hj';clear hT' hj' T2 hy r0 e1 e2 e3 e4 e5;rcases HJ.out with ⟨rfl,hj'⟩ | ⟨rfl,hj'⟩
   ·have HJ2:=Vh hj'
    clear hj' HJ;gi_wp2
    go_roundw
    case rel=>exact ⟨k+1,H',by omega,by go_num,HJ2.out,HT2.out⟩
    case measure=>simp [intOf];omega
   ·have HJ2:=Vh hj'
    clear hj' HJ;gi_wp2
    refine bodyPost_ret (results_none rfl _ _ _) rfl ?_
    exact ⟨⟨_,rfl⟩,k+1,H',_,HT2.out,.inr HJ2.out⟩
  ·have:k=l.length:=by omega
   subst this;gi_wp2
   go_end0
   exact ⟨⟨_,rfl⟩,l.length,H,_,T,.inl ⟨(List.length_map _).symm,hj,rfl⟩⟩
end
section
open Go.RowKit Go.Shelf
def Yf (wb:Nat) (S:Qg) (g:List Blk):Prop:=∃ w:Xe,w.s=S∧Xg wb w (qb8 w) g
structure qak (S:Qg):Prop where
 sh:S.Sh
 now:S.now<16000000
 tot:qdg S≤999999
theorem qia {S:Qg} (h:S.Sh):S.adv.1.Sh∧S.adv.1.now=S.now+1∧qdg S.adv.1+S.adv.2.length=qdg S:=by
 have h0:({ S with now:=S.now+1 }:Qg).Sh:=⟨h.l4,h.l64⟩;have h1:=Qg.down_sh (min (Jc (S.now+1)) 3) h0;have h2:=Qg.down_now (min (Jc (S.now+1)) 3) { S with now:=S.now+1 };refine ⟨Qg.clear_sh h1 _ _,h2,?_⟩
 have h3:=qa0 h1 (l:=0) (by decide) (Y7 (Qg.down (min (Jc (S.now+1)) 3) { S with now:=S.now+1 }).now 0);have h4:=qjh (min (Jc (S.now+1)) 3) h0 (by omega)
 show qdg (Qg.clear _ _ _)+(Qg.slot _ _ _).length=_
 rw [h3,h4];rfl
section
variable {wb:Nat} {S:Qg} {g:List Blk}
theorem qow (hg:Yf wb S g):Qe prog 292 #[Qb wb] [g] (.int .u64 S.now):=by
 obtain ⟨W0,rfl,hg⟩:=hg;obtain ⟨C,vs,bb,gR,hC,hvl,rfl,hback⟩:=hg.open;refine GO fun w HT=>?_
 have c0:=((HT.out.sum (H':=[[cl wb 253 C],gR])).cell 0 0 rfl 0).trans hC.now;have hs:W0.s.now=W0.now:=rfl;rw [hs];clear hC hback hg hvl;go_enter func292,ntmps292
 go_wp2
 go_ret
 exact ⟨rfl,0,rfl⟩
def qdn (S:Qg) (t:Qm):Nat:=max t.dl.toNat (S.now+1)
def qmd (S:Qg) (t:Qm):qa5:=⟨qdn S t,{ t with dl:=qdn S t },qdn S t⟩
theorem qo6 (b rb lb:Nat) (hg:Yf wb S g) (ho:qak S) (t:Qm) (hs:0≤t.slot) (hd:0≤t.dl∧t.dl<18446744073709551616) :
 Qa prog 277 #[Qb b,.agg t.cells] [Xb b rb lb wb,g] fun e gs=>e=.returned (.tuple #[.int .u64 (qdn S t),.int .i64 0])∧∃ g',Yf wb (S.place (qmd S t)) g'∧gs=[Xb b rb lb wb,g']:=by
 have HNW:=Vh (qow hg);have hl:=qj2 t.dl S.now (by omega) (by have:=ho.now;omega) hd.1 hd.2
 have hmax:max t.dl ((S.now:Int)+1)=(qdn S t:Int):=by
  unfold qdn;have:=hd.1;omega
 rw [hmax] at hl;have HLT:=Vh hl;have hlt:S.now<qdn S t:=by unfold qdn;omega
 have hdn:qdn S t<18446744073709551616:=by unfold qdn;have:=hd.2;have:=ho.now;omega
 have hI:Qa prog 293 #[Qb wb,.int .u64 (qdn S t),.agg ({ t with dl:=qdn S t }:Qm).cells] [g] fun e gs=>∃ eb,e=.returned (.tuple #[Qb eb,.int .i64 0])∧∃ g',Yf wb (S.place (qmd S t)) g'∧gs=[g']:=by
  obtain ⟨W0,rfl,hg⟩:=hg;refine (qvb hg ho.sh ⟨by have:=ho.now;have e:W0.s.now=W0.now:=rfl;omega,by rw [qa9];exact ho.tot⟩ (qdn W0.s t) hdn hlt { t with dl:=qdn W0.s t }).mono ?_
  rintro e gs ⟨eb,he,w',g',h1,h2,rfl⟩;exact ⟨eb,he,g',⟨w',h2,h1⟩,rfl⟩
 have HI:=Vh hI;generalize S.place (qmd S t)=S1 at *;generalize qdn S t=d at *;clear hl hmax hlt hdn hI ho hg;have hsn:¬ t.slot<0:=by omega
 refine GO fun w HT=>?_
 have hf:=fun w=>(Jj (Qb rb) (Qb lb) (Qb wb) w).2.2
 simp only [Qm.cells] at HI ⊢;go_enter func277,ntmps277
 go_wp2_with fail
 refine Qa.run (Zy b rb lb wb) (HT.out.alloc (k:=w.heap.size) rfl 173 #[.int .u64 t.id,.int .i64 t.slot,.int .u64 t.gen,.int .u64 t.dl,.int .u64 t.per]) [0] ?_
 rintro e w1 gs ⟨rfl,rfl⟩ HT;simp only [PU] at HT;obtain ⟨a0,a1,a2,a3,a4⟩:=Ce5 (HT.out.cell 2 0 rfl) 0 1 2 3 4;have fa3:=HT.out.free 2 0 rfl 3;simp only [GE4] at a0 a1 a2 a3 a4;go_wp2_with fail
 refine Qc 4 (by kernel_rfl) (by kernel_rfl) ?_
 simp only [TD4]
 repeat (go_big_quiet_step ((first | (go_at_call 292;with_reducible exact Qe.quiet (HNW.out) HT.out _ [1] rfl rfl))))
 refine wpQuiet_nil (QE fun nq=>?_)
 have HT:=Vh (HT.out.drewN nq);go_wp2_with fail
 refine (Qa.use (HLT.out) (HT.out) [] rfl rfl).mono ?_
 rintro e w1 ⟨gs,⟨rfl,rfl⟩,Ta⟩;simp only [PU] at Ta;clear a0 a1 a2 a3 a4 fa3;have HT:=Vh Ta;clear Ta;go_wp2_with fail
 refine ⟨rfl,?_⟩
 obtain ⟨a0,a1,a2,a3,a4⟩:=Ce5 (HT.out.cell 2 0 rfl) 0 1 2 3 4;have fa3:=HT.out.free 2 0 rfl 3;simp only [GE4] at a0 a1 a2 a3 a4;go_wp2_with fail
 refine (Qa.use (HI.out) (HT.out.set 2 0 rfl 3 (.int .u64 d)) [1] rfl rfl).mono ?_
 rintro e w1 ⟨gs,⟨eb,rfl,g1,hg1,rfl⟩,Ta⟩;simp only [PU] at Ta;have HG:=Vh hg1;clear hg1 a0 a1 a2 a3 a4 fa3;have HT:=Vh Ta;clear Ta;go_wp2
 go_ret2
 exact ⟨_,⟨rfl,g1,HG.out,rfl⟩,HT.out.pick [0,1] rfl⟩
theorem qxi (v:Value) (hv:∃ a n c,v=.slice a n c):Qa prog 257 #[v] [] fun e gs=>∃ tb,e=.returned (.func (.func 275) #[] #[Qb tb])∧gs=[[cl tb 337 #[v]]]:=by
 obtain ⟨a,n,c,rfl⟩:=hv;refine GO fun w HT=>?_
 go_enter func257,ntmps257
 go_wp2
 go_ret
 exact ⟨_,⟨_,rfl,rfl⟩,HT.out.alloc rfl _ _⟩
def qd3 (l:List Qm):List Value:=qbi (l.map Qm.cells)
theorem qmb (b rb lb:Nat) (hg:Yf wb S g) (ho:qak S) :
 Qa prog 238 #[Qb b] [Xb b rb lb wb,g] fun e gs=>∃ v g' gr,e=.returned (.tuple #[v,.int .i64 0])∧Yf wb S.adv.1 g'∧Qu 173 5 v S.adv.2.length (qd3 (S.adv.2.map qa5.v)) gr∧gs=[Xb b rb lb wb,g',gr]:=by
 have hfa:=qia ho.sh
 have hA:Qa prog 255 #[Qb wb] [g] fun e gs=>∃ (v:Value) (l:List zt) (gr ge:List Blk) (g':List Blk),e=.returned (.tuple #[v,.int .i64 0])∧l.map zt.e=S.adv.2∧Qu 249 1 v l.length (l.map fun a=>Qb a.eb) gr∧J4 (qqm (.pointer none)) l ge∧Yf wb S.adv.1 g'∧gs=[g',gr,ge]:=by
  obtain ⟨W0,rfl,hg⟩:=hg;refine (qrp hg ho.sh ho.now (by rw [qa9];exact ho.tot)).mono ?_
  rintro e gs ⟨v,l,gr,ge,w',g',h1,h2,h3,h4,h5,h6,rfl⟩;exact ⟨v,l,gr,ge,g',h1,h2,h3,h4,⟨w',h6,h5⟩,rfl⟩
 have HA:=Vh hA;have hlen:S.adv.2.length≤1000000:=by have:=ho.tot;omega
 have HLE:=Vh hlen;generalize S.adv=R at *;obtain ⟨S1,es⟩:=R;simp only at HA HLE ⊢;clear hfa hA hlen ho hg;refine GO fun w HT=>?_
 have hf:=fun w=>(Jj (Qb rb) (Qb lb) (Qb wb) w).2.2
 go_enter func238,ntmps238
 go_wp2_with fail
 refine Qa.run (Zy b rb lb wb) (HT.out) [0] ?_
 rintro e w1 gs ⟨rfl,rfl⟩ HT;simp only [PU] at HT;go_wp2_with fail
 refine (Qa.use (HA.out) (HT.out) [1] rfl rfl).mono ?_
 rintro e w1 ⟨gs,⟨v,l,gr,ge,g1,rfl,hl,hr,he,hg1,rfl⟩,Ta⟩;simp only [PU] at Ta;have HG:=Vh hg1;have HR:=Vh hr;have HE:=Vh he;clear hg1 hr he;have HT:=Vh Ta;clear Ta;have hll:l.length=es.length:=by rw [← hl,List.length_map]
 have hn:l.length≤1000000:=by rw [hll];exact HLE.out
 have htv:l.map qii=(es.map qa5.v).map Qm.cells:=by rw [← hl];simp [List.map_map,Function.comp_def,qii]
 obtain ⟨av,cap,hv⟩:=Qu.val HR.out;subst hv
 have HC:=Vh (show ∀ tb,_ from fun tb=>qpt (enters_of func275 (by kernel_rfl) rfl) (qqg tb l (.slice av l.length cap) (.pointer none) gr ge HR.out HE.out hn) (fun c hc=>by
  obtain ⟨a,_,rfl⟩:=List.mem_map.1 hc
  exact ⟨_,_,_,_,_,rfl⟩) (by rw [List.length_map];exact hn))
 have HTV:=Vh (And.intro hll htv);clear hll htv hn;go_wp2_with fail
 refine Qa.run (qxi _ ⟨_,_,_,rfl⟩) (HT.out) [] ?_
 rintro e w1 gs ⟨tb,rfl,rfl⟩ HT;simp only [PU] at HT;go_wp2_with fail
 refine (Qa.use (HC.out tb) (HT.out) [4,2,3] rfl rfl).mono ?_
 rintro e w1 ⟨gs,⟨v2,g2,rfl,hr2,rfl⟩,Ta⟩;simp only [PU] at Ta;have HR2:=Vh hr2;clear hr2;have HT:=Vh Ta;clear Ta
 have hrf:Qu 173 5 v2 es.length (qd3 (es.map qa5.v)) g2:=by
  have:=HR2.out;rw [List.length_map,HTV.out.1,HTV.out.2] at this;exact this
 obtain ⟨a2,cap2,hv⟩:=Qu.val hrf;subst hv;have HRF:=Vh hrf;clear hrf hl;go_wp2
 go_ret2
 exact ⟨_,⟨_,g1,g2,rfl,HG.out,HRF.out,rfl⟩,HT.out.pick [0,1,5] rfl⟩
end
end
end Go.Proofs.YtikpbibeagbccaaGreat
