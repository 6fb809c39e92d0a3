import Derived.Test.YtblhfbcodbjgcaaGreatSV26
import Derived.Test.YtblhfbcodbjgcaaGreatSV21
import Derived.Test.YtblhfbcodbjgcaaGreatSV5
import Derived.Test.YtblhfbcodbjgcaaGreatSV23
import Derived.Test.YtblhfbcodbjgcaaGreatSV15
namespace Go.Proofs.YtblhfbcodbjgcaaGreat
set_option linter.unusedVariables false
set_option linter.unusedSimpArgs false
section
open Go.RowKit Go.Shelf
def totW (w:WheelA):Nat:=(w.lv.map totA).sum+w.by_.length
structure whC (vs:List Nat) (bb:Nat) (now n:Nat) (C:Array Value):Prop where
 size:C.size=7
 now:C[0]?=some (.int .u64 now)
 lv:∀ (i:Nat) (v:Nat),vs[i]?=some v→C[1+i]?=some (ptr' v)
 by_:C[5]?=some (ptr' bb)
 n:C[6]?=some (.int .i64 n)
def isWheelA (wb:Nat) (w:WheelA) (n:Nat) (g:List Blk):Prop :=
 ∃ C vs bb bh gV gB gE,whC vs bb w.now n C∧vs.length=4∧w.lv.length=4∧FamP (fun (z:Nat × LvA)=>isLevE z.1 (ptr' wb) z.2) (vs.zip w.lv) gV∧isListE bb bh (w.by_.map EntA.nd) gB∧FamP (entP (ptr' wb)) w.by_ gE ∧
   g=[cl wb 244 C]++(gV++(gB++gE))
def lvl (now:Nat) (due:Nat):Nat:=(max 0 (apartT due now)).toNat
def WheelA.place (w:WheelA) (a:EntA):WheelA :=
 if 4≤lvl w.now a.e.due then { w with by_:=w.by_++[a] }
 else { w with lv:=w.lv.modify (lvl w.now a.e.due) (fun l=>l.modify (digT a.e.due (lvl w.now a.e.due)) (·++[a])) }
structure WhOk (w:WheelA):Prop where
 now:w.now<16777215
 tot:totW w≤999999
theorem modify_set {α:Type} {l:List α} {k:Nat} {a:α} (h:l[k]?=some a) (f:α→α):l.modify k f=l.set k (f a):=by
 apply List.ext_getElem?
 intro i
 rw [List.getElem?_modify,List.getElem?_set]
 by_cases hi:k=i
 ·subst hi
  have:=(List.getElem?_eq_some_iff.1 h)
  simp [h,this.1,this.2]
 ·simp [hi]
theorem dig_lt (t l:Nat):digT t l<64:=Nat.mod_lt _ (by decide)
theorem sum_ge {l:List Nat} {k a:Nat} (h:l[k]?=some a):a≤l.sum:=by
 induction l generalizing k with
 | nil=>simp at h
 | cons b l ih =>
   cases k with
   | zero=>simp at h;subst h;simp
   | succ k=>simp at h;have:=ih h;simp;omega
theorem totW_lv {w:WheelA} {k:Nat} {l:LvA} (h:w.lv[k]?=some l):totA l≤totW w:=by
 have:=sum_ge (l:=w.lv.map totA) (k:=k) (a:=totA l) (by rw [List.getElem?_map,h];rfl)
 unfold totW;omega
theorem lv_at {w:WheelA} (h:w.lv.length=4) {k:Nat} (hk:k<4):∃ l,w.lv[k]?=some l:=⟨_,List.getElem?_eq_getElem (by omega)⟩
section
variable {wb:Nat} {w:WheelA} {n:Nat} {g:List Blk}
set_option maxRecDepth 100000 in
set_option maxHeartbeats 4000000 in
theorem place_g (hg:isWheelA wb w n g) (ho:WhOk w) (a:EntA) (ge:List Blk) (ha:entP (ptr' wb) a ge) :
 DoesG Tryz.prog 304 #[ptr' wb,ptr' a.eb] [g,ge] fun e gs=>e=.returned (.tuple #[])∧∃ nb g',isWheelA wb (w.place { a with nb:=nb }) n g'∧gs=[g']:=by
 obtain ⟨C,vs,bb,bh,gV,gB,gE,hC,hvl,hll,hV,hB,hE,rfl⟩:=hg
 obtain ⟨hd,lv,sl,nd,rfl⟩:=ha
 have HDU:=Lib.hid hd
 obtain ⟨lo,hlo⟩:∃ lo,lo=lvl w.now a.e.due:=⟨_,rfl⟩
 have hap:max 0 (apartT a.e.due w.now)=(lo:Int):=by rw [hlo];unfold lvl;omega
 have HAP:=Lib.hid (timesApart_g a.e.due w.now hd (by have:=ho.now;omega))
 obtain ⟨ap,hape⟩:∃ ap,ap=apartT a.e.due w.now:=⟨_,rfl⟩
 rw [← hape] at hap HAP
 have HBY:=Lib.hid (show w.by_.length≤1000000 from by have:=ho.tot;unfold totW at this;omega)
 by_cases h4:4≤lo
 ·have HLO:=Lib.hid hlo
  have hpl:∀ nb,w.place { a with nb:=nb }={ w with by_:=w.by_++[{ a with nb:=nb }] }:=fun nb=>if_pos (by rw [← hlo];exact h4)
  simp only [hpl]
  have hge:decide ((lo:Int) ≥ 4)=true:=decide_eq_true (by omega)
  intro w hw
  have T0:=TG.refl hw
  have HT:=Lib.hid T0
  clear hw T0
  have HT:=Lib.hid (HT.out.sum (H':=[[cl wb 244 C],gV,gB,gE,entB a.eb (ptr' wb) a.e lv sl (.pointer nd)]))
  have HC:=Lib.hid hC
  have HV:=Lib.hid hV
  have HB:=Lib.hid hB
  have HE:=Lib.hid hE
  have HL4:=Lib.hid (And.intro hvl hll)
  have c0:=(HT.out.cell 0 0 rfl 0).trans hC.now
  have e6:=HT.out.cell 4 0 rfl 6
  have e8:=HT.out.cell 4 0 rfl 8
  have fe8:=HT.out.free 4 0 rfl 8
  have e9:=HT.out.cell 4 0 rfl 9
  have fe9:=HT.out.free 4 0 rfl 9
  have e10:=HT.out.cell 4 0 rfl 10
  have fe10:=HT.out.free 4 0 rfl 10
  simp only [entC,GE3] at e6 e8 e9 e10
  clear hV hB hE hC ho hlo hpl hd hape hvl hll
  go_enter Tryz.func304,Tryz.ntmps304
  go_wp2_with fail
  refine wp_region_mix1 13 (by kernel_rfl) (by kernel_rfl) ?_
  simp only [TD4]
  repeat (go_big_quiet_step ((first | (go_at_call 316;with_reducible exact ReadsG.quiet (HAP.out) HT.out _ [] rfl rfl))))
  refine wpQuiet_nil ?_
  intro _ hw'
  obtain ⟨nq,hw''⟩:=hw'
  subst hw''
  have HT:=Lib.hid (HT.out.drewN nq)
  go_wp2_with fail
  refine ⟨rfl,?_⟩
  have HT:=Lib.hid ((HT.out.set 4 0 rfl 8 (.int .i64 lo)).eq (H':=[[cl wb 244 C],gV,gB,gE,entB a.eb (ptr' wb) a.e lo sl (.pointer nd)]) rfl)
  clear c0 e6 e8 fe8 e9 fe9 e10 fe10
  generalize World.setCell _ _ _=w2 at HT ⊢
  have e8:=HT.out.cell 4 0 rfl 8
  have e10:=HT.out.cell 4 0 rfl 10
  have fe10:=HT.out.free 4 0 rfl 10
  simp only [entC,GE3] at e8 e10
  have lte:=HT.out.lt 4 0 rfl
  simp only [] at lte
  go_wp2_with fail
  obtain ⟨nb,hnb⟩:∃ nb,nb=w2.heap.size:=⟨_,rfl⟩
  have HT:=Lib.hid (((HT.out.set 4 0 rfl 10 (ptr' nb)).alloc (k:=nb) (by rw [hnb];simp) 372 #[ptr' a.eb,.pointer none,.pointer none,.pointer none]).eq (H':=[[cl wb 244 C],gV,gB,gE,entB a.eb (ptr' wb) a.e lo sl (ptr' nb),[cl nb 372 #[ptr' a.eb,.pointer none,.pointer none,.pointer none]]]) rfl)
  rw [← hnb]
  clear e8 e10 fe10 lte
  generalize World.alloc _ _=w3 at HT ⊢
  clear hnb
  have e10:=HT.out.cell 4 0 rfl 10
  simp only [entC,GE3] at e10
  have c5:=(HT.out.cell 0 0 rfl 5).trans HC.out.by_
  refine wp_region_mix1 8 (by kernel_rfl) (by kernel_rfl) ?_
  simp only [TD4]
  repeat (go_big_quiet_step ((fail)))
  refine wpQuiet_nil ?_
  intro _ hw'
  obtain ⟨nq,hw''⟩:=hw'
  subst hw''
  have HT:=Lib.hid (HT.out.drewN nq)
  go_wp2_with fail
  refine (DoesG.use (listPutE_g HB.out (by have:=HBY.out;simp only [List.length_map];omega) nb (ptr' a.eb) (.pointer none) (.pointer none)) (HT.out) [2,5] rfl rfl).mono ?_
  rintro e w1 ⟨gs,⟨rfl,g1,hg1,rfl⟩,Ta⟩
  simp only [PU] at Ta
  have HG1:=Lib.hid hg1
  clear hg1 e10 c5
  have HT:=Lib.hid Ta
  clear Ta
  go_wp2_with fail
  refine ⟨rfl,?_⟩
  go_wp2
  exact bodyPost_ret (v:=.tuple #[]) (results_none rfl _ _ _) rfl ⟨_,⟨rfl,nb,_,⟨C,vs,bb,bh,gV,g1,gE++entB a.eb (ptr' wb) a.e lo sl (ptr' nb),HC.out,HL4.out.1,HL4.out.2,HV.out,(by simpa [EntA.nd] using HG1.out),FamP.snoc HE.out ⟨HDU.out,_,_,_,rfl⟩,rfl⟩,rfl⟩,(HT.out.pick [0,1,2,3,4] rfl).sum⟩
 ·have h:lo=0∨lo=1∨lo=2∨lo=3:=by omega
  obtain ⟨ls,hls⟩:=lv_at hll (k:=lo) (by omega)
  obtain ⟨vb,hvb⟩:∃ vb,vs[lo]?=some vb:=⟨_,List.getElem?_eq_getElem (by omega)⟩
  have hz:(vs.zip w.lv)[lo]?=some (vb,ls):=zip_at hvb hls
  obtain ⟨u,y,hu,hp,hback⟩:=hV.out hz
  have hta:totA ls≤1000000:=by have:=totW_lv hls;have:=ho.tot;omega
  simp only at hu
  obtain ⟨sl0,hsl⟩:∃ s,ls[digT a.e.due lo]?=some s:=⟨_,List.getElem?_eq_getElem (by rw [hu.len];exact dig_lt _ _)⟩
  clear h4
  rcases h with rfl | rfl | rfl | rfl
  ·have HLO:=Lib.hid hlo
   have hpl:∀ nb,w.place { a with nb:=nb }={ w with lv:=w.lv.set 0 (ls.set (digT a.e.due 0) (sl0++[{ a with nb:=nb }])) }:=fun nb=>by
    unfold WheelA.place
    rw [← hlo,if_neg (by decide),modify_set hls,modify_set hsl]
   simp only [hpl]
   have HDG:=Lib.hid (show ReadsG Tryz.prog 307 #[.int .u64 a.e.due,.int .i64 0] [] (.int .i64 (digT a.e.due 0)) from timesDigit_g a.e.due 0 hd (by decide))
   have hdl:=dig_lt a.e.due 0
   intro w hw
   have T0:=TG.refl hw
   have HT:=Lib.hid T0
   clear hw T0
   have HT:=Lib.hid (((HT.out.sum (H':=[[cl wb 244 C],gV,gB,gE,entB a.eb (ptr' wb) a.e lv sl (.pointer nd)])).permAt 1 rfl hp).sum (H':=[[cl wb 244 C],u,gB,gE,entB a.eb (ptr' wb) a.e lv sl (.pointer nd),y]))
   have HC:=Lib.hid hC
   have HU:=Lib.hid hu
   have HBK:=Lib.hid hback
   have HB:=Lib.hid hB
   have HE:=Lib.hid hE
   have HVB:=Lib.hid (hC.lv 0 vb hvb)
   have HSL:=Lib.hid hsl
   have HTA:=Lib.hid (show totA ls≤1000000 from hta)
   have HVL:=Lib.hid (And.intro hvl (And.intro hll hvb))
   generalize digT a.e.due 0=dg at *
   have c0:=(HT.out.cell 0 0 rfl 0).trans hC.now
   have e6:=HT.out.cell 4 0 rfl 6
   have e8:=HT.out.cell 4 0 rfl 8
   have fe8:=HT.out.free 4 0 rfl 8
   have e9:=HT.out.cell 4 0 rfl 9
   have fe9:=HT.out.free 4 0 rfl 9
   have e10:=HT.out.cell 4 0 rfl 10
   have fe10:=HT.out.free 4 0 rfl 10
   simp only [entC,GE3] at e6 e8 e9 e10
   clear hu hB hE hC ho hlo hpl hd hape hV hp hback hls hsl hta hvb hvl hll
   go_enter Tryz.func304,Tryz.ntmps304
   go_wp2_with fail
   refine wp_region_mix1 13 (by kernel_rfl) (by kernel_rfl) ?_
   simp only [TD4]
   repeat (go_big_quiet_step ((first | (go_at_call 316;with_reducible exact ReadsG.quiet (HAP.out) HT.out _ [] rfl rfl))))
   refine wpQuiet_nil ?_
   intro _ hw'
   obtain ⟨nq,hw''⟩:=hw'
   subst hw''
   have HT:=Lib.hid (HT.out.drewN nq)
   go_wp2_with fail
   refine ⟨rfl,?_⟩
   have HT:=Lib.hid ((HT.out.set 4 0 rfl 8 (.int .i64 0)).eq (H':=[[cl wb 244 C],u,gB,gE,entB a.eb (ptr' wb) a.e 0 sl (.pointer nd),y]) rfl)
   clear c0 e6 e8 fe8 e9 fe9 e10 fe10
   generalize World.setCell _ _ _=w2 at HT ⊢
   have e8:=HT.out.cell 4 0 rfl 8
   have e10:=HT.out.cell 4 0 rfl 10
   have fe10:=HT.out.free 4 0 rfl 10
   simp only [entC,GE3] at e8 e10
   have lte:=HT.out.lt 4 0 rfl
   simp only [] at lte
   go_wp2_with fail
   obtain ⟨nb,hnb⟩:∃ nb,nb=w2.heap.size:=⟨_,rfl⟩
   have HT:=Lib.hid (((HT.out.set 4 0 rfl 10 (ptr' nb)).alloc (k:=nb) (by rw [hnb];simp) 372 #[ptr' a.eb,.pointer none,.pointer none,.pointer none]).eq (H':=[[cl wb 244 C],u,gB,gE,entB a.eb (ptr' wb) a.e 0 sl (ptr' nb),y,[cl nb 372 #[ptr' a.eb,.pointer none,.pointer none,.pointer none]]]) rfl)
   rw [← hnb]
   clear e8 e10 fe10 lte
   generalize World.alloc _ _=w3 at HT ⊢
   clear hnb
   have e6:=HT.out.cell 4 0 rfl 6
   have e8:=HT.out.cell 4 0 rfl 8
   have e9:=HT.out.cell 4 0 rfl 9
   have fe9:=HT.out.free 4 0 rfl 9
   simp only [entC,GE3] at e6 e8 e9
   refine wp_region_mix1 12 (by kernel_rfl) (by kernel_rfl) ?_
   simp only [TD4]
   repeat (go_big_quiet_step ((first | (go_at_call 307;with_reducible exact ReadsG.quiet (HDG.out) HT.out _ [] rfl rfl))))
   refine wpQuiet_nil ?_
   intro _ hw'
   obtain ⟨nq,hw''⟩:=hw'
   subst hw''
   have HT:=Lib.hid (HT.out.drewN nq)
   go_wp2_with fail
   refine ⟨rfl,?_⟩
   have HT:=Lib.hid ((HT.out.set 4 0 rfl 9 (.int .i64 dg)).eq (H':=[[cl wb 244 C],u,gB,gE,entB a.eb (ptr' wb) a.e 0 dg (ptr' nb),y,[cl nb 372 #[ptr' a.eb,.pointer none,.pointer none,.pointer none]]]) rfl)
   clear e6 e8 e9 fe9
   generalize World.setCell _ _ _=w4 at HT ⊢
   have e8:=HT.out.cell 4 0 rfl 8
   have e9:=HT.out.cell 4 0 rfl 9
   have e10:=HT.out.cell 4 0 rfl 10
   simp only [entC,GE3] at e8 e9 e10
   have c5:=(HT.out.cell 0 0 rfl (1+0)).trans HVB.out
   go_wp2_with fail
   refine wp_region_mix1 17 (by kernel_rfl) (by kernel_rfl) ?_
   simp only [TD4]
   repeat (go_big_quiet_step ((fail)))
   refine wpQuiet_nil ?_
   intro _ hw'
   obtain ⟨nq,hw''⟩:=hw'
   subst hw''
   have HT:=Lib.hid (HT.out.drewN nq)
   go_wp2_with fail
   refine (DoesG.use (levPutE HU.out HSL.out HTA.out { a with nb:=nb } (entB a.eb (ptr' wb) a.e 0 dg (ptr' nb)) ⟨HDU.out,_,_,_,rfl⟩ (.pointer none) (.pointer none)) (HT.out) [1,4,6] rfl rfl).mono ?_
   rintro e w1 ⟨gs,⟨rfl,g1,hg1,rfl⟩,Ta⟩
   simp only [PU] at Ta
   have HG1:=Lib.hid hg1
   clear hg1 e8 e9 e10 c5
   have HT:=Lib.hid Ta
   clear Ta
   go_wp2_with fail
   refine ⟨rfl,?_⟩
   go_wp2
   obtain ⟨gV',hV',hp'⟩:=HBK.out (vb,ls.set dg (sl0++[{ a with nb:=nb }])) g1 HG1.out
   exact bodyPost_end (results_none rfl _ _ _) rfl ⟨_,⟨rfl,nb,_,⟨C,vs,bb,bh,gV',gB,gE,HC.out,HVL.out.1,(by rw [List.length_set];exact HVL.out.2.1),(by rw [← zip_set 0 HVL.out.2.2];exact hV'),HB.out,HE.out,rfl⟩,rfl⟩,(((HT.out.sum (H':=[[cl wb 244 C],g1++y,gB,gE])).permAt 1 rfl hp').sum)⟩
  ·have HLO:=Lib.hid hlo
   have hpl:∀ nb,w.place { a with nb:=nb }={ w with lv:=w.lv.set 1 (ls.set (digT a.e.due 1) (sl0++[{ a with nb:=nb }])) }:=fun nb=>by
    unfold WheelA.place
    rw [← hlo,if_neg (by decide),modify_set hls,modify_set hsl]
   simp only [hpl]
   have HDG:=Lib.hid (show ReadsG Tryz.prog 307 #[.int .u64 a.e.due,.int .i64 1] [] (.int .i64 (digT a.e.due 1)) from timesDigit_g a.e.due 1 hd (by decide))
   have hdl:=dig_lt a.e.due 1
   intro w hw
   have T0:=TG.refl hw
   have HT:=Lib.hid T0
   clear hw T0
   have HT:=Lib.hid (((HT.out.sum (H':=[[cl wb 244 C],gV,gB,gE,entB a.eb (ptr' wb) a.e lv sl (.pointer nd)])).permAt 1 rfl hp).sum (H':=[[cl wb 244 C],u,gB,gE,entB a.eb (ptr' wb) a.e lv sl (.pointer nd),y]))
   have HC:=Lib.hid hC
   have HU:=Lib.hid hu
   have HBK:=Lib.hid hback
   have HB:=Lib.hid hB
   have HE:=Lib.hid hE
   have HVB:=Lib.hid (hC.lv 1 vb hvb)
   have HSL:=Lib.hid hsl
   have HTA:=Lib.hid (show totA ls≤1000000 from hta)
   have HVL:=Lib.hid (And.intro hvl (And.intro hll hvb))
   generalize digT a.e.due 1=dg at *
   have c0:=(HT.out.cell 0 0 rfl 0).trans hC.now
   have e6:=HT.out.cell 4 0 rfl 6
   have e8:=HT.out.cell 4 0 rfl 8
   have fe8:=HT.out.free 4 0 rfl 8
   have e9:=HT.out.cell 4 0 rfl 9
   have fe9:=HT.out.free 4 0 rfl 9
   have e10:=HT.out.cell 4 0 rfl 10
   have fe10:=HT.out.free 4 0 rfl 10
   simp only [entC,GE3] at e6 e8 e9 e10
   clear hu hB hE hC ho hlo hpl hd hape hV hp hback hls hsl hta hvb hvl hll
   go_enter Tryz.func304,Tryz.ntmps304
   go_wp2_with fail
   refine wp_region_mix1 13 (by kernel_rfl) (by kernel_rfl) ?_
   simp only [TD4]
   repeat (go_big_quiet_step ((first | (go_at_call 316;with_reducible exact ReadsG.quiet (HAP.out) HT.out _ [] rfl rfl))))
   refine wpQuiet_nil ?_
   intro _ hw'
   obtain ⟨nq,hw''⟩:=hw'
   subst hw''
   have HT:=Lib.hid (HT.out.drewN nq)
   go_wp2_with fail
   refine ⟨rfl,?_⟩
   have HT:=Lib.hid ((HT.out.set 4 0 rfl 8 (.int .i64 1)).eq (H':=[[cl wb 244 C],u,gB,gE,entB a.eb (ptr' wb) a.e 1 sl (.pointer nd),y]) rfl)
   clear c0 e6 e8 fe8 e9 fe9 e10 fe10
   generalize World.setCell _ _ _=w2 at HT ⊢
   have e8:=HT.out.cell 4 0 rfl 8
   have e10:=HT.out.cell 4 0 rfl 10
   have fe10:=HT.out.free 4 0 rfl 10
   simp only [entC,GE3] at e8 e10
   have lte:=HT.out.lt 4 0 rfl
   simp only [] at lte
   go_wp2_with fail
   obtain ⟨nb,hnb⟩:∃ nb,nb=w2.heap.size:=⟨_,rfl⟩
   have HT:=Lib.hid (((HT.out.set 4 0 rfl 10 (ptr' nb)).alloc (k:=nb) (by rw [hnb];simp) 372 #[ptr' a.eb,.pointer none,.pointer none,.pointer none]).eq (H':=[[cl wb 244 C],u,gB,gE,entB a.eb (ptr' wb) a.e 1 sl (ptr' nb),y,[cl nb 372 #[ptr' a.eb,.pointer none,.pointer none,.pointer none]]]) rfl)
   rw [← hnb]
   clear e8 e10 fe10 lte
   generalize World.alloc _ _=w3 at HT ⊢
   clear hnb
   have e6:=HT.out.cell 4 0 rfl 6
   have e8:=HT.out.cell 4 0 rfl 8
   have e9:=HT.out.cell 4 0 rfl 9
   have fe9:=HT.out.free 4 0 rfl 9
   simp only [entC,GE3] at e6 e8 e9
   refine wp_region_mix1 12 (by kernel_rfl) (by kernel_rfl) ?_
   simp only [TD4]
   repeat (go_big_quiet_step ((first | (go_at_call 307;with_reducible exact ReadsG.quiet (HDG.out) HT.out _ [] rfl rfl))))
   refine wpQuiet_nil ?_
   intro _ hw'
   obtain ⟨nq,hw''⟩:=hw'
   subst hw''
   have HT:=Lib.hid (HT.out.drewN nq)
   go_wp2_with fail
   refine ⟨rfl,?_⟩
   have HT:=Lib.hid ((HT.out.set 4 0 rfl 9 (.int .i64 dg)).eq (H':=[[cl wb 244 C],u,gB,gE,entB a.eb (ptr' wb) a.e 1 dg (ptr' nb),y,[cl nb 372 #[ptr' a.eb,.pointer none,.pointer none,.pointer none]]]) rfl)
   clear e6 e8 e9 fe9
   generalize World.setCell _ _ _=w4 at HT ⊢
   have e8:=HT.out.cell 4 0 rfl 8
   have e9:=HT.out.cell 4 0 rfl 9
   have e10:=HT.out.cell 4 0 rfl 10
   simp only [entC,GE3] at e8 e9 e10
   have c5:=(HT.out.cell 0 0 rfl (1+1)).trans HVB.out
   go_wp2_with fail
   refine wp_region_mix1 17 (by kernel_rfl) (by kernel_rfl) ?_
   simp only [TD4]
   repeat (go_big_quiet_step ((fail)))
   refine wpQuiet_nil ?_
   intro _ hw'
   obtain ⟨nq,hw''⟩:=hw'
   subst hw''
   have HT:=Lib.hid (HT.out.drewN nq)
   go_wp2_with fail
   refine (DoesG.use (levPutE HU.out HSL.out HTA.out { a with nb:=nb } (entB a.eb (ptr' wb) a.e 1 dg (ptr' nb)) ⟨HDU.out,_,_,_,rfl⟩ (.pointer none) (.pointer none)) (HT.out) [1,4,6] rfl rfl).mono ?_
   rintro e w1 ⟨gs,⟨rfl,g1,hg1,rfl⟩,Ta⟩
   simp only [PU] at Ta
   have HG1:=Lib.hid hg1
   clear hg1 e8 e9 e10 c5
   have HT:=Lib.hid Ta
   clear Ta
   go_wp2_with fail
   refine ⟨rfl,?_⟩
   go_wp2
   obtain ⟨gV',hV',hp'⟩:=HBK.out (vb,ls.set dg (sl0++[{ a with nb:=nb }])) g1 HG1.out
   exact bodyPost_end (results_none rfl _ _ _) rfl ⟨_,⟨rfl,nb,_,⟨C,vs,bb,bh,gV',gB,gE,HC.out,HVL.out.1,(by rw [List.length_set];exact HVL.out.2.1),(by rw [← zip_set 1 HVL.out.2.2];exact hV'),HB.out,HE.out,rfl⟩,rfl⟩,(((HT.out.sum (H':=[[cl wb 244 C],g1++y,gB,gE])).permAt 1 rfl hp').sum)⟩
  ·have HLO:=Lib.hid hlo
   have hpl:∀ nb,w.place { a with nb:=nb }={ w with lv:=w.lv.set 2 (ls.set (digT a.e.due 2) (sl0++[{ a with nb:=nb }])) }:=fun nb=>by
    unfold WheelA.place
    rw [← hlo,if_neg (by decide),modify_set hls,modify_set hsl]
   simp only [hpl]
   have HDG:=Lib.hid (show ReadsG Tryz.prog 307 #[.int .u64 a.e.due,.int .i64 2] [] (.int .i64 (digT a.e.due 2)) from timesDigit_g a.e.due 2 hd (by decide))
   have hdl:=dig_lt a.e.due 2
   intro w hw
   have T0:=TG.refl hw
   have HT:=Lib.hid T0
   clear hw T0
   have HT:=Lib.hid (((HT.out.sum (H':=[[cl wb 244 C],gV,gB,gE,entB a.eb (ptr' wb) a.e lv sl (.pointer nd)])).permAt 1 rfl hp).sum (H':=[[cl wb 244 C],u,gB,gE,entB a.eb (ptr' wb) a.e lv sl (.pointer nd),y]))
   have HC:=Lib.hid hC
   have HU:=Lib.hid hu
   have HBK:=Lib.hid hback
   have HB:=Lib.hid hB
   have HE:=Lib.hid hE
   have HVB:=Lib.hid (hC.lv 2 vb hvb)
   have HSL:=Lib.hid hsl
   have HTA:=Lib.hid (show totA ls≤1000000 from hta)
   have HVL:=Lib.hid (And.intro hvl (And.intro hll hvb))
   generalize digT a.e.due 2=dg at *
   have c0:=(HT.out.cell 0 0 rfl 0).trans hC.now
   have e6:=HT.out.cell 4 0 rfl 6
   have e8:=HT.out.cell 4 0 rfl 8
   have fe8:=HT.out.free 4 0 rfl 8
   have e9:=HT.out.cell 4 0 rfl 9
   have fe9:=HT.out.free 4 0 rfl 9
   have e10:=HT.out.cell 4 0 rfl 10
   have fe10:=HT.out.free 4 0 rfl 10
   simp only [entC,GE3] at e6 e8 e9 e10
   clear hu hB hE hC ho hlo hpl hd hape hV hp hback hls hsl hta hvb hvl hll
   go_enter Tryz.func304,Tryz.ntmps304
   go_wp2_with fail
   refine wp_region_mix1 13 (by kernel_rfl) (by kernel_rfl) ?_
   simp only [TD4]
   repeat (go_big_quiet_step ((first | (go_at_call 316;with_reducible exact ReadsG.quiet (HAP.out) HT.out _ [] rfl rfl))))
   refine wpQuiet_nil ?_
   intro _ hw'
   obtain ⟨nq,hw''⟩:=hw'
   subst hw''
   have HT:=Lib.hid (HT.out.drewN nq)
   go_wp2_with fail
   refine ⟨rfl,?_⟩
   have HT:=Lib.hid ((HT.out.set 4 0 rfl 8 (.int .i64 2)).eq (H':=[[cl wb 244 C],u,gB,gE,entB a.eb (ptr' wb) a.e 2 sl (.pointer nd),y]) rfl)
   clear c0 e6 e8 fe8 e9 fe9 e10 fe10
   generalize World.setCell _ _ _=w2 at HT ⊢
   have e8:=HT.out.cell 4 0 rfl 8
   have e10:=HT.out.cell 4 0 rfl 10
   have fe10:=HT.out.free 4 0 rfl 10
   simp only [entC,GE3] at e8 e10
   have lte:=HT.out.lt 4 0 rfl
   simp only [] at lte
   go_wp2_with fail
   obtain ⟨nb,hnb⟩:∃ nb,nb=w2.heap.size:=⟨_,rfl⟩
   have HT:=Lib.hid (((HT.out.set 4 0 rfl 10 (ptr' nb)).alloc (k:=nb) (by rw [hnb];simp) 372 #[ptr' a.eb,.pointer none,.pointer none,.pointer none]).eq (H':=[[cl wb 244 C],u,gB,gE,entB a.eb (ptr' wb) a.e 2 sl (ptr' nb),y,[cl nb 372 #[ptr' a.eb,.pointer none,.pointer none,.pointer none]]]) rfl)
   rw [← hnb]
   clear e8 e10 fe10 lte
   generalize World.alloc _ _=w3 at HT ⊢
   clear hnb
   have e6:=HT.out.cell 4 0 rfl 6
   have e8:=HT.out.cell 4 0 rfl 8
   have e9:=HT.out.cell 4 0 rfl 9
   have fe9:=HT.out.free 4 0 rfl 9
   simp only [entC,GE3] at e6 e8 e9
   refine wp_region_mix1 12 (by kernel_rfl) (by kernel_rfl) ?_
   simp only [TD4]
   repeat (go_big_quiet_step ((first | (go_at_call 307;with_reducible exact ReadsG.quiet (HDG.out) HT.out _ [] rfl rfl))))
   refine wpQuiet_nil ?_
   intro _ hw'
   obtain ⟨nq,hw''⟩:=hw'
   subst hw''
   have HT:=Lib.hid (HT.out.drewN nq)
   go_wp2_with fail
   refine ⟨rfl,?_⟩
   have HT:=Lib.hid ((HT.out.set 4 0 rfl 9 (.int .i64 dg)).eq (H':=[[cl wb 244 C],u,gB,gE,entB a.eb (ptr' wb) a.e 2 dg (ptr' nb),y,[cl nb 372 #[ptr' a.eb,.pointer none,.pointer none,.pointer none]]]) rfl)
   clear e6 e8 e9 fe9
   generalize World.setCell _ _ _=w4 at HT ⊢
   have e8:=HT.out.cell 4 0 rfl 8
   have e9:=HT.out.cell 4 0 rfl 9
   have e10:=HT.out.cell 4 0 rfl 10
   simp only [entC,GE3] at e8 e9 e10
   have c5:=(HT.out.cell 0 0 rfl (1+2)).trans HVB.out
   go_wp2_with fail
   refine wp_region_mix1 17 (by kernel_rfl) (by kernel_rfl) ?_
   simp only [TD4]
   repeat (go_big_quiet_step ((fail)))
   refine wpQuiet_nil ?_
   intro _ hw'
   obtain ⟨nq,hw''⟩:=hw'
   subst hw''
   have HT:=Lib.hid (HT.out.drewN nq)
   go_wp2_with fail
   refine (DoesG.use (levPutE HU.out HSL.out HTA.out { a with nb:=nb } (entB a.eb (ptr' wb) a.e 2 dg (ptr' nb)) ⟨HDU.out,_,_,_,rfl⟩ (.pointer none) (.pointer none)) (HT.out) [1,4,6] rfl rfl).mono ?_
   rintro e w1 ⟨gs,⟨rfl,g1,hg1,rfl⟩,Ta⟩
   simp only [PU] at Ta
   have HG1:=Lib.hid hg1
   clear hg1 e8 e9 e10 c5
   have HT:=Lib.hid Ta
   clear Ta
   go_wp2_with fail
   refine ⟨rfl,?_⟩
   go_wp2
   obtain ⟨gV',hV',hp'⟩:=HBK.out (vb,ls.set dg (sl0++[{ a with nb:=nb }])) g1 HG1.out
   exact bodyPost_end (results_none rfl _ _ _) rfl ⟨_,⟨rfl,nb,_,⟨C,vs,bb,bh,gV',gB,gE,HC.out,HVL.out.1,(by rw [List.length_set];exact HVL.out.2.1),(by rw [← zip_set 2 HVL.out.2.2];exact hV'),HB.out,HE.out,rfl⟩,rfl⟩,(((HT.out.sum (H':=[[cl wb 244 C],g1++y,gB,gE])).permAt 1 rfl hp').sum)⟩
  ·have HLO:=Lib.hid hlo
   have hpl:∀ nb,w.place { a with nb:=nb }={ w with lv:=w.lv.set 3 (ls.set (digT a.e.due 3) (sl0++[{ a with nb:=nb }])) }:=fun nb=>by
    unfold WheelA.place
    rw [← hlo,if_neg (by decide),modify_set hls,modify_set hsl]
   simp only [hpl]
   have HDG:=Lib.hid (show ReadsG Tryz.prog 307 #[.int .u64 a.e.due,.int .i64 3] [] (.int .i64 (digT a.e.due 3)) from timesDigit_g a.e.due 3 hd (by decide))
   have hdl:=dig_lt a.e.due 3
   intro w hw
   have T0:=TG.refl hw
   have HT:=Lib.hid T0
   clear hw T0
   have HT:=Lib.hid (((HT.out.sum (H':=[[cl wb 244 C],gV,gB,gE,entB a.eb (ptr' wb) a.e lv sl (.pointer nd)])).permAt 1 rfl hp).sum (H':=[[cl wb 244 C],u,gB,gE,entB a.eb (ptr' wb) a.e lv sl (.pointer nd),y]))
   have HC:=Lib.hid hC
   have HU:=Lib.hid hu
   have HBK:=Lib.hid hback
   have HB:=Lib.hid hB
   have HE:=Lib.hid hE
   have HVB:=Lib.hid (hC.lv 3 vb hvb)
   have HSL:=Lib.hid hsl
   have HTA:=Lib.hid (show totA ls≤1000000 from hta)
   have HVL:=Lib.hid (And.intro hvl (And.intro hll hvb))
   generalize digT a.e.due 3=dg at *
   have c0:=(HT.out.cell 0 0 rfl 0).trans hC.now
   have e6:=HT.out.cell 4 0 rfl 6
   have e8:=HT.out.cell 4 0 rfl 8
   have fe8:=HT.out.free 4 0 rfl 8
   have e9:=HT.out.cell 4 0 rfl 9
   have fe9:=HT.out.free 4 0 rfl 9
   have e10:=HT.out.cell 4 0 rfl 10
   have fe10:=HT.out.free 4 0 rfl 10
   simp only [entC,GE3] at e6 e8 e9 e10
   clear hu hB hE hC ho hlo hpl hd hape hV hp hback hls hsl hta hvb hvl hll
   go_enter Tryz.func304,Tryz.ntmps304
   go_wp2_with fail
   refine wp_region_mix1 13 (by kernel_rfl) (by kernel_rfl) ?_
   simp only [TD4]
   repeat (go_big_quiet_step ((first | (go_at_call 316;with_reducible exact ReadsG.quiet (HAP.out) HT.out _ [] rfl rfl))))
   refine wpQuiet_nil ?_
   intro _ hw'
   obtain ⟨nq,hw''⟩:=hw'
   subst hw''
   have HT:=Lib.hid (HT.out.drewN nq)
   go_wp2_with fail
   refine ⟨rfl,?_⟩
   have HT:=Lib.hid ((HT.out.set 4 0 rfl 8 (.int .i64 3)).eq (H':=[[cl wb 244 C],u,gB,gE,entB a.eb (ptr' wb) a.e 3 sl (.pointer nd),y]) rfl)
   clear c0 e6 e8 fe8 e9 fe9 e10 fe10
   generalize World.setCell _ _ _=w2 at HT ⊢
   have e8:=HT.out.cell 4 0 rfl 8
   have e10:=HT.out.cell 4 0 rfl 10
   have fe10:=HT.out.free 4 0 rfl 10
   simp only [entC,GE3] at e8 e10
   have lte:=HT.out.lt 4 0 rfl
   simp only [] at lte
   go_wp2_with fail
   obtain ⟨nb,hnb⟩:∃ nb,nb=w2.heap.size:=⟨_,rfl⟩
   have HT:=Lib.hid (((HT.out.set 4 0 rfl 10 (ptr' nb)).alloc (k:=nb) (by rw [hnb];simp) 372 #[ptr' a.eb,.pointer none,.pointer none,.pointer none]).eq (H':=[[cl wb 244 C],u,gB,gE,entB a.eb (ptr' wb) a.e 3 sl (ptr' nb),y,[cl nb 372 #[ptr' a.eb,.pointer none,.pointer none,.pointer none]]]) rfl)
   rw [← hnb]
   clear e8 e10 fe10 lte
   generalize World.alloc _ _=w3 at HT ⊢
   clear hnb
   have e6:=HT.out.cell 4 0 rfl 6
   have e8:=HT.out.cell 4 0 rfl 8
   have e9:=HT.out.cell 4 0 rfl 9
   have fe9:=HT.out.free 4 0 rfl 9
   simp only [entC,GE3] at e6 e8 e9
   refine wp_region_mix1 12 (by kernel_rfl) (by kernel_rfl) ?_
   simp only [TD4]
   repeat (go_big_quiet_step ((first | (go_at_call 307;with_reducible exact ReadsG.quiet (HDG.out) HT.out _ [] rfl rfl))))
   refine wpQuiet_nil ?_
   intro _ hw'
   obtain ⟨nq,hw''⟩:=hw'
   subst hw''
   have HT:=Lib.hid (HT.out.drewN nq)
   go_wp2_with fail
   refine ⟨rfl,?_⟩
   have HT:=Lib.hid ((HT.out.set 4 0 rfl 9 (.int .i64 dg)).eq (H':=[[cl wb 244 C],u,gB,gE,entB a.eb (ptr' wb) a.e 3 dg (ptr' nb),y,[cl nb 372 #[ptr' a.eb,.pointer none,.pointer none,.pointer none]]]) rfl)
   clear e6 e8 e9 fe9
   generalize World.setCell _ _ _=w4 at HT ⊢
   have e8:=HT.out.cell 4 0 rfl 8
   have e9:=HT.out.cell 4 0 rfl 9
   have e10:=HT.out.cell 4 0 rfl 10
   simp only [entC,GE3] at e8 e9 e10
   have c5:=(HT.out.cell 0 0 rfl (1+3)).trans HVB.out
   go_wp2_with fail
   refine wp_region_mix1 17 (by kernel_rfl) (by kernel_rfl) ?_
   simp only [TD4]
   repeat (go_big_quiet_step ((fail)))
   refine wpQuiet_nil ?_
   intro _ hw'
   obtain ⟨nq,hw''⟩:=hw'
   subst hw''
   have HT:=Lib.hid (HT.out.drewN nq)
   go_wp2_with fail
   refine (DoesG.use (levPutE HU.out HSL.out HTA.out { a with nb:=nb } (entB a.eb (ptr' wb) a.e 3 dg (ptr' nb)) ⟨HDU.out,_,_,_,rfl⟩ (.pointer none) (.pointer none)) (HT.out) [1,4,6] rfl rfl).mono ?_
   rintro e w1 ⟨gs,⟨rfl,g1,hg1,rfl⟩,Ta⟩
   simp only [PU] at Ta
   have HG1:=Lib.hid hg1
   clear hg1 e8 e9 e10 c5
   have HT:=Lib.hid Ta
   clear Ta
   go_wp2_with fail
   refine ⟨rfl,?_⟩
   go_wp2
   obtain ⟨gV',hV',hp'⟩:=HBK.out (vb,ls.set dg (sl0++[{ a with nb:=nb }])) g1 HG1.out
   exact bodyPost_end (results_none rfl _ _ _) rfl ⟨_,⟨rfl,nb,_,⟨C,vs,bb,bh,gV',gB,gE,HC.out,HVL.out.1,(by rw [List.length_set];exact HVL.out.2.1),(by rw [← zip_set 3 HVL.out.2.2];exact hV'),HB.out,HE.out,rfl⟩,rfl⟩,(((HT.out.sum (H':=[[cl wb 244 C],g1++y,gB,gE])).permAt 1 rfl hp').sum)⟩
end
end
section
open Go.RowKit Go.Shelf
theorem famP_cons {α:Type} {P:α→List Blk→Prop} {a:α} {l:List α} {g:List Blk} (h:FamP P (a::l) g):∃ x y,P a x∧FamP P l y∧g=x++y:=h
theorem drop_at {α:Type} {l:List α} {i:Nat} {a:α} (h:l[i]?=some a):l.drop i=a::l.drop (i+1):=by
 obtain ⟨h1,h2⟩:=List.getElem?_eq_some_iff.1 h
 rw [List.drop_eq_getElem_cons h1,h2]
def WheelS.place (w:WheelS) (e:EntS):WheelS :=
 if 4≤lvl w.now e.due then { w with by_:=w.by_++[e] }
 else { w with lv:=w.lv.modify (lvl w.now e.due) (fun l=>l.modify (digT e.due (lvl w.now e.due)) (·++[e])) }
def WheelS.placeL (w:WheelS) (l:List EntS):WheelS:=l.foldl WheelS.place w
def WheelS.slot (w:WheelS) (l k:Nat):List EntS:=(w.lv.getD l []).getD k []
def WheelS.clear (w:WheelS) (l k:Nat):WheelS:={ w with lv:=w.lv.modify l (fun s=>s.set k []) }
def WheelS.again (w:WheelS) (l:Nat):WheelS:=(w.clear l (digT w.now l)).placeL (w.slot l (digT w.now l))
theorem map_modify {α β:Type} (f:α→β) (g:α→α) (h:β→β) (hc:∀ a,f (g a)=h (f a)) (l:List α) (k:Nat):(l.modify k g).map f=(l.map f).modify k h:=by
 apply List.ext_getElem?
 intro i
 simp only [List.getElem?_map,List.getElem?_modify]
 split
 ·cases l[i]? <;> simp [hc]
 ·cases l[i]? <;> simp
theorem place_s (w:WheelA) (a:EntA):(w.place a).s=w.s.place a.e:=by
 unfold WheelA.place WheelS.place
 have hn:w.s.now=w.now:=rfl
 rw [hn]
 split
 ·unfold WheelA.s;simp
 ·unfold WheelA.s
  simp only
  congr 1
  refine map_modify _ _ _ (fun l=>?_) _ _
  exact map_modify _ _ _ (fun s=>by simp) _ _
theorem clear_s (w:WheelA) (l k:Nat):({ w with lv:=w.lv.modify l (fun s=>s.set k []) }:WheelA).s=w.s.clear l k:=by
 unfold WheelA.s WheelS.clear
 simp only
 congr 1
 refine map_modify _ _ _ (fun s=>?_) _ _
 rw [List.map_set];rfl
end
section
open Go.RowKit Go.Shelf
def totS (w:WheelS):Nat:=(w.lv.map fun l=>(l.map List.length).sum).sum+w.by_.length
theorem totW_s (w:WheelA):totW w=totS w.s:=by
 unfold totW totS WheelA.s totA
 simp [List.map_map,Function.comp_def]
structure WheelS.Sh (w:WheelS):Prop where
 l4:w.lv.length=4
 l64:∀ l∈w.lv,l.length=64
theorem WheelA.sh {w:WheelA}:w.s.Sh↔w.lv.length=4∧∀ l∈w.lv,l.length=64:=by
 constructor
 ·rintro ⟨h1,h2⟩
  refine ⟨by simpa [WheelA.s] using h1,fun l hl=>?_⟩
  have:=h2 _ (List.mem_map.2 ⟨l,hl,rfl⟩)
  simpa using this
 ·rintro ⟨h1,h2⟩
  refine ⟨by simpa [WheelA.s] using h1,fun l hl=>?_⟩
  obtain ⟨m,hm,rfl⟩:=List.mem_map.1 hl
  simpa using h2 m hm
def WheelS.down:Nat→WheelS→WheelS
 | 0,w=>w
 | l+1,w=>(w.again (l+1)).down l
def WheelS.adv (w:WheelS):WheelS × List EntS :=
 let w2:=WheelS.down (min (zerosT (w.now+1)) 3) { w with now:=w.now+1 }
 (w2.clear 0 (digT w2.now 0),w2.slot 0 (digT w2.now 0))
theorem WheelS.placeL_now (l:List EntS):∀ w:WheelS,(w.placeL l).now=w.now:=by
 induction l with
 | nil=>intro w;rfl
 | cons a l ih =>
   intro w
   show ((w.place a).placeL l).now=_
   rw [ih]
   unfold WheelS.place
   split <;> rfl
theorem WheelS.again_now (w:WheelS) (l:Nat):(w.again l).now=w.now:=WheelS.placeL_now _ _
theorem WheelS.down_now:∀ (n:Nat) (w:WheelS),(w.down n).now=w.now
 | 0,w=>rfl
 | l+1,w=>by show ((w.again (l+1)).down l).now=_;rw [WheelS.down_now l,WheelS.again_now]
theorem WheelS.clear_sh {w:WheelS} (h:w.Sh) (l k:Nat):(w.clear l k).Sh:=by
 refine ⟨by unfold WheelS.clear;simp [h.l4],fun m hm=>?_⟩
 unfold WheelS.clear at hm
 simp only at hm
 obtain ⟨i,hi⟩:=List.mem_iff_getElem?.1 hm
 rw [List.getElem?_modify] at hi
 cases hq:w.lv[i]? with
 | none=>rw [hq] at hi;cases hi
 | some q =>
   rw [hq] at hi
   have hq64:=h.l64 q (List.mem_of_getElem? hq)
   by_cases e:l=i
   ·simp [e] at hi;subst hi;simpa using hq64
   ·simp [e] at hi;subst hi;exact hq64
theorem WheelS.place_sh {w:WheelS} (h:w.Sh) (a:EntS):(w.place a).Sh:=by
 unfold WheelS.place
 split
 ·exact ⟨h.l4,h.l64⟩
 ·refine ⟨by simp [h.l4],fun m hm=>?_⟩
  simp only at hm
  obtain ⟨i,hi⟩:=List.mem_iff_getElem?.1 hm
  rw [List.getElem?_modify] at hi
  cases hq:w.lv[i]? with
  | none=>rw [hq] at hi;cases hi
  | some q =>
    rw [hq] at hi
    have hq64:=h.l64 q (List.mem_of_getElem? hq)
    by_cases e:lvl w.now a.due=i
    ·simp [e] at hi;subst hi;simpa using hq64
    ·simp [e] at hi;subst hi;exact hq64
theorem WheelS.placeL_sh (l:List EntS):∀ {w:WheelS},w.Sh→(w.placeL l).Sh:=by
 induction l with
 | nil=>intro w h;exact h
 | cons a l ih=>intro w h;exact ih (WheelS.place_sh h a)
theorem WheelS.again_sh {w:WheelS} (h:w.Sh) (l:Nat):(w.again l).Sh:=WheelS.placeL_sh _ (WheelS.clear_sh h _ _)
theorem WheelS.down_sh:∀ (n:Nat) {w:WheelS},w.Sh→(w.down n).Sh
 | 0,_,h=>h
 | l+1,_,h=>WheelS.down_sh l (WheelS.again_sh h (l+1))
theorem sum_set_list {α:Type} {f:α→Nat}:∀ {l:List α} {k:Nat} {a:α},l[k]?=some a→∀ b,((l.set k b).map f).sum+f a=(l.map f).sum+f b
 | [],k,a,h,b=>by simp at h
 | c::l,0,a,h,b=>by simp at h;subst h;simp;omega
 | c::l,k+1,a,h,b=>by
   simp only [List.getElem?_cons_succ] at h
   have:=sum_set_list (f:=f) h b
   simp only [List.set_cons_succ,List.map_cons,List.sum_cons];omega
theorem totS_place {w:WheelS} (h:w.Sh) (a:EntS):totS (w.place a)=totS w+1:=by
 unfold WheelS.place
 split
 ·unfold totS;simp;omega
 ·next hl =>
  obtain ⟨q,hq⟩:∃ q,w.lv[lvl w.now a.due]?=some q:=⟨_,List.getElem?_eq_getElem (by rw [h.l4];omega)⟩
  have hq64:=h.l64 q (List.mem_of_getElem? hq)
  obtain ⟨s,hs⟩:∃ s,q[digT a.due (lvl w.now a.due)]?=some s:=⟨_,List.getElem?_eq_getElem (by rw [hq64];exact dig_lt _ _)⟩
  unfold totS
  simp only
  rw [modify_set hq,modify_set hs]
  have h1:=sum_set_list (f:=fun l:List (List EntS)=>(l.map List.length).sum) hq (q.set (digT a.due (lvl w.now a.due)) (s++[a]))
  have h2:=sum_set_list (f:=(List.length:List EntS→Nat)) hs (s++[a])
  simp only [List.length_append,List.length_cons,List.length_nil] at h2
  try simp only at h1
  omega
theorem totS_placeL (l:List EntS):∀ {w:WheelS},w.Sh→totS (w.placeL l)=totS w+l.length:=by
 induction l with
 | nil=>intro w _;rfl
 | cons a l ih =>
   intro w h
   show totS ((w.place a).placeL l)=_
   rw [ih (WheelS.place_sh h a),totS_place h a];simp;omega
theorem totS_clear {w:WheelS} (h:w.Sh) {l k:Nat} (hl:l<4) (hk:k<64):totS (w.clear l k)+(w.slot l k).length=totS w:=by
 obtain ⟨q,hq⟩:∃ q,w.lv[l]?=some q:=⟨_,List.getElem?_eq_getElem (by rw [h.l4];omega)⟩
 have hq64:=h.l64 q (List.mem_of_getElem? hq)
 obtain ⟨s,hs⟩:∃ s,q[k]?=some s:=⟨_,List.getElem?_eq_getElem (by omega)⟩
 unfold WheelS.clear WheelS.slot totS
 simp only
 rw [modify_set hq]
 have h1:=sum_set_list (f:=fun l:List (List EntS)=>(l.map List.length).sum) hq (q.set k [])
 have h2:=sum_set_list (f:=(List.length:List EntS→Nat)) hs []
 simp only [List.length_nil] at h2
 try simp only at h1
 rw [List.getD_eq_getElem?_getD,List.getD_eq_getElem?_getD,hq,Option.getD_some,hs,Option.getD_some]
 omega
theorem totS_again {w:WheelS} (h:w.Sh) {l:Nat} (hl:l<4):totS (w.again l)=totS w:=by
 unfold WheelS.again
 rw [totS_placeL _ (WheelS.clear_sh h _ _)]
 exact totS_clear h hl (dig_lt _ _)
theorem totS_down:∀ (n:Nat) {w:WheelS},w.Sh→n≤3→totS (w.down n)=totS w
 | 0,_,_,_=>rfl
 | l+1,w,h,hn=>by
   show totS ((w.again (l+1)).down l)=_
   rw [totS_down l (WheelS.again_sh h _) (by omega),totS_again h (by omega)]
theorem digT_zero4 {t:Nat} (h:∀ j,j<4→digT t j=0):t % 16777216=0:=by
 have h0:=h 0 (by decide)
 have h1:=h 1 (by decide)
 have h2:=h 2 (by decide)
 have h3:=h 3 (by decide)
 unfold digT at h0 h1 h2 h3
 simp only [Nat.reducePow] at h0 h1 h2 h3
 omega
theorem zeros_lt4 {t:Nat} (h0:0<t) (h1:t<16777216):zerosT t<4:=by
 by_cases h:∀ j,j<4→digT t j=0
 ·have:=digT_zero4 h;omega
 ·have hex:∃ j,j<4∧digT t j≠0:=by
   apply Classical.byContradiction
   intro hn
   exact h fun j hj=>Classical.byContradiction fun hz=>hn ⟨j,hj,hz⟩
  have hk:digT t 0≠0∨digT t 0=0∧(digT t 1≠0∨digT t 1=0∧(digT t 2≠0∨digT t 2=0∧digT t 3≠0)):=by
   obtain ⟨j,hj,hz⟩:=hex
   have:j=0∨j=1∨j=2∨j=3:=by omega
   rcases this with rfl | rfl | rfl | rfl <;> omega
  rcases hk with hk | ⟨e0,hk | ⟨e1,hk | ⟨e2,hk⟩⟩⟩
  ·rw [zeros_at (by decide) hk (fun j hj=>absurd hj (Nat.not_lt_zero _))];decide
  ·rw [zeros_at (k:=1) (by decide) hk (fun j hj=>by obtain rfl:j=0:=by omega
                                                    exact e0)];decide
  ·rw [zeros_at (k:=2) (by decide) hk (fun j hj=>by
    have:j=0∨j=1:=by omega
    rcases this with rfl | rfl <;> assumption)];decide
  ·rw [zeros_at (k:=3) (by decide) hk (fun j hj=>by
    have:j=0∨j=1∨j=2:=by omega
    rcases this with rfl | rfl | rfl <;> assumption)];decide
end
section
open Go.RowKit Go.Shelf
section
variable {wb:Nat} {W0:WheelA} {n:Nat} {g:List Blk}
theorem clear_a (w:WheelA) {l k:Nat} {ls:LvA} (hls:w.lv[l]?=some ls):({ w with lv:=w.lv.set l (ls.set k []) }:WheelA).s=w.s.clear l k:=by
 rw [← clear_s,modify_set hls]
theorem slot_a {w:WheelA} {l k:Nat} {ls:LvA} {sl:List EntA} (hls:w.lv[l]?=some ls) (hsl:ls[k]?=some sl):w.s.slot l k=sl.map EntA.e:=by
 unfold WheelS.slot WheelA.s
 simp [List.getD_eq_getElem?_getD,List.getElem?_map,hls,hsl]
set_option maxRecDepth 100000 in
set_option maxHeartbeats 4000000 in
theorem again_g (hg:isWheelA wb W0 n g) (hsh:W0.s.Sh) (ho:WhOk W0) (l:Nat) (hl:l<4) :
 DoesG Tryz.prog 305 #[ptr' wb,.int .i64 l] [g] fun e gs=>e=.returned (.tuple #[])∧∃ w' g',isWheelA wb w' n g'∧w'.s=W0.s.again l∧gs=[g']:=by
 obtain ⟨C,vs,bb,bh,gV,gB,gE,hC,hvl,hll,hV,hB,hE,rfl⟩:=hg
 obtain ⟨ls,hls⟩:=lv_at hll (k:=l) hl
 obtain ⟨vb,hvb⟩:∃ vb,vs[l]?=some vb:=⟨_,List.getElem?_eq_getElem (by omega)⟩
 have hz:(vs.zip W0.lv)[l]?=some (vb,ls):=zip_at hvb hls
 obtain ⟨u,y,hu,hp,hback⟩:=hV.out hz
 have hta:totA ls≤1000000:=by have:=totW_lv hls;have:=ho.tot;omega
 simp only at hu
 have hnow:W0.now<16777215:=ho.now
 have hwn:W0.s.now=W0.now:=rfl
 obtain ⟨sl,hsl⟩:∃ s,ls[digT W0.now l]?=some s:=⟨_,List.getElem?_eq_getElem (by rw [hu.len];exact dig_lt _ _)⟩
 have hag:W0.s.again l=(W0.s.clear l (digT W0.now l)).placeL (sl.map EntA.e):=by
  unfold WheelS.again;rw [hwn,slot_a hls hsl]
 have hcl:({ W0 with lv:=W0.lv.set l (ls.set (digT W0.now l) []) }:WheelA).s=W0.s.clear l (digT W0.now l):=clear_a W0 hls
 have htot:totS (W0.s.clear l (digT W0.now l))+sl.length≤999999:=by
  have:=totS_clear hsh hl (dig_lt W0.now l)
  rw [slot_a hls hsl,List.length_map] at this
  have h2:=ho.tot
  rw [totW_s] at h2
  omega
 have hsh1:=WheelS.clear_sh hsh l (digT W0.now l)
 have hcn:(W0.s.clear l (digT W0.now l)).now=W0.now:=rfl
 have HDG:=Lib.hid (show ReadsG Tryz.prog 307 #[.int .u64 W0.now,.int .i64 l] [] (.int .i64 (digT W0.now l)) from timesDigit_g W0.now l (by omega) hl)
 have hdl:=dig_lt W0.now l
 rw [hag]
 generalize digT W0.now l=dg at *
 obtain ⟨S1,hS1⟩:∃ S1,S1=W0.s.clear l dg:=⟨_,rfl⟩
 rw [← hS1] at hcl htot hsh1 hcn ⊢
 intro w hw
 have T0:=TG.refl hw
 have HT:=Lib.hid T0
 clear hw T0
 have HT:=Lib.hid (((HT.out.sum (H':=[[cl wb 244 C],gV,gB,gE])).permAt 1 rfl hp).sum (H':=[[cl wb 244 C],u,gB,gE,y]))
 have HC:=Lib.hid hC
 have HU:=Lib.hid hu
 have HBK:=Lib.hid hback
 have HB:=Lib.hid hB
 have HE:=Lib.hid hE
 have HSL:=Lib.hid hsl
 have HTA:=Lib.hid hta
 have HVL:=Lib.hid (And.intro hvl (And.intro hll hvb))
 have HCL:=Lib.hid hcl
 have HTO:=Lib.hid (And.intro htot (And.intro hsh1 (And.intro hcn hnow)))
 have c0:=(HT.out.cell 0 0 rfl 0).trans hC.now
 have c1:=(HT.out.cell 0 0 rfl (1+l)).trans (hC.lv l vb hvb)
 have hlb:(l:Int)<4:=by omega
 clear hu hB hE hC ho hV hp hback hls hsl hta hvb hvl hll hz hwn hag hcl htot hsh1 hcn hnow hsh hdl hS1
 go_enter Tryz.func305,Tryz.ntmps305
 go_wp2_with fail
 refine wp_region_mixP1 12 (by kernel_rfl) (by kernel_rfl) rfl rfl rfl rfl ?_
 simp only [List.take_succ_cons,List.take_zero,List.drop_succ_cons,List.drop_zero,List.length_cons,List.length_nil,Nat.reduceAdd,Nat.reduceSub,Act.put,Act.eval,List.setIfInBounds_toArray,List.set_cons_succ,List.set_cons_zero]
 repeat (go_big_quiet_step ((first | (go_at_call 307;with_reducible exact ReadsG.quiet (HDG.out) HT.out _ [] rfl rfl))))
 refine wpQuiet_nil ?_
 intro _ hw'
 obtain ⟨nq,hw''⟩:=hw'
 subst hw''
 have HT:=Lib.hid (HT.out.drewN nq)
 go_wp2_with fail
 refine (DoesG.use (levTakeE HU.out HSL.out HTA.out) (HT.out) [1] rfl rfl).mono ?_
 rintro e w1 ⟨gs,⟨v,gr,gn,ge,g1,rfl,hr,hn,he,hg1,rfl⟩,Ta⟩
 simp only [PU] at Ta
 obtain ⟨av,cap,hav⟩:=rowG.val hr
 subst hav
 have HR:=Lib.hid hr
 have HN:=Lib.hid hn
 have HEE:=Lib.hid he
 have HG1:=Lib.hid hg1
 clear hr hn he hg1 c0 c1
 have HT:=Lib.hid Ta
 clear Ta
 go_wp2_with fail
 refine ⟨rfl,?_⟩
 obtain ⟨gV',hV',hp'⟩:=HBK.out (vb,ls.set dg []) g1 HG1.out
 have hw1:isWheelA wb { W0 with lv:=W0.lv.set l (ls.set dg []) } n ([cl wb 244 C]++(gV'++(gB++gE))) :=
  ⟨C,vs,bb,bh,gV',gB,gE,HC.out,HVL.out.1,by rw [List.length_set];exact HVL.out.2.1,by rw [← zip_set l HVL.out.2.2];exact hV',HB.out,HE.out,rfl⟩
 have T1:=((HT.out.sum (H':=[[cl wb 244 C],g1++y,gB,gE,gr,gn,ge])).permAt 1 rfl hp').sum (H':=[[cl wb 244 C]++(gV'++(gB++gE)),gr,gn,ge])
 generalize [cl wb 244 C]++(gV'++(gB++gE))=gW0 at hw1 T1
 have HW1:=Lib.hid hw1
 clear hw1 hV' hp' HT
 have hln:sl.length≤999999:=by have:=HTO.out.1;omega
 go_wp2
 go_loopw [5,20] (fun _ i wr=>∃ j:Nat,j≤sl.length∧i=.int .i64 j∧∃ wj gW gn' ge',isWheelA wb wj n gW∧wj.s=S1.placeL ((sl.take j).map EntA.e)∧FamP (fun a=>nodeFreeP a.nd) (sl.drop j) gn'∧FamP (entP (ptr' wb)) (sl.drop j) ge' ∧
  TG [[cl wb 244 C]++(gV++(gB++gE))] w [gW,gr,gn',ge'] wr) (fun _ i _=>sl.length+1 - (intOf i).toNat)
 case atStart=>exact ⟨0,Nat.zero_le _,rfl,_,gW0,gn,ge,HW1.out,by rw [HCL.out];rfl,by simpa using HN.out,by simpa using HEE.out,T1⟩
 case round =>
  obtain ⟨j,hj,rfl,wj,gW,gn',ge',hwj,hws,hn,he,T⟩:=hrel
  have HT:=Lib.hid T
  have HWJ:=Lib.hid hwj
  have HWS:=Lib.hid hws
  clear T T1 hwj
  by_cases hlt:j<sl.length
  ·obtain ⟨a,ha⟩:∃ a,sl[j]?=some a:=⟨_,List.getElem?_eq_getElem hlt⟩
   rw [drop_at ha] at hn he
   obtain ⟨x1,y1,hx1,hy1,rfl⟩:=famP_cons hn
   obtain ⟨x2,y2,hx2,hy2,rfl⟩:=famP_cons he
   have hx1':x1=[cl a.nb 372 #[ptr' a.eb,.pointer none,.pointer none,.pointer none]]:=hx1
   subst hx1'
   obtain ⟨rb,cap',cur,hv,rfl,_,_,_,hcur⟩:=HR.out.open (by omega)
   cases hv
   have hcj:=hcur j (by omega)
   rw [List.getElem?_map,ha] at hcj
   have hok:WhOk wj:=by
    have h1:wj.now=S1.now:=by
     have:wj.s.now=S1.now:=by rw [hws,WheelS.placeL_now]
     exact this
    refine ⟨by rw [h1,HTO.out.2.2.1];exact HTO.out.2.2.2,?_⟩
    rw [totW_s,hws,totS_placeL _ HTO.out.2.1,List.length_map,List.length_take]
    have:=HTO.out.1
    omega
   have HPL:=Lib.hid (place_g HWJ.out hok a x2 hx2)
   have HY1:=Lib.hid hy1
   have HY2:=Lib.hid hy2
   have HA:=Lib.hid ha
   have hps:∀ nb,(wj.place { a with nb:=nb }).s=S1.placeL ((sl.take (j+1)).map EntA.e):=fun nb=>by
    rw [place_s,hws,List.take_succ_eq_append_getElem hlt,List.map_append]
    have:sl[j]=a:=(List.getElem?_eq_some_iff.1 ha).2
    rw [this]
    unfold WheelS.placeL
    rw [List.foldl_append];rfl
   have HPS:=Lib.hid hps
   have HT:=Lib.hid (HT.out.sum (H':=[gW,x2,[cl rb 296 cur],[cl a.nb 372 #[ptr' a.eb,.pointer none,.pointer none,.pointer none]],y1,y2]))
   have r0:=(HT.out.cell 2 0 rfl j).trans hcj
   have b0:=HT.out.cell 3 0 rfl 0
   simp only [GE2,Option.map_some] at r0 b0
   clear hn he hx1 hx2 hy1 hy2 hcj hcur hok hps hws ha
   go_wp2_with fail
   refine (DoesG.use (HPL.out) (HT.out) [0,1] rfl rfl).mono ?_
   rintro e w1 ⟨gs,⟨rfl,nb',g2,hg2,rfl⟩,Ta⟩
   simp only [PU] at Ta
   have HG2:=Lib.hid hg2
   clear hg2
   have HT:=Lib.hid Ta
   clear Ta
   go_wp2
   first
   | (go_roundw
      case rel=>exact ⟨j+1,by omega,by go_num,_,g2,y1,y2,HG2.out,HPS.out nb',HY1.out,HY2.out,HT.out.pick [0,2,4,5] rfl⟩
      case measure=>simp [intOf];omega)
   | exact ⟨⟨j+1,by omega,by go_num,_,g2,y1,y2,HG2.out,HPS.out nb',HY1.out,HY2.out,HT.out.pick [0,2,4,5] rfl⟩,by simp [intOf];omega⟩
   | ((repeat apply Exists.intro);exact ⟨⟨⟨j+1,by omega,by go_num,_,g2,y1,y2,HG2.out,HPS.out nb',HY1.out,HY2.out,HT.out.pick [0,2,4,5] rfl⟩,rfl⟩,by simp [intOf];omega⟩)
  ·obtain rfl:j=sl.length:=by omega
   have e:sl.take sl.length=sl:=List.take_length
   rw [e] at hws
   go_wp2
   exact bodyPost_end (results_none rfl _ _ _) rfl ⟨_,⟨rfl,wj,gW,HWJ.out,hws,rfl⟩,HT.out.pick [0] rfl⟩
end
end
section
open Go.RowKit Go.Shelf
section
variable {wb:Nat} {W0:WheelA} {n:Nat} {g:List Blk}
theorem whC.count {vs:List Nat} {bb now n:Nat} {C:Array Value} (h:whC vs bb now n C) (hl:vs.length=4) (m:Nat):whC vs bb now m (C.setIfInBounds 6 (.int .i64 m)):=by
 refine ⟨by simpa using h.size,(get_set_ne (by omega)).trans h.now,fun i v hv=>(get_set_ne ?_).trans (h.lv i v hv),(get_set_ne (by omega)).trans h.by_,?_⟩
 ·have:=(List.getElem?_eq_some_iff.1 hv).1;omega
 ·exact get_set_eq h.n
theorem whC.clock {vs:List Nat} {bb now n:Nat} {C:Array Value} (h:whC vs bb now n C) (m:Nat):whC vs bb m n (C.setIfInBounds 0 (.int .u64 m)) :=
 ⟨by simpa using h.size,get_set_eq h.now,fun i v hv=>(get_set_ne (by omega)).trans (h.lv i v hv),(get_set_ne (by omega)).trans h.by_,(get_set_ne (by omega)).trans h.n⟩
theorem isWheelA.open {g:List Blk} (h:isWheelA wb W0 n g):∃ C vs bb gR,whC vs bb W0.now n C∧vs.length=4∧g=[cl wb 244 C]++gR ∧
 ∀ (now' n':Nat) C',whC vs bb now' n' C'→isWheelA wb { W0 with now:=now' } n' ([cl wb 244 C']++gR):=by
 obtain ⟨C,vs,bb,bh,gV,gB,gE,hC,hvl,hll,hV,hB,hE,rfl⟩:=h
 exact ⟨C,vs,bb,gV++(gB++gE),hC,hvl,rfl,fun now' n' C' h'=>⟨C',vs,bb,bh,gV,gB,gE,h',hvl,hll,hV,hB,hE,rfl⟩⟩
theorem totW_place' {W0:WheelA} (h:W0.s.Sh) (a:EntA):totW (W0.place a)=totW W0+1:=by
 rw [totW_s,totW_s,place_s];exact totS_place h a.e
set_option maxRecDepth 100000 in
set_option maxHeartbeats 4000000 in
theorem insert_g (hg:isWheelA wb W0 (totW W0) g) (hsh:W0.s.Sh) (ho:WhOk W0) (d:Nat) (hd:d<18446744073709551616) (hlt:W0.now<d) (v:TaskS) :
 DoesG Tryz.prog 328 #[ptr' wb,.int .u64 d,.agg v.cells] [g] fun e gs=>∃ eb,e=.returned (.tuple #[ptr' eb,.int .i64 0])∧∃ w' g',isWheelA wb w' (totW w') g'∧w'.s=W0.s.place ⟨d,v,d⟩∧gs=[g']:=by
 have HPG:=Lib.hid (show ∀ g',isWheelA wb W0 (totW W0) g'→_ from fun g' hg' a ge ha=>place_g (g:=g') hg' ho a ge ha)
 have htot:=ho.tot
 have HTP:=Lib.hid (show ∀ nb eb,(W0.place ⟨eb,nb,⟨d,v,d⟩⟩).s=W0.s.place ⟨d,v,d⟩∧totW (W0.place ⟨eb,nb,⟨d,v,d⟩⟩)=totW W0+1 from fun nb eb=>⟨place_s _ _,totW_place' hsh _⟩)
 have HW:=Lib.hid hg
 obtain ⟨C,vs,bb,gR,hC,hvl,rfl,hback⟩:=hg.open
 have hle:decide ((d:Int)≤(W0.now:Int))=false:=decide_eq_false (by omega)
 have hle2:¬ d≤W0.now:=by omega
 intro w hw
 have T0:=TG.refl hw
 have HT:=Lib.hid T0
 clear hw T0
 have HT:=Lib.hid (HT.out.sum (H':=[[cl wb 244 C],gR]))
 have c0:=(HT.out.cell 0 0 rfl 0).trans hC.now
 have lt:=HT.out.lt 0 0 rfl
 simp only [] at lt
 have HD:=Lib.hid hd
 clear hC hvl hsh ho hlt hback hg hd
 simp only [TaskS.cells]
 go_enter Tryz.func328,Tryz.ntmps328
 go_wp2_with fail
 obtain ⟨eb,heb⟩:∃ eb,eb=w.heap.size+1:=⟨_,rfl⟩
 have HT:=Lib.hid ((((HT.out.alloc0 (.cells #[.int .u64 v.id,.int .i64 v.slot,.int .u64 v.gen,.int .u64 v.dl,.int .u64 v.per] 40)).alloc (k:=eb) (by rw [heb];simp) 370 (entC (ptr' wb) ⟨d,v,d⟩ 0 0 (.pointer none))).sum (H':=[[cl wb 244 C]++gR,[cl eb 370 (entC (ptr' wb) ⟨d,v,d⟩ 0 0 (.pointer none))]])).eq (H':=[[cl wb 244 C]++gR,entB eb (ptr' wb) ⟨d,v,d⟩ 0 0 (.pointer none)]) rfl)
 simp only [entC] at HT
 rw [← heb]
 clear heb c0 lt hle hle2
 generalize World.alloc (World.alloc w _) _=w1 at HT ⊢
 go_wp2_with fail
 refine (DoesG.use (HPG.out _ HW.out ⟨eb,0,⟨d,v,d⟩⟩ (entB eb (ptr' wb) ⟨d,v,d⟩ 0 0 (.pointer none)) ⟨HD.out,0,0,none,rfl⟩) (HT.out) [0,1] rfl rfl).mono ?_
 rintro e w1 ⟨gs,⟨rfl,nb,g2,hg2,rfl⟩,Ta⟩
 simp only [PU] at Ta
 have HT:=Lib.hid Ta
 clear Ta
 have HP:=Lib.hid (HTP.out nb eb)
 generalize W0.place ⟨eb,nb,⟨d,v,d⟩⟩=w2 at hg2 HP
 obtain ⟨C2,vs2,bb2,gR2,hC2,hvl2,rfl,hback2⟩:=hg2.open
 have hfin:isWheelA wb w2 (totW w2) ([cl wb 244 (C2.setIfInBounds 6 (.int .i64 ((totW W0:Int)+1)))]++gR2):=by
  have:=hback2 w2.now (totW W0+1) _ (hC2.count hvl2 _)
  rw [HP.out.2];exact this
 have HF:=Lib.hid hfin
 have HT:=Lib.hid (HT.out.sum (H':=[[cl wb 244 C2],gR2]))
 have c6:=(HT.out.cell 0 0 rfl 6).trans hC2.n
 have f6:=HT.out.free 0 0 rfl 6
 clear hg2 hC2 hvl2 hback2 hfin
 generalize totW W0=N at *
 go_wp2
 go_ret2
 exact ⟨_,⟨eb,rfl,w2,_,HF.out,HP.out.1,rfl⟩,(HT.out.set 0 0 rfl 6 _).sum⟩
end
end
section
open Go.RowKit Go.Shelf
theorem Tryz.infoEntryP:(Tryz.prog.info? 271).map (fun i=>(i.zero,i.size,i.bytes))=some (some (.pointer none),1,8):=by kernel_rfl
section
variable {wb:Nat} {W0:WheelA} {n:Nat} {g:List Blk}
def AdvR (wb:Nat) (W0:WheelS) (e:Ending) (gs:GH):Prop :=
 ∃ (v:Value) (l:List EntA) (gr ge:List Blk) (w':WheelA) (g':List Blk),e=.returned (.tuple #[v,.int .i64 0])∧l.map EntA.e=W0.adv.2∧rowG 271 1 v l.length (l.map fun a=>ptr' a.eb) gr ∧
   FamP (entP (.pointer none)) l ge∧isWheelA wb w' (totW w') g'∧w'.s=W0.adv.1∧gs=[g',gr,ge]
set_option maxRecDepth 100000 in
set_option maxHeartbeats 4000000 in
theorem advance_g (hg:isWheelA wb W0 (totW W0) g) (hsh:W0.s.Sh) (hn:W0.now<16000000) (ht:totW W0≤999999) :
 DoesG Tryz.prog 284 #[ptr' wb] [g] (AdvR wb W0.s):=by
 have hz:=zeros_lt4 (t:=W0.now+1) (by omega) (by omega)
 have HA:=Lib.hid (timesAdd_g W0.now 1 (by omega) (by omega) (by omega))
 have HZ:=Lib.hid (show DoesG Tryz.prog 302 #[.int .u64 ((W0.now:Int)+1)] [] _ from timesZeros_g (W0.now+1) (by omega))
 have hadv:W0.s.adv=(let w2:=WheelS.down (zerosT (W0.now+1)) { W0.s with now:=W0.now+1 };(w2.clear 0 (digT w2.now 0),w2.slot 0 (digT w2.now 0))):=by
  unfold WheelS.adv
  have:min (zerosT (W0.s.now+1)) 3=zerosT (W0.now+1):=Nat.min_eq_left (by show zerosT (W0.now+1)≤3;omega)
  rw [this];rfl
 have hD:=WheelS.down_now (zerosT (W0.now+1)) { W0.s with now:=W0.now+1 }
 obtain ⟨S2,hS2⟩:∃ S2,S2=WheelS.down (zerosT (W0.now+1)) { W0.s with now:=W0.now+1 }:=⟨_,rfl⟩
 rw [← hS2] at hadv hD
 simp only [] at hadv
 unfold AdvR
 rw [hadv]
 generalize zerosT (W0.now+1)=z at *
 obtain ⟨C,vs,bb,gR,hC,hvl,rfl,hback⟩:=hg.open
 intro w hw
 have T0:=TG.refl hw
 have HT:=Lib.hid T0
 clear hw T0
 have HT:=Lib.hid (HT.out.sum (H':=[[cl wb 244 C],gR]))
 have c0:=(HT.out.cell 0 0 rfl 0).trans hC.now
 have f0:=HT.out.free 0 0 rfl 0
 have HC:=Lib.hid hC
 have hW1:=hback (W0.now+1) (totW W0) _ (hC.clock (W0.now+1))
 have HW1:=Lib.hid (show isWheelA wb { W0 with now:=W0.now+1 } (totW W0) ([cl wb 244 (C.setIfInBounds 0 (.int .u64 ((W0.now:Int)+1)))]++gR) from hW1)
 have HSH:=Lib.hid hsh
 have HD:=Lib.hid hD
 have HS2:=Lib.hid hS2
 have hzi:¬ ((z:Int) ≥ 4):=by omega
 have hmin:min (z:Int) 3=z:=by omega
 clear hC hvl hback hg hsh hadv hD hS2 hW1
 go_enter Tryz.func284,Tryz.ntmps284
 go_wp2_with fail
 refine (DoesG.use (HA.out) (HT.out) [] rfl rfl).mono ?_
 rintro e w1 ⟨gs,⟨rfl,rfl⟩,Ta⟩
 simp only [PU] at Ta
 clear c0 f0
 have c0:=(Ta.cell 0 0 rfl 0).trans HC.out.now
 have f0:=Ta.free 0 0 rfl 0
 have HT:=Lib.hid Ta
 clear Ta
 go_wp2_with fail
 refine (DoesG.use (HZ.out) (HT.out.set 0 0 rfl 0 (.int .u64 ((W0.now:Int)+1))) [] rfl rfl).mono ?_
 rintro e w1 ⟨gs,⟨rfl,rfl⟩,Ta⟩
 simp only [PU] at Ta
 clear c0 f0
 have HT:=Lib.hid Ta
 clear Ta
 go_wp2
 have T1:=HT.out.sum (H':=[[cl wb 244 (C.setIfInBounds 0 (.int .u64 ((W0.now:Int)+1)))]++gR])
 have HB:=Lib.hid (show ({ W0.s with now:=W0.now+1 }:WheelS).Sh∧totS { W0.s with now:=W0.now+1 }=totW W0 from ⟨⟨HSH.out.l4,HSH.out.l64⟩,(totW_s W0).symm⟩)
 generalize totW W0=N at *
 generalize [cl wb 244 (C.setIfInBounds 0 (.int .u64 ((W0.now:Int)+1)))]++gR=gW1 at HW1 T1
 clear HT hmin hzi HC
 go_loopw [9] (fun l wr=>∃ j:Nat,j≤3∧l=.int .i64 j∧∃ wj gW,isWheelA wb wj N gW∧wj.s.down j=S2∧wj.s.Sh∧wj.now=W0.now+1∧totS wj.s=N∧TG [[cl wb 244 C]++gR] w [gW] wr) (fun l _=>(intOf l).toNat)
 case atStart=>exact ⟨z,by omega,rfl,_,gW1,HW1.out,HS2.out.symm,HB.out.1,rfl,HB.out.2,T1⟩
 case round =>
  obtain ⟨j,hj,rfl,wj,gW,hwj,hdn,hsj,hnj,htj,T⟩:=hrel
  have HT:=Lib.hid T
  clear T T1 HW1 HS2 HB
  cases j with
  | succ j =>
    have hok:WhOk wj:=⟨by omega,by rw [totW_s];omega⟩
    have hag:=again_g hwj hsj hok (j+1) (by omega)
    have HAG:=Lib.hid (show DoesG Tryz.prog 305 #[ptr' wb,.int .i64 ((j:Int)+1)] [gW] _ from hag)
    have hX:∀ w':WheelA,w'.s=wj.s.again (j+1)→w'.s.down j=S2∧w'.s.Sh∧w'.now=W0.now+1∧totS w'.s=N:=fun w' h=>by
     rw [h]
     refine ⟨hdn,WheelS.again_sh hsj _,?_,?_⟩
     ·have h1:w'.s.now=wj.s.now:=by rw [h,WheelS.again_now]
      exact (show w'.now=wj.now from h1).trans hnj
     ·rw [totS_again hsj (by omega),htj]
    have HX:=Lib.hid hX
    have hj1:((j+1:Nat):Int)=(j:Int)+1:=by omega
    simp only [hj1]
    clear hdn hsj hnj htj hok hag hX hwj hj1
    go_wp2_with fail
    refine (DoesG.use (HAG.out) (HT.out) [0] rfl rfl).mono ?_
    rintro e w1 ⟨gs,⟨rfl,w',g',hg',hs',rfl⟩,Ta⟩
    simp only [PU] at Ta
    have HG:=Lib.hid hg'
    have HY:=Lib.hid (HX.out w' hs')
    clear hg' hs'
    have HT:=Lib.hid Ta
    clear Ta
    go_wp2
    first
    | (go_roundw
       case rel=>exact ⟨j,by omega,rfl,w',g',HG.out,HY.out.1,HY.out.2.1,HY.out.2.2.1,HY.out.2.2.2,HT.out⟩
       case measure=>simp [intOf] <;> omega)
    | exact ⟨⟨j,by omega,rfl,w',g',HG.out,HY.out.1,HY.out.2.1,HY.out.2.2.1,HY.out.2.2.2,HT.out⟩,by simp [intOf] <;> omega⟩
    | ((repeat apply Exists.intro);exact ⟨⟨⟨j,by omega,rfl,w',g',HG.out,HY.out.1,HY.out.2.1,HY.out.2.2.1,HY.out.2.2.2,HT.out⟩,rfl⟩,by simp [intOf] <;> omega⟩)
  | zero =>
    have hdn':wj.s=S2:=hdn
    subst hdn'
    obtain ⟨C2,vs2,bb2,bh2,gV,gB,gE,hC2,hvl2,hll2,hV,hB,hE,rfl⟩:=hwj
    obtain ⟨ls,hls⟩:=lv_at hll2 (k:=0) (by decide)
    obtain ⟨vb,hvb⟩:∃ vb,vs2[0]?=some vb:=⟨_,List.getElem?_eq_getElem (by omega)⟩
    have hz:(vs2.zip wj.lv)[0]?=some (vb,ls):=zip_at hvb hls
    obtain ⟨u,y,hu,hp,hback⟩:=hV.out hz
    have htw:totW wj=N:=(totW_s wj).trans htj
    have hta:totA ls≤1000000:=by have:=totW_lv hls;omega
    simp only at hu
    have hwn:wj.s.now=W0.now+1:=hnj
    obtain ⟨sl,hsl⟩:∃ s,ls[digT (W0.now+1) 0]?=some s:=⟨_,List.getElem?_eq_getElem (by rw [hu.len];exact dig_lt _ _)⟩
    have hcl:({ wj with lv:=wj.lv.set 0 (ls.set (digT (W0.now+1) 0) []) }:WheelA).s=wj.s.clear 0 (digT (W0.now+1) 0):=clear_a wj hls
    have hslot:=slot_a hls hsl
    have htot:=totS_clear hsj (l:=0) (by decide) (dig_lt (W0.now+1) 0)
    rw [hslot,List.length_map,htj] at htot
    have HDG:=Lib.hid (show ReadsG Tryz.prog 307 #[.int .u64 ((W0.now:Int)+1),.int .i64 0] [] (.int .i64 (digT (W0.now+1) 0)) from timesDigit_g (W0.now+1) 0 (by omega) (by decide))
    have hdl:=dig_lt (W0.now+1) 0
    have HFIN:=Lib.hid (And.intro (show digT wj.s.now 0=digT (W0.now+1) 0 by rw [hwn]) hslot)
    generalize digT (W0.now+1) 0=dg at *
    have HT:=Lib.hid (((HT.out.sum (H':=[[cl wb 244 C2],gV,gB,gE])).permAt 1 rfl hp).sum (H':=[[cl wb 244 C2],u,gB,gE,y]))
    have HC:=Lib.hid hC2
    have HU:=Lib.hid hu
    have HBK:=Lib.hid hback
    have HB:=Lib.hid hB
    have HE:=Lib.hid hE
    have HSL:=Lib.hid hsl
    have HTA:=Lib.hid hta
    have HVL:=Lib.hid (And.intro hvl2 (And.intro hll2 hvb))
    have HCL:=Lib.hid hcl
    have HTO:=Lib.hid htot
    have c1:=(HT.out.cell 0 0 rfl 1).trans (hC2.lv 0 vb hvb)
    clear hu hB hE hC2 hV hp hback hls hsl hta hvb hvl2 hll2 hz hwn hslot hcl htot hnj hsj hdl hdn htj htw
    go_wp2_with fail
    refine wp_region_mixP1 7 (by kernel_rfl) (by kernel_rfl) rfl rfl rfl rfl ?_
    simp only [List.take_succ_cons,List.take_zero,List.drop_succ_cons,List.drop_zero,List.length_cons,List.length_nil,Nat.reduceAdd,Nat.reduceSub,Act.put,Act.eval,List.setIfInBounds_toArray,List.set_cons_succ,List.set_cons_zero]
    repeat (go_big_quiet_step ((first | (go_at_call 307;with_reducible exact ReadsG.quiet (HDG.out) HT.out _ [] rfl rfl))))
    refine wpQuiet_nil ?_
    intro _ hw'
    obtain ⟨nq,hw''⟩:=hw'
    subst hw''
    have HT:=Lib.hid (HT.out.drewN nq)
    go_wp2_with fail
    refine (DoesG.use (levTakeE HU.out HSL.out HTA.out) (HT.out) [1] rfl rfl).mono ?_
    rintro e w1 ⟨gs,⟨v,gr,gn,ge,g1,rfl,hr,hn,he,hg1,rfl⟩,Ta⟩
    simp only [PU] at Ta
    obtain ⟨av,cap,hav⟩:=rowG.val hr
    subst hav
    have HR:=Lib.hid hr
    have HN:=Lib.hid hn
    have HEE:=Lib.hid he
    have HG1:=Lib.hid hg1
    clear hr hn he hg1 c1
    have HT:=Lib.hid Ta
    clear Ta
    go_wp2_with fail
    refine ⟨rfl,?_⟩
    obtain ⟨gV',hV',hp'⟩:=HBK.out (vb,ls.set dg []) g1 HG1.out
    have hwh:∀ (m:Nat) (C':Array Value),whC vs2 bb2 wj.now m C'→isWheelA wb { wj with lv:=wj.lv.set 0 (ls.set dg []) } m ([cl wb 244 C']++(gV'++(gB++gE))):=fun m C' h' =>
     ⟨C',vs2,bb2,bh2,gV',gB,gE,h',HVL.out.1,by rw [List.length_set];exact HVL.out.2.1,by rw [← zip_set 0 HVL.out.2.2];exact hV',HB.out,HE.out,rfl⟩
    have T1:=((HT.out.sum (H':=[[cl wb 244 C2],g1++y,gB,gE,gr,gn,ge])).permAt 1 rfl hp').sum (H':=[[cl wb 244 C2],gV'++(gB++gE),gr,gn,[],[],ge])
    generalize gV'++(gB++gE)=gRest at hwh T1
    have HWH:=Lib.hid hwh
    clear hwh hV' hp' HT
    have hln:sl.length≤999999:=by have:=HTO.out;omega
    go_wp2
    go_loopw [10,12,66] (fun out _ i wr=>∃ j:Nat,j≤sl.length∧i=.int .i64 j∧∃ (m:Nat) (Cj:Array Value) (gq gn' gd ge':List Blk),m+j=N∧whC vs2 bb2 wj.now m Cj∧rowG 271 1 out j ((sl.take j).map fun a=>ptr' a.eb) gq ∧
     FamP (fun a=>nodeFreeP a.nd) (sl.drop j) gn'∧FamP (entP (.pointer none)) (sl.take j) gd∧FamP (entP (ptr' wb)) (sl.drop j) ge' ∧
     TG [[cl wb 244 C]++gR] w [[cl wb 244 Cj],gRest,gr,gn',gq,gd,ge'] wr) (fun _ _ i _=>sl.length+1 - (intOf i).toNat)
    case atStart=>exact ⟨0,Nat.zero_le _,rfl,N,C2,[],gn,[],ge,rfl,HC.out,rowG_nil _ _,by simpa using HN.out,rfl,by simpa using HEE.out,T1⟩
    case round =>
     obtain ⟨j,hj,rfl,m,Cj,gq,gn',gd,ge',hm,hcj,hq,hn,hd,he,T⟩:=hrel
     have HT:=Lib.hid T
     have HCJ:=Lib.hid hcj
     have HQ:=Lib.hid hq
     have HDN:=Lib.hid hd
     obtain ⟨aq,capq,hv⟩:=rowG.val hq
     subst hv
     clear T T1 hcj hq hd
     by_cases hlt:j<sl.length
     ·obtain ⟨a,ha⟩:∃ a,sl[j]?=some a:=⟨_,List.getElem?_eq_getElem hlt⟩
      rw [drop_at ha] at hn he
      obtain ⟨x1,y1,hx1,hy1,rfl⟩:=famP_cons hn
      obtain ⟨x2,y2,⟨hdue,elv,esl,eno,rfl⟩,hy2,rfl⟩:=famP_cons he
      have hx1':x1=[cl a.nb 372 #[ptr' a.eb,.pointer none,.pointer none,.pointer none]]:=hx1
      subst hx1'
      obtain ⟨rb,cap',cur,hv,rfl,_,_,_,hcur⟩:=HR.out.open (by omega)
      cases hv
      have hcj:=hcur j (by omega)
      rw [List.getElem?_map,ha] at hcj
      obtain ⟨m',rfl⟩:∃ m',m=m'+1:=⟨m - 1,by have:=HTO.out;omega⟩
      have HY1:=Lib.hid hy1
      have HY2:=Lib.hid hy2
      have HDU:=Lib.hid hdue
      have hq2:(sl.take (j+1))=sl.take j++[a]:=by
       rw [List.take_succ_eq_append_getElem hlt,(List.getElem?_eq_some_iff.1 ha).2]
      have HQ2:=Lib.hid hq2
      have HMJ:=Lib.hid hm
      have HT:=Lib.hid (HT.out.sum (H':=[[cl wb 244 Cj],gRest,[cl rb 296 cur],[cl a.nb 372 #[ptr' a.eb,.pointer none,.pointer none,.pointer none]],y1,gq,gd,entB a.eb (ptr' wb) a.e elv esl (.pointer eno),y2]))
      have r0:=(HT.out.cell 2 0 rfl j).trans hcj
      have b0:=HT.out.cell 3 0 rfl 0
      have e7:=HT.out.cell 7 0 rfl 7
      have f7:=HT.out.free 7 0 rfl 7
      have c6:=(HT.out.cell 0 0 rfl 6).trans (show Cj[6]?=some (.int .i64 ((m':Int)+1)) from HCJ.out.n)
      have f6:=HT.out.free 0 0 rfl 6
      have ne1:=HT.out.ne 0 0 7 0 (by decide) rfl rfl
      have ne3:=HT.out.ne 3 0 7 0 (by decide) rfl rfl
      have ne5:=HT.out.ne 0 0 3 0 (by decide) rfl rfl
      simp only [] at ne1 ne3 ne5
      have ne2:=Ne.symm ne1
      have ne4:=Ne.symm ne3
      have ne6:=Ne.symm ne5
      simp only [GE3,Option.map_some,entC] at r0 b0 e7
      have hmb:m'≤999999:=by omega
      have HTS:=Lib.hid ((HT.out.set 7 0 rfl 7 (.pointer none)).set 0 0 rfl 6 (.int .i64 (m':Int)))
      simp only [List.set_cons_zero,List.set_cons_succ,List.getD_cons_zero,List.getD_cons_succ] at HTS
      clear hn he hx1 hy1 hy2 hcj hcur ha hq2 hdue hm
      have hnw:∀ j u,([ptr' a.eb]:List Value)[j]?=some u→(((wr.setCell ⟨a.eb,7,none⟩ (.pointer none)).setCell ⟨wb,6,none⟩ (.int .i64 (m':Int))).alloc (.cells #[ptr' a.eb] 271)).cell? ((⟨wr.heap.size,0,none⟩:Addr).add j)=some u:=by
       have:=news_alloc ((wr.setCell ⟨a.eb,7,none⟩ (.pointer none)).setCell ⟨wb,6,none⟩ (.int .i64 (m':Int))) 271 [ptr' a.eb]
       rw [heap_size_setCell,heap_size_setCell] at this
       exact this
      have HNW:=Lib.hid hnw
      clear hnw
      go_wp2_with (at_builtin;(with_reducible refine wpList_append_G rfl (.tmp 83) (.tmp 88) 351 rfl 271 1 8 _ Tryz.underlying351 Tryz.infoEntryP rfl (by decide) ((HTS.out).alloc0 _) 5 rfl rfl (HQ.out) rfl ⟨wr.heap.size,0,none⟩ 1 1 [ptr' a.eb] rfl rfl HNW.out (by simp [Value.oneCell']) (by unfold maxLen;omega) (by omega) ?_);intro v1 w2 gr1 r1 T1;simp only [List.set_cons_zero,List.set_cons_succ] at T1;have T1:=Lib.hid T1;have r1:=Lib.hid r1)
      have HQ1:=Lib.hid (show rowG 271 1 v1 (j+1) ((sl.take (j+1)).map fun a=>ptr' a.eb) gr1 from by rw [HQ2.out];simpa using r1.out)
      have HDN1:=Lib.hid (show FamP (entP (.pointer none)) (sl.take (j+1)) (gd++entB a.eb (.pointer none) a.e elv esl (.pointer eno)) from by rw [HQ2.out];exact FamP.snoc HDN.out ⟨HDU.out,_,_,_,rfl⟩)
      have HCJ1:=Lib.hid (HCJ.out.count HVL.out.1 m')
      have T2:=((T1.out.eq (H':=[[cl wb 244 (Cj.setIfInBounds 6 (.int .i64 (m':Int)))],gRest,[cl rb 296 cur],[cl a.nb 372 #[ptr' a.eb,.pointer none,.pointer none,.pointer none]],y1,gr1,gd,entB a.eb (.pointer none) a.e elv esl (.pointer eno),y2]) rfl).sum (H':=[[cl wb 244 (Cj.setIfInBounds 6 (.int .i64 (m':Int)))],gRest,[cl rb 296 cur],y1,gr1,gd++entB a.eb (.pointer none) a.e elv esl (.pointer eno),y2,[cl a.nb 372 #[ptr' a.eb,.pointer none,.pointer none,.pointer none]]])).pick [0,1,2,3,4,5,6] rfl
      have HT2:=Lib.hid T2
      clear T2 HT T1 HTS
      go_wp2
      first
      | (go_roundw
         case rel=>exact ⟨j+1,by omega,by go_num,m',_,gr1,y1,_,y2,by have:=HMJ.out;omega,HCJ1.out,HQ1.out,HY1.out,HDN1.out,HY2.out,HT2.out⟩
         case measure=>simp [intOf];omega)
      | exact ⟨⟨j+1,by omega,by go_num,m',_,gr1,y1,_,y2,by have:=HMJ.out;omega,HCJ1.out,HQ1.out,HY1.out,HDN1.out,HY2.out,HT2.out⟩,by simp [intOf];omega⟩
      | ((repeat apply Exists.intro);exact ⟨⟨⟨j+1,by omega,by go_num,m',_,gr1,y1,_,y2,by have:=HMJ.out;omega,HCJ1.out,HQ1.out,HY1.out,HDN1.out,HY2.out,HT2.out⟩,rfl⟩,by simp [intOf];omega⟩)
     ·obtain rfl:j=sl.length:=by omega
      have e:sl.take sl.length=sl:=List.take_length
      rw [e] at HQ HDN
      have hmm:totW { wj with lv:=wj.lv.set 0 (ls.set dg []) }=m:=by
       rw [totW_s,HCL.out];have:=HTO.out;omega
      have HM:=Lib.hid hmm
      clear hn he hmm e
      go_wp2
      go_ret2
      refine ⟨_,⟨_,sl,gq,gd,{ wj with lv:=wj.lv.set 0 (ls.set dg []) },_,rfl,?_,HQ.out,HDN.out,by rw [HM.out];exact HWH.out m Cj HCJ.out,?_,rfl⟩,(HT.out.sum (H':=[[cl wb 244 Cj]++gRest,gq,gd,gr++(gn'++ge')])).pick [0,1,2] rfl⟩
      ·rw [HFIN.out.1];exact HFIN.out.2.symm
      ·rw [HFIN.out.1];exact HCL.out
end
end
section
open Go.RowKit Go.Shelf
set_option maxRecDepth 100000 in
set_option maxHeartbeats 4000000 in
theorem levelNew_g:DoesG Tryz.prog 162 #[] [] fun e gs=>∃ b ss g,e=.returned (ptr' b)∧isLevel b ss g∧(∀ s∈ss,s.l=[])∧gs=[g]:=by
 intro w hw
 have T0:=TG.refl hw
 have HT:=Lib.hid T0
 clear hw T0
 go_enter Tryz.func162,Tryz.ntmps162
 go_wp2
 have T1:=HT.out.alloc (k:=w.heap.size) rfl 302 Tryz.zeroCells302
 go_loopw [2,5] (fun _ i wr=>∃ (k:Nat) (C:Array Value) (ss:List SlotL) (gH:List Blk),k≤64∧i=.int .i64 k∧C.size=66∧ss.length=k∧(∀ s∈ss,s.l=[])∧(∀ (i:Nat) (s:SlotL),ss[i]?=some s→C[i]?=some (ptr' s.lb))∧C[64]?=some (.int .u64 0)∧C[65]?=some (.int .i64 0)∧FamP slotP ss gH ∧
  TG [] w [[cl w.heap.size 302 C],gH] wr) (fun _ i _=>65 - (intOf i).toNat)
 case atStart=>exact ⟨0,Tryz.zeroCells302,[],[],by omega,rfl,by kernel_rfl,rfl,fun s h=>(by cases h),fun i s h=>(by simp at h),by kernel_rfl,by kernel_rfl,rfl,T1.sum (H':=[[cl w.heap.size 302 Tryz.zeroCells302],[]])⟩
 case round =>
  obtain ⟨lb,hlb⟩:∃ lb,lb=w.heap.size:=⟨_,rfl⟩
  rw [← hlb] at hrel ⊢
  obtain ⟨k,C,ss,gH,hk,rfl,hC,hl,he,hat,h64,h65,hF,T⟩:=hrel
  have HT:=Lib.hid T
  have HC:=Lib.hid hC
  have HS:=Lib.hid (And.intro hl (And.intro he (And.intro hat (And.intro h64 (And.intro h65 hF)))))
  clear T T1 hC hlb hl he hat h64 h65 hF
  by_cases hlt:k<64
  ·have c0:=Array.getElem?_eq_getElem (xs:=C) (i:=k) (by rw [HC.out];omega)
   have HC0:=Lib.hid c0
   clear c0
   go_wp2
   go_region_with (
    go_at_call 161
    refine (DoesG.use listNewE_g HT.out.drew [] rfl rfl).mono ?_
    rintro e w1 ⟨gs,⟨b,hb,g,rfl,hg,rfl⟩,Ta⟩
    simp only [PU] at Ta
    have c1:=(Ta.cell 0 0 rfl k).trans HC0.out
    have f1:=Ta.free 0 0 rfl k
    have HG:=Lib.hid hg
    have HT1:=Lib.hid Ta
    clear Ta hg)
   obtain ⟨hl,he,hat,h64,h65,hF⟩:=HS.out
   have hs2:∀ (i:Nat) (s:SlotL),(ss++[(⟨b,hb,[]⟩:SlotL)])[i]?=some s→(C.setIfInBounds k (ptr' b))[i]?=some (ptr' s.lb):=fun i s h=>by
    by_cases hi:i<ss.length
    ·rw [List.getElem?_append_left hi] at h
     rw [get_set_ne (by omega)];exact hat i s h
    ·rw [List.getElem?_append_right (by omega)] at h
     have:i - ss.length=0:=by
      rcases Nat.eq_zero_or_pos (i - ss.length) with h0 | h0
      ·exact h0
      ·rw [List.getElem?_cons] at h;simp [Nat.ne_of_gt h0] at h
     have hik:i=k:=by omega
     subst hik
     rw [this] at h
     simp only [List.getElem?_cons_zero,Option.some.injEq] at h
     subst h
     exact get_set_eq HC0.out
   have HS2:=Lib.hid (And.intro hs2 (And.intro (show ∀ s∈ss++[(⟨b,hb,[]⟩:SlotL)],s.l=[] from fun s h=>by (rcases List.mem_append.1 h with h | h;exact he s h;rw [List.mem_singleton.1 h])) (FamP.snoc (P:=slotP) (a:=⟨b,hb,[]⟩) hF HG.out)))
   have HX:=Lib.hid (And.intro (show (C.setIfInBounds k (ptr' b))[64]?=some (.int .u64 0) from (get_set_ne (by omega)).trans h64) (show (C.setIfInBounds k (ptr' b))[65]?=some (.int .i64 0) from (get_set_ne (by omega)).trans h65))
   have HLN:=Lib.hid hl
   clear hl he hat h64 h65 hF hs2
   go_wp2
   first
   | (go_roundw
      case rel=>exact ⟨k+1,_,ss++[⟨b,hb,[]⟩],gH++g,by omega,by go_num,by rw [Array.size_setIfInBounds];exact HC.out,by rw [List.length_append,HLN.out];rfl,HS2.out.2.1,HS2.out.1,HX.out.1,HX.out.2,HS2.out.2.2,(HT1.out.set 0 0 rfl k _).sum⟩
      case measure=>simp [intOf];omega)
   | exact ⟨⟨k+1,_,ss++[⟨b,hb,[]⟩],gH++g,by omega,by go_num,by rw [Array.size_setIfInBounds];exact HC.out,by rw [List.length_append,HLN.out];rfl,HS2.out.2.1,HS2.out.1,HX.out.1,HX.out.2,HS2.out.2.2,(HT1.out.set 0 0 rfl k _).sum⟩,by simp [intOf];omega⟩
   | ((repeat apply Exists.intro);exact ⟨⟨⟨k+1,_,ss++[⟨b,hb,[]⟩],gH++g,by omega,by go_num,by rw [Array.size_setIfInBounds];exact HC.out,by rw [List.length_append,HLN.out];rfl,HS2.out.2.1,HS2.out.1,HX.out.1,HX.out.2,HS2.out.2.2,(HT1.out.set 0 0 rfl k _).sum⟩,rfl⟩,by simp [intOf];omega⟩)
  ·go_wp2
   go_ret
   obtain ⟨hl,he,hat,h64,h65,hF⟩:=HS.out
   have ht:totL ss=0:=by
    unfold totL
    have:ss.map (fun s=>s.l.length)=List.replicate ss.length 0:=by
     rw [List.eq_replicate_iff]
     refine ⟨by simp,fun b hb=>?_⟩
     obtain ⟨s,hs,rfl⟩:=List.mem_map.1 hb
     rw [he s hs];rfl
    rw [this];simp
   exact ⟨_,⟨_,ss,_,rfl,⟨by omega,C,gH,⟨HC.out,hat,⟨0,h64⟩,by rw [ht];exact h65⟩,hF,rfl⟩,he,rfl⟩,HT.out.sum⟩
def lv0:LvA:=List.replicate 64 []
def wheel0:WheelA:=⟨0,List.replicate 4 lv0,[]⟩
theorem famP_rep {α:Type} {P:α→List Blk→Prop}:∀ n:Nat,FamP (FamP P) (List.replicate n []) []
 | 0=>rfl
 | n+1=>⟨[],[],rfl,famP_rep n,rfl⟩
theorem isLevE_new {b:Nat} {ss:List SlotL} {g:List Blk} (h:isLevel b ss g) (he:∀ s∈ss,s.l=[]) (home:Value):isLevE b home lv0 g:=by
 refine ⟨ss,g,[],h,?_,famP_rep 64,by simp⟩
 have:ss.map SlotL.l=List.replicate 64 []:=by
  rw [List.eq_replicate_iff]
  refine ⟨by rw [List.length_map];exact h.1,fun b hb=>?_⟩
  obtain ⟨s,hs,rfl⟩:=List.mem_map.1 hb
  exact he s hs
 rw [this];rfl
set_option maxRecDepth 100000 in
set_option maxHeartbeats 4000000 in
theorem wheelNew_g:DoesG Tryz.prog 131 #[.int .u64 0] [] fun e gs=>∃ b g,e=.returned (ptr' b)∧isWheelA b wheel0 0 g∧gs=[g]:=by
 intro w hw
 have T0:=TG.refl hw
 have HT:=Lib.hid T0
 clear hw T0
 go_enter Tryz.func131,Tryz.ntmps131
 go_wp2_with fail
 refine (DoesG.use (listNewE_g) (HT.out) [] rfl rfl).mono ?_
 rintro e w1 ⟨gs,⟨b0,h0,gB,rfl,hgB,rfl⟩,Ta⟩
 simp only [PU] at Ta
 have HB:=Lib.hid hgB
 clear hgB
 have HT:=Lib.hid Ta
 clear Ta
 go_wp2
 have T1:=HT.out.alloc (k:=w1.heap.size) rfl 244 #[.int .u64 0,.pointer none,.pointer none,.pointer none,.pointer none,ptr' b0,.int .i64 0]
 obtain ⟨wb,hwb⟩:∃ wb,wb=w1.heap.size:=⟨_,rfl⟩
 rw [← hwb] at T1 ⊢
 clear HT
 go_loopw [4,9] (fun _ i wr=>∃ (k:Nat) (C:Array Value) (vs:List Nat) (gV:List Blk),k≤4∧i=.int .i64 k∧C.size=7∧vs.length=k∧(C[0]?=some (.int .u64 0)∧C[5]?=some (ptr' b0)∧C[6]?=some (.int .i64 0))∧(∀ (i:Nat) (v:Nat),vs[i]?=some v→C[1+i]?=some (ptr' v)) ∧
  FamP (fun (z:Nat × LvA)=>isLevE z.1 (ptr' wb) z.2) (vs.zip (List.replicate k lv0)) gV∧TG [] w [[cl wb 244 C],gB,gV] wr) (fun _ i _=>5 - (intOf i).toNat)
 case atStart=>exact ⟨0,#[.int .u64 0,.pointer none,.pointer none,.pointer none,.pointer none,ptr' b0,.int .i64 0],[],[],by omega,rfl,rfl,rfl,⟨rfl,rfl,rfl⟩,fun i s h=>(by simp at h),rfl,(T1.pick [1,0] rfl).eq (by simp [pickG])⟩
 case round =>
  obtain ⟨k,C,vs,gV,hk,rfl,hC,hl,hx,hat,hF,T⟩:=hrel
  have HT:=Lib.hid T
  have HC:=Lib.hid hC
  have HS:=Lib.hid (And.intro hl (And.intro hx (And.intro hat hF)))
  clear T T1 hC hwb hl hx hat hF
  by_cases hlt:k<4
  ·have c0:=Array.getElem?_eq_getElem (xs:=C) (i:=1+k) (by rw [HC.out];omega)
   have HC0:=Lib.hid c0
   clear c0
   go_wp2
   go_region_with (
    go_at_call 162
    refine (DoesG.use levelNew_g HT.out.drew [] rfl rfl).mono ?_
    rintro e w2 ⟨gs,⟨b,ss,g,rfl,hg,he,rfl⟩,Ta⟩
    simp only [PU] at Ta
    have c1:=(Ta.cell 0 0 rfl (1+k)).trans HC0.out
    have f1:=Ta.free 0 0 rfl (1+k)
    have HG:=Lib.hid (isLevE_new hg he (ptr' wb))
    have HT1:=Lib.hid Ta
    clear Ta hg he)
   obtain ⟨hl,hx,hat,hF⟩:=HS.out
   have hs2:∀ (i:Nat) (v:Nat),(vs++[b])[i]?=some v→(C.setIfInBounds (1+k) (ptr' b))[1+i]?=some (ptr' v):=fun i s h=>by
    by_cases hi:i<vs.length
    ·rw [List.getElem?_append_left hi] at h
     rw [get_set_ne (by omega)];exact hat i s h
    ·rw [List.getElem?_append_right (by omega)] at h
     have:i - vs.length=0:=by
      rcases Nat.eq_zero_or_pos (i - vs.length) with h0 | h0
      ·exact h0
      ·rw [List.getElem?_cons] at h;simp [Nat.ne_of_gt h0] at h
     have hik:i=k:=by omega
     subst hik
     rw [this] at h
     simp only [List.getElem?_cons_zero,Option.some.injEq] at h
     subst h
     exact get_set_eq HC0.out
   have hz:(vs++[b]).zip (List.replicate (k+1) lv0)=vs.zip (List.replicate k lv0)++[(b,lv0)]:=by
    rw [show List.replicate (k+1) lv0=List.replicate k lv0++[lv0] from List.replicate_succ',List.zip_append (by rw [hl];simp)]
    rfl
   have HS2:=Lib.hid (And.intro hs2 (show FamP (fun (z:Nat × LvA)=>isLevE z.1 (ptr' wb) z.2) ((vs++[b]).zip (List.replicate (k+1) lv0)) (gV++g) from by rw [hz];exact FamP.snoc hF HG.out))
   have HX:=Lib.hid (show (C.setIfInBounds (1+k) (ptr' b))[0]?=some (.int .u64 0)∧(C.setIfInBounds (1+k) (ptr' b))[5]?=some (ptr' b0)∧(C.setIfInBounds (1+k) (ptr' b))[6]?=some (.int .i64 0) from ⟨(get_set_ne (by omega)).trans hx.1,(get_set_ne (by omega)).trans hx.2.1,(get_set_ne (by omega)).trans hx.2.2⟩)
   have HLN:=Lib.hid hl
   clear hl hx hat hF hs2 hz
   go_wp2
   first
   | (go_roundw
      case rel=>exact ⟨k+1,_,vs++[b],gV++g,by omega,by go_num,by rw [Array.size_setIfInBounds];exact HC.out,by rw [List.length_append,HLN.out];rfl,HX.out,HS2.out.1,HS2.out.2,(HT1.out.set 0 0 rfl (1+k) _).sum⟩
      case measure=>simp [intOf];omega)
   | exact ⟨⟨k+1,_,vs++[b],gV++g,by omega,by go_num,by rw [Array.size_setIfInBounds];exact HC.out,by rw [List.length_append,HLN.out];rfl,HX.out,HS2.out.1,HS2.out.2,(HT1.out.set 0 0 rfl (1+k) _).sum⟩,by simp [intOf];omega⟩
   | ((repeat apply Exists.intro);exact ⟨⟨⟨k+1,_,vs++[b],gV++g,by omega,by go_num,by rw [Array.size_setIfInBounds];exact HC.out,by rw [List.length_append,HLN.out];rfl,HX.out,HS2.out.1,HS2.out.2,(HT1.out.set 0 0 rfl (1+k) _).sum⟩,rfl⟩,by simp [intOf];omega⟩)
  ·obtain rfl:k=4:=by omega
   go_wp2
   go_ret
   obtain ⟨hl,hx,hat,hF⟩:=HS.out
   exact ⟨_,⟨wb,_,rfl,⟨C,vs,b0,h0,gV,gB,[],⟨HC.out,hx.1,hat,hx.2.1,hx.2.2⟩,hl,rfl,hF,HB.out,rfl,rfl⟩,rfl⟩,HT.out.sum⟩
end
section
open Go.RowKit Go.Shelf
attribute [local go_sem] Oper.semAt_some
theorem HasG.right {H K:GH} {w:World} (h:HasG (H++K) w):HasG K w:=by
 have hh:Has (ex H.flatten++ex K.flatten) w:=by
  have:Has (ex (H++K).flatten) w:=h
  rwa [List.flatten_append,ex_append] at this
 exact hh.right
def taskV (a:EntA):Array Value:=a.e.v.cells
set_option maxRecDepth 100000 in
set_option maxHeartbeats 4000000 in
theorem tasks_iter (tb:Nat) (l:List EntA) (v home:Value) (gr ge:List Blk) (hr:rowG 271 1 v l.length (l.map fun a=>ptr' a.eb) gr) (he:FamP (entP home) l ge) (hn:l.length≤1000000) :
 IterY Tryz.prog 309 #[ptr' tb] (itList (l.map taskV) [[cl tb 351 #[v]],gr,ge]) (0:Nat):=by
 intro ly J Jx hT hY H0 O0 W hJ0 hO hH
 have hO':O0=[[cl tb 351 #[v]],gr,ge]:=hO
 subst hO'
 have T0:=TG.refl hH
 have c0:=(TG.refl hH.right).cell 0 0 rfl 0
 simp only [GE2] at c0
 obtain ⟨av,cap,hv⟩:=rowG.val hr
 subst hv
 have HR:=Lib.hid hr
 have HE:=Lib.hid he
 have HH:=Lib.hid (And.intro hJ0 T0)
 have HY:=Lib.hid hY
 clear hr he hO hH hY hT hJ0 T0
 refine (callsIn_wide (n:=9)).1 (callsIn_of_wp Tryz.func309 rfl trivial ?_ rfl)
 simp only [Tryz.ntmps309,List.size_toArray,List.length_cons,List.length_nil,Nat.reduceAdd,Nat.reduceSub,Array.replicate_succ,Array.replicate_zero,List.push_toArray,List.append_toArray,List.nil_append,List.cons_append]
 gi_wp2
 gi_loopw [4,7] (fun _ i wr=>∃ (k:Nat) (H:GH),k≤l.length∧i=.int .i64 k∧J k H∧TG (H0++[[cl tb 351 #[.slice av l.length cap]],gr,ge]) W (H++[[cl tb 351 #[.slice av l.length cap]],gr,ge]) wr) (fun _ i _=>l.length+1 - (intOf i).toNat)
 case atStart=>exact ⟨0,H0,by omega,rfl,HH.out.1,HH.out.2⟩
 case round =>
  obtain ⟨k,H,hk,rfl,hj,T⟩:=hrel
  clear HH c0
  by_cases hlt:k<l.length
  ·obtain ⟨a,ha⟩:∃ a,l[k]?=some a:=⟨_,List.getElem?_eq_getElem hlt⟩
   have hla:(l.map taskV).length=l.length:=List.length_map _
   have hat:(l.map taskV)[k]?=some (taskV a):=by rw [List.getElem?_map,ha];rfl
   have hy0:=HY.out k #[.agg (taskV a)] [] (k+1) H wr hj ⟨⟨_,hat,rfl⟩,rfl,rfl⟩ (by rw [List.append_nil];exact T.has.left)
   obtain ⟨fn,tmps,assign,body,hy,hR⟩:=yield_any (n:=8) hy0
   clear hy0
   have TO:=TG.refl T.has.right
   obtain ⟨u,y,⟨hdue,elv,esl,eno,rfl⟩,hp,_⟩:=HE.out.out ha
   have TE:=((TO.permAt 2 rfl hp).sum (H':=[[cl tb 351 #[.slice av l.length cap]],gr,entB a.eb home a.e elv esl (.pointer eno),y]))
   obtain ⟨rb,cap',cur,hv,rfl,_,_,_,hcur⟩:=HR.out.open (by omega)
   cases hv
   have hcj:=hcur k (by omega)
   rw [List.getElem?_map,ha] at hcj
   have r0:=(TE.cell 1 0 rfl k).trans hcj
   have e1:=TE.cell 2 0 rfl 1
   have e2:=TE.cell 2 0 rfl 2
   have e3:=TE.cell 2 0 rfl 3
   have e4:=TE.cell 2 0 rfl 4
   have e5:=TE.cell 2 0 rfl 5
   simp only [entC,GE3,Option.map_some] at r0 e1 e2 e3 e4 e5
   simp only [taskV,TaskS.cells] at hy
   have HTT:=Lib.hid T
   have HRR:=Lib.hid hR
   clear hR T TO TE hcur hcj hj hp hat hla hdue
   gi_wp2
   refine HRR.out.mono ?_
   rintro e W' ⟨H',hT',hj'⟩
   have T2:=HTT.out.trans ((hT'.app (a':=H) (by simp)).frame HTT.out.has)
   have HT2:=Lib.hid T2
   have HJ:=Lib.hid hj'
   clear hT' hj' T2 hy r0 e1 e2 e3 e4 e5
   rcases HJ.out with ⟨rfl,hj'⟩ | ⟨rfl,hj'⟩
   ·have HJ2:=Lib.hid hj'
    clear hj' HJ
    gi_wp2
    go_roundw
    case rel=>exact ⟨k+1,H',by omega,by go_num,HJ2.out,HT2.out⟩
    case measure=>simp [intOf];omega
   ·have HJ2:=Lib.hid hj'
    clear hj' HJ
    gi_wp2
    refine bodyPost_ret (results_none rfl _ _ _) rfl ?_
    exact ⟨⟨_,rfl⟩,k+1,H',_,HT2.out,.inr HJ2.out⟩
  ·have:k=l.length:=by omega
   subst this
   gi_wp2
   go_end0
   exact ⟨⟨_,rfl⟩,l.length,H,_,T,.inl ⟨(List.length_map _).symm,hj,rfl⟩⟩
end
section
open Go.RowKit Go.Shelf
def isWheel (wb:Nat) (S:WheelS) (g:List Blk):Prop:=∃ w:WheelA,w.s=S∧isWheelA wb w (totW w) g
structure WheelOk (S:WheelS):Prop where
 sh:S.Sh
 now:S.now<16000000
 tot:totS S≤999999
theorem adv_facts {S:WheelS} (h:S.Sh):S.adv.1.Sh∧S.adv.1.now=S.now+1∧totS S.adv.1+S.adv.2.length=totS S:=by
 have h0:({ S with now:=S.now+1 }:WheelS).Sh:=⟨h.l4,h.l64⟩
 have h1:=WheelS.down_sh (min (zerosT (S.now+1)) 3) h0
 have h2:=WheelS.down_now (min (zerosT (S.now+1)) 3) { S with now:=S.now+1 }
 refine ⟨WheelS.clear_sh h1 _ _,h2,?_⟩
 have h3:=totS_clear h1 (l:=0) (by decide) (dig_lt (WheelS.down (min (zerosT (S.now+1)) 3) { S with now:=S.now+1 }).now 0)
 have h4:=totS_down (min (zerosT (S.now+1)) 3) h0 (by omega)
 show totS (WheelS.clear _ _ _)+(WheelS.slot _ _ _).length=_
 rw [h3,h4];rfl
section
variable {wb:Nat} {S:WheelS} {g:List Blk}
theorem wheelNow_r (hg:isWheel wb S g):ReadsG Tryz.prog 106 #[ptr' wb] [g] (.int .u64 S.now):=by
 obtain ⟨W0,rfl,hg⟩:=hg
 obtain ⟨C,vs,bb,gR,hC,hvl,rfl,hback⟩:=hg.open
 intro w hw
 have T0:=TG.refl hw
 have HT:=Lib.hid T0
 clear hw T0
 have c0:=((HT.out.sum (H':=[[cl wb 244 C],gR])).cell 0 0 rfl 0).trans hC.now
 have hs:W0.s.now=W0.now:=rfl
 rw [hs]
 clear hC hback hg hvl
 go_enter Tryz.func106,Tryz.ntmps106
 go_wp2
 go_ret
 exact ⟨rfl,0,rfl⟩
def armD (S:WheelS) (t:TaskS):Nat:=max t.dl.toNat (S.now+1)
def armE (S:WheelS) (t:TaskS):EntS:=⟨armD S t,{ t with dl:=armD S t },armD S t⟩
set_option maxRecDepth 100000 in
set_option maxHeartbeats 4000000 in
theorem shardArm_g (b rb lb:Nat) (hg:isWheel wb S g) (ho:WheelOk S) (t:TaskS) (hs:0≤t.slot) (hd:0≤t.dl∧t.dl<18446744073709551616) :
 DoesG Tryz.prog 312 #[ptr' b,.agg t.cells] [shardB b rb lb wb,g] fun e gs=>e=.returned (.tuple #[.int .u64 (armD S t),.int .i64 0])∧∃ g',isWheel wb (S.place (armE S t)) g'∧gs=[shardB b rb lb wb,g']:=by
 have HNW:=Lib.hid (wheelNow_r hg)
 have hl:=timesLater_g t.dl S.now (by omega) (by have:=ho.now;omega) hd.1 hd.2
 have hmax:max t.dl ((S.now:Int)+1)=(armD S t:Int):=by
  unfold armD;have:=hd.1;omega
 rw [hmax] at hl
 have HLT:=Lib.hid hl
 have hlt:S.now<armD S t:=by unfold armD;omega
 have hdn:armD S t<18446744073709551616:=by unfold armD;have:=hd.2;have:=ho.now;omega
 have hI:DoesG Tryz.prog 328 #[ptr' wb,.int .u64 (armD S t),.agg ({ t with dl:=armD S t }:TaskS).cells] [g] fun e gs=>∃ eb,e=.returned (.tuple #[ptr' eb,.int .i64 0])∧∃ g',isWheel wb (S.place (armE S t)) g'∧gs=[g']:=by
  obtain ⟨W0,rfl,hg⟩:=hg
  refine (insert_g hg ho.sh ⟨by have:=ho.now;have e:W0.s.now=W0.now:=rfl;omega,by rw [totW_s];exact ho.tot⟩ (armD W0.s t) hdn hlt { t with dl:=armD W0.s t }).mono ?_
  rintro e gs ⟨eb,he,w',g',h1,h2,rfl⟩
  exact ⟨eb,he,g',⟨w',h2,h1⟩,rfl⟩
 have HI:=Lib.hid hI
 generalize S.place (armE S t)=S1 at *
 generalize armD S t=d at *
 clear hl hmax hlt hdn hI ho hg
 have hsn:¬ t.slot<0:=by omega
 intro w hw
 have T0:=TG.refl hw
 have HT:=Lib.hid T0
 clear hw T0
 have hf:=fun w=>(inner_field (ptr' rb) (ptr' lb) (ptr' wb) w).2.2
 simp only [TaskS.cells] at HI ⊢
 go_enter Tryz.func312,Tryz.ntmps312
 go_wp2_with fail
 refine (DoesG.use (shardParts_g b rb lb wb) (HT.out.alloc (k:=w.heap.size) rfl 40 #[.int .u64 t.id,.int .i64 t.slot,.int .u64 t.gen,.int .u64 t.dl,.int .u64 t.per]) [0] rfl rfl).mono ?_
 rintro e w1 ⟨gs,⟨rfl,rfl⟩,Ta⟩
 simp only [PU] at Ta
 have HT:=Lib.hid Ta
 clear Ta
 have a0:=HT.out.cell 2 0 rfl 0
 have a1:=HT.out.cell 2 0 rfl 1
 have a2:=HT.out.cell 2 0 rfl 2
 have a3:=HT.out.cell 2 0 rfl 3
 have fa3:=HT.out.free 2 0 rfl 3
 have a4:=HT.out.cell 2 0 rfl 4
 simp only [GE4] at a0 a1 a2 a3 a4
 go_wp2_with fail
 refine wp_region_mix1 4 (by kernel_rfl) (by kernel_rfl) ?_
 simp only [TD4]
 repeat (go_big_quiet_step ((first | (go_at_call 106;with_reducible exact ReadsG.quiet (HNW.out) HT.out _ [1] rfl rfl))))
 refine wpQuiet_nil ?_
 intro _ hw'
 obtain ⟨nq,hw''⟩:=hw'
 subst hw''
 have HT:=Lib.hid (HT.out.drewN nq)
 go_wp2_with fail
 refine (DoesG.use (HLT.out) (HT.out) [] rfl rfl).mono ?_
 rintro e w1 ⟨gs,⟨rfl,rfl⟩,Ta⟩
 simp only [PU] at Ta
 clear a0 a1 a2 a3 a4 fa3
 have HT:=Lib.hid Ta
 clear Ta
 go_wp2_with fail
 refine ⟨rfl,?_⟩
 have a0:=HT.out.cell 2 0 rfl 0
 have a1:=HT.out.cell 2 0 rfl 1
 have a2:=HT.out.cell 2 0 rfl 2
 have a3:=HT.out.cell 2 0 rfl 3
 have fa3:=HT.out.free 2 0 rfl 3
 have a4:=HT.out.cell 2 0 rfl 4
 simp only [GE4] at a0 a1 a2 a3 a4
 go_wp2_with fail
 refine (DoesG.use (HI.out) (HT.out.set 2 0 rfl 3 (.int .u64 d)) [1] rfl rfl).mono ?_
 rintro e w1 ⟨gs,⟨eb,rfl,g1,hg1,rfl⟩,Ta⟩
 simp only [PU] at Ta
 have HG:=Lib.hid hg1
 clear hg1 a0 a1 a2 a3 a4 fa3
 have HT:=Lib.hid Ta
 clear Ta
 go_wp2
 go_ret2
 exact ⟨_,⟨rfl,g1,HG.out,rfl⟩,HT.out.pick [0,1] rfl⟩
theorem tasks_g (v:Value) (hv:∃ a n c,v=.slice a n c):DoesG Tryz.prog 286 #[v] [] fun e gs=>∃ tb,e=.returned (.func (.func 309) #[] #[ptr' tb])∧gs=[[cl tb 351 #[v]]]:=by
 obtain ⟨a,n,c,rfl⟩:=hv
 intro w hw
 have T0:=TG.refl hw
 have HT:=Lib.hid T0
 clear hw T0
 go_enter Tryz.func286,Tryz.ntmps286
 go_wp2
 go_ret
 exact ⟨_,⟨_,rfl,rfl⟩,HT.out.alloc rfl _ _⟩
def tasksV (l:List TaskS):List Value:=flatV (l.map TaskS.cells)
set_option maxRecDepth 100000 in
set_option maxHeartbeats 4000000 in
theorem shardTurn_g (b rb lb:Nat) (hg:isWheel wb S g) (ho:WheelOk S) :
 DoesG Tryz.prog 262 #[ptr' b] [shardB b rb lb wb,g] fun e gs=>∃ v g' gr,e=.returned (.tuple #[v,.int .i64 0])∧isWheel wb S.adv.1 g'∧rowG 40 5 v S.adv.2.length (tasksV (S.adv.2.map EntS.v)) gr∧gs=[shardB b rb lb wb,g',gr]:=by
 have hfa:=adv_facts ho.sh
 have hA:DoesG Tryz.prog 284 #[ptr' wb] [g] fun e gs=>∃ (v:Value) (l:List EntA) (gr ge:List Blk) (g':List Blk),e=.returned (.tuple #[v,.int .i64 0])∧l.map EntA.e=S.adv.2∧rowG 271 1 v l.length (l.map fun a=>ptr' a.eb) gr∧FamP (entP (.pointer none)) l ge∧isWheel wb S.adv.1 g'∧gs=[g',gr,ge]:=by
  obtain ⟨W0,rfl,hg⟩:=hg
  refine (advance_g hg ho.sh ho.now (by rw [totW_s];exact ho.tot)).mono ?_
  rintro e gs ⟨v,l,gr,ge,w',g',h1,h2,h3,h4,h5,h6,rfl⟩
  exact ⟨v,l,gr,ge,g',h1,h2,h3,h4,⟨w',h6,h5⟩,rfl⟩
 have HA:=Lib.hid hA
 have hlen:S.adv.2.length≤1000000:=by have:=ho.tot;omega
 have HLE:=Lib.hid hlen
 generalize S.adv=R at *
 obtain ⟨S1,es⟩:=R
 simp only at HA HLE ⊢
 clear hfa hA hlen ho hg
 intro w hw
 have T0:=TG.refl hw
 have HT:=Lib.hid T0
 clear hw T0
 have hf:=fun w=>(inner_field (ptr' rb) (ptr' lb) (ptr' wb) w).2.2
 go_enter Tryz.func262,Tryz.ntmps262
 go_wp2_with fail
 refine (DoesG.use (shardParts_g b rb lb wb) (HT.out) [0] rfl rfl).mono ?_
 rintro e w1 ⟨gs,⟨rfl,rfl⟩,Ta⟩
 simp only [PU] at Ta
 have HT:=Lib.hid Ta
 clear Ta
 go_wp2_with fail
 refine (DoesG.use (HA.out) (HT.out) [1] rfl rfl).mono ?_
 rintro e w1 ⟨gs,⟨v,l,gr,ge,g1,rfl,hl,hr,he,hg1,rfl⟩,Ta⟩
 simp only [PU] at Ta
 have HG:=Lib.hid hg1
 have HR:=Lib.hid hr
 have HE:=Lib.hid he
 clear hg1 hr he
 have HT:=Lib.hid Ta
 clear Ta
 have hll:l.length=es.length:=by rw [← hl,List.length_map]
 have hn:l.length≤1000000:=by rw [hll];exact HLE.out
 have htv:l.map taskV=(es.map EntS.v).map TaskS.cells:=by rw [← hl];simp [List.map_map,Function.comp_def,taskV]
 obtain ⟨av,cap,hv⟩:=rowG.val HR.out
 subst hv
 have HC:=Lib.hid (show ∀ tb,_ from fun tb=>collectT_g (enters_of Tryz.func309 (by kernel_rfl) rfl) (tasks_iter tb l (.slice av l.length cap) (.pointer none) gr ge HR.out HE.out hn) (fun c hc=>by
  obtain ⟨a,_,rfl⟩:=List.mem_map.1 hc
  exact ⟨_,_,_,_,_,rfl⟩) (by rw [List.length_map];exact hn))
 have HTV:=Lib.hid (And.intro hll htv)
 clear hll htv hn
 go_wp2_with fail
 refine (DoesG.use (tasks_g _ ⟨_,_,_,rfl⟩) (HT.out) [] rfl rfl).mono ?_
 rintro e w1 ⟨gs,⟨tb,rfl,rfl⟩,Ta⟩
 simp only [PU] at Ta
 have HT:=Lib.hid Ta
 clear Ta
 go_wp2_with fail
 refine (DoesG.use (HC.out tb) (HT.out) [4,2,3] rfl rfl).mono ?_
 rintro e w1 ⟨gs,⟨v2,g2,rfl,hr2,rfl⟩,Ta⟩
 simp only [PU] at Ta
 have HR2:=Lib.hid hr2
 clear hr2
 have HT:=Lib.hid Ta
 clear Ta
 have hrf:rowG 40 5 v2 es.length (tasksV (es.map EntS.v)) g2:=by
  have:=HR2.out
  rw [List.length_map,HTV.out.1,HTV.out.2] at this
  exact this
 obtain ⟨a2,cap2,hv⟩:=rowG.val hrf
 subst hv
 have HRF:=Lib.hid hrf
 clear hrf hl
 go_wp2
 go_ret2
 exact ⟨_,⟨_,g1,g2,rfl,HG.out,HRF.out,rfl⟩,HT.out.pick [0,1,5] rfl⟩
end
end
end Go.Proofs.YtblhfbcodbjgcaaGreat
