import Derived.Test.YtcneeepdclgdcaaGreatCO4
import Derived.Test.YtcneeepdclgdcaaGreatChecked
import Derived.WalkKit
import Derived.TacticsInMore
import Derived.LoopNIn
import Derived.OwnWalkIn
import Derived.Outline
import Derived.Shelf.RegionOpen
import Derived.LoopIn
set_option maxRecDepth 100000
set_option maxHeartbeats 4000000
namespace Go.Proofs.YtcneeepdclgdcaaGreat
set_option linter.unusedVariables false
set_option linter.unusedSimpArgs false
open Go.Proofs.Tryz
section
open Go.RowKit Go.Shelf
attribute [local go_sem] Oper.semAt_some
structure Cfg where
 sh:Int
 cap:Int
 ring:Int
 room:Int
 wk:Int
 cli:Int
def Cfg.cells (c:Cfg):Array Value:=#[.int .i64 c.sh,.int .i64 c.cap,.int .i64 c.ring,.int .i64 c.room,.int .i64 c.wk,.int .i64 c.cli]
def Cfg.pair (c:Cfg):Nat→Int × Int
 | 0=>(c.sh,4) | 1=>(c.cap,64) | 2=>(c.ring,64) | 3=>(c.room,16) | 4=>(c.wk,4) | _=>(c.cli,8)
def Cfg.fine (c:Cfg) (k:Nat):Bool:=decide (1≤(c.pair k).1) && decide ((c.pair k).1≤(c.pair k).2)
def Cfg.ok (c:Cfg):Bool:=c.fine 0 && c.fine 1 && c.fine 2 && c.fine 3 && c.fine 4 && c.fine 5
theorem qd4 (i cb:Nat) (c:Cfg):ql3 prog 174 #[.pointer (some ⟨cb,0,none⟩)] 0 6 (fun k=>#[.int .i64 (c.pair k).1,.int .i64 (c.pair k).2])
 (fun _ H=>(H.getD i [])[0]?=some (cl cb 30 c.cells)):=by
 intro W l J Jx hJ hJx hT hY h0
 have hC:∀ k W',k≤6→J k W'→∀ o,W'.cell? ⟨cb,o,none⟩=c.cells[o]?:=fun k W' hk hj o=>by
  obtain ⟨H,ht,hh⟩:=hT k W' hk hj;exact Qw (hh.obj i 0 ht) o
 simp only [Cfg.cells] at hC;have HC:=Vh hC;clear hC hT hJ hJx;refine (callsIn_wide (n:=9)).1 (callsIn_of_wp func174 rfl trivial ?_ rfl)
 simp only [ntmps174,List.size_toArray,List.length_cons,List.length_nil,Nat.reduceAdd,Nat.reduceSub,Array.replicate_succ,Array.replicate_zero,List.push_toArray,List.append_toArray,List.nil_append,List.cons_append];have c0:=HC.out 0 W (by decide) h0;obtain ⟨fn0,tmps0,as0,bd0,hy0,hR0⟩:=Zw (n:=8) (hY 0 (by decide) W h0 (Nat.le_refl _));simp only [Cfg.pair] at hy0;have HR0:=Vh hR0;clear hR0;gi_wp2
 refine HR0.out.mono ?_
 clear hy0 c0;rintro e V0 ⟨hkw0,⟨rfl,hj0⟩ | ⟨rfl,hj0⟩⟩
 ·have hz0:W.heap.size≤V0.heap.size:=by have:=hkw0.size;omega
  have c1:=HC.out 1 V0 (by decide) hj0;obtain ⟨fn1,tmps1,as1,bd1,hy1,hR1⟩:=Zw (n:=8) (hY 1 (by decide) V0 hj0 (by have hs:=hz0;have:=hkw0.size;omega));simp only [Cfg.pair] at hy1;have HR1:=Vh hR1;clear hR1;gi_wp2
  refine HR1.out.mono ?_
  clear hy1 c1;rintro e V1 ⟨hkw1,⟨rfl,hj1⟩ | ⟨rfl,hj1⟩⟩
  ·have hz1:W.heap.size≤V1.heap.size:=by have:=hkw1.size;omega
   have c2:=HC.out 2 V1 (by decide) hj1;obtain ⟨fn2,tmps2,as2,bd2,hy2,hR2⟩:=Zw (n:=8) (hY 2 (by decide) V1 hj1 (by have hs:=hz1;have:=hkw1.size;omega));simp only [Cfg.pair] at hy2;have HR2:=Vh hR2;clear hR2;gi_wp2
   refine HR2.out.mono ?_
   clear hy2 c2;rintro e V2 ⟨hkw2,⟨rfl,hj2⟩ | ⟨rfl,hj2⟩⟩
   ·have hz2:W.heap.size≤V2.heap.size:=by have:=hkw2.size;omega
    have c3:=HC.out 3 V2 (by decide) hj2;obtain ⟨fn3,tmps3,as3,bd3,hy3,hR3⟩:=Zw (n:=8) (hY 3 (by decide) V2 hj2 (by have hs:=hz2;have:=hkw2.size;omega));simp only [Cfg.pair] at hy3;have HR3:=Vh hR3;clear hR3;gi_wp2
    refine HR3.out.mono ?_
    clear hy3 c3;rintro e V3 ⟨hkw3,⟨rfl,hj3⟩ | ⟨rfl,hj3⟩⟩
    ·have hz3:W.heap.size≤V3.heap.size:=by have:=hkw3.size;omega
     have c4:=HC.out 4 V3 (by decide) hj3;obtain ⟨fn4,tmps4,as4,bd4,hy4,hR4⟩:=Zw (n:=8) (hY 4 (by decide) V3 hj3 (by have hs:=hz3;have:=hkw3.size;omega));simp only [Cfg.pair] at hy4;have HR4:=Vh hR4;clear hR4;gi_wp2
     refine HR4.out.mono ?_
     clear hy4 c4;rintro e V4 ⟨hkw4,⟨rfl,hj4⟩ | ⟨rfl,hj4⟩⟩
     ·have hz4:W.heap.size≤V4.heap.size:=by have:=hkw4.size;omega
      have c5:=HC.out 5 V4 (by decide) hj4;obtain ⟨fn5,tmps5,as5,bd5,hy5,hR5⟩:=Zw (n:=8) (hY 5 (by decide) V4 hj4 (by have hs:=hz4;have:=hkw4.size;omega));simp only [Cfg.pair] at hy5;have HR5:=Vh hR5;clear hR5;gi_wp2
      refine HR5.out.mono ?_
      clear hy5 c5;rintro e V5 ⟨hkw5,⟨rfl,hj5⟩ | ⟨rfl,hj5⟩⟩
      ·have hz5:W.heap.size≤V5.heap.size:=by have:=hkw5.size;omega
       gi_wp2
       refine bodyPost_end (results_none rfl _ _ _) rfl ?_
       exact ⟨⟨_,rfl⟩,.inl hj5⟩
      ·gi_wp2
       repeat (refine ⟨(fun f hf=>by cases hf),?_⟩;(with_reducible apply_assumption);gi_wp2)
       refine bodyPost_end (results_none rfl _ _ _) rfl ?_
       exact ⟨⟨_,rfl⟩,.inr ⟨5,by decide,hj5⟩⟩
     ·gi_wp2
      repeat (refine ⟨(fun f hf=>by cases hf),?_⟩;(with_reducible apply_assumption);gi_wp2)
      refine bodyPost_end (results_none rfl _ _ _) rfl ?_
      exact ⟨⟨_,rfl⟩,.inr ⟨4,by decide,hj4⟩⟩
    ·gi_wp2
     repeat (refine ⟨(fun f hf=>by cases hf),?_⟩;(with_reducible apply_assumption);gi_wp2)
     refine bodyPost_end (results_none rfl _ _ _) rfl ?_
     exact ⟨⟨_,rfl⟩,.inr ⟨3,by decide,hj3⟩⟩
   ·gi_wp2
    repeat (refine ⟨(fun f hf=>by cases hf),?_⟩;(with_reducible apply_assumption);gi_wp2)
    refine bodyPost_end (results_none rfl _ _ _) rfl ?_
    exact ⟨⟨_,rfl⟩,.inr ⟨2,by decide,hj2⟩⟩
  ·gi_wp2
   repeat (refine ⟨(fun f hf=>by cases hf),?_⟩;(with_reducible apply_assumption);gi_wp2)
   refine bodyPost_end (results_none rfl _ _ _) rfl ?_
   exact ⟨⟨_,rfl⟩,.inr ⟨1,by decide,hj1⟩⟩
 ·gi_wp2
  repeat (refine ⟨(fun f hf=>by cases hf),?_⟩;(with_reducible apply_assumption);gi_wp2)
  refine bodyPost_end (results_none rfl _ _ _) rfl ?_
  exact ⟨⟨_,rfl⟩,.inr ⟨0,by decide,hj0⟩⟩
theorem qiv (c:Cfg):Qa prog 131 #[.agg c.cells] [] fun e gs=>∃ cb,e=.returned (.func (.func 174) #[] #[.pointer (some ⟨cb,0,none⟩)])∧gs=[[cl cb 30 c.cells]]:=by
 refine GO fun w HT=>?_
 simp only [Cfg.cells];go_enter func131,ntmps131
 go_wp2
 go_ret
 exact ⟨_,⟨_,rfl,rfl⟩,HT.out.alloc rfl _ _⟩
def Cfg.upto (c:Cfg) (k:Nat):Prop:=∀ i,i<k→c.fine i=true
theorem Cfg.ok_of {c:Cfg} (h:c.upto 6):c.ok=true:=by
 unfold Cfg.ok;rw [h 0 (by decide),h 1 (by decide),h 2 (by decide),h 3 (by decide),h 4 (by decide),h 5 (by decide)];rfl
theorem Cfg.not_ok {c:Cfg} {k:Nat} (hk:k<6) (h:c.fine k=false):c.ok=false:=by
 have:k=0∨k=1∨k=2∨k=3∨k=4∨k=5:=by omega
 unfold Cfg.ok;rcases this with rfl | rfl | rfl | rfl | rfl | rfl <;> simp [h]
def chkJ (b1 b2 cb:Nat) (c:Cfg) (k:Nat) (H:GH):Prop:=H=[[cl b1 30 c.cells],[cl b2 26 #[.int .i64 0]],[cl cb 30 c.cells]]∧c.upto k
def chkX (b1 b2 cb:Nat) (c:Cfg) (k:Nat) (cd:Code) (H:GH):Prop:=cd=.ret∧H=[[cl b1 30 c.cells],[cl b2 26 #[.int .i64 8]],[cl cb 30 c.cells]]∧c.ok=false
end
section
open Go.RowKit Go.Shelf
attribute [local go_sem] Oper.semAt_some
theorem qkn (c:Cfg):Qa prog 74 #[.agg c.cells] [] fun e gs=>e=.returned (.int .i64 (if c.ok then 0 else 8))∧gs=[]:=by
 refine GO fun w HT=>?_
 have HB:=Vh (qiv c);obtain ⟨C,hC⟩:∃ C,C=c.cells:=⟨_,rfl⟩;have hC':=hC;simp only [Cfg.cells] at hC';rw [← hC] at HB;have HCC:=Vh hC;simp only [Cfg.cells];refine qan func74 rfl ?_
 simp only [ntmps74,List.size_toArray,List.length_cons,List.length_nil,Nat.reduceAdd,Nat.reduceSub,Array.replicate_succ,Array.replicate_zero,List.push_toArray,List.append_toArray,List.nil_append,List.cons_append];go_wp2_with fail
 rw [← hC'];clear hC hC';refine (Qa.use HB.out ((HT.out.alloc rfl _ _).alloc rfl _ _) [] rfl rfl).mono ?_
 rintro e w1 ⟨gs,⟨cb,rfl,rfl⟩,Ta⟩;simp only [qae,List.nil_append,List.cons_append,HCC.out] at Ta;go_wp2
 refine qhl rfl (enters_of func174 (by kernel_rfl) rfl) (qd4 2 cb c) (fun _ _=>rfl) Ta (chkJ (w.heap.size) (w.heap.size+1) cb c) (chkX (w.heap.size) (w.heap.size+1) cb c) ?h0 ?hT ?hbody ?hdone ?hstop
 case h0=>exact ⟨by simp,fun i hi=>absurd hi (Nat.not_lt_zero _)⟩
 case hT=>rintro k H _ ⟨rfl,_⟩;rfl
 case hbody =>
  rintro k hk H W l ⟨rfl,hu⟩ hH;obtain ⟨x,hx⟩:∃ x,(c.pair k).1=x:=⟨_,rfl⟩;obtain ⟨m,hm⟩:∃ m,(c.pair k).2=m:=⟨_,rfl⟩;simp only [hx,hm];have hf:c.fine k=(decide (1≤x) && decide (x≤m)):=by unfold Cfg.fine;rw [hx,hm]
  have HF:=Vh hf;have HU:=Vh hu;have HH:=Vh hH;clear hx hm hf hu hH;refine qt (n:=9) ?_
  gi_wp2
  refine ⟨_,TG.refl HH.out,fun Wb hb=>?_⟩
  have HT:=Vh (TG.refl hb);have c1:=HT.out.cell 1 0 rfl 0;have f1:=HT.out.free 1 0 rfl 0;clear hb
  have bad:c.fine k=false→∃ H',chkX (w.heap.size) (w.heap.size+1) cb c (k+1) .ret H'∧TG [[cl w.heap.size 30 c.cells],[cl (w.heap.size+1) 26 #[.int .i64 0]],[cl cb 30 c.cells]] Wb H' (Wb.setCell ⟨w.heap.size+1,0,none⟩ (.int .i64 8)) :=
   fun h=>⟨_,⟨rfl,rfl,Cfg.not_ok hk h⟩,HT.out.set 1 0 rfl 0 (.int .i64 8)⟩
  have HBAD:=Vh bad;clear bad;by_cases h1:x<1
  ·refine qt (n:=9) ?_
   gi_wp2
   exact HBAD.out (by rw [HF.out];simp;omega)
  ·by_cases h2:m<x
   ·refine qt (n:=9) ?_
    gi_wp2
    exact HBAD.out (by rw [HF.out];simp;omega)
   ·refine qt (n:=9) ?_
    gi_wp2
    refine ⟨_,⟨rfl,fun i hi=>?_⟩,HT.out⟩
    by_cases hik:i=k
    ·subst hik;rw [HF.out];simp;omega
    ·exact HU.out i (by omega)
 case hdone =>
  rintro H W D ⟨rfl,hu⟩ hT hD hK;have HX:=Vh (And.intro hT (And.intro hD hK));have HT:=Vh (TG.refl hT.has);have HU:=Vh (Cfg.ok_of hu);have c1:=hT.cell 1 0 rfl 0;have f1:=hT.free 1 0 rfl 0;clear hu hT hD hK;go_wp2
  obtain ⟨hT,hD,hK⟩:=HX.out;have T2:=HT.out.set 1 0 rfl 0 (.int .i64 0);have T3:=hT.fin hD T2 (.deferred none);have c2:=T3.cell 1 0 rfl 0;refine qc8 (v:=.int .i64 0) ((Below.heap_setCell W _ _ D (by have:=hD.2.2;intro e;subst e;exact this (by simp [keys,ex]))).trans hK) (by simp [results,results74,go_sem,c2]) ⟨[],⟨by simp [HU.out],rfl⟩,T3.pick [] rfl⟩
 case hstop =>
  rintro k cd H W D hk ⟨rfl,rfl,hok⟩ hT hD hK;have T3:=hT.fin hD (TG.refl hT.has) (.deferred none);have c2:=T3.cell 1 0 rfl 0;refine wp_ret (qc8 (v:=.int .i64 8) hK (by simp [results,results74,go_sem,c2]) ⟨[],⟨by simp [hok],rfl⟩,T3.pick [] rfl⟩)
end
end Go.Proofs.YtcneeepdclgdcaaGreat
