import Derived.Test.YtcneeepdclgdcaaGreatPF4
import Derived.Test.YtcneeepdclgdcaaGreatChecked
import Derived.WalkKit
import Derived.TacticsInMore
import Derived.LoopNIn
import Derived.OwnWalkIn
import Derived.Outline
import Derived.Shelf.RegionOpen
import Derived.LoopIn
set_option maxRecDepth 100000
set_option maxHeartbeats 4000000
namespace Go.Proofs.YtcneeepdclgdcaaGreat
open Go.IntKind renaming i64->WK
open Go.Value renaming int->WL
open Go renaming bodyPost_end->WM,results_none->WN
open _root_.List renaming cons_append->WO,nil_append->WQ,append_toArray->WT,size_toArray->WU,push_toArray->WV,length_cons->WW,length_nil->WY
open _root_.Array renaming replicate_succ->WR,replicate_zero->WS
open Go.Oper renaming semAt_some->WX
set_option linter.all false
open Go.Proofs.Tryz
section
open Go.RowKit Go.Shelf
attribute [local go_sem] WX
structure Cfg where
 sh:Int
 cap:Int
 ring:Int
 room:Int
 wk:Int
 cO:Int
def Cfg.cells (c:Cfg):Array Value:=#[WL WK c.sh,WL WK c.cap,WL WK c.ring,WL WK c.room,WL WK c.wk,WL WK c.cO]
def Cfg.pair (c:Cfg):Nat->Int × Int
 | 0=>(c.sh,4) | 1=>(c.cap,64) | 2=>(c.ring,64) | 3=>(c.room,16) | 4=>(c.wk,4) | _=>(c.cO,8)
def Cfg.fine (c:Cfg) (k:Nat):Bool:=decide (1<=(c.pair k).1) && decide ((c.pair k).1<=(c.pair k).2)
def Cfg.ok (c:Cfg):Bool:=c.fine 0 && c.fine 1 && c.fine 2 && c.fine 3 && c.fine 4 && c.fine 5
theorem qo0 (i cb:Nat) (c:Cfg):QB prog 174 #[.pointer (some ⟨cb,0,none⟩)] 0 6 (fun k=>#[WL WK (c.pair k).1,WL WK (c.pair k).2])
 (fun _ H=>(H.getD i [])[0]?=some (cl cb 30 c.cells)):=by
 intro W l J Jx hJ hJx hT hY h0
 have hC:∀ k W',k<=6->J k W'->∀ o,W'.cell? ⟨cb,o,none⟩=c.cells[o]?:=fun k W' hk hj o=>by
  obtain ⟨H,ht,hh⟩:=hT k W' hk hj;exact Q5 (hh.obj i 0 ht) o
 simp only [Cfg.cells] at hC;have HC:=Vh hC;clear hC hT hJ hJx;refine (callsIn_wide (n:=9)).1 (callsIn_of_wp func174 rfl trivial ?_ rfl)
 simp only [ntmps174,WU,WW,WY,Nat.reduceAdd,Nat.reduceSub,WR,WS,WV,WT,WQ,WO];have c0:=HC.out 0 W (by decide) h0;obtain ⟨fn0,Vz,as0,bd0,hy0,hR0⟩:=Zw (n:=8) (hY 0 (by decide) W h0 (Nat.le_refl _));simp only [Cfg.pair] at hy0;have HR0:=Vh hR0;clear hR0;gi_wp2
 refine HR0.mono ?_
 clear hy0 c0;rintro e V0 ⟨D3,⟨rfl,hj0⟩ | ⟨rfl,hj0⟩⟩
 ·have hz0:W.heap.size<=V0.heap.size:=by have:=D3.size;omega
  have c1:=HC.out 1 V0 (by decide) hj0;obtain ⟨pO,V6,as1,bd1,hy1,OH⟩:=Zw (n:=8) (hY 1 (by decide) V0 hj0 (by have hs:=hz0;have:=D3.size;omega));simp only [Cfg.pair] at hy1;have HR1:=Vh OH;clear OH;gi_wp2
  refine HR1.mono ?_
  clear hy1 c1;rintro e V1 ⟨D4,⟨rfl,hj1⟩ | ⟨rfl,hj1⟩⟩
  ·have hz1:W.heap.size<=V1.heap.size:=by have:=D4.size;omega
   have c2:=HC.out 2 V1 (by decide) hj1;obtain ⟨Dk,V7,as2,bd2,hy2,hR2⟩:=Zw (n:=8) (hY 2 (by decide) V1 hj1 (by have hs:=hz1;have:=D4.size;omega));simp only [Cfg.pair] at hy2;have HR2:=Vh hR2;clear hR2;gi_wp2
   refine HR2.mono ?_
   clear hy2 c2;rintro e V2 ⟨D5,⟨rfl,hj2⟩ | ⟨rfl,hj2⟩⟩
   ·have hz2:W.heap.size<=V2.heap.size:=by have:=D5.size;omega
    have c3:=HC.out 3 V2 (by decide) hj2;obtain ⟨fn3,V8,as3,bd3,hy3,OI⟩:=Zw (n:=8) (hY 3 (by decide) V2 hj2 (by have hs:=hz2;have:=D5.size;omega));simp only [Cfg.pair] at hy3;have HR3:=Vh OI;clear OI;gi_wp2
    refine HR3.mono ?_
    clear hy3 c3;rintro e V3 ⟨D6,⟨rfl,FX⟩ | ⟨rfl,FX⟩⟩
    ·have hz3:W.heap.size<=V3.heap.size:=by have:=D6.size;omega
     have c4:=HC.out 4 V3 (by decide) FX;obtain ⟨fn4,V9,as4,bd4,hy4,OJ⟩:=Zw (n:=8) (hY 4 (by decide) V3 FX (by have hs:=hz3;have:=D6.size;omega));simp only [Cfg.pair] at hy4;have HR4:=Vh OJ;clear OJ;gi_wp2
     refine HR4.mono ?_
     clear hy4 c4;rintro e V4 ⟨D7,⟨rfl,FY⟩ | ⟨rfl,FY⟩⟩
     ·have hz4:W.heap.size<=V4.heap.size:=by have:=D7.size;omega
      have c5:=HC.out 5 V4 (by decide) FY;obtain ⟨fn5,VB,as5,bd5,Pb,OK⟩:=Zw (n:=8) (hY 5 (by decide) V4 FY (by have hs:=hz4;have:=D7.size;omega));simp only [Cfg.pair] at Pb;have I8:=Vh OK;clear OK;gi_wp2
      refine I8.mono ?_
      clear Pb c5;rintro e V5 ⟨Km,⟨rfl,Kl⟩ | ⟨rfl,Kl⟩⟩
      ·have hz5:W.heap.size<=V5.heap.size:=by have:=Km.size;omega
       gi_wp2
       refine WM (WN rfl _ _ _) rfl ?_
       exact ⟨⟨_,rfl⟩,.inl Kl⟩
      ·gi_wp2
       repeat (refine ⟨(fun f hf=>by cases hf),?_⟩;(with_reducible apply_assumption);gi_wp2)
       refine WM (WN rfl _ _ _) rfl ?_
       exact ⟨⟨_,rfl⟩,.inr ⟨5,by decide,Kl⟩⟩
     ·gi_wp2
      repeat (refine ⟨(fun f hf=>by cases hf),?_⟩;(with_reducible apply_assumption);gi_wp2)
      refine WM (WN rfl _ _ _) rfl ?_
      exact ⟨⟨_,rfl⟩,.inr ⟨4,by decide,FY⟩⟩
    ·gi_wp2
     repeat (refine ⟨(fun f hf=>by cases hf),?_⟩;(with_reducible apply_assumption);gi_wp2)
     refine WM (WN rfl _ _ _) rfl ?_
     exact ⟨⟨_,rfl⟩,.inr ⟨3,by decide,FX⟩⟩
   ·gi_wp2
    repeat (refine ⟨(fun f hf=>by cases hf),?_⟩;(with_reducible apply_assumption);gi_wp2)
    refine WM (WN rfl _ _ _) rfl ?_
    exact ⟨⟨_,rfl⟩,.inr ⟨2,by decide,hj2⟩⟩
  ·gi_wp2
   repeat (refine ⟨(fun f hf=>by cases hf),?_⟩;(with_reducible apply_assumption);gi_wp2)
   refine WM (WN rfl _ _ _) rfl ?_
   exact ⟨⟨_,rfl⟩,.inr ⟨1,by decide,hj1⟩⟩
 ·gi_wp2
  repeat (refine ⟨(fun f hf=>by cases hf),?_⟩;(with_reducible apply_assumption);gi_wp2)
  refine WM (WN rfl _ _ _) rfl ?_
  exact ⟨⟨_,rfl⟩,.inr ⟨0,by decide,hj0⟩⟩
theorem q0w (c:Cfg):Qa prog 131 #[.agg c.cells] [] fun e gs=>∃ cb,e=.returned (.func (.func 174) #[] #[.pointer (some ⟨cb,0,none⟩)])/\gs=[[cl cb 30 c.cells]]:=by
 refine GO fun w HT=>?_
 simp only [Cfg.cells];go_enter func131,ntmps131
 go_wp2
 go_ret
 exact ⟨_,⟨_,rfl,rfl⟩,HT.alloc rfl _ _⟩
def Cfg.upto (c:Cfg) (k:Nat):Prop:=∀ i,i<k->c.fine i=true
theorem Cfg.DY {c:Cfg} (h:c.upto 6):c.ok=true:=by
 unfold Cfg.ok;rw [h 0 (by decide),h 1 (by decide),h 2 (by decide),h 3 (by decide),h 4 (by decide),h 5 (by decide)];rfl
theorem Cfg.zS {c:Cfg} {k:Nat} (hk:k<6) (h:c.fine k=false):c.ok=false:=by
 have:k=0\/k=1\/k=2\/k=3\/k=4\/k=5:=by omega
 unfold Cfg.ok;rcases this with rfl | rfl | rfl | rfl | rfl | rfl <;> simp [h]
def JL (b1 b2 cb:Nat) (c:Cfg) (k:Nat) (H:GH):Prop:=H=[[cl b1 30 c.cells],[cl b2 26 #[WL WK 0]],[cl cb 30 c.cells]]/\c.upto k
def CZ (b1 b2 cb:Nat) (c:Cfg) (k:Nat) (cd:Code) (H:GH):Prop:=cd=.ret/\H=[[cl b1 30 c.cells],[cl b2 26 #[WL WK 8]],[cl cb 30 c.cells]]/\c.ok=false
end
section
open Go.RowKit Go.Shelf
attribute [local go_sem] WX
theorem q5l (c:Cfg):Qa prog 74 #[.agg c.cells] [] fun e gs=>e=.returned (WL WK (if c.ok then 0 else 8))/\gs=[]:=by
 refine GO fun w HT=>?_
 have HB:=Vh (q0w c);obtain ⟨C,hC⟩:∃ C,C=c.cells:=⟨_,rfl⟩;have hC':=hC;simp only [Cfg.cells] at hC';rw [<- hC] at HB;have p9:=Vh hC;simp only [Cfg.cells];refine Xf func74 rfl ?_
 simp only [ntmps74,WU,WW,WY,Nat.reduceAdd,Nat.reduceSub,WR,WS,WV,WT,WQ,WO];go_wp2_with fail
 rw [<- hC'];clear hC hC';refine (Qa.use HB ((HT.alloc rfl _ _).alloc rfl _ _) [] rfl rfl).mono ?_
 rintro e w1 ⟨gs,⟨cb,rfl,rfl⟩,Ta⟩;simp only [je,WQ,WO,p9.out] at Ta;go_wp2
 refine q0e rfl (enters_of func174 (by kernel_rfl) rfl) (qo0 2 cb c) (fun _ _=>rfl) Ta (JL (w.heap.size) (w.heap.size+1) cb c) (CZ (w.heap.size) (w.heap.size+1) cb c) ?h0 ?hT ?hbody ?hdone ?hstop
 case h0=>exact ⟨by simp,fun i hi=>absurd hi (Nat.not_lt_zero _)⟩
 case hT=>rintro k H _ ⟨rfl,_⟩;rfl
 case hbody =>
  rintro k hk H W l ⟨rfl,hu⟩ hH;obtain ⟨x,hx⟩:∃ x,(c.pair k).1=x:=⟨_,rfl⟩;obtain ⟨m,hm⟩:∃ m,(c.pair k).2=m:=⟨_,rfl⟩;simp only [hx,hm];have hf:c.fine k=(decide (1<=x) && decide (x<=m)):=by unfold Cfg.fine;rw [hx,hm]
  have HF:=Vh hf;have HU:=Vh hu;have HH:=Vh hH;clear hx hm hf hu hH;refine Xq (n:=9) ?_
  gi_wp2
  refine ⟨_,TG.refl HH,fun Wb hb=>?_⟩
  have HT:=Vh (TG.refl hb);have c1:=HT.c 1 0 0;have f1:=HT.f 1 0 0;clear hb
  have bad:c.fine k=false->∃ H',CZ (w.heap.size) (w.heap.size+1) cb c (k+1) .ret H'/\TG [[cl w.heap.size 30 c.cells],[cl (w.heap.size+1) 26 #[WL WK 0]],[cl cb 30 c.cells]] Wb H' (Wb.setCell ⟨w.heap.size+1,0,none⟩ (WL WK 8)) :=
   fun h=>⟨_,⟨rfl,rfl,Cfg.zS hk h⟩,HT.set 1 0 rfl 0 (WL WK 8)⟩
  have HBAD:=Vh bad;clear bad;by_cases h1:x<1
  ·refine Xq (n:=9) ?_
   gi_wp2
   exact HBAD (by rw [HF.out];simp;omega)
  ·by_cases h2:m<x
   ·refine Xq (n:=9) ?_
    gi_wp2
    exact HBAD (by rw [HF.out];simp;omega)
   ·refine Xq (n:=9) ?_
    gi_wp2
    refine ⟨_,⟨rfl,fun i hi=>?_⟩,HT⟩
    by_cases hik:i=k
    ·subst hik;rw [HF.out];simp;omega
    ·exact HU i (by omega)
 case hdone =>
  rintro H W D ⟨rfl,hu⟩ hT hD hK;have HX:=Vh (And.intro hT (And.intro hD hK));have HT:=Vh (TG.refl hT.has);have HU:=Vh (Cfg.DY hu);have c1:=hT.c 1 0 0;have f1:=hT.f 1 0 0;clear hu hT hD hK;go_wp2
  obtain ⟨hT,hD,hK⟩:=HX.out;have T2:=HT.set 1 0 rfl 0 (WL WK 0);have T3:=hT.fin hD T2 (.deferred none);have c2:=T3.c 1 0 0;refine Z5 (v:=WL WK 0) ((Below.heap_setCell W _ _ D (by have:=hD.2.2;intro e;subst e;exact this (by simp [keys,ex]))).trans hK) (by simp [results,results74,go_sem,c2]) ⟨[],⟨by simp [HU.out],rfl⟩,T3.p []⟩
 case hstop =>
  rintro k cd H W D hk ⟨rfl,rfl,hok⟩ hT hD hK;have T3:=hT.fin hD (TG.refl hT.has) (.deferred none);have c2:=T3.c 1 0 0;refine wp_ret (Z5 (v:=WL WK 8) hK (by simp [results,results74,go_sem,c2]) ⟨[],⟨by simp [hok],rfl⟩,T3.p []⟩)
end
end Go.Proofs.YtcneeepdclgdcaaGreat
