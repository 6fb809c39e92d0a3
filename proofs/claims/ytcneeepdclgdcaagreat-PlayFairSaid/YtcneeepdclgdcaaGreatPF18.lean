import Derived.Test.YtcneeepdclgdcaaGreatPF14
import Derived.Test.YtcneeepdclgdcaaGreatPF7
import Derived.Test.YtcneeepdclgdcaaGreatPF12
import Derived.Laws.Externs
set_option maxRecDepth 100000
set_option maxHeartbeats 4000000
namespace Go.Proofs.YtcneeepdclgdcaaGreat
open Go.Value renaming int->WK,tuple->WO
open Go.IntKind renaming i64->WL,u64->WM
open Go.Ending renaming returned->WN
set_option linter.all false
open Go.Proofs.Tryz
section
open Go.RowKit Go.Shelf
structure EvS where
 kind:Int
 thread:Int
 call:Int
 what:Int
 id:Int
 gen:Int
 dl:Int
 per:Int
 tick:Int
 err:Int
def EvS.cells (e:EvS):Array Value:=#[WK WL e.kind,WK WL e.thread,WK WL e.call,WK WL e.what,WK WM e.id,WK WM e.gen,WK WM e.dl,WK WM e.per,WK WM e.tick,WK WL e.err]
theorem Qa.Au {P:Program} {f:Nat} {args:Array Value} {g:List ak} {h:PH} {R:Ending->Prop} (hd:Qa P f args [g] fun e gs=>R e/\gs=[g]) (e:ex g=h) :
 Does P f args h fun e h'=>R e/\h'=h:=by
 subst e;intro w hw;refine (hd w (by unfold Yc;simpa using hw)).mono ?_
 rintro e w' ⟨gs,⟨he,rfl⟩,T⟩;exact ⟨_,⟨he,rfl⟩,by simpa [TG] using T⟩
theorem T8 (bb:Nat) (n d:Int) (h:-1000000000<=n/\n<=1000000000/\-1000000000<=d/\d<=1000000000) :
 Qa prog 211 #[WK WL n,Qb bb] [[cl bb 3 #[WK WL d]]] fun e gs=>e=WN (WO #[WK WL (n+d),.bool (decide (0<=n+d))])/\gs=[[cl bb 3 #[WK WL d]]]:=by
 refine GO fun w HT=>?_
 have c0:=HT.c 0 0 0;simp only [bR] at c0;obtain ⟨h1,h2,h3,h4⟩:=h;go_enter func211,ntmps211
 go_wp2
 go_quiet (fail)
 go_wp2
 go_ret2
 exact ⟨_,⟨by simp,rfl⟩,HT.drewN _⟩
theorem EK {b o bb:Nat} {T T2:TypeId} {C D:Array Value} {n v:Int} {ok:Bool} {g:Nat} {aK:Array Value} (hc:cellAt C o (WK WL n))
 (eg:∀ args w,(callFunc g args).run prog w=.ok (.enter g args) w)
 (hg:Qa prog g (#[WK WL n]++aK) [[cl bb T2 D]] fun e gs=>e=WN (WO #[WK WL v,.bool ok])/\gs=[[cl bb T2 D]]) :
 Qa prog 210 #[.pointer (some ⟨b,o,none⟩),.func (.func g) #[] aK] [[cl b T C],[cl bb T2 D]] fun e gs =>
  e=WN (WO #[WK WL n,.bool ok])/\∃ C',Xi C o (WK WL (if ok=true then v else n)) C'/\gs=[[cl b T C'],[cl bb T2 D]]:=by
 refine ((RZ b o T C n v ok g aK [pt bb T2 D] hc eg (hg.Au rfl)).G (gs:=[[cl b T C],[cl bb T2 D]]) (by simpa using (Zx.oJ b T C).join (Zx.oJ bb T2 D))).post ?_
 rintro e gs ⟨h',g,⟨he,C',rfl,hr⟩,m,rfl⟩;obtain ⟨x,y,rfl,m1,m2⟩:=Zx.append (a:=[pt b T C']) (b:=[pt bb T2 D]) m;exact ⟨[[cl b T C'],[cl bb T2 D]],⟨he,C',hr,rfl⟩,by rw [m1.pZ,m2.pZ];simp⟩
abbrev Bd (n d:Int):Prop:=-1000000000<=n/\n<=1000000000/\-1000000000<=d/\d<=1000000000
def yx (n:Int):Int:=if n=0 then 6 else 0
def Z2 (n:Int):Int:=if n=0 then 0 else n - 1
theorem G5 {fb o:Nat} {T:TypeId} {C:Array Value} {n m:Int} (d:Int) (h:Bd n d) (hm:n+d=m) (hk:0<=m) (hc:cellAt C o (WK WL n)) :
 Qa prog 180 #[.pointer (some ⟨fb,o,none⟩),WK WL d] [[cl fb T C]] fun e gs=>e=WN (WK WL 0)/\∃ C',Xi C o (WK WL m) C'/\gs=[[cl fb T C']]:=by
 subst hm;refine GO fun w HT=>?_
 have HC:=Vh hc;have HB0:=T8 w.heap.size n d h;have hd:decide (0<=n+d)=true:=by simpa using hk
 rw [hd] at HB0;have HB:=Vh HB0;clear hc h HB0 hd hk;go_enter func180,ntmps180
 go_wp2_with fail
 refine Qa.run (EK (aK:=#[Qb w.heap.size]) (g:=211) (bb:=w.heap.size) (D:=#[WK WL d]) HC (enters_of func211 (by kernel_rfl) rfl) HB) ((HT.alloc rfl _ _)) [0,1] ?_
 rintro e w1 gs ⟨rfl,C1,hr,rfl⟩ HT;simp only [PU] at HT;have HR:=Vh hr;clear hr;go_wp2
 go_ret
 exact ⟨_,⟨rfl,C1,HR,rfl⟩,HT.p [0]⟩
theorem TA {fb o:Nat} {T:TypeId} {C:Array Value} {n:Int} (d:Int) (h:Bd n d) (hk:n+d<0) (hc:cellAt C o (WK WL n)) :
 Qa prog 180 #[.pointer (some ⟨fb,o,none⟩),WK WL d] [[cl fb T C]] fun e gs=>e=WN (WK WL 6)/\∃ C',Xi C o (WK WL n) C'/\gs=[[cl fb T C']]:=by
 refine GO fun w HT=>?_
 have HC:=Vh hc;have HB0:=T8 w.heap.size n d h;have hd:decide (0<=n+d)=false:=by simpa using hk
 rw [hd] at HB0;have HB:=Vh HB0;clear hc h HB0 hd hk;go_enter func180,ntmps180
 go_wp2_with fail
 refine Qa.run (EK (aK:=#[Qb w.heap.size]) (g:=211) (bb:=w.heap.size) (D:=#[WK WL d]) HC (enters_of func211 (by kernel_rfl) rfl) HB) ((HT.alloc rfl _ _)) [0,1] ?_
 rintro e w1 gs ⟨rfl,C1,hr,rfl⟩ HT;simp only [PU] at HT;have HR:=Vh hr;clear hr;go_wp2
 go_ret
 exact ⟨_,⟨rfl,C1,HR,rfl⟩,HT.p [0]⟩
theorem qm1 {fb:Nat} {p:jc} {f:Zp} {tr:Value} {g:List ak} (hg:X1 fb p f tr g) (h:0<=f.inside/\f.inside<=1000000):Qa prog 139 #[Qb fb] [g] fun e gs=>e=WN (WO #[])/\∃ g',X1 fb p { f with inside:=f.inside+1 } tr g'/\gs=[g']:=by
 obtain ⟨C,rfl,hc⟩:=hg;refine GO fun w HT=>?_
 have HC:=Vh hc;have HB:=Vh h;clear hc h;go_enter func139,ntmps139
 go_wp2_with fail
 refine Qa.run (G5 (n:=f.inside) 1 (by have:=HB.out;unfold Bd;omega) rfl (by have:=HB.out;omega) HC.inside) (HT) [0] ?_
 rintro e w1 gs ⟨rfl,C1,hr,rfl⟩ HT;simp only [PU] at HT;have HR:=Vh hr;clear hr;go_wp2
 exact bodyPost_end (results_none rfl _ _ _) rfl ⟨_,⟨rfl,_,⟨C1,rfl,HC.jB HR⟩,rfl⟩,HT⟩
theorem qm2 {fb:Nat} {p:jc} {f:Zp} {tr:Value} {g:List ak} (hg:X1 fb p f tr g) (h:0<=f.inside/\f.inside<=1000000):Qa prog 213 #[Qb fb] [g] fun e gs =>
 e=WN (WK WL (yx f.inside))/\∃ g',X1 fb p { f with inside:=Z2 f.inside } tr g'/\gs=[g']:=by
 obtain ⟨C,rfl,hc⟩:=hg;refine GO fun w HT=>?_
 have HC:=Vh hc;have HB:=Vh h;clear hc h;by_cases hz:f.inside=0
 ·have HE:=Vh (show yx f.inside=6 from if_pos hz)
  have HN:=Vh (show Z2 f.inside=f.inside from (if_pos hz).trans hz.symm);have HL:=Vh (show f.inside+(-1)<0 by omega);clear hz;go_enter func213,ntmps213
  go_wp2_with fail
  refine Qa.run (TA (n:=f.inside) (-1) (by have:=HB.out;unfold Bd;omega) HL HC.inside) (HT) [0] ?_
  rintro e w1 gs ⟨rfl,C1,hr,rfl⟩ HT;simp only [PU] at HT;rw [<- HN.out] at hr;have HR:=Vh (HC.out.jB hr);clear hr;go_wp2
  go_ret
  exact ⟨_,⟨by rw [HE.out];rfl,_,⟨C1,rfl,HR⟩,rfl⟩,HT⟩
 ·have HE:=Vh (show yx f.inside=0 from if_neg hz)
  have HN:=Vh (show f.inside+(-1)=Z2 f.inside from by unfold Z2;rw [if_neg hz];omega);have HL:=Vh (show 0<=Z2 f.inside from by have:=HB.out;unfold Z2;rw [if_neg hz];omega);clear hz;go_enter func213,ntmps213
  go_wp2_with fail
  refine Qa.run (G5 (n:=f.inside) (-1) (by have:=HB.out;unfold Bd;omega) HN HL HC.inside) (HT) [0] ?_
  rintro e w1 gs ⟨rfl,C1,hr,rfl⟩ HT;simp only [PU] at HT;have HR:=Vh (HC.out.jB hr);clear hr;go_wp2
  go_ret
  exact ⟨_,⟨by rw [HE.out];rfl,_,⟨C1,rfl,HR⟩,rfl⟩,HT⟩
theorem qph {fb:Nat} {p:jc} {f:Zp} {tr:Value} {g:List ak} (hg:X1 fb p f tr g) (h:0<=f.busy/\f.busy<=1000000):Qa prog 288 #[Qb fb,.bool false] [g] fun e gs =>
 e=WN (WK WL (yx f.busy))/\∃ g',X1 fb p { f with busy:=Z2 f.busy } tr g'/\gs=[g']:=by
 obtain ⟨C,rfl,hc⟩:=hg;refine GO fun w HT=>?_
 have HC:=Vh hc;have HB:=Vh h;clear hc h;by_cases hz:f.busy=0
 ·have HE:=Vh (show yx f.busy=6 from if_pos hz)
  have HN:=Vh (show Z2 f.busy=f.busy from (if_pos hz).trans hz.symm);have HL:=Vh (show f.busy+(-1)<0 by omega);clear hz;go_enter func288,ntmps288
  go_wp2_with fail
  refine Qa.run (TA (n:=f.busy) (-1) (by have:=HB.out;unfold Bd;omega) HL HC.busy) (HT) [0] ?_
  rintro e w1 gs ⟨rfl,C1,hr,rfl⟩ HT;simp only [PU] at HT;rw [<- HN.out] at hr;have HR:=Vh (HC.out.o8 hr);clear hr;go_wp2
  go_ret
  exact ⟨_,⟨by rw [HE.out];rfl,_,⟨C1,rfl,HR⟩,rfl⟩,HT⟩
 ·have HE:=Vh (show yx f.busy=0 from if_neg hz)
  have HN:=Vh (show f.busy+(-1)=Z2 f.busy from by unfold Z2;rw [if_neg hz];omega);have HL:=Vh (show 0<=Z2 f.busy from by have:=HB.out;unfold Z2;rw [if_neg hz];omega);clear hz;go_enter func288,ntmps288
  go_wp2_with fail
  refine Qa.run (G5 (n:=f.busy) (-1) (by have:=HB.out;unfold Bd;omega) HN HL HC.busy) (HT) [0] ?_
  rintro e w1 gs ⟨rfl,C1,hr,rfl⟩ HT;simp only [PU] at HT;have HR:=Vh (HC.out.o8 hr);clear hr;go_wp2
  go_ret
  exact ⟨_,⟨by rw [HE.out];rfl,_,⟨C1,rfl,HR⟩,rfl⟩,HT⟩
theorem qpl {fb:Nat} {p:jc} {f:Zp} {tr:Value} {g:List ak} (hg:X1 fb p f tr g) (h:0<=f.busy/\f.busy<=1000000):Qa prog 288 #[Qb fb,.bool true] [g] fun e gs=>e=WN (WK WL 0)/\∃ g',X1 fb p { f with busy:=f.busy+1 } tr g'/\gs=[g']:=by
 obtain ⟨C,rfl,hc⟩:=hg;refine GO fun w HT=>?_
 have HC:=Vh hc;have HB:=Vh h;clear hc h;go_enter func288,ntmps288
 go_wp2_with fail
 refine Qa.run (G5 (n:=f.busy) 1 (by have:=HB.out;unfold Bd;omega) rfl (by have:=HB.out;omega) HC.busy) (HT) [0] ?_
 rintro e w1 gs ⟨rfl,C1,hr,rfl⟩ HT;simp only [PU] at HT;have HR:=Vh hr;clear hr;go_wp2
 go_ret
 exact ⟨_,⟨rfl,_,⟨C1,rfl,HC.o8 HR⟩,rfl⟩,HT⟩
theorem LG (x y:Int) (hx:0<=x) (hy:0<=y) (w:World):(callFunc 177 #[WK WM x,WK WM y,WK WM 0]).run prog w =
 .ok (.value (WO #[WK WM ((x+y+0) % 18446744073709551616),WK WM ((x+y+0) / 18446744073709551616)])) w:=by
 rw [run_callFunc_extern func177 (by kernel_rfl) (by kernel_rfl) (by kernel_rfl) (e:=add64Entry) (by kernel_rfl),run_add64 x y 0 hx hy (by omega) (by omega)];rfl
theorem LB (x y:Int) (hx:0<=x) (hy:0<=y) (h:x+y<18446744073709551616):Qa prog 136 #[WK WM x,WK WM y] [] fun e gs=>e=WN (WO #[WK WM (x+y),WK WL 0])/\gs=[]:=by
 refine GO fun w HT=>?_
 have ha:∀ w,(callFunc 177 #[WK WM x,WK WM y,WK WM 0]).run prog w=.ok (.value (WO #[WK WM (x+y),WK WM 0])) w:=fun w=>by
  rw [LG x y hx hy w,show (x+y+0) % 18446744073709551616=x+y by omega,show (x+y+0) / 18446744073709551616=0 by omega]
 clear h hx hy;go_enter func136,ntmps136
 go_wp2_with (simp only [ha])
 go_ret2
 exact ⟨_,⟨rfl,rfl⟩,HT⟩
theorem q27 {b o:Nat} {T:TypeId} {C:Array Value} {n:Int} (x:Int) (hc:cellAt C o (WK WM n)) :
 Qa prog 263 #[.pointer (some ⟨b,o,none⟩),WK WM x] [[cl b T C]] fun e gs=>e=WN (WO #[])/\∃ C',Xi C o (WK WM x) C'/\gs=[[cl b T C']]:=by
 refine GO fun w HT=>?_
 have c0:=(HT.cell 0 0 rfl o).trans hc.1;have f0:=HT.free 0 0 rfl o;have HC:=Vh hc;clear hc;go_enter func263,ntmps263
 go_wp2
 exact bodyPost_end (results_none rfl _ _ _) rfl ⟨_,⟨rfl,_,QY HC,rfl⟩,HT.set 0 0 rfl o _⟩
theorem qpk {fb:Nat} {p:jc} {f:Zp} {tr:Value} {g:List ak} (hg:X1 fb p f tr g) (h:0<=f.now/\f.now<9223372036854775807):Qa prog 235 #[Qb fb] [g] fun e gs =>
 e=WN (WO #[WK WM (f.now+1),WK WL 0])/\∃ g',X1 fb p { f with now:=f.now+1 } tr g'/\gs=[g']:=by
 obtain ⟨C,rfl,hc⟩:=hg;refine GO fun w HT=>?_
 have HC:=Vh hc;have HA:=Vh (LB f.now 1 h.1 (by omega) (by omega));clear hc h;go_enter func235,ntmps235
 go_wp2_with fail
 refine Qa.run (oM (qt2 fb 22 _ C f.now HC.now)) (HT) [0] ?_
 rintro e w1 gs ⟨rfl,C1,hr,rfl⟩ HT;simp only [PU] at HT;have kZ:=Vh (HC.out.Kw hr);clear hr;go_wp2_with fail
 refine Qa.run HA HT [] ?_
 rintro e w1 gs ⟨rfl,rfl⟩ HT;simp only [PU] at HT;go_wp2_with fail
 refine Qa.run (q27 (f.now+1) kZ.now) (HT) [0] ?_
 rintro e w1 gs ⟨rfl,C2,hr,rfl⟩ HT;simp only [PU] at HT;have Ip:=Vh (kZ.out.DW hr);clear hr;go_wp2
 go_ret2
 exact ⟨_,⟨rfl,_,⟨C2,rfl,Ip⟩,rfl⟩,HT⟩
end
end Go.Proofs.YtcneeepdclgdcaaGreat
