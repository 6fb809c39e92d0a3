import Derived.Test.YtcneeepdclgdcaaGreatCO13
import Derived.Test.YtcneeepdclgdcaaGreatCO7
import Derived.Test.YtcneeepdclgdcaaGreatCO12
import Derived.Laws.Externs
set_option maxRecDepth 100000
set_option maxHeartbeats 4000000
namespace Go.Proofs.YtcneeepdclgdcaaGreat
set_option linter.unusedVariables false
set_option linter.unusedSimpArgs false
open Go.Proofs.Tryz
section
open Go.RowKit Go.Shelf
structure EvS where
 kind:Int
 thread:Int
 call:Int
 what:Int
 id:Int
 gen:Int
 dl:Int
 per:Int
 tick:Int
 err:Int
def EvS.cells (e:EvS):Array Value:=#[.int .i64 e.kind,.int .i64 e.thread,.int .i64 e.call,.int .i64 e.what,.int .u64 e.id,.int .u64 e.gen,.int .u64 e.dl,.int .u64 e.per,.int .u64 e.tick,.int .i64 e.err]
theorem Qa.toDoes {P:Program} {f:Nat} {args:Array Value} {g:List Blk} {h:PH} {R:Ending→Prop} (hd:Qa P f args [g] fun e gs=>R e∧gs=[g]) (e:ex g=h) :
 Does P f args h fun e h'=>R e∧h'=h:=by
 subst e;intro w hw;refine (hd w (by unfold Ye;simpa using hw)).mono ?_
 rintro e w' ⟨gs,⟨he,rfl⟩,T⟩;exact ⟨_,⟨he,rfl⟩,by simpa [TG] using T⟩
theorem qe8 (bb:Nat) (n d:Int) (h:-1000000000≤n∧n≤1000000000∧-1000000000≤d∧d≤1000000000) :
 Qa prog 211 #[.int .i64 n,Qd bb] [[cl bb 3 #[.int .i64 d]]] fun e gs=>e=.returned (.tuple #[.int .i64 (n+d),.bool (decide (0≤n+d))])∧gs=[[cl bb 3 #[.int .i64 d]]]:=by
 refine GO fun w HT=>?_
 have c0:=HT.out.cell 0 0 rfl 0;simp only [GE2] at c0;obtain ⟨h1,h2,h3,h4⟩:=h;go_enter func211,ntmps211
 go_wp2
 go_quiet (fail)
 go_wp2
 go_ret2
 exact ⟨_,⟨by simp,rfl⟩,HT.out.drewN _⟩
theorem qir {b o bb:Nat} {T T2:TypeId} {C D:Array Value} {n v:Int} {ok:Bool} {g:Nat} {caps:Array Value} (hc:cellAt C o (.int .i64 n))
 (eg:∀ args w,(callFunc g args).run prog w=.ok (.enter g args) w)
 (hg:Qa prog g (#[.int .i64 n]++caps) [[cl bb T2 D]] fun e gs=>e=.returned (.tuple #[.int .i64 v,.bool ok])∧gs=[[cl bb T2 D]]) :
 Qa prog 210 #[.pointer (some ⟨b,o,none⟩),.func (.func g) #[] caps] [[cl b T C],[cl bb T2 D]] fun e gs =>
  e=.returned (.tuple #[.int .i64 n,.bool ok])∧∃ C',Q5 C o (.int .i64 (if ok=true then v else n)) C'∧gs=[[cl b T C'],[cl bb T2 D]]:=by
 refine ((qau b o T C n v ok g caps [pt bb T2 D] hc eg (hg.toDoes rfl)).G (gs:=[[cl b T C],[cl bb T2 D]]) (by simpa using (Xg.of_pt b T C).join (Xg.of_pt bb T2 D))).post ?_
 rintro e gs ⟨h',g,⟨he,C',rfl,hr⟩,m,rfl⟩;obtain ⟨x,y,rfl,m1,m2⟩:=Xg.append (a:=[pt b T C']) (b:=[pt bb T2 D]) m;exact ⟨[[cl b T C'],[cl bb T2 D]],⟨he,C',hr,rfl⟩,by rw [m1.isPt,m2.isPt];simp⟩
abbrev Bd (n d:Int):Prop:=-1000000000≤n∧n≤1000000000∧-1000000000≤d∧d≤1000000000
def qjg (n:Int):Int:=if n=0 then 6 else 0
def Yr (n:Int):Int:=if n=0 then 0 else n - 1
theorem qce {fb o:Nat} {T:TypeId} {C:Array Value} {n m:Int} (d:Int) (h:Bd n d) (hm:n+d=m) (hk:0≤m) (hc:cellAt C o (.int .i64 n)) :
 Qa prog 180 #[.pointer (some ⟨fb,o,none⟩),.int .i64 d] [[cl fb T C]] fun e gs=>e=.returned (.int .i64 0)∧∃ C',Q5 C o (.int .i64 m) C'∧gs=[[cl fb T C']]:=by
 subst hm;refine GO fun w HT=>?_
 have HC:=Vh hc;have HB0:=qe8 w.heap.size n d h;have hd:decide (0≤n+d)=true:=by simpa using hk
 rw [hd] at HB0;have HB:=Vh HB0;clear hc h HB0 hd hk;go_enter func180,ntmps180
 go_wp2_with fail
 refine Qa.run (qir (caps:=#[Qd w.heap.size]) (g:=211) (bb:=w.heap.size) (D:=#[.int .i64 d]) HC.out (enters_of func211 (by kernel_rfl) rfl) HB.out) ((HT.out.alloc rfl _ _)) [0,1] ?_
 rintro e w1 gs ⟨rfl,C1,hr,rfl⟩ HT;simp only [PU] at HT;have HR:=Vh hr;clear hr;go_wp2
 go_ret
 exact ⟨_,⟨rfl,C1,HR.out,rfl⟩,HT.out.pick [0] rfl⟩
theorem qi2 {fb o:Nat} {T:TypeId} {C:Array Value} {n:Int} (d:Int) (h:Bd n d) (hk:n+d<0) (hc:cellAt C o (.int .i64 n)) :
 Qa prog 180 #[.pointer (some ⟨fb,o,none⟩),.int .i64 d] [[cl fb T C]] fun e gs=>e=.returned (.int .i64 6)∧∃ C',Q5 C o (.int .i64 n) C'∧gs=[[cl fb T C']]:=by
 refine GO fun w HT=>?_
 have HC:=Vh hc;have HB0:=qe8 w.heap.size n d h;have hd:decide (0≤n+d)=false:=by simpa using hk
 rw [hd] at HB0;have HB:=Vh HB0;clear hc h HB0 hd hk;go_enter func180,ntmps180
 go_wp2_with fail
 refine Qa.run (qir (caps:=#[Qd w.heap.size]) (g:=211) (bb:=w.heap.size) (D:=#[.int .i64 d]) HC.out (enters_of func211 (by kernel_rfl) rfl) HB.out) ((HT.out.alloc rfl _ _)) [0,1] ?_
 rintro e w1 gs ⟨rfl,C1,hr,rfl⟩ HT;simp only [PU] at HT;have HR:=Vh hr;clear hr;go_wp2
 go_ret
 exact ⟨_,⟨rfl,C1,HR.out,rfl⟩,HT.out.pick [0] rfl⟩
theorem qc7 {fb:Nat} {p:qat} {f:X3} {tr:Value} {g:List Blk} (hg:X2 fb p f tr g) (h:0≤f.inside∧f.inside≤1000000):Qa prog 139 #[Qd fb] [g] fun e gs=>e=.returned (.tuple #[])∧∃ g',X2 fb p { f with inside:=f.inside+1 } tr g'∧gs=[g']:=by
 obtain ⟨C,rfl,hc⟩:=hg;refine GO fun w HT=>?_
 have HC:=Vh hc;have HB:=Vh h;clear hc h;go_enter func139,ntmps139
 go_wp2_with fail
 refine Qa.run (qce (n:=f.inside) 1 (by have:=HB.out;unfold Bd;omega) rfl (by have:=HB.out;omega) HC.out.inside) (HT.out) [0] ?_
 rintro e w1 gs ⟨rfl,C1,hr,rfl⟩ HT;simp only [PU] at HT;have HR:=Vh hr;clear hr;go_wp2
 exact bodyPost_end (results_none rfl _ _ _) rfl ⟨_,⟨rfl,_,⟨C1,rfl,HC.out.insideR HR.out⟩,rfl⟩,HT.out⟩
theorem qck {fb:Nat} {p:qat} {f:X3} {tr:Value} {g:List Blk} (hg:X2 fb p f tr g) (h:0≤f.inside∧f.inside≤1000000):Qa prog 213 #[Qd fb] [g] fun e gs =>
 e=.returned (.int .i64 (qjg f.inside))∧∃ g',X2 fb p { f with inside:=Yr f.inside } tr g'∧gs=[g']:=by
 obtain ⟨C,rfl,hc⟩:=hg;refine GO fun w HT=>?_
 have HC:=Vh hc;have HB:=Vh h;clear hc h;by_cases hz:f.inside=0
 ·have HE:=Vh (show qjg f.inside=6 from if_pos hz)
  have HN:=Vh (show Yr f.inside=f.inside from (if_pos hz).trans hz.symm);have HL:=Vh (show f.inside+(-1)<0 by omega);clear hz;go_enter func213,ntmps213
  go_wp2_with fail
  refine Qa.run (qi2 (n:=f.inside) (-1) (by have:=HB.out;unfold Bd;omega) HL.out HC.out.inside) (HT.out) [0] ?_
  rintro e w1 gs ⟨rfl,C1,hr,rfl⟩ HT;simp only [PU] at HT;rw [← HN.out] at hr;have HR:=Vh (HC.out.insideR hr);clear hr;go_wp2
  go_ret
  exact ⟨_,⟨by rw [HE.out];rfl,_,⟨C1,rfl,HR.out⟩,rfl⟩,HT.out⟩
 ·have HE:=Vh (show qjg f.inside=0 from if_neg hz)
  have HN:=Vh (show f.inside+(-1)=Yr f.inside from by unfold Yr;rw [if_neg hz];omega);have HL:=Vh (show 0≤Yr f.inside from by have:=HB.out;unfold Yr;rw [if_neg hz];omega);clear hz;go_enter func213,ntmps213
  go_wp2_with fail
  refine Qa.run (qce (n:=f.inside) (-1) (by have:=HB.out;unfold Bd;omega) HN.out HL.out HC.out.inside) (HT.out) [0] ?_
  rintro e w1 gs ⟨rfl,C1,hr,rfl⟩ HT;simp only [PU] at HT;have HR:=Vh (HC.out.insideR hr);clear hr;go_wp2
  go_ret
  exact ⟨_,⟨by rw [HE.out];rfl,_,⟨C1,rfl,HR.out⟩,rfl⟩,HT.out⟩
theorem qc6 (x y:Int) (hx:0≤x) (hy:0≤y) (w:World):(callFunc 177 #[.int .u64 x,.int .u64 y,.int .u64 0]).run prog w =
 .ok (.value (.tuple #[.int .u64 ((x+y+0) % 18446744073709551616),.int .u64 ((x+y+0) / 18446744073709551616)])) w:=by
 rw [run_callFunc_extern func177 (by kernel_rfl) (by kernel_rfl) (by kernel_rfl) (e:=add64Entry) (by kernel_rfl),run_add64 x y 0 hx hy (by omega) (by omega)];rfl
end
end Go.Proofs.YtcneeepdclgdcaaGreat
