import Derived.Test.YtcneeepdclgdcaaGreatSE16
import Derived.Test.YtcneeepdclgdcaaGreatSE2
import Derived.Test.YtcneeepdclgdcaaGreatSE17
import Derived.Laws.Bits64
import Derived.Lib.Strings
import Derived.Lib.Slices
import Derived.Lib.Small
import Derived.Lib.Walk
import Derived.Lib.BitFns
import Derived.Test.YtcneeepdclgdcaaGreatSE14
set_option maxRecDepth 100000
set_option maxHeartbeats 4000000
namespace Go.Proofs.YtcneeepdclgdcaaGreat
open Go.Value renaming int->U1,pointer->U5
open Go.IntKind renaming u64->U2,i64->U3
open Go.Ending renaming returned->U4
open _root_.List renaming getElem?_eq_some_iff->U6,length_map->U7,length->U8,map_map->UA,map_set->UB
open _root_.Option renaming map_some->U9
set_option linter.all false
open Go.Proofs.Tryz
section
open Go.RowKit Go.Shelf
theorem Yk (t l:Nat) (h1:t<18446744073709551616) (hl:l<4):Qd prog 312 #[U1 U2 t,U1 U3 l] [] (U1 U3 (Z9 t l)):=by
 have hc:l=0\/l=1\/l=2\/l=3:=by omega
 have e0:=Dm (t:Int) (by omega) (by omega);have e1:=Dm ((t:Int) / 64) (by omega) (by omega);have e2:=Dm ((t:Int) / 4096) (by omega) (by omega);have e3:=Dm ((t:Int) / 262144) (by omega) (by omega);have k0:((t:Int) % 64)=((Z9 t 0:Nat):Int):=by unfold Z9;omega
 have k1:((t:Int) / 64 % 64)=((Z9 t 1:Nat):Int):=by unfold Z9;omega
 have k2:((t:Int) / 4096 % 64)=((Z9 t 2:Nat):Int):=by unfold Z9;omega
 have k3:((t:Int) / 262144 % 64)=((Z9 t 3:Nat):Int):=by unfold Z9;omega
 rw [k0] at e0;rw [k1] at e1;rw [k2] at e2;rw [k3] at e3;have b:∀ l,Z9 t l<64:=fun l=>Nat.mod_lt _ (by decide)
 have b0:=b 0;have b1:=b 1;have b2:=b 2;have b3:=b 3;generalize hd:Z9 t=d at *;clear k0 k1 k2 k3 b hd h1;rcases hc with rfl | rfl | rfl | rfl
 all_goals
  refine GO fun w HT=>?_
  go_enter func312,ntmps312
  go_wp2
  go_ret
  exact ⟨rfl,0,rfl⟩
theorem q17 (a b:Nat) (h:a ^^^ b=0):a=b:=by
 apply Nat.eq_of_testBit_eq
 intro i;have:=congrArg (·.testBit i) h;simpa [Nat.testBit_xor] using this
def Be (a b:Nat):Int:=if a=b then -1 else ((Lib.bitLen (a ^^^ b):Int) - 1) / 6
theorem qnh (a b:Nat) (ha:a<18446744073709551616) (hb:b<18446744073709551616):Qd prog 320 #[U1 U2 a,U1 U2 b] [] (U1 U3 (Be a b)):=by
 by_cases h:a=b
 ·have HE:=Vh (show Be a b=-1 from if_pos h)
  have hq:((a:Int) == (b:Int))=true:=by simp [h]
  refine GO fun w HT=>?_
  clear h ha hb;go_enter func320,ntmps320
  go_wp2
  go_ret
  exact ⟨by rw [HE.out];rfl,0,rfl⟩
 ·have HE:=Vh (show Be a b=((Lib.bitLen (a ^^^ b):Int) - 1) / 6 from if_neg h)
  have hq:((a:Int) == (b:Int))=false:=beq_eq_false_iff_ne.2 (by omega);have hx:=bits_xor_u64_nat a b ha hb;have hl:=bits_Len64 ((a ^^^ b:Nat):Int);have hlt:a ^^^ b<18446744073709551616:=Nat.xor_lt_two_pow (n:=64) ha hb;have h64:Lib.bitLen (a ^^^ b)<=64:=Lib.bitLen_le _ 64 (by decide) hlt
  have h0:1<=Lib.bitLen (a ^^^ b):=by
   rw [Lib.bitLen_half _ (by intro h0;exact h (q17 a b h0)) hlt];omega
  have HL:=Vh (fun w=>hl w (by omega) (by omega));rw [Int.toNat_natCast] at HL;generalize a ^^^ b=x at *;generalize Lib.bitLen x=n at *;refine GO fun w HT=>?_
  clear h ha hb hl hlt;go_enter func320,ntmps320
  go_wp2_with (go_at_call 335;refine (HL _).mono ?_;rintro e w' ⟨rfl,rfl⟩)
  go_ret
  exact ⟨by rw [HE.out];rfl,0,rfl⟩
theorem qni (d now:Int) (hn0:0<=now) (hn1:now<9223372036854775807) (hd0:0<=d) (hd1:d<18446744073709551616):Qa prog 330 #[U1 U2 d,U1 U2 now] [] fun e gs=>e=U4 (.tuple #[U1 U2 (max d (now+1)),U1 U3 0])/\gs=[]:=by
 have HA:=Vh (JV now 1 hn0 (by omega) (by omega));refine GO fun w HT=>?_
 clear hn0 hn1;by_cases h:d<=now+1
 ·have HM:=Vh (show max d (now+1)=now+1 from Int.max_eq_right h)
  go_enter func330,ntmps330
  go_wp2_with fail
  refine Qa.run HA HT [] ?_
  rintro e w1 gs ⟨rfl,rfl⟩ HT;simp only [PU] at HT;go_wp2
  go_ret2
  exact ⟨_,⟨by rw [HM.out];first | rfl | simp,rfl⟩,HT⟩
 ·have HM:=Vh (show max d (now+1)=d from Int.max_eq_left (by omega))
  go_enter func330,ntmps330
  go_wp2_with fail
  refine Qa.run HA HT [] ?_
  rintro e w1 gs ⟨rfl,rfl⟩ HT;simp only [PU] at HT;go_wp2
  go_ret2
  exact ⟨_,⟨by rw [HM.out];first | rfl | simp,rfl⟩,HT⟩
structure gU where
 dl:Int
 v:Qp
 due:Nat
structure gy where
 eb:Nat
 nb:Nat
 e:gU
abbrev nG:=List (List gy)
structure Xu where
 now:Nat
 lv:List nG
 lT:List gy
structure Qg where
 now:Nat
 lv:List (List (List gU))
 lT:List gU
def gy.nd (a:gy):Nd:=⟨a.nb,[Qb a.eb]⟩
def Xu.s (w:Xu):Qg:=⟨w.now,w.lv.map fun l=>l.map fun s=>s.map gy.e,w.lT.map gy.e⟩
def jF (home:Value) (e:gU) (lv sl:Int) (nd:Value):Array Value:=#[U1 U2 e.dl,U1 U2 e.v.id,U1 U3 e.v.slot,U1 U2 e.v.gen,U1 U2 e.v.dl,U1 U2 e.v.per,U1 U2 e.due,home,U1 U3 lv,U1 U3 sl,nd]
def gX (eb:Nat) (home:Value) (e:gU) (lv sl:Int) (nd:Value):List ak:=[cl eb 376 (jF home e lv sl nd)]
def qV (home:Value) (a:gy) (g:List ak):Prop:=a.e.due<18446744073709551616/\∃ lv sl nd,g=gX a.eb home a.e lv sl (.pointer nd)
def ny (ls:nG):Nat:=(ls.map U8).sum
def uG (vb:Nat) (home:Value) (ls:nG) (g:List ak):Prop :=
 ∃ ss gl ge,Yq vb ss gl/\ss.map Jd.l=ls.map (fun l=>l.map gy.nd)/\Yy (Yy (qV home)) ls ge/\g=gl++ge
theorem uG.len {vb:Nat} {home:Value} {ls:nG} {g:List ak} (h:uG vb home ls g):ls.length=64:=by
 obtain ⟨ss,gl,ge,h1,h2,_⟩:=h;have:=congrArg U8 h2;simp only [U7] at this;rw [<- this];exact h1.1
theorem N9 {ss:List Jd} {ls:nG} (h:ss.map Jd.l=ls.map (fun l=>l.map gy.nd)):ky ss=ny ls:=by
 unfold ky ny;have:=congrArg (List.map U8) h;simp only [UA,Function.comp_def,U7] at this;rw [this]
theorem Tf {ss:List Jd} {ls:nG} (h:ss.map Jd.l=ls.map (fun l=>l.map gy.nd)) {k:Nat} {l:List gy} (hk:ls[k]?=some l):∃ s,ss[k]?=some s/\s.l=l.map gy.nd:=by
 have:=congrArg (fun x=>x[k]?) h;simp only [List.getElem?_map,hk,U9] at this;cases hs:ss[k]? with
 | none=>rw [hs] at this;cases this
 | some s=>rw [hs] at this;simp only [U9,Option.some.injEq] at this;exact ⟨s,rfl,this⟩
theorem RS {ss:List Jd} {ls:nG} (h:ss.map Jd.l=ls.map (fun l=>l.map gy.nd)) (k:Nat) (s:Jd) (l:List gy) (he:s.l=l.map gy.nd):(ss.set k s).map Jd.l=(ls.set k l).map (fun l=>l.map gy.nd):=by
 rw [UB,UB,h,he]
theorem R7 {α β:Type} {P:β->List ak->Prop} {f:α->β}:∀ {l:List α} {g:List ak},Yy P (l.map f) g->Yy (fun a=>P (f a)) l g
 | [],_,h=>h
 | a::l,_,h=>by
   obtain ⟨x,y,hx,hy,rfl⟩:=h;exact ⟨x,y,hx,R7 hy,rfl⟩
section
variable {vb:Nat} {home:Value} {ls:nG} {g:List ak}
theorem FZ (hg:uG vb home ls g) {k:Nat} {l:List gy} (hk:ls[k]?=some l) (ht:ny ls<=1000000) (a:gy) (ge:List ak) (ha:qV home a ge) (p0 q0:Value) :
 Qa prog 322 #[Qb vb,U1 U3 k,Qb a.nb] [g,ge,[cl a.nb 378 #[Qb a.eb,p0,q0,U5 none]]] fun e gs =>
  e=U4 (U1 U3 0)/\∃ g',uG vb home (ls.set k (l++[a])) g'/\gs=[g']:=by
 have h64:=hg.len;obtain ⟨ss,gl,gE,h1,h2,h3,rfl⟩:=hg;have y5:k<64:=by have:=(U6.1 hk).1;omega
 obtain ⟨s,hs,hsl⟩:=Tf h2 hk;have hts:=N9 h2;have hge:=LG hs;obtain ⟨u,y,hu,hp,hback⟩:=h3.out hk;obtain ⟨gE',hE',hp'⟩:=hback (l++[a]) (u++ge) (Yy.snoc hu ha);intro w hw;have T:=(((TG.refl hw).sum (H':=[gl,gE,ge,[cl a.nb 378 #[Qb a.eb,p0,q0,U5 none]]])).bz 1 rfl hp).sum (H':=[gl,u,y,ge,[cl a.nb 378 #[Qb a.eb,p0,q0,U5 none]]]);refine (Qa.use (q0q h1 hs y5 (by omega) (by omega) a.nb (Qb a.eb) p0 q0) T [0,4] rfl rfl).mono ?_
 rintro e w' ⟨gs,⟨he,g1,hn1,rfl⟩,T'⟩;refine ⟨_,⟨he,_,⟨_,g1,gE',hn1,RS h2 k _ _ (by simp [hsl,gy.nd]),hE',rfl⟩,rfl⟩,?_⟩
 exact ((TG.sum (H:=[g1,u,y,ge,[]]) (H':=[g1,u++ge++y]) T').bz 1 rfl hp').sum
theorem RG (hg:uG vb home ls g) {k:Nat} {l:List gy} (hk:ls[k]?=some l) (ht:ny ls<=1000000) :
 Qa prog 311 #[Qb vb,U1 U3 k] [g] fun e gs =>
  ∃ v gr gn ge g',e=U4 v/\Q3 315 1 v l.length (l.map fun a=>Qb a.nb) gr/\Yy (fun a=>q9 a.nd) l gn/\Yy (qV home) l ge/\uG vb home (ls.set k []) g'/\gs=[g',gr,gn,ge]:=by
 have h64:=hg.len;obtain ⟨ss,gl,gE,h1,h2,h3,rfl⟩:=hg;have y5:k<64:=by have:=(U6.1 hk).1;omega
 obtain ⟨s,hs,hsl⟩:=Tf h2 hk;have hts:=N9 h2;obtain ⟨u,y,hu,hp,hback⟩:=h3.out hk;obtain ⟨gE',hE',hp'⟩:=hback [] [] rfl;intro w hw;have T:=(((TG.refl hw).m [gl,gE]).bz 1 rfl hp).m [gl,u,y];refine (Qa.use (qwc h1 hs y5 (by omega)) T [0] rfl rfl).mono ?_
 rintro e w' ⟨gs,⟨v,gr,gn,g1,he,hr,hn,hl1,rfl⟩,T'⟩;refine ⟨_,⟨v,gr,gn,u,_,he,?_,?_,hu,⟨_,g1,gE',hl1,RS h2 k _ _ rfl,hE',rfl⟩,rfl⟩,?_⟩
 ·rw [hsl,U7,UA] at hr;exact hr
 ·rw [hsl] at hn;exact R7 hn
 ·exact ((TG.sum (H:=[g1,u,y,gr,gn]) (H':=[g1,[]++y,gr,gn,u]) T').bz 1 rfl hp').sum
end
end
end Go.Proofs.YtcneeepdclgdcaaGreat
