import Derived.Test.YtcneeepdclgdcaaGreatPF17
import Derived.Test.YtcneeepdclgdcaaGreatPF2
import Derived.Test.YtcneeepdclgdcaaGreatPF18
import Derived.Laws.Bits64
import Derived.Lib.Strings
import Derived.Lib.Slices
import Derived.Lib.Small
import Derived.Lib.Walk
import Derived.Lib.BitFns
import Derived.Test.YtcneeepdclgdcaaGreatPF15
set_option maxRecDepth 100000
set_option maxHeartbeats 4000000
namespace Go.Proofs.YtcneeepdclgdcaaGreat
open Go.Value renaming int->WK,pointer->WO
open Go.IntKind renaming u64->WL,i64->WM
open Go.Ending renaming returned->WN
open _root_.List renaming getElem?_eq_some_iff->WQ,length_map->WR,length->WS,map_map->WU,map_set->WV
open _root_.Option renaming map_some->WT
set_option linter.all false
open Go.Proofs.Tryz
section
open Go.RowKit Go.Shelf
theorem KX (t l:Nat) (h1:t<18446744073709551616) (hl:l<4):Qe prog 312 #[WK WL t,WK WM l] [] (WK WM (J3 t l)):=by
 have hc:l=0\/l=1\/l=2\/l=3:=by omega
 have e0:=Eu (t:Int) (by omega) (by omega);have e1:=Eu ((t:Int) / 64) (by omega) (by omega);have e2:=Eu ((t:Int) / 4096) (by omega) (by omega);have e3:=Eu ((t:Int) / 262144) (by omega) (by omega);have k0:((t:Int) % 64)=((J3 t 0:Nat):Int):=by unfold J3;omega
 have k1:((t:Int) / 64 % 64)=((J3 t 1:Nat):Int):=by unfold J3;omega
 have k2:((t:Int) / 4096 % 64)=((J3 t 2:Nat):Int):=by unfold J3;omega
 have k3:((t:Int) / 262144 % 64)=((J3 t 3:Nat):Int):=by unfold J3;omega
 rw [k0] at e0;rw [k1] at e1;rw [k2] at e2;rw [k3] at e3;have b:∀ l,J3 t l<64:=fun l=>Nat.mod_lt _ (by decide)
 have b0:=b 0;have b1:=b 1;have b2:=b 2;have b3:=b 3;generalize hd:J3 t=d at *;clear k0 k1 k2 k3 b hd h1;rcases hc with rfl | rfl | rfl | rfl
 all_goals
  refine GO fun w HT=>?_
  go_enter func312,ntmps312
  go_wp2
  go_ret
  exact ⟨rfl,0,rfl⟩
theorem q3t (a b:Nat) (h:a ^^^ b=0):a=b:=by
 apply Nat.eq_of_testBit_eq
 intro i;have:=congrArg (·.testBit i) h;simpa [Nat.testBit_xor] using this
def BS (a b:Nat):Int:=if a=b then -1 else ((Lib.bitLen (a ^^^ b):Int) - 1) / 6
theorem qob (a b:Nat) (ha:a<18446744073709551616) (hb:b<18446744073709551616):Qe prog 320 #[WK WL a,WK WL b] [] (WK WM (BS a b)):=by
 by_cases h:a=b
 ·have HE:=Vh (show BS a b=-1 from if_pos h)
  have hq:((a:Int) == (b:Int))=true:=by simp [h]
  refine GO fun w HT=>?_
  clear h ha hb;go_enter func320,ntmps320
  go_wp2
  go_ret
  exact ⟨by rw [HE.out];rfl,0,rfl⟩
 ·have HE:=Vh (show BS a b=((Lib.bitLen (a ^^^ b):Int) - 1) / 6 from if_neg h)
  have hq:((a:Int) == (b:Int))=false:=beq_eq_false_iff_ne.2 (by omega);have hx:=bits_xor_u64_nat a b ha hb;have hl:=bits_Len64 ((a ^^^ b:Nat):Int);have hlt:a ^^^ b<18446744073709551616:=Nat.xor_lt_two_pow (n:=64) ha hb;have h64:Lib.bitLen (a ^^^ b)<=64:=Lib.bitLen_le _ 64 (by decide) hlt
  have h0:1<=Lib.bitLen (a ^^^ b):=by
   rw [Lib.bitLen_half _ (by intro h0;exact h (q3t a b h0)) hlt];omega
  have HL:=Vh (fun w=>hl w (by omega) (by omega));rw [Int.toNat_natCast] at HL;generalize a ^^^ b=x at *;generalize Lib.bitLen x=n at *;refine GO fun w HT=>?_
  clear h ha hb hl hlt;go_enter func320,ntmps320
  go_wp2_with (go_at_call 335;refine (HL _).mono ?_;rintro e w' ⟨rfl,rfl⟩)
  go_ret
  exact ⟨by rw [HE.out];rfl,0,rfl⟩
theorem qoc (d now:Int) (hn0:0<=now) (hn1:now<9223372036854775807) (hd0:0<=d) (hd1:d<18446744073709551616):Qa prog 330 #[WK WL d,WK WL now] [] fun e gs=>e=WN (.tuple #[WK WL (max d (now+1)),WK WM 0])/\gs=[]:=by
 have HA:=Vh (LB now 1 hn0 (by omega) (by omega));refine GO fun w HT=>?_
 clear hn0 hn1;by_cases h:d<=now+1
 ·have HM:=Vh (show max d (now+1)=now+1 from Int.max_eq_right h)
  go_enter func330,ntmps330
  go_wp2_with fail
  refine Qa.run HA HT [] ?_
  rintro e w1 gs ⟨rfl,rfl⟩ HT;simp only [PU] at HT;go_wp2
  go_ret2
  exact ⟨_,⟨by rw [HM.out];first | rfl | simp,rfl⟩,HT⟩
 ·have HM:=Vh (show max d (now+1)=d from Int.max_eq_left (by omega))
  go_enter func330,ntmps330
  go_wp2_with fail
  refine Qa.run HA HT [] ?_
  rintro e w1 gs ⟨rfl,rfl⟩ HT;simp only [PU] at HT;go_wp2
  go_ret2
  exact ⟨_,⟨by rw [HM.out];first | rfl | simp,rfl⟩,HT⟩
structure gI where
 dl:Int
 v:Qn
 due:Nat
structure gp where
 eb:Nat
 nb:Nat
 e:gI
abbrev nE:=List (List gp)
structure Xz where
 now:Nat
 lv:List nE
 lV:List gp
structure Qg where
 now:Nat
 lv:List (List (List gI))
 lV:List gI
def gp.nd (a:gp):Nd:=⟨a.nb,[Qb a.eb]⟩
def Xz.s (w:Xz):Qg:=⟨w.now,w.lv.map fun l=>l.map fun s=>s.map gp.e,w.lV.map gp.e⟩
def qN (home:Value) (e:gI) (lv sl:Int) (nd:Value):Array Value:=#[WK WL e.dl,WK WL e.v.id,WK WM e.v.slot,WK WL e.v.gen,WK WL e.v.dl,WK WL e.v.per,WK WL e.due,home,WK WM lv,WK WM sl,nd]
def mF (eb:Nat) (home:Value) (e:gI) (lv sl:Int) (nd:Value):List ak:=[cl eb 376 (qN home e lv sl nd)]
def rQ (home:Value) (a:gp) (g:List ak):Prop:=a.e.due<18446744073709551616/\∃ lv sl nd,g=mF a.eb home a.e lv sl (.pointer nd)
def qU (ls:nE):Nat:=(ls.map WS).sum
def vL (vb:Nat) (home:Value) (ls:nE) (g:List ak):Prop :=
 ∃ ss gl ge,Yo vb ss gl/\ss.map Je.l=ls.map (fun l=>l.map gp.nd)/\Yx (Yx (rQ home)) ls ge/\g=gl++ge
theorem vL.len {vb:Nat} {home:Value} {ls:nE} {g:List ak} (h:vL vb home ls g):ls.length=64:=by
 obtain ⟨ss,gl,ge,h1,h2,_⟩:=h;have:=congrArg WS h2;simp only [WR] at this;rw [<- this];exact h1.1
theorem PO {ss:List Je} {ls:nE} (h:ss.map Je.l=ls.map (fun l=>l.map gp.nd)):jY ss=qU ls:=by
 unfold jY qU;have:=congrArg (List.map WS) h;simp only [WU,Function.comp_def,WR] at this;rw [this]
theorem UX {ss:List Je} {ls:nE} (h:ss.map Je.l=ls.map (fun l=>l.map gp.nd)) {k:Nat} {l:List gp} (hk:ls[k]?=some l):∃ s,ss[k]?=some s/\s.l=l.map gp.nd:=by
 have:=congrArg (fun x=>x[k]?) h;simp only [List.getElem?_map,hk,WT] at this;cases hs:ss[k]? with
 | none=>rw [hs] at this;cases this
 | some s=>rw [hs] at this;simp only [WT,Option.some.injEq] at this;exact ⟨s,rfl,this⟩
theorem Ut {ss:List Je} {ls:nE} (h:ss.map Je.l=ls.map (fun l=>l.map gp.nd)) (k:Nat) (s:Je) (l:List gp) (he:s.l=l.map gp.nd):(ss.set k s).map Je.l=(ls.set k l).map (fun l=>l.map gp.nd):=by
 rw [WV,WV,h,he]
theorem TS {α β:Type} {P:β->List ak->Prop} {f:α->β}:∀ {l:List α} {g:List ak},Yx P (l.map f) g->Yx (fun a=>P (f a)) l g
 | [],_,h=>h
 | a::l,_,h=>by
   obtain ⟨x,y,hx,hy,rfl⟩:=h;exact ⟨x,y,hx,TS hy,rfl⟩
section
variable {vb:Nat} {home:Value} {ls:nE} {g:List ak}
theorem q6a (hg:vL vb home ls g) {k:Nat} {l:List gp} (hk:ls[k]?=some l) (ht:qU ls<=1000000) (a:gp) (ge:List ak) (ha:rQ home a ge) (p0 q0:Value) :
 Qa prog 322 #[Qb vb,WK WM k,Qb a.nb] [g,ge,[cl a.nb 378 #[Qb a.eb,p0,q0,WO none]]] fun e gs =>
  e=WN (WK WM 0)/\∃ g',vL vb home (ls.set k (l++[a])) g'/\gs=[g']:=by
 have h64:=hg.len;obtain ⟨ss,gl,gE,h1,h2,h3,rfl⟩:=hg;have zC:k<64:=by have:=(WQ.1 hk).1;omega
 obtain ⟨s,hs,hsl⟩:=UX h2 hk;have hts:=PO h2;have hge:=Np hs;obtain ⟨u,y,hu,hp,hback⟩:=h3.out hk;obtain ⟨gE',hE',hp'⟩:=hback (l++[a]) (u++ge) (Yx.snoc hu ha);intro w hw;have T:=(((TG.refl hw).sum (H':=[gl,gE,ge,[cl a.nb 378 #[Qb a.eb,p0,q0,WO none]]])).bF 1 rfl hp).sum (H':=[gl,u,y,ge,[cl a.nb 378 #[Qb a.eb,p0,q0,WO none]]]);refine (Qa.use (q2a h1 hs zC (by omega) (by omega) a.nb (Qb a.eb) p0 q0) T [0,4] rfl rfl).mono ?_
 rintro e w' ⟨gs,⟨he,g1,hn1,rfl⟩,T'⟩;refine ⟨_,⟨he,_,⟨_,g1,gE',hn1,Ut h2 k _ _ (by simp [hsl,gp.nd]),hE',rfl⟩,rfl⟩,?_⟩
 exact ((TG.sum (H:=[g1,u,y,ge,[]]) (H':=[g1,u++ge++y]) T').bF 1 rfl hp').sum
theorem Uf (hg:vL vb home ls g) {k:Nat} {l:List gp} (hk:ls[k]?=some l) (ht:qU ls<=1000000) :
 Qa prog 311 #[Qb vb,WK WM k] [g] fun e gs =>
  ∃ v gr gn ge g',e=WN v/\Q1 315 1 v l.length (l.map fun a=>Qb a.nb) gr/\Yx (fun a=>q8 a.nd) l gn/\Yx (rQ home) l ge/\vL vb home (ls.set k []) g'/\gs=[g',gr,gn,ge]:=by
 have h64:=hg.len;obtain ⟨ss,gl,gE,h1,h2,h3,rfl⟩:=hg;have zC:k<64:=by have:=(WQ.1 hk).1;omega
 obtain ⟨s,hs,hsl⟩:=UX h2 hk;have hts:=PO h2;obtain ⟨u,y,hu,hp,hback⟩:=h3.out hk;obtain ⟨gE',hE',hp'⟩:=hback [] [] rfl;intro w hw;have T:=(((TG.refl hw).m [gl,gE]).bF 1 rfl hp).m [gl,u,y];refine (Qa.use (qxf h1 hs zC (by omega)) T [0] rfl rfl).mono ?_
 rintro e w' ⟨gs,⟨v,gr,gn,g1,he,hr,hn,hl1,rfl⟩,T'⟩;refine ⟨_,⟨v,gr,gn,u,_,he,?_,?_,hu,⟨_,g1,gE',hl1,Ut h2 k _ _ rfl,hE',rfl⟩,rfl⟩,?_⟩
 ·rw [hsl,WR,WU] at hr;exact hr
 ·rw [hsl] at hn;exact TS hn
 ·exact ((TG.sum (H:=[g1,u,y,gr,gn]) (H':=[g1,[]++y,gr,gn,u]) T').bF 1 rfl hp').sum
end
end
end Go.Proofs.YtcneeepdclgdcaaGreat
