import Derived.Test.YtikpbibeagbccaaGreatGV16
import Derived.Test.YtikpbibeagbccaaGreatGV2
import Derived.Test.YtikpbibeagbccaaGreatGV17
import Derived.Laws.Bits64
import Derived.Lib.Strings
import Derived.Lib.Slices
import Derived.Lib.Small
import Derived.Lib.Walk
import Derived.Lib.BitFns
import Derived.Test.YtikpbibeagbccaaGreatGV15
set_option maxRecDepth 100000
set_option maxHeartbeats 4000000
namespace Go.Proofs.YtikpbibeagbccaaGreat
set_option linter.unusedVariables false
set_option linter.unusedSimpArgs false
open Go.Proofs.Tryz
section
open Go.RowKit Go.Shelf
theorem Jn (t l:Nat) (h1:t<18446744073709551616) (hl:l<4):Qe prog 273 #[.int .u64 t,.int .i64 l] [] (.int .i64 (Zq t l)):=by
 have hc:l=0∨l=1∨l=2∨l=3:=by omega
 have e0:=qj (t:Int) (by omega) (by omega);have e1:=qj ((t:Int) / 64) (by omega) (by omega);have e2:=qj ((t:Int) / 4096) (by omega) (by omega);have e3:=qj ((t:Int) / 262144) (by omega) (by omega);have k0:((t:Int) % 64)=((Zq t 0:Nat):Int):=by unfold Zq;omega
 have k1:((t:Int) / 64 % 64)=((Zq t 1:Nat):Int):=by unfold Zq;omega
 have k2:((t:Int) / 4096 % 64)=((Zq t 2:Nat):Int):=by unfold Zq;omega
 have k3:((t:Int) / 262144 % 64)=((Zq t 3:Nat):Int):=by unfold Zq;omega
 rw [k0] at e0;rw [k1] at e1;rw [k2] at e2;rw [k3] at e3;have b:∀ l,Zq t l<64:=fun l=>Nat.mod_lt _ (by decide)
 have b0:=b 0;have b1:=b 1;have b2:=b 2;have b3:=b 3;generalize hd:Zq t=d at *;clear k0 k1 k2 k3 b hd h1;rcases hc with rfl | rfl | rfl | rfl
 all_goals
  refine GO fun w HT=>?_
  go_enter func273,ntmps273
  go_wp2
  go_ret
  exact ⟨rfl,0,rfl⟩
theorem qwl (a b:Nat) (h:a ^^^ b=0):a=b:=by
 apply Nat.eq_of_testBit_eq
 intro i;have:=congrArg (·.testBit i) h;simpa [Nat.testBit_xor] using this
def qgb (a b:Nat):Int:=if a=b then -1 else ((Lib.bitLen (a ^^^ b):Int) - 1) / 6
theorem qjb (a b:Nat) (ha:a<18446744073709551616) (hb:b<18446744073709551616):Qe prog 281 #[.int .u64 a,.int .u64 b] [] (.int .i64 (qgb a b)):=by
 by_cases h:a=b
 ·have HE:=Vh (show qgb a b=-1 from if_pos h)
  have hq:((a:Int) == (b:Int))=true:=by simp [h]
  refine GO fun w HT=>?_
  clear h ha hb;go_enter func281,ntmps281
  go_wp2
  go_ret
  exact ⟨by rw [HE.out];rfl,0,rfl⟩
 ·have HE:=Vh (show qgb a b=((Lib.bitLen (a ^^^ b):Int) - 1) / 6 from if_neg h)
  have hq:((a:Int) == (b:Int))=false:=beq_eq_false_iff_ne.2 (by omega);have hx:=bits_xor_u64_nat a b ha hb;have hl:=bits_Len64 ((a ^^^ b:Nat):Int);have hlt:a ^^^ b<18446744073709551616:=Nat.xor_lt_two_pow (n:=64) ha hb;have h64:Lib.bitLen (a ^^^ b)≤64:=Lib.bitLen_le _ 64 (by decide) hlt
  have h0:1≤Lib.bitLen (a ^^^ b):=by
   rw [Lib.bitLen_half _ (by intro h0;exact h (qwl a b h0)) hlt];omega
  have HL:=Vh (fun w=>hl w (by omega) (by omega));rw [Int.toNat_natCast] at HL;generalize a ^^^ b=x at *;generalize Lib.bitLen x=n at *;refine GO fun w HT=>?_
  clear h ha hb hl hlt;go_enter func281,ntmps281
  go_wp2_with (go_at_call 297;refine (HL.out _).mono ?_;rintro e w' ⟨rfl,rfl⟩)
  go_ret
  exact ⟨by rw [HE.out];rfl,0,rfl⟩
theorem qj2 (d now:Int) (hn0:0≤now) (hn1:now<9223372036854775807) (hd0:0≤d) (hd1:d<18446744073709551616):Qa prog 291 #[.int .u64 d,.int .u64 now] [] fun e gs=>e=.returned (.tuple #[.int .u64 (max d (now+1)),.int .i64 0])∧gs=[]:=by
 have HA:=Vh (qcm now 1 hn0 (by omega) (by omega));refine GO fun w HT=>?_
 clear hn0 hn1;by_cases h:d≤now+1
 ·have HM:=Vh (show max d (now+1)=now+1 from Int.max_eq_right h)
  go_enter func291,ntmps291
  go_wp2_with fail
  refine Qa.run (HA.out) (HT.out) [] ?_
  rintro e w1 gs ⟨rfl,rfl⟩ HT;simp only [PU] at HT;go_wp2
  go_ret2
  exact ⟨_,⟨by rw [HM.out];first | rfl | simp,rfl⟩,HT.out⟩
 ·have HM:=Vh (show max d (now+1)=d from Int.max_eq_left (by omega))
  go_enter func291,ntmps291
  go_wp2_with fail
  refine Qa.run (HA.out) (HT.out) [] ?_
  rintro e w1 gs ⟨rfl,rfl⟩ HT;simp only [PU] at HT;go_wp2
  go_ret2
  exact ⟨_,⟨by rw [HM.out];first | rfl | simp,rfl⟩,HT.out⟩
structure qa5 where
 dl:Int
 v:Qm
 due:Nat
structure zt where
 eb:Nat
 nb:Nat
 e:qa5
abbrev LvA:=List (List zt)
structure Xe where
 now:Nat
 lv:List LvA
 by_:List zt
structure Qg where
 now:Nat
 lv:List (List (List qa5))
 by_:List qa5
def zt.nd (a:zt):Nd:=⟨a.nb,[Qb a.eb]⟩
def Xe.s (w:Xe):Qg:=⟨w.now,w.lv.map fun l=>l.map fun s=>s.map zt.e,w.by_.map zt.e⟩
def qdk (home:Value) (e:qa5) (lv sl:Int) (nd:Value):Array Value:=#[.int .u64 e.dl,.int .u64 e.v.id,.int .i64 e.v.slot,.int .u64 e.v.gen,.int .u64 e.v.dl,.int .u64 e.v.per,.int .u64 e.due,home,.int .i64 lv,.int .i64 sl,nd]
def zy (eb:Nat) (home:Value) (e:qa5) (lv sl:Int) (nd:Value):List Blk:=[cl eb 352 (qdk home e lv sl nd)]
def qqm (home:Value) (a:zt) (g:List Blk):Prop:=a.e.due<18446744073709551616∧∃ lv sl nd,g=zy a.eb home a.e lv sl (.pointer nd)
def qkh (ls:LvA):Nat:=(ls.map List.length).sum
def qa8 (vb:Nat) (home:Value) (ls:LvA) (g:List Blk):Prop :=
 ∃ ss gl ge,Jv vb ss gl∧ss.map Zv.l=ls.map (fun l=>l.map zt.nd)∧J4 (J4 (qqm home)) ls ge∧g=gl++ge
theorem qa8.len {vb:Nat} {home:Value} {ls:LvA} {g:List Blk} (h:qa8 vb home ls g):ls.length=64:=by
 obtain ⟨ss,gl,ge,h1,h2,_⟩:=h;have:=congrArg List.length h2;simp only [List.length_map] at this;rw [← this];exact h1.1
theorem qw4 {ss:List Zv} {ls:LvA} (h:ss.map Zv.l=ls.map (fun l=>l.map zt.nd)):qfd ss=qkh ls:=by
 unfold qfd qkh;have:=congrArg (List.map List.length) h;simp only [List.map_map,Function.comp_def,List.length_map] at this;rw [this]
theorem qq1 {ss:List Zv} {ls:LvA} (h:ss.map Zv.l=ls.map (fun l=>l.map zt.nd)) {k:Nat} {l:List zt} (hk:ls[k]?=some l):∃ s,ss[k]?=some s∧s.l=l.map zt.nd:=by
 have:=congrArg (fun x=>x[k]?) h;simp only [List.getElem?_map,hk,Option.map_some] at this;cases hs:ss[k]? with
 | none=>rw [hs] at this;cases this
 | some s=>rw [hs] at this;simp only [Option.map_some,Option.some.injEq] at this;exact ⟨s,rfl,this⟩
theorem qm2 {ss:List Zv} {ls:LvA} (h:ss.map Zv.l=ls.map (fun l=>l.map zt.nd)) (k:Nat) (s:Zv) (l:List zt) (he:s.l=l.map zt.nd):(ss.set k s).map Zv.l=(ls.set k l).map (fun l=>l.map zt.nd):=by
 rw [List.map_set,List.map_set,h,he]
theorem qnr {α β:Type} {P:β→List Blk→Prop} {f:α→β}:∀ {l:List α} {g:List Blk},J4 P (l.map f) g→J4 (fun a=>P (f a)) l g
 | [],_,h=>h
 | a::l,_,h=>by
   obtain ⟨x,y,hx,hy,rfl⟩:=h;exact ⟨x,y,hx,qnr hy,rfl⟩
section
variable {vb:Nat} {home:Value} {ls:LvA} {g:List Blk}
theorem qhw (hg:qa8 vb home ls g) {k:Nat} {l:List zt} (hk:ls[k]?=some l) (ht:qkh ls≤1000000) (a:zt) (ge:List Blk) (ha:qqm home a ge) (p0 q0:Value) :
 Qa prog 283 #[Qb vb,.int .i64 k,Qb a.nb] [g,ge,[cl a.nb 354 #[Qb a.eb,p0,q0,.pointer none]]] fun e gs =>
  e=.returned (.int .i64 0)∧∃ g',qa8 vb home (ls.set k (l++[a])) g'∧gs=[g']:=by
 have h64:=hg.len;obtain ⟨ss,gl,gE,h1,h2,h3,rfl⟩:=hg;have hk64:k<64:=by have:=(List.getElem?_eq_some_iff.1 hk).1;omega
 obtain ⟨s,hs,hsl⟩:=qq1 h2 hk;have hts:=qw4 h2;have hge:=qlx hs;obtain ⟨u,y,hu,hp,hback⟩:=h3.out hk;obtain ⟨gE',hE',hp'⟩:=hback (l++[a]) (u++ge) (J4.snoc hu ha);intro w hw;have T:=(((TG.refl hw).sum (H':=[gl,gE,ge,[cl a.nb 354 #[Qb a.eb,p0,q0,.pointer none]]])).permAt 1 rfl hp).sum (H':=[gl,u,y,ge,[cl a.nb 354 #[Qb a.eb,p0,q0,.pointer none]]]);refine (Qa.use (qv3 h1 hs hk64 (by omega) (by omega) a.nb (Qb a.eb) p0 q0) T [0,4] rfl rfl).mono ?_
 rintro e w' ⟨gs,⟨he,g1,hn1,rfl⟩,T'⟩;refine ⟨_,⟨he,_,⟨_,g1,gE',hn1,qm2 h2 k _ _ (by simp [hsl,zt.nd]),hE',rfl⟩,rfl⟩,?_⟩
 exact ((TG.sum (H:=[g1,u,y,ge,[]]) (H':=[g1,u++ge++y]) T').permAt 1 rfl hp').sum
theorem qne (hg:qa8 vb home ls g) {k:Nat} {l:List zt} (hk:ls[k]?=some l) (ht:qkh ls≤1000000) :
 Qa prog 272 #[Qb vb,.int .i64 k] [g] fun e gs =>
  ∃ v gr gn ge g',e=.returned v∧Qu 270 1 v l.length (l.map fun a=>Qb a.nb) gr∧J4 (fun a=>Yw a.nd) l gn∧J4 (qqm home) l ge∧qa8 vb home (ls.set k []) g'∧gs=[g',gr,gn,ge]:=by
 have h64:=hg.len;obtain ⟨ss,gl,gE,h1,h2,h3,rfl⟩:=hg;have hk64:k<64:=by have:=(List.getElem?_eq_some_iff.1 hk).1;omega
 obtain ⟨s,hs,hsl⟩:=qq1 h2 hk;have hts:=qw4 h2;obtain ⟨u,y,hu,hp,hback⟩:=h3.out hk;obtain ⟨gE',hE',hp'⟩:=hback [] [] rfl;intro w hw;have T:=(((TG.refl hw).sum (H':=[gl,gE])).permAt 1 rfl hp).sum (H':=[gl,u,y]);refine (Qa.use (qtj h1 hs hk64 (by omega)) T [0] rfl rfl).mono ?_
 rintro e w' ⟨gs,⟨v,gr,gn,g1,he,hr,hn,hl1,rfl⟩,T'⟩;refine ⟨_,⟨v,gr,gn,u,_,he,?_,?_,hu,⟨_,g1,gE',hl1,qm2 h2 k _ _ rfl,hE',rfl⟩,rfl⟩,?_⟩
 ·rw [hsl,List.length_map,List.map_map] at hr;exact hr
 ·rw [hsl] at hn;exact qnr hn
 ·exact ((TG.sum (H:=[g1,u,y,gr,gn]) (H':=[g1,[]++y,gr,gn,u]) T').permAt 1 rfl hp').sum
end
end
end Go.Proofs.YtikpbibeagbccaaGreat
