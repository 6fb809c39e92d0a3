import Derived.Test.YtikpbibeagbccaaGreatSV19
import Derived.Test.YtikpbibeagbccaaGreatSV2
import Derived.Test.YtikpbibeagbccaaGreatSV20
import Derived.Laws.Bits64
import Derived.Lib.Strings
import Derived.Lib.Slices
import Derived.Lib.Small
import Derived.Lib.Walk
import Derived.Lib.BitFns
import Derived.Test.YtikpbibeagbccaaGreatSV18
set_option maxRecDepth 100000
set_option maxHeartbeats 4000000
namespace Go.Proofs.YtikpbibeagbccaaGreat
set_option linter.unusedVariables false
set_option linter.unusedSimpArgs false
open Go.Proofs.Tryz
section
open Go.RowKit Go.Shelf
theorem Jr (t l:Nat) (h1:t<18446744073709551616) (hl:l<4):Qe prog 273 #[.int .u64 t,.int .i64 l] [] (.int .i64 (Zo t l)):=by
 have hc:l=0∨l=1∨l=2∨l=3:=by omega
 have e0:=qw (t:Int) (by omega) (by omega);have e1:=qw ((t:Int) / 64) (by omega) (by omega);have e2:=qw ((t:Int) / 4096) (by omega) (by omega);have e3:=qw ((t:Int) / 262144) (by omega) (by omega);have k0:((t:Int) % 64)=((Zo t 0:Nat):Int):=by unfold Zo;omega
 have k1:((t:Int) / 64 % 64)=((Zo t 1:Nat):Int):=by unfold Zo;omega
 have k2:((t:Int) / 4096 % 64)=((Zo t 2:Nat):Int):=by unfold Zo;omega
 have k3:((t:Int) / 262144 % 64)=((Zo t 3:Nat):Int):=by unfold Zo;omega
 rw [k0] at e0;rw [k1] at e1;rw [k2] at e2;rw [k3] at e3;have b:∀ l,Zo t l<64:=fun l=>Nat.mod_lt _ (by decide)
 have b0:=b 0;have b1:=b 1;have b2:=b 2;have b3:=b 3;generalize hd:Zo t=d at *;clear k0 k1 k2 k3 b hd h1;rcases hc with rfl | rfl | rfl | rfl
 all_goals
  refine GO fun w HT=>?_
  go_enter func273,ntmps273
  go_wp2
  go_ret
  exact ⟨rfl,0,rfl⟩
theorem qxp (a b:Nat) (h:a ^^^ b=0):a=b:=by
 apply Nat.eq_of_testBit_eq
 intro i;have:=congrArg (·.testBit i) h;simpa [Nat.testBit_xor] using this
def qg4 (a b:Nat):Int:=if a=b then -1 else ((Lib.bitLen (a ^^^ b):Int) - 1) / 6
theorem qjo (a b:Nat) (ha:a<18446744073709551616) (hb:b<18446744073709551616):Qe prog 281 #[.int .u64 a,.int .u64 b] [] (.int .i64 (qg4 a b)):=by
 by_cases h:a=b
 ·have HE:=Vh (show qg4 a b=-1 from if_pos h)
  have hq:((a:Int) == (b:Int))=true:=by simp [h]
  refine GO fun w HT=>?_
  clear h ha hb;go_enter func281,ntmps281
  go_wp2
  go_ret
  exact ⟨by rw [HE.out];rfl,0,rfl⟩
 ·have HE:=Vh (show qg4 a b=((Lib.bitLen (a ^^^ b):Int) - 1) / 6 from if_neg h)
  have hq:((a:Int) == (b:Int))=false:=beq_eq_false_iff_ne.2 (by omega);have hx:=bits_xor_u64_nat a b ha hb;have hl:=bits_Len64 ((a ^^^ b:Nat):Int);have hlt:a ^^^ b<18446744073709551616:=Nat.xor_lt_two_pow (n:=64) ha hb;have h64:Lib.bitLen (a ^^^ b)≤64:=Lib.bitLen_le _ 64 (by decide) hlt
  have h0:1≤Lib.bitLen (a ^^^ b):=by
   rw [Lib.bitLen_half _ (by intro h0;exact h (qxp a b h0)) hlt];omega
  have HL:=Vh (fun w=>hl w (by omega) (by omega));rw [Int.toNat_natCast] at HL;generalize a ^^^ b=x at *;generalize Lib.bitLen x=n at *;refine GO fun w HT=>?_
  clear h ha hb hl hlt;go_enter func281,ntmps281
  go_wp2_with (go_at_call 297;refine (HL.out _).mono ?_;rintro e w' ⟨rfl,rfl⟩)
  go_ret
  exact ⟨by rw [HE.out];rfl,0,rfl⟩
theorem qjm (d now:Int) (hn0:0≤now) (hn1:now<9223372036854775807) (hd0:0≤d) (hd1:d<18446744073709551616):Qa prog 291 #[.int .u64 d,.int .u64 now] [] fun e gs=>e=.returned (.tuple #[.int .u64 (max d (now+1)),.int .i64 0])∧gs=[]:=by
 have HA:=Vh (qc1 now 1 hn0 (by omega) (by omega));refine GO fun w HT=>?_
 clear hn0 hn1;by_cases h:d≤now+1
 ·have HM:=Vh (show max d (now+1)=now+1 from Int.max_eq_right h)
  go_enter func291,ntmps291
  go_wp2_with fail
  refine Qa.run (HA.out) (HT.out) [] ?_
  rintro e w1 gs ⟨rfl,rfl⟩ HT;simp only [PU] at HT;go_wp2
  go_ret2
  exact ⟨_,⟨by rw [HM.out];first | rfl | simp,rfl⟩,HT.out⟩
 ·have HM:=Vh (show max d (now+1)=d from Int.max_eq_left (by omega))
  go_enter func291,ntmps291
  go_wp2_with fail
  refine Qa.run (HA.out) (HT.out) [] ?_
  rintro e w1 gs ⟨rfl,rfl⟩ HT;simp only [PU] at HT;go_wp2
  go_ret2
  exact ⟨_,⟨by rw [HM.out];first | rfl | simp,rfl⟩,HT.out⟩
structure qbh where
 dl:Int
 v:Qq
 due:Nat
structure z7 where
 eb:Nat
 nb:Nat
 e:qbh
abbrev LvA:=List (List z7)
structure Xd where
 now:Nat
 lv:List LvA
 by_:List z7
structure Qh where
 now:Nat
 lv:List (List (List qbh))
 by_:List qbh
def z7.nd (a:z7):Nd:=⟨a.nb,[Qb a.eb]⟩
def Xd.s (w:Xd):Qh:=⟨w.now,w.lv.map fun l=>l.map fun s=>s.map z7.e,w.by_.map z7.e⟩
def qd5 (home:Value) (e:qbh) (lv sl:Int) (nd:Value):Array Value:=#[.int .u64 e.dl,.int .u64 e.v.id,.int .i64 e.v.slot,.int .u64 e.v.gen,.int .u64 e.v.dl,.int .u64 e.v.per,.int .u64 e.due,home,.int .i64 lv,.int .i64 sl,nd]
def qaa (eb:Nat) (home:Value) (e:qbh) (lv sl:Int) (nd:Value):List Blk:=[cl eb 352 (qd5 home e lv sl nd)]
def qrx (home:Value) (a:z7) (g:List Blk):Prop:=a.e.due<18446744073709551616∧∃ lv sl nd,g=qaa a.eb home a.e lv sl (.pointer nd)
def qlb (ls:LvA):Nat:=(ls.map List.length).sum
def qbm (vb:Nat) (home:Value) (ls:LvA) (g:List Blk):Prop :=
 ∃ ss gl ge,Jz vb ss gl∧ss.map Zt.l=ls.map (fun l=>l.map z7.nd)∧J5 (J5 (qrx home)) ls ge∧g=gl++ge
theorem qbm.len {vb:Nat} {home:Value} {ls:LvA} {g:List Blk} (h:qbm vb home ls g):ls.length=64:=by
 obtain ⟨ss,gl,ge,h1,h2,_⟩:=h;have:=congrArg List.length h2;simp only [List.length_map] at this;rw [← this];exact h1.1
theorem qyr {ss:List Zt} {ls:LvA} (h:ss.map Zt.l=ls.map (fun l=>l.map z7.nd)):qf5 ss=qlb ls:=by
 unfold qf5 qlb;have:=congrArg (List.map List.length) h;simp only [List.map_map,Function.comp_def,List.length_map] at this;rw [this]
theorem qst {ss:List Zt} {ls:LvA} (h:ss.map Zt.l=ls.map (fun l=>l.map z7.nd)) {k:Nat} {l:List z7} (hk:ls[k]?=some l):∃ s,ss[k]?=some s∧s.l=l.map z7.nd:=by
 have:=congrArg (fun x=>x[k]?) h;simp only [List.getElem?_map,hk,Option.map_some] at this;cases hs:ss[k]? with
 | none=>rw [hs] at this;cases this
 | some s=>rw [hs] at this;simp only [Option.map_some,Option.some.injEq] at this;exact ⟨s,rfl,this⟩
theorem qoz {ss:List Zt} {ls:LvA} (h:ss.map Zt.l=ls.map (fun l=>l.map z7.nd)) (k:Nat) (s:Zt) (l:List z7) (he:s.l=l.map z7.nd):(ss.set k s).map Zt.l=(ls.set k l).map (fun l=>l.map z7.nd):=by
 rw [List.map_set,List.map_set,h,he]
theorem qow {α β:Type} {P:β→List Blk→Prop} {f:α→β}:∀ {l:List α} {g:List Blk},J5 P (l.map f) g→J5 (fun a=>P (f a)) l g
 | [],_,h=>h
 | a::l,_,h=>by
   obtain ⟨x,y,hx,hy,rfl⟩:=h;exact ⟨x,y,hx,qow hy,rfl⟩
section
variable {vb:Nat} {home:Value} {ls:LvA} {g:List Blk}
theorem qie (hg:qbm vb home ls g) {k:Nat} {l:List z7} (hk:ls[k]?=some l) (ht:qlb ls≤1000000) (a:z7) (ge:List Blk) (ha:qrx home a ge) (p0 q0:Value) :
 Qa prog 283 #[Qb vb,.int .i64 k,Qb a.nb] [g,ge,[cl a.nb 354 #[Qb a.eb,p0,q0,.pointer none]]] fun e gs =>
  e=.returned (.int .i64 0)∧∃ g',qbm vb home (ls.set k (l++[a])) g'∧gs=[g']:=by
 have h64:=hg.len;obtain ⟨ss,gl,gE,h1,h2,h3,rfl⟩:=hg;have hk64:k<64:=by have:=(List.getElem?_eq_some_iff.1 hk).1;omega
 obtain ⟨s,hs,hsl⟩:=qst h2 hk;have hts:=qyr h2;have hge:=qmv hs;obtain ⟨u,y,hu,hp,hback⟩:=h3.out hk;obtain ⟨gE',hE',hp'⟩:=hback (l++[a]) (u++ge) (J5.snoc hu ha);intro w hw;have T:=(((TG.refl hw).sum (H':=[gl,gE,ge,[cl a.nb 354 #[Qb a.eb,p0,q0,.pointer none]]])).permAt 1 rfl hp).sum (H':=[gl,u,y,ge,[cl a.nb 354 #[Qb a.eb,p0,q0,.pointer none]]]);refine (Qa.use (qw4 h1 hs hk64 (by omega) (by omega) a.nb (Qb a.eb) p0 q0) T [0,4] rfl rfl).mono ?_
 rintro e w' ⟨gs,⟨he,g1,hn1,rfl⟩,T'⟩;refine ⟨_,⟨he,_,⟨_,g1,gE',hn1,qoz h2 k _ _ (by simp [hsl,z7.nd]),hE',rfl⟩,rfl⟩,?_⟩
 exact ((TG.sum (H:=[g1,u,y,ge,[]]) (H':=[g1,u++ge++y]) T').permAt 1 rfl hp').sum
theorem qnv (hg:qbm vb home ls g) {k:Nat} {l:List z7} (hk:ls[k]?=some l) (ht:qlb ls≤1000000) :
 Qa prog 272 #[Qb vb,.int .i64 k] [g] fun e gs =>
  ∃ v gr gn ge g',e=.returned v∧Qr 270 1 v l.length (l.map fun a=>Qb a.nb) gr∧J5 (fun a=>Y1 a.nd) l gn∧J5 (qrx home) l ge∧qbm vb home (ls.set k []) g'∧gs=[g',gr,gn,ge]:=by
 have h64:=hg.len;obtain ⟨ss,gl,gE,h1,h2,h3,rfl⟩:=hg;have hk64:k<64:=by have:=(List.getElem?_eq_some_iff.1 hk).1;omega
 obtain ⟨s,hs,hsl⟩:=qst h2 hk;have hts:=qyr h2;obtain ⟨u,y,hu,hp,hback⟩:=h3.out hk;obtain ⟨gE',hE',hp'⟩:=hback [] [] rfl;intro w hw;have T:=(((TG.refl hw).sum (H':=[gl,gE])).permAt 1 rfl hp).sum (H':=[gl,u,y]);refine (Qa.use (quz h1 hs hk64 (by omega)) T [0] rfl rfl).mono ?_
 rintro e w' ⟨gs,⟨v,gr,gn,g1,he,hr,hn,hl1,rfl⟩,T'⟩;refine ⟨_,⟨v,gr,gn,u,_,he,?_,?_,hu,⟨_,g1,gE',hl1,qoz h2 k _ _ rfl,hE',rfl⟩,rfl⟩,?_⟩
 ·rw [hsl,List.length_map,List.map_map] at hr;exact hr
 ·rw [hsl] at hn;exact qow hn
 ·exact ((TG.sum (H:=[g1,u,y,gr,gn]) (H':=[g1,[]++y,gr,gn,u]) T').permAt 1 rfl hp').sum
end
end
end Go.Proofs.YtikpbibeagbccaaGreat
