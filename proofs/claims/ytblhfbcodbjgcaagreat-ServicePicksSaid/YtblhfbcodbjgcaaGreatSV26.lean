import Derived.Test.YtblhfbcodbjgcaaGreatSV15
import Derived.Test.YtblhfbcodbjgcaaGreatSV2
import Derived.Test.YtblhfbcodbjgcaaGreatSV16
import Derived.Laws.Bits64
import Derived.Lib.Strings
import Derived.Lib.Slices
import Derived.Lib.Small
import Derived.Lib.Walk
import Derived.Lib.BitFns
import Derived.Test.YtblhfbcodbjgcaaGreatSV14
namespace Go.Proofs.YtblhfbcodbjgcaaGreat
set_option linter.unusedVariables false
set_option linter.unusedSimpArgs false
section
open Go.RowKit Go.Shelf
set_option maxRecDepth 100000 in
theorem timesDigit_g (t l:Nat) (h1:t<18446744073709551616) (hl:l<4):ReadsG Tryz.prog 307 #[.int .u64 t,.int .i64 l] [] (.int .i64 (digT t l)):=by
 have hc:l=0∨l=1∨l=2∨l=3:=by omega
 have e0:=u64_and_63 (t:Int) (by omega) (by omega)
 have e1:=u64_and_63 ((t:Int) / 64) (by omega) (by omega)
 have e2:=u64_and_63 ((t:Int) / 4096) (by omega) (by omega)
 have e3:=u64_and_63 ((t:Int) / 262144) (by omega) (by omega)
 have k0:((t:Int) % 64)=((digT t 0:Nat):Int):=by unfold digT;omega
 have k1:((t:Int) / 64 % 64)=((digT t 1:Nat):Int):=by unfold digT;omega
 have k2:((t:Int) / 4096 % 64)=((digT t 2:Nat):Int):=by unfold digT;omega
 have k3:((t:Int) / 262144 % 64)=((digT t 3:Nat):Int):=by unfold digT;omega
 rw [k0] at e0
 rw [k1] at e1
 rw [k2] at e2
 rw [k3] at e3
 have b:∀ l,digT t l<64:=fun l=>Nat.mod_lt _ (by decide)
 have b0:=b 0
 have b1:=b 1
 have b2:=b 2
 have b3:=b 3
 generalize hd:digT t=d at *
 clear k0 k1 k2 k3 b hd h1
 rcases hc with rfl | rfl | rfl | rfl
 all_goals
  intro w hw
  have T0:=TG.refl hw
  have HT:=Lib.hid T0
  clear hw T0
  go_enter Tryz.func307,Tryz.ntmps307
  go_wp2
  go_ret
  exact ⟨rfl,0,rfl⟩
theorem xor_zero (a b:Nat) (h:a ^^^ b=0):a=b:=by
 apply Nat.eq_of_testBit_eq
 intro i
 have:=congrArg (·.testBit i) h
 simpa [Nat.testBit_xor] using this
def apartT (a b:Nat):Int:=if a=b then -1 else ((Lib.bitLen (a ^^^ b):Int) - 1) / 6
set_option maxRecDepth 100000 in
theorem timesApart_g (a b:Nat) (ha:a<18446744073709551616) (hb:b<18446744073709551616):ReadsG Tryz.prog 316 #[.int .u64 a,.int .u64 b] [] (.int .i64 (apartT a b)):=by
 by_cases h:a=b
 ·have HE:=Lib.hid (show apartT a b=-1 from if_pos h)
  have hq:((a:Int) == (b:Int))=true:=by simp [h]
  intro w hw
  have T0:=TG.refl hw
  have HT:=Lib.hid T0
  clear hw T0
  clear h ha hb
  go_enter Tryz.func316,Tryz.ntmps316
  go_wp2
  go_ret
  exact ⟨by rw [HE.out];rfl,0,rfl⟩
 ·have HE:=Lib.hid (show apartT a b=((Lib.bitLen (a ^^^ b):Int) - 1) / 6 from if_neg h)
  have hq:((a:Int) == (b:Int))=false:=beq_eq_false_iff_ne.2 (by omega)
  have hx:=bits_xor_u64_nat a b ha hb
  have hl:=bits_Len64 ((a ^^^ b:Nat):Int)
  have hlt:a ^^^ b<18446744073709551616:=Nat.xor_lt_two_pow (n:=64) ha hb
  have h64:Lib.bitLen (a ^^^ b)≤64:=Lib.bitLen_le _ 64 (by decide) hlt
  have h0:1≤Lib.bitLen (a ^^^ b):=by
   rw [Lib.bitLen_half _ (by intro h0;exact h (xor_zero a b h0)) hlt];omega
  have HL:=Lib.hid (fun w=>hl w (by omega) (by omega))
  rw [Int.toNat_natCast] at HL
  generalize a ^^^ b=x at *
  generalize Lib.bitLen x=n at *
  intro w hw
  have T0:=TG.refl hw
  have HT:=Lib.hid T0
  clear hw T0
  clear h ha hb hl hlt
  go_enter Tryz.func316,Tryz.ntmps316
  go_wp2_with (go_at_call 332;refine (HL.out _).mono ?_;rintro e w' ⟨rfl,rfl⟩)
  go_ret
  exact ⟨by rw [HE.out];rfl,0,rfl⟩
set_option maxRecDepth 100000 in
theorem timesLater_g (d now:Int) (hn0:0≤now) (hn1:now<9223372036854775807) (hd0:0≤d) (hd1:d<18446744073709551616):DoesG Tryz.prog 327 #[.int .u64 d,.int .u64 now] [] fun e gs=>e=.returned (.tuple #[.int .u64 (max d (now+1)),.int .i64 0])∧gs=[]:=by
 have HA:=Lib.hid (timesAdd_g now 1 hn0 (by omega) (by omega))
 intro w hw
 have T0:=TG.refl hw
 have HT:=Lib.hid T0
 clear hw T0
 clear hn0 hn1
 by_cases h:d≤now+1
 ·have HM:=Lib.hid (show max d (now+1)=now+1 from Int.max_eq_right h)
  go_enter Tryz.func327,Tryz.ntmps327
  go_wp2_with fail
  refine (DoesG.use (HA.out) (HT.out) [] rfl rfl).mono ?_
  rintro e w1 ⟨gs,⟨rfl,rfl⟩,Ta⟩
  simp only [PU] at Ta
  have HT:=Lib.hid Ta
  clear Ta
  go_wp2
  go_ret2
  exact ⟨_,⟨by rw [HM.out];first | rfl | simp,rfl⟩,HT.out⟩
 ·have HM:=Lib.hid (show max d (now+1)=d from Int.max_eq_left (by omega))
  go_enter Tryz.func327,Tryz.ntmps327
  go_wp2_with fail
  refine (DoesG.use (HA.out) (HT.out) [] rfl rfl).mono ?_
  rintro e w1 ⟨gs,⟨rfl,rfl⟩,Ta⟩
  simp only [PU] at Ta
  have HT:=Lib.hid Ta
  clear Ta
  go_wp2
  go_ret2
  exact ⟨_,⟨by rw [HM.out];first | rfl | simp,rfl⟩,HT.out⟩
end
section
open Go.RowKit Go.Shelf
structure EntS where
 dl:Int
 v:TaskS
 due:Nat
structure EntA where
 eb:Nat
 nb:Nat
 e:EntS
abbrev LvA:=List (List EntA)
structure WheelA where
 now:Nat
 lv:List LvA
 by_:List EntA
structure WheelS where
 now:Nat
 lv:List (List (List EntS))
 by_:List EntS
def EntA.nd (a:EntA):Nd:=⟨a.nb,[ptr' a.eb]⟩
def WheelA.s (w:WheelA):WheelS:=⟨w.now,w.lv.map fun l=>l.map fun s=>s.map EntA.e,w.by_.map EntA.e⟩
def entC (home:Value) (e:EntS) (lv sl:Int) (nd:Value):Array Value:=#[.int .u64 e.dl,.int .u64 e.v.id,.int .i64 e.v.slot,.int .u64 e.v.gen,.int .u64 e.v.dl,.int .u64 e.v.per,.int .u64 e.due,home,.int .i64 lv,.int .i64 sl,nd]
def entB (eb:Nat) (home:Value) (e:EntS) (lv sl:Int) (nd:Value):List Blk:=[cl eb 370 (entC home e lv sl nd)]
def entP (home:Value) (a:EntA) (g:List Blk):Prop:=a.e.due<18446744073709551616∧∃ lv sl nd,g=entB a.eb home a.e lv sl (.pointer nd)
def totA (ls:LvA):Nat:=(ls.map List.length).sum
def isLevE (vb:Nat) (home:Value) (ls:LvA) (g:List Blk):Prop :=
 ∃ ss gl ge,isLevel vb ss gl∧ss.map SlotL.l=ls.map (fun l=>l.map EntA.nd)∧FamP (FamP (entP home)) ls ge∧g=gl++ge
theorem isLevE.len {vb:Nat} {home:Value} {ls:LvA} {g:List Blk} (h:isLevE vb home ls g):ls.length=64:=by
 obtain ⟨ss,gl,ge,h1,h2,_⟩:=h
 have:=congrArg List.length h2
 simp only [List.length_map] at this
 rw [← this];exact h1.1
theorem tot_eq {ss:List SlotL} {ls:LvA} (h:ss.map SlotL.l=ls.map (fun l=>l.map EntA.nd)):totL ss=totA ls:=by
 unfold totL totA
 have:=congrArg (List.map List.length) h
 simp only [List.map_map,Function.comp_def,List.length_map] at this
 rw [this]
theorem slot_eq {ss:List SlotL} {ls:LvA} (h:ss.map SlotL.l=ls.map (fun l=>l.map EntA.nd)) {k:Nat} {l:List EntA} (hk:ls[k]?=some l):∃ s,ss[k]?=some s∧s.l=l.map EntA.nd:=by
 have:=congrArg (fun x=>x[k]?) h
 simp only [List.getElem?_map,hk,Option.map_some] at this
 cases hs:ss[k]? with
 | none=>rw [hs] at this;cases this
 | some s=>rw [hs] at this;simp only [Option.map_some,Option.some.injEq] at this;exact ⟨s,rfl,this⟩
theorem slot_set {ss:List SlotL} {ls:LvA} (h:ss.map SlotL.l=ls.map (fun l=>l.map EntA.nd)) (k:Nat) (s:SlotL) (l:List EntA) (he:s.l=l.map EntA.nd):(ss.set k s).map SlotL.l=(ls.set k l).map (fun l=>l.map EntA.nd):=by
 rw [List.map_set,List.map_set,h,he]
theorem famP_map {α β:Type} {P:β→List Blk→Prop} {f:α→β}:∀ {l:List α} {g:List Blk},FamP P (l.map f) g→FamP (fun a=>P (f a)) l g
 | [],_,h=>h
 | a::l,_,h=>by
   obtain ⟨x,y,hx,hy,rfl⟩:=h
   exact ⟨x,y,hx,famP_map hy,rfl⟩
section
variable {vb:Nat} {home:Value} {ls:LvA} {g:List Blk}
set_option maxRecDepth 100000 in
theorem levPutE (hg:isLevE vb home ls g) {k:Nat} {l:List EntA} (hk:ls[k]?=some l) (ht:totA ls≤1000000) (a:EntA) (ge:List Blk) (ha:entP home a ge) (p0 q0:Value) :
 DoesG Tryz.prog 318 #[ptr' vb,.int .i64 k,ptr' a.nb] [g,ge,[cl a.nb 372 #[ptr' a.eb,p0,q0,.pointer none]]] fun e gs =>
  e=.returned (.int .i64 0)∧∃ g',isLevE vb home (ls.set k (l++[a])) g'∧gs=[g']:=by
 have h64:=hg.len
 obtain ⟨ss,gl,gE,h1,h2,h3,rfl⟩:=hg
 have hk64:k<64:=by have:=(List.getElem?_eq_some_iff.1 hk).1;omega
 obtain ⟨s,hs,hsl⟩:=slot_eq h2 hk
 have hts:=tot_eq h2
 have hge:=totL_ge hs
 obtain ⟨u,y,hu,hp,hback⟩:=h3.out hk
 obtain ⟨gE',hE',hp'⟩:=hback (l++[a]) (u++ge) (FamP.snoc hu ha)
 intro w hw
 have T:=(((TG.refl hw).sum (H':=[gl,gE,ge,[cl a.nb 372 #[ptr' a.eb,p0,q0,.pointer none]]])).permAt 1 rfl hp).sum (H':=[gl,u,y,ge,[cl a.nb 372 #[ptr' a.eb,p0,q0,.pointer none]]])
 refine (DoesG.use (levPut_g h1 hs hk64 (by omega) (by omega) a.nb (ptr' a.eb) p0 q0) T [0,4] rfl rfl).mono ?_
 rintro e w' ⟨gs,⟨he,g1,hn1,rfl⟩,T'⟩
 refine ⟨_,⟨he,_,⟨_,g1,gE',hn1,slot_set h2 k _ _ (by simp [hsl,EntA.nd]),hE',rfl⟩,rfl⟩,?_⟩
 exact ((TG.sum (H:=[g1,u,y,ge,[]]) (H':=[g1,u++ge++y]) T').permAt 1 rfl hp').sum
set_option maxRecDepth 100000 in
theorem levTakeE (hg:isLevE vb home ls g) {k:Nat} {l:List EntA} (hk:ls[k]?=some l) (ht:totA ls≤1000000) :
 DoesG Tryz.prog 306 #[ptr' vb,.int .i64 k] [g] fun e gs =>
  ∃ v gr gn ge g',e=.returned v∧rowG 296 1 v l.length (l.map fun a=>ptr' a.nb) gr∧FamP (fun a=>nodeFreeP a.nd) l gn∧FamP (entP home) l ge∧isLevE vb home (ls.set k []) g'∧gs=[g',gr,gn,ge]:=by
 have h64:=hg.len
 obtain ⟨ss,gl,gE,h1,h2,h3,rfl⟩:=hg
 have hk64:k<64:=by have:=(List.getElem?_eq_some_iff.1 hk).1;omega
 obtain ⟨s,hs,hsl⟩:=slot_eq h2 hk
 have hts:=tot_eq h2
 obtain ⟨u,y,hu,hp,hback⟩:=h3.out hk
 obtain ⟨gE',hE',hp'⟩:=hback [] [] rfl
 intro w hw
 have T:=(((TG.refl hw).sum (H':=[gl,gE])).permAt 1 rfl hp).sum (H':=[gl,u,y])
 refine (DoesG.use (levTake_g h1 hs hk64 (by omega)) T [0] rfl rfl).mono ?_
 rintro e w' ⟨gs,⟨v,gr,gn,g1,he,hr,hn,hl1,rfl⟩,T'⟩
 refine ⟨_,⟨v,gr,gn,u,_,he,?_,?_,hu,⟨_,g1,gE',hl1,slot_set h2 k _ _ rfl,hE',rfl⟩,rfl⟩,?_⟩
 ·rw [hsl,List.length_map,List.map_map] at hr;exact hr
 ·rw [hsl] at hn;exact famP_map hn
 ·exact ((TG.sum (H:=[g1,u,y,gr,gn]) (H':=[g1,[]++y,gr,gn,u]) T').permAt 1 rfl hp').sum
end
end
end Go.Proofs.YtblhfbcodbjgcaaGreat
