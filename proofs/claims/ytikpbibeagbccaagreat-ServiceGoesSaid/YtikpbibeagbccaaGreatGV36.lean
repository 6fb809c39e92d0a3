import Derived.Test.YtikpbibeagbccaaGreatGV35
import Derived.Test.YtikpbibeagbccaaGreatGV17
import Derived.Test.YtikpbibeagbccaaGreatGV33
import Derived.Test.YtikpbibeagbccaaGreatGV25
set_option maxRecDepth 100000
set_option maxHeartbeats 4000000
namespace Go.Proofs.YtikpbibeagbccaaGreat
set_option linter.unusedVariables false
set_option linter.unusedSimpArgs false
open Go.Proofs.Tryz
section
open Go.RowKit Go.Shelf
attribute [local go_sem] Oper.semAt_some
theorem qj5 {P:Program} {fn:Func} {R:Ending→World→Prop} {tmps:Array Value} {W:World} {v:Value} (hres:(results fn tmps).run P W=.ok v W) (hR:R (.returned v) W) :
 bodyPostM Fence.wide 0 P fn R .ret { tmps,defers:=[] } W:=⟨_,hres,hR⟩
theorem q1c {a b:Value}:(#[a]:Array Value).setIfInBounds 0 b=#[b]:=rfl
section
variable {L:Lay} {sb:Nat} {S:SvS} {N:Nat}
theorem qx6 (hn:SvN N S) (hN:N<999998) {vo va vc:Value} {go ga gc gJ gW gZ:List Blk} (hr:J7 L sb S vo va vc go ga gc) (hi:qgq L S gJ gW gZ) (i:Int):Qa prog 15 #[Qb sb,.int .i64 i] [Q6 sb L.fb vo va vc,go,ga,gc,gJ,gW,gZ] fun e gs =>
 ∃ gJ' gW' gZ',e=.returned (.int .i64 (S.stepS i).2)∧qgq L (S.stepS i).1 gJ' gW' gZ'∧gs=[Q6 sb L.fb vo va vc,go,ga,gc,gJ',gW',gZ']:=by
 have HI:=Vh (show ∀ bx,_ from fun bx=>qri hn hr bx);have eg:=enters_of func67 (P:=prog) (by kernel_rfl) rfl;have HNN:=Vh hn;have HSI:=Vh hi;obtain ⟨avo,capo,rfl⟩:=Qu.val hr.o;obtain ⟨avc,capc,rfl⟩:=Qu.val hr.c;have hol:=hn.ol;have hcl:=hn.cl;refine GO fun w HT=>?_
 clear hr hi hn;refine X3 func15 rfl ?_
 simp only [ntmps15,List.size_toArray,List.length_cons,List.length_nil,Nat.reduceAdd,Nat.reduceSub,Array.replicate_succ,Array.replicate_zero,List.push_toArray,List.append_toArray,List.nil_append,List.cons_append];go_wp2_with fail
 obtain ⟨ab,hab⟩:∃ ab,w.heap.size=ab:=⟨_,rfl⟩;have HT:=Vh ((HT.out.alloc (k:=ab) hab.symm 3 #[.int .i64 i]).alloc (k:=ab+1) (by simp [hab]) 35 #[.int .i64 0]);rw [hab];clear hab;generalize World.alloc (World.alloc w _) _=wb at HT ⊢;obtain ⟨rb,hrb⟩:∃ rb,ab+1=rb:=⟨_,rfl⟩;rw [hrb] at HT ⊢;clear hrb;obtain ⟨h1,h3⟩:=Ce2 (HT.out.cell 0 0 rfl) 1 3;simp only [Q6,GE3] at h1 h3;have a0:=HT.out.cell 7 0 rfl 0;simp only [GE4] at a0;have r0:=HT.out.cell 8 0 rfl 0;have fr0:=HT.out.free 8 0 rfl 0;simp only [GE4] at r0;have lth:=HT.out.lt 0 0 rfl;have ltr:=HT.out.lt 8 0 rfl;simp only [] at lth ltr;have HSP:=Vh (show S.stepS i=if i<0∨(S.own.length:Int)+S.crew.length≤i then (S,(4:Int)) else match S.pickTh i with | some t=>(t.2.step S,0) | none=>(S,7) from rfl);by_cases hi0:i<0
 ·have HS:=Vh (show S.stepS i=(S,4) from HSP.out.trans (if_pos (.inl hi0)))
  go_quiet ((fail))
  have HT:=Vh (HT.out.drewN nq);go_wp2
  have T9:=HT.out.set 8 0 rfl 0 (.int .i64 4);have z0:=T9.cell 8 0 rfl 0;simp only [GE2,q1c] at z0;refine qj5 (v:=.int .i64 4) (by simp [results,results15,go_sem,z0]) ?_
  have HS2:=HS.out;rw [HS2]
  first | exact ⟨_,⟨gJ,gW,gZ,rfl,HSI.out,rfl⟩,T9.pick [0,1,2,3,4,5,6] rfl⟩ | exact ⟨_,⟨rfl,gJ,gW,gZ,HSI.out,rfl⟩,T9.pick [0,1,2,3,4,5,6] rfl⟩
 ·by_cases hi1:(S.own.length:Int)+S.crew.length≤i
  ·have HS:=Vh (show S.stepS i=(S,4) from HSP.out.trans (if_pos (.inr hi1)))
   go_quiet ((fail))
   have HT:=Vh (HT.out.drewN nq);go_wp2
   have T9:=HT.out.set 8 0 rfl 0 (.int .i64 4);have z0:=T9.cell 8 0 rfl 0;simp only [GE2,q1c] at z0;refine qj5 (v:=.int .i64 4) (by simp [results,results15,go_sem,z0]) ?_
   have HS2:=HS.out;rw [HS2]
   first | exact ⟨_,⟨gJ,gW,gZ,rfl,HSI.out,rfl⟩,T9.pick [0,1,2,3,4,5,6] rfl⟩ | exact ⟨_,⟨rfl,gJ,gW,gZ,HSI.out,rfl⟩,T9.pick [0,1,2,3,4,5,6] rfl⟩
  ·have HS:=Vh (show S.stepS i=match S.pickTh i with | some t=>(t.2.step S,0) | none=>(S,7) from HSP.out.trans (if_neg (by omega)))
   go_quiet ((fail))
   have HT:=Vh (HT.out.drewN nq);clear h1 h3 a0 r0 fr0 hi0 hi1;go_wp2_with fail
   refine Qa.run (qig sb) (HT.out) [] ?_
   rintro e w1 gs ⟨bx,rfl,rfl⟩ HT;simp only [PU] at HT;obtain ⟨hd,hhd⟩:∃ hd,Q6 sb L.fb (.slice avo S.own.length capo) va (.slice avc S.crew.length capc)=hd:=⟨_,rfl⟩;obtain ⟨vo,hvo⟩:∃ vo,Value.slice avo S.own.length capo=vo:=⟨_,rfl⟩;have T0:=HT.out.re (H':=[Q6 sb L.fb (.slice avo S.own.length capo) va (.slice avc S.crew.length capc),go,ga,gc,gJ,gW,gZ,[cl ab 3 #[.int .i64 i]],[cl rb 35 #[.int .i64 0]]]++[[cl bx 25 #[Qb sb]]]) (by simp);rw [hhd] at HI T0;clear hvo;go_wp2_with fail
   refine qn (H0:=[hd,go,ga,gc,gJ,gW,gZ,[cl ab 3 #[.int .i64 i]],[cl rb 35 #[.int .i64 0]]]) (O0:=[[cl bx 25 #[Qb sb]]]) rfl eg (HI.out bx) ?hps T0 ?hO
    (fun (k:Nat) H=>∃ gJ1 gW1 gZ1,H=[hd,go,ga,gc,gJ1,gW1,gZ1,[cl ab 3 #[.int .i64 i]],[cl rb 35 #[.int .i64 0]]]∧qgq L S gJ1 gW1 gZ1∧∀ t∈S.ths.take k,(decide ((t.1:Int)=i) && t.2.may S)=false)
    (fun _ cd H=>cd=.ret∧∃ t gJ1 gW1 gZ1,S.pickTh i=some t∧H=[hd,go,ga,gc,gJ1,gW1,gZ1,[cl ab 3 #[.int .i64 i]],[cl rb 35 #[.int .i64 0]]]∧qgq L (t.2.step S) gJ1 gW1 gZ1) ?h0 ?hT ?hbody ?hdone ?hstop
   case hps =>
    rintro s x G s' ⟨hx,_⟩;obtain ⟨t,_,rfl⟩:=List.mem_map.1 (List.mem_of_getElem? hx);rfl
   case hO=>exact rfl
   case h0=>exact ⟨gJ,gW,gZ,rfl,HSI.out,fun t ht=>by cases ht⟩
   case hT=>rintro s H K ⟨gJ1,gW1,gZ1,rfl,_⟩;exact ⟨0,1,3,rfl,rfl,rfl,by simp,by simp,by simp⟩
   case hbody =>
    rintro (k:Nat) x G (k':Nat) H W ly ⟨gJ1,gW1,gZ1,rfl,hi1,hno⟩ ⟨hx,rfl,rfl⟩ hH;rw [List.getElem?_map] at hx
    obtain ⟨t,ht,rfl⟩:∃ t,S.ths[k]?=some t∧thC S t=x:=by
     cases h:S.ths[k]? with
     | none=>rw [h] at hx;cases hx
     | some t=>rw [h] at hx;exact ⟨t,rfl,by cases hx;rfl⟩
    have hst1:=fun hm=>q0w HNN.out (qa2 HNN.out (List.mem_of_getElem? ht)) hi1.j hi1.w hi1.z hN hm
    have hst0:=fun hm=>thNo HNN.out (qa2 HNN.out (List.mem_of_getElem? ht)) hi1.j hi1.w hi1.z hN hm
    have HHE:=Vh ht;have HNT:=Vh hno;have HI1:=Vh hi1;obtain ⟨nt,t⟩:=t;simp only at hst1 hst0;have hinv:=qwm S t;have hcal:=qvw S t;obtain ⟨tyV,hty⟩:∃ y,t.ty S=y:=⟨_,rfl⟩;obtain ⟨fV,hfv⟩:∃ y,t.fStep S=y:=⟨_,rfl⟩;obtain ⟨bV,hbv⟩:∃ y,t.b S=y:=⟨_,rfl⟩;unfold thC;simp only;rw [hty,hfv] at hinv;rw [hfv] at hcal;rw [hty,hbv];rw [hfv,hbv] at hst1 hst0;have HST1:=Vh hst1;have HST0:=Vh hst0;have HH:=Vh hH
    have HTK:=Vh (show ∀ b,(decide ((nt:Int)=i) && t.may S)=b→b=false→∀ u∈S.ths.take (k+1),(decide ((u.1:Int)=i) && u.2.may S)=false from fun b h1 h2 u hu=>by
     obtain ⟨h3,h4⟩:=List.getElem?_eq_some_iff.1 HHE.out;rw [List.take_succ_eq_append_getElem h3,h4] at hu;rcases List.mem_append.1 hu with hu | hu
     ·exact HNT.out u hu
     ·obtain rfl:u=(nt,t):=by simpa using hu
      exact h1.trans h2)
    clear hH hi1 ht hx hst1 hst0 hno hty hfv hbv;refine Xz (n:=9) ?_
    gi_wp2
    refine ⟨_,TG.refl HH.out,fun Wb hb=>?_⟩
    have HT:=Vh (TG.refl hb);have a0:=HT.out.cell 7 0 rfl 0;have r0:=HT.out.cell 8 0 rfl 0;have fr0:=HT.out.free 8 0 rfl 0;have ltr:=HT.out.lt 8 0 rfl;simp only [GE2] at a0 r0 ltr;clear hb HH;refine Xz (n:=9) ?_
    by_cases hit:(nt:Int)=i
    ·have hb1:((nt:Int) == i)=true:=by simpa using hit
     cases hm:t.may S with
     | true =>
       have HST:=Vh (HST1.out hm);have HPK:=Vh (show S.pickTh i=some (nt,t) from qsx HHE.out HNT.out (by simp [hit,hm]));clear hm;gi_wp2
       refine ⟨trivial,(ze (Qa.use HST.out HT.out [4,5,6] rfl rfl)).mono ?_⟩
       rintro e W1 ⟨gs,⟨gJ2,gW2,gZ2,rfl,hj2,hw2,hz2,rfl⟩,Ta⟩;simp only [qc8,List.set_cons_zero,List.set_cons_succ,List.append_nil] at Ta;have HI2:=Vh (show qgq L (t.step S) gJ2 gW2 gZ2 from ⟨hj2,hw2,hz2⟩);have fr1:=Ta.free 8 0 rfl 0;have lt1:=Ta.lt 8 0 rfl;have r1:=Ta.cell 8 0 rfl 0;simp only [GE2] at r1 lt1;have HT:=Vh Ta;clear Ta hj2 hw2 hz2 hinv hcal a0 r0 fr0 ltr;gi_wp2
       exact ⟨_,⟨rfl,(nt,t),gJ2,gW2,gZ2,HPK.out,rfl,HI2.out⟩,(HT.out.set 8 0 rfl 0 (.int .i64 0)).eq (by rfl)⟩
     | false =>
       have HST:=Vh (HST0.out hm);have hb2:(decide ((nt:Int)=i) && t.may S)=false:=by rw [hm,Bool.and_false]
       have HTK2:=Vh (HTK.out _ hb2 rfl);clear hb2 hm;gi_wp2
       refine ⟨trivial,(ze (Qa.use HST.out HT.out [4,5,6] rfl rfl)).mono ?_⟩
       rintro e W1 ⟨gs,⟨gJ2,gW2,gZ2,rfl,hj2,hw2,hz2,rfl⟩,Ta⟩;simp only [qc8,List.set_cons_zero,List.set_cons_succ,List.append_nil] at Ta;have HI2:=Vh (show qgq L S gJ2 gW2 gZ2 from ⟨hj2,hw2,hz2⟩);have HT:=Vh Ta;clear Ta hj2 hw2 hz2 hinv hcal a0 r0 fr0 ltr;gi_wp2
       exact ⟨_,⟨gJ2,gW2,gZ2,rfl,HI2.out,HTK2.out⟩,HT.out⟩
    ·have hb1:((nt:Int) == i)=false:=by simpa using hit
     have hb2:(decide ((nt:Int)=i) && t.may S)=false:=by rw [decide_eq_false hit];rfl
     have HTK2:=Vh (HTK.out _ hb2 rfl);clear hb2;gi_wp2
     all_goals (refine ⟨fun _ _=>trivial,?_⟩)
     all_goals
      gi_wp2
      exact ⟨_,⟨gJ1,gW1,gZ1,rfl,HI1.out,HTK2.out⟩,HT.out⟩
   case hdone =>
    rintro (k:Nat) H O' W D hf' ⟨gJ1,gW1,gZ1,rfl,hi1,hno⟩ hO hT
    have hf2:k=S.ths.length:=by
     have:k=(S.ths.map (thC S)).length:=hf';rwa [List.length_map] at this
    subst hf2;rw [List.take_length] at hno
    have HS2:=Vh (show S.stepS i=(S,7) from HS.out.trans (by
     have:S.pickTh i=none:=List.find?_eq_none.2 fun t ht=>by rw [hno t ht];decide
     rw [this]))
    have hO':O'=[[cl bx 25 #[Qb sb]]]:=hO;subst hO';have fr1:=hT.free 8 0 rfl 0;have lt1:=hT.lt 8 0 rfl;have r1:=hT.cell 8 0 rfl 0;simp only [GE2] at r1 lt1;have HX:=Vh (And.intro hi1 hT);clear hf' hi1 hno hT hO;go_wp2
    obtain ⟨hi1,hT⟩:=HX.out;have T2:=(hT.set 8 0 rfl 0 (.int .i64 7)).eq (H':=[hd,go,ga,gc,gJ1,gW1,gZ1,[cl ab 3 #[.int .i64 i]],[cl rb 35 #[.int .i64 7]]]++[[cl bx 25 #[Qb sb]]]++[[(D,.deferred (some []))]]) rfl;have T3:=T2.turnLast (.deferred none);have z0:=T3.cell 8 0 rfl 0;simp only [GE2] at z0;subst hhd
    have T4:TG [Q6 sb L.fb (.slice avo S.own.length capo) va (.slice avc S.crew.length capc),go,ga,gc,gJ,gW,gZ] w ([Q6 sb L.fb (.slice avo S.own.length capo) va (.slice avc S.crew.length capc),go,ga,gc,gJ1,gW1,gZ1]++[[cl ab 3 #[.int .i64 i],cl rb 35 #[.int .i64 7],cl bx 25 #[Qb sb],(D,.deferred none)]]) _:=T3.re (by
     classical
     simp only [List.flatten_append,List.flatten_cons,List.flatten_nil,List.append_nil,List.cons_append,List.nil_append];refine List.perm_iff_count.2 fun a=>?_
     simp only [List.count_append,List.count_cons,List.count_nil]
     try omega)
    exact Je (v:=.int .i64 7) T2.has.last (by simp [results,results15,go_sem,z0]) ⟨_,⟨gJ1,gW1,gZ1,by rw [HS2.out],by rw [HS2.out];exact hi1,rfl⟩,T4.dropLast⟩
   case hstop =>
    rintro (s:Nat) cd H O W D ⟨rfl,t,gJ1,gW1,gZ1,hpk,rfl,hi1⟩ hT;have HS2:=Vh (show S.stepS i=(t.2.step S,0) from HS.out.trans (by rw [hpk]));have HX:=Vh (And.intro hi1 hT);clear hpk hi1 hT;go_wp2
    obtain ⟨hi1,hT⟩:=HX.out;have T3:=hT.turnLast (.deferred none);have z0:=T3.cell 8 0 rfl 0;simp only [GE2] at z0;subst hhd
    have T4:TG [Q6 sb L.fb (.slice avo S.own.length capo) va (.slice avc S.crew.length capc),go,ga,gc,gJ,gW,gZ] w ([Q6 sb L.fb (.slice avo S.own.length capo) va (.slice avc S.crew.length capc),go,ga,gc,gJ1,gW1,gZ1]++[O.flatten++[cl ab 3 #[.int .i64 i],cl rb 35 #[.int .i64 0],(D,.deferred none)]]) _:=T3.re (by
     classical
     simp only [List.flatten_append,List.flatten_cons,List.flatten_nil,List.append_nil,List.cons_append,List.nil_append];refine List.perm_iff_count.2 fun a=>?_
     simp only [List.count_append,List.count_cons,List.count_nil]
     omega)
    exact Je (v:=.int .i64 0) hT.has.last (by simp [results,results15,go_sem,z0]) ⟨_,⟨gJ1,gW1,gZ1,by rw [HS2.out],by rw [HS2.out];exact hi1,rfl⟩,T4.dropLast⟩
end
end
section
open Go.RowKit Go.Shelf
theorem q2e (a b c d e f g:List Blk):([a,b,c,d,e,f,g]:GH).flatten=([a++(b++(c++(d++(e++(f++g)))))]:GH).flatten:=by simp
section
variable {L:Lay} {sb:Nat} {S:SvS} {N:Nat} {g:List Blk}
theorem q2f (h:qio L sb S g) (hn:SvN N S) (hN:N<999998):Qa prog 18 #[Qb sb] [g] fun e gs =>
 ∃ v gl g',e=.returned v∧Qu 3 1 v S.mays.length (ql1 S.mays) gl∧qio L sb S g'∧gs=[g',gl]:=by
 obtain ⟨vo,va,vc,go,ga,gc,gJ,gW,gZ,hr,hi,rfl⟩:=h;refine ((q1x hn hN hr hi).pre (q2e _ _ _ _ _ _ _)).post ?_
 rintro e gs ⟨v,gl,gJ',gW',gZ',rfl,h1,h2,rfl⟩;exact ⟨_,⟨v,gl,_,rfl,h1,⟨vo,va,vc,go,ga,gc,gJ',gW',gZ',hr,h2,rfl⟩,rfl⟩,by simp⟩
theorem qo3 {vo va vc:Value} {go ga gc:List Blk} (hn:SvN N S) (hr:J7 L sb S vo va vc go ga gc) (i:Int):J7 L sb (S.stepS i).1 vo va vc go ga gc:=by
 unfold SvS.stepS;split
 ·exact hr
 ·split
  ·next t ht=>exact qtv (qa2 hn (List.mem_of_find?_eq_some ht)) hr
  ·exact hr
theorem qw2 (h:qio L sb S g) (hn:SvN N S) (hN:N<999998) (i:Int):Qa prog 15 #[Qb sb,.int .i64 i] [g] fun e gs =>
 ∃ g',e=.returned (.int .i64 (S.stepS i).2)∧qio L sb (S.stepS i).1 g'∧gs=[g']:=by
 obtain ⟨vo,va,vc,go,ga,gc,gJ,gW,gZ,hr,hi,rfl⟩:=h;refine ((qx6 hn hN hr hi i).pre (q2e _ _ _ _ _ _ _)).post ?_
 rintro e gs ⟨gJ',gW',gZ',rfl,h2,rfl⟩;exact ⟨_,⟨_,rfl,⟨vo,va,vc,go,ga,gc,gJ',gW',gZ',qo3 hn hr i,h2,rfl⟩,rfl⟩,by simp⟩
def SvS.pickAt (S:SvS) (k:Int):Nat:=S.mays.getD ((max 0 k) % (S.mays.length:Int)).toNat 0
def SvS.pickS (S:SvS) (k:Int):SvS × Int × Int:=if S.mays.length=0 then (S,0,6) else ((S.stepS (S.pickAt k)).1,S.pickAt k,(S.stepS (S.pickAt k)).2)
theorem qz0 (hn:SvN N S) (hN:N<999998) (k:Int):SvN (N+1) (S.pickS k).1:=by
 unfold SvS.pickS;split
 ·exact hn.mono (by omega)
 ·exact qrg hn hN _
theorem q0f (h:qio L sb S g) (hn:SvN N S) (hN:N<999998) (k:Int):Qa prog 16 #[Qb sb,.int .i64 k] [g] fun e gs =>
 ∃ g',e=.returned (.tuple #[.int .i64 (S.pickS k).2.1,.int .i64 (S.pickS k).2.2])∧qio L sb (S.pickS k).1 g'∧gs=[g']:=by
 have HM:=Vh (q2f h hn hN);have HST:=Vh (show ∀ i g',qio L sb S g'→_ from fun i g' h'=>qw2 h' hn hN i);have hlen:S.mays.length≤2000:=Nat.le_trans (by unfold SvS.mays;rw [List.length_map];exact List.length_filter_le _ _) (ql9 hn);refine GO fun w HT=>?_
 clear h hn;go_enter func16,ntmps16
 go_wp2_with fail
 refine Qa.run (HM.out) (HT.out) [0] ?_
 rintro e w1 gs ⟨v,gl,g1,rfl,hl,hs,rfl⟩ HT;simp only [PU] at HT;obtain ⟨av,cap,rfl⟩:=Qu.val hl;have HL:=Vh hl;have HS1:=Vh hs;clear hl hs;by_cases h0:S.mays.length=0
 ·have HP:=Vh (show S.pickS k=(S,0,6) from if_pos h0)
  have hb:((S.mays.length:Int) == 0)=true:=by rw [h0];rfl
  go_wp2
  go_ret2
  exact ⟨_,⟨g1,by rw [HP.out];rfl,by rw [HP.out];exact HS1.out,rfl⟩,HT.out.pick [0] rfl⟩
 ·have HP:=Vh (show S.pickS k=((S.stepS (S.pickAt k)).1,((S.pickAt k:Nat):Int),(S.stepS (S.pickAt k)).2) from if_neg h0)
  have hb:((S.mays.length:Int) == 0)=false:=by simpa using h0
  have hn0:0<S.mays.length:=by omega
  obtain ⟨m,hm⟩:∃ m:Nat,max 0 k=(m:Int):=⟨(max 0 k).toNat,by omega⟩
  have hat:S.mays[m % S.mays.length]?=some (S.pickAt k):=by
   unfold SvS.pickAt;rw [hm];have:(((m:Int) % (S.mays.length:Int))).toNat=m % S.mays.length:=by omega
   rw [this,List.getD_eq_getElem?_getD,List.getElem?_eq_getElem (Nat.mod_lt _ hn0)];rfl
  obtain ⟨rb,cp,hv,hcell⟩:=q6 HL.out HT.out 1 rfl (by simp) (k:=m % S.mays.length) (x:=.int .i64 (S.pickAt k)) (by unfold ql1;rw [List.getElem?_map,hat];rfl);obtain ⟨rfl,rfl⟩:av=some ⟨rb,0,none⟩∧cap=cp:=by cases hv;exact ⟨rfl,rfl⟩
  have hlt:m % S.mays.length<S.mays.length:=Nat.mod_lt _ hn0;obtain ⟨P,hP⟩:∃ P,S.pickAt k=P:=⟨_,rfl⟩;rw [hP] at hcell HP;obtain ⟨M,hM⟩:∃ M,S.mays.length=M:=⟨_,rfl⟩;rw [hM] at hcell hlt hlen hn0 hb;have HSP:=Vh (HST.out P g1 HS1.out);clear hv hat HL HM h0 hP HST HS1;rw [hM];go_wp2_with fail
  go_wp2_with fail
  refine Qa.run (HSP.out) (HT.out) [0] ?_
  rintro e w1 gs ⟨g2,rfl,hs2,rfl⟩ HT;simp only [PU] at HT;have HS2:=Vh hs2;clear hs2;go_wp2
  go_ret2
  exact ⟨_,⟨g2,by rw [HP.out];rfl,by rw [HP.out];exact HS2.out,rfl⟩,HT.out.pick [0] rfl⟩
end
end
section
open Go.RowKit Go.Shelf
attribute [local go_sem] Oper.semAt_some
end
section
open Go.RowKit Go.Shelf
section
variable {L:Lay} {sb:Nat} {S:SvS} {N:Nat} {g gJ:List Blk}
theorem qyu (h:qio L sb S g):Qa prog 21 #[Qb sb] [g] fun e gs=>e=.returned (Qb L.fb)∧gs=[g]:=by
 obtain ⟨vo,va,vc,go,ga,gc,gJ,gW,gZ,hr,hi,rfl⟩:=h;obtain ⟨ava,capa,rfl⟩:=Qu.val hr.a;refine GO fun w HT=>?_
 have HT:=Vh (HT.out.sum (H':=[Q6 sb L.fb vo (.slice ava S.all.length capa) vc,go,ga,gc,gJ,gW,gZ]));obtain ⟨sv0,sv1,sv2,sv3⟩:=Ce4 (HT.out.cell 0 0 rfl) 0 1 2 3;simp only [Q6,GE3] at sv0 sv1 sv2 sv3;have lth:=HT.out.lt 0 0 rfl;simp only [] at lth;have HR:=Vh hr;have HSI:=Vh hi;clear hr hi;go_enter func21,ntmps21
 go_wp2
 go_ret
 exact ⟨_,⟨rfl,rfl⟩,HT.out.sum⟩
theorem q2p (h:qio L sb S g) (hn:SvN N S) (hN:N<999998):Qa prog 39 #[Qb sb] [g] fun e gs=>∃ v gv g',e=.returned v∧Qu 82 4 v S.z.lg.length (Jh S.z.lg) gv∧qio L sb S g'∧gs=[g',gv]:=by
 have HF:=Vh (qyu h);have hlg:=hn.glo.zn.lg;obtain ⟨vo,va,vc,go,ga,gc,gJ,gW,gZ,hr,hi,rfl⟩:=h;obtain ⟨gC,gWh,gP,gL,h1,h2,h3,h4,rfl⟩:=Zh hi.z;have HR:=Vh hr;have HSI:=Vh hi;have HX:=Vh h1;have HLA:=Vh (qvl h4 (by omega));refine GO fun w HT=>?_
 clear hr hi h1 h2 h3 h4 hn hlg;go_enter func39,ntmps39
 go_wp2_with fail
 refine Qa.run (HF.out) (HT.out) [0] ?_
 rintro e w1 gs ⟨rfl,rfl⟩ HT;simp only [PU] at HT;have HT:=Vh (HT.out.sum (H':=[Q6 sb L.fb vo va vc++(go++(ga++(gc++(gJ++gW)))),gC,gWh++gP,gL]));go_wp2_with fail
 refine (Qe.use (qiz HX.out) (HT.out) [1] rfl rfl).mono ?_
 rintro e w1 ⟨rfl,mq,rfl⟩;have HT:=Vh (HT.out.drewN mq);generalize World.drewN _ _=wq at HT ⊢;go_wp2_with fail
 refine Qa.run (HLA.out) (HT.out) [3] ?_
 rintro e w1 gs ⟨v,gv,rfl,hv,rfl⟩ HT;simp only [PU] at HT;obtain ⟨av,cap,rfl⟩:=Qu.val hv;have HV:=Vh hv;clear hv;go_wp2
 go_ret
 exact ⟨_,⟨_,gv,_,rfl,HV.out,⟨vo,va,vc,go,ga,gc,gJ,gW,_,HR.out,HSI.out,rfl⟩,rfl⟩,HT.out.sum⟩
end
theorem qe7 (w:Wk) (b:Nat) (W:World):(method 503 w.ty (Qb b) "Done").run prog W=.ok (w.fDone,Qb b) W:=by cases w <;> kernel_rfl
theorem qea (w:Wk) (args:Array Value) (W:World):(callFunc w.fDone args).run prog W=.ok (.enter w.fDone args) W:=by cases w <;> kernel_rfl
section
variable {L:Lay} {sb:Nat} {S:SvS} {N:Nat} {g gJ:List Blk}
theorem qbs (hj:Jb L S.all gJ) {a:Nat} {j:qg} (hk:S.all[a]?=some j):Qa prog j.w.fDone #[Qb j.kb] [gJ] fun e gs=>∃ gJ',e=.returned (.bool j.w.done)∧Jb L S.all gJ'∧gs=[gJ']:=by
 refine (z7 (rest:=[]) (R:=fun e a' rest'=>a'=j∧e=.returned (.bool j.w.done)∧rest'=[]) hj hk (fun ga hga=>(qzf hga).does.mono ?_)).mono ?_
 ·rintro e gs ⟨rfl,rfl⟩
  exact ⟨j,ga,[],⟨rfl,rfl,rfl⟩,hga,rfl⟩
 ·rintro e gs ⟨a',g',rest',⟨rfl,rfl,rfl⟩,h3,rfl⟩
  rw [qp hk] at h3;exact ⟨g',rfl,h3,rfl⟩
theorem qon:Qa prog 47 #[.nilIface] [gJ] fun e gs=>e=.returned (.bool false)∧gs=[gJ]:=by
 have hnq:=qao;refine GO fun w HT=>?_
 go_enter func47,ntmps47
 go_wp2
 all_goals (first | (go_ret;exact ⟨_,⟨rfl,rfl⟩,HT.out⟩) | (refine ⟨fun _ _=>trivial,?_⟩;go_wp2;go_ret;exact ⟨_,⟨rfl,rfl⟩,HT.out⟩))
theorem qov (hj:Jb L S.all gJ) {a:Nat} {j:qg} (hk:S.all[a]?=some j):Qa prog 47 #[.iface j.w.ty (Qb j.kb)] [gJ] fun e gs=>∃ gJ',e=.returned (.bool (!j.w.done))∧Jb L S.all gJ'∧gs=[gJ']:=by
 have HD:=Vh (qbs hj hk);have hnq:=qcy j.w;have hmt:=qe7 j.w;have hcl:=qea j.w;obtain ⟨d,hd⟩:∃ d,j.w.done=d:=⟨_,rfl⟩;obtain ⟨tyV,hty⟩:∃ y,j.w.ty=y:=⟨_,rfl⟩;obtain ⟨fV,hfv⟩:∃ y,j.w.fDone=y:=⟨_,rfl⟩;rw [hd,hfv] at HD;rw [hty,hfv] at hmt;rw [hty] at hnq;rw [hfv] at hcl;rw [hd,hty];refine GO fun w HT=>?_
 clear hj hk hd hty hfv;go_enter func47,ntmps47
 go_wp2_with fail
 go_wp2_with fail
 refine Qa.run (HD.out) (HT.out) [0] ?_
 rintro e w1 gs ⟨gJ',rfl,hj',rfl⟩ HT;simp only [PU] at HT;have HJ':=Vh hj';clear hj';go_wp2
 go_ret
 exact ⟨_,⟨gJ',rfl,HJ'.out,rfl⟩,HT.out⟩
def qg0 (S:SvS):Option Nat→Bool
 | none=>false
 | some a=>!(S.jobAt a).w.done
def SvS.busyB (S:SvS):Bool:=S.own.any (qg0 S)
theorem qik {S:SvS} {k:Nat} {o:Option Nat} (h:S.own[k]?=some o) (h1:(S.own.take k).any (qg0 S)=false) (h2:qg0 S o=false):(S.own.take (k+1)).any (qg0 S)=false:=by
 obtain ⟨a,b⟩:=List.getElem?_eq_some_iff.1 h;rw [List.take_succ_eq_append_getElem a,List.any_append,h1,b];simp [h2]
theorem qvm {S:SvS} {k:Nat} {o:Option Nat} (h:S.own[k]?=some o) (h2:qg0 S o=true):S.busyB=true:=List.any_eq_true.2 ⟨o,List.mem_of_getElem? h,h2⟩
theorem qy8 (hn:SvN N S) (hj:Jb L S.all gJ) {vo:Value} {go:List Blk} (hro:Qu 88 1 vo S.own.length (S.os.map ifO) go):Qa prog 68 #[vo,.func (.func 47) #[] #[]] [gJ,go] fun e gs =>
 ∃ r gJ',e=.returned (.int .i64 r)∧decide (0≤r)=S.busyB∧Jb L S.all gJ'∧gs=[gJ',go]:=by
 obtain ⟨av,cap,rfl⟩:=Qu.val hro;have HNN:=Vh hn;have HRO:=Vh hro;have HJ:=Vh hj;have hol:=hn.ol;refine GO fun w HT=>?_
 clear hn hj hro;go_enter func68,ntmps68
 go_wp2_with fail
 go_loopw [8] (fun i wr=>∃ (k:Nat) (gJ1:List Blk),k≤S.own.length∧i=.int .i64 k∧Jb L S.all gJ1∧(S.own.take k).any (qg0 S)=false∧TG [gJ,go] w [gJ1,go] wr) (fun i _=>S.own.length+1 - (intOf i).toNat)
 case atStart=>exact ⟨0,gJ,by omega,rfl,HJ.out,rfl,HT.out⟩
 case round =>
  obtain ⟨k,gJ1,hk,rfl,hj1,hno,T⟩:=hrel;clear HJ;by_cases hkl:k<S.own.length
  ·obtain ⟨o,ho⟩:∃ o,S.own[k]?=some o:=⟨_,List.getElem?_eq_getElem hkl⟩
   obtain ⟨b,cp,hv,hb⟩:=q6 HRO.out T 1 rfl (by simp) (k:=k) (x:=ifO (o.map fun a=>((S.jobAt a).w,(S.jobAt a).kb))) (by unfold SvS.os;rw [List.getElem?_map,List.getElem?_map,ho];rfl);obtain ⟨rfl,rfl⟩:av=some ⟨b,0,none⟩∧cap=cp:=by cases hv;exact ⟨rfl,rfl⟩
   have HT:=Vh T;have HO:=Vh ho;have HNO:=Vh hno;cases o with
   | none =>
     change _=some Value.nilIface at hb
     have HC:=Vh (qon (gJ:=gJ1));have HJ1:=Vh hj1;clear hv T ho hno hj1;go_wp2_with fail
     go_wp2_with fail
     refine Qa.run (HC.out) (HT.out) [0] ?_
     rintro e w1 gs ⟨rfl,rfl⟩ HT;simp only [PU] at HT;have HN2:=Vh (qik HO.out HNO.out rfl);clear hb;go_wp2
     first
     | (go_roundw
        case rel=>exact ⟨k+1,gJ1,by omega,by go_num,HJ1.out,HN2.out,HT.out⟩
        case measure=>simp [intOf];omega)
     | exact ⟨⟨k+1,gJ1,by omega,by go_num,HJ1.out,HN2.out,HT.out⟩,by simp [intOf];omega⟩
     | ((repeat apply Exists.intro);exact ⟨⟨⟨k+1,gJ1,by omega,by go_num,HJ1.out,HN2.out,HT.out⟩,rfl⟩,by simp [intOf];omega⟩)
   | some a =>
     have hka:=Xu (HNN.out.own a (List.mem_of_getElem? ho));change _=some (Value.iface (S.jobAt a).w.ty (Qb (S.jobAt a).kb)) at hb
     have HC:=Vh (qov hj1 hka);cases hd:(S.jobAt a).w.done with
     | true =>
       rw [hd] at HC;have HN2:=Vh (qik HO.out HNO.out (show (!(S.jobAt a).w.done)=false by rw [hd];rfl));clear hv T ho hno hj1 hka hd;go_wp2_with fail
       go_wp2_with fail
       refine Qa.run (HC.out) (HT.out) [0] ?_
       rintro e w1 gs ⟨gJ2,rfl,hj2,rfl⟩ HT;simp only [PU] at HT;have HJ2:=Vh hj2;clear hb hj2;go_wp2
       first
       | (go_roundw
          case rel=>exact ⟨k+1,gJ2,by omega,by go_num,HJ2.out,HN2.out,HT.out⟩
          case measure=>simp [intOf];omega)
       | exact ⟨⟨k+1,gJ2,by omega,by go_num,HJ2.out,HN2.out,HT.out⟩,by simp [intOf];omega⟩
       | ((repeat apply Exists.intro);exact ⟨⟨⟨k+1,gJ2,by omega,by go_num,HJ2.out,HN2.out,HT.out⟩,rfl⟩,by simp [intOf];omega⟩)
     | false =>
       rw [hd] at HC;have HB:=Vh (qvm HO.out (show (!(S.jobAt a).w.done)=true by rw [hd];rfl));clear hv T ho hno hj1 hka hd;go_wp2_with fail
       go_wp2_with fail
       refine Qa.run (HC.out) (HT.out) [0] ?_
       rintro e w1 gs ⟨gJ2,rfl,hj2,rfl⟩ HT;simp only [PU] at HT;have HJ2:=Vh hj2;clear hb hj2;go_wp2
       go_ret
       exact ⟨_,⟨_,gJ2,rfl,by rw [HB.out];exact decide_eq_true (by omega),HJ2.out,rfl⟩,HT.out⟩
  ·obtain rfl:k=S.own.length:=by omega
   rw [List.take_length] at hno;have HB:=Vh (show S.busyB=false from hno);have HJ1:=Vh hj1;have HT:=Vh T;clear T hno hj1;go_wp2
   go_ret
   exact ⟨_,⟨_,gJ1,rfl,by rw [HB.out];rfl,HJ1.out,rfl⟩,HT.out⟩
theorem qoz (hn:SvN N S) (hj:Jb L S.all gJ) {vo:Value} {go:List Blk} (hro:Qu 88 1 vo S.own.length (S.os.map ifO) go):Qa prog 46 #[vo,.func (.func 47) #[] #[]] [gJ,go] fun e gs =>
 ∃ gJ',e=.returned (.bool S.busyB)∧Jb L S.all gJ'∧gs=[gJ',go]:=by
 have HI:=Vh (qy8 hn hj hro);obtain ⟨av,cap,rfl⟩:=Qu.val hro;refine GO fun w HT=>?_
 clear hn hj hro;go_enter func46,ntmps46
 go_wp2_with fail
 refine Qa.run (HI.out) (HT.out) [0,1] ?_
 rintro e w1 gs ⟨r,gJ',rfl,hb,hj',rfl⟩ HT;simp only [PU] at HT;have HJ':=Vh hj';by_cases hr:0≤r
 ·have HB:=Vh (show S.busyB=true from hb.symm.trans (decide_eq_true hr))
  clear hb hj';go_wp2
  go_ret
  exact ⟨_,⟨gJ',by rw [HB.out];rfl,HJ'.out,rfl⟩,HT.out⟩
 ·have HB:=Vh (show S.busyB=false from hb.symm.trans (decide_eq_false hr))
  clear hb hj';go_wp2
  go_ret
  exact ⟨_,⟨gJ',by rw [HB.out];show Ending.returned (.bool (decide (0≤r)))=_;rw [decide_eq_false (show ¬ (0≤r) by omega)],HJ'.out,rfl⟩,HT.out⟩
def SvS.idle (S:SvS):Bool:=!S.busyB && Ye S.crew S.z.p
theorem q14 (h:qio L sb S g) (hn:SvN N S) (hN:N<999998):Qa prog 17 #[Qb sb] [g] fun e gs=>∃ g',e=.returned (.bool S.idle)∧qio L sb S g'∧gs=[g']:=by
 obtain ⟨vo,va,vc,go,ga,gc,gJ,gW,gZ,hr,hi,rfl⟩:=h;obtain ⟨gC,gWh,gP,gL,h1,h2,h3,h4,rfl⟩:=Zh hi.z;have HC:=Vh (qoz hn hi.j hr.o);have hcl:=hn.cl;have hrest:=hn.glo.zn.rest;have hroom:=hn.glo.room
 have HCI:=Vh (qum h1 h3 (by have:=hrest.ch;omega) (by have:=hrest.sp;omega) (v:=vc) (n:=S.crew.length) (gr:=gc) (l:=S.crew) (gW:=gW) (by have:=hr.c;unfold SvS.ps at this;rw [List.map_map] at this;exact this) hi.w hcl (fun z hz=>by
  rcases (hn.crew z hz).fit with ⟨_,h⟩ | ⟨_,h⟩
  ·rw [h];exact Nat.zero_le _
  ·omega))
 have HR:=Vh hr;have HX:=Vh (And.intro h2 h4);have HSI:=Vh hi;obtain ⟨avo,capo,rfl⟩:=Qu.val hr.o;obtain ⟨avc,capc,rfl⟩:=Qu.val hr.c;refine GO fun w HT=>?_
 have HT:=Vh (HT.out.sum (H':=[Q6 sb L.fb (.slice avo S.own.length capo) va (.slice avc S.crew.length capc),go,ga,gc,gJ,gW,gC,gP,gWh,gL]));obtain ⟨sv0,sv1,sv2,sv3⟩:=Ce4 (HT.out.cell 0 0 rfl) 0 1 2 3;simp only [Q6,GE3] at sv0 sv1 sv2 sv3;have lth:=HT.out.lt 0 0 rfl;simp only [] at lth;clear hr hi h1 h2 h3 h4 hn hrest hroom;go_enter func17,ntmps17
 go_wp2_with fail
 refine Qa.run (HC.out) (HT.out) [4,1] ?_
 rintro e w1 gs ⟨gJ2,rfl,hj2,rfl⟩ HT;simp only [PU] at HT;have HJ2:=Vh hj2;clear hj2 sv0 sv1 sv2 sv3 lth;obtain ⟨sv0,sv1,sv2,sv3⟩:=Ce4 (HT.out.cell 0 0 rfl) 0 1 2 3;simp only [Q6,GE3] at sv0 sv1 sv2 sv3;have lth:=HT.out.lt 0 0 rfl;simp only [] at lth;cases hb:S.busyB with
 | true =>
   have HB:=Vh (show S.idle=false from by unfold SvS.idle;rw [hb];rfl);clear hb;go_wp2_with fail
   go_quiet ((fail))
   have HT:=Vh (HT.out.drewN nq);go_wp2
   go_ret
   exact ⟨_,⟨_,by rw [HB.out];rfl,⟨_,_,_,go,ga,gc,gJ2,gW,_,HR.out,⟨HJ2.out,HSI.out.w,HSI.out.z⟩,rfl⟩,rfl⟩,HT.out.sum⟩
 | false =>
   have HB:=Vh (show S.idle=Ye S.crew S.z.p from by unfold SvS.idle;rw [hb];rfl);clear hb;go_wp2_with fail
   refine Qc 11 (by kernel_rfl) (by kernel_rfl) ?_
   simp only [TD4]
   repeat (go_big_quiet_step ((fail)))
   refine wpQuiet_nil (QE fun nq=>?_)
   have HT:=Vh (HT.out.drewN nq);go_wp2_with fail
   refine Qa.run (HCI.out) (HT.out) [5,3,6,7] ?_
   rintro e w1 gs ⟨gW2,rfl,hw2,rfl⟩ HT;simp only [PU] at HT;have HW2:=Vh hw2;clear hw2;go_wp2_with fail
   refine ⟨rfl,?_⟩
   go_wp2
   go_ret
   exact ⟨_,⟨_,by rw [HB.out];rfl,⟨_,_,_,go,ga,gc,gJ2,gW2,_,HR.out,⟨HJ2.out,HW2.out,HSI.out.z⟩,rfl⟩,rfl⟩,HT.out.sum⟩
end
theorem qgd {h H:GH} {w w':World} (T:TG h w H w') (i:Nat) {v:Value} {l:List Q7} {g:List Blk} (hi:H.getD i []=g) (r:Qu 82 4 v l.length (Jh l) g) {k:Nat} {f:Q7} (hk:l[k]?=some f) :
 ∃ b cap,v=.slice (some ⟨b,0,none⟩) l.length cap∧l.length≤cap∧cap≤maxLen∧∀ j,j<4→w'.cell? ⟨b,k*4+j,none⟩=f.vals[j]?:=by
 have hlt:=(List.getElem?_eq_some_iff.1 hk).1;obtain ⟨b,cap,cur,rfl,rfl,h1,h2,h3,h4⟩:=Qu.open r (by omega);exact ⟨b,cap,rfl,h1,h2,fun j hj=>(T.cell (b:=b) i 0 (by rw [hi];rfl) (k*4+j)).trans ((h4 (k*4+j) (by omega)).trans (qap l k f j hk hj))⟩
theorem qx3 {a b:Value} {l:List Q7} {gA gB:List Blk} (ha:Qu 82 4 a l.length (Jh l) gA) (hb:Qu 82 4 b l.length (Jh l) gB) (hn:l.length≤1000000000):Qe prog 38 #[a,b] [gA,gB] (.bool true):=by
 obtain ⟨xa,ca,rfl⟩:=Qu.val ha;obtain ⟨xb,cb,rfl⟩:=Qu.val hb;intro w hw;have HT:=Vh (TG.refl hw);have HA:=Vh ha;have HB:=Vh hb;generalize hll:l.length=n at *;have HL:=Vh hll;clear hw ha hb hll;go_enter func38,ntmps38
 go_wp2
 go_loopw [5] (fun i wr=>∃ k m:Nat,k≤n∧i=.int .i64 k∧wr=w.drewN m) (fun i _=>n - (intOf i).toNat)
 case atStart=>exact ⟨0,0,Nat.zero_le _,rfl,rfl⟩
 case round =>
  obtain ⟨k,m,hk,rfl,rfl⟩:=hrel;by_cases hlt:k<n
  ·obtain ⟨f,hf⟩:∃ f,l[k]?=some f:=⟨_,List.getElem?_eq_getElem (by rw [HL.out];exact hlt)⟩
   obtain ⟨ba,da,ea,a1,a2,c⟩:=qgd HT.out 0 rfl (by rw [HL.out];exact HA.out) hf;obtain ⟨bb,db,eb,b1,b2,d⟩:=qgd HT.out 1 rfl (by rw [HL.out];exact HB.out) hf;rw [HL.out] at ea eb a1 b1;cases ea
   cases eb
   have c0:=c 0 (by decide);have c1:=c 1 (by decide);have c2:=c 2 (by decide);have c3:=c 3 (by decide);have d0:=d 0 (by decide);have d1:=d 1 (by decide);have d2:=d 2 (by decide);have d3:=d 3 (by decide);simp only [Q7.vals,List.getElem?_cons_zero,List.getElem?_cons_succ] at c0 c1 c2 c3 d0 d1 d2 d3;rw [Nat.add_zero] at c0 d0;clear c d hf;go_wp2
   go_quiet (fail)
   go_wp2
   go_roundw
   case rel=>exact ⟨k+1,_,by omega,by go_num,rfl⟩
   case measure=>simp [intOf];omega
  ·go_wp2
   go_ret
   exact ⟨rfl,m,rfl⟩
theorem qke:zd.lv=List.replicate 4 (List.replicate 64 []):=by rfl
theorem qnj (P:qa5→Prop):qbl P zd:=by
 refine ⟨fun l hl s hs e he=>?_,fun e he=>by cases he⟩
 rw [qke] at hl;rw [List.eq_of_mem_replicate hl] at hs;rw [List.eq_of_mem_replicate hs] at he;cases he
theorem qwh:qc9 0 zd:=⟨⟨by decide,fun l hl=>by
 rw [qke] at hl
 rw [List.eq_of_mem_replicate hl,List.length_replicate]⟩,by decide,by decide,qnj _⟩
theorem q3g (c:Cfg) (hk:c.ok=true):ZN 0 (zf0 c)∧qzb (zf0 c).ws∧(zf0 c).x.shs.length≤4:=by
 obtain ⟨h1,h2,h3,h4,h5,h6⟩:=Cfg.bd hk;have hrep:∀ w∈(zf0 c).ws,w=zd:=fun w hw=>List.eq_of_mem_replicate hw
 have hsh:∀ s∈(zf0 c).x.shs,s=Qp c.ring.toNat:=fun s hs=>List.eq_of_mem_replicate hs
 refine ⟨⟨qyh hk,⟨⟨Int.le_refl 0,Int.le_refl 0⟩,⟨Int.le_refl 0,Int.le_refl 0⟩,?_,?_,fun w hw=>by rw [hrep w hw];exact qwh,fun s hs e he=>?_,fun s hs=>by rw [hsh s hs];exact ⟨Int.le_refl 0,Int.le_refl 0⟩,Nat.zero_le _,Nat.zero_le _⟩,Nat.le_refl _⟩,fun w hw=>by rw [hrep w hw];exact qnj _,?_⟩
 ·show c.cap=((List.replicate c.cap.toNat Rec.zero).length:Int)
  rw [List.length_replicate];omega
 ·show (List.replicate _ _).length=(List.replicate _ _).length
  rw [List.length_replicate,List.length_replicate]
 ·rw [hsh s hs] at he
  simp [Qp,Jm] at he
  obtain ⟨i,_,rfl⟩:=he;exact qzj
 ·show (List.replicate _ _).length≤4
  rw [List.length_replicate];omega
def sv0 (c:Cfg) (ws:List WkN):SvS:=⟨zf0 c,List.replicate (c.cli.toNat+1) none,[],ws⟩
theorem q2x (c:Cfg) (hk:c.ok=true) {ws:List WkN} (hl:ws.length=c.wk.toNat) (hw:∀ z∈ws,qf9 z):SvN 0 (sv0 c ws):=by
 obtain ⟨h1,h2,h3⟩:=q3g c hk;obtain ⟨b1,b2,b3,b4,b5,b6⟩:=Cfg.bd hk;refine ⟨⟨h1,h2,h3,?_⟩,(fun j hj=>by cases hj),fun z hz=>qa3.new (hw z hz),fun k hk'=>?_,?_,?_,Nat.le_refl _,(fun a j h=>by cases h)⟩
 ·show c.room.toNat≤1000
  omega
 ·have:=List.eq_of_mem_replicate hk'
  cases this
 ·show 1≤(List.replicate _ _).length∧(List.replicate _ _).length≤1000
  rw [List.length_replicate];omega
 ·show ws.length≤1000
  omega
def X5 (th no:Int) (c:Qr):Wk:=if c.kind=7 then .turn firstT (qoj th no) else if c.kind=6 then .clo qnl (qm6 th no) else .call (J9 c.kind) (zu th no c)
def qxc (th no:Int) (c:Qr):EvS:=if c.kind=7 then evT (qoj th no) { ev0 with kind:=1 } else if c.kind=6 then evS (qm6 th no) { ev0 with kind:=1 } else (zu th no c).ev { ev0 with kind:=1,id:=c.id,dl:=c.dl,per:=c.per }
def qrz (e:EvS) (x:Qj):Qj:={ x with tr:=x.tr++[e] }
def SvS.busyAt (S:SvS) (i:Nat):Bool:=match S.own.getD i none with
 | some a=>!(S.jobAt a).w.done
 | none=>false
def SvS.callE (S:SvS) (th:Int) (c:Qr):Int :=
 if th<0∨(S.own.length:Int)≤th then 4
 else if decide (th=(S.own.length:Int) - 1)≠decide (c.kind=7) then 1
 else if S.busyAt th.toNat=true∧1≤c.kind∧c.kind≤7 then 10
 else if c.kind<1∨7<c.kind then 1 else 0
def SvS.callT (S:SvS) (kb:Nat) (th:Int) (c:Qr):SvS :=
 { S with own:=S.own.set th.toNat (some S.all.length),all:=S.all++[⟨kb,0,X5 th (S.all.length+1) c⟩],z:={ S.z with x:=qrz (qxc th (S.all.length+1) c) S.z.x } }
def SvS.callS (S:SvS) (kb:Nat) (th:Int) (c:Qr):SvS:=if S.callE th c=0 then S.callT kb th c else S
def SvS.callNo (S:SvS) (th:Int) (c:Qr):Int:=if S.callE th c=0 then S.all.length+1 else 0
structure qq3 (S:SvS) (th:Int) (c:Qr):Prop where
 th0:0≤th
 th1:th<S.own.length
 dr:(th=(S.own.length:Int) - 1)↔c.kind=7
 busy:S.busyAt th.toNat=false
 k1:1≤c.kind
 k7:c.kind≤7
theorem qnp {S:SvS} {th:Int} {c:Qr} (h:S.callE th c=0):qq3 S th c:=by
 unfold SvS.callE at h;split at h
 ·cases h
 ·next h1 =>
  split at h
  ·cases h
  ·next h2 =>
   split at h
   ·cases h
   ·next h3 =>
    split at h
    ·cases h
    ·next h4 =>
     refine ⟨by omega,by omega,?_,?_,by omega,by omega⟩
     ·have h2:=Decidable.not_not.1 h2
      exact decide_eq_decide.1 h2
     ·cases hb:S.busyAt th.toNat with
      | false=>rfl
      | true=>exact absurd ⟨hb,by omega,by omega⟩ h3
theorem qso {S:SvS} {l:List qg} {a:Nat} (h:a<S.all.length):(S.all++l).getD a q1p=S.jobAt a:=by
 unfold SvS.jobAt;rw [List.getD_eq_getElem?_getD,List.getElem?_append_left h,← List.getD_eq_getElem?_getD]
theorem qu6 {N:Nat} {th no:Int} {c:Qr} (hc:c.wf) {x:Qj} (h0:0≤th) (h1:th≤1000000):qpm N (X5 th no c) x:=by
 unfold X5;split
 ·refine ⟨⟨h0,⟨by show (0:Int)≤0;omega,by show (0:Int) < _;omega,by show okW 0=true;decide⟩,qzj,Nat.zero_le _,(fun t ht=>by cases ht),fun i hi=>by cases hi⟩,.inr h1,h1⟩
 ·split
  ·exact ⟨⟨by show (0:Int)≤0;omega,by show (0:Int) < _;omega,by show okW 0=true;decide⟩,Nat.zero_le _,rfl⟩
  ·exact ⟨q15 hc th no _,qrs _ _,⟨by show (0:Int)≤0;omega,by show (0:Int)≤_;omega⟩⟩
theorem q2i {N:Nat} {z:ZF} (h:qh9 N z) (e:EvS):qh9 (N+1) { z with x:=qrz e z.x }:=by
 have hr:=h.zn.rest.mono (M:=N+1) (by omega);exact ⟨⟨qvo h.zn.core _,⟨hr.now,hr.busy,hr.cap,hr.wl,hr.wok,hr.task,hr.turns,hr.ch,hr.sp⟩,by have:=h.zn.lg;show z.lg.length≤_;omega⟩,h.ws,h.sh4,h.room⟩
theorem ql7 (th no:Int) (c:Qr):(X5 th no c).isTurn=decide (c.kind=7):=by
 unfold X5;split
 ·next h=>simp [h,Wk.isTurn]
 ·next h =>
  split <;> simp [h,Wk.isTurn]
theorem qzm {N:Nat} {S:SvS} {th:Int} {c:Qr} (hn:SvN N S) (ho:qq3 S th c) (hc:c.wf) (kb:Nat):SvN (N+1) (S.callT kb th c):=by
 have hol:=hn.ol;have h0:=ho.th0;have h1:=ho.th1;obtain ⟨t,rfl⟩:∃ t:Nat,th=(t:Int):=⟨th.toNat,by omega⟩;have htn:((t:Int)).toNat=t:=by omega
 have hkg:quv S.z.x (qrz (qxc t (S.all.length+1) c) S.z.x):=⟨rfl,rfl⟩;refine ⟨q2i hn.glo _,fun j hj=>?_,fun c hc=>(hn.crew c hc).mono (by omega),fun k hk=>?_,?_,hn.cl,?_,fun a j ha hj hd=>?_⟩
 ·rcases List.mem_append.1 hj with hj | hj
  ·obtain ⟨a1,a2,a3⟩:=hn.jobs j hj
   exact ⟨(a1.mono (M:=N+1) (by omega)).frame hkg (fun _=>.inl fun _=>rfl),a2,by omega⟩
  ·rw [List.mem_singleton.1 hj]
   exact ⟨qu6 hc h0 (by omega),Int.le_refl _,by show (0:Int)≤_;omega⟩
 ·show k<(S.all++[_]).length
  rw [List.length_append];simp only [List.length_cons,List.length_nil];rcases List.mem_or_eq_of_mem_set hk with hk | hk
  ·have:=hn.own k hk;omega
  ·cases hk;omega
 ·show 1≤(S.own.set _ _).length∧(S.own.set _ _).length≤1000
  rw [List.length_set];exact hol
 ·show (S.all++[_]).length≤_
  have:=hn.al;rw [List.length_append];simp only [List.length_cons,List.length_nil];omega
 ·have e1:(S.callT kb t c).own=S.own.set t (some S.all.length):=by
   show S.own.set ((t:Int)).toNat _=_
   rw [htn]
  rw [e1,List.length_set,List.getElem?_set];have ha':(S.all++[⟨kb,0,X5 t (S.all.length+1) c⟩])[a]?=some j:=ha;rcases Nat.lt_or_ge a S.all.length with hlt | hge
  ·rw [List.getElem?_append_left hlt] at ha'
   have hown:=hn.turn a j ha' hj hd;split
   ·next heq =>
    exfalso
    have hb:=ho.busy;rw [htn] at hb;unfold SvS.busyAt at hb;rw [List.getD_eq_getElem?_getD,heq,hown] at hb
    have hja:S.jobAt a=j:=by
     have:=Xu hlt;rw [ha'] at this;exact (Option.some.inj this).symm
    simp only [Option.getD_some,hja,hd] at hb;cases hb
   ·exact hown
  ·rw [List.getElem?_append_right hge] at ha'
   obtain ⟨hz,rfl⟩:a - S.all.length=0∧j=⟨kb,0,X5 t (S.all.length+1) c⟩:=by
    cases h9:a - S.all.length with
    | zero=>rw [h9] at ha';exact ⟨rfl,(Option.some.inj ha').symm⟩
    | succ m=>rw [h9] at ha';cases ha'
   have hk7:c.kind=7:=by
    have:(X5 (t:Int) (S.all.length+1) c).isTurn=true:=hj;rw [ql7] at this;exact of_decide_eq_true this
   have htl:=ho.dr.2 hk7;have e2:t=S.own.length - 1:=by omega
   have e3:a=S.all.length:=by omega
   rw [if_pos e2,if_pos (by omega),e3]
theorem qxe {N:Nat} {S:SvS} (hn:SvN N S) {c:Qr} (hc:c.wf) (kb:Nat) (th:Int):SvN (N+1) (S.callS kb th c):=by
 unfold SvS.callS;split
 ·next h=>exact qzm hn (qnp h) hc kb
 ·exact hn.mono (by omega)
theorem qua {N:Nat} {S:SvS} {th:Int} {c:Qr} (hn:SvN N S) (kb:Nat):(S.callT kb th c).os=S.os.set th.toNat (some (X5 th (S.all.length+1) c,kb)):=by
 show (S.own.set th.toNat (some S.all.length)).map _=(S.own.map _).set _ _
 rw [List.map_set]
 have e1:(Option.map (fun a=>(((S.callT kb th c).jobAt a).w,((S.callT kb th c).jobAt a).kb)) (some S.all.length))=some (X5 th (S.all.length+1) c,kb):=by
  have:(S.callT kb th c).jobAt S.all.length=⟨kb,0,X5 th (S.all.length+1) c⟩:=by
   show (S.all++[_]).getD S.all.length q1p=_
   rw [List.getD_eq_getElem?_getD,List.getElem?_append_right (Nat.le_refl _),Nat.sub_self];rfl
  exact congrArg (fun j:qg=>some (j.w,j.kb)) this
 rw [e1];congr 1
 refine List.map_congr_left fun o ho=>?_
 cases o with
 | none=>rfl
 | some a =>
   have:(S.callT kb th c).jobAt a=S.jobAt a:=qso (hn.own a ho);exact congrArg (fun j:qg=>some (j.w,j.kb)) this
section
variable {L:Lay} {sb:Nat} {S:SvS} {N:Nat} {vo va vc:Value} {go ga gc gJ gW gZ:List Blk}
def BgR (L:Lay) (sb:Nat) (S:SvS) (vo va vc:Value) (go:List Blk) (th:Int) (c:Qr) (e:Ending) (gs:GH):Prop :=
 (∃ kb gN gJ' gZ',S.callE th c=0∧e=.returned (.tuple #[.iface (X5 th (S.all.length+1) c).ty (Qb kb),.int .i64 0])∧qcn L kb 0 (X5 th (S.all.length+1) c) gN∧Jb L S.all gJ'∧isZ L { S.z with x:=qrz (qxc th (S.all.length+1) c) S.z.x } gZ'∧gs=[Q6 sb L.fb vo va vc,go,gJ',gZ',gN]) ∨
 (∃ v gJ' gZ',S.callE th c≠0∧e=.returned (.tuple #[v,.int .i64 (S.callE th c)])∧Jb L S.all gJ'∧isZ L S.z gZ'∧gs=[Q6 sb L.fb vo va vc,go,gJ',gZ'])
theorem qcz {t:Nat} {c:Qr} (h1:t<S.own.length) (hd:decide ((t:Int)=(S.own.length:Int) - 1)=decide (c.kind=7)) (hb:S.busyAt t=false) (hk:1≤c.kind∧c.kind≤7):S.callE t c=0:=by
 unfold SvS.callE;rw [if_neg (by omega),if_neg (by rw [hd];simp),if_neg (by rw [Int.toNat_natCast,hb];simp),if_neg (by omega)]
theorem qyb {t:Nat} {c:Qr} (h1:t<S.own.length) (hd:decide ((t:Int)=(S.own.length:Int) - 1)≠decide (c.kind=7)):S.callE t c=1:=by
 unfold SvS.callE;rw [if_neg (by omega),if_pos hd]
theorem qg5 {t:Nat} {c:Qr} (h1:t<S.own.length) (hd:decide ((t:Int)=(S.own.length:Int) - 1)=decide (c.kind=7)) (hb:S.busyAt t=true) (hk:1≤c.kind∧c.kind≤7):S.callE t c=10:=by
 unfold SvS.callE;rw [if_neg (by omega),if_neg (by rw [hd];simp),if_pos ⟨by rw [Int.toNat_natCast];exact hb,hk⟩]
theorem qqw {t:Nat} {c:Qr} (h1:t<S.own.length) (hd:decide ((t:Int)=(S.own.length:Int) - 1)=decide (c.kind=7)) (hk:c.kind<1∨7<c.kind):S.callE t c=1:=by
 unfold SvS.callE;rw [if_neg (by omega),if_neg (by rw [hd];simp),if_neg (by omega),if_pos hk]
theorem qu4 {th no:Int} {c:Qr} (h:c.kind=7):X5 th no c=.turn firstT (qoj th no)∧qxc th no c=evT (qoj th no) { ev0 with kind:=1 }:=⟨if_pos h,if_pos h⟩
theorem quw {th no:Int} {c:Qr} (h:c.kind=6):X5 th no c=.clo qnl (qm6 th no)∧qxc th no c=evS (qm6 th no) { ev0 with kind:=1 }:=by
 have h7:¬ c.kind=7:=by omega
 exact ⟨(if_neg h7).trans (if_pos h),(if_neg h7).trans (if_pos h)⟩
theorem qvc {th no:Int} {c:Qr} (h:c.kind≤5):X5 th no c=.call (J9 c.kind) (zu th no c)∧qxc th no c=(zu th no c).ev { ev0 with kind:=1,id:=c.id,dl:=c.dl,per:=c.per }:=by
 have h7:¬ c.kind=7:=by omega
 have h6:¬ c.kind=6:=by omega
 exact ⟨(if_neg h7).trans (if_neg h6),(if_neg h7).trans (if_neg h6)⟩
theorem q0m (hz:isZ L S.z gZ) (hn:S.z.x.tr.length≤1000000) (th no:Int) (hth:0≤th):Qa prog 64 #[Qb L.fb,.int .i64 th,.int .i64 no] [gZ] fun en gs =>
 ∃ kb g gZ',en=.returned (.tuple #[Qb kb,.int .i64 0])∧qcn L kb 0 (.turn firstT (qoj th no)) g∧isZ L { S.z with x:=qrz (evT (qoj th no) { ev0 with kind:=1 }) S.z.x } gZ'∧gs=[g,gZ']:=by
 obtain ⟨gT,gL,h1,h2,rfl⟩:=hz;intro w hw;have h2':J3 ([gT]++[gL]) w:=hw.re (by simp);refine (qsm h1 hn th no hth w h2'.left).mono ?_
 rintro e w' ⟨gs,⟨kb,g,gF',rfl,a,b,rfl⟩,T⟩;exact ⟨_,⟨kb,g,gF'++gL,rfl,a,⟨gF',gL,b,h2,rfl⟩,rfl⟩,((T.frame h2').eq (by simp)).base (by simp)⟩
theorem q1z (hz:isZ L S.z gZ) (hn:S.z.x.tr.length≤1000000) (th no:Int):Qa prog 65 #[Qb L.fb,.int .i64 th,.int .i64 no] [gZ] fun en gs =>
 ∃ kb g gZ',en=.returned (.tuple #[Qb kb,.int .i64 0])∧qcn L kb 0 (.clo qnl (qm6 th no)) g∧isZ L { S.z with x:=qrz (evS (qm6 th no) { ev0 with kind:=1 }) S.z.x } gZ'∧gs=[g,gZ']:=by
 obtain ⟨gC,gW,gP,gL,h1,h2,h3,h4,rfl⟩:=Zh hz;intro w hw
 have h2':J3 ([gC++gP]++[gW++gL]) w:=hw.re (by
  classical
  refine List.perm_iff_count.2 fun x=>?_
  simp only [List.flatten_append,List.flatten_cons,List.flatten_nil,List.append_nil,List.count_append]
  omega)
 refine (qvr ⟨gC,gP,h1,h3,rfl⟩ hn th no w h2'.left).mono ?_
 rintro e w' ⟨gs,⟨kb,g,gF',rfl,a,⟨gC',gP',b1,b2,rfl⟩,rfl⟩,T⟩;refine ⟨_,⟨kb,g,_,rfl,a,ql (z:={ S.z with x:=qrz (evS (qm6 th no) { ev0 with kind:=1 }) S.z.x }) b1 h2 b2 h4,rfl⟩,((T.frame h2').re ?_).basePerm ?_⟩
 ·classical
  refine List.perm_iff_count.2 fun x=>?_
  simp only [List.flatten_append,List.flatten_cons,List.flatten_nil,List.append_nil,List.count_append];omega
 ·classical
  refine List.perm_iff_count.2 fun x=>?_
  simp only [List.flatten_append,List.flatten_cons,List.flatten_nil,List.append_nil,List.count_append];omega
theorem q0d (hz:isZ L S.z gZ) (hn:S.z.x.tr.length≤1000000) (th no:Int) (c:Qr) (h1:1≤c.kind) (h5:c.kind≤5):Qa prog 66 #[Qb L.fb,.int .i64 th,.int .i64 no,.agg c.cells] [gZ] fun en gs =>
 ∃ kb g gZ',en=.returned (.tuple #[Qb kb,.int .i64 0])∧qcn L kb 0 (.call (J9 c.kind) (zu th no c)) g∧isZ L { S.z with x:=qrz ((zu th no c).ev { ev0 with kind:=1,id:=c.id,dl:=c.dl,per:=c.per }) S.z.x } gZ'∧gs=[g,gZ']:=by
 obtain ⟨gC,gW,gP,gL,k1,k2,k3,k4,rfl⟩:=Zh hz;intro w hw;have h2':J3 ([gC]++[gW++(gP++gL)]) w:=hw.re (by simp);refine (qqx k1 hn th no c h1 h5 w h2'.left).mono ?_
 rintro e w' ⟨gs,⟨kb,g,gC',rfl,a,b,rfl⟩,T⟩;exact ⟨_,⟨kb,g,_,rfl,a,ql (z:={ S.z with x:=qrz ((zu th no c).ev { ev0 with kind:=1,id:=c.id,dl:=c.dl,per:=c.per }) S.z.x }) b k2 k3 k4,rfl⟩,((T.frame h2').eq (by simp)).base (by simp)⟩
theorem qwi (hz:isZ L S.z gZ) (th no:Int) (c:Qr) (h:c.kind<1∨5<c.kind):Qa prog 66 #[Qb L.fb,.int .i64 th,.int .i64 no,.agg c.cells] [gZ] fun en gs =>
 en=.returned (.tuple #[.pointer none,.int .i64 1])∧gs=[gZ]:=by
 obtain ⟨gC,gW,gP,gL,k1,k2,k3,k4,rfl⟩:=Zh hz;intro w hw;have h2':J3 ([gC]++[gW++(gP++gL)]) w:=hw.re (by simp);refine (qha k1 th no c h w h2'.left).mono ?_
 rintro e w' ⟨gs,⟨rfl,rfl⟩,T⟩;exact ⟨_,⟨rfl,rfl⟩,((T.frame h2').eq (by simp)).base (by simp)⟩
theorem qrl (hn:SvN N S) (hN:N<999998) (hr:J7 L sb S vo va vc go ga gc) (hi:qgq L S gJ gW gZ) {t:Nat} (ht:t<S.own.length) (c:Qr)
 (hd:decide ((t:Int)=(S.own.length:Int) - 1)≠decide (c.kind=7)):Qa prog 44 #[Qb sb,.int .i64 t,.int .i64 (S.all.length+1),.agg c.cells] [Q6 sb L.fb vo va vc,go,gJ,gZ] (BgR L sb S vo va vc go t c):=by
 have HE:=Vh (qyb ht hd);obtain ⟨avo,capo,rfl⟩:=Qu.val hr.o;have HJ:=Vh hi.j;have HZ:=Vh hi.z;have htr:S.z.x.tr.length≤1000000:=by have:=hn.glo.zn.core.tr;omega
 have hol:=hn.ol;have hno:((S.all.length:Int)+1)=((S.all.length:Int)+1):=rfl;obtain ⟨NO,hNO⟩:∃ x,((S.all.length:Int)+1)=x:=⟨_,rfl⟩;have HRO:=Vh hr.o;refine GO fun w HT=>?_
 obtain ⟨sv0,sv1⟩:=Ce2 (HT.out.cell 0 0 rfl) 0 1;simp only [Q6,GE3] at sv0 sv1;have lth:=HT.out.lt 0 0 rfl;simp only [] at lth;obtain ⟨o,ho⟩:∃ o,S.own[t]?=some o:=⟨_,List.getElem?_eq_getElem ht⟩;obtain ⟨rb,cp,hv,hcell⟩:=q6 HRO.out HT.out 1 rfl (by simp) (k:=t) (x:=ifO (o.map fun a=>((S.jobAt a).w,(S.jobAt a).kb))) (by unfold SvS.os;rw [List.getElem?_map,List.getElem?_map,ho];rfl);obtain ⟨rfl,rfl⟩:avo=some ⟨rb,0,none⟩∧capo=cp:=by cases hv;exact ⟨rfl,rfl⟩
 have ltb:rb<w.heap.size:=by
  obtain ⟨b',c',cur,hv',hg',_⟩:=HRO.out.open (by omega);cases hv'
  have:=HT.out.lt 1 0 (p:=(rb,.cells cur 88)) (by show go[0]?=_;rw [hg'];rfl);exact this
 clear hv;obtain ⟨kd,id,dl,per⟩:=c;simp only at hd;have q1:((t:Int) == (S.own.length:Int) - 1)=decide ((t:Int)=(S.own.length:Int) - 1):=rfl;have q2:(kd == 7)=decide (kd=7):=rfl;cases b1:decide ((t:Int)=(S.own.length:Int) - 1) <;> cases b2:decide (kd=7) <;> rw [b1] at q1 hd <;> rw [b2] at q2 hd
 ·exact absurd rfl hd
 ·clear hr hi hn hd b1 b2
  simp only [Qr.cells];rw [hNO];go_enter func44,ntmps44
  go_wp2
  go_ret2
  exact ⟨_,.inr ⟨.nilIface,gJ,gZ,by rw [HE.out];decide,by rw [HE.out];rfl,HJ.out,HZ.out,rfl⟩,HT.out.alloc0 _⟩
 ·clear hr hi hn hd b1 b2
  simp only [Qr.cells];rw [hNO];go_enter func44,ntmps44
  go_wp2
  go_ret2
  exact ⟨_,.inr ⟨.nilIface,gJ,gZ,by rw [HE.out];decide,by rw [HE.out];rfl,HJ.out,HZ.out,rfl⟩,HT.out.alloc0 _⟩
 ·exact absurd rfl hd
end
section
variable {L:Lay} {sb:Nat} {S:SvS} {N:Nat} {vo va vc:Value} {go ga gc gJ gW gZ:List Blk}
theorem qo4 (hn:SvN N S) (hN:N<999998) (hr:J7 L sb S vo va vc go ga gc) (hi:qgq L S gJ gW gZ) {t:Nat} (ht:t<S.own.length) (id dl per:Int)
 (hd:(t:Int)=(S.own.length:Int) - 1):Qa prog 44 #[Qb sb,.int .i64 t,.int .i64 (S.all.length+1),.agg (Qr.cells ⟨7,id,dl,per⟩)] [Q6 sb L.fb vo va vc,go,gJ,gZ] (BgR L sb S vo va vc go t ⟨7,id,dl,per⟩):=by
 obtain ⟨avo,capo,rfl⟩:=Qu.val hr.o;have HJ:=Vh hi.j;have HZ:=Vh hi.z;have htr:S.z.x.tr.length≤1000000:=by have:=hn.glo.zn.core.tr;omega
 have hol:=hn.ol;obtain ⟨NO,hNO⟩:∃ x,((S.all.length:Int)+1)=x:=⟨_,rfl⟩;have HRO:=Vh hr.o;refine GO fun w HT=>?_
 obtain ⟨sv0,sv1⟩:=Ce2 (HT.out.cell 0 0 rfl) 0 1;simp only [Q6,GE3] at sv0 sv1;have lth:=HT.out.lt 0 0 rfl;simp only [] at lth;obtain ⟨o,ho⟩:∃ o,S.own[t]?=some o:=⟨_,List.getElem?_eq_getElem ht⟩;obtain ⟨rb,cp,hv,hcell⟩:=q6 HRO.out HT.out 1 rfl (by simp) (k:=t) (x:=ifO (o.map fun a=>((S.jobAt a).w,(S.jobAt a).kb))) (by unfold SvS.os;rw [List.getElem?_map,List.getElem?_map,ho];rfl);obtain ⟨rfl,rfl⟩:avo=some ⟨rb,0,none⟩∧capo=cp:=by cases hv;exact ⟨rfl,rfl⟩
 have ltb:rb<w.heap.size:=by
  obtain ⟨b',c',cur,hv',hg',_⟩:=HRO.out.open (by omega);cases hv'
  have:=HT.out.lt 1 0 (p:=(rb,.cells cur 88)) (by show go[0]?=_;rw [hg'];rfl);exact this
 clear hv;have HF:=Vh (qu4 (th:=(t:Int)) (no:=NO) (c:=⟨7,id,dl,per⟩) rfl);have HBE:=Vh (q0m HZ.out htr (t:Int) ((S.all.length:Int)+1) (by omega));have q1:((t:Int) == (S.own.length:Int) - 1)=true:=by rw [hd];exact beq_self_eq_true _
 have hdd:decide ((t:Int)=(S.own.length:Int) - 1)=decide ((7:Int)=7):=by rw [decide_eq_true hd];rfl
 cases o with
 | none =>
   have hb:S.busyAt t=false:=by unfold SvS.busyAt;rw [List.getD_eq_getElem?_getD,ho];rfl
   have hnq:=qao;change _=some Value.nilIface at hcell
   have HJ':=HJ;have HE:=Vh (qcz (c:=⟨7,id,dl,per⟩) ht hdd hb (show (1:Int)≤7∧(7:Int)≤7 by decide));clear hdd hd;clear hr hi hn ho;simp only [Qr.cells];rw [hNO] at HBE ⊢;have HT:=Vh (HT.out.alloc (k:=w.heap.size) rfl 32 #[.int .i64 7,.int .u64 id,.int .u64 dl,.int .u64 per]);obtain ⟨W0,hW0⟩:∃ W0,W0=w.alloc (.cells #[.int .i64 7,.int .u64 id,.int .u64 dl,.int .u64 per] 32):=⟨_,rfl⟩;go_enter func44,ntmps44
   go_wp2_with fail
   refine Qa.run (HBE.out) (HT.out) [3] ?_
   rintro e w1 gs ⟨kb,gN,gZ',rfl,hjn,hz',rfl⟩ HT;simp only [PU] at HT;have HX:=Vh (And.intro hjn hz');clear hjn hz';skip
   go_wp2
   go_ret2
   exact ⟨_,.inl ⟨kb,gN,_,gZ',HE.out,by rw [hNO,HF.out.1];rfl,by rw [hNO,HF.out.1];exact HX.out.1,HJ'.out,by rw [hNO,HF.out.2];exact HX.out.2,rfl⟩,HT.out.pick [0,1,2,5,3] rfl⟩
 | some a =>
   have hk:=Xu (hn.own a (List.mem_of_getElem? ho));have hbz:S.busyAt t=!(S.jobAt a).w.done:=by unfold SvS.busyAt;rw [List.getD_eq_getElem?_getD,ho];rfl
   have HD:=Vh (qbs hi.j hk);have hnq:=qcy (S.jobAt a).w (S.jobAt a).kb;have hmt:=qe7 (S.jobAt a).w;have hcl:=qea (S.jobAt a).w;change _=some (Value.iface (S.jobAt a).w.ty (Qb (S.jobAt a).kb)) at hcell
   obtain ⟨d,hdn⟩:∃ d,(S.jobAt a).w.done=d:=⟨_,rfl⟩;obtain ⟨tyV,hty⟩:∃ y,(S.jobAt a).w.ty=y:=⟨_,rfl⟩;obtain ⟨fV,hfv⟩:∃ y,(S.jobAt a).w.fDone=y:=⟨_,rfl⟩;obtain ⟨bV,hbv⟩:∃ y,(S.jobAt a).kb=y:=⟨_,rfl⟩;rw [hdn,hfv,hbv] at HD;rw [hty,hfv] at hmt;rw [hty,hbv] at hnq;rw [hfv] at hcl;rw [hdn] at hbz;rw [hty,hbv] at hcell;clear hk hdn hty hfv hbv;cases d with
   | true =>
     have HE:=Vh (qcz (c:=⟨7,id,dl,per⟩) ht hdd hbz (show (1:Int)≤7∧(7:Int)≤7 by decide));clear hdd hd hbz;clear hr hi hn ho;simp only [Qr.cells];rw [hNO] at HBE ⊢;have HT:=Vh (HT.out.alloc (k:=w.heap.size) rfl 32 #[.int .i64 7,.int .u64 id,.int .u64 dl,.int .u64 per]);obtain ⟨W0,hW0⟩:∃ W0,W0=w.alloc (.cells #[.int .i64 7,.int .u64 id,.int .u64 dl,.int .u64 per] 32):=⟨_,rfl⟩;go_enter func44,ntmps44
     go_wp2_with fail
     go_wp2_with fail
     refine Qa.run (HD.out) (HT.out) [2] ?_
     rintro e w1 gs ⟨gJ',rfl,hj',rfl⟩ HT;simp only [PU] at HT;have HJ':=Vh hj';clear hj' sv0 sv1 hcell;have sv0:=HT.out.cell 0 0 rfl 0;simp only [Q6,GE3] at sv0;have lth:=HT.out.lt 0 0 rfl;simp only [] at lth;obtain ⟨b0,b1,b2,b3⟩:=Ce4 (HT.out.cell 4 0 rfl) 0 1 2 3;simp only [GE4] at b0 b1 b2 b3;have ltq:=HT.out.lt 4 0 rfl;simp only [] at ltq;go_wp2_with fail
     refine Qa.run (HBE.out) (HT.out) [3] ?_
     rintro e w1 gs ⟨kb,gN,gZ',rfl,hjn,hz',rfl⟩ HT;simp only [PU] at HT;have HX:=Vh (And.intro hjn hz');clear hjn hz';skip
     go_wp2
     go_ret2
     exact ⟨_,.inl ⟨kb,gN,_,gZ',HE.out,by rw [hNO,HF.out.1];rfl,by rw [hNO,HF.out.1];exact HX.out.1,HJ'.out,by rw [hNO,HF.out.2];exact HX.out.2,rfl⟩,HT.out.pick [0,1,2,5,3] rfl⟩
   | false =>
     have HE:=Vh (qg5 (c:=⟨7,id,dl,per⟩) ht hdd hbz (show (1:Int)≤7∧(7:Int)≤7 by decide));clear hdd hd hbz;clear hr hi hn ho;simp only [Qr.cells];rw [hNO] at HBE ⊢;have HT:=Vh (HT.out.alloc (k:=w.heap.size) rfl 32 #[.int .i64 7,.int .u64 id,.int .u64 dl,.int .u64 per]);obtain ⟨W0,hW0⟩:∃ W0,W0=w.alloc (.cells #[.int .i64 7,.int .u64 id,.int .u64 dl,.int .u64 per] 32):=⟨_,rfl⟩;go_enter func44,ntmps44
     go_wp2_with fail
     go_wp2_with fail
     refine Qa.run (HD.out) (HT.out) [2] ?_
     rintro e w1 gs ⟨gJ',rfl,hj',rfl⟩ HT;simp only [PU] at HT;have HJ':=Vh hj';clear hj' sv0 sv1 hcell;have sv0:=HT.out.cell 0 0 rfl 0;simp only [Q6,GE3] at sv0;have lth:=HT.out.lt 0 0 rfl;simp only [] at lth;obtain ⟨b0,b1,b2,b3⟩:=Ce4 (HT.out.cell 4 0 rfl) 0 1 2 3;simp only [GE4] at b0 b1 b2 b3;have ltq:=HT.out.lt 4 0 rfl;simp only [] at ltq;go_wp2
     go_ret2
     exact ⟨_,.inr ⟨.nilIface,_,gZ,by rw [HE.out];decide,by rw [HE.out];rfl,HJ'.out,HZ.out,rfl⟩,HT.out.pick [0,1,2,3] rfl⟩
theorem qo5 (hn:SvN N S) (hN:N<999998) (hr:J7 L sb S vo va vc go ga gc) (hi:qgq L S gJ gW gZ) {t:Nat} (ht:t<S.own.length) (id dl per:Int)
 (hd:(t:Int)≠(S.own.length:Int) - 1):Qa prog 44 #[Qb sb,.int .i64 t,.int .i64 (S.all.length+1),.agg (Qr.cells ⟨6,id,dl,per⟩)] [Q6 sb L.fb vo va vc,go,gJ,gZ] (BgR L sb S vo va vc go t ⟨6,id,dl,per⟩):=by
 obtain ⟨avo,capo,rfl⟩:=Qu.val hr.o;have HJ:=Vh hi.j;have HZ:=Vh hi.z;have htr:S.z.x.tr.length≤1000000:=by have:=hn.glo.zn.core.tr;omega
 have hol:=hn.ol;obtain ⟨NO,hNO⟩:∃ x,((S.all.length:Int)+1)=x:=⟨_,rfl⟩;have HRO:=Vh hr.o;refine GO fun w HT=>?_
 obtain ⟨sv0,sv1⟩:=Ce2 (HT.out.cell 0 0 rfl) 0 1;simp only [Q6,GE3] at sv0 sv1;have lth:=HT.out.lt 0 0 rfl;simp only [] at lth;obtain ⟨o,ho⟩:∃ o,S.own[t]?=some o:=⟨_,List.getElem?_eq_getElem ht⟩;obtain ⟨rb,cp,hv,hcell⟩:=q6 HRO.out HT.out 1 rfl (by simp) (k:=t) (x:=ifO (o.map fun a=>((S.jobAt a).w,(S.jobAt a).kb))) (by unfold SvS.os;rw [List.getElem?_map,List.getElem?_map,ho];rfl);obtain ⟨rfl,rfl⟩:avo=some ⟨rb,0,none⟩∧capo=cp:=by cases hv;exact ⟨rfl,rfl⟩
 have ltb:rb<w.heap.size:=by
  obtain ⟨b',c',cur,hv',hg',_⟩:=HRO.out.open (by omega);cases hv'
  have:=HT.out.lt 1 0 (p:=(rb,.cells cur 88)) (by show go[0]?=_;rw [hg'];rfl);exact this
 clear hv;have HF:=Vh (quw (th:=(t:Int)) (no:=NO) (c:=⟨6,id,dl,per⟩) rfl);have HBE:=Vh (q1z HZ.out htr (t:Int) ((S.all.length:Int)+1));have q1:((t:Int) == (S.own.length:Int) - 1)=false:=beq_eq_false_iff_ne.2 hd;have hdd:decide ((t:Int)=(S.own.length:Int) - 1)=decide ((6:Int)=7):=by rw [decide_eq_false hd];rfl
 cases o with
 | none =>
   have hb:S.busyAt t=false:=by unfold SvS.busyAt;rw [List.getD_eq_getElem?_getD,ho];rfl
   have hnq:=qao;change _=some Value.nilIface at hcell
   have HJ':=HJ;have HE:=Vh (qcz (c:=⟨6,id,dl,per⟩) ht hdd hb (show (1:Int)≤6∧(6:Int)≤7 by decide));clear hdd hd;clear hr hi hn ho;simp only [Qr.cells];rw [hNO] at HBE ⊢;have HT:=Vh (HT.out.alloc (k:=w.heap.size) rfl 32 #[.int .i64 6,.int .u64 id,.int .u64 dl,.int .u64 per]);obtain ⟨W0,hW0⟩:∃ W0,W0=w.alloc (.cells #[.int .i64 6,.int .u64 id,.int .u64 dl,.int .u64 per] 32):=⟨_,rfl⟩;go_enter func44,ntmps44
   go_wp2_with fail
   refine Qa.run (HBE.out) (HT.out) [3] ?_
   rintro e w1 gs ⟨kb,gN,gZ',rfl,hjn,hz',rfl⟩ HT;simp only [PU] at HT;have HX:=Vh (And.intro hjn hz');clear hjn hz';skip
   go_wp2
   go_ret2
   exact ⟨_,.inl ⟨kb,gN,_,gZ',HE.out,by rw [hNO,HF.out.1];rfl,by rw [hNO,HF.out.1];exact HX.out.1,HJ'.out,by rw [hNO,HF.out.2];exact HX.out.2,rfl⟩,HT.out.pick [0,1,2,5,3] rfl⟩
 | some a =>
   have hk:=Xu (hn.own a (List.mem_of_getElem? ho));have hbz:S.busyAt t=!(S.jobAt a).w.done:=by unfold SvS.busyAt;rw [List.getD_eq_getElem?_getD,ho];rfl
   have HD:=Vh (qbs hi.j hk);have hnq:=qcy (S.jobAt a).w (S.jobAt a).kb;have hmt:=qe7 (S.jobAt a).w;have hcl:=qea (S.jobAt a).w;change _=some (Value.iface (S.jobAt a).w.ty (Qb (S.jobAt a).kb)) at hcell
   obtain ⟨d,hdn⟩:∃ d,(S.jobAt a).w.done=d:=⟨_,rfl⟩;obtain ⟨tyV,hty⟩:∃ y,(S.jobAt a).w.ty=y:=⟨_,rfl⟩;obtain ⟨fV,hfv⟩:∃ y,(S.jobAt a).w.fDone=y:=⟨_,rfl⟩;obtain ⟨bV,hbv⟩:∃ y,(S.jobAt a).kb=y:=⟨_,rfl⟩;rw [hdn,hfv,hbv] at HD;rw [hty,hfv] at hmt;rw [hty,hbv] at hnq;rw [hfv] at hcl;rw [hdn] at hbz;rw [hty,hbv] at hcell;clear hk hdn hty hfv hbv;cases d with
   | true =>
     have HE:=Vh (qcz (c:=⟨6,id,dl,per⟩) ht hdd hbz (show (1:Int)≤6∧(6:Int)≤7 by decide));clear hdd hd hbz;clear hr hi hn ho;simp only [Qr.cells];rw [hNO] at HBE ⊢;have HT:=Vh (HT.out.alloc (k:=w.heap.size) rfl 32 #[.int .i64 6,.int .u64 id,.int .u64 dl,.int .u64 per]);obtain ⟨W0,hW0⟩:∃ W0,W0=w.alloc (.cells #[.int .i64 6,.int .u64 id,.int .u64 dl,.int .u64 per] 32):=⟨_,rfl⟩;go_enter func44,ntmps44
     go_wp2_with fail
     go_wp2_with fail
     refine Qa.run (HD.out) (HT.out) [2] ?_
     rintro e w1 gs ⟨gJ',rfl,hj',rfl⟩ HT;simp only [PU] at HT;have HJ':=Vh hj';clear hj' sv0 sv1 hcell;have sv0:=HT.out.cell 0 0 rfl 0;simp only [Q6,GE3] at sv0;have lth:=HT.out.lt 0 0 rfl;simp only [] at lth;obtain ⟨b0,b1,b2,b3⟩:=Ce4 (HT.out.cell 4 0 rfl) 0 1 2 3;simp only [GE4] at b0 b1 b2 b3;have ltq:=HT.out.lt 4 0 rfl;simp only [] at ltq;go_wp2_with fail
     refine Qa.run (HBE.out) (HT.out) [3] ?_
     rintro e w1 gs ⟨kb,gN,gZ',rfl,hjn,hz',rfl⟩ HT;simp only [PU] at HT;have HX:=Vh (And.intro hjn hz');clear hjn hz';skip
     go_wp2
     go_ret2
     exact ⟨_,.inl ⟨kb,gN,_,gZ',HE.out,by rw [hNO,HF.out.1];rfl,by rw [hNO,HF.out.1];exact HX.out.1,HJ'.out,by rw [hNO,HF.out.2];exact HX.out.2,rfl⟩,HT.out.pick [0,1,2,5,3] rfl⟩
   | false =>
     have HE:=Vh (qg5 (c:=⟨6,id,dl,per⟩) ht hdd hbz (show (1:Int)≤6∧(6:Int)≤7 by decide));clear hdd hd hbz;clear hr hi hn ho;simp only [Qr.cells];rw [hNO] at HBE ⊢;have HT:=Vh (HT.out.alloc (k:=w.heap.size) rfl 32 #[.int .i64 6,.int .u64 id,.int .u64 dl,.int .u64 per]);obtain ⟨W0,hW0⟩:∃ W0,W0=w.alloc (.cells #[.int .i64 6,.int .u64 id,.int .u64 dl,.int .u64 per] 32):=⟨_,rfl⟩;go_enter func44,ntmps44
     go_wp2_with fail
     go_wp2_with fail
     refine Qa.run (HD.out) (HT.out) [2] ?_
     rintro e w1 gs ⟨gJ',rfl,hj',rfl⟩ HT;simp only [PU] at HT;have HJ':=Vh hj';clear hj' sv0 sv1 hcell;have sv0:=HT.out.cell 0 0 rfl 0;simp only [Q6,GE3] at sv0;have lth:=HT.out.lt 0 0 rfl;simp only [] at lth;obtain ⟨b0,b1,b2,b3⟩:=Ce4 (HT.out.cell 4 0 rfl) 0 1 2 3;simp only [GE4] at b0 b1 b2 b3;have ltq:=HT.out.lt 4 0 rfl;simp only [] at ltq;go_wp2
     go_ret2
     exact ⟨_,.inr ⟨.nilIface,_,gZ,by rw [HE.out];decide,by rw [HE.out];rfl,HJ'.out,HZ.out,rfl⟩,HT.out.pick [0,1,2,3] rfl⟩
theorem qo7 (hn:SvN N S) (hN:N<999998) (hr:J7 L sb S vo va vc go ga gc) (hi:qgq L S gJ gW gZ) {t:Nat} (ht:t<S.own.length) (kd id dl per:Int) (h1:1≤kd) (h5:kd≤5)
 (hd:(t:Int)≠(S.own.length:Int) - 1):Qa prog 44 #[Qb sb,.int .i64 t,.int .i64 (S.all.length+1),.agg (Qr.cells ⟨kd,id,dl,per⟩)] [Q6 sb L.fb vo va vc,go,gJ,gZ] (BgR L sb S vo va vc go t ⟨kd,id,dl,per⟩):=by
 obtain ⟨avo,capo,rfl⟩:=Qu.val hr.o;have HJ:=Vh hi.j;have HZ:=Vh hi.z;have htr:S.z.x.tr.length≤1000000:=by have:=hn.glo.zn.core.tr;omega
 have hol:=hn.ol;obtain ⟨NO,hNO⟩:∃ x,((S.all.length:Int)+1)=x:=⟨_,rfl⟩;have HRO:=Vh hr.o;refine GO fun w HT=>?_
 obtain ⟨sv0,sv1⟩:=Ce2 (HT.out.cell 0 0 rfl) 0 1;simp only [Q6,GE3] at sv0 sv1;have lth:=HT.out.lt 0 0 rfl;simp only [] at lth;obtain ⟨o,ho⟩:∃ o,S.own[t]?=some o:=⟨_,List.getElem?_eq_getElem ht⟩;obtain ⟨rb,cp,hv,hcell⟩:=q6 HRO.out HT.out 1 rfl (by simp) (k:=t) (x:=ifO (o.map fun a=>((S.jobAt a).w,(S.jobAt a).kb))) (by unfold SvS.os;rw [List.getElem?_map,List.getElem?_map,ho];rfl);obtain ⟨rfl,rfl⟩:avo=some ⟨rb,0,none⟩∧capo=cp:=by cases hv;exact ⟨rfl,rfl⟩
 have ltb:rb<w.heap.size:=by
  obtain ⟨b',c',cur,hv',hg',_⟩:=HRO.out.open (by omega);cases hv'
  have:=HT.out.lt 1 0 (p:=(rb,.cells cur 88)) (by show go[0]?=_;rw [hg'];rfl);exact this
 clear hv;have HF:=Vh (qvc (th:=(t:Int)) (no:=NO) (c:=⟨kd,id,dl,per⟩) h5);have HBE:=Vh (q0d HZ.out htr (t:Int) ((S.all.length:Int)+1) ⟨kd,id,dl,per⟩ h1 h5);simp only [Qr.cells] at HBE;have q1:((t:Int) == (S.own.length:Int) - 1)=false:=beq_eq_false_iff_ne.2 hd;have q2:(kd == 7)=false:=beq_eq_false_iff_ne.2 (by omega);have q3:(kd == 6)=false:=beq_eq_false_iff_ne.2 (by omega);have hdd:decide ((t:Int)=(S.own.length:Int) - 1)=decide (kd=7):=by rw [decide_eq_false hd,decide_eq_false (by omega)]
 cases o with
 | none =>
   have hb:S.busyAt t=false:=by unfold SvS.busyAt;rw [List.getD_eq_getElem?_getD,ho];rfl
   have hnq:=qao;change _=some Value.nilIface at hcell
   have HJ':=HJ;have HE:=Vh (qcz (c:=⟨kd,id,dl,per⟩) ht hdd hb ⟨h1,by show kd≤7;omega⟩);clear hdd hd;clear hr hi hn ho;simp only [Qr.cells];rw [hNO] at HBE ⊢;have HT:=Vh (HT.out.alloc (k:=w.heap.size) rfl 32 #[.int .i64 kd,.int .u64 id,.int .u64 dl,.int .u64 per]);obtain ⟨W0,hW0⟩:∃ W0,W0=w.alloc (.cells #[.int .i64 kd,.int .u64 id,.int .u64 dl,.int .u64 per] 32):=⟨_,rfl⟩;go_enter func44,ntmps44
   go_wp2_with fail
   refine Qc 7 (by kernel_rfl) (by kernel_rfl) ?_
   simp only [TD4]
   repeat (go_big_quiet_step ((fail)))
   refine wpQuiet_nil (QE fun nq=>?_)
   have HT:=Vh (HT.out.drewN nq);go_wp2_with fail
   refine Qa.run (HBE.out) (HT.out) [3] ?_
   rintro e w1 gs ⟨kb,gN,gZ',rfl,hjn,hz',rfl⟩ HT;simp only [PU] at HT;have HX:=Vh (And.intro hjn hz');clear hjn hz';go_wp2_with fail
   refine ⟨rfl,?_⟩
   go_wp2
   go_ret2
   exact ⟨_,.inl ⟨kb,gN,_,gZ',HE.out,by rw [hNO,HF.out.1];rfl,by rw [hNO,HF.out.1];exact HX.out.1,HJ'.out,by rw [hNO,HF.out.2];exact HX.out.2,rfl⟩,HT.out.pick [0,1,2,5,3] rfl⟩
 | some a =>
   have hk:=Xu (hn.own a (List.mem_of_getElem? ho));have hbz:S.busyAt t=!(S.jobAt a).w.done:=by unfold SvS.busyAt;rw [List.getD_eq_getElem?_getD,ho];rfl
   have HD:=Vh (qbs hi.j hk);have hnq:=qcy (S.jobAt a).w (S.jobAt a).kb;have hmt:=qe7 (S.jobAt a).w;have hcl:=qea (S.jobAt a).w;change _=some (Value.iface (S.jobAt a).w.ty (Qb (S.jobAt a).kb)) at hcell
   obtain ⟨d,hdn⟩:∃ d,(S.jobAt a).w.done=d:=⟨_,rfl⟩;obtain ⟨tyV,hty⟩:∃ y,(S.jobAt a).w.ty=y:=⟨_,rfl⟩;obtain ⟨fV,hfv⟩:∃ y,(S.jobAt a).w.fDone=y:=⟨_,rfl⟩;obtain ⟨bV,hbv⟩:∃ y,(S.jobAt a).kb=y:=⟨_,rfl⟩;rw [hdn,hfv,hbv] at HD;rw [hty,hfv] at hmt;rw [hty,hbv] at hnq;rw [hfv] at hcl;rw [hdn] at hbz;rw [hty,hbv] at hcell;clear hk hdn hty hfv hbv;cases d with
   | true =>
     have HE:=Vh (qcz (c:=⟨kd,id,dl,per⟩) ht hdd hbz ⟨h1,by show kd≤7;omega⟩);clear hdd hd hbz;clear hr hi hn ho;simp only [Qr.cells];rw [hNO] at HBE ⊢;have HT:=Vh (HT.out.alloc (k:=w.heap.size) rfl 32 #[.int .i64 kd,.int .u64 id,.int .u64 dl,.int .u64 per]);obtain ⟨W0,hW0⟩:∃ W0,W0=w.alloc (.cells #[.int .i64 kd,.int .u64 id,.int .u64 dl,.int .u64 per] 32):=⟨_,rfl⟩;go_enter func44,ntmps44
     go_wp2_with fail
     go_wp2_with fail
     refine Qa.run (HD.out) (HT.out) [2] ?_
     rintro e w1 gs ⟨gJ',rfl,hj',rfl⟩ HT;simp only [PU] at HT;have HJ':=Vh hj';clear hj' sv0 sv1 hcell;have sv0:=HT.out.cell 0 0 rfl 0;simp only [Q6,GE3] at sv0;have lth:=HT.out.lt 0 0 rfl;simp only [] at lth;obtain ⟨b0,b1,b2,b3⟩:=Ce4 (HT.out.cell 4 0 rfl) 0 1 2 3;simp only [GE4] at b0 b1 b2 b3;have ltq:=HT.out.lt 4 0 rfl;simp only [] at ltq;go_wp2_with fail
     refine Qc 7 (by kernel_rfl) (by kernel_rfl) ?_
     simp only [TD4]
     repeat (go_big_quiet_step ((fail)))
     refine wpQuiet_nil (QE fun nq=>?_)
     have HT:=Vh (HT.out.drewN nq);go_wp2_with fail
     refine Qa.run (HBE.out) (HT.out) [3] ?_
     rintro e w1 gs ⟨kb,gN,gZ',rfl,hjn,hz',rfl⟩ HT;simp only [PU] at HT;have HX:=Vh (And.intro hjn hz');clear hjn hz';go_wp2_with fail
     refine ⟨rfl,?_⟩
     go_wp2
     go_ret2
     exact ⟨_,.inl ⟨kb,gN,_,gZ',HE.out,by rw [hNO,HF.out.1];rfl,by rw [hNO,HF.out.1];exact HX.out.1,HJ'.out,by rw [hNO,HF.out.2];exact HX.out.2,rfl⟩,HT.out.pick [0,1,2,5,3] rfl⟩
   | false =>
     have HE:=Vh (qg5 (c:=⟨kd,id,dl,per⟩) ht hdd hbz ⟨h1,by show kd≤7;omega⟩);clear hdd hd hbz;clear hr hi hn ho;simp only [Qr.cells];rw [hNO] at HBE ⊢;have HT:=Vh (HT.out.alloc (k:=w.heap.size) rfl 32 #[.int .i64 kd,.int .u64 id,.int .u64 dl,.int .u64 per]);obtain ⟨W0,hW0⟩:∃ W0,W0=w.alloc (.cells #[.int .i64 kd,.int .u64 id,.int .u64 dl,.int .u64 per] 32):=⟨_,rfl⟩;go_enter func44,ntmps44
     go_wp2_with fail
     go_wp2_with fail
     refine Qa.run (HD.out) (HT.out) [2] ?_
     rintro e w1 gs ⟨gJ',rfl,hj',rfl⟩ HT;simp only [PU] at HT;have HJ':=Vh hj';clear hj' sv0 sv1 hcell;have sv0:=HT.out.cell 0 0 rfl 0;simp only [Q6,GE3] at sv0;have lth:=HT.out.lt 0 0 rfl;simp only [] at lth;obtain ⟨b0,b1,b2,b3⟩:=Ce4 (HT.out.cell 4 0 rfl) 0 1 2 3;simp only [GE4] at b0 b1 b2 b3;have ltq:=HT.out.lt 4 0 rfl;simp only [] at ltq;go_wp2
     go_ret2
     exact ⟨_,.inr ⟨.nilIface,_,gZ,by rw [HE.out];decide,by rw [HE.out];rfl,HJ'.out,HZ.out,rfl⟩,HT.out.pick [0,1,2,3] rfl⟩
theorem qp5 (hn:SvN N S) (hN:N<999998) (hr:J7 L sb S vo va vc go ga gc) (hi:qgq L S gJ gW gZ) {t:Nat} (ht:t<S.own.length) (kd id dl per:Int) (h1:kd<1∨7<kd)
 (hd:(t:Int)≠(S.own.length:Int) - 1):Qa prog 44 #[Qb sb,.int .i64 t,.int .i64 (S.all.length+1),.agg (Qr.cells ⟨kd,id,dl,per⟩)] [Q6 sb L.fb vo va vc,go,gJ,gZ] (BgR L sb S vo va vc go t ⟨kd,id,dl,per⟩):=by
 obtain ⟨avo,capo,rfl⟩:=Qu.val hr.o;have HJ:=Vh hi.j;have HZ:=Vh hi.z;have htr:S.z.x.tr.length≤1000000:=by have:=hn.glo.zn.core.tr;omega
 have hol:=hn.ol;obtain ⟨NO,hNO⟩:∃ x,((S.all.length:Int)+1)=x:=⟨_,rfl⟩;have HRO:=Vh hr.o;refine GO fun w HT=>?_
 obtain ⟨sv0,sv1⟩:=Ce2 (HT.out.cell 0 0 rfl) 0 1;simp only [Q6,GE3] at sv0 sv1;have lth:=HT.out.lt 0 0 rfl;simp only [] at lth;obtain ⟨o,ho⟩:∃ o,S.own[t]?=some o:=⟨_,List.getElem?_eq_getElem ht⟩;obtain ⟨rb,cp,hv,hcell⟩:=q6 HRO.out HT.out 1 rfl (by simp) (k:=t) (x:=ifO (o.map fun a=>((S.jobAt a).w,(S.jobAt a).kb))) (by unfold SvS.os;rw [List.getElem?_map,List.getElem?_map,ho];rfl);obtain ⟨rfl,rfl⟩:avo=some ⟨rb,0,none⟩∧capo=cp:=by cases hv;exact ⟨rfl,rfl⟩
 have ltb:rb<w.heap.size:=by
  obtain ⟨b',c',cur,hv',hg',_⟩:=HRO.out.open (by omega);cases hv'
  have:=HT.out.lt 1 0 (p:=(rb,.cells cur 88)) (by show go[0]?=_;rw [hg'];rfl);exact this
 clear hv;have HBE:=Vh (qwi HZ.out (t:Int) ((S.all.length:Int)+1) ⟨kd,id,dl,per⟩ (by show kd<1∨5<kd;omega));simp only [Qr.cells] at HBE;have q1:((t:Int) == (S.own.length:Int) - 1)=false:=beq_eq_false_iff_ne.2 hd;have q2:(kd == 7)=false:=beq_eq_false_iff_ne.2 (by omega);have q3:(kd == 6)=false:=beq_eq_false_iff_ne.2 (by omega);have hdd:decide ((t:Int)=(S.own.length:Int) - 1)=decide (kd=7):=by rw [decide_eq_false hd,decide_eq_false (by omega)]
 have HE:=Vh (qqw (c:=⟨kd,id,dl,per⟩) ht hdd h1);cases o with
 | none =>
   have hb:S.busyAt t=false:=by unfold SvS.busyAt;rw [List.getD_eq_getElem?_getD,ho];rfl
   have hnq:=qao;change _=some Value.nilIface at hcell
   have HJ':=HJ;clear hdd hd h1;clear hr hi hn ho;simp only [Qr.cells];rw [hNO] at HBE ⊢;have HT:=Vh (HT.out.alloc (k:=w.heap.size) rfl 32 #[.int .i64 kd,.int .u64 id,.int .u64 dl,.int .u64 per]);obtain ⟨W0,hW0⟩:∃ W0,W0=w.alloc (.cells #[.int .i64 kd,.int .u64 id,.int .u64 dl,.int .u64 per] 32):=⟨_,rfl⟩;go_enter func44,ntmps44
   go_wp2_with fail
   refine Qc 7 (by kernel_rfl) (by kernel_rfl) ?_
   simp only [TD4]
   repeat (go_big_quiet_step ((fail)))
   refine wpQuiet_nil (QE fun nq=>?_)
   have HT:=Vh (HT.out.drewN nq);go_wp2_with fail
   refine Qa.run (HBE.out) (HT.out) [3] ?_
   rintro e w1 gs ⟨rfl,rfl⟩ HT;simp only [PU] at HT;go_wp2_with fail
   refine ⟨rfl,?_⟩
   go_wp2
   go_ret2
   exact ⟨_,.inr ⟨.iface 135 (.pointer none),_,gZ,by rw [HE.out];decide,by rw [HE.out];rfl,HJ'.out,HZ.out,rfl⟩,HT.out.pick [0,1,2,3] rfl⟩
 | some a =>
   have hk:=Xu (hn.own a (List.mem_of_getElem? ho));have hbz:S.busyAt t=!(S.jobAt a).w.done:=by unfold SvS.busyAt;rw [List.getD_eq_getElem?_getD,ho];rfl
   have HD:=Vh (qbs hi.j hk);have hnq:=qcy (S.jobAt a).w (S.jobAt a).kb;have hmt:=qe7 (S.jobAt a).w;have hcl:=qea (S.jobAt a).w;change _=some (Value.iface (S.jobAt a).w.ty (Qb (S.jobAt a).kb)) at hcell
   obtain ⟨d,hdn⟩:∃ d,(S.jobAt a).w.done=d:=⟨_,rfl⟩;obtain ⟨tyV,hty⟩:∃ y,(S.jobAt a).w.ty=y:=⟨_,rfl⟩;obtain ⟨fV,hfv⟩:∃ y,(S.jobAt a).w.fDone=y:=⟨_,rfl⟩;obtain ⟨bV,hbv⟩:∃ y,(S.jobAt a).kb=y:=⟨_,rfl⟩;rw [hdn,hfv,hbv] at HD;rw [hty,hfv] at hmt;rw [hty,hbv] at hnq;rw [hfv] at hcl;rw [hdn] at hbz;rw [hty,hbv] at hcell;clear hk hdn hty hfv hbv;cases d with
   | true =>
     clear hdd hd h1 hbz;clear hr hi hn ho;simp only [Qr.cells];rw [hNO] at HBE ⊢;have HT:=Vh (HT.out.alloc (k:=w.heap.size) rfl 32 #[.int .i64 kd,.int .u64 id,.int .u64 dl,.int .u64 per]);obtain ⟨W0,hW0⟩:∃ W0,W0=w.alloc (.cells #[.int .i64 kd,.int .u64 id,.int .u64 dl,.int .u64 per] 32):=⟨_,rfl⟩;go_enter func44,ntmps44
     go_wp2_with fail
     go_wp2_with fail
     refine Qa.run (HD.out) (HT.out) [2] ?_
     rintro e w1 gs ⟨gJ',rfl,hj',rfl⟩ HT;simp only [PU] at HT;have HJ':=Vh hj';clear hj' sv0 sv1 hcell;have sv0:=HT.out.cell 0 0 rfl 0;simp only [Q6,GE3] at sv0;have lth:=HT.out.lt 0 0 rfl;simp only [] at lth;obtain ⟨b0,b1,b2,b3⟩:=Ce4 (HT.out.cell 4 0 rfl) 0 1 2 3;simp only [GE4] at b0 b1 b2 b3;have ltq:=HT.out.lt 4 0 rfl;simp only [] at ltq;go_wp2_with fail
     refine Qc 7 (by kernel_rfl) (by kernel_rfl) ?_
     simp only [TD4]
     repeat (go_big_quiet_step ((fail)))
     refine wpQuiet_nil (QE fun nq=>?_)
     have HT:=Vh (HT.out.drewN nq);go_wp2_with fail
     refine Qa.run (HBE.out) (HT.out) [3] ?_
     rintro e w1 gs ⟨rfl,rfl⟩ HT;simp only [PU] at HT;go_wp2_with fail
     refine ⟨rfl,?_⟩
     go_wp2
     go_ret2
     exact ⟨_,.inr ⟨.iface 135 (.pointer none),_,gZ,by rw [HE.out];decide,by rw [HE.out];rfl,HJ'.out,HZ.out,rfl⟩,HT.out.pick [0,1,2,3] rfl⟩
   | false =>
     rcases h1 with h1 | h1
     ·clear hdd hd hbz
      clear hr hi hn ho;simp only [Qr.cells];rw [hNO] at HBE ⊢;have HT:=Vh (HT.out.alloc (k:=w.heap.size) rfl 32 #[.int .i64 kd,.int .u64 id,.int .u64 dl,.int .u64 per]);obtain ⟨W0,hW0⟩:∃ W0,W0=w.alloc (.cells #[.int .i64 kd,.int .u64 id,.int .u64 dl,.int .u64 per] 32):=⟨_,rfl⟩;go_enter func44,ntmps44
      go_wp2_with fail
      go_wp2_with fail
      refine Qa.run (HD.out) (HT.out) [2] ?_
      rintro e w1 gs ⟨gJ',rfl,hj',rfl⟩ HT;simp only [PU] at HT;have HJ':=Vh hj';clear hj' sv0 sv1 hcell;have sv0:=HT.out.cell 0 0 rfl 0;simp only [Q6,GE3] at sv0;have lth:=HT.out.lt 0 0 rfl;simp only [] at lth;obtain ⟨b0,b1,b2,b3⟩:=Ce4 (HT.out.cell 4 0 rfl) 0 1 2 3;simp only [GE4] at b0 b1 b2 b3;have ltq:=HT.out.lt 4 0 rfl;simp only [] at ltq;go_wp2_with fail
      refine Qc 7 (by kernel_rfl) (by kernel_rfl) ?_
      simp only [TD4]
      repeat (go_big_quiet_step ((fail)))
      refine wpQuiet_nil (QE fun nq=>?_)
      have HT:=Vh (HT.out.drewN nq);go_wp2_with fail
      refine Qa.run (HBE.out) (HT.out) [3] ?_
      rintro e w1 gs ⟨rfl,rfl⟩ HT;simp only [PU] at HT;go_wp2_with fail
      refine ⟨rfl,?_⟩
      go_wp2
      go_ret2
      exact ⟨_,.inr ⟨.iface 135 (.pointer none),_,gZ,by rw [HE.out];decide,by rw [HE.out];rfl,HJ'.out,HZ.out,rfl⟩,HT.out.pick [0,1,2,3] rfl⟩
     ·have q4:kd ≥ 1:=by omega
      clear hdd hd hbz;clear hr hi hn ho;simp only [Qr.cells];rw [hNO] at HBE ⊢;have HT:=Vh (HT.out.alloc (k:=w.heap.size) rfl 32 #[.int .i64 kd,.int .u64 id,.int .u64 dl,.int .u64 per]);obtain ⟨W0,hW0⟩:∃ W0,W0=w.alloc (.cells #[.int .i64 kd,.int .u64 id,.int .u64 dl,.int .u64 per] 32):=⟨_,rfl⟩;go_enter func44,ntmps44
      go_wp2_with fail
      go_wp2_with fail
      refine Qa.run (HD.out) (HT.out) [2] ?_
      rintro e w1 gs ⟨gJ',rfl,hj',rfl⟩ HT;simp only [PU] at HT;have HJ':=Vh hj';clear hj' sv0 sv1 hcell;have sv0:=HT.out.cell 0 0 rfl 0;simp only [Q6,GE3] at sv0;have lth:=HT.out.lt 0 0 rfl;simp only [] at lth;obtain ⟨b0,b1,b2,b3⟩:=Ce4 (HT.out.cell 4 0 rfl) 0 1 2 3;simp only [GE4] at b0 b1 b2 b3;have ltq:=HT.out.lt 4 0 rfl;simp only [] at ltq;go_wp2_with fail
      refine Qc 7 (by kernel_rfl) (by kernel_rfl) ?_
      simp only [TD4]
      repeat (go_big_quiet_step ((fail)))
      refine wpQuiet_nil (QE fun nq=>?_)
      have HT:=Vh (HT.out.drewN nq);go_wp2_with fail
      refine Qa.run (HBE.out) (HT.out) [3] ?_
      rintro e w1 gs ⟨rfl,rfl⟩ HT;simp only [PU] at HT;go_wp2_with fail
      refine ⟨rfl,?_⟩
      go_wp2
      go_ret2
      exact ⟨_,.inr ⟨.iface 135 (.pointer none),_,gZ,by rw [HE.out];decide,by rw [HE.out];rfl,HJ'.out,HZ.out,rfl⟩,HT.out.pick [0,1,2,3] rfl⟩
theorem qym (hn:SvN N S) (hN:N<999998) (hr:J7 L sb S vo va vc go ga gc) (hi:qgq L S gJ gW gZ) {t:Nat} (ht:t<S.own.length) (c:Qr) :
 Qa prog 44 #[Qb sb,.int .i64 t,.int .i64 (S.all.length+1),.agg c.cells] [Q6 sb L.fb vo va vc,go,gJ,gZ] (BgR L sb S vo va vc go t c):=by
 by_cases hd:decide ((t:Int)=(S.own.length:Int) - 1)=decide (c.kind=7)
 ·have hdi:=decide_eq_decide.1 hd
  obtain ⟨kd,id,dl,per⟩:=c;by_cases h7:kd=7
  ·subst h7
   exact qo4 hn hN hr hi ht id dl per (hdi.2 rfl)
  ·have hne:(t:Int)≠(S.own.length:Int) - 1:=fun e=>h7 (hdi.1 e)
   by_cases h6:kd=6
   ·subst h6
    exact qo5 hn hN hr hi ht id dl per hne
   ·by_cases h1:kd<1∨7<kd
    ·exact qp5 hn hN hr hi ht kd id dl per h1 hne
    ·exact qo7 hn hN hr hi ht kd id dl per (by omega) (by omega) hne
 ·exact qrl hn hN hr hi ht c hd
end
theorem qw7:(prog.info? 88).map (fun i=>(i.zero,i.size,i.bytes))=some (some .nilIface,1,16):=by kernel_rfl
section
variable {L:Lay} {sb:Nat} {S:SvS} {N:Nat} {g:List Blk}
theorem qnu {th:Int} {c:Qr} (h:S.callE th c≠0) (kb:Nat):S.callS kb th c=S∧S.callNo th c=0:=⟨if_neg h,if_neg h⟩
theorem qjx {th:Int} {c:Qr} (h:S.callE th c=0) (kb:Nat):S.callS kb th c=S.callT kb th c∧S.callNo th c=S.all.length+1:=⟨if_pos h,if_pos h⟩
theorem qxg {th:Int} {c:Qr} (h:th<0∨(S.own.length:Int)≤th):S.callE th c=4:=if_pos h
theorem qvx {gJ gW gZ gN:List Blk} {th:Int} {c:Qr} {kb:Nat} (hj:Jb L S.all gJ) (hw:qf7 L S.crew gW) (hz:isZ L { S.z with x:=qrz (qxc th (S.all.length+1) c) S.z.x } gZ) (hn:qcn L kb 0 (X5 th (S.all.length+1) c) gN) :
 qgq L (S.callT kb th c) (gJ++gN) gW gZ:=⟨J4.snoc hj hn,hw,hz⟩
theorem qor {vo va vc:Value} {go ga gc:List Blk} {va' x:Value} {ga':List Blk} {b t:Nat} {cur:Array Value} {c:Qr} {kb:Nat} (hn:SvN N S) (hr:J7 L sb S vo va vc go ga gc) (hgo:go=[cl b 88 cur])
 (hx:qqn ⟨kb,0,X5 t (S.all.length+1) c⟩=x) (ha:Qu 88 1 va' (S.all.length+1) (S.all.map qqn++[x]) ga') :
 J7 L sb (S.callT kb t c) vo va' vc [cl b 88 (cur.setIfInBounds t x)] ga' gc:=by
 subst hx;refine ⟨?_,?_,hr.c⟩
 ·have h1:=hr.o.set hgo t (qqn ⟨kb,0,X5 t (S.all.length+1) c⟩)
  rw [qua hn]
  show Qu _ 1 vo (S.own.set _ _).length ((S.os.set _ _).map ifO) _
  rw [List.length_set,List.map_set,Int.toNat_natCast];exact h1
 ·show Qu _ 1 va' (S.all++[_]).length (List.map qqn (S.all++[_])) _
  rw [List.length_append,List.map_append];exact ha
def q0u (L:Lay) (sb:Nat) (S:SvS) (th:Int) (c:Qr) (e:Ending) (gs:GH):Prop :=
 ∃ kb g',e=.returned (.tuple #[.int .i64 (S.callNo th c),.int .i64 (S.callE th c)])∧qio L sb (S.callS kb th c) g'∧gs=[g']
theorem qs1 {vo va vc:Value} {go ga gc gJ gW gZ:List Blk} {th:Int} {c:Qr} (h:th<0∨(S.own.length:Int)≤th) (hr:J7 L sb S vo va vc go ga gc) (hi:qgq L S gJ gW gZ) :
 q0u L sb S th c (.returned (.tuple #[.int .i64 0,.int .i64 4])) [Q6 sb L.fb vo va vc++(go++(ga++(gc++(gJ++(gW++gZ)))))]:=by
 have HE:=qxg (c:=c) h;obtain ⟨h1,h2⟩:=qnu (S:=S) (th:=th) (c:=c) (by rw [HE];decide) 0;exact ⟨0,_,by rw [h2,HE],by rw [h1];exact ⟨vo,va,vc,go,ga,gc,gJ,gW,gZ,hr,hi,rfl⟩,rfl⟩
theorem q06 (h:qio L sb S g) (hn:SvN N S) (hN:N<999998) (th:Int) (c:Qr):Qa prog 14 #[Qb sb,.int .i64 th,.agg c.cells] [g] (q0u L sb S th c):=by
 by_cases h0:th<0
 ·have h4:th<0∨(S.own.length:Int)≤th:=.inl h0
  obtain ⟨vo,va,vc,go,ga,gc,gJ,gW,gZ,hr,hi,rfl⟩:=h;obtain ⟨avo,capo,rfl⟩:=Qu.val hr.o;obtain ⟨ava,capa,rfl⟩:=Qu.val hr.a;refine GO fun w HT=>?_
  have HT:=Vh (HT.out.sum (H':=[Q6 sb L.fb (.slice avo S.own.length capo) (.slice ava S.all.length capa) vc,go,ga,gc,gJ,gW,gZ]));obtain ⟨sv0,sv1,sv2,sv3⟩:=Ce4 (HT.out.cell 0 0 rfl) 0 1 2 3;simp only [Q6,GE3] at sv0 sv1 sv2 sv3;have lth:=HT.out.lt 0 0 rfl;simp only [] at lth;have HR:=Vh hr;have HSI:=Vh hi;have hol:=hn.ol;have hal:=hn.al;clear hr hi hn;have HC4:=Vh h4;clear h4;obtain ⟨kd,id,dl,per⟩:=c;simp only [Qr.cells];go_enter func14,ntmps14
  go_wp2
  go_ret2
  exact ⟨_,qs1 HC4.out HR.out HSI.out,(HT.out.alloc0 _).sum⟩
 ·by_cases h1:(S.own.length:Int)≤th
  ·have h4:th<0∨(S.own.length:Int)≤th:=.inr h1
   obtain ⟨vo,va,vc,go,ga,gc,gJ,gW,gZ,hr,hi,rfl⟩:=h;obtain ⟨avo,capo,rfl⟩:=Qu.val hr.o;obtain ⟨ava,capa,rfl⟩:=Qu.val hr.a;refine GO fun w HT=>?_
   have HT:=Vh (HT.out.sum (H':=[Q6 sb L.fb (.slice avo S.own.length capo) (.slice ava S.all.length capa) vc,go,ga,gc,gJ,gW,gZ]));obtain ⟨sv0,sv1,sv2,sv3⟩:=Ce4 (HT.out.cell 0 0 rfl) 0 1 2 3;simp only [Q6,GE3] at sv0 sv1 sv2 sv3;have lth:=HT.out.lt 0 0 rfl;simp only [] at lth;have HR:=Vh hr;have HSI:=Vh hi;have hol:=hn.ol;have hal:=hn.al;clear hr hi hn;have HC4:=Vh h4;clear h4;obtain ⟨kd,id,dl,per⟩:=c;simp only [Qr.cells];go_enter func14,ntmps14
   go_wp2
   go_ret2
   exact ⟨_,qs1 HC4.out HR.out HSI.out,(HT.out.alloc0 _).sum⟩
  ·obtain ⟨t,rfl⟩:∃ t:Nat,th=(t:Int):=⟨th.toNat,by omega⟩
   have ht:t<S.own.length:=by omega
   obtain ⟨vo,va,vc,go,ga,gc,gJ,gW,gZ,hr,hi,rfl⟩:=h;obtain ⟨avo,capo,rfl⟩:=Qu.val hr.o;obtain ⟨ava,capa,rfl⟩:=Qu.val hr.a;refine GO fun w HT=>?_
   have HT:=Vh (HT.out.sum (H':=[Q6 sb L.fb (.slice avo S.own.length capo) (.slice ava S.all.length capa) vc,go,ga,gc,gJ,gW,gZ]));obtain ⟨sv0,sv1,sv2,sv3⟩:=Ce4 (HT.out.cell 0 0 rfl) 0 1 2 3;simp only [Q6,GE3] at sv0 sv1 sv2 sv3;have lth:=HT.out.lt 0 0 rfl;simp only [] at lth;have HR:=Vh hr;have HSI:=Vh hi;have hol:=hn.ol;have hal:=hn.al;have HB:=Vh (qym hn hN hr hi ht c);obtain ⟨b0,c0,cur,hv',hg',hle,_,hsz,_⟩:=hr.o.open (by omega);have HGO:=Vh hg';obtain ⟨rfl,rfl⟩:avo=some ⟨b0,0,none⟩∧capo=c0:=by cases hv';exact ⟨rfl,rfl⟩
   subst hg';have HN:=Vh hn;clear hr hi hn hv';simp only [Qr.cells] at HB ⊢;go_enter func14,ntmps14
   go_wp2_with fail
   have HT:=Vh (HT.out.alloc (k:=w.heap.size) rfl 32 #[.int .i64 c.kind,.int .u64 c.id,.int .u64 c.dl,.int .u64 c.per]);refine (Qa.use HB.out HT.out [0,1,4,6] rfl rfl).mono ?_
   rintro e w1 ⟨gs,hB,Ta⟩;rcases hB with ⟨kb,gN,gJ',gZ',hE,rfl,hjn,hj',hz',rfl⟩ | ⟨v,gJ',gZ',hE,rfl,hj',hz',rfl⟩
   ·simp only [PU] at Ta
    have HJN:=Vh (qvx (th:=(t:Int)) (c:=c) hj' HSI.out.w hz' hjn);have HT:=Vh (Ta.sum2 (H':=[Q6 sb L.fb (.slice (some ⟨b0,0,none⟩) S.own.length capo) (.slice ava S.all.length capa) vc,[cl b0 88 cur],ga,gc,gJ'++gN,gW,gZ',[cl w.heap.size 32 #[.int .i64 c.kind,.int .u64 c.id,.int .u64 c.dl,.int .u64 c.per]]]));have HE:=Vh hE;obtain ⟨ty,hty⟩:∃ ty,(X5 (t:Int) (S.all.length+1) c).ty=ty:=⟨_,rfl⟩;have HTY:=Vh (show qqn ⟨kb,0,X5 (t:Int) (S.all.length+1) c⟩=.iface ty (Qb kb) by unfold qqn;rw [hty]);rw [hty];have hcur:(cur[t]?).isSome=true:=by rw [Array.getElem?_eq_getElem (by omega)];rfl
    obtain ⟨ocv,hoc⟩:=Option.isSome_iff_exists.1 hcur;have kc:=HT.out.cell 1 0 rfl t;rw [hoc] at kc;have fkc:=HT.out.free 1 0 rfl t;have ltk:=HT.out.lt 1 0 rfl;have nek:=HT.out.ne 0 0 1 0 (by decide) rfl rfl;simp only [] at ltk nek;have nek2:=Ne.symm nek;clear Ta hjn hj' hz' hty hcur hoc hE sv0 sv1 sv2 sv3;obtain ⟨sv0,sv1,sv2,sv3⟩:=Ce4 (HT.out.cell 0 0 rfl) 0 1 2 3;have fsv2:=HT.out.free 0 0 rfl 2;simp only [Q6,GE3] at sv0 sv1 sv2 sv3;have lth:=HT.out.lt 0 0 rfl;simp only [] at lth;have HC:=Vh (show (S.all.length:Nat)≤N from hal);have hone:∀ u∈[Value.iface ty (Qb kb)],u.oneCell'=true:=fun u hu=>by rw [List.mem_singleton.1 hu];rfl
    have hnews:=X8 (w1.setCell ⟨b0,t,none⟩ (.iface ty (Qb kb))) 88 [.iface ty (Qb kb)];rw [X9] at hnews;have hnews:=Vh hnews
    go_wp2_with (
     at_builtin
     (with_reducible refine Z0 rfl (.tmp 54) (.tmp 56) 83 rfl 88 1 16 _ underlying83 qw7 rfl (by decide) ((HT.out.set 1 0 rfl t (.iface ty (Qb kb))).alloc0 _) 2 rfl rfl HR.out.a rfl ⟨w1.heap.size,0,none⟩ 1 1 [.iface ty (Qb kb)] rfl rfl hnews.out hone (by unfold maxLen;omega) (by omega) ?_)
     intro v1 w2 g1 r1 T1;obtain ⟨a1,cap1,hv1⟩:=Qu.val r1;subst hv1;simp only [List.set_cons_zero,List.set_cons_succ] at T1;have T1:=Vh T1;have d2:=T1.out.cell 0 0 rfl 2;have fd2:=T1.out.free 0 0 rfl 2;have ltd:=T1.out.lt 0 0 rfl;simp only [Q6,GE3] at d2 ltd
     have r1:=Vh r1)
    go_ret2
    exact ⟨_,⟨kb,_,by rw [(qjx HE.out kb).2,HE.out];rfl,by rw [(qjx HE.out kb).1];exact ⟨_,_,vc,_,g1,gc,_,gW,gZ',qor HN.out HR.out rfl HTY.out r1.out,HJN.out,rfl⟩,rfl⟩,((((T1.out.set 0 0 rfl 2 (.slice a1 (S.all.length+1) cap1)).pick [0,1,2,3,4,5,6] rfl).eq (H':=[Q6 sb L.fb (.slice (some ⟨b0,0,none⟩) S.own.length capo) (.slice a1 (S.all.length+1) cap1) vc,[cl b0 88 (cur.setIfInBounds t (.iface ty (Qb kb)))],g1,gc,gJ'++gN,gW,gZ']) rfl).sum2)⟩
   ·simp only [PU] at Ta
    have hE2:(S.callE (t:Int) c != 0)=true:=bne_iff_ne.2 hE;have HCN:=Vh (qnu (S:=S) hE 0);have HI2:=Vh (show qgq L S gJ' gW gZ' from ⟨hj',HSI.out.w,hz'⟩);have HT:=Vh Ta;clear Ta hj' hz' hE;obtain ⟨E,hEE⟩:∃ E,S.callE (t:Int) c=E:=⟨_,rfl⟩;rw [hEE] at hE2 ⊢;have HEE:=Vh hEE;clear hEE;go_wp2
    go_ret2
    exact ⟨_,⟨0,_,by rw [HCN.out.2,HEE.out];rfl,by rw [HCN.out.1];exact ⟨_,_,vc,_,ga,gc,gJ',gW,gZ',HR.out,HI2.out,rfl⟩,rfl⟩,((HT.out.pick [0,1,2,3,4,5,6] rfl).sum)⟩
end
def qai (n:Nat):Array Value:=madeCells #[.nilIface] (n*1)
theorem qof (b n:Nat) (hn:n≤1000):Qu 88 1 (.slice (some ⟨b,0,none⟩) n n) n ((List.replicate n (none:Option (Wk × Nat))).map ifO) [cl b 88 (qai n)]:=by
 have hs:(qai n).size=n*1:=by unfold qai;simp [madeCells]
 have h:=qms 88 1 b n n (qai n) (Nat.le_refl _) (by unfold maxLen;omega) hs
 have e:(qai n).toList.take (n*1)=(List.replicate n (none:Option (Wk × Nat))).map ifO:=by
  rw [List.map_replicate];apply List.ext_getElem?
  intro i;rw [List.getElem?_take,Array.getElem?_toList];split
  ·next hi =>
   have:=qa #[.nilIface] n 1 i 0 rfl (by omega) (by omega);rw [show i*1+0=i by omega] at this;unfold qai;rw [this,List.getElem?_replicate,if_pos (by omega)];rfl
  ·next hi=>rw [List.getElem?_replicate,if_neg (by omega)]
 rw [e] at h;exact h
theorem qw1 {L:Lay} {sb b m q:Nat} {c:Cfg} {ws:List WkN} {vc:Value} {go gr gWk gZ:List Blk} (hc:c.cli=(m:Int)) (hl:ws.length=q) (ho:Qu 88 1 (.slice (some ⟨b,0,none⟩) (m+1) (m+1)) (m+1) ((List.replicate (m+1) (none:Option (Wk × Nat))).map ifO) go)
 (hr:Qu 139 1 vc q (qd1 ws) gr) (hw:qf7 L ws gWk) (hz:isZ L (zf0 c) gZ):qio L sb (sv0 c ws) (Q6 sb L.fb (.slice (some ⟨b,0,none⟩) (m+1) (m+1)) (.slice none 0 0) vc++(go++([]++(gr++([]++(gWk++gZ)))))):=by
 refine ⟨_,_,vc,go,[],gr,[],gWk,gZ,⟨?_,Zi _ _,?_⟩,⟨rfl,hw,hz⟩,rfl⟩
 ·show Qu _ 1 _ (List.replicate (c.cli.toNat+1) none).length (((List.replicate (c.cli.toNat+1) (none:Option Nat)).map _).map ifO) go
  rw [List.length_replicate,List.map_replicate,hc,Int.toNat_natCast];exact ho
 ·show Qu _ 1 vc ws.length _ gr
  rw [hl];have:(qd1 ws)=(sv0 c ws).ps.map Qb:=by show ws.map _=(ws.map _).map _;rw [List.map_map];rfl
  rw [← this];exact hr
theorem q2q (c:Cfg) (hk:c.ok=true):Qa prog 43 #[.agg c.cells] [] fun e gs =>
 ∃ L sb ws g,e=.returned (.tuple #[Qb sb,.int .i64 0])∧ws.length=c.wk.toNat∧(∀ z∈ws,qf9 z)∧qio L sb (sv0 c ws) g∧gs=[g]:=by
 have hnf:=qzl c hk;have hbd:=Cfg.bd hk;obtain ⟨sh,cap,ring,room,wk,cli⟩:=c;simp only [Cfg.cells] at hnf ⊢;have HN:=Vh hnf;simp only at hbd;obtain ⟨m,hm⟩:∃ m:Nat,cli=(m:Int):=⟨cli.toNat,by omega⟩;obtain ⟨q,hq⟩:∃ q:Nat,wk=(q:Int):=⟨wk.toNat,by omega⟩;subst hm hq;have hmk:∀ w,(Instr.makeSlice 83 (.int .i64 ((m:Int)+1)) (.int .i64 ((m:Int)+1))).run prog w=.ok (.slice (some ⟨w.heap.size,0,none⟩) (m+1) (m+1)) (w.alloc (.cells (qai (m+1)) 88)):=qcs _ _ .nilIface 1 16 underlying83 qw7 (m+1) (by omega) (by omega);have hrw:=Vh (show ∀ b,_ from fun b=>qof b (m+1) (by omega));have hwr:IntKind.i64.wrap ((m:Int)+1)=(m:Int)+1:=qyd _ (by omega) (by omega);refine GO fun w HT=>?_
 go_enter func43,ntmps43
 go_wp2_with fail
 have HT:=Vh (HT.out.alloc (k:=w.heap.size) rfl 28 #[.int .i64 sh,.int .i64 cap,.int .i64 ring,.int .i64 room,.int .i64 q,.int .i64 m]);go_wp2_with fail
 refine Qa.run (HN.out) (HT.out) [] ?_
 rintro e w1 gs ⟨L,g,rfl,hz,rfl⟩ HT;simp only [PU] at HT;obtain ⟨gC,gW,gP,gL,h1,h2,h3,h4,rfl⟩:=Zh hz;have HZ:=Vh (And.intro h1 (And.intro h2 (And.intro h3 h4)));have HCR:=Vh (quz (n:=q) h1 rfl (by omega));clear hz hnf h1 h2 h3 h4;have HT:=Vh (HT.out.sum (H':=[[cl w.heap.size 28 #[.int .i64 sh,.int .i64 cap,.int .i64 ring,.int .i64 room,.int .i64 q,.int .i64 m]],gC,gW++(gP++gL)]));have a5:=HT.out.cell 0 0 rfl 5;simp only [GE4] at a5;have lta:=HT.out.lt 0 0 rfl;simp only [] at lta;go_wp2_with fail
 go_region_with (
  go_at_call 63
  first
  | (refine (Qa.use HCR.out (HT.out.drew.put rfl (.cells (qai (m+1)) 88)) [1] rfl rfl).mono ?_
     rintro e w2 ⟨gs,⟨v,gr,gWk,l,rfl,hl,hnw,hrr,hws,rfl⟩,Ta⟩;obtain ⟨av,capv,rfl⟩:=Qu.val hrr;have a5b:=Ta.cell 0 0 rfl 5;simp only [GE3] at a5b;have ltb:=Ta.lt 0 0 rfl;simp only [] at ltb;simp only [PU] at Ta;have HT1:=Vh Ta;have HX:=Vh (And.intro hl (And.intro hnw (And.intro hrr hws)))
     clear Ta hl hnw hrr hws)
  | (refine (Qa.use HCR.out HT.out.drew [1] rfl rfl).mono ?_
     rintro e w2 ⟨gs,⟨v,gr,gWk,l,rfl,hl,hnw,hrr,hws,rfl⟩,Ta⟩;obtain ⟨av,capv,rfl⟩:=Qu.val hrr;have a5b:=Ta.cell 0 0 rfl 5;simp only [GE3] at a5b;have ltb:=Ta.lt 0 0 rfl;simp only [] at ltb;simp only [PU] at Ta;have HT1:=Vh Ta;have HX:=Vh (And.intro hl (And.intro hnw (And.intro hrr hws)))
     clear Ta hl hnw hrr hws))
 all_goals
  go_wp2
  go_ret2
  obtain ⟨hl,hnw,hrr,hws⟩:=HX.out;obtain ⟨h1,h2,h3,h4⟩:=HZ.out
  first
  | exact ⟨_,⟨L,w2.heap.size,l,_,rfl,by rw [hl];rfl,hnw,qw1 rfl hl (hrw.out w1.heap.size) hrr hws (ql h1 h2 h3 h4),rfl⟩,(((HT1.out.alloc (k:=w2.heap.size) rfl 86 #[Qb L.fb,.slice (some ⟨w1.heap.size,0,none⟩) (m+1) (m+1),.slice none 0 0,.slice av q capv]).pick [6,3,4,5,1,2] rfl).eq (H':=[Q6 w2.heap.size L.fb (.slice (some ⟨w1.heap.size,0,none⟩) (m+1) (m+1)) (.slice none 0 0) (.slice av q capv),[cl w1.heap.size 88 (qai (m+1))],gr,gWk,gC,gW++(gP++gL)]) rfl).sum2⟩
  | exact ⟨_,⟨L,w2.heap.size+1,l,_,rfl,by rw [hl];rfl,hnw,qw1 rfl hl (hrw.out w2.heap.size) hrr hws (ql h1 h2 h3 h4),rfl⟩,((((HT1.out.alloc (k:=w2.heap.size) rfl 88 (qai (m+1))).alloc (k:=w2.heap.size+1) (by simp) 86 #[Qb L.fb,.slice (some ⟨w2.heap.size,0,none⟩) (m+1) (m+1),.slice none 0 0,.slice av q capv]).pick [6,5,3,4,1,2] rfl).eq (H':=[Q6 (w2.heap.size+1) L.fb (.slice (some ⟨w2.heap.size,0,none⟩) (m+1) (m+1)) (.slice none 0 0) (.slice av q capv),[cl w2.heap.size 88 (qai (m+1))],gr,gWk,gC,gW++(gP++gL)]) rfl).sum2⟩
end
end Go.Proofs.YtikpbibeagbccaaGreat
