import Derived.Test.YtikpbibeagbccaaGreatGV14
import Derived.Test.YtikpbibeagbccaaGreatGV4
set_option maxRecDepth 100000
set_option maxHeartbeats 4000000
namespace Go.Proofs.YtikpbibeagbccaaGreat
set_option linter.unusedVariables false
set_option linter.unusedSimpArgs false
open Go.Proofs.Tryz
section
open Go.RowKit Go.Shelf
theorem Tryz.infoNodeP:(prog.info? 270).map (fun i=>(i.zero,i.size,i.bytes))=some (some (.pointer none),1,8):=by kernel_rfl
structure Zv where
 lb:Nat
 hb:Nat
 l:List Nd
def qus (s:Zv) (g:List Blk):Prop:=qh s.lb s.hb s.l g
def qfd (ss:List Zv):Nat:=(ss.map fun s=>s.l.length).sum
structure qxj (ss:List Zv) (C:Array Value):Prop where
 size:C.size=66
 at_:∀ (i:Nat) (s:Zv),ss[i]?=some s→C[i]?=some (Qb s.lb)
 used:∃ u,C[64]?=some (.int .u64 u)
 n:C[65]?=some (.int .i64 (qfd ss))
def Jv (vb:Nat) (ss:List Zv) (g:List Blk):Prop:=ss.length=64∧∃ C gH,qxj ss C∧J4 qus ss gH∧g=cl vb 276 C::gH
theorem qdw {ss:List Zv} {k:Nat} {s:Zv} (hs:ss[k]?=some s) (s':Zv):qfd (ss.set k s')+s.l.length=qfd ss+s'.l.length:=by
 unfold qfd;induction ss generalizing k with
 | nil=>simp at hs
 | cons a l ih =>
   cases k with
   | zero =>
     simp only [List.getElem?_cons_zero,Option.some.injEq] at hs;subst hs;simp only [List.set_cons_zero,List.map_cons,List.sum_cons];omega
   | succ k =>
     simp only [List.getElem?_cons_succ] at hs;have:=ih hs;simp only [List.set_cons_succ,List.map_cons,List.sum_cons];omega
theorem qlx {ss:List Zv} {k:Nat} {s:Zv} (hs:ss[k]?=some s):s.l.length≤qfd ss:=by
 have:=qdw hs { s with l:=[] };simp only [List.length_nil] at this;omega
theorem qxj.put {ss:List Zv} {C:Array Value} (h:qxj ss C) (hl:ss.length=64) {k:Nat} {s s':Zv} (hs:ss[k]?=some s) (hb:s'.lb=s.lb) {n:Int} (hn:n=qfd (ss.set k s')):qxj (ss.set k s') (C.setIfInBounds 65 (.int .i64 n)):=by
 subst hn;have hs1:=h.size;refine ⟨by simpa using h.size,fun i s2 h2=>?_,?_,?_⟩
 ·have hi:i<64:=by have:=(List.getElem?_eq_some_iff.1 h2).1;rw [List.length_set,hl] at this;exact this
  rw [Array.getElem?_setIfInBounds_ne (by omega)];rw [List.getElem?_set] at h2;split at h2
  ·next e =>
   subst e;split at h2
   ·cases h2;rw [hb];exact h.at_ k s hs
   ·cases h2
  ·exact h.at_ i s2 h2
 ·obtain ⟨u,hu⟩:=h.used
  exact ⟨u,by rw [Array.getElem?_setIfInBounds_ne (by omega)];exact hu⟩
 ·rw [Array.getElem?_setIfInBounds_self_of_lt (by omega)]
theorem qxj.map {ss:List Zv} {C:Array Value} (h:qxj ss C) (hl:ss.length=64) (u:Int):qxj ss (C.setIfInBounds 64 (.int .u64 u)):=by
 have hs1:=h.size;refine ⟨by simpa using h.size,fun i s2 h2=>?_,⟨u,?_⟩,?_⟩
 ·have hi:i<64:=by have:=(List.getElem?_eq_some_iff.1 h2).1;omega
  rw [Array.getElem?_setIfInBounds_ne (by omega)];exact h.at_ i s2 h2
 ·rw [Array.getElem?_setIfInBounds_self_of_lt (by omega)]
 ·rw [Array.getElem?_setIfInBounds_ne (by omega)];exact h.n
theorem q03 (k:Nat) (hk:k<64):Qa prog 305 #[.int .i64 k] [] fun e gs=>∃ u,e=.returned (.int .u64 u)∧gs=[]:=by
 refine GO fun w HT=>?_
 have h1:decide ((k:Int)<0)=false:=decide_eq_false (by omega);have h2:decide ((k:Int) ≥ 64)=false:=decide_eq_false (by omega);go_enter func305,ntmps305
 go_wp2
 go_ret
 exact ⟨_,⟨_,rfl,rfl⟩,HT.out⟩
theorem q07 (m:Int) (k:Nat) (hk:k<64):Qa prog 298 #[.int .u64 m,.int .i64 k] [] fun e gs=>∃ u,e=.returned (.int .u64 u)∧gs=[]:=by
 refine GO fun w HT=>?_
 go_enter func298,ntmps298
 go_wp2_with fail
 refine Qa.run (q03 k hk) (HT.out) [] ?_
 rintro e w1 gs ⟨u,rfl,rfl⟩ HT;simp only [PU] at HT;go_wp2
 go_ret
 exact ⟨_,⟨_,rfl,rfl⟩,HT.out⟩
theorem qs7 (m:Int) (k:Nat) (hk:k<64):Qa prog 300 #[.int .u64 m,.int .i64 k] [] fun e gs=>∃ u,e=.returned (.int .u64 u)∧gs=[]:=by
 refine GO fun w HT=>?_
 go_enter func300,ntmps300
 go_wp2_with fail
 refine Qa.run (q03 k hk) (HT.out) [] ?_
 rintro e w1 gs ⟨u,rfl,rfl⟩ HT;simp only [PU] at HT;go_wp2
 go_ret
 exact ⟨_,⟨_,rfl,rfl⟩,HT.out⟩
section
variable {vb:Nat} {ss:List Zv} {g:List Blk}
theorem qe2 (vb:Nat) (k:Nat) (hk:k<64):Qe prog 284 #[Qb vb,.int .i64 k] [] (.int .i64 0):=by
 refine GO fun w HT=>?_
 have h1:decide ((k:Int)<0)=false:=decide_eq_false (by omega);have h2:decide ((k:Int) ≥ 64)=false:=decide_eq_false (by omega);go_enter func284,ntmps284
 go_wp2
 go_ret
 exact ⟨rfl,0,rfl⟩
theorem qv3 (hg:Jv vb ss g) {k:Nat} {s:Zv} (hs:ss[k]?=some s) (hk:k<64) (ht:qfd ss≤1000000) (hn:s.l.length≤1000000) (nb:Nat) (ve p0 q0:Value) :
 Qa prog 283 #[Qb vb,.int .i64 k,Qb nb] [g,[cl nb 354 #[ve,p0,q0,.pointer none]]] fun e gs =>
  e=.returned (.int .i64 0)∧∃ g',Jv vb (ss.set k { s with l:=s.l++[⟨nb,[ve]⟩] }) g'∧gs=[g']:=by
 obtain ⟨hl,C,gH,hC,hF,rfl⟩:=hg;obtain ⟨u,y,hu,hp,hback⟩:=hF.out hs;refine GO fun w HT=>?_
 have HT:=Vh (((HT.out.sum (H':=[[cl vb 276 C],gH,[cl nb 354 #[ve,p0,q0,.pointer none]]])).permAt 1 rfl hp).sum (H':=[[cl vb 276 C],u,y,[cl nb 354 #[ve,p0,q0,.pointer none]]]));have HC:=Vh hC;have HU:=Vh hu;have HB:=Vh hback;have HP:=Vh hp;have HS:=Vh hs;clear hC hF hu hp hback hs;have h64:=HC.out.n;obtain ⟨um,hum⟩:=HC.out.used;have HUM:=Vh hum;have hsz:=HC.out.size;have c0:=(HT.out.cell 0 0 rfl k).trans (HC.out.at_ k s HS.out);have c1:=(HT.out.cell 0 0 rfl 65).trans h64;have f1:=HT.out.free 0 0 rfl 65;have hkb:(k:Int)<64:=by omega
 clear h64 hum;go_enter func283,ntmps283
 go_wp2_with fail
 refine (Qe.use (qe2 vb k hk) (HT.out) [] rfl rfl).mono ?_
 rintro e w1 ⟨rfl,mq,rfl⟩;have HT:=Vh (HT.out.drewN mq);generalize World.drewN _ _=wq at HT ⊢;clear c0 c1 f1;have c0:=(HT.out.cell 0 0 rfl k).trans (HC.out.at_ k s HS.out);go_wp2_with fail
 refine (Qa.use (qf5 HU.out (by omega) nb ve p0 q0) (HT.out) [1,3] rfl rfl).mono ?_
 rintro e w1 ⟨gs,⟨rfl,g1,hg1,rfl⟩,Ta⟩;simp only [PU] at Ta;have HG1:=Vh hg1;clear hg1 c0;have HT:=Vh Ta;clear Ta;have c1:=(HT.out.cell 0 0 rfl 65).trans HC.out.n;have f1:=HT.out.free 0 0 rfl 65;have c2:=(HT.out.cell 0 0 rfl 64).trans HUM.out;go_wp2_with fail
 refine Qa.run (q07 um k hk) (HT.out.set 0 0 rfl 65 (.int .i64 ((qfd ss:Int)+1))) [] ?_
 rintro e w1 gs ⟨u2,rfl,rfl⟩ HT;simp only [PU] at HT;clear c1 f1 c2;have f2:=HT.out.free 0 0 rfl 64;have c2:=(HT.out.cell 0 0 rfl 64).trans (show (C.setIfInBounds 65 (.int .i64 ((qfd ss:Int)+1)))[64]?=some (.int .u64 um) from by rw [Array.getElem?_setIfInBounds_ne (by omega)];exact HUM.out);go_wp2
 go_ret
 obtain ⟨gH',hF',hp'⟩:=HB.out { s with l:=s.l++[⟨nb,[ve]⟩] } g1 HG1.out
 exact ⟨_,⟨rfl,_,⟨by rw [List.length_set];exact hl,_,gH',(HC.out.put hl HS.out (s':={ s with l:=s.l++[⟨nb,[ve]⟩] }) (n:=(qfd ss:Int)+1) rfl (by have:=qdw HS.out { s with l:=s.l++[⟨nb,[ve]⟩] };simp only [List.length_append,List.length_cons,List.length_nil] at this;omega)).map (by rw [List.length_set];exact hl) u2,hF',rfl⟩,rfl⟩,
  (((HT.out.set 0 0 rfl 64 _).sum (H':=[[cl vb 276 ((C.setIfInBounds 65 (.int .i64 ((qfd ss:Int)+1))).setIfInBounds 64 (.int .u64 u2))],g1++y])).permAt 1 rfl hp').sum⟩
theorem qfv (hg:Jv vb ss g) {k:Nat} {s:Zv} (hs:ss[k]?=some s):∀ {h:GH} {w w':World} (T:TG h w [g] w'),w'.cell? ⟨vb,k,none⟩=some (Qb s.lb):=by
 obtain ⟨hl,C,gH,hC,hF,rfl⟩:=hg;intro h w w' T;exact (T.cell 0 0 rfl k).trans (hC.at_ k s hs)
theorem qk2 {k:Nat} {s:Zv} {nb:Nat} {ve:Value} {l:List Nd} (hg:Jv vb ss g) (hs:ss[k]?=some s) (hsl:s.l=⟨nb,[ve]⟩::l) (hk:k<64) (ht:qfd ss≤1000000) :
 Qa prog 286 #[Qb vb,.int .i64 k,Qb nb] [g] fun e gs =>
  e=.returned (.int .i64 0)∧∃ g',Jv vb (ss.set k { s with l:=l }) g'∧gs=[g',[cl nb 354 #[ve,.pointer none,.pointer none,.pointer none]]]:=by
 have hge:=qlx hs;rw [hsl] at hge;simp only [List.length_cons] at hge;have hts:=qdw hs { s with l:=l };rw [hsl] at hts;simp only [List.length_cons] at hts;obtain ⟨hl,C,gH,hC,hF,rfl⟩:=hg;obtain ⟨u,y,hu,hp,hback⟩:=hF.out hs;refine GO fun w HT=>?_
 have HT:=Vh (((HT.out.sum (H':=[[cl vb 276 C],gH])).permAt 1 rfl hp).sum (H':=[[cl vb 276 C],u,y]));have HC:=Vh hC;have HU:=Vh hu;have HB:=Vh hback;have HP:=Vh hp;have HS:=Vh hs;clear hC hF hu hp hback hs;obtain ⟨um,hum⟩:=HC.out.used;have HUM:=Vh hum;have hsz:=HC.out.size;have c0:=(HT.out.cell 0 0 rfl k).trans (HC.out.at_ k s HS.out);have hkb:(k:Int)<64:=by omega
 have hul:=HU.out;unfold qus at hul;rw [hsl] at hul;have HUL:=Vh hul;clear hum hul c0;go_enter func286,ntmps286
 go_wp2_with fail
 refine (Qe.use (qe2 vb k hk) (HT.out) [] rfl rfl).mono ?_
 rintro e w1 ⟨rfl,mq,rfl⟩;have HT:=Vh (HT.out.drewN mq);generalize World.drewN _ _=wq at HT ⊢;have c0:=(HT.out.cell 0 0 rfl k).trans (HC.out.at_ k s HS.out);go_wp2_with fail
 refine (Qa.use (qht nb HUL.out (by omega)) (HT.out) [1] rfl rfl).mono ?_
 rintro e w1 ⟨gs,⟨rfl,g1,hg1,rfl⟩,Ta⟩;simp only [PU] at Ta;have HG1:=Vh hg1;clear hg1 c0;have HT:=Vh Ta;clear Ta;have c1:=(HT.out.cell 0 0 rfl 65).trans HC.out.n;have f1:=HT.out.free 0 0 rfl 65;have c0:=(HT.out.cell 0 0 rfl k).trans (HC.out.at_ k s HS.out);obtain ⟨n',hn'⟩:∃ n':Nat,qfd ss=n'+1:=⟨qfd ss - 1,by omega⟩;go_wp2_with fail
 have HT:=Vh (HT.out.set 0 0 rfl 65 (.int .i64 n'));clear c0 c1 f1;have hlen:=qqf HG1.out;generalize World.setCell _ _ _=w5 at HT ⊢;have HLV:=Vh (HC.out.put hl HS.out (s':={ s with l:=l }) (n:=(n':Int)) rfl (by omega));refine (Qe.use hlen HT.out [1] rfl rfl).mono ?_
 rintro e w6 ⟨rfl,mq,rfl⟩;have HT:=Vh (HT.out.drewN mq);generalize World.drewN _ _=w7 at HT ⊢;obtain ⟨gH',hF',hp'⟩:=HB.out { s with l:=l } g1 HG1.out;have HFF:=Vh hF';have HPP:=Vh hp';clear hlen hF' hp';rcases qq6 l with rfl | ⟨yy,mm,rfl⟩
 ·simp only [List.length_nil]
  have c2:=(HT.out.cell 0 0 rfl 64).trans (show (C.setIfInBounds 65 (.int .i64 n'))[64]?=some (.int .u64 um) from by rw [Array.getElem?_setIfInBounds_ne (by omega)];exact HUM.out);go_wp2_with fail
  refine Qa.run (qs7 um k hk) (HT.out) [] ?_
  rintro e w1 gs ⟨u2,rfl,rfl⟩ HT;simp only [PU] at HT;clear c2;have f2:=HT.out.free 0 0 rfl 64;have c2:=(HT.out.cell 0 0 rfl 64).trans (show (C.setIfInBounds 65 (.int .i64 n'))[64]?=some (.int .u64 um) from by rw [Array.getElem?_setIfInBounds_ne (by omega)];exact HUM.out);go_wp2
  go_ret
  exact ⟨_,⟨rfl,_,⟨by rw [List.length_set];exact hl,_,gH',HLV.out.map (by rw [List.length_set];exact hl) u2,HFF.out,rfl⟩,rfl⟩,
   (((HT.out.set 0 0 rfl 64 _).sum (H':=[[cl vb 276 ((C.setIfInBounds 65 (.int .i64 n')).setIfInBounds 64 (.int .u64 u2))],g1++y,[cl nb 354 #[ve,.pointer none,.pointer none,.pointer none]]])).permAt 1 rfl HPP.out).sum⟩
 ·have hb:((((yy::mm).length:Nat):Int) == 0)=false:=beq_eq_false_iff_ne.2 (by simp only [List.length_cons];omega)
  generalize (((yy::mm).length:Nat):Int)=len at hb ⊢;go_wp2
  go_ret
  exact ⟨_,⟨rfl,_,⟨by rw [List.length_set];exact hl,_,gH',HLV.out,HFF.out,rfl⟩,rfl⟩,
   ((HT.out.sum (H':=[[cl vb 276 (C.setIfInBounds 65 (.int .i64 n'))],g1++y,[cl nb 354 #[ve,.pointer none,.pointer none,.pointer none]]])).permAt 1 rfl HPP.out).sum⟩
theorem qe8 (hg:Jv vb ss g) {k:Nat} {s:Zv} (hs:ss[k]?=some s):Qe prog 285 #[Qb s.lb] [g] (nxV (.pointer none) s.l):=by
 obtain ⟨hl,C,gH,hC,hF,rfl⟩:=hg;obtain ⟨u,y,hu,hp,hback⟩:=hF.out hs;intro w hw;have T:=(((TG.refl hw).sum (H':=[[cl vb 276 C],gH])).permAt 1 rfl hp).sum (H':=[[cl vb 276 C],u,y]);exact (qj6 hu).use T [1] rfl rfl
theorem qxx (hg:Jv vb ss g) {k:Nat} {s:Zv} (hs:ss[k]?=some s):∀ a∈s.l,a.v.length=1:=by
 obtain ⟨hl,C,gH,hC,hF,rfl⟩:=hg;obtain ⟨u,y,hu,_,_⟩:=hF.out hs;exact hu.1
def Yw (a:Nd) (g:List Blk):Prop:=g=[cl a.b 354 (a.v++[Value.pointer none,Value.pointer none,Value.pointer none]).toArray]
def qvn:Value→Nat
 | .slice _ n _=>n
 | _=>0
theorem qtj (hg:Jv vb ss g) {k:Nat} {s:Zv} (hs:ss[k]?=some s) (hk:k<64) (ht:qfd ss≤1000000) :
 Qa prog 272 #[Qb vb,.int .i64 k] [g] fun e gs =>
  ∃ v gr gn g',e=.returned v∧Qu 270 1 v s.l.length (s.l.map fun a=>Qb a.b) gr∧J4 Yw s.l gn∧Jv vb (ss.set k { s with l:=[] }) g'∧gs=[g',gr,gn]:=by
 have hkl:=(List.getElem?_eq_some_iff.1 hs).1;have hge:=qlx hs;have hset:∀ l,(ss.set k { s with l:=l })[k]?=some { s with l:=l }:=fun l=>List.getElem?_set_self hkl
 have htot:∀ l,qfd (ss.set k { s with l:=l })+s.l.length=qfd ss+l.length:=fun l=>qdw hs { s with l:=l }
 have hvals:=qxx hg hs;have HF0:=Vh (qe8 hg hs);have HC0:=Vh (show ∀ (h:GH) (w w':World),TG h w [g] w'→w'.cell? ⟨vb,k,none⟩=some (Qb s.lb) from fun _ _ _ T=>qfv hg hs T);have hsame:ss.set k { s with l:=s.l }=ss:=Jq hs;have HG:=Vh (show Jv vb (ss.set k { s with l:=s.l }) g from by rw [hsame];exact hg);refine GO fun w HT=>?_
 have HV:=Vh hvals;have HSE:=Vh hset;have HTO:=Vh htot;have c0:=HC0.out _ _ _ HT.out;have hkb:(k:Int)<64:=by omega
 clear hg hs hvals hset htot hsame hkl;go_enter func272,ntmps272
 go_wp2_with fail
 refine (Qe.use (qe2 vb k hk) (HT.out) [] rfl rfl).mono ?_
 rintro e w1 ⟨rfl,mq,rfl⟩;have HT:=Vh (HT.out.drewN mq);generalize World.drewN _ _=wq at HT ⊢;clear c0;have c0:=HC0.out _ _ _ HT.out;go_wp2_with fail
 refine (Qe.use (HF0.out) (HT.out) [0] rfl rfl).mono ?_
 rintro e w1 ⟨rfl,mq,rfl⟩;have HT:=Vh (HT.out.drewN mq);generalize World.drewN _ _=wq at HT ⊢;go_wp2
 clear c0;have HT:=Vh (HT.out.sum (H':=[g,[],[]]))
 go_loopw [5,6] (fun v p wr=>∃ l1 l2 g1 gr gn,s.l=l1++l2∧p=nxV (.pointer none) l2∧Qu 270 1 v l1.length (l1.map fun a=>Qb a.b) gr∧J4 Yw l1 gn∧Jv vb (ss.set k { s with l:=l2 }) g1∧TG [g] w [g1,gr,gn] wr) (fun v p _=>s.l.length - qvn v)
 case atStart=>exact ⟨[],s.l,g,[],[],rfl,rfl,Zi _ _,rfl,HG.out,HT.out⟩
 case round =>
  obtain ⟨l1,l2,g1,gr,gn,hl,rfl,hr,hn,hg1,T⟩:=hrel;have HL:=Vh hl;have HN:=Vh hn;have HG1:=Vh hg1;have RR:=Vh hr;have HT:=Vh T;have hlen:s.l.length=l1.length+l2.length:=by rw [hl,List.length_append]
  obtain ⟨av,cap,rfl⟩:=Qu.val hr;clear hl hn hg1 hr T HG;cases l2 with
  | nil =>
    simp only [nxV_nil];go_wp2
    go_ret
    have e:s.l=l1:=by rw [HL.out,List.append_nil]
    exact ⟨_,⟨_,gr,gn,g1,rfl,by rw [e];exact RR.out,by rw [e];exact HN.out,HG1.out,rfl⟩,HT.out⟩
  | cons a l3 =>
    obtain ⟨nb,vv⟩:=a;have hv1:vv.length=1:=HV.out ⟨nb,vv⟩ (by rw [HL.out];simp)
    obtain ⟨ve,rfl⟩:∃ ve,vv=[ve]:=by
     match vv,hv1 with
     | [ve],_=>exact ⟨ve,rfl⟩
    simp only [nxV_cons];have ht2:qfd (ss.set k { s with l:=⟨nb,[ve]⟩::l3 })≤1000000:=by have:=HTO.out (⟨nb,[ve]⟩::l3);simp only [List.length_cons] at this hlen;omega
    have HRM:=Vh (qk2 HG1.out (HSE.out _) rfl hk ht2);clear hv1 ht2;go_wp2_with fail
    refine (Qa.use (HRM.out) (HT.out) [0] rfl rfl).mono ?_
    rintro e w1 ⟨gs,⟨rfl,g2,hg2,rfl⟩,Ta⟩;simp only [PU] at Ta;rw [List.set_set] at hg2;have HG2:=Vh hg2;clear hg2;have HT:=Vh Ta;clear Ta;have HC2:=Vh (show ∀ (h:GH) (w w':World),TG h w [g2] w'→w'.cell? ⟨vb,k,none⟩=some (Qb s.lb) from fun _ _ _ T=>qfv HG2.out (HSE.out _) T);have HF2:=Vh (qe8 HG2.out (HSE.out _));go_wp2_with (at_builtin;(with_reducible refine Z0 rfl (.tmp 31) (.tmp 33) 348 rfl 270 1 8 _ underlying348 Tryz.infoNodeP rfl (by decide) ((HT.out).alloc0 _) 1 rfl rfl (RR.out) rfl ⟨w1.heap.size,0,none⟩ 1 1 [Qb nb] rfl rfl (X8 _ _ _) (by simp [Value.oneCell']) (by unfold maxLen;omega) (by omega) ?_);intro v1 w2 gr1 r1 T1;simp only [List.set_cons_zero,List.set_cons_succ] at T1;have T1:=Vh T1;have c0:=HC2.out _ _ _ (T1.out.pick [0] rfl);have r1:=Vh r1)
    refine (Qe.use HF2.out T1.out [0] rfl rfl).mono ?_
    rintro e w3 ⟨rfl,mq,rfl⟩;have HT:=Vh (T1.out.drewN mq);generalize World.drewN _ _=w4 at HT ⊢;have HN1:=Vh (J4.snoc (P:=Yw) (a:=⟨nb,[ve]⟩) HN.out (x:=[cl nb 354 #[ve,.pointer none,.pointer none,.pointer none]]) (show Yw ⟨nb,[ve]⟩ _ from rfl));have RR1:=Vh (show Qu 270 1 v1 (l1++[(⟨nb,[ve]⟩:Nd)]).length ((l1++[(⟨nb,[ve]⟩:Nd)]).map fun a=>Qb a.b) gr1 from by simpa using r1.out);obtain ⟨av1,cap1,hv1⟩:=Qu.val RR1.out;simp only [List.length_append,List.length_cons,List.length_nil,Nat.zero_add] at hv1;subst hv1;clear c0;go_wp2
    first
    | (go_roundw
       case rel=>exact ⟨l1++[(⟨nb,[ve]⟩:Nd)],l3,g2,gr1,_,by rw [HL.out];simp,rfl,RR1.out,HN1.out,HG2.out,HT.out.sum⟩
       case measure=>simp only [List.length_cons] at hlen;simp [qvn];omega)
    | exact ⟨⟨l1++[(⟨nb,[ve]⟩:Nd)],l3,g2,gr1,_,by rw [HL.out];simp,rfl,RR1.out,HN1.out,HG2.out,HT.out.sum⟩,by simp only [List.length_cons] at hlen;simp [qvn];omega⟩
    | ((repeat apply Exists.intro);exact ⟨⟨⟨l1++[(⟨nb,[ve]⟩:Nd)],l3,g2,gr1,_,by rw [HL.out];simp,rfl,RR1.out,HN1.out,HG2.out,HT.out.sum⟩,rfl⟩,by simp only [List.length_cons] at hlen;simp [qvn];omega⟩)
end
structure ItS where
 σ:Type
 /-- its own groups,in a state -/
 O:σ→GH→Prop
 /-- what it reads of the caller's -/
 T:σ→GH→Prop
 /-- a round: what it hands over: values,groups;the next state -/
 step:σ→Array Value→GH→σ→Prop
 /-- no more comes -/
 fin:σ→Prop
def qeo (P:Program) (g:Nat) (lb:Array Value) (I:ItS) (s0:I.σ):Prop :=
 ∀ (l:Nat) (J Jx:I.σ→GH→Prop),(∀ s H,J s H→I.T s H) →
   (∀ s x G s' H W,J s H→I.step s x G s'→J3 (H++G) W→YieldAt Fence.wide 0 P l x W fun e W' =>
     ∃ H',TG (H++G) W H' W'∧((e=.returned (.bool true)∧J s' H')∨(e=.returned (.bool false)∧Jx s' H'))) →
   ∀ H0 O0 W,J s0 H0→I.O s0 O0→J3 (H0++O0) W →
     Calls P g (#[.func (.yield l) #[] #[]]++lb) W fun e W'=>(∃ v,e=.returned v)∧∃ s H' O',TG (H0++O0) W (H'++O') W'∧((I.fin s∧J s H'∧I.O s O')∨Jx s H')
theorem Qh.basePerm {h h2 h':PH} {w w':World} (a:Qh h w h' w') (p:h.Perm h2):Qh h2 w h' w':=by
 have hm:∀ k,k∈keys h↔k∈keys h2:=fun k=>(p.map Prod.fst).mem_iff
 exact ⟨a.has,a.only.mono (fun k _ hk=>(hm k).1 hk),fun k hk=>(a.news k hk).imp (hm k).1 id⟩
theorem TG.basePerm {h h2 H:GH} {w w':World} (a:TG h w H w') (p:h.flatten.Perm h2.flatten):TG h2 w H w':=Qh.basePerm a (q9 p)
theorem TG.dropLast {h H:GH} {w w':World} {b:List Blk} (a:TG h w (H++[b]) w'):TG h w H w':=by
 have a':Qh _ _ _ _:=a;have e:(H++[b]).flatten=H.flatten++b:=by simp
 rw [e,Zz] at a';exact a'.dropR
theorem TG.frame {H H' K:GH} {w w':World} (T:TG H w H' w') (hK:J3 (H++K) w):TG (H++K) w (H'++K) w':=by
 have T':Qh _ _ _ _:=T
 have hh:Has (ex H.flatten++ex K.flatten) w:=by
  have:Has (ex (H++K).flatten) w:=hK;rwa [List.flatten_append,Zz] at this
 have:=T'.frame hh;rw [← Zz,← Zz,← List.flatten_append,← List.flatten_append] at this;exact this
theorem J3.re {H H':GH} {w:World} (h:J3 H w) (p:H.flatten.Perm H'.flatten):J3 H' w:=((TG.refl h).re p).has
theorem J3.left {H K:GH} {w:World} (h:J3 (H++K) w):J3 H w:=by
 have hh:Has (ex H.flatten++ex K.flatten) w:=by
  have:Has (ex (H++K).flatten) w:=h;rwa [List.flatten_append,Zz] at this
 exact hh.left
theorem J3.last {H:GH} {b:Nat} {o:Obj} {w:World} (h:J3 (H++[[(b,o)]]) w):w.heap[b]?=some o :=
 h.obj H.length 0 (p:=(b,o)) (by rw [List.getD_eq_getElem?_getD,List.getElem?_append_right (Nat.le_refl _)];simp)
theorem TG.turnLast {h H:GH} {w w':World} {b:Nat} {o:Obj} (T:TG h w (H++[[(b,o)]]) w') (o':Obj):TG h w (H++[[(b,o')]]) (w'.putObj b o'):=by
 have hb:=T.has.last;have hl:=(Array.getElem?_eq_some_iff.1 hb).1
 have hd:(H++[[(b,o)]]).getD H.length []=[(b,o)]:=by
  rw [List.getD_eq_getElem?_getD,List.getElem?_append_right (Nat.le_refl _)];simp
 have:=T.turn (pre:=[]) (post:=[]) (o':=o') (w'':=w'.putObj b o') H.length (by simp) hd (World.putObj_heap_same hl) (fun k hk=>World.putObj_heap_other hk) World.putObj_size rfl rfl rfl;rwa [List.set_append_right _ _ (Nat.le_refl _),Nat.sub_self,List.set_cons_zero,List.nil_append] at this
theorem TG.app {a H:GH} {w w':World} (T:TG a w H w') {a':GH} (p:a.flatten=a'.flatten):TG a' w H w':=T.base p
def outY (J:GH→Prop) (Jx:Code→GH→Prop) (H:GH) (W:World):Exit→Act→World→Prop
 | .normal,_,W'=>∃ H',J H'∧TG H W H' W'
 | .ret,_,W'=>∃ H',Jx .ret H'∧TG H W H' W'
 | .exit id,_,W'=>∃ H',Jx (.exit id) H'∧TG H W H' W'
 | .goto t,_,W'=>∃ H',Jx (.goto t) H'∧TG H W H' W'
 | .panic _,_,_=>False
 | .outgrown,_,_=>False
theorem qm0 {α:Type} (a b c:List α):(a++b++c).Perm (a++c++b):=by
 rw [List.append_assoc,List.append_assoc];exact List.perm_append_comm.append_left a
theorem qn {P:Program} {g:Operand} {ps:Array Tmp} {assign body:Code} {Q:Exit→Act→World→Prop} {a:Act} {w0 w:World} {gf:Nat} {lb:Array Value}
 (hg:a.eval g=.func (.func gf) #[] lb) (eg:∀ args w,(callFunc gf args).run P w=.ok (.enter gf args) w)
 {I:ItS} {s0:I.σ} (hit:qeo P gf lb I s0) (hps:∀ s x G s',I.step s x G s'→x.size=ps.size)
 {h H0 O0:GH} (T0:TG h w0 (H0++O0) w) (hO:I.O s0 O0) (J:I.σ→GH→Prop) (Jx:I.σ→Code→GH→Prop) (h0:J s0 H0) (hT:∀ s H K,J s H→I.T s (H++K))
 (hbody:∀ s x G s' (H:GH) (W:World) (l:Nat),J s H→I.step s x G s'→J3 (H++G) W →
   assign.wpIn (Fence.wide.inRound l) 0 P (Exit.then (fun a₁ Wa=>∃ Ha,TG (H++G) W Ha Wa ∧
    ∀ Wb,J3 Ha Wb→body.wpIn (Fence.wide.inRound l) 0 P (outY (J s') (Jx s') Ha Wb) a₁ Wb) (fun _ _ _=>False))
    { tmps:=(ps.zip x).foldl (fun t (p,v)=>t.setIfInBounds p v) a.tmps,defers:=[] } W)
 (hdone:∀ s H O W D,I.fin s→J s H→I.O s O→TG h w0 (H++O++[[(D,.deferred (some []))]]) W→Q .normal { a with defers:=qb5 D::a.defers } W)
 (hstop:∀ s cd H O W D,Jx s cd H→TG h w0 (H++O++[[(D,.deferred (some []))]]) W→cd.wp P Q { a with defers:=qb5 D::a.defers } W) :
 (Code.rangeFunc g ps assign body).wp P Q a w:=by
 refine (wpIn_wide (n:=0)).1 (wpIn_rangeFunc ?_)
 intro fn hfn;obtain ⟨D,hD⟩:∃ D,D=w.heap.size:=⟨_,rfl⟩;obtain ⟨L,hL⟩:∃ L,L=w.heap.size+1:=⟨_,rfl⟩;obtain ⟨rec,hrec⟩:∃ rec:LoopState→Option Code→Loop,rec=fun st pe=>{ state:=st,pending:=pe,fn,tmps:=a.tmps,params:=ps,assign,body,defers:=w.heap.size }:=⟨_,rfl⟩
 obtain ⟨W1,hW1⟩:∃ W1,(w.alloc (.deferred (some []))).alloc (.loop (rec .ready none))=W1:=⟨_,rfl⟩
 have T1:TG h w0 (H0++O0++[[(D,.deferred (some []))]]++[[(L,.loop (rec .ready none))]]) W1:=by
  rw [← hW1];exact (T0.put hD _).put (by rw [World.size_alloc];exact hL) _
 refine ⟨w.heap.size+1,[qb5 w.heap.size],W1,{ target:=.fn (.func gf) lb,args:=#[.func (.yield (w.heap.size+1)) #[] #[]] },W1,gf,
  #[.func (.yield (w.heap.size+1)) #[] #[]]++lb,W1,?_,?_,?_,?_,?_,?_⟩
 ·rw [← hW1,hrec];exact run_enterLoop_outer _ _ _ _ _
 ·simp only [resolve,hg]
  simp [go_sem]
 ·intro f' hf';trivial
 ·simp [invoke,go_sem,eg]
 ·intro h;simp [Fence.wide] at h
 refine callsIn_wide.2 ?_
 rw [← hL,← hD];have hdef:∀ st pe,rec st pe={ state:=st,pending:=pe,fn,tmps:=a.tmps,params:=ps,assign,body,defers:=w.heap.size }:=fun st pe=>by rw [hrec]
 have mid:∀ (x y:GH) (z:List Blk),(x++y++[z]).flatten.Perm (x++[z]++y).flatten:=fun x y z=>by
  simp only [List.flatten_append];exact qm0 _ _ _
 have mid2:∀ (x y:GH) (z u:List Blk),(x++y++[z]++[u]).flatten.Perm (x++[z]++[u]++y).flatten:=fun x y z u=>by
  have h1:(x++y++([z]++[u])).flatten.Perm (x++([z]++[u])++y).flatten:=by
   simp only [List.flatten_append];exact qm0 _ _ _
  simpa only [List.append_assoc] using h1
 refine (hit L (fun s H=>∃ H1,J s H1∧H=H1++[[(D,.deferred (some []))]]++[[(L,.loop (rec .ready none))]])
  (fun s H=>∃ H1 cd,Jx s cd H1∧H=H1++[[(D,.deferred (some []))]]++[[(L,.loop (rec .done (some cd)))]]) ?_ ?_
  (H0++[[(D,.deferred (some []))]]++[[(L,.loop (rec .ready none))]]) O0 W1 ⟨H0,h0,rfl⟩ hO ((T1.re (mid2 _ _ _ _)).has)).mono ?_
 ·rintro s H ⟨H1,hJ,rfl⟩
  rw [List.append_assoc];exact hT s H1 _ hJ
 ·rintro s x G s' H W ⟨H1,hJ,rfl⟩ hst hH
  have hH2:J3 (H1++G++[[(D,.deferred (some []))]]++[[(L,.loop (rec .ready none))]]) W:=hH.re (mid2 H1 G _ _).symm;have hr:=hH2.last;have hH3:J3 ((H1++G)++([[(D,.deferred (some []))]]++[[(L,.loop (rec .ready none))]])) W:=by simpa only [List.append_assoc] using hH2
  have hH1:J3 (H1++G) W:=hH3.left;have hy:=run_yield (P:=P) (args:=x) hr (by rw [hrec];exact hps s x G s' hst);rw [hrec] at hy;refine ⟨fn,_,assign,body,hy,roundIn_of_wpIn trivial ?_⟩
  clear hy;refine wpIn_mono (hbody s x G s' H1 W L hJ hst hH1) ?_
  intro e a₁ Wa hex;cases e with
  | normal =>
    obtain ⟨Ha,hTa,hb⟩:=hex;have Ta:TG ((H1++G)++([[(D,.deferred (some []))]]++[[(L,.loop (rec .ready none))]])) W (Ha++([[(D,.deferred (some []))]]++[[(L,.loop (rec .ready none))]])) Wa:=hTa.frame hH3;have Ta2:TG ((H1++G)++([[(D,.deferred (some []))]]++[[(L,.loop (rec .ready none))]])) W ((Ha++[[(D,.deferred (some []))]])++[[(L,.loop (rec .ready none))]]) Wa:=Ta.eq (by simp);have hra:Wa.heap[L]?=some (.loop (rec .ready none)):=Ta2.has.last;refine ⟨_,run_beginRound hra (by rw [hrec]),?_⟩
    have Tb:=Ta2.turnLast (.loop { rec .ready none with state:=.busy });have Tb2:TG ((H1++G)++([[(D,.deferred (some []))]]++[[(L,.loop (rec .ready none))]])) W (Ha++([[(D,.deferred (some []))]]++[[(L,.loop { rec .ready none with state:=.busy })]])) _:=Tb.eq (by simp);have hHb:=Tb2.has;refine wpIn_mono (hb _ hHb.left) ?_
    have hbase:((H1++G)++([[(D,Obj.deferred (some []))]]++[[(L,Obj.loop (rec .ready none))]]):GH).flatten.Perm (H1++[[(D,.deferred (some []))]]++[[(L,.loop (rec .ready none))]]++G:GH).flatten:=by
     have:=mid2 H1 G [(D,Obj.deferred (some []))] [(L,Obj.loop (rec .ready none))];simpa only [List.append_assoc] using this
    have fin:∀ (jump:Option Code) (H':GH) (W3:World),TG Ha (Wa.putObj L (.loop { rec .ready none with state:=.busy })) H' W3 →
     (Instr.endRound L jump).run P W3=.ok (.bool jump.isNone) (W3.putObj L (.loop (rec (if jump.isNone then .ready else .done) jump))) ∧
     TG (H1++[[(D,.deferred (some []))]]++[[(L,.loop (rec .ready none))]]++G) W (H'++[[(D,.deferred (some []))]]++[[(L,.loop (rec (if jump.isNone then .ready else .done) jump))]]) (W3.putObj L (.loop (rec (if jump.isNone then .ready else .done) jump))):=by
     intro jump H' W3 h3;have T3:=h3.frame hHb;have T4:=(Tb2.trans T3).eq (H':=(H'++[[(D,.deferred (some []))]])++[[(L,.loop { rec .ready none with state:=.busy })]]) (by simp);have he:=run_endRound (P:=P) jump T4.has.last;refine ⟨by rw [hrec] at he ⊢;exact he,?_⟩
     have T5:=T4.turnLast (.loop (rec (if jump.isNone then .ready else .done) jump));unfold TG at T5 ⊢;exact Qh.basePerm T5 (q9 hbase)
    intro ex a₂ W3 hp;cases ex with
    | normal =>
      obtain ⟨H',hj,h3⟩:=hp;obtain ⟨f1,f2⟩:=fin none H' W3 h3;exact ⟨_,_,f1,_,f2,.inl ⟨rfl,H',hj,rfl⟩⟩
    | ret =>
      obtain ⟨H',hj,h3⟩:=hp;obtain ⟨f1,f2⟩:=fin (some .ret) H' W3 h3;exact ⟨_,_,f1,_,f2,.inr ⟨rfl,H',.ret,hj,rfl⟩⟩
    | exit id =>
      obtain ⟨H',hj,h3⟩:=hp;obtain ⟨f1,f2⟩:=fin (some (.exit id)) H' W3 h3;exact ⟨_,_,f1,_,f2,.inr ⟨rfl,H',.exit id,hj,rfl⟩⟩
    | goto t =>
      obtain ⟨H',hj,h3⟩:=hp;obtain ⟨f1,f2⟩:=fin (some (.goto t)) H' W3 h3;exact ⟨_,_,f1,_,f2,.inr ⟨rfl,H',.goto t,hj,rfl⟩⟩
    | panic ch=>exact hp.elim
    | outgrown=>exact hp.elim
  | ret=>exact hex.elim
  | exit id=>exact hex.elim
  | goto t=>exact hex.elim
  | panic ch=>exact hex.elim
  | outgrown=>exact hex.elim
 ·rintro e W2 ⟨⟨v,rfl⟩,s,H',O',T2,hr⟩
  have back:∀ (H1:GH) (st:LoopState) (pe:Option Code) (o':Obj),H'=H1++[[(D,.deferred (some []))]]++[[(L,.loop (rec st pe))]] →
   W2.heap[L]?=some (.loop (rec st pe))∧TG h w0 (H1++O'++[[(D,.deferred (some []))]]++[[(L,o')]]) (W2.putObj L o'):=by
   rintro H1 st pe o' rfl;have T3:=(T1.re (mid2 H0 O0 _ _)).trans T2;have T4:=T3.re (mid2 H1 O' _ _).symm;exact ⟨T4.has.last,T4.turnLast o'⟩
  rcases hr with ⟨hf,⟨H1,hj,hH'⟩,ho⟩ | ⟨H1,cd,hj,hH'⟩
  ·obtain ⟨hl,_⟩:=back H1 .ready none (.loop (rec .ready none)) hH'
   have he:=run_endLoop (P:=P) hl (by rw [hrec];simp);have hp:(rec .ready none).pending=none:=by rw [hrec]
   refine ⟨none,_,by rw [he,hp],?_⟩
   exact hdone s H1 O' _ D hf hj ho (TG.dropLast (back H1 .ready none _ hH').2)
  ·obtain ⟨hl,_⟩:=back H1 .done (some cd) (.loop (rec .ready none)) hH'
   have he:=run_endLoop (P:=P) hl (by rw [hrec];simp);have hp:(rec .done (some cd)).pending=some cd:=by rw [hrec]
   refine ⟨some cd,_,by rw [he,hp],?_⟩
   exact (wpIn_wide (n:=0)).2 (hstop s cd H1 O' _ D hj (TG.dropLast (back H1 .done (some cd) _ hH').2))
end
end Go.Proofs.YtikpbibeagbccaaGreat
