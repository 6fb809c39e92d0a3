import Derived.Test.YtikpbibeagbccaaGreatGV36
import Derived.Test.YtikpbibeagbccaaGreatGV25
import Derived.Test.YtikpbibeagbccaaGreatGV35
set_option maxRecDepth 100000
set_option maxHeartbeats 4000000
namespace Go.Proofs.YtikpbibeagbccaaGreat
set_option linter.unusedVariables false
set_option linter.unusedSimpArgs false
open Go.Proofs.Tryz
section
open Go.RowKit Go.Shelf
def qg.bare (j:qg):qg:={ j with kb:=0 }
def WkN.bare (c:WkN):WkN:={ c with wb:=0 }
def SvS.bare (S:SvS):SvS:={ S with all:=S.all.map qg.bare,crew:=S.crew.map WkN.bare }
section
variable (S:SvS)
theorem qaq (a:Nat):S.bare.jobAt a=(S.jobAt a).bare:=by
 unfold SvS.jobAt SvS.bare;simp only [List.getD_eq_getElem?_getD,List.getElem?_map];cases S.all[a]? <;> rfl
theorem qfs (a:Nat):S.bare.wkrAt a=(S.wkrAt a).bare:=by
 unfold SvS.wkrAt SvS.bare;simp only [List.getD_eq_getElem?_getD,List.getElem?_map];cases S.crew[a]? <;> rfl
theorem qm4 (f:WkN→WkN):∀ (l:List WkN) (a i:Nat),qqr a i (l.map f)=qqr a i l
 | [],_,_=>rfl
 | c::l,a,i=>by
   show (a,Th.wkr i)::qqr (a+1) (i+1) (l.map f)=(a,Th.wkr i)::qqr (a+1) (i+1) l
   rw [qm4 f l]
theorem qn2:S.bare.ths=S.ths:=by
 show qul 0 S.own++qqr S.own.length 0 (S.crew.map _)=_
 rw [qm4];rfl
theorem qnk (t:Th):t.may S.bare=t.may S:=by
 cases t with
 | job a=>show (S.bare.jobAt a).w.may S.z=_;rw [qaq];rfl
 | wkr i=>show (S.bare.wkrAt i).may S.z=_;rw [qfs];rfl
theorem qq4 (t:Th):(t.step S).bare=t.step S.bare:=by
 cases t with
 | job a =>
   show SvS.mk ((S.jobAt a).w.step S.z).2 S.own ((S.all.set a _).map qg.bare) (S.crew.map WkN.bare)=SvS.mk ((S.bare.jobAt a).w.step S.z).2 S.own ((S.all.map qg.bare).set a ⟨(S.bare.jobAt a).kb,(S.bare.jobAt a).n+1,((S.bare.jobAt a).w.step S.z).1⟩) (S.crew.map WkN.bare)
   rw [List.map_set,qaq];rfl
 | wkr i =>
   show SvS.mk ((S.wkrAt i).step S.z).2 S.own (S.all.map qg.bare) ((S.crew.set i _).map WkN.bare)=SvS.mk ((S.bare.wkrAt i).step S.z).2 S.own (S.all.map qg.bare) ((S.crew.map WkN.bare).set i ((S.bare.wkrAt i).step S.z).1)
   rw [List.map_set,qfs];rfl
theorem qbu:S.bare.mays=S.mays:=by
 unfold SvS.mays;rw [qn2];simp only [qnk]
theorem qkk (i:Int):S.bare.pickTh i=S.pickTh i:=by
 unfold SvS.pickTh;rw [qn2];simp only [qnk]
theorem qfz (i:Int):(S.stepS i).1.bare=(S.bare.stepS i).1∧(S.stepS i).2=(S.bare.stepS i).2:=by
 unfold SvS.stepS;rw [qkk]
 have e:(S.bare.own.length:Int)+S.bare.crew.length=(S.own.length:Int)+S.crew.length:=by
  show (S.own.length:Int)+(S.crew.map _).length=_
  rw [List.length_map]
 rw [e];split
 ·exact ⟨rfl,rfl⟩
 ·split
  ·exact ⟨qq4 S _,rfl⟩
  ·exact ⟨rfl,rfl⟩
theorem qmh (k:Int):S.bare.pickAt k=S.pickAt k:=by unfold SvS.pickAt;rw [qbu]
theorem qpn (k:Int):(S.pickS k).1.bare=(S.bare.pickS k).1∧(S.pickS k).2=(S.bare.pickS k).2:=by
 unfold SvS.pickS;rw [qbu,qmh];split
 ·exact ⟨rfl,rfl⟩
 ·obtain ⟨h1,h2⟩:=qfz S (S.pickAt k)
  exact ⟨h1,by rw [h2]⟩
theorem ql6 (i:Nat):S.bare.busyAt i=S.busyAt i:=by
 unfold SvS.busyAt
 show (match S.own.getD i none with | some a=>!(S.bare.jobAt a).w.done | none=>false)=_
 cases S.own.getD i none with
 | some a=>show (!(S.bare.jobAt a).w.done)=_;rw [qaq];rfl
 | none=>rfl
theorem qcl (th:Int) (c:Qr):S.bare.callE th c=S.callE th c:=by
 unfold SvS.callE;rw [ql6];rfl
theorem qkr (th:Int) (c:Qr):S.bare.callNo th c=S.callNo th c:=by
 unfold SvS.callNo;rw [qcl]
 show (if _ then ((S.all.map _).length:Int)+1 else 0)=_
 rw [List.length_map]
theorem qpb (kb:Nat) (th:Int) (c:Qr):(S.callS kb th c).bare=S.bare.callS 0 th c:=by
 unfold SvS.callS;rw [qcl];split
 ·have e:S.bare.all.length=S.all.length:=List.length_map _
  unfold SvS.callT;rw [e]
  show SvS.mk _ _ ((S.all++[_]).map qg.bare) _=SvS.mk _ _ ((S.all.map qg.bare)++[_]) _
  rw [List.map_append];rfl
 ·rfl
theorem qpg:S.bare.busyB=S.busyB:=by
 unfold SvS.busyB
 show S.own.any _=S.own.any _
 congr 1
 funext o
 cases o with
 | none=>rfl
 | some a=>show (!(S.bare.jobAt a).w.done)=_;rw [qaq];rfl
theorem qtp:S.bare.idle=S.idle:=by
 unfold SvS.idle;rw [qpg]
 show (_ && Ye (S.crew.map WkN.bare) S.z.p)=_
 have:X0 (S.crew.map WkN.bare)=X0 S.crew:=by
  unfold X0;rw [List.all_map];rfl
 unfold Ye;rw [this]
end
def isB (N:Nat) (L:Lay) (sb:Nat) (B:SvS) (g:List Blk):Prop:=∃ S,S.bare=B∧SvN N S∧qio L sb S g
section
variable {N:Nat} {L:Lay} {sb:Nat} {B:SvS} {g:List Blk}
theorem q23 (h:isB N L sb B g) (hN:N<999998):Qa prog 18 #[Qb sb] [g] fun e gs =>
 ∃ v gl g',e=.returned v∧Qu 3 1 v B.mays.length (ql1 B.mays) gl∧isB N L sb B g'∧gs=[g',gl]:=by
 obtain ⟨S,rfl,hn,hs⟩:=h;refine (q2f hs hn hN).mono ?_
 rintro e gs ⟨v,gl,g',rfl,h1,h2,rfl⟩;exact ⟨v,gl,g',rfl,by rw [qbu];exact h1,⟨S,rfl,hn,h2⟩,rfl⟩
theorem q2r (h:isB N L sb B g) (hN:N<999998) (i:Int):Qa prog 15 #[Qb sb,.int .i64 i] [g] fun e gs =>
 ∃ g',e=.returned (.int .i64 (B.stepS i).2)∧isB (N+1) L sb (B.stepS i).1 g'∧gs=[g']:=by
 obtain ⟨S,rfl,hn,hs⟩:=h;refine (qw2 hs hn hN i).mono ?_
 rintro e gs ⟨g',rfl,h2,rfl⟩;obtain ⟨e1,e2⟩:=qfz S i;exact ⟨g',by rw [e2],⟨_,e1,qrg hn hN i,h2⟩,rfl⟩
theorem qzr (h:isB N L sb B g) (hN:N<999998) (k:Int):Qa prog 16 #[Qb sb,.int .i64 k] [g] fun e gs =>
 ∃ g',e=.returned (.tuple #[.int .i64 (B.pickS k).2.1,.int .i64 (B.pickS k).2.2])∧isB (N+1) L sb (B.pickS k).1 g'∧gs=[g']:=by
 obtain ⟨S,rfl,hn,hs⟩:=h;refine (q0f hs hn hN k).mono ?_
 rintro e gs ⟨g',rfl,h2,rfl⟩;obtain ⟨e1,e2⟩:=qpn S k;exact ⟨g',by rw [e2],⟨_,e1,qz0 hn hN k,h2⟩,rfl⟩
theorem qy9 (h:isB N L sb B g) (hN:N<999998) (th:Int) (c:Qr) (hc:c.wf):Qa prog 14 #[Qb sb,.int .i64 th,.agg c.cells] [g] fun e gs =>
 ∃ g',e=.returned (.tuple #[.int .i64 (B.callNo th c),.int .i64 (B.callE th c)])∧isB (N+1) L sb (B.callS 0 th c) g'∧gs=[g']:=by
 obtain ⟨S,rfl,hn,hs⟩:=h;refine (q06 hs hn hN th c).mono ?_
 rintro e gs ⟨kb,g',rfl,h2,rfl⟩;exact ⟨g',by rw [qkr,qcl],⟨_,qpb S kb th c,qxe hn hc kb th,h2⟩,rfl⟩
theorem qtu (h:isB N L sb B g) (hN:N<999998):Qa prog 17 #[Qb sb] [g] fun e gs=>∃ g',e=.returned (.bool B.idle)∧isB N L sb B g'∧gs=[g']:=by
 obtain ⟨S,rfl,hn,hs⟩:=h;refine (q14 hs hn hN).mono ?_
 rintro e gs ⟨g',rfl,h2,rfl⟩;exact ⟨g',by rw [qtp],⟨S,rfl,hn,h2⟩,rfl⟩
theorem bLog (h:isB N L sb B g) (hN:N<999998):Qa prog 39 #[Qb sb] [g] fun e gs=>∃ v gv g',e=.returned v∧Qu 82 4 v B.z.lg.length (Jh B.z.lg) gv∧isB N L sb B g'∧gs=[g',gv]:=by
 obtain ⟨S,rfl,hn,hs⟩:=h;refine (q2p hs hn hN).mono ?_
 rintro e gs ⟨v,gv,g',rfl,h1,h2,rfl⟩;exact ⟨v,gv,g',rfl,h1,⟨S,rfl,hn,h2⟩,rfl⟩
def qyt (c:Cfg):SvS:=⟨zf0 c,List.replicate (c.cli.toNat+1) none,[],List.replicate c.wk.toNat ⟨0,Yj,0,qt1⟩⟩
theorem bNew (c:Cfg) (hk:c.ok=true):Qa prog 43 #[.agg c.cells] [] fun e gs =>
 ∃ L sb g,e=.returned (.tuple #[Qb sb,.int .i64 0])∧isB 0 L sb (qyt c) g∧gs=[g]:=by
 refine (q2q c hk).mono ?_
 rintro e gs ⟨L,sb,ws,g,rfl,hl,hw,hs,rfl⟩;refine ⟨L,sb,g,rfl,⟨_,?_,q2x c hk hl hw,hs⟩,rfl⟩
 show SvS.mk _ _ [] (ws.map WkN.bare)=_
 have:ws.map WkN.bare=List.replicate c.wk.toNat ⟨0,Yj,0,qt1⟩:=by
  rw [List.eq_replicate_iff,List.length_map];refine ⟨hl,fun b hb=>?_⟩
  obtain ⟨z,hz,rfl⟩:=List.mem_map.1 hb;obtain ⟨a,b,d⟩:=hw z hz;obtain ⟨wb,s,n,k⟩:=z;simp only at a b d;subst a b d;rfl
 rw [this];rfl
end
section
variable {N:Nat} {S:SvS}
theorem q0q {α:Type} {l:List α} {b:Nat} {x y:α} (h:(l++[x])[b]?=some y):(b<l.length∧l[b]?=some y)∨(b=l.length∧y=x):=by
 rcases Nat.lt_or_ge b l.length with hl | hl
 ·rw [List.getElem?_append_left hl] at h;exact .inl ⟨hl,h⟩
 ·rw [List.getElem?_append_right hl] at h
  have hb:b - l.length<1:=by have:=(List.getElem?_eq_some_iff.1 h).1;simpa using this
  have e:b - l.length=0:=by omega
  rw [e] at h;cases h
  exact .inr ⟨by omega,rfl⟩
theorem qwo (z:ZF) (th no:Int) (c:Qr) (h1:1≤c.kind) (h7:c.kind≤7):goW z (X5 th no c)∧qic (X5 th no c)=0∧(X5 th no c).tk=none:=by
 have hfree:zq (zu th no c):=fun i t h=>by cases h
 unfold X5;split
 ·exact ⟨trivial,rfl,rfl⟩
 ·split
  ·exact ⟨trivial,rfl,rfl⟩
  ·unfold J9
   split
   ·exact ⟨⟨by show c.kind=1∨c.kind=2;assumption,hfree⟩,rfl,rfl⟩
   ·split
    ·exact ⟨⟨by show 1≤c.kind∧c.kind≤3;omega,hfree⟩,rfl,rfl⟩
    ·exact ⟨⟨by show 1≤c.kind∧c.kind≤5;omega,hfree⟩,by show (if c.kind≤3 then (1:Int) else 0)=0;rw [if_neg (by omega)],rfl⟩
theorem qu3 (hn:SvN N S) (h:Yi S) {th:Int} {c:Qr} (ho:qq3 S th c) (kb:Nat):Yi (S.callT kb th c):=by
 obtain ⟨g1,g2,g3⟩:=qwo (S.callT kb th c).z th (S.all.length+1) c ho.k1 ho.k7;have h0:=ho.th0;have h1:=ho.th1;refine ⟨fun a j ha=>?_,?_,?_,fun i hi=>?_,h.busy,fun a j ha hd=>?_,h.crew⟩
 ·rcases q0q ha with ⟨_,ha⟩ | ⟨_,rfl⟩
  ·have:=h.go a j ha
   revert this
   cases j.w with
   | call s k=>exact id
   | turn s k=>exact fun e=>qe4 (x:=S.z.x) (x':=qrz (qxc th (S.all.length+1) c) S.z.x) (qd7.same rfl) e
   | clo s k=>exact id
  ·exact g1
 ·show S.z.x.f.inside=qdi ((S.all++[_]).map fun j:qg=>qic j.w)
  rw [qv1,← h.ins]
  show _=_+qic (X5 th (S.all.length+1) c)
  rw [g2];omega
 ·show RgI ((S.all++[_]).map fun j:qg=>j.w.tk) S.z.x.rg
  rw [List.map_append]
  exact h.rg.snoc (fun i t e=>by
   have e:(X5 th (S.all.length+1) c).tk=some (i,t):=e
   rw [g3] at e;cases e)
 ·obtain ⟨a,j,s,k,a1,a2,a3,a4⟩:=h.who i hi
  exact ⟨a,j,s,k,by show (S.all++[_])[a]?=_;rw [List.getElem?_append_left (List.getElem?_eq_some_iff.1 a1).1];exact a1,a2,a3,a4⟩
 ·rcases q0q ha with ⟨hl,ha⟩ | ⟨rfl,_⟩
  ·obtain ⟨i,hi⟩:=h.own a j ha hd
   refine ⟨i,qbf hi (fun e=>?_)⟩
   subst e;have hb:=ho.busy;unfold SvS.busyAt at hb;rw [List.getD_eq_getElem?_getD,hi] at hb;simp only [Option.getD_some] at hb;have:S.jobAt a=j:=by unfold SvS.jobAt;rw [List.getD_eq_getElem?_getD,ha];rfl
   rw [this,hd] at hb;cases hb
  ·exact ⟨th.toNat,by show (S.own.set th.toNat _)[th.toNat]?=_;rw [List.getElem?_set,if_pos rfl,if_pos (by omega)]⟩
theorem qq9 {n:Nat} (h:1≤n):qff (Jm n):=by
 have hl:(Jm n).slots.length=n:=by simp [Jm]
 refine ⟨by rw [hl];exact h,Int.le_refl _,Int.le_refl _,by rw [hl];show (0:Int)≤0+n;omega,fun p a b=>?_⟩
 have a:0≤p:=a;have b:p<0+((Jm n).slots.length:Int):=b;rw [hl] at b;refine .inl ?_
 obtain ⟨k,rfl⟩:=Int.eq_ofNat_of_zero_le a;have hk:k<n:=by omega
 have e:(Jm n).at k=k:=by
  unfold Qs.at;rw [hl,Int.emod_eq_of_lt (by omega) (by omega)];exact Int.toNat_natCast k
 unfold Qs.slot;rw [e];unfold Jm;rw [List.getD_eq_getElem?_getD,List.getElem?_map,List.getElem?_range hk];rfl
theorem q3h (c:Cfg) (hk:c.ok=true):Yi (qyt c):=by
 obtain ⟨b1,b2,b3,b4,b5,b6⟩:=Cfg.bd hk;have hsh:∀ i s,(qyt c).z.x.shs[i]?=some s→s=Qp c.ring.toNat:=fun i s h=>List.eq_of_mem_replicate (List.mem_of_getElem? h)
 refine ⟨fun a j ha=>(by cases ha),rfl,⟨fun i r hr=>?_,fun a i t r ha=>(by cases ha),fun a b i t u ha=>(by cases ha),fun i r p hr a1 a2=>?_⟩,fun i hi=>absurd ?_ hi,?_,fun a j ha=>(by cases ha),?_⟩
 ·obtain ⟨s,hs,rfl⟩:=Option.map_eq_some_iff.1 hr
  rw [hsh i s hs];exact qq9 (by omega)
 ·obtain ⟨s,hs,rfl⟩:=Option.map_eq_some_iff.1 hr
  rw [hsh i s hs] at a1 a2;have a1:0≤p:=a1;have a2:p<0:=a2;omega
 ·show ((List.replicate c.sh.toNat (Qp c.ring.toNat)).getD i (Qp 1)).who=0
  rw [List.getD_eq_getElem?_getD];cases hh:(List.replicate c.sh.toNat (Qp c.ring.toNat))[i]? with
  | none=>rfl
  | some s =>
    have:=List.eq_of_mem_replicate (List.mem_of_getElem? hh);subst this;rfl
 ·show (0:Int)=qdi ((List.replicate c.wk.toNat (⟨0,Yj,0,qt1⟩:WkN)).map fun c=>(c.k.holds.length:Int))
  rw [qbq];intro x hx;rw [List.eq_of_mem_replicate hx];rfl
 ·show 1≤(List.replicate _ _).length
  rw [List.length_replicate];omega
theorem qlk:∀ {l:List (Option Nat)} {a i k:Nat},l[i]?=some (some k)→(a+i,Th.job k)∈qul a l
 | none::l,a,0,k,h=>by cases h
 | some b::l,a,0,k,h=>by cases h;exact List.mem_cons_self
 | none::l,a,i+1,k,h=>by
   have:=qlk (l:=l) (a:=a+1) (i:=i) (k:=k) h;rw [show a+1+i=a+(i+1) by omega] at this;exact this
 | some b::l,a,i+1,k,h=>by
   have:=qlk (l:=l) (a:=a+1) (i:=i) (k:=k) h;rw [show a+1+i=a+(i+1) by omega] at this;exact List.mem_cons_of_mem _ this
theorem qrq:∀ {l:List WkN} {a i j:Nat},j<l.length→(a+j,Th.wkr (i+j))∈qqr a i l
 | c::l,a,i,0,h=>List.mem_cons_self
 | c::l,a,i,j+1,h=>by
   have:=qrq (l:=l) (a:=a+1) (i:=i+1) (j:=j) (by simpa using h);rw [show a+1+j=a+(j+1) by omega,show i+1+j=i+(j+1) by omega] at this;exact List.mem_cons_of_mem _ this
theorem qoc {z:ZT} {X:ST} {i:Nat} (hX:qjj X z.k z.x i):qbc (.thn X (.shards1 i)) z=false→(∃ d,X=.at (some .lock) (.one2 d))∨(∃ n d,X=.thn (.at (some (.ready i)) (.pops1 n)) (.one211 d)):=by
 match X,hX with
 | .at (some .lock) (.one2 d),_=>exact fun _=>.inl ⟨d,rfl⟩
 | .at none (.one21 d),_=>intro hm;cases hm
 | .thn (.row1 (.turnA d)) (.one2112 e),_=>intro hm;cases hm
 | .thn (.at (some (.ready j)) (.pops1 n)) (.one211 d),hX =>
   obtain ⟨_,_,rfl,_,_⟩:=hX;exact fun _=>.inr ⟨n,d,rfl⟩
 | .thn (.thn (.at none .rec1) (.pops11 n)) (.one211 d),_=>intro hm;cases hm
 | .thn (.thn (.at none .rec11) (.pops11 n)) (.one211 d),_=>intro hm;cases hm
 | .thn (.thn G (.fires1 d n)) .one21121,hX =>
   obtain ⟨_,_,_,_,hG⟩:=hX;intro hm
   match G,hG,hm with
   | .at none .looks,_,hm=>cases hm
   | .at none .claims,_,hm=>cases hm
   | .thn (.row1 (.put _)) .claims2,_,hm=>cases hm
   | .at none .behind,_,hm=>cases hm
   | .at none (.rearm1 next),_,hm=>cases hm
   | .at none .finishes,_,hm=>cases hm
   | .row2 .rel .drop,_,hm=>cases hm
   | .row1 .drop,_,hm=>cases hm
 | .row1 .unlock,_=>intro hm;cases hm
theorem qqt {z:ZT} {s:ST} (hf:qz3 s z.k z.x) (hd:s≠.nil):qbc s z=false→∃ X i,s=.thn X (.shards1 i)∧z.k.s=some i∧i<z.x.shs.length∧((∃ d,X=.at (some .lock) (.one2 d))∨(∃ n d,X=.thn (.at (some (.ready i)) (.pops1 n)) (.one211 d))):=by
 match s,hf with
 | .nil,_=>exact absurd rfl hd
 | .at none .enter,_=>intro hm;cases hm
 | .at none .gate,_=>intro hm;cases hm
 | .at none .tick,_=>intro hm;cases hm
 | .row2 .leave1 .answer,_=>intro hm;cases hm
 | .row1 .answer,_=>intro hm;cases hm
 | .thn X (.shards1 i),hf =>
   obtain ⟨h1,h2,_,h4⟩:=hf;exact fun hm=>⟨X,i,rfl,h1,h2,qoc h4 hm⟩
theorem qu8 {z:ZS} {s:SS} (hf:q2c s z.k) (hd:s≠.nil):qeq s z=false→s=.at (some .inside) .slots0∨s=.at (some .idle) .waits2:=by
 match s,hf with
 | .nil,_=>exact absurd rfl hd
 | .at none .shuts,_=>intro hm;cases hm
 | .at (some .inside) .slots0,_=>exact fun _=>.inl rfl
 | .at (some .idle) .waits2,_=>exact fun _=>.inr rfl
 | .row1 .ends1,_=>intro hm;cases hm
 | .thn (.row1 .pshut) .waits,_=>intro hm;cases hm
 | .thn (.at none (.looks1 i)) (.slots2 j),_=>intro hm;cases hm
 | .thn (.at none (.leaves0 i)) (.slots2 j),_=>intro hm;cases hm
 | .thn (.row2 (.release _) .drop) (.slots2 j),_=>intro hm;cases hm
 | .thn (.row1 .drop) (.slots2 j),_=>intro hm;cases hm
theorem qsp (hn:SvN N S) (h:Yi S) (hs:∀ t∈S.ths,t.2.may S=false):(∀ (a:Nat) (j:qg),S.all[a]?=some j→j.w.done=true)∧(∀ c∈S.crew,c.k.holds=[])∧S.z.p.ch=[]∧S.z.p.sp=[]:=by
 have hjob:∀ (a:Nat) (j:qg),S.all[a]?=some j→j.w.done=false→j.w.may S.z=false:=fun a j ha hd=>by
  obtain ⟨i,hi⟩:=h.own a j ha hd;have:=hs _ (List.mem_append_left _ (qlk (a:=0) hi));have e:S.jobAt a=j:=by unfold SvS.jobAt;rw [List.getD_eq_getElem?_getD,ha];rfl
  rw [← e];exact this
 have hcalls:∀ (a:Nat) (j:qg) s k,S.all[a]?=some j→j.w=.call s k→s=.nil:=fun a j s k ha hj=>by
  refine Classical.byContradiction fun hne=>?_
  have hd:s.isNil=false:=by cases s with
   | nil=>exact absurd rfl hne
   | _=>rfl
  have:=hjob a j ha (by rw [hj];exact hd);rw [hj] at this;have:(!s.isNil)=false:=this;rw [hd] at this;cases this
 have hwk:∀ (i:Nat) (c:WkN),S.crew[i]?=some c→c.may S.z=false:=fun i c hc=>by
  have hl:=(List.getElem?_eq_some_iff.1 hc).1;have:=hs _ (List.mem_append_right _ (qrq (a:=S.own.length) (i:=0) hl));have e:S.wkrAt (0+i)=c:=by unfold SvS.wkrAt;rw [Nat.zero_add,List.getD_eq_getElem?_getD,hc];rfl
  rw [← e];exact this
 have hcrew:∀ c∈S.crew,c.k.holds=[]∧¬ (0<(S.z.p.ch.length:Int)+S.z.p.sp.length):=fun c hc=>by
  obtain ⟨i,hi⟩:=List.mem_iff_getElem?.1 hc;have hm:=hwk i c hi;obtain ⟨wb,s,n,k⟩:=c;rcases (hn.crew _ hc).fit with ⟨h1,h2⟩ | ⟨h1,h2⟩
  ·obtain rfl:s=Yj:=h1
   have hm:decide (0<(S.z.p.ch.length:Int)+S.z.p.sp.length)=false:=hm;exact ⟨h2,by simpa using hm⟩
  ·obtain rfl:s=.thn (.row1 .puts) .takes:=h1
   cases hm
 obtain ⟨c0,hc0⟩:∃ c,c∈S.crew:=by
  have:=h.crew;cases hcr:S.crew with
  | nil=>rw [hcr] at this;simp at this
  | cons c l=>exact ⟨c,List.mem_cons_self⟩
 have hpipe:=(hcrew c0 hc0).2;have hch:S.z.p.ch=[]:=List.eq_nil_of_length_eq_zero (by omega);have hsp:S.z.p.sp=[]:=List.eq_nil_of_length_eq_zero (by omega)
 have hbusy:S.z.x.f.busy=0:=by
  rw [h.busy];exact qbq (fun c hc=>by rw [(hcrew c hc).1];rfl)
 -- no turn waits
 have hturns:∀ (a:Nat) (j:qg) s k,S.all[a]?=some j→j.w=.turn s k→s=.nil:=fun a j s k ha hj=>by
  refine Classical.byContradiction fun hne=>?_
  have hd:s.isNil=false:=by cases s with
   | nil=>exact absurd rfl hne
   | _=>rfl
  have hm:=hjob a j ha (by rw [hj];exact hd);have hgo:=h.go a j ha;have hw:=qny hn h ha hj hd;obtain ⟨hjn,_,_⟩:=hn.jobs _ (List.mem_of_getElem? ha);rw [hj] at hm hgo hjn;have hf:=hjn.fit;have hth:=hjn.wk.th;have hm:qbc s ⟨k,S.z.x,S.z.ws,S.z.p⟩=false:=hm;obtain ⟨X,i,rfl,hks,hil,hor⟩:=qqt (z:=⟨k,S.z.x,S.z.ws,S.z.p⟩) hf hne hm;rcases hor with ⟨d,rfl⟩ | ⟨n,d,rfl⟩
  ·have h0:∀ j,(S.z.x.shs.getD j (Qp 1)).who=0:=fun j=>Classical.byContradiction fun e=>(hw j e).1
   have hm:(decide (0≤k.th) && ((S.z.x.shs.getD (k.s.getD 0) (Qp 1)).who == 0))=false:=hm;rw [h0] at hm;simp [hth] at hm
  ·have hil:i<S.z.x.shs.length:=hil
   have hm:(S.z.x.shs.getD i (Qp 1)).ring.ready=false:=hm;obtain ⟨hn1,hp⟩:=(show 1≤n∧qqp n i S.z.x from hgo);have hget:S.z.x.shs[i]?=some (S.z.x.shs[i]):=List.getElem?_eq_getElem hil;have hrg:S.z.x.rg i=some (S.z.x.shs[i]).ring:=by unfold Qj.rg;rw [hget];rfl
   rw [List.getD_eq_getElem?_getD,hget] at hm;simp only [Option.getD_some] at hm;have hpp:=hp _ hrg;rcases h.rg.cov i _ _ hrg (Int.le_refl _) (by omega) with e | ⟨b,t,hb,hc,_⟩
   ·have:((S.z.x.shs[i]).ring.ready)=true:=by unfold Qs.ready;rw [e];simp
    rw [this] at hm;cases hm
   ·rw [List.getElem?_map] at hb
    obtain ⟨jb,hjb,htk⟩:=Option.map_eq_some_iff.1 hb;cases hwb:jb.w with
    | call s2 k2 =>
      rw [hwb] at htk;have htk:k2.tk=some (i,t):=htk;have hnil:=hcalls b jb s2 k2 hjb hwb;subst hnil;have hg2:=h.go b jb hjb;rw [hwb] at hg2;exact (show zq k2 from hg2.2) i t htk hc
    | turn s2 k2=>rw [hwb] at htk;cases htk
    | clo s2 k2=>rw [hwb] at htk;cases htk
 have hins:S.z.x.f.inside=0:=by
  rw [h.ins];refine qbq (fun j hj=>?_)
  obtain ⟨a,ha⟩:=List.mem_iff_getElem?.1 hj;cases hw:j.w with
  | call s k=>rw [hcalls a j s k ha hw];rfl
  | turn s k=>rw [hturns a j s k ha hw];rfl
  | clo s k=>rfl
 refine ⟨fun a j ha=>?_,fun c hc=>(hcrew c hc).1,hch,hsp⟩
 cases hw:j.w with
 | call s k=>rw [hcalls a j s k ha hw];rfl
 | turn s k=>rw [hturns a j s k ha hw];rfl
 | clo s k =>
   refine Classical.byContradiction fun hne=>?_
   have hne':¬ (s.isNil=true):=hne;have hd:s.isNil=false:=by simpa using hne'
   have hm:=hjob a j ha (by rw [hw];exact hd);have hgo:=h.go a j ha;obtain ⟨hjn,_,_⟩:=hn.jobs _ (List.mem_of_getElem? ha);rw [hw] at hm hgo hjn;have hm:qeq s ⟨k,S.z.x,S.z.p⟩=false:=hm;have hf:=hjn.fit;rcases qu8 (z:=⟨k,S.z.x,S.z.p⟩) hf (fun e=>by rw [e] at hd;cases hd) hm with rfl | rfl
   ·have hm:(S.z.x.f.inside == 0)=false:=hm
    rw [hins] at hm;cases hm
   ·have hm:(S.z.p.shut && decide (S.z.p.ch=[]) && (S.z.x.f.busy == 0))=false:=hm
    have hgo:S.z.p.shut=true:=hgo;rw [hgo,hch,hbusy] at hm;cases hm
theorem goes (hn:SvN N S) (h:Yi S):S.idle=decide (S.mays.length=0):=by
 have hmem:S.mays.length=0↔∀ t∈S.ths,t.2.may S=false:=by
  unfold SvS.mays;rw [List.length_map,List.length_eq_zero_iff,List.filter_eq_nil_iff];exact ⟨fun e t ht=>by simpa using e t ht,fun e t ht=>by simp [e t ht]⟩
 by_cases hs:∀ t∈S.ths,t.2.may S=false
 ·rw [decide_eq_true (hmem.2 hs)]
  obtain ⟨h1,h2,h3,h4⟩:=qsp hn h hs
  have hb:S.busyB=false:=by
   unfold SvS.busyB;rw [List.any_eq_false];intro o ho;cases o with
   | none=>simp [qg0]
   | some a =>
     have:=h1 a _ (Xu (hn.own a ho));simp [qg0,this]
  unfold SvS.idle Ye X0;rw [hb,h3,h4];simp only [Bool.not_false,Bool.true_and,List.length_nil,Bool.and_eq_true,decide_eq_true_eq];exact ⟨List.all_eq_true.2 fun c hc=>by rw [h2 c hc];rfl,by decide⟩
 ·have hne:¬ S.mays.length=0:=fun e=>hs (hmem.1 e)
  rw [decide_eq_false hne];refine Classical.byContradiction fun hi=>hs (fun t ht=>?_)
  have hi:S.idle=true:=by simpa using hi
  unfold SvS.idle Ye at hi;simp only [Bool.and_eq_true,Bool.not_eq_true',decide_eq_true_eq] at hi;obtain ⟨hb,hh,hp⟩:=hi;rcases List.mem_append.1 ht with ht | ht
  ·obtain ⟨k,e1,e2,_⟩:=qdz _ _ _ ht
   rw [e1]
   have hd:(S.jobAt k).w.done=true:=by
    unfold SvS.busyB at hb;have:=List.any_eq_false.1 hb _ e2;simpa [qg0] using this
   cases hm:Th.may S (.job k) with
   | false=>rfl
   | true=>have:=Yd (show (S.jobAt k).w.may S.z=true from hm);rw [hd] at this;cases this
  ·obtain ⟨j,e1,_,e3⟩:=qhf _ _ _ _ ht
   rw [e1];have hc:=Yy (S:=S) (a:=0+j) (by omega);have hcn:=hn.crew _ (List.mem_of_getElem? hc);have hho:=List.all_eq_true.1 hh _ (List.mem_of_getElem? hc)
   show (S.wkrAt (0+j)).may S.z=false
   generalize S.wkrAt (0+j)=c at hcn hho;obtain ⟨wb,s,n,k⟩:=c;rcases hcn.fit with ⟨h1,h2⟩ | ⟨h1,h2⟩
   ·obtain rfl:s=Yj:=h1
    show decide (0<(S.z.p.ch.length:Int)+S.z.p.sp.length)=false
    simp only [decide_eq_false_iff_not];omega
   ·have h2:k.holds.length=1:=h2
    have hho:k.holds.isEmpty=true:=hho;rw [List.isEmpty_iff] at hho;rw [hho] at h2;cases h2
end
theorem qvq {N:Nat} {S:SvS} (hn:SvN N S):SvN N S.bare:=by
 refine ⟨hn.glo,fun j hj=>?_,fun c hc=>?_,fun k hk=>?_,hn.ol,?_,?_,fun a j ha ht hd=>?_⟩
 ·obtain ⟨j0,h0,rfl⟩:=List.mem_map.1 hj
  exact hn.jobs j0 h0
 ·obtain ⟨c0,h0,rfl⟩:=List.mem_map.1 hc
  have:=hn.crew c0 h0;exact ⟨this.fit,this.worked,this.n⟩
 ·show k<(S.all.map qg.bare).length
  rw [List.length_map];exact hn.own k hk
 ·show (S.crew.map WkN.bare).length≤1000
  rw [List.length_map];exact hn.cl
 ·show (S.all.map qg.bare).length≤N
  rw [List.length_map];exact hn.al
 ·have ha:(S.all.map qg.bare)[a]?=some j:=ha
  rw [List.getElem?_map] at ha;obtain ⟨j0,h0,rfl⟩:=Option.map_eq_some_iff.1 ha;exact hn.turn a j0 h0 ht hd
theorem qux {N:Nat} {L:Lay} {sb:Nat} {B:SvS} {g:List Blk} (h:isB N L sb B g):SvN N B:=by
 obtain ⟨S,rfl,hn,_⟩:=h;exact qvq hn
section
variable {N:Nat} {B:SvS}
theorem qok (hn:SvN N B) (h:Yi B) (kb:Nat) (th:Int) (c:Qr):Yi (B.callS kb th c):=by
 unfold SvS.callS;split
 ·next e=>exact qu3 hn h (qnp e) kb
 ·exact h
theorem qf1 (hn:SvN N B) (h:Yi B) (hN:N<999998) (i:Int):Yi (B.stepS i).1:=by
 unfold SvS.stepS;split
 ·exact h
 ·split
  ·next t ht =>
   have h1:=List.mem_of_find?_eq_some ht;have h2:=List.find?_some ht;simp only [Bool.and_eq_true] at h2;exact qwc hn h (qa2 hn h1) hN h2.2
  ·exact h
theorem qpw (hn:SvN N B) (h:Yi B) (hN:N<999998) (k:Int):Yi (B.pickS k).1:=by
 unfold SvS.pickS;split
 ·exact h
 ·exact qf1 hn h hN _
end
def itP:Nat→SvS→SvS
 | 0,S=>S
 | n+1,S=>itP n (S.pickS 0).1
theorem qgx:∀ (j:Nat) (S:SvS),itP (j+1) S=((itP j S).pickS 0).1
 | 0,_=>rfl
 | j+1,S=>by rw [itP,qgx j];rfl
def qs6:Nat→SvS→Bool
 | 0,S=>S.idle
 | n+1,S=>!S.idle && qs6 n (S.pickS 0).1
theorem qg9:∀ {n:Nat} {S:SvS},qs6 n S=true→(∀ j,j<n→(itP j S).idle=false)∧(itP n S).idle=true
 | 0,S,h=>⟨fun j hj=>by omega,h⟩
 | n+1,S,h=>by
   simp only [qs6,Bool.and_eq_true,Bool.not_eq_true'] at h;obtain ⟨h1,h2⟩:=qg9 h.2;refine ⟨fun j hj=>?_,h2⟩
   cases j with
   | zero=>exact h.1
   | succ j=>exact h1 j (by omega)
def qur:Cfg:=⟨1,1,1,1,1,1⟩
def exA:SvS:=(qyt qur).callS 0 0 ⟨1,0,1,0⟩
def exB:SvS:=itP 13 exA
def exC:SvS:=exB.callS 0 1 ⟨7,0,0,0⟩
def exD:SvS:=itP 21 exC
theorem qm3:(qyt qur).callE 0 ⟨1,0,1,0⟩=0∧(qyt qur).callNo 0 ⟨1,0,1,0⟩=1:=⟨by kernel_rfl,by kernel_rfl⟩
theorem qv6:qs6 13 exA=true:=by kernel_rfl
theorem qnc:exB.callE 1 ⟨7,0,0,0⟩=0∧exB.callNo 1 ⟨7,0,0,0⟩=2:=⟨by kernel_rfl,by kernel_rfl⟩
theorem qvj:qs6 21 exC=true:=by kernel_rfl
theorem q1s:exD.z.lg=[⟨64,1,1,1⟩]:=by kernel_rfl
theorem qrk:Qa prog 10 #[] [] fun e gs=>e=.returned (.bool true)∧gs=[]:=by
 have HN:=Vh (bNew qur (by decide));obtain ⟨hr1,hr1'⟩:=qg9 qv6;obtain ⟨hr2,hr2'⟩:=qg9 qvj;have HR1:=Vh (And.intro hr1 hr1');have HR2:=Vh (And.intro hr2 hr2');clear hr1 hr2 hr1' hr2';refine GO fun w HT=>?_
 go_enter func10,ntmps10
 go_wp2_with fail
 refine Qa.run (HN.out) (HT.out) [] ?_
 rintro e w1 gs ⟨L,sb,g,rfl,hb,rfl⟩ HT;simp only [PU] at HT;have hc:=qy9 hb (by decide) 0 ⟨1,0,1,0⟩ ⟨by decide,by decide,by decide⟩;rw [qm3.1,qm3.2] at hc;have HC:=Vh hc;clear hb hc;go_wp2_with fail
 refine Qa.run (HC.out) (HT.out) [0] ?_
 rintro e w1 gs ⟨g1,rfl,hb,rfl⟩ HT;simp only [PU] at HT;have HB:=Vh (show isB 1 L sb exA g1 from hb);clear hb;go_wp2_with fail
 go_loopw [5] (fun i wr=>∃ (j:Nat) (g2:List Blk),j≤13∧i=.int .i64 j∧isB (1+j) L sb (itP j exA) g2∧TG [] w [g2] wr) (fun i _=>100 - (intOf i).toNat)
 case atStart=>exact ⟨0,g1,Nat.zero_le _,rfl,HB.out,HT.out⟩
 case round =>
  obtain ⟨j,g2,hj,rfl,hb,T⟩:=hrel;clear HB;have HT:=Vh T;have hid:=qtu hb (by omega);clear T;by_cases hlt:j<13
  ·rw [HR1.out.1 j hlt] at hid
   have HI:=Vh hid;clear hid hb;go_wp2_with fail
   refine Qa.run (HI.out) (HT.out) [0] ?_
   rintro e w1 gs ⟨g3,rfl,hb,rfl⟩ HT;simp only [PU] at HT;have hpk:=qzr hb (by omega) 0;rw [← qgx] at hpk;have HP:=Vh hpk;clear hpk hb;go_wp2_with fail
   refine Qa.run (HP.out) (HT.out) [0] ?_
   rintro e w1 gs ⟨g4,rfl,hb,rfl⟩ HT;simp only [PU] at HT;have HB:=Vh hb;clear hb;go_wp2
   first
   | (go_roundw
      case rel=>exact ⟨j+1,g4,by omega,by go_num,HB.out,HT.out⟩
      case measure=>simp [intOf];omega)
   | exact ⟨⟨j+1,g4,by omega,by go_num,HB.out,HT.out⟩,by simp [intOf];omega⟩
   | ((repeat apply Exists.intro);exact ⟨⟨⟨j+1,g4,by omega,by go_num,HB.out,HT.out⟩,rfl⟩,by simp [intOf];omega⟩)
  ·obtain rfl:j=13:=by omega
   rw [HR1.out.2] at hid;have HI:=Vh hid;clear hid hb;go_wp2_with fail
   refine Qa.run (HI.out) (HT.out) [0] ?_
   rintro e w1 gs ⟨g3,rfl,hb,rfl⟩ HT;simp only [PU] at HT;have hc:=qy9 (B:=exB) hb (by omega) 1 ⟨7,0,0,0⟩ ⟨by decide,by decide,by decide⟩;rw [qnc.1,qnc.2] at hc;have HC:=Vh hc;clear hb hc;go_wp2_with fail
   refine Qa.run (HC.out) (HT.out) [0] ?_
   rintro e w1 gs ⟨g1,rfl,hb,rfl⟩ HT;simp only [PU] at HT;have HB:=Vh (show isB 15 L sb exC g1 from hb);clear hb;go_wp2_with fail
   go_loopw [8] (fun i wr=>∃ (j:Nat) (g2:List Blk),j≤21∧i=.int .i64 j∧isB (15+j) L sb (itP j exC) g2∧TG [] w [g2] wr) (fun i _=>100 - (intOf i).toNat)
   case atStart=>exact ⟨0,g1,Nat.zero_le _,rfl,HB.out,HT.out⟩
   case round =>
    obtain ⟨j,g2,hj,rfl,hb,T⟩:=hrel;clear HB;have HT:=Vh T;have hid:=qtu hb (by omega);clear T;by_cases hlt:j<21
    ·rw [HR2.out.1 j hlt] at hid
     have HI:=Vh hid;clear hid hb;go_wp2_with fail
     refine Qa.run (HI.out) (HT.out) [0] ?_
     rintro e w1 gs ⟨g3,rfl,hb,rfl⟩ HT;simp only [PU] at HT;have hpk:=qzr hb (by omega) 0;rw [← qgx] at hpk;have HP:=Vh hpk;clear hpk hb;go_wp2_with fail
     refine Qa.run (HP.out) (HT.out) [0] ?_
     rintro e w1 gs ⟨g4,rfl,hb,rfl⟩ HT;simp only [PU] at HT;have HB:=Vh hb;clear hb;go_wp2
     first
     | (go_roundw
        case rel=>exact ⟨j+1,g4,by omega,by go_num,HB.out,HT.out⟩
        case measure=>simp [intOf];omega)
     | exact ⟨⟨j+1,g4,by omega,by go_num,HB.out,HT.out⟩,by simp [intOf];omega⟩
     | ((repeat apply Exists.intro);exact ⟨⟨⟨j+1,g4,by omega,by go_num,HB.out,HT.out⟩,rfl⟩,by simp [intOf];omega⟩)
    ·obtain rfl:j=21:=by omega
     rw [HR2.out.2] at hid;have HI:=Vh hid;clear hid hb;go_wp2_with fail
     refine Qa.run (HI.out) (HT.out) [0] ?_
     rintro e w1 gs ⟨g3,rfl,hb,rfl⟩ HT;simp only [PU] at HT;have hl:=bLog (B:=exD) hb (by omega);rw [q1s] at hl;have HL:=Vh hl;clear hb hl;go_wp2_with fail
     refine Qa.run (HL.out) (HT.out) [0] ?_
     rintro e w1 gs ⟨v,gv,g5,rfl,hr,hb,rfl⟩ HT;simp only [PU] at HT;obtain ⟨av,cap,hv⟩:=Qu.val hr;subst hv;have HR:=Vh hr;clear hr hb;generalize w1=wb at HT ⊢;have HT:=Vh (HT.out.alloc (k:=wb.heap.size) rfl 82 #[.int .u64 64,.int .u64 1,.int .u64 1,.int .u64 1]);have HLIT:=Vh (qms 82 4 wb.heap.size 1 1 #[.int .u64 64,.int .u64 1,.int .u64 1,.int .u64 1] (Nat.le_refl _) (by decide) rfl);go_wp2_with fail
     refine (Qe.use (qx3 (l:=[⟨64,1,1,1⟩]) HR.out HLIT.out (by decide)) HT.out [1,2] rfl rfl).mono ?_
     rintro e w2 ⟨rfl,mq2,rfl⟩;have HT:=Vh (HT.out.drewN mq2);generalize World.drewN _ _=wc at HT ⊢;go_wp2
     go_ret
     exact ⟨[],⟨rfl,rfl⟩,HT.out.pick [] rfl⟩
def qgr (a b:Int):Cfg:=⟨1+max 0 a % 4,1+max 0 b % 12,1+max 0 b % 7,1+max 0 b % 3,1+max 0 b % 4,4⟩
theorem qjd (a b:Int):(qgr a b).ok=true:=by
 unfold Cfg.ok qgr;simp only [Cfg.fine,Cfg.pair,Bool.and_eq_true,decide_eq_true_eq];omega
theorem qya (a b:Int) (ha:0≤a∧a≤1000000) (hb:0≤b∧b≤1000000):Qa prog 13 #[.int .i64 a,.int .i64 b] [] fun e gs=>e=.returned (.agg (qgr a b).cells)∧gs=[]:=by
 have e1:max 0 a=a:=by omega
 have e2:max 0 b=b:=by omega
 unfold qgr;rw [e1,e2];simp only [Cfg.cells];have h1:0≤a % 4∧a % 4<4:=by omega
 have h2:0≤b % 12∧b % 12<12:=by omega
 have h3:0≤b % 7∧b % 7<7:=by omega
 have h4:0≤b % 3∧b % 3<3:=by omega
 have h5:0≤b % 4∧b % 4<4:=by omega
 refine GO fun w HT=>?_
 go_enter func13,ntmps13
 go_wp2_with fail
 have HT2:=Vh (HT.out.alloc (k:=w.heap.size) rfl 28 #[.int .i64 (1+a % 4),.int .i64 (1+b % 12),.int .i64 (1+b % 7),.int .i64 (1+b % 3),.int .i64 (1+b % 4),.int .i64 4]);obtain ⟨r0,r1,r2,r3,r4,r5⟩:=Ce6 (HT2.out.cell 0 0 rfl) 0 1 2 3 4 5;simp only [GE4] at r0 r1 r2 r3 r4 r5;exact bodyPost_ret (v:=.agg #[.int .i64 (1+a % 4),.int .i64 (1+b % 12),.int .i64 (1+b % 7),.int .i64 (1+b % 3),.int .i64 (1+b % 4),.int .i64 4]) (by simp [results,results13,go_sem,r0,r1,r2,r3,r4,r5]) rfl ⟨_,⟨rfl,rfl⟩,HT2.out.pick [] rfl⟩
theorem q0x (c:Cfg) (hk:c.ok=true):Qa prog 12 #[.agg c.cells,.slice none 0 0] [] fun e gs =>
 ∃ L sb g,e=.returned (Qb sb)∧isB 0 L sb (qyt c) g∧gs=[g]:=by
 have HN:=Vh (bNew c hk);obtain ⟨sh,cap,ring,room,wk,cli⟩:=c;refine GO fun w HT=>?_
 clear hk;simp only [Cfg.cells] at HN ⊢;go_enter func12,ntmps12
 go_wp2_with fail
 refine Qa.run (HN.out) (HT.out.alloc0 _) [] ?_
 rintro e w1 gs ⟨L,sb,g,rfl,hb,rfl⟩ HT;simp only [PU] at HT;have HB:=Vh hb;clear hb;go_wp2_with fail
 have T1:=HT.out
 go_loopw [7] (fun i wr=>i=.int .i64 0∧TG [] w [g] wr) (fun i _=>1)
 case atStart=>exact ⟨rfl,T1⟩
 case round =>
  obtain ⟨rfl,T⟩:=hrel;have HT:=Vh T;clear T T1;go_wp2
  go_ret
  exact ⟨_,⟨L,sb,g,rfl,HB.out,rfl⟩,HT.out⟩
end
end Go.Proofs.YtikpbibeagbccaaGreat
