import Derived.Test.YtikpbibeagbccaaGreatGV32
import Derived.Test.YtikpbibeagbccaaGreatGV25
import Derived.Test.YtikpbibeagbccaaGreatGV23
import Derived.Test.YtikpbibeagbccaaGreatGV14
import Derived.Test.YtikpbibeagbccaaGreatGV16
import Derived.Test.YtikpbibeagbccaaGreatGV28
import Derived.Deep.LoopGhost
import Derived.Conc.LoneCalls
set_option maxRecDepth 100000
set_option maxHeartbeats 4000000
namespace Go.Proofs.YtikpbibeagbccaaGreat
set_option linter.unusedVariables false
set_option linter.unusedSimpArgs false
open Go.Proofs.Tryz
section
open Go.RowKit Go.Shelf
theorem qh0 (L:Lay) (kb:Nat) (pv:Value):(qh8 L kb pv).Ok where
 refl:=leT.refl
 trans h1 h2:=h1.trans h2
 mm hl h:=VMT.le hl h
 ma hl h:=VAT.le hl h
 v e:=Qx L kb pv e
 m {e f v g gK gF z} hv hz hp:=by
   obtain ⟨k,x,ws,p⟩:=z;obtain ⟨rfl,hv⟩:=hv;cases f with
   | enter=>subst hv;exact ⟨_,_,_,rfl,fun _ _=>rfl,(q0r hz hp).pre rfl⟩
   | gate=>subst hv;exact ⟨_,_,_,rfl,fun _ _=>rfl,(q3d hz hp).pre rfl⟩
   | tick=>subst hv;exact ⟨_,_,_,rfl,fun _ _=>rfl,(q29 hz hp).pre rfl⟩
   | shards1 i=>obtain ⟨bk,bi,rfl,hb,hbi⟩:=hv;exact ⟨_,_,_,rfl,fun _ _=>rfl,(qu9 i hz hp bk bi hb hbi).pre rfl⟩
   | one2 d=>obtain ⟨bk,bd,rfl,hb,hbd⟩:=hv;exact ⟨_,_,_,rfl,fun _ _=>rfl,(q2s d hz hp bk bd hb hbd).pre rfl⟩
   | one21 d=>obtain ⟨bk,bd,rfl,hb,hbd⟩:=hv;exact ⟨_,_,_,rfl,fun _ _=>rfl,(q1e d hz hp bk bd hb hbd).pre rfl⟩
   | one211 d=>obtain ⟨bk,bd,rfl,hb,hbd⟩:=hv;exact ⟨_,_,_,rfl,fun _ _=>rfl,(qq0 d hz bk bd hb hbd).pre rfl⟩
   | one2112 d=>obtain ⟨bk,bd,rfl,hb,hbd⟩:=hv;exact ⟨_,_,_,rfl,fun _ _=>rfl,(qup d hz hp bk bd hb hbd).pre rfl⟩
   | one21121=>obtain ⟨bk,rfl,hb⟩:=hv;exact ⟨_,_,_,rfl,fun _ _=>rfl,(qjc hz bk hb).pre rfl⟩
   | pops1 n=>obtain ⟨bk,bi,rfl,hb,hbi⟩:=hv;exact ⟨_,_,_,rfl,fun _ _=>rfl,(q1m n hz hp bk bi hb hbi).pre rfl⟩
   | pops11 n=>obtain ⟨bk,bi,rfl,hb,hbi⟩:=hv;exact ⟨_,_,_,rfl,fun _ _=>rfl,(qtn n hz hp.1 hp.2.1 hp.2.2 bk bi hb hbi).pre rfl⟩
   | rec1=>obtain ⟨bk,rfl,hb⟩:=hv;exact ⟨_,_,_,rfl,fun _ _=>rfl,(q22 hz hp bk hb).pre rfl⟩
   | rec11=>obtain ⟨bk,rfl,hb⟩:=hv;exact ⟨_,_,_,rfl,fun _ _=>rfl,(qz8 hz hp bk hb).pre rfl⟩
   | fires1 d i=>obtain ⟨bk,bp,bi,bd,rfl,hb,hbd,hbp,hbi⟩:=hv;exact ⟨_,_,_,rfl,fun _ _=>rfl,(qzu d i hz hp bk bp bi bd hb hbd hbp hbi).pre rfl⟩
   | looks=>subst hv;exact ⟨_,_,_,rfl,fun _ _=>rfl,(q17 hz hp).pre rfl⟩
   | claims=>subst hv;exact ⟨_,_,_,rfl,fun _ _=>rfl,(qx9 hz hp).pre rfl⟩
   | claims2=>obtain ⟨bk,rfl,hb⟩:=hv;exact ⟨_,_,_,rfl,fun _ _=>rfl,(qv9 hz bk hb).pre rfl⟩
   | behind=>subst hv;exact ⟨_,_,_,rfl,fun _ _=>rfl,(qx4 hz hp).pre rfl⟩
   | rearm1 next=>obtain ⟨bk,bn,rfl,hb,hbn⟩:=hv;exact ⟨_,_,_,rfl,fun _ _=>rfl,(qx0 next hz hp bk bn hb hbn).pre rfl⟩
   | finishes=>subst hv;exact ⟨_,_,_,rfl,fun _ _=>rfl,(qr7 hz hp).pre rfl⟩
 a {e f v g gK gF z} hv hz hp:=by
   obtain ⟨k,x,ws,p⟩:=z;obtain ⟨rfl,hv⟩:=hv;cases f with
   | leave1=>obtain ⟨bk,rfl,hb⟩:=hv;exact ⟨_,_,_,rfl,fun _ _=>rfl,(qzp hz hp bk hb).pre rfl⟩
   | answer=>obtain ⟨bk,rfl,hb⟩:=hv;exact ⟨_,_,_,rfl,fun _ _=>rfl,(qzd hz hp bk hb).pre rfl⟩
   | turnA d=>obtain ⟨bk,bd,rfl,hb,hbd⟩:=hv;exact ⟨_,_,_,rfl,fun _ _=>rfl,(q0y d hz hp bk bd hb hbd).pre rfl⟩
   | unlock=>obtain ⟨bk,rfl,hb⟩:=hv;exact ⟨_,_,_,rfl,fun _ _=>rfl,(qx8 hz hp bk hb).pre rfl⟩
   | put f=>obtain ⟨bk,bf,rfl,hb,hbf⟩:=hv;exact ⟨_,_,_,rfl,fun _ _=>rfl,(aPut f hz hp bk bf hb hbf).pre rfl⟩
   | rel=>obtain ⟨bk,rfl,hb⟩:=hv;exact ⟨_,_,_,rfl,fun _ _=>rfl,(q2v hz hp bk hb).pre rfl⟩
   | drop=>obtain ⟨bk,rfl,hb⟩:=hv;exact ⟨_,_,_,rfl,fun _ _=>rfl,(q1y hz hp bk hb).pre rfl⟩
 y {e f v g gK gF z} hv hz hp:=by
   obtain ⟨k,x,ws,p⟩:=z;obtain ⟨rfl,hv⟩:=hv;cases f with
   | lock=>obtain ⟨bk,rfl,hb⟩:=hv;exact ⟨_,_,_,rfl,fun _ _=>rfl,((q2z hz hp bk hb).pre rfl).post (by rintro e gs ⟨gK',gF',h1,h2,rfl⟩;exact ⟨_,⟨gK',gF',h1,h2,rfl⟩,.refl _⟩)⟩
   | ready i=>obtain ⟨q,hq,rfl⟩:=hv;exact ⟨_,_,_,rfl,fun _ _=>rfl,((q0v i hz hp hq).pre rfl).post (by rintro e gs ⟨gK',gF',h1,h2,rfl⟩;exact ⟨_,⟨gK',gF',h1,h2,rfl⟩,.refl _⟩)⟩
def isTK (L:Lay) (kb:Nat) (pv:Value) (e:ET) (k:Xf) (gK:List Blk):Prop:=∃ gd,qhe e.2 k gd∧gK=Qi kb L.fb pv (Qw L k) k++(gd++e.1)
def qn6 (L:Lay) (x:Qj) (ws:List Qg) (p:Qy) (gF:List Blk):Prop:=∃ gC gW gP,Qf L x gC∧Z8 L ws gW∧Xs L.p.pb p gP∧gF=gC++(gW++gP)
theorem qau {L:Lay} {kb:Nat} {pv:Value} {e:ET} {gK gF:List Blk} {z:ZT}:Y0 L kb pv e z gK gF↔isTK L kb pv e z.k gK∧qn6 L z.x z.ws z.p gF :=
 ⟨fun ⟨gd,gC,gW,gP,a,b,c,d,h,i⟩=>⟨⟨gd,a,h⟩,⟨gC,gW,gP,b,c,d,i⟩⟩,fun ⟨⟨gd,a,h⟩,⟨gC,gW,gP,b,c,d,i⟩⟩=>⟨gd,gC,gW,gP,a,b,c,d,h,i⟩⟩
def isTurn (L:Lay) (kb:Nat) (s:ST) (n:Int) (k:Xf) (g:List Blk):Prop :=
 ∃ (pb:Nat) (e:ET) (m d:Value) (gst gK:List Blk),(qh8 L kb (Qb pb)).SV e s m d gst∧isTK L kb (Qb pb) e k gK∧g=Cli.progB pb m d n++(gst++gK)
def Xp (s:ST) (z:ZT):ST × ZT:=St.run runT Xv s z
def q1b (s:ST) (z:ZT):Prop:=St.pre runT Xv qe0 qfp s z
def qbc (s:ST) (z:ZT):Bool:=s.may qqj z
def qmr (s:ST) (z:ZT):Prop:=St.preY qvf s z
section
variable {L:Lay} {x:Qj} {ws:List Qg} {p:Qy} {g gF:List Blk} {kb:Nat} {s:ST} {n:Int} {k:Xf}
theorem qvy (hc:isTurn L kb s n k g) (hx:qn6 L x ws p gF) (hy:qmr s ⟨k,x,ws,p⟩) (hm:qbc s ⟨k,x,ws,p⟩=true) (hp:q1b s ⟨k,x,ws,p⟩) (hb:0≤n∧n≤1000000000) :
 Qa prog 329 #[Qb kb] [g,gF] fun en gs=>∃ g' gF',en=.returned (.bool true)∧isTurn L kb (Xp s ⟨k,x,ws,p⟩).1 (n+1) (Xp s ⟨k,x,ws,p⟩).2.k g'∧qn6 L (Xp s ⟨k,x,ws,p⟩).2.x (Xp s ⟨k,x,ws,p⟩).2.ws (Xp s ⟨k,x,ws,p⟩).2.p gF'∧gs=[g',gF']:=by
 obtain ⟨pb,e,m,d,gst,gK,hs,hk,rfl⟩:=hc;have hd:=qgl.prog_step (n:=n) (qh0 L kb (Qb pb)) hs (x:=(⟨k,x,ws,p⟩:ZT)) (qau.2 ⟨hk,hx⟩) hy hp pb hb hm;obtain ⟨gd,hl,rfl⟩:=hk;refine GO fun w HT=>?_
 have T1:=HT.out.sum (H':=[Qi kb L.fb (Qb pb) (Qw L k) k,Cli.progB pb m d n++(gst++(gd++e.1)),gF]);have k8:=T1.cell 0 0 rfl 8;simp only [Q9,GE3] at k8;have lt:=T1.lt 0 0 rfl;simp only [] at lt;have HD:=Vh hd;have HT:=Vh (HT.out.sum (H':=[Cli.progB pb m d n,gst,Qi kb L.fb (Qb pb) (Qw L k) k++(gd++e.1),gF]));clear hs hl hx hy hm hp hb hd T1;go_enter func329,ntmps329
 go_wp2_with fail
 refine (Qa.use (HD.out) (HT.out) [0,1,2,3] rfl rfl).mono ?_
 rintro e w1 ⟨gs,⟨e',hle,m',d',gst',gK',gF',rfl,hs',hx',rfl⟩,Ta⟩;simp only [PU] at Ta;have HS:=Vh hs';have HX:=Vh (qau.1 hx');clear hs' hx' k8;have HT:=Vh Ta;clear Ta;go_wp2
 go_ret
 exact ⟨_,⟨_,gF',rfl,⟨pb,e',m',d',gst',gK',HS.out,HX.out.1,rfl⟩,HX.out.2,rfl⟩,HT.out.sum⟩
theorem q1i (hc:isTurn L kb s n k g) (hx:qn6 L x ws p gF) (hy:qmr s ⟨k,x,ws,p⟩) (hm:qbc s ⟨k,x,ws,p⟩=false) :
 Qa prog 329 #[Qb kb] [g,gF] fun en gs=>en=.returned (.bool false)∧∃ g' gF',isTurn L kb s n k g'∧qn6 L x ws p gF'∧gs=[g',gF']:=by
 obtain ⟨pb,e,m,d,gst,gK,hs,hk,rfl⟩:=hc;have hd:=qgl.prog_step_no (n:=n) (qh0 L kb (Qb pb)) hs (x:=(⟨k,x,ws,p⟩:ZT)) (qau.2 ⟨hk,hx⟩) hy pb hm;obtain ⟨gd,hl,rfl⟩:=hk;refine GO fun w HT=>?_
 have T1:=HT.out.sum (H':=[Qi kb L.fb (Qb pb) (Qw L k) k,Cli.progB pb m d n++(gst++(gd++e.1)),gF]);have k8:=T1.cell 0 0 rfl 8;simp only [Q9,GE3] at k8;have lt:=T1.lt 0 0 rfl;simp only [] at lt;have HD:=Vh hd;have HS:=Vh hs;have HT:=Vh (HT.out.sum (H':=[Cli.progB pb m d n,gst,Qi kb L.fb (Qb pb) (Qw L k) k++(gd++e.1),gF]));clear hs hl hx hy hm hd T1;go_enter func329,ntmps329
 go_wp2_with fail
 refine (Qa.use (HD.out) (HT.out) [0,1,2,3] rfl rfl).mono ?_
 rintro e w1 ⟨gs,⟨gK',gF',rfl,hx',rfl⟩,Ta⟩;simp only [PU] at Ta;have HX:=Vh (qau.1 hx');clear hx' k8;have HT:=Vh Ta;clear Ta;go_wp2
 go_ret
 exact ⟨_,⟨rfl,_,gF',⟨pb,e,m,d,gst,gK',HS.out,HX.out.1,rfl⟩,HX.out.2,rfl⟩,HT.out.sum⟩
theorem qzo (hc:isTurn L kb s n k g) (hx:qn6 L x ws p gF) (hy:qmr s ⟨k,x,ws,p⟩) :
 Qa prog 328 #[Qb kb] [g,gF] fun en gs=>en=.returned (.bool (qbc s ⟨k,x,ws,p⟩))∧∃ g' gF',isTurn L kb s n k g'∧qn6 L x ws p gF'∧gs=[g',gF']:=by
 obtain ⟨pb,e,m,d,gst,gK,hs,hk,rfl⟩:=hc;have hd:=qgl.prog_may (n:=n) (qh0 L kb (Qb pb)) hs (x:=(⟨k,x,ws,p⟩:ZT)) (qau.2 ⟨hk,hx⟩) hy pb;have hd:Qa prog 331 _ _ fun en gs=>∃ gK' gF',en=.returned (.bool (qbc s ⟨k,x,ws,p⟩))∧Y0 L kb (Qb pb) e ⟨k,x,ws,p⟩ gK' gF'∧_:=hd
 generalize qbc s ⟨k,x,ws,p⟩=v at *;obtain ⟨gd,hl,rfl⟩:=hk;refine GO fun w HT=>?_
 have T1:=HT.out.sum (H':=[Qi kb L.fb (Qb pb) (Qw L k) k,Cli.progB pb m d n++(gst++(gd++e.1)),gF]);have k8:=T1.cell 0 0 rfl 8;simp only [Q9,GE3] at k8;have lt:=T1.lt 0 0 rfl;simp only [] at lt;have HD:=Vh hd;have HS:=Vh hs;have HT:=Vh (HT.out.sum (H':=[Cli.progB pb m d n,gst,Qi kb L.fb (Qb pb) (Qw L k) k++(gd++e.1),gF]));clear hs hl hx hy hd T1;go_enter func328,ntmps328
 go_wp2_with fail
 refine (Qa.use (HD.out) (HT.out) [0,1,2,3] rfl rfl).mono ?_
 rintro e w1 ⟨gs,⟨gK',gF',rfl,hx',rfl⟩,Ta⟩;simp only [PU] at Ta;have HX:=Vh (qau.1 hx');clear hx' k8;have HT:=Vh Ta;clear Ta;go_wp2
 go_ret
 exact ⟨_,⟨rfl,_,gF',⟨pb,e,m,d,gst,gK',HS.out,HX.out.1,rfl⟩,HX.out.2,rfl⟩,HT.out.sum⟩
theorem qwb (hc:isTurn L kb s n k g):Qe prog 327 #[Qb kb] [g] (.bool s.isNil):=by
 obtain ⟨pb,e,m,d,gst,gK,hs,hk,rfl⟩:=hc;have hd:=qgl.prog_done (qh0 L kb (Qb pb)) hs pb n;obtain ⟨gd,hl,rfl⟩:=hk;refine GO fun w HT=>?_
 have T1:=HT.out.sum (H':=[Qi kb L.fb (Qb pb) (Qw L k) k,Cli.progB pb m d n++(gst++(gd++e.1))]);have k8:=T1.cell 0 0 rfl 8;simp only [Q9,GE3] at k8;have lt:=T1.lt 0 0 rfl;simp only [] at lt;have HD:=Vh hd;have HT:=Vh (HT.out.sum (H':=[Cli.progB pb m d n,gst,Qi kb L.fb (Qb pb) (Qw L k) k++(gd++e.1)]));clear hs hl hd T1;go_enter func327,ntmps327
 go_wp2_with fail
 refine (Qe.use (HD.out) (HT.out) [0] rfl rfl).mono ?_
 rintro e w1 ⟨rfl,mq,rfl⟩;go_wp2
 go_ret
 exact ⟨rfl,_,rfl⟩
end
def qoj (th no:Int):Xf:=⟨th,no,0,false,0,none,⟨0,0,0,0,0⟩,0,0,[]⟩
def firstT:ST:=.at none .enter
section
variable {L:Lay} {x:Qj} {ws:List Qg} {p:Qy} {g gF:List Blk} {kb:Nat} {s:ST} {n:Int} {k:Xf}
theorem qsm (hx:qn6 L x ws p gF) (hn:x.tr.length≤1000000) (th no:Int) (hth:0≤th):Qa prog 64 #[Qb L.fb,.int .i64 th,.int .i64 no] [gF] fun en gs =>
 ∃ kb g gF',en=.returned (.tuple #[Qb kb,.int .i64 0])∧isTurn L kb firstT 0 (qoj th no) g∧qn6 L { x with tr:=x.tr++[evT (qoj th no) { ev0 with kind:=1 }] } ws p gF'∧gs=[g,gF']:=by
 obtain ⟨gC,gW,gP,hx,hw,hpp,rfl⟩:=hx;have HS:=Vh (show ∀ kb pv,((qh8 L kb pv).on ([],[])).SV (.at none .enter) .nilFunc (.func (.func 88) #[Qb kb] #[]) [] from fun kb pv=>⟨rfl,rfl,rfl⟩);have HNW:=Vh (show ∀ kb,_ from fun kb=>Cli.prog_new_v (Qx L kb (.pointer none) ([],[])) (HS.out kb (.pointer none)));refine GO fun w HT=>?_
 have HX:=Vh hx;have HW:=Vh hw;have HPP:=Vh hpp;have HLN:=Vh hn;clear hx hn hpp hw;go_enter func64,ntmps64
 go_wp2_with fail
 refine Qa.run (qkg _ _ _) (HT.out.alloc (k:=w.heap.size) rfl 176 (Q9 L.fb (.pointer none) (.pointer none) (qoj th no))) [] ?_
 rintro e w1 gs ⟨rfl,rfl⟩ HT;simp only [PU] at HT;go_wp2_with fail
 refine Qa.run (HNW.out w.heap.size) (HT.out.sum (H':=[gC,gW++gP,[],[cl w.heap.size 176 (Q9 L.fb (.pointer none) (.pointer none) (qoj th no))]])) [2] ?_
 rintro e w1 gs ⟨pb,rfl,rfl⟩ HT;simp only [PU] at HT;have k8:=HT.out.cell 3 0 rfl 8;have fk8:=HT.out.free 3 0 rfl 8;simp only [Q9,GE3] at k8;have hnt:=fun g (hg:Qf L x g)=>za (kb:=w.heap.size) (pv:=Qb pb) (sv:=.pointer none) (k:=qoj th no) hg { ev0 with kind:=1 } HLN.out
 simp only [EvS.cells,ev0] at hnt;go_wp2_with fail
 refine (Qa.use (hnt _ HX.out) ((HT.out.set 3 0 rfl 8 (Qb pb)).eq (H':=[gC,gW++gP,[],Qi w.heap.size L.fb (Qb pb) (.pointer none) (qoj th no),Cli.progB pb .nilFunc (.func (.func 88) #[Qb w.heap.size] #[]) 0]) rfl) [3,0] rfl rfl).mono ?_
 rintro e w1 ⟨gs,⟨rfl,g1,hx1,rfl⟩,Ta⟩;simp only [PU] at Ta;have HX:=Vh hx1;clear hx1 k8 fk8;have HT:=Vh Ta;clear Ta;go_wp2
 go_ret2
 exact ⟨_,⟨_,_,_,rfl,⟨pb,([],[]),_,_,[],Qi w.heap.size L.fb (Qb pb) (.pointer none) (qoj th no)++([]++[]),HS.out _ _,⟨[],⟨rfl,.inl ⟨rfl,rfl⟩⟩,rfl⟩,rfl⟩,⟨g1,gW,gP,HX.out,HW.out,HPP.out,rfl⟩,rfl⟩,(HT.out.pick [4,3,0,1] rfl).sum2⟩
end
def zd:Qg:=qjz.s
def qh6 (b:Nat) (s:Q0) (g:List Blk):Prop:=∃ rb lb wb gr gl gw,Xj rb s.ring gr∧Yk lb s.who s.turns gl∧Yf wb zd gw∧g=[cl b 218 #[Qb rb,Qb lb,Qb wb]]++gr++gl++gw
theorem q1h:qb8 qjz=0:=by decide
theorem qkv:qf2 qh6:=by
 intro n h1 h2;refine GO fun w HT=>?_
 have HWN:=Vh (show ∀ (b:Nat) g,Xg b qjz 0 g→Yf b zd g from fun b g h=>⟨qjz,rfl,by rw [q1h];exact h⟩);go_enter func84,ntmps84
 go_wp2_with fail
 refine Qa.run (qrt n h1 h2) (HT.out) [] ?_
 rintro e w1 gs ⟨rb,gr,rfl,hgr,rfl⟩ HT;simp only [PU] at HT;go_wp2_with fail
 refine Qa.run (qsl) (HT.out) [] ?_
 rintro e w1 gs ⟨lb,gl,rfl,hgl,rfl⟩ HT;simp only [PU] at HT;go_wp2_with fail
 refine Qa.run (qpz) (HT.out) [] ?_
 rintro e w1 gs ⟨wb,gw,rfl,hgw,rfl⟩ HT;simp only [PU] at HT;go_wp2
 go_ret2
 exact ⟨_,⟨_,_,rfl,⟨rb,lb,wb,gr,gl,gw,hgr,hgl,HWN.out _ _ hgw,rfl⟩,rfl⟩,(HT.out.alloc (k:=w1.heap.size) rfl 218 #[Qb rb,Qb lb,Qb wb]).sum⟩
theorem qln {b:Nat} {s:Q0} {g:List Blk} (h:qh6 b s g):∃ (q:ShP) (g1 g2:List Blk),q.b=b∧qr1 q s g1∧Yf q.wb zd g2∧g=g1++g2:=by
 obtain ⟨rb,lb,wb,gr,gl,gw,h1,h2,h3,rfl⟩:=h;exact ⟨⟨b,rb,lb,wb⟩,_,gw,rfl,⟨gr,gl,h1,h2,rfl⟩,h3,by simp [Xb]⟩
theorem qjo:∀ {l:List (Nat × Q0)} {g:List Blk},J4 (fun (x:Nat × Q0)=>qh6 x.1 x.2) l g→∃ (qs:List ShP) (g1 g2:List Blk),qs.map ShP.b=l.map Prod.fst∧J4 (fun (z:ShP × Q0)=>qr1 z.1 z.2) (qs.zip (l.map Prod.snd)) g1 ∧
 J4 (fun (z:ShP × Qg)=>Yf z.1.wb z.2) (qs.zip (List.replicate l.length zd)) g2∧g.Perm (g1++g2)
 | [],_,h=>by cases h;exact ⟨[],[],[],rfl,rfl,rfl,List.Perm.refl _⟩
 | a::l,_,h=>by
   obtain ⟨u,v,hu,hv,rfl⟩:=h;obtain ⟨q,ga,gb,hq,hs,hw,rfl⟩:=qln hu;obtain ⟨qs,g1,g2,h1,h2,h3,h4⟩:=qjo hv;refine ⟨q::qs,ga++g1,gb++g2,by simp [hq,h1],⟨ga,g1,hs,h2,rfl⟩,⟨gb,g2,hw,h3,rfl⟩,?_⟩
   refine (List.Perm.append_left _ h4).trans ?_
   classical
   refine List.perm_iff_count.2 fun a=>?_
   simp only [List.count_append];omega
def Jh (l:List Q7):List Value:=qbi (l.map fun f=>f.vals.toArray)
def qfh (lb:Nat) (l:List Q7) (g:List Blk):Prop:=∃ v gr,Qu 82 4 v l.length (Jh l) gr∧g=[cl lb 200 #[v]]++gr
structure ZF where
 x:Qj
 ws:List Qg
 p:Qy
 lg:List Q7
def isZ (L:Lay) (z:ZF) (g:List Blk):Prop:=∃ gT gL,qn6 L z.x z.ws z.p gT∧qfh L.p.lb z.lg gL∧g=gT++gL
def zf0 (c:Cfg):ZF:=⟨q0n c,List.replicate c.sh.toNat zd,qkw c.room.toNat,[]⟩
theorem qlp {n pb:Nat} {g:List Blk} (h:qcr n pb g):Xs pb (qkw n) g:=by
 obtain ⟨cb,lb,hb,rfl⟩:=h;exact ⟨cb,lb,hb,0,0,[],_,⟨(by intro a h;cases h),rfl⟩,rfl,by simp [qf8,Xk,nxV,lsV,Xn,qkw]⟩
theorem qzl (c:Cfg) (hk:c.ok=true):Qa prog 62 #[.agg c.cells] [] fun e gs =>
 ∃ L g,e=.returned (.tuple #[Qb L.fb,.int .i64 0])∧isZ L (zf0 c) g∧gs=[g]:=by
 refine (qlq qkv c hk).post ?_
 rintro e gs ⟨fb,p,shs,gF,gS,gR,gH,gP,gL,he,ha,hlen,hall,rfl⟩;obtain ⟨qs,g1,g2,h1,h2,h3,h4⟩:=qjo ha.shards;have hn:shs.length=c.sh.toNat:=by omega
 have hsn:shs.map Prod.snd=List.replicate c.sh.toNat (Qp c.ring.toNat):=by
  rw [List.eq_replicate_iff];refine ⟨by simp;omega,fun b hb=>?_⟩
  obtain ⟨a,ha',rfl⟩:=List.mem_map.1 hb;exact hall a ha'
 have hq:qs.length=c.sh.toNat:=by
  have:=congrArg List.length h1;simp only [List.length_map] at this;omega
 refine ⟨[gF++(gS++(gR++(g1++[])))++(g2++gP)++gL],⟨⟨fb,p,qs⟩,_,he,⟨gF++(gS++(gR++(g1++[])))++(g2++gP),gL,⟨_,g2,gP,⟨_,gF,gS,gR,g1,[],ha.floor,ha.slab,?_,?_,?_,qy7,rfl⟩,⟨?_,?_⟩,qlp ha.pipeN,rfl⟩,⟨.slice none 0 0,[],Zi _ _,?_⟩,rfl⟩,rfl⟩,?_⟩
 ·show Qu _ 1 p.sh (qs.map ShP.b).length ((qs.map ShP.b).map fun b=>Qb b) gR
  have:=ha.row;rw [h1,List.length_map,List.map_map];exact this
 ·show qs.length=(List.replicate _ _).length
  rw [List.length_replicate];exact hq
 ·show J4 _ (qs.zip (List.replicate _ _)) g1
  rw [← hsn];exact h2
 ·show (List.replicate _ _).length=qs.length
  rw [List.length_replicate];exact hq.symm
 ·show J4 _ (qs.zip (List.replicate _ _)) g2
  rw [← hn];exact h3
 ·rw [ha.log];simp
 ·classical
  refine List.perm_iff_count.2 fun a=>?_
  have:=(List.perm_iff_count.1 h4) a;simp only [List.flatten_cons,List.flatten_nil,List.append_nil,List.count_append] at this ⊢;omega
def qbl (P:qa5→Prop) (w:Qg):Prop:=(∀ l∈w.lv,∀ s∈l,∀ e∈s,P e)∧∀ e∈w.by_,P e
section
variable {P:qa5→Prop} {w:Qg}
theorem mem_modify {α:Type} {f:α→α} {b:α}:∀ {l:List α} {k:Nat},b∈l.modify k f→b∈l∨∃ a∈l,b=f a:=by
 intro l k hb;obtain ⟨i,hi⟩:=List.getElem?_of_mem hb;rw [List.getElem?_modify] at hi;cases ha:l[i]? with
 | none=>rw [ha] at hi;simp at hi
 | some a =>
   rw [ha] at hi;have hm:=List.mem_of_getElem? ha;by_cases hk:k=i
   ·simp [hk] at hi;exact .inr ⟨a,hm,hi.symm⟩
   ·simp [hk] at hi;exact .inl (hi ▸ hm)
theorem qbl.place (h:qbl P w) {e:qa5} (he:P e):qbl P (w.place e):=by
 unfold Qg.place;split
 ·refine ⟨h.1,fun x hx=>?_⟩
  rcases List.mem_append.1 hx with hx | hx
  ·exact h.2 x hx
  ·rw [List.mem_singleton.1 hx];exact he
 ·refine ⟨fun l hl s hs x hx=>?_,h.2⟩
  rcases mem_modify hl with hl | ⟨l0,hl0,rfl⟩
  ·exact h.1 l hl s hs x hx
  ·rcases mem_modify hs with hs | ⟨s0,hs0,rfl⟩
   ·exact h.1 l0 hl0 s hs x hx
   ·rcases List.mem_append.1 hx with hx | hx
    ·exact h.1 l0 hl0 s0 hs0 x hx
    ·rw [List.mem_singleton.1 hx];exact he
theorem qbl.placeL:∀ (l:List qa5) {w:Qg},qbl P w→(∀ e∈l,P e)→qbl P (w.placeL l)
 | [],_,h,_=>h
 | a::l,w,h,hl=>by
   show qbl P ((w.place a).placeL l)
   exact qbl.placeL l (h.place (hl a List.mem_cons_self)) fun e he=>hl e (List.mem_cons_of_mem _ he)
theorem qbl.slot (h:qbl P w) (l k:Nat):∀ e∈w.slot l k,P e:=by
 intro e he;unfold Qg.slot at he;rw [List.getD_eq_getElem?_getD] at he;cases h1:(w.lv.getD l [])[k]? with
 | none=>rw [h1] at he;cases he
 | some s =>
   rw [h1] at he;have hs:=List.mem_of_getElem? h1;rw [List.getD_eq_getElem?_getD] at hs;cases h2:w.lv[l]? with
   | none=>rw [h2] at hs;cases hs
   | some x=>rw [h2] at hs;exact h.1 x (List.mem_of_getElem? h2) s hs e he
theorem qbl.clear (h:qbl P w) (l k:Nat):qbl P (w.clear l k):=by
 refine ⟨fun x hx s hs e he=>?_,h.2⟩
 rcases mem_modify hx with hx | ⟨l0,hl0,rfl⟩
 ·exact h.1 x hx s hs e he
 ·rcases List.mem_or_eq_of_mem_set hs with hs | rfl
  ·exact h.1 l0 hl0 s hs e he
  ·cases he
theorem qbl.again (h:qbl P w) (l:Nat):qbl P (w.again l):=qbl.placeL _ (h.clear _ _) (h.slot _ _)
theorem qbl.down:∀ (n:Nat) {w:Qg},qbl P w→qbl P (w.down n)
 | 0,_,h=>h
 | n+1,_,h=>qbl.down n (h.again _)
theorem qbl.adv (h:qbl P w):qbl P w.adv.1∧∀ e∈w.adv.2,P e:=by
 have h1:=qbl.down (min (Jc (w.now+1)) 3) (show qbl P { w with now:=w.now+1 } from h);exact ⟨h1.clear _ _,h1.slot _ _⟩
end
structure qc9 (N:Nat) (S:Qg):Prop where
 sh:S.Sh
 now:S.now≤N
 tot:qdg S≤N
 ent:qbl (fun e=>Z3 e.v) S
theorem qc9.ok {N:Nat} {S:Qg} (h:qc9 N S) (hN:N<1000000):qak S:=⟨h.sh,by have:=h.now;omega,by have:=h.tot;omega⟩
theorem qc9.mono {N M:Nat} {S:Qg} (h:qc9 N S) (hm:N≤M):qc9 M S:=⟨h.sh,by have:=h.now;omega,by have:=h.tot;omega,h.ent⟩
structure qkn (N:Nat) (x:Qj) (ws:List Qg) (p:Qy):Prop where
 now:0≤x.f.now∧x.f.now≤N
 busy:0≤x.f.busy∧x.f.busy≤N
 cap:x.f.cfg.cap=x.slab.recs.length
 wl:ws.length=x.shs.length
 wok:∀ w∈ws,qc9 N w
 task:∀ s∈x.shs,∀ e∈s.ring.slots,Z3 e.v
 turns:∀ s∈x.shs,0≤s.turns∧s.turns≤N
 ch:p.ch.length≤p.room
 sp:p.sp.length≤N
structure ZN (N:Nat) (z:ZF):Prop where
 core:Zr N z.x
 rest:qkn N z.x z.ws z.p
 lg:z.lg.length≤N
theorem qkn.mono {N M:Nat} {x:Qj} {ws:List Qg} {p:Qy} (h:qkn N x ws p) (hm:N≤M):qkn M x ws p :=
 ⟨by have:=h.now;omega,by have:=h.busy;omega,h.cap,h.wl,fun w hw=>(h.wok w hw).mono hm,h.task,fun s hs=>by have:=h.turns s hs;omega,h.ch,by have:=h.sp;omega⟩
theorem ZN.mono {N M:Nat} {z:ZF} (h:ZN N z) (hm:N≤M):ZN M z:=⟨h.core.mono hm,h.rest.mono hm,by have:=h.lg;omega⟩
def q3b (t:Qm):Prop:=Z3 t∧0≤t.slot
structure qlh (N:Nat) (k:Xf) (x:Qj):Prop where
 th:0≤k.th
 saw:0≤k.saw∧k.saw<18446744073709551616∧okW k.saw=true
 t:Z3 k.t
 dl:k.due.length≤N
 due:∀ t∈k.due,q3b t
 sh:∀ i,k.s=some i→i<x.shs.length
def qzb (ws:List Qg):Prop:=∀ w∈ws,qbl (fun e=>0≤e.v.slot) w
structure TB (N:Nat) (z:ZT):Prop where
 core:Zr N z.x
 rest:qkn N z.x z.ws z.p
 k:qlh N z.k z.x
 ws:qzb z.ws
 sh4:z.x.shs.length≤4
def qt4 (s:ST) (k:Xf):Prop:=match s with
 | .at none .looks=>0≤k.t.slot
 | .at none .claims=>0≤k.t.slot
 | .thn (.row1 (.put _)) .claims2=>0≤k.t.slot
 | .at none .behind=>0≤k.t.slot
 | .at none (.rearm1 next)=>0≤k.t.slot∧0≤next∧next<18446744073709551616∧k.t.gen≤4294967295
 | .at none .finishes=>0≤k.t.slot
 | .row2 .rel .drop=>0≤k.t.slot
 | .row1 .drop=>0≤k.t.slot
 | _=>False
def qy0 (s:ST) (k:Xf) (i:Nat):Prop:=match s with
 | .at (some (.ready j)) (.pops1 n)=>j=i∧0≤n∧n≤1000000
 | .thn (.at none .rec1) (.pops11 n)=>0≤k.t.slot∧0≤n∧n≤1000000
 | .thn (.at none .rec11) (.pops11 n)=>0≤k.t.slot∧0≤n∧n≤1000000
 | _=>False
def Own (k:Xf) (x:Qj):Prop:=(x.shs.getD (k.s.getD 0) (Qp 1)).who=k.th+1
def qjj (s:ST) (k:Xf) (x:Qj) (i:Nat):Prop:=match s with
 | .at (some .lock) (.one2 d)=>CurK d k
 | .at none (.one21 d)=>CurK d k∧Own k x
 | .thn (.row1 (.turnA d)) (.one2112 e)=>CurK d k∧e=d∧Own k x
 | .thn P (.one211 d)=>CurK d k∧Own k x∧qy0 P k i
 | .thn (.thn G (.fires1 d n)) .one21121=>CurK d k∧Own k x∧n≤1000000∧n<k.due.length∧qt4 G k
 | .row1 .unlock=>Own k x
 | _=>False
where CurK (d:Nat) (k:Xf):Prop:=k.nd=d+1
def qz3 (s:ST) (k:Xf) (x:Qj):Prop:=match s with
 | .nil=>True
 | .at none .enter=>x.f.closed=true∨k.th≤1000000
 | .at none .gate=>x.f.closed=true∨k.th≤1000000
 | .at none .tick=>k.th≤1000000
 | .row2 .leave1 .answer=>True
 | .row1 .answer=>True
 | .thn X (.shards1 i)=>k.s=some i∧i<x.shs.length∧k.th≤1000000∧qjj X k x i
 | _=>False
structure JT (N:Nat) (s:ST) (z:ZT):Prop where
 b:TB N z
 fit:qz3 s z.k z.x
theorem qlh.mono {N M:Nat} {k:Xf} {x:Qj} (h:qlh N k x) (hm:N≤M):qlh M k x:=⟨h.th,h.saw,h.t,by have:=h.dl;omega,h.due,h.sh⟩
theorem TB.mono {N M:Nat} {z:ZT} (h:TB N z) (hm:N≤M):TB M z:=⟨h.core.mono hm,h.rest.mono hm,h.k.mono hm,h.ws,h.sh4⟩
section
variable {N:Nat} {z:ZT}
theorem TB.ok (h:TB N z) (hN:N<1000000):qb1 z :=
 ⟨h.core.ok (by omega),h.k.th,by have:=h.rest.now;omega,h.k.saw,h.k.t,by have:=h.k.dl;omega,h.rest.wl,fun w hw=>(h.rest.wok w hw).ok hN,h.k.sh,fun s hs=>by have:=h.rest.turns s hs;omega,⟨h.rest.ch,by have:=h.rest.sp;omega⟩⟩
theorem TB.onK (h:TB N z) {k:Xf} (hk:qlh N k z.x):TB N { z with k:=k }:=⟨h.core,h.rest,hk,h.ws,h.sh4⟩
theorem TB.note (h:TB N z) (E:EvS):TB (N+1) (z.note E):=by
 have h1:=h.rest.mono (M:=N+1) (by omega);have h2:=h.k.mono (M:=N+1) (by omega);exact ⟨qvo h.core _,⟨h1.now,h1.busy,h1.cap,h1.wl,h1.wok,h1.task,h1.turns,h1.ch,h1.sp⟩,⟨h2.th,h2.saw,h2.t,h2.dl,h2.due,h2.sh⟩,h.ws,h.sh4⟩
theorem TB.slab (h:TB N z) {s:Qn} (hs:Zm s) (hl:s.recs.length=z.x.slab.recs.length):TB N { z with x:={ z.x with slab:=s } }:=by
 have h1:=h.rest;exact ⟨qr h.core hs,⟨h1.now,h1.busy,by show z.x.f.cfg.cap=(s.recs.length:Int);rw [hl];exact h1.cap,h1.wl,h1.wok,h1.task,h1.turns,h1.ch,h1.sp⟩,⟨h.k.th,h.k.saw,h.k.t,h.k.dl,h.k.due,h.k.sh⟩,h.ws,h.sh4⟩
theorem TB.look (h:TB N z) (st:Int):TB N (Xd st z).1:=h.onK ⟨h.k.th,J5 h.core.slab _,h.k.t,h.k.dl,h.k.due,h.k.sh⟩
theorem TB.try (h:TB N z) (ev:Int):TB N (Q3 ev z).1:=by
 obtain ⟨a,b⟩:=qbp h.core.slab z.k.t.slot z.k.saw ev;exact h.slab a b
theorem qrj (h:TB N z) {i:Nat} (hi:z.k.s=some i):z.shS∈z.x.shs∧z.sh=i:=by
 have hlt:=h.k.sh i hi;have e:z.sh=i:=by unfold ZT.sh;rw [hi];rfl
 refine ⟨?_,e⟩
 unfold ZT.shS;rw [e,List.getD_eq_getElem?_getD,List.getElem?_eq_getElem hlt];exact List.getElem_mem hlt
theorem qwv (h:TB N z) {i:Nat} (hi:z.k.s=some i):z.wh∈z.ws:=by
 have hlt:=h.k.sh i hi;have e:z.sh=i:=by unfold ZT.sh;rw [hi];rfl
 have hw:i<z.ws.length:=by rw [h.rest.wl];exact hlt
 unfold ZT.wh;rw [e,List.getD_eq_getElem?_getD,List.getElem?_eq_getElem hw];exact List.getElem_mem hw
theorem TB.onSh (h:TB N z) {s:Q0} (h1:zg (N+1) s.ring) (h2:∀ e∈s.ring.slots,Z3 e.v) (h3:0≤s.turns∧s.turns≤N+1):TB (N+1) (z.onSh s):=by
 have hr:=h.rest.mono (M:=N+1) (by omega);have hk:=h.k.mono (M:=N+1) (by omega);have hc:=h.core.mono (M:=N+1) (by omega)
 refine ⟨⟨hc.slab,hc.i0,hc.i1,hc.tr,by show 1≤(z.x.shs.set z.sh s).length;rw [List.length_set];exact hc.sh,qh2 hc.ring h1⟩,⟨hr.now,hr.busy,hr.cap,by show z.ws.length=(z.x.shs.set z.sh s).length;rw [List.length_set];exact hr.wl,hr.wok,fun a ha=>?_,fun a ha=>?_,hr.ch,hr.sp⟩,
  ⟨hk.th,hk.saw,hk.t,hk.dl,hk.due,fun i hi=>by show i<(z.x.shs.set z.sh s).length;rw [List.length_set];exact hk.sh i hi⟩,h.ws,by show (z.x.shs.set z.sh s).length≤4;rw [List.length_set];exact h.sh4⟩
 ·rcases List.mem_or_eq_of_mem_set ha with ha | rfl
  ·exact hr.task a ha
  ·exact h2
 ·rcases List.mem_or_eq_of_mem_set ha with ha | rfl
  ·exact hr.turns a ha
  ·exact_mod_cast h3
theorem TB.onWh (h:TB N z) {w:Qg} (h1:qc9 (N+1) w) (h2:qbl (fun e=>0≤e.v.slot) w):TB (N+1) { z with ws:=z.ws.set z.sh w }:=by
 have hr:=h.rest.mono (M:=N+1) (by omega);refine ⟨h.core.mono (M:=N+1) (by omega),⟨hr.now,hr.busy,hr.cap,by show (z.ws.set z.sh w).length=_;rw [List.length_set];exact hr.wl,fun a ha=>?_,hr.task,hr.turns,hr.ch,hr.sp⟩,h.k.mono (M:=N+1) (by omega),fun a ha=>?_,h.sh4⟩
 ·rcases List.mem_or_eq_of_mem_set ha with ha | rfl
  ·exact hr.wok a ha
  ·exact h1
 ·rcases List.mem_or_eq_of_mem_set ha with ha | rfl
  ·exact h.ws a ha
  ·exact h2
theorem qzv {w:Qg} {t:Qm} (ht:Z3 t) (hn:w.now<1000000):(qdn w t:Int)<18446744073709551616:=by
 have:=ht.dl;unfold qdn;omega
theorem q25 (h:TB N z) (hN:N<1000000) {i:Nat} (hi:z.k.s=some i) (hs:0≤z.k.t.slot):TB (N+1) { z with ws:=z.ws.set z.sh (z.wh.place (qmd z.wh z.k.t)) }:=by
 have hm:=qwv h hi;have hw:=h.rest.wok _ hm;have hd:=qzv (w:=z.wh) h.k.t (by have:=hw.now;omega);refine h.onWh ⟨Qg.place_sh hw.sh _,?_,?_,hw.ent.place ⟨h.k.t.id,h.k.t.gen,⟨Int.natCast_nonneg _,hd⟩,h.k.t.per⟩⟩ ((h.ws _ hm).place hs)
 ·have e:(z.wh.place (qmd z.wh z.k.t)).now=z.wh.now:=Qg.placeL_now [qmd z.wh z.k.t] z.wh
  rw [e];have:=hw.now;omega
 ·rw [qcu hw.sh];have:=hw.tot;omega
theorem q04 {N:Int} {r:Qs} (h:zg N r):zg (N+1) (Y5 r).1:=by
 unfold Y5;split
 ·exact ⟨by simp only [List.length_set];exact h.n0,by simp only [List.length_set];exact h.n1,h.t0,by have:=h.t1;simp only;omega,by have:=h.h0;simp only;omega,by have:=h.h1;simp only;omega⟩
 ·exact h.mono (by omega)
theorem qzj:Z3 Qm.zero:=⟨by decide,by decide,by decide,by decide⟩
theorem q1d {r:Qs} (h:∀ e∈r.slots,Z3 e.v):(∀ e∈(Y5 r).1.slots,Z3 e.v)∧Z3 (Y5 r).2.1:=by
 have hz:=qzj
 have hs:Z3 (r.slot r.head).v:=by
  unfold Qs.slot;rw [List.getD_eq_getElem?_getD];cases h1:r.slots[r.at r.head]? with
  | none=>exact hz
  | some e=>exact h e (List.mem_of_getElem? h1)
 unfold Y5;split
 ·refine ⟨fun e he=>?_,hs⟩
  rcases List.mem_or_eq_of_mem_set he with he | rfl
  ·exact h e he
  ·exact hz
 ·exact ⟨h,hz⟩
end
structure qfm (z z':ZT):Prop where
 s:z'.k.s=z.k.s
 nd:z'.k.nd=z.k.nd
 th:z'.k.th=z.k.th
 due:z'.k.due=z.k.due
 who:∀ j,(z'.x.shs.getD j (Qp 1)).who=(z.x.shs.getD j (Qp 1)).who
 len:z'.x.shs.length=z.x.shs.length
theorem qfm.refl (z:ZT):qfm z z:=⟨rfl,rfl,rfl,rfl,fun _=>rfl,rfl⟩
theorem qfm.own {z z':ZT} (h:qfm z z') (ho:Own z.k z.x):Own z'.k z'.x:=by
 unfold Own at ho ⊢;rw [h.s,h.th,h.who];exact ho
theorem qhx {α:Type} (l:List α) (i j:Nat) (a d:α) (hi:i<l.length):(l.set i a).getD j d=if i=j then a else l.getD j d:=by
 rw [List.getD_eq_getElem?_getD,List.getElem?_set,List.getD_eq_getElem?_getD];by_cases h:i=j
 ·subst h;simp [hi]
 ·simp [h]
section
variable {N:Nat} {z:ZT} {i:Nat}
theorem qfm.onSh {z':ZT} (h:qfm z z') (s:Q0) (hs:s.who=z'.shS.who) (hi:z'.k.s=some i) (hlt:i<z'.x.shs.length):qfm z (z'.onSh s):=by
 refine ⟨h.s,h.nd,h.th,h.due,fun j=>?_,by show (z'.x.shs.set z'.sh s).length=_;rw [List.length_set];exact h.len⟩
 have e:z'.sh=i:=by unfold ZT.sh;rw [hi];rfl
 show ((z'.x.shs.set z'.sh s).getD j (Qp 1)).who=_
 rw [qhx _ _ _ _ _ (by rw [e];exact hlt),← h.who];split
 ·next hj=>rw [hs,← hj];rfl
 ·rfl
theorem TB.noteL (h:TB N z) (ht:z.x.tr.length+1≤N) (E:EvS):TB N (z.note E):=by
 have hc:=h.core;have h1:=h.rest;exact ⟨⟨hc.slab,hc.i0,hc.i1,by show (z.x.tr++[_]).length≤_;rw [List.length_append];exact ht,hc.sh,hc.ring⟩,⟨h1.now,h1.busy,h1.cap,h1.wl,h1.wok,h1.task,h1.turns,h1.ch,h1.sp⟩,⟨h.k.th,h.k.saw,h.k.t,h.k.dl,h.k.due,h.k.sh⟩,h.ws,h.sh4⟩
theorem qw6 (h:TB N z) (hN:N<1000000) (hi:z.k.s=some i) (hs:0≤z.k.t.slot):TB (N+1) (qky z) :=
 (q25 h hN hi hs).noteL (by have:=h.core.tr;show z.x.tr.length+1≤N+1;omega) _
theorem q2o (h:TB N z) (f:Q7):TB (N+1) { z with p:=(z.p.put f).1 }:=by
 have h0:=h.mono (M:=N+1) (by omega);have h1:=h0.rest;have h2:=h.rest;refine ⟨h0.core,⟨h1.now,h1.busy,h1.cap,h1.wl,h1.wok,h1.task,h1.turns,?_,?_⟩,h0.k,h0.ws,h0.sh4⟩
 ·unfold Qy.put
  split
  ·exact h1.ch
  ·split
   ·next hh=>simp only [List.length_append,List.length_cons,List.length_nil];omega
   ·exact h1.ch
 ·unfold Qy.put
  split
  ·exact h1.sp
  ·split
   ·exact h1.sp
   ·simp only [List.length_append,List.length_cons,List.length_nil];have:=h2.sp;omega
theorem q1f {w:Int} (hk:okW w=true):Zp w≤4294967295:=by
 unfold Zp;rw [if_pos hk];simp only [okW,Bool.and_eq_true,decide_eq_true_eq] at hk;omega
abbrev qbk (s:ST) (z:ZT):ST × ZT:=St.run runT Xv s z
abbrev qyf (s:ST) (z:ZT):Prop:=St.pre runT Xv qe0 qfp s z
structure qqo (N:Nat) (z:ZT) (F:ST→Xf→Prop) (r:ST × ZT):Prop where
 b:TB (N+1) r.2
 same:qfm z r.2
 fit:r.1=.nil∨F r.1 r.2.k
theorem stepG (h:TB N z) (hN:N<999999) (hi:z.k.s=some i) {G:ST} (hf:qt4 G z.k):qyf G z∧qqo N z qt4 (qbk G z):=by
 have ho:=h.ok (by omega);have h1:=h.mono (M:=N+1) (by omega)
 match G,hf with
 | .at none .looks,hf =>
   refine ⟨⟨ho,trivial⟩,?_⟩
   show qqo N z qt4 (if (Xd 3 z).2=true then (.at none .claims,(Xd 3 z).1) else (.nil,(Xd 3 z).1))
   split
   ·exact ⟨h1.look 3,⟨rfl,rfl,rfl,rfl,fun _=>rfl,rfl⟩,.inr hf⟩
   ·exact ⟨h1.look 3,⟨rfl,rfl,rfl,rfl,fun _=>rfl,rfl⟩,.inl rfl⟩
 | .at none .claims,hf =>
   refine ⟨⟨ho,trivial⟩,?_⟩
   show qqo N z qt4 (if (Q3 4 z).2=true then _ else _)
   split
   ·exact ⟨(h.try 4).note _,⟨rfl,rfl,rfl,rfl,fun _=>rfl,rfl⟩,.inr hf⟩
   ·exact ⟨h1.try 4,⟨rfl,rfl,rfl,rfl,fun _=>rfl,rfl⟩,.inr hf⟩
 | .thn (.row1 (.put f)) .claims2,hf =>
   have hp:=q2o h f;exact ⟨⟨⟨ho,trivial⟩,fun _=>⟨hp.ok (by omega),trivial⟩⟩,⟨hp,⟨rfl,rfl,rfl,rfl,fun _=>rfl,rfl⟩,.inr hf⟩⟩
 | .at none .behind,hf =>
   refine ⟨⟨ho,trivial⟩,?_⟩
   have hw:=J5 h.core.slab z.k.t.slot;have hb:TB (N+1) { z with k:={ z.k with saw:=z.x.slab.word z.k.t.slot } }:=h1.onK ⟨h1.k.th,hw,h1.k.t,h1.k.dl,h1.k.due,h1.k.sh⟩;have hd:=h.k.t.dl;have hpr:=h.k.t.per
   show qqo N z qt4 (if stW (z.x.slab.word z.k.t.slot)≠4∨Zp (z.x.slab.word z.k.t.slot)≠z.k.t.gen then _ else if _ then _ else _)
   split
   ·exact ⟨hb,⟨rfl,rfl,rfl,rfl,fun _=>rfl,rfl⟩,.inl rfl⟩
   ·next hg =>
    split
    ·next hc =>
     have hgb:=q1f hw.2.2;have e:Zp (z.x.slab.word z.k.t.slot)=z.k.t.gen:=Decidable.byContradiction fun h=>hg (.inr h)
     exact ⟨hb,⟨rfl,rfl,rfl,rfl,fun _=>rfl,rfl⟩,.inr ⟨hf,by omega,hc.2.2,by show z.k.t.gen≤_;omega⟩⟩
    ·exact ⟨hb,⟨rfl,rfl,rfl,rfl,fun _=>rfl,rfl⟩,.inr hf⟩
 | .at none (.rearm1 next),hf =>
   obtain ⟨hs,hn0,hn1,hg⟩:=hf;refine ⟨⟨ho,⟨i,hi⟩,hs,hn0,hn1⟩,?_⟩
   show qqo N z qt4 (if (Q3 5 z).2=true then _ else _)
   split
   ·have ht:=h.try 5
    have hb:TB N { (Q3 5 z).1 with k:={ z.k with t:={ z.k.t with gen:=z.k.t.gen+1,dl:=next } } } :=
     ht.onK ⟨h.k.th,h.k.saw,⟨h.k.t.id,by have:=h.k.t.gen;show 0≤z.k.t.gen+1∧z.k.t.gen+1≤_;omega,⟨hn0,hn1⟩,h.k.t.per⟩,h.k.dl,h.k.due,h.k.sh⟩
    exact ⟨qw6 hb (by omega) hi hs,⟨rfl,rfl,rfl,rfl,fun _=>rfl,rfl⟩,.inl rfl⟩
   ·exact ⟨h1.try 5,⟨rfl,rfl,rfl,rfl,fun _=>rfl,rfl⟩,.inr hs⟩
 | .at none .finishes,hf =>
   refine ⟨⟨ho,trivial⟩,?_⟩
   show qqo N z qt4 (if (Q3 9 z).2=true then (_,if _ then _ else _) else _)
   split
   ·split
    ·exact ⟨(h.try 9).note _,⟨rfl,rfl,rfl,rfl,fun _=>rfl,rfl⟩,.inr hf⟩
    ·exact ⟨h1.try 9,⟨rfl,rfl,rfl,rfl,fun _=>rfl,rfl⟩,.inr hf⟩
   ·exact ⟨h1.try 9,⟨rfl,rfl,rfl,rfl,fun _=>rfl,rfl⟩,.inr hf⟩
 | .row2 .rel .drop,hf =>
   obtain ⟨a,b⟩:=qbp h1.core.slab z.k.t.slot (z.x.slab.word z.k.t.slot) 10;exact ⟨⟨ho,trivial⟩,⟨h1.slab a b,⟨rfl,rfl,rfl,rfl,fun _=>rfl,rfl⟩,.inr hf⟩⟩
 | .row1 .drop,hf =>
   obtain ⟨a,b⟩:=qhs h1.core.slab;exact ⟨⟨ho,trivial⟩,⟨h1.slab a b,⟨rfl,rfl,rfl,rfl,fun _=>rfl,rfl⟩,.inl rfl⟩⟩
theorem qbv (hi:z.k.s=some i) {n:Int} (hn:n≤1000000) (k:Xf):Yx n z=.nil∨qy0 (Yx n z) k i:=by
 have e:z.sh=i:=by unfold ZT.sh;rw [hi];rfl
 unfold Yx;split
 ·exact .inl rfl
 ·exact .inr ⟨e,by omega,hn⟩
def qt3 (z:ZT):ZT:={ (z.onSh { z.shS with ring:=(Y5 z.shS.ring).1 }) with k:={ z.k with t:=(Y5 z.shS.ring).2.1 } }
theorem q1j (h:TB N z) (hi:z.k.s=some i):TB (N+1) (qt3 z)∧qfm z (qt3 z):=by
 obtain ⟨hm,he⟩:=qrj h hi;have hr:=h.core.ring _ hm;obtain ⟨t1,t2⟩:=q1d (h.rest.task _ hm);have hb:=h.onSh (s:={ z.shS with ring:=(Y5 z.shS.ring).1 }) (q04 hr) t1 (by have:=h.rest.turns _ hm;show 0≤z.shS.turns∧z.shS.turns≤_;omega)
 exact ⟨hb.onK ⟨hb.k.th,hb.k.saw,t2,hb.k.dl,hb.k.due,hb.k.sh⟩,(by
  have hs:=(qfm.refl z).onSh { z.shS with ring:=(Y5 z.shS.ring).1 } rfl hi (h.k.sh i hi)
  exact ⟨hs.s,hs.nd,hs.th,hs.due,hs.who,hs.len⟩)⟩
theorem qxz (h:TB N z) (hN:N<999999) (hi:z.k.s=some i) {P:ST} (hf:qy0 P z.k i):qyf P z∧qqo N z (fun s k=>qy0 s k i) (qbk P z):=by
 have ho:=h.ok (by omega);have h1:=h.mono (M:=N+1) (by omega)
 match P,hf with
 | .at (some (.ready j)) (.pops1 n),hf =>
   obtain ⟨hb,hs⟩:=q1j h hi;obtain ⟨rfl,hn0,hn1⟩:=hf;have e2:(runT (.pops1 n) z).2=qt3 z:=by dsimp only [runT,qt3];split <;> rfl
   refine ⟨⟨ho,⟨j,hi⟩,hn0,hn1,by rw [e2];exact hb.ok (by omega)⟩,?_⟩
   show qqo N z _ (if (qt3 z).k.t.slot<0 then (Yx (n - 1) (qt3 z),qt3 z) else (.thn (.at none .rec1) (.pops11 n),qt3 z))
   split
   ·exact ⟨hb,hs,qbv (z:=qt3 z) hi (by omega) _⟩
   ·next hh=>exact ⟨hb,hs,.inr ⟨by show 0≤(qt3 z).k.t.slot;omega,hn0,hn1⟩⟩
 | .thn (.at none .rec1) (.pops11 n),hf =>
   obtain ⟨hs,hn0,hn1⟩:=hf;have hl:=h1.look 2;refine ⟨⟨⟨ho,trivial⟩,fun _=>⟨?_,?_,hn0,hn1⟩⟩,?_⟩
   ·show qb1 (if (Xd 2 z).2=true then (.at none .rec11,(Xd 2 z).1) else (.nil,(Xd 2 z).1):ST × ZT).2
    split <;> exact hl.ok (by omega)
   ·show zc (if (Xd 2 z).2=true then (.at none .rec11,(Xd 2 z).1) else (.nil,(Xd 2 z).1):ST × ZT).2
    split <;> exact ⟨i,hi⟩
   ·show qqo N z _ (Xl runT (if (Xd 2 z).2=true then (.at none .rec11,(Xd 2 z).1) else (.nil,(Xd 2 z).1):ST × ZT).1 (.pops11 n) (if (Xd 2 z).2=true then (.at none .rec11,(Xd 2 z).1) else (.nil,(Xd 2 z).1):ST × ZT).2)
    split
    ·exact ⟨hl,⟨rfl,rfl,rfl,rfl,fun _=>rfl,rfl⟩,.inr ⟨hs,hn0,hn1⟩⟩
    ·exact ⟨hl,⟨rfl,rfl,rfl,rfl,fun _=>rfl,rfl⟩,qbv (z:=(Xd 2 z).1) hi (by omega) _⟩
 | .thn (.at none .rec11) (.pops11 n),hf =>
   obtain ⟨hs,hn0,hn1⟩:=hf;have ht:=h.try 3;have ha:=qw6 ht (by omega) hi hs;have h2:=h1.try 3;have er:Xo (Q3 3 z).1=.at none .rec1:=if_neg (by show ¬ z.k.t.slot<0;omega);refine ⟨⟨⟨ho,⟨i,hi⟩,hs⟩,fun _=>⟨?_,?_,hn0,hn1⟩⟩,?_⟩
   ·show qb1 (if (Q3 3 z).2=true then (.nil,qky (Q3 3 z).1) else (Xo (Q3 3 z).1,(Q3 3 z).1):ST × ZT).2
    split
    ·exact ha.ok (by omega)
    ·exact h2.ok (by omega)
   ·show zc (if (Q3 3 z).2=true then (.nil,qky (Q3 3 z).1) else (Xo (Q3 3 z).1,(Q3 3 z).1):ST × ZT).2
    split <;> exact ⟨i,hi⟩
   ·show qqo N z _ (Xl runT (if (Q3 3 z).2=true then (.nil,qky (Q3 3 z).1) else (Xo (Q3 3 z).1,(Q3 3 z).1):ST × ZT).1 (.pops11 n) (if (Q3 3 z).2=true then (.nil,qky (Q3 3 z).1) else (Xo (Q3 3 z).1,(Q3 3 z).1):ST × ZT).2)
    split
    ·exact ⟨ha,⟨rfl,rfl,rfl,rfl,fun _=>rfl,rfl⟩,qbv (z:=qky (Q3 3 z).1) hi (by omega) _⟩
    ·rw [er]
     exact ⟨h2,⟨rfl,rfl,rfl,rfl,fun _=>rfl,rfl⟩,.inr ⟨hs,hn0,hn1⟩⟩
structure qt2 (N:Nat) (z:ZT) (i:Nat) (r:ST × ZT):Prop where
 b:TB (N+1) r.2
 s:r.2.k.s=some i
 len:r.2.x.shs.length=z.x.shs.length
 th:r.2.k.th=z.k.th
 fit:r.1=.nil∨qjj r.1 r.2.k r.2.x i
theorem qmj {z':ZT} (hb:TB (N+1) z') (hs:z'.k.s=some i) (hl:z'.x.shs.length=z.x.shs.length) (ht:z'.k.th=z.k.th) {d:Nat} (hc:qjj.CurK d z'.k) (ho:Own z'.k z'.x):qt2 N z i (zi d z') :=
 ⟨hb,hs,hl,ht,.inr ⟨hc,rfl,ho⟩⟩
theorem ql3 {z':ZT} (hb:TB (N+1) z') (hN:N<999999) (hs:z'.k.s=some i) (hl:z'.x.shs.length=z.x.shs.length) (hth:z'.k.th=z.k.th) {d n:Nat} (hc:qjj.CurK d z'.k) (ho:Own z'.k z'.x) (hn:n≤z'.k.due.length) :
 ((Xc d n z').1=.nil∧(Xc d n z').2=z')∨∃ t,z'.k.due[n]?=some t∧Xc d n z'=(.thn (.at none .looks) (.fires1 d n),{ z' with k:={ z'.k with t:=t } })∧qt2 N z i (.thn (Xc d n z').1 .one21121,(Xc d n z').2):=by
 unfold Xc;cases ht:z'.k.due[n]? with
 | none=>exact .inl ⟨rfl,rfl⟩
 | some t =>
   have hlt:=(List.getElem?_eq_some_iff.1 ht).1;have htg:=hb.k.due t (List.mem_of_getElem? ht);exact .inr ⟨t,rfl,rfl,hb.onK ⟨hb.k.th,hb.k.saw,htg.1,hb.k.dl,hb.k.due,hb.k.sh⟩,hs,hl,hth,.inr ⟨hc,ho,by have:=hb.k.dl;omega,hlt,htg.2⟩⟩
theorem qva {P:ST} {k:Xf} {i:Nat} (h:qy0 P k i):P.isNil=false:=by
 cases P <;> first | rfl | exact h.elim
theorem qkf {G:ST} {k:Xf} (h:qt4 G k):G.isNil=false:=by
 cases G <;> first | rfl | exact h.elim
theorem qav {M A Y α:Type} {runM:M→α→St M A Y × α} {s:St M A Y} (h:s.isNil=false) (m:M) (x:α):Xl runM s m x=(.thn s m,x):=by
 cases s <;> first | rfl | cases h
theorem qwd {P:ST} {d:Nat} {k:Xf} {x:Qj} {i:Nat} (hc:qjj.CurK d k) (ho:Own k x) (h:qy0 P k i):qjj (.thn P (.one211 d)) k x i:=by
 match P,h with
 | .at (some (.ready j)) (.pops1 n),h=>exact ⟨hc,ho,h⟩
 | .thn (.at none .rec1) (.pops11 n),h=>exact ⟨hc,ho,h⟩
 | .thn (.at none .rec11) (.pops11 n),h=>exact ⟨hc,ho,h⟩
theorem q21 (h:TB N z) (hN:N<999999) (hi:z.k.s=some i) {d:Nat} (hc:qjj.CurK d z.k) (ho:Own z.k z.x) {P:ST} (q1:qyf P z) (q2:qqo N z (fun s k=>qy0 s k i) (qbk P z)) :
 qyf (.thn P (.one211 d)) z∧qt2 N z i (qbk (.thn P (.one211 d)) z):=by
 refine ⟨⟨q1,fun _=>⟨q2.b.ok (by omega),⟨i,q2.same.s.trans hi⟩,q2.same.nd.trans hc⟩⟩,?_⟩
 show qt2 N z i (Xl runT (qbk P z).1 (.one211 d) (qbk P z).2)
 rcases q2.fit with hn | hf
 ·rw [hn]
  exact qmj q2.b (q2.same.s.trans hi) q2.same.len q2.same.th (q2.same.nd.trans hc) (q2.same.own ho)
 ·rw [qav (qva hf)]
  exact ⟨q2.b,q2.same.s.trans hi,q2.same.len,q2.same.th,.inr (qwd (q2.same.nd.trans hc) (q2.same.own ho) hf)⟩
theorem q1v (h:TB N z) (hN:N<999999) (hi:z.k.s=some i) {d n:Nat} (hc:qjj.CurK d z.k) (ho:Own z.k z.x) (hn:n≤1000000) (hnd:n<z.k.due.length) {G:ST} (q1:qyf G z) (q2:qqo N z qt4 (qbk G z)) :
 qyf (.thn (.thn G (.fires1 d n)) .one21121) z∧qt2 N z i (qbk (.thn (.thn G (.fires1 d n)) .one21121) z):=by
 have hs:=q2.same.s.trans hi;have hcc:qjj.CurK d (qbk G z).2.k:=q2.same.nd.trans hc;have hoo:=q2.same.own ho;have hle:n+1≤(qbk G z).2.k.due.length:=by rw [q2.same.due];omega
 have hp1:(qbk G z).1.isNil=true→qe0 (.fires1 d n) (qbk G z).2:=fun _=>⟨q2.b.ok (by omega),⟨i,hs⟩,hcc,hn⟩
 have e0:qbk (.thn G (.fires1 d n)) z=Xl runT (qbk G z).1 (.fires1 d n) (qbk G z).2:=rfl;have e1:qbk (.thn (.thn G (.fires1 d n)) .one21121) z=Xl runT (qbk (.thn G (.fires1 d n)) z).1 .one21121 (qbk (.thn G (.fires1 d n)) z).2:=rfl;refine ⟨⟨⟨q1,hp1⟩,?_⟩,?_⟩
 ·show (qbk (.thn G (.fires1 d n)) z).1.isNil=true→qe0 .one21121 (qbk (.thn G (.fires1 d n)) z).2
  rw [e0];rcases q2.fit with hnil | hf
  ·rw [hnil]
   show (Xc d (n+1) (qbk G z).2).1.isNil=true→qe0 .one21121 (Xc d (n+1) (qbk G z).2).2
   rcases ql3 q2.b hN hs q2.same.len q2.same.th hcc hoo hle with ⟨h1,h2⟩ | ⟨t,h1,h2,h3⟩
   ·rw [h2];exact fun _=>⟨q2.b.ok (by omega),i,hs⟩
   ·rw [h2];intro hh;cases hh
  ·rw [qav (qkf hf)];intro hh;cases hh
 ·rw [e1,e0]
  rcases q2.fit with hnil | hf
  ·rw [hnil]
   show qt2 N z i (Xl runT (Xc d (n+1) (qbk G z).2).1 .one21121 (Xc d (n+1) (qbk G z).2).2)
   rcases ql3 q2.b hN hs q2.same.len q2.same.th hcc hoo hle with ⟨h1,h2⟩ | ⟨t,h1,h2,h3⟩
   ·rw [h1,h2]
    exact ⟨q2.b,hs,q2.same.len,q2.same.th,.inr hoo⟩
   ·rw [h2] at h3 ⊢;exact h3
  ·rw [qav (qkf hf)]
   exact ⟨q2.b,hs,q2.same.len,q2.same.th,.inr ⟨hcc,hoo,hn,by show n<(qbk G z).2.k.due.length;omega,hf⟩⟩
theorem q10 (h:TB N z) (hN:N<999999) (hth:z.k.th≤1000000) (hi:z.k.s=some i) {X:ST} (hf:qjj X z.k z.x i) (hm:X.may qqj z=true):qyf X z∧qt2 N z i (qbk X z):=by
 have hok:=h.ok (by omega);have h1:=h.mono (M:=N+1) (by omega);have hsh:zc z:=⟨i,hi⟩;obtain ⟨hmem,hshe⟩:=qrj h hi
 match X,hf with
 | .at (some .lock) (.one2 d),hf =>
   have hmay:qqj .lock z=true:=hm
   have hw:z.shS.who=0:=by
    simp only [qqj,Bool.and_eq_true,beq_iff_eq] at hmay;exact hmay.2
   refine ⟨⟨hok,hsh,hf,hth⟩,?_⟩
   have ht:=h.rest.turns _ hmem
   have hb:=h.onSh (s:={ z.shS with who:=qt5 z.shS.who z.k.th,turns:=qtq z.shS.who z.shS.turns }) ((h.core.ring _ hmem).mono (by omega)) (h.rest.task z.shS hmem)
    (by show 0≤qtq z.shS.who z.shS.turns∧qtq z.shS.who z.shS.turns≤_;unfold qtq;split <;> omega)
   refine ⟨hb,hi,by show (z.x.shs.set z.sh _).length=_;rw [List.length_set],rfl,.inr ⟨hf,?_⟩⟩
   show ((z.x.shs.set z.sh { z.shS with who:=qt5 z.shS.who z.k.th,turns:=qtq z.shS.who z.shS.turns }).getD (z.k.s.getD 0) (Qp 1)).who=z.k.th+1
   have e:z.k.s.getD 0=i:=by rw [hi];rfl
   rw [e,hshe,qhx _ _ _ _ _ (h.k.sh i hi),if_pos rfl]
   show qt5 z.shS.who z.k.th=_
   unfold qt5;rw [if_pos hw]
 | .at none (.one21 d),hf =>
   obtain ⟨hc,ho⟩:=hf;refine ⟨⟨hok,hsh,hc⟩,?_⟩
   show qt2 N z i (if z.shS.ring.tail - z.shS.ring.head≤0 then zi d z else (.thn (Yx (z.shS.ring.tail - z.shS.ring.head) z) (.one211 d),z))
   split
   ·exact qmj h1 hi rfl rfl hc ho
   ·next hgt =>
    have hr:=h.core.ring _ hmem;have hn:z.shS.ring.tail - z.shS.ring.head≤1000000:=by have:=hr.t1;have:=hr.h0;omega
    rcases qbv hi hn z.k with hp | hp
    ·exfalso
     unfold Yx at hp;rw [if_neg hgt] at hp;cases hp
    ·have e:Yx (z.shS.ring.tail - z.shS.ring.head) z=.at (some (.ready z.sh)) (.pops1 (z.shS.ring.tail - z.shS.ring.head)):=if_neg hgt
     rw [e] at hp ⊢;exact ⟨h1,hi,rfl,rfl,.inr ⟨hc,ho,hp⟩⟩
 | .thn (.row1 (.turnA d)) (.one2112 e),hf =>
   obtain ⟨hc,he,ho⟩:=hf;obtain rfl:d=e:=he.symm;have hwm:=qwv h hi;have hw:=h.rest.wok _ hwm;obtain ⟨a1,a2,a3⟩:=qia hw.sh;obtain ⟨e1,e2⟩:=hw.ent.adv;obtain ⟨f1,f2⟩:=(h.ws _ hwm).adv;have hb0:=h.onWh (w:=z.wh.adv.1) ⟨a1,by have:=hw.now;omega,by have:=hw.tot;omega,e1⟩ f1
   have hb:TB (N+1) (Xv (.turnA d) z):=hb0.onK ⟨hb0.k.th,hb0.k.saw,hb0.k.t,by
    have:=hw.tot;show (z.wh.adv.2.map qa5.v).length≤_;rw [List.length_map];omega,fun t ht=>by
     obtain ⟨en,hen,rfl⟩:=List.mem_map.1 ht
     exact ⟨e2 en hen,f2 en hen⟩,hb0.k.sh⟩
   refine ⟨⟨⟨hok,hsh,hc⟩,fun _=>⟨hb.ok (by omega),⟨i,hi⟩,hc⟩⟩,?_⟩
   show qt2 N z i (runT (.one2112 d) (Xv (.turnA d) z))
   generalize hz':Xv (.turnA d) z=z' at hb;have es:z'.k.s=some i:=by rw [← hz'];exact hi
   have el:z'.x.shs.length=z.x.shs.length:=by rw [← hz'];rfl
   have et:z'.k.th=z.k.th:=by rw [← hz'];rfl
   have ec:qjj.CurK d z'.k:=by rw [← hz'];exact hc
   have eo:Own z'.k z'.x:=by rw [← hz'];exact ho
   show qt2 N z i (match z'.k.due[0]? with | none=>(.row1 .unlock,z') | some _=>(.thn (Xc d 0 z').1 .one21121,(Xc d 0 z').2))
   rcases ql3 hb hN es el et ec eo (Nat.zero_le _) with ⟨_,h2⟩ | ⟨t,h1,h2,h3⟩
   ·cases hd:z'.k.due[0]? with
    | none=>exact ⟨hb,es,el,et,.inr eo⟩
    | some t =>
      exfalso
      rename_i h0
      unfold Xc at h0;rw [hd] at h0;cases h0
   ·rw [h1];exact h3
 | .thn (.at (some (.ready j)) (.pops1 n)) (.one211 d),hf =>
   obtain ⟨hc,ho,hp⟩:=hf;obtain ⟨q1,q2⟩:=qxz h hN hi hp;exact q21 h hN hi hc ho q1 q2
 | .thn (.thn (.at none .rec1) (.pops11 n)) (.one211 d),hf =>
   obtain ⟨hc,ho,hp⟩:=hf;obtain ⟨q1,q2⟩:=qxz h hN hi hp;exact q21 h hN hi hc ho q1 q2
 | .thn (.thn (.at none .rec11) (.pops11 n)) (.one211 d),hf =>
   obtain ⟨hc,ho,hp⟩:=hf;obtain ⟨q1,q2⟩:=qxz h hN hi hp;exact q21 h hN hi hc ho q1 q2
 | .thn (.thn G (.fires1 d n)) .one21121,hf =>
   obtain ⟨hc,ho,hn,hnd,hg⟩:=hf;obtain ⟨q1,q2⟩:=stepG h hN hi hg;exact q1v h hN hi hc ho hn hnd q1 q2
 | .row1 .unlock,ho =>
   have ht:=h.rest.turns _ hmem;have hb:=h.onSh (s:={ z.shS with who:=0 }) ((h.core.ring _ hmem).mono (by omega)) (h.rest.task z.shS hmem) (by show 0≤z.shS.turns∧z.shS.turns≤_;omega);exact ⟨⟨hok,hsh,ho,hth⟩,⟨hb,hi,by show (z.x.shs.set z.sh _).length=_;rw [List.length_set],rfl,.inl rfl⟩⟩
theorem qj8 {M:Nat} {z:ZT} (h:TB M z) (hth:z.k.th≤1000000) (j:Nat):JT M (Zj j z).1 (Zj j z).2:=by
 unfold Zj;split
 ·next hj=>exact ⟨h.onK ⟨h.k.th,h.k.saw,h.k.t,Nat.zero_le _,(fun t ht=>by cases ht),fun i hi=>by cases hi;exact hj⟩,rfl,hj,hth,rfl⟩
 ·exact ⟨h.onK ⟨h.k.th,h.k.saw,h.k.t,h.k.dl,h.k.due,h.k.sh⟩,trivial⟩
theorem qr9 (h:TB N z) (e:Int):JT (N+1) (qz e z).1 (qz e z).2:=by
 have h1:=h.note { ev0 with kind:=9,err:=e };exact ⟨h1.onK ⟨h1.k.th,h1.k.saw,h1.k.t,h1.k.dl,h1.k.due,h1.k.sh⟩,trivial⟩
theorem qtk {X:ST} {k:Xf} {x:Qj} {i:Nat} (h:qjj X k x i):X.isNil=false:=by
 cases X <;> first | rfl | exact h.elim
theorem JT.pre {s:ST} (h:JT N s z) (hN:N<999999) (hm:qbc s z=true):q1b s z:=by
 obtain ⟨hb,hf⟩:=h;have ho:=hb.ok (by omega)
 match s,hf with
 | .nil,_=>trivial
 | .at none .enter,_=>exact ⟨ho,trivial⟩
 | .at none .gate,_=>exact ⟨ho,trivial⟩
 | .at none .tick,_=>exact ⟨ho,trivial⟩
 | .row2 .leave1 .answer,_=>exact ⟨ho,trivial⟩
 | .row1 .answer,_=>exact ⟨ho,trivial⟩
 | .thn X (.shards1 i),hf =>
   obtain ⟨hi,hlt,hth,hx⟩:=hf;obtain ⟨q1,q2⟩:=q10 hb hN hth hi hx hm;exact ⟨q1,fun _=>⟨q2.b.ok (by omega),by have:=hb.sh4;show i≤64;omega⟩⟩
theorem JT.preY {s:ST} (h:JT N s z) (hN:N<999999):qmr s z:=by
 obtain ⟨hb,hf⟩:=h;have ho:=hb.ok (by omega)
 match s,hf with
 | .nil,_=>trivial
 | .at none .enter,_=>trivial
 | .at none .gate,_=>trivial
 | .at none .tick,_=>trivial
 | .row2 .leave1 .answer,_=>trivial
 | .row1 .answer,_=>trivial
 | .thn X (.shards1 i),hf =>
   obtain ⟨hi,hlt,hth,hx⟩:=hf
   match X,hx with
   | .at (some .lock) (.one2 d),_=>exact ⟨ho,i,hi⟩
   | .at none (.one21 d),_=>trivial
   | .thn (.row1 (.turnA d)) (.one2112 e),_=>trivial
   | .thn (.at (some (.ready j)) (.pops1 n)) (.one211 d),hx=>exact ⟨ho,by rw [hx.2.2.1];exact hlt⟩
   | .thn (.thn (.at none .rec1) (.pops11 n)) (.one211 d),_=>trivial
   | .thn (.thn (.at none .rec11) (.pops11 n)) (.one211 d),_=>trivial
   | .thn (.thn G (.fires1 d n)) .one21121,hx =>
     obtain ⟨_,_,_,_,hg⟩:=hx
     match G,hg with
     | .at none .looks,_=>trivial
     | .at none .claims,_=>trivial
     | .thn (.row1 (.put f)) .claims2,_=>trivial
     | .at none .behind,_=>trivial
     | .at none (.rearm1 next),_=>trivial
     | .at none .finishes,_=>trivial
     | .row2 .rel .drop,_=>trivial
     | .row1 .drop,_=>trivial
   | .row1 .unlock,_=>trivial
theorem JT.step {s:ST} (h:JT N s z) (hN:N<999999) (hm:qbc s z=true):JT (N+1) (Xp s z).1 (Xp s z).2:=by
 obtain ⟨hb,hf⟩:=h;have h1:=hb.mono (M:=N+1) (by omega)
 match s,hf with
 | .nil,_=>exact ⟨h1,trivial⟩
 | .at none .enter,hf =>
   have hc:=hb.core;have hr:=h1.rest;exact ⟨⟨⟨hc.slab,by have:=hc.i0;show 0≤z.x.f.inside+1;omega,by have:=hc.i1;show z.x.f.inside+1≤_;omega,h1.core.tr,hc.sh,h1.core.ring⟩,⟨hr.now,hr.busy,hr.cap,hr.wl,hr.wok,hr.task,hr.turns,hr.ch,hr.sp⟩,⟨h1.k.th,h1.k.saw,h1.k.t,h1.k.dl,h1.k.due,h1.k.sh⟩,h1.ws,h1.sh4⟩,hf⟩
 | .at none .gate,hf =>
   show JT (N+1) (if z.x.f.closed=true then qz 3 z else (.at none .tick,z)).1 (if z.x.f.closed=true then qz 3 z else (.at none .tick,z)).2
   split
   ·exact qr9 hb 3
   ·next hcl=>exact ⟨h1,hf.resolve_left hcl⟩
 | .at none .tick,hf =>
   have hr:=h1.rest;have hn:=hb.rest.now
   have hb2:TB (N+1) ({ z with x:={ z.x with f:={ z.x.f with now:=z.x.f.now+1 } },k:={ z.k with now:=z.x.f.now+1 } }:ZT) :=
    ⟨⟨h1.core.slab,h1.core.i0,h1.core.i1,h1.core.tr,h1.core.sh,h1.core.ring⟩,⟨by show 0≤z.x.f.now+1∧z.x.f.now+1≤_;omega,hr.busy,hr.cap,hr.wl,hr.wok,hr.task,hr.turns,hr.ch,hr.sp⟩,⟨h1.k.th,h1.k.saw,h1.k.t,h1.k.dl,h1.k.due,h1.k.sh⟩,h1.ws,h1.sh4⟩
   exact qj8 (hb2.noteL (by have:=hb.core.tr;show z.x.tr.length+1≤_;omega) _) hf 0
 | .row2 .leave1 .answer,_ =>
   have hc:=hb.core;have hr:=h1.rest;have hl:0≤Zf z.x.f.inside∧Zf z.x.f.inside≤N:=by have:=hc.i0;have:=hc.i1;unfold Zf;split <;> omega
   exact ⟨⟨⟨hc.slab,hl.1,by have:=hl.2;show Zf z.x.f.inside≤_;omega,h1.core.tr,hc.sh,h1.core.ring⟩,⟨hr.now,hr.busy,hr.cap,hr.wl,hr.wok,hr.task,hr.turns,hr.ch,hr.sp⟩,⟨h1.k.th,h1.k.saw,h1.k.t,h1.k.dl,h1.k.due,h1.k.sh⟩,h1.ws,h1.sh4⟩,trivial⟩
 | .row1 .answer,_=>exact ⟨hb.note _,trivial⟩
 | .thn X (.shards1 i),hf =>
   obtain ⟨hi,hlt,hth,hx⟩:=hf;obtain ⟨q1,q2⟩:=q10 hb hN hth hi hx hm
   show JT (N+1) (Xl runT (qbk X z).1 (.shards1 i) (qbk X z).2).1 (Xl runT (qbk X z).1 (.shards1 i) (qbk X z).2).2
   rcases q2.fit with hn | hfx
   ·rw [hn]
    exact qj8 q2.b (by rw [q2.th];exact hth) (i+1)
   ·rw [qav (qtk hfx)]
    exact ⟨q2.b,q2.s,by rw [q2.len];exact hlt,by rw [q2.th];exact hth,hfx⟩
end
structure Xw (x x':Qj):Prop where
 now:x'.f.now=x.f.now
 busy:x'.f.busy=x.f.busy
 cfg:x'.f.cfg=x.f.cfg
 closed:x'.f.closed=x.f.closed
 recs:x'.slab.recs.length=x.slab.recs.length
 len:x'.shs.length=x.shs.length
 who:∀ j,(x'.shs.getD j (Qp 1)).who=(x.shs.getD j (Qp 1)).who
 sh:(∀ s∈x.shs,∀ e∈s.ring.slots,Z3 e.v)→∀ s∈x'.shs,∀ e∈s.ring.slots,Z3 e.v
 turns:∀ N:Nat,(∀ s∈x.shs,0≤s.turns∧s.turns≤N)→∀ s∈x'.shs,0≤s.turns∧s.turns≤N
theorem Xw.refl (x:Qj):Xw x x:=⟨rfl,rfl,rfl,rfl,rfl,rfl,fun _=>rfl,fun h=>h,fun _ h=>h⟩
theorem Xw.trans {x y z:Qj} (a:Xw x y) (b:Xw y z):Xw x z :=
 ⟨b.now.trans a.now,b.busy.trans a.busy,b.cfg.trans a.cfg,b.closed.trans a.closed,b.recs.trans a.recs,b.len.trans a.len,fun j=>(b.who j).trans (a.who j),fun h=>b.sh (a.sh h),fun N h=>b.turns N (a.turns N h)⟩
theorem Xw.rest {N:Nat} {x x':Qj} {ws:List Qg} {p:Qy} (k:Xw x x') (h:qkn N x ws p):qkn N x' ws p :=
 ⟨by rw [k.now];exact h.now,by rw [k.busy];exact h.busy,by rw [k.cfg,k.recs];exact h.cap,by rw [k.len];exact h.wl,h.wok,k.sh h.task,k.turns N h.turns,h.ch,h.sp⟩
def qb0 (k:Qt):Prop:=0≤k.gen∧k.gen≤4294967295
theorem qsi {w:Int} (h0:0≤w):0≤Zp w∧Zp w≤4294967295:=by
 unfold Zp;split
 ·next hk =>
  simp only [okW,Bool.and_eq_true,decide_eq_true_eq] at hk;omega
 ·omega
theorem qww {s:Qn} (hs:Zm s) (k old ev:Int) (h0:0≤old∧old<18446744073709551616∧okW old=true):0≤(s.try k old ev).2.1:=by
 unfold Qn.try;split
 ·next hh =>
  have hr:0≤(s.recs.getD k.toNat Rec.zero).w:=by
   rw [List.getD_eq_getElem?_getD];cases h1:s.recs[k.toNat]? with
   | none=>show (0:Int)≤0;omega
   | some r=>exact (hs.recs r (List.mem_of_getElem? h1)).w0
  simp only;split
  ·exact hr
  ·next hx =>
   split
   ·have:=qdt (e:=ev) (p:=decide (0<(s.recs.getD k.toNat Rec.zero).p)) h0.1 h0.2.1 h0.2.2 (Decidable.byContradiction hx)
    exact this.2.2.2.2.2.2.2.1
   ·exact hr
 ·show (0:Int)≤0;omega
section
variable {N:Nat} {k:Qt} {x:Qj}
theorem Zc (k:Qt) (E:EvS) (x:Qj):Xw x (qi8 k E x):=⟨rfl,rfl,rfl,rfl,rfl,rfl,fun _=>rfl,fun h=>h,fun _ h=>h⟩
theorem qk {s:Qn} (hl:s.recs.length=x.slab.recs.length):Xw x { x with slab:=s }:=⟨rfl,rfl,rfl,rfl,hl,rfl,fun _=>rfl,fun h=>h,fun _ h=>h⟩
theorem qe1 (n:Int):Xw x { x with f:={ x.f with inside:=n } }:=⟨rfl,rfl,rfl,rfl,rfl,rfl,fun _=>rfl,fun h=>h,fun _ h=>h⟩
theorem qjy {i:Nat} {s:Q0} (hs:x.shs[i]?=some s) (r:Qs) (hr:(∀ e∈s.ring.slots,Z3 e.v)→∀ e∈r.slots,Z3 e.v):Xw x { x with shs:=x.shs.set i { s with ring:=r } }:=by
 have hlt:=(List.getElem?_eq_some_iff.1 hs).1;have hm:=List.mem_of_getElem? hs;refine ⟨rfl,rfl,rfl,rfl,rfl,List.length_set,fun j=>?_,fun h a ha=>?_,fun N h a ha=>?_⟩
 ·show ((x.shs.set i _).getD j (Qp 1)).who=_
  rw [qhx _ _ _ _ _ hlt];split
  ·next hj=>subst hj;rw [List.getD_eq_getElem?_getD,hs];rfl
  ·rfl
 ·rcases List.mem_or_eq_of_mem_set ha with ha | rfl
  ·exact h a ha
  ·exact hr (h s hm)
 ·rcases List.mem_or_eq_of_mem_set ha with ha | rfl
  ·exact h a ha
  ·exact h s hm
theorem qll (r:Qs) (t:Xt):(stepT r t).1.slots=r.slots:=by
 unfold stepT qes qal qdr;split
 ·rfl
 ·split
  ·rfl
  ·split
   ·rfl
   ·split <;> rfl
theorem qks {r:Qs} {t:Xt} {v:Qm} (hv:Z3 v) (h:∀ e∈r.slots,Z3 e.v):∀ e∈(Zs r t v).1.slots,Z3 e.v:=by
 unfold Zs;split
 ·intro e he
  rcases List.mem_or_eq_of_mem_set he with he | rfl
  ·exact h e he
  ·exact hv
 ·exact h
theorem qka (k:Qt) {v:Qm} (hv:Z3 v):Xw x (Y2 v (k,x)).2:=by
 unfold Y2;simp only;split
 ·exact Xw.refl x
 ·rename_i i t ht
  split
  ·exact Xw.refl x
  ·rename_i s hs
   exact qjy hs _ (fun h=>qks hv h)
theorem qn1 {v:Qm} (h:qb0 k):qb0 (Y2 v (k,x)).1:=by
 unfold Y2;simp only;split
 ·exact h
 ·split
  ·exact h
  ·exact h
theorem qb9 (hc:Zr N x) (ev:Int):Xw x (Y8 ev (k,x)).2∧qb0 (Y8 ev (k,x)).1:=by
 obtain ⟨h1,h2⟩:=qbp hc.slab k.slot (x.slab.word k.slot) ev;exact ⟨qk h2,qsi (qww hc.slab _ _ _ (J5 hc.slab _))⟩
theorem qwp (hc:Zr N x) (hk:Zo N k x) (hg:qb0 k):Z3 (zv (k,x)):=by
 refine ⟨hk.id,⟨hg.1,by have:=hg.2;show k.gen≤_;omega⟩,hk.c0,?_⟩
 show 0≤x.slab.period k.slot∧x.slab.period k.slot < _
 unfold Qn.period;split
 ·rw [List.getD_eq_getElem?_getD]
  cases h1:x.slab.recs[k.slot.toNat]? with
  | none=>exact ⟨by show (0:Int)≤0;omega,by show (0:Int) < _;omega⟩
  | some r=>have:=hc.slab.recs r (List.mem_of_getElem? h1);exact ⟨this.p0,this.p1⟩
 ·omega
theorem q2k:Z3 { Qm.zero with slot:=-1 }:=⟨by decide,by decide,by decide,by decide⟩
theorem qtt (hc:Zr N x) (hk:Zo N k x) (hg:qb0 k) (a:AC):Xw x (runA a (k,x)).2∧qb0 (runA a (k,x)).1:=by
 cases a with
 | ends1=>exact ⟨Zc _ _ _,hg⟩
 | leaves1=>exact ⟨qe1 _,hg⟩
 | undo =>
   obtain ⟨h1,h2⟩:=qb9 (k:=k) hc 9;exact ⟨h1.trans (Zc _ _ _),h2⟩
 | drop=>exact ⟨qk (qhs hc.slab).2,hg⟩
 | tries1=>exact qb9 (k:=k) hc 10
 | again1=>exact ⟨qka k q2k,qn1 hg⟩
theorem qng (k:Qt) (s:Qn):(lookW k s).1.gen=k.gen:=by
 unfold lookW;split
 ·rfl
 ·split <;> rfl
theorem qpl (hc:Zr N x) (hk:Zo N k x) (hg:qb0 k) (m:MC):Xw x (zr m (k,x)).2.2∧qb0 (zr m (k,x)).2.1:=by
 cases m with
 | ends=>exact ⟨Xw.refl x,hg⟩
 | leaves=>exact ⟨Xw.refl x,hg⟩
 | right =>
   show Xw x (if qt6 k then _ else _:SC × ZC).2.2∧qb0 (if qt6 k then _ else _:SC × ZC).2.1
   split
   ·exact ⟨Zc _ _ _,hg⟩
   ·exact ⟨Xw.refl x,hg⟩
 | enter=>exact ⟨qe1 _,hg⟩
 | gate =>
   show Xw x (if x.f.closed=true then _ else _:SC × ZC).2.2∧qb0 (if x.f.closed=true then _ else _:SC × ZC).2.1
   split
   ·exact ⟨Zc _ _ _,hg⟩
   ·split
    ·exact ⟨Xw.refl x,hg⟩
    ·exact ⟨Xw.refl x,hg⟩
 | asks =>
   show Xw x (match k.rq with | none=>_ | some q=>_:SC × ZC).2.2∧qb0 (match k.rq with | none=>_ | some q=>_:SC × ZC).2.1
   split
   ·exact ⟨Xw.refl x,hg⟩
   ·next q hq =>
    obtain ⟨h1,h2,h3⟩:=qno hc.slab (hk.rq q hq);unfold qcd;simp only;split
    ·exact ⟨(qk h3).trans (Zc _ _ _),hg⟩
    ·split
     ·exact ⟨qk h3,hg⟩
     ·exact ⟨qk h3,hg⟩
 | queues =>
   show Xw x (match k.tk with | none=>_ | some (i,t)=>_:SC × ZC).2.2∧qb0 (match k.tk with | none=>_ | some (i,t)=>_:SC × ZC).2.1
   split
   ·exact ⟨Xw.refl x,hg⟩
   ·next i t htk =>
    show Xw x (match x.shs[i]? with | none=>_ | some s=>_:SC × ZC).2.2∧qb0 (match x.shs[i]? with | none=>_ | some s=>_:SC × ZC).2.1
    split
    ·exact ⟨Xw.refl x,hg⟩
    ·next s hs =>
     have hr:=qjy (x:=x) hs (stepT s.ring t).1 (fun h=>by rw [qll];exact h);unfold Z1;simp only;split
     ·exact ⟨hr,hg⟩
     ·split
      ·exact ⟨hr.trans (Zc _ _ _),hg⟩
      ·split
       ·exact ⟨hr,hg⟩
       ·split
        ·exact ⟨hr,hg⟩
        ·exact ⟨hr,hg⟩
 | submits =>
   obtain ⟨h1,h2⟩:=qb9 (k:=k) hc 2;exact ⟨h1.trans (Zc _ _ _),h2⟩
 | fills=>exact ⟨qka k (qwp hc hk hg),qn1 hg⟩
 | looks =>
   have hl:qb0 (lookW k x.slab).1:=by unfold qb0;rw [qng];exact hg
   show Xw x (if (lookW k x.slab).2=0 then _ else _:SC × ZC).2.2∧qb0 (if (lookW k x.slab).2=0 then _ else _:SC × ZC).2.1
   split
   ·show Xw x (if k.kind=3 then _ else _:SC × ZC).2.2∧qb0 (if k.kind=3 then _ else _:SC × ZC).2.1
    split
    ·exact ⟨Xw.refl x,hl⟩
    ·exact ⟨Xw.refl x,hl⟩
   ·show Xw x (if (lookW k x.slab).2=1 then _ else _:SC × ZC).2.2∧qb0 (if (lookW k x.slab).2=1 then _ else _:SC × ZC).2.1
    split
    ·exact ⟨Zc _ _ _,hl⟩
    ·exact ⟨Zc _ _ _,hl⟩
 | again =>
   have hl:qb0 (lookW k x.slab).1:=by unfold qb0;rw [qng];exact hg
   show Xw x (if (lookW k x.slab).2=0 then _ else _:SC × ZC).2.2∧qb0 (if (lookW k x.slab).2=0 then _ else _:SC × ZC).2.1
   split
   ·exact ⟨Xw.refl x,hl⟩
   ·exact ⟨Zc _ _ _,hl⟩
 | tries =>
   obtain ⟨h1,h2⟩:=qbp hc.slab k.slot k.saw k.event;have hs:Xw x (qx (k,x)).1.2:=qk h2;have hgn:qb0 (qx (k,x)).1.1:=qsi (qww hc.slab _ _ _ hk.saw)
   show Xw x (if (qx (k,x)).2≠0 then _ else _:SC × ZC).2.2∧qb0 (if (qx (k,x)).2≠0 then _ else _:SC × ZC).2.1
   split
   ·show Xw x (if k.kind=3 then _ else _:SC × ZC).2.2∧qb0 (if k.kind=3 then _ else _:SC × ZC).2.1
    split
    ·exact ⟨hs,hgn⟩
    ·exact ⟨hs,hgn⟩
   ·show Xw x (if k.kind=3 then _ else _:SC × ZC).2.2∧qb0 (if k.kind=3 then _ else _:SC × ZC).2.1
    split
    ·exact ⟨hs.trans (Zc _ _ _),hgn⟩
    ·show Xw x (if k.kind=5 then _ else _:SC × ZC).2.2∧qb0 (if k.kind=5 then _ else _:SC × ZC).2.1
     split
     ·exact ⟨hs.trans (Zc _ _ _),hgn⟩
     ·exact ⟨hs.trans (Zc _ _ _),hgn⟩
theorem qmi {s:SC} (h:JC N s (k,x)) (hg:qb0 k):Xw x (qan s (k,x)).2.2∧qb0 (qan s (k,x)).2.1:=by
 obtain ⟨hc,hk,hf⟩:=h;simp only at hc hk hf;have ha:=fun a=>qtt hc hk hg a
 match s,hf with
 | .nil,_=>exact ⟨Xw.refl x,hg⟩
 | .at none m,hf=>exact qpl hc hk hg m
 | .row1 .ends1,_=>exact ha .ends1
 | .thn (.row1 .leaves1) .ends,_=>exact ha .leaves1
 | .thn (.row2 .undo .drop) .leaves,_=>exact ha .undo
 | .thn (.row1 .drop) .leaves,_=>exact ha .drop
 | .thn (.row1 .again1) .leaves,_=>exact ha .again1
 | .thn (.row2 .tries1 .drop) .ends,_=>exact ha .tries1
 | .thn (.row1 .drop) .ends,_=>exact ha .drop
end
end
section
open Go.RowKit Go.Shelf
attribute [local go_sem] Oper.semAt_some
end
section
open Go.RowKit Go.Shelf Go.Conc
attribute [local go_sem] Oper.semAt_some
theorem qap:∀ (l:List Q7) (j:Nat) (f:Q7) (i:Nat),l[j]?=some f→i<4→(Jh l)[j*4+i]?=f.vals[i]?
 | [],j,f,i,h,_=>by cases h
 | a::l,0,f,i,h,hi=>by
   cases h
   show (a.vals++Jh l)[0*4+i]?=_
   rw [List.getElem?_append_left (by show 0*4+i<4;omega)];simp
 | a::l,j+1,f,i,h,hi=>by
   show (a.vals++Jh l)[(j+1)*4+i]?=_
   rw [List.getElem?_append_right (by show 4≤(j+1)*4+i;omega)];have:=qap l j f i h hi;rw [← this];congr 1
   show (j+1)*4+i - 4=_
   omega
end
section
open Go.RowKit Go.Shelf
attribute [local go_sem] Oper.semAt_some
section
variable {lb:Nat} {l hs:List Q7} {g gh:List Blk} {hv:Value}
theorem qja (a b:List Q7):Jh (a++b)=Jh a++Jh b:=by simp [Jh,qbi]
theorem qjl (a:List Q7):(Jh a).length=a.length*4:=by
 induction a with
 | nil=>rfl
 | cons x a ih =>
   show (x.vals++Jh a).length=_
   rw [List.length_append,ih]
   show 4+_=_
   rw [List.length_cons];omega
theorem qrd (a:List Q7):∀ u∈Jh a,u.oneCell'=true:=by
 induction a with
 | nil=>intro u hu;cases hu
 | cons x a ih =>
   intro u hu;rcases List.mem_append.1 (show u∈x.vals++Jh a from hu) with hu | hu
   ·simp only [Q7.vals,List.mem_cons,List.not_mem_nil,or_false] at hu
    rcases hu with rfl | rfl | rfl | rfl <;> rfl
   ·exact ih u hu
theorem qu2 (hg:qfh lb l g) (hh:Qu 82 4 hv hs.length (Jh hs) gh) (h0:0<hs.length) (hn:l.length+hs.length≤2000000) :
 Qa prog 202 #[Qb lb,hv] [g,gh] fun e gs=>e=.returned (.tuple #[])∧∃ g',qfh lb (l++hs) g'∧gs=[g',gh]:=by
 obtain ⟨v,gr,hr,rfl⟩:=hg;have HH:=Vh hh;obtain ⟨hb,hcap,hcur,rfl,rfl,hc1,hc2,hc3,hc4⟩:=hh.open h0;obtain ⟨av,cap,hv⟩:=Qu.val hr;subst hv;refine GO fun w HT=>?_
 have HT:=Vh (HT.out.sum (H':=[[cl lb 200 #[.slice av l.length cap]],gr,[cl hb 82 hcur]]));have c0:=HT.out.cell 0 0 rfl 0;have f0:=HT.out.free 0 0 rfl 0;simp only [GE2] at c0
 have hnews:∀ j u,(Jh hs)[j]?=some u→w.cell? ((⟨hb,0,none⟩:Addr).add j)=some u:=fun j u hu=>by
  have hj:=(List.getElem?_eq_some_iff.1 hu).1;rw [qjl] at hj;have:=(HT.out.cell 2 0 rfl j).trans ((hc4 j hj).trans hu)
  have e:(⟨hb,0,none⟩:Addr).add j=⟨hb,j,none⟩:=by
   unfold Addr.add;split
   ·next h=>subst h;rfl
   ·simp
  rw [e];exact this
 have HR:=Vh hr;have HNW:=Vh hnews;have HO:=Vh (qrd hs);have HL:=Vh (qjl hs);have HF:=Vh (qja l hs);clear hr hh hc3 hc4 hnews;go_enter func202,ntmps202
 go_wp2_with (
  at_builtin
  (with_reducible refine Z0 rfl (.tmp 10) (.tmp 11) 70 rfl 82 4 32 _ underlying70 qb2 rfl (by decide) HT.out 1 rfl rfl HR.out rfl ⟨hb,0,none⟩ hs.length hcap (Jh hs) rfl HL.out HNW.out HO.out (by unfold maxLen;omega) (by omega) ?_)
  intro v1 w2 g2 r1 T1;simp only [List.set_cons_zero,List.set_cons_succ] at T1;have c1:=T1.cell 0 0 rfl 0;have f1:=T1.free 0 0 rfl 0;have lt1:=T1.lt 0 0 rfl;obtain ⟨a1,cap1,hv1⟩:=Qu.val r1;subst hv1;have T1:=Vh T1;have r1:=Vh r1
  simp only [GE2] at c1)
 go_end0
 exact ⟨_,⟨rfl,[cl lb 200 #[.slice a1 (l.length+hs.length) cap1]]++g2,⟨_,g2,by rw [List.length_append,HF.out];exact r1.out,rfl⟩,rfl⟩,(((T1.out.set 0 0 rfl 0 (.slice a1 (l.length+hs.length) cap1)).eq (H':=[[cl lb 200 #[.slice a1 (l.length+hs.length) cap1]],g2,[cl hb 82 hcur]]) rfl).sum)⟩
end
theorem qv0 (a b c d:Int) (w:World):Calls prog 79 #[.agg #[.int .u64 a,.int .u64 b,.int .u64 c,.int .u64 d]] w fun e w'=>e=.returned (.bool true)∧∃ C T,w'=w.alloc (.cells C T):=by
 go_enter func79,ntmps79
 go_wp2
 go_ret
 exact ⟨rfl,_,_,rfl⟩
theorem qp6 (bl ba lb:Nat) {l:List Q7} {g:List Blk} (hg:qfh lb l g) (hn:l.length≤2000000) :
 qeo prog 102 #[Qb bl,Qb ba] (qgm (l.map fun f=>f.vals.toArray) [[cl bl 103 #[Qb lb]],[cl ba 157 #[.func (.func 79) #[] #[]]],g]) (0:Nat):=by
 intro ly J Jx hT hY H0 O0 W hJ0 hO hH;have hO':O0=[[cl bl 103 #[Qb lb]],[cl ba 157 #[.func (.func 79) #[] #[]]],g]:=hO;subst hO';obtain ⟨v,gr,hr,rfl⟩:=hg;obtain ⟨av,cap,hv⟩:=Qu.val hr;subst hv;obtain ⟨O,hOd⟩:∃ O:GH,O=[[cl bl 103 #[Qb lb]],[cl ba 157 #[.func (.func 79) #[] #[]]],[cl lb 200 #[.slice av l.length cap]]++gr]:=⟨_,rfl⟩;rw [← hOd] at hH ⊢;have T0:=TG.refl hH;have hHR:=hH.right;rw [hOd] at hHR;have T1:=(TG.refl hHR).sum (H':=[[cl bl 103 #[Qb lb]],[cl ba 157 #[.func (.func 79) #[] #[]]],[cl lb 200 #[.slice av l.length cap]],gr]);have c0:=T1.cell 0 0 rfl 0;have l0:=T1.cell 2 0 rfl 0;simp only [GE2] at c0 l0;have HR:=Vh hr;have HH:=Vh (And.intro hJ0 T0);have HY:=Vh hY;have HO:=Vh hOd;clear hr hO hH hY hT hJ0 T0 T1 hHR hOd;refine (callsIn_wide (n:=9)).1 (callsIn_of_wp func102 rfl trivial ?_ rfl)
 simp only [ntmps102,List.size_toArray,List.length_cons,List.length_nil,Nat.reduceAdd,Nat.reduceSub,Array.replicate_succ,Array.replicate_zero,List.push_toArray,List.append_toArray,List.nil_append,List.cons_append];gi_wp2
 clear c0 l0
 gi_loopw [13] (fun i wr=>∃ (k:Nat) (H:GH),k≤l.length∧i=.int .i64 k∧J k H∧TG (H0++O) W (H++O) wr) (fun i _=>l.length+1 - (intOf i).toNat)
 case atStart=>exact ⟨0,H0,by omega,rfl,HH.out.1,HH.out.2⟩
 case round =>
  obtain ⟨k,H,hk,rfl,hj,T⟩:=hrel;clear HH;by_cases hlt:k<l.length
  ·obtain ⟨f,hf⟩:∃ f,l[k]?=some f:=⟨_,List.getElem?_eq_getElem hlt⟩
   have hat:(l.map fun f=>f.vals.toArray)[k]?=some f.vals.toArray:=by rw [List.getElem?_map,hf];rfl
   have TR:=T.has.right;rw [HO.out] at TR;have TE:=(TG.refl TR).sum (H':=[[cl bl 103 #[Qb lb]],[cl ba 157 #[.func (.func 79) #[] #[]]],[cl lb 200 #[.slice av l.length cap]],gr]);obtain ⟨rb,cap',cur,hv,rfl,_,hcm,_,hcur⟩:=HR.out.open (by omega);cases hv
   have r0:=(TE.cell 3 0 rfl (k*4)).trans ((hcur (k*4) (by omega)).trans (qap l k f 0 hf (by decide)));have r1:=(TE.cell 3 0 rfl (k*4+1)).trans ((hcur (k*4+1) (by omega)).trans (qap l k f 1 hf (by decide)));have r2:=(TE.cell 3 0 rfl (k*4+2)).trans ((hcur (k*4+2) (by omega)).trans (qap l k f 2 hf (by decide)));have r3:=(TE.cell 3 0 rfl (k*4+3)).trans ((hcur (k*4+3) (by omega)).trans (qap l k f 3 hf (by decide)));have a0:=TE.cell 1 0 rfl 0;simp only [Q7.vals,List.getElem?_cons_zero,List.getElem?_cons_succ,List.getElem?_toArray] at r0 r1 r2 r3 a0;have lta:=TE.lt 1 0 rfl;simp only [] at lta;have T2:=T.alloc0 (.cells #[.int .u64 f.id,.int .u64 f.gen,.int .u64 f.dl,.int .u64 f.tick] 82);have HT2:=Vh T2;have HK:=Vh (And.intro hj hat);clear T TE TR hcur hf hat hj T2;gi_wp2
   refine ⟨trivial,(callsIn_wide (n:=8)).2 ((qv0 _ _ _ _ _).mono ?_)⟩
   rintro e W1 ⟨rfl,C1,T1,rfl⟩;have HT2:=Vh (HT2.out.alloc0 (.cells C1 T1));have hy0:=HY.out k #[.agg f.vals.toArray] [] (k+1) H _ HK.out.1 ⟨⟨_,HK.out.2,rfl⟩,rfl,rfl⟩ (by rw [List.append_nil];exact HT2.out.has.left);obtain ⟨fn,tmps,assign,body,hy,hR⟩:=Zl (n:=8) hy0;have HRR:=Vh hR;rw [Jg] at hy;clear hy0 hR;gi_wp2
   refine HRR.out.mono ?_
   rintro e W' ⟨H',hT',hj'⟩;have T7:=HT2.out.trans ((hT'.app (a':=H) (by simp)).frame HT2.out.has);have HT7:=Vh T7;rcases hj' with ⟨rfl,hj'⟩ | ⟨rfl,hj'⟩
   ·have HJ:=Vh hj'
    clear hT' T7 hj' hy r0 r1 r2 r3 a0;gi_wp2
    go_roundw
    case rel=>exact ⟨k+1,H',by omega,by go_num,HJ.out,HT7.out⟩
    case measure=>simp [intOf];omega
   ·have HJ:=Vh hj'
    clear hT' T7 hj' hy r0 r1 r2 r3 a0;gi_wp2
    refine bodyPost_ret (results_none rfl _ _ _) rfl ?_
    exact ⟨⟨_,rfl⟩,k+1,H',_,HT7.out,.inr HJ.out⟩
  ·obtain rfl:k=l.length:=by omega
   gi_wp2
   go_end0
   exact ⟨⟨_,rfl⟩,l.length,H,_,T,.inl ⟨(List.length_map _).symm,hj,by rw [HO.out];rfl⟩⟩
theorem qp0 (lb:Nat):Qa prog 78 #[Qb lb,.func (.func 79) #[] #[]] [] fun e gs=>∃ bl ba,e=.returned (.func (.func 102) #[] #[Qb bl,Qb ba]) ∧
 gs=[[cl bl 103 #[Qb lb]],[cl ba 157 #[.func (.func 79) #[] #[]]]]:=by
 refine GO fun w HT=>?_
 go_enter func78,ntmps78
 go_wp2
 go_ret
 exact ⟨_,⟨_,_,rfl,rfl⟩,(HT.out.alloc rfl _ _).alloc (k:=w.heap.size+1) (by simp) _ _⟩
theorem qvl {lb:Nat} {l:List Q7} {g:List Blk} (hg:qfh lb l g) (hn:l.length≤1000000):Qa prog 58 #[Qb lb] [g] fun e gs=>∃ v gv,e=.returned v∧Qu 82 4 v l.length (Jh l) gv∧gs=[g,gv]:=by
 have HC:=Vh (show ∀ bl ba,_ from fun bl ba=>qpf (enters_of func102 (by kernel_rfl) rfl) (qp6 bl ba lb hg (by omega)) (fun c hc=>by
  obtain ⟨a,_,rfl⟩:=List.mem_map.1 hc
  exact ⟨_,_,_,_,rfl⟩) (by rw [List.length_map];exact hn))
 simp only [List.length_map] at HC;refine GO fun w HT=>?_
 go_enter func58,ntmps58
 go_wp2_with fail
 refine Qa.run (qp0 lb) (HT.out) [] ?_
 rintro e w1 gs ⟨bl,ba,rfl,rfl⟩ HT;simp only [PU] at HT;go_wp2_with fail
 refine Qa.run (HC.out bl ba) (HT.out) [1,2,0] ?_
 rintro e w1 gs ⟨v,gv,rfl,hr,rfl⟩ HT;simp only [PU] at HT;obtain ⟨av,cap,hv⟩:=Qu.val hr;subst hv;have HR:=Vh hr;clear hr;go_wp2
 go_ret
 exact ⟨_,⟨_,gv,rfl,HR.out,rfl⟩,HT.out.pick [0,3] rfl⟩
end
section
open Go.RowKit Go.Shelf
structure qxp where
 holds:List Q7
 worked:Int
inductive MW where
 | takes | takes1
inductive AW where
 | puts
inductive YW where
 | ready
abbrev SW:Type:=St MW AW YW
structure ZW where
 k:qxp
 x:Qj
 p:Qy
 lg:List Q7
def qxb:MW→ZW→SW × ZW
 | .takes,z=>(.at (some .ready) .takes1,z)
 | .takes1,z=>(.thn (.row1 .puts) .takes,{ z with k:={ z.k with holds:=z.k.holds++[z.p.take.2.1] },p:=z.p.take.1,x:={ z.x with f:={ z.x.f with busy:=z.x.f.busy+1 } } })
def qug:AW→ZW→ZW
 | .puts,z=>{ z with lg:=z.lg++z.k.holds,k:=⟨[],z.k.worked+1⟩,x:={ z.x with f:={ z.x.f with busy:=Zf z.x.f.busy } } }
def q20:YW→ZW→Bool
 | .ready,z=>decide (0<(z.p.ch.length:Int)+z.p.sp.length)
structure qlc (z:ZW):Prop where
 busy:0≤z.x.f.busy∧z.x.f.busy≤1000000
 pipe:qm9 z.p
 room:z.p.room≤1000000
 holds:z.k.holds.length≤1000
 lg:z.lg.length≤1000000
 worked:0≤z.k.worked∧z.k.worked≤1000000
def preW (_:MW) (z:ZW):Prop:=qlc z
def q0p (_:AW) (z:ZW):Prop:=qlc z∧0<z.k.holds.length
def q08 (_:YW) (z:ZW):Prop:=qlc z
def qbh (fb:Nat) (pv hv:Value) (n:Int):Array Value:=#[Qb fb,pv,hv,.int .i64 n]
abbrev Yo (wb fb:Nat) (pv hv:Value) (n:Int):List Blk:=[cl wb 190 (qbh fb pv hv n)]
def qqk (L:Lay) (wb:Nat) (pv:Value) (e:List Blk) (z:ZW) (gK gF:List Blk):Prop :=
 ∃ hv gh gC gP gL,Qu 82 4 hv z.k.holds.length (Jh z.k.holds) gh∧Qf L z.x gC∧Xs L.p.pb z.p gP∧qfh L.p.lb z.lg gL∧gK=Yo wb L.fb pv hv z.k.worked++(gh++e)∧gF=gC++(gP++gL)
def qz7 (wb:Nat) (e:List Blk) (fn:FuncId) (v:Value):Prop:=∃ bk,v=.func (.func fn) #[] #[Qb bk]∧cl bk 139 #[Qb wb]∈e
def VMW (wb:Nat) (e:List Blk) (f:MW) (v:Value) (g:List Blk):Prop:=g=[]∧match f with
 | .takes=>v=.func (.func 133) #[Qb wb] #[]
 | .takes1=>qz7 wb e 157 v
def VAW (wb:Nat) (e:List Blk) (f:AW) (v:Value) (g:List Blk):Prop:=g=[]∧v=.func (.func 160) #[Qb wb] #[]
def VYW (wb:Nat) (e:List Blk) (f:YW) (v:Value) (g:List Blk):Prop:=g=[]∧qz7 wb e 156 v
def qvi (L:Lay) (wb:Nat) (pv:Value):qgl :=
 ⟨MW,AW,YW,ZW,List Blk,leE,qqk L wb pv,VMW wb,VAW wb,VYW wb,qxb,qug,q20,preW,q0p,q08⟩
theorem qz7.le {wb:Nat} {e e':List Blk} {fn:FuncId} {v:Value} (h:qz7 wb e fn v) (hl:leE e e'):qz7 wb e' fn v:=by
 obtain ⟨bk,h1,h2⟩:=h;exact ⟨bk,h1,hl _ h2⟩
theorem qej (L:Lay) (wb:Nat) (pv:Value) (e:List Blk):((qvi L wb pv).on e).Vals where
 vm {f v g} h:=by
  obtain ⟨_,h⟩:=h;cases f with
  | takes=>exact ⟨_,_,_,h⟩
  | takes1=>obtain ⟨bk,h,_⟩:=h;exact ⟨_,_,_,h⟩
 va {f v g} h:=⟨_,_,_,h.2⟩
 vy {f v g} h:=by obtain ⟨_,bk,h,_⟩:=h;exact ⟨_,_,_,h⟩
def SRW (L:Lay) (wb:Nat) (pv:Value) (s:SW) (en:Ending) (g' l:List Blk):Prop :=
 ∃ m d,en=.returned (.agg #[m,d])∧∀ e,leE l e→(qvi L wb pv).SV e s m d g'
section
variable {L:Lay} {x:Qj} {p:Qy} {lg:List Q7} {g gK gF e:List Blk} {wb:Nat} {pv:Value} {k:qxp}
theorem qxa (L:Lay) (wb:Nat) (pv:Value):Qa prog 133 #[Qb wb] [] fun en gs=>∃ g' l,SRW L wb pv (.at (some .ready) .takes1) en g' l∧gs=[g',l]:=by
 refine GO fun w HT=>?_
 go_enter func133,ntmps133
 go_wp2_with fail
 refine Qa.run (qd5 156 157 #[] #[] #[Qb w.heap.size] #[Qb w.heap.size]) ((HT.out.alloc (k:=w.heap.size) rfl 139 #[Qb wb]).alloc (k:=w.heap.size+1) (by simp) 180 #[.nilFunc,.nilFunc]) [] ?_
 rintro e w1 gs ⟨rfl,rfl⟩ HT;simp only [PU] at HT;obtain ⟨e0,e1⟩:=Ce2 (HT.out.cell 1 0 rfl) 0 1;obtain ⟨fe0,fe1⟩:=Ce2 (HT.out.free 1 0 rfl) 0 1;simp only [GE4] at e0 e1;go_wp2
 exact bodyPost_ret (v:=.agg #[_,_]) (by simp [results,results133,go_sem,e0,e1]) rfl ⟨_,⟨[],[cl w.heap.size 139 #[Qb wb]],⟨_,_,rfl,fun e he=>⟨[],[],⟨rfl,w.heap.size,rfl,he _ (by simp)⟩,⟨rfl,w.heap.size,rfl,he _ (by simp)⟩,rfl⟩⟩,rfl⟩,(((HT.out.set 1 0 rfl 0 _).set 1 0 rfl 1 _).pick [0] rfl).sum⟩
theorem qy3 (hz:qqk L wb pv e ⟨k,x,p,lg⟩ gK gF) (hp:qlc ⟨k,x,p,lg⟩) (bk:Nat) (hb:cl bk 139 #[Qb wb]∈e) :
 Qe prog 156 #[Qb bk] [gK,gF] (.bool (q20 .ready ⟨k,x,p,lg⟩)):=by
 have hch:p.ch.length≤1000000:=Nat.le_trans hp.pipe.ch hp.room;have hsp:p.sp.length≤1000000:=hp.pipe.sp
 show Qe _ _ _ _ (.bool (decide (0<(p.ch.length:Int)+p.sp.length)))
 clear hp;obtain ⟨hv,gh,gC,gP,gL,hr,hx,hpp,hl,rfl,rfl⟩:=hz;intro w hw;have HT:=Vh ((TG.refl hw).sum (H':=[Yo wb L.fb pv hv k.worked,gh,e,gC,gP,gL]));have HX:=Vh hx;have HPL:=Vh (qj7 hpp ⟨hch,hsp⟩);have b0:=HT.out.mem_cell 2 hb 0;have lt:=HT.out.lt 0 0 rfl;simp only [GE2] at b0 lt;have k0:=HT.out.cell 0 0 rfl 0;simp only [qbh,GE3] at k0;generalize hm:(p.ch.length:Int)+p.sp.length=m at *;clear hx hr hpp hl hw hch hsp hm;by_cases h0:0<m
 ·have hd:decide (0<m)=true:=decide_eq_true h0
  rw [hd];go_enter func156,ntmps156
  go_wp2_with fail
  refine (Qe.use (Jr HX.out) (HT.out) [3] rfl rfl).mono ?_
  rintro e w1 ⟨rfl,mq,rfl⟩;go_wp2_with fail
  refine (Qe.use (HPL.out) (HT.out.drewN _) [4] rfl rfl).mono ?_
  rintro e w1 ⟨rfl,mq,rfl⟩;go_wp2
  go_ret
  exact ⟨rfl,_,rfl⟩
 ·have hd:decide (0<m)=false:=decide_eq_false h0
  rw [hd];go_enter func156,ntmps156
  go_wp2_with fail
  refine (Qe.use (Jr HX.out) (HT.out) [3] rfl rfl).mono ?_
  rintro e w1 ⟨rfl,mq,rfl⟩;go_wp2_with fail
  refine (Qe.use (HPL.out) (HT.out.drewN _) [4] rfl rfl).mono ?_
  rintro e w1 ⟨rfl,mq,rfl⟩;go_wp2
  go_ret
  exact ⟨rfl,_,rfl⟩
theorem q26 (hz:qqk L wb pv e ⟨k,x,p,lg⟩ gK gF) (hp:qlc ⟨k,x,p,lg⟩) (h0:0<k.holds.length) :
 Qa prog 160 #[Qb wb] [gK,gF] fun en gs=>∃ gK' gF',en=.returned (.tuple #[])∧qqk L wb pv e (qug .puts ⟨k,x,p,lg⟩) gK' gF'∧gs=[gK',gF']:=by
 have hbz:=hp.busy;have hlg:=hp.lg;have hho:=hp.holds;have hwk:=hp.worked;simp only at hbz hlg hho hwk;clear hp;have HPT:=Vh (show ∀ g hv gh,qfh L.p.lb lg g→Qu 82 4 hv k.holds.length (Jh k.holds) gh→_ from fun g hv gh h1 h2=>qu2 (hs:=k.holds) h1 h2 h0 (by omega));have HCR:=Vh (show ∀ g,Qf L x g→_ from fun g hg=>qve hg hbz);obtain ⟨hv,gh,gC,gP,gL,hr,hx,hpp,hl,rfl,rfl⟩:=hz;obtain ⟨av,cap,hv'⟩:=Qu.val hr;subst hv';refine GO fun w HT=>?_
 have HT:=Vh (HT.out.sum (H':=[Yo wb L.fb pv (.slice av k.holds.length cap) k.worked,gh,e,gC,gP,gL]));have HX:=Vh hx;have HR:=Vh hr;have HPP:=Vh hpp;have HL:=Vh hl;clear hx hr hpp hl;obtain ⟨k0,k2⟩:=Ce2 (HT.out.cell 0 0 rfl) 0 2;simp only [qbh,GE3] at k0 k2;go_enter func160,ntmps160
 go_wp2_with fail
 refine Qc 9 (by kernel_rfl) (by kernel_rfl) ?_
 simp only [TD4]
 repeat (go_big_quiet_step ((first | (go_at_call 57;with_reducible exact Qe.quiet (qiz HX.out) HT.out _ [3] rfl rfl))))
 refine wpQuiet_nil (QE fun nq=>?_)
 have HT:=Vh (HT.out.drewN nq);go_wp2_with fail
 refine (Qa.use (HPT.out _ _ _ HL.out HR.out) (HT.out) [5,1] rfl rfl).mono ?_
 rintro e w1 ⟨gs,⟨rfl,g1,hl1,rfl⟩,Ta⟩;simp only [PU] at Ta;have HL:=Vh hl1;clear hl1 k0 k2;have HT:=Vh Ta;clear Ta;go_wp2_with fail
 refine ⟨rfl,?_⟩
 obtain ⟨k0,k2,k3⟩:=Ce3 (HT.out.cell 0 0 rfl) 0 2 3;obtain ⟨fk2,fk3⟩:=Ce2 (HT.out.free 0 0 rfl) 2 3;simp only [qbh,GE3] at k0 k2 k3;have lt:=HT.out.lt 0 0 rfl;simp only [] at lt;go_wp2_with fail
 go_wp2_with fail
 refine (Qa.use (HCR.out _ HX.out) ((HT.out.set 0 0 rfl 2 (.slice none 0 0)).set 0 0 rfl 3 (.int .i64 (k.worked+1))) [3] rfl rfl).mono ?_
 rintro e w1 ⟨gs,⟨rfl,g2,hx2,rfl⟩,Ta⟩;simp only [PU] at Ta;have HX:=Vh hx2;clear hx2;have HT:=Vh Ta;clear Ta;go_wp2
 exact bodyPost_end (results_none rfl _ _ _) rfl ⟨_,⟨_,_,rfl,⟨.slice none 0 0,[],g2,gP,g1,Zi _ _,HX.out,HPP.out,HL.out,(rfl:Yo wb L.fb pv (.slice none 0 0) (k.worked+1)++([]++e)=_),rfl⟩,rfl⟩,(((HT.out.pick [0,2,3,4,5] rfl).eq (H':=[Yo wb L.fb pv (.slice none 0 0) (k.worked+1),e,g2,gP,g1]) rfl).sum)⟩
theorem qyi {e_:List Blk} (hz:qqk L wb pv e_ ⟨k,x,p,lg⟩ gK gF) (hp:qlc ⟨k,x,p,lg⟩) (bk:Nat) (hb:cl bk 139 #[Qb wb]∈e_) :
 Qa prog 157 #[Qb bk] [gK,gF] fun en gs=>∃ m d g' gK' gF',en=.returned (.agg #[m,d])∧(qvi L wb pv).SV e_ (qxb .takes1 ⟨k,x,p,lg⟩).1 m d g'∧qqk L wb pv e_ (qxb .takes1 ⟨k,x,p,lg⟩).2 gK' gF'∧gs=[g',gK',gF']:=by
 have hbz:=hp.busy;have hho:=hp.holds;simp only at hbz hho;have HTK:=Vh (show ∀ g,Xs L.p.pb p g→_ from fun g hg=>qqi hg hp.pipe);clear hp;have HCW:=Vh (show ∀ g,Qf L x g→_ from fun g hg=>qu7 hg hbz);obtain ⟨f,hf⟩:∃ f,p.take.2.1=f:=⟨_,rfl⟩;have HF:=Vh hf;rw [hf,Jg] at HTK;clear hf;obtain ⟨hv,gh,gC,gP,gL,hr,hx,hpp,hl,rfl,rfl⟩:=hz;obtain ⟨av,cap,hv'⟩:=Qu.val hr;subst hv';refine GO fun w HT=>?_
 have HT:=Vh (HT.out.sum (H':=[Yo wb L.fb pv (.slice av k.holds.length cap) k.worked,gh,e_,gC,gP,gL]));have HX:=Vh hx;have HR:=Vh hr;have HPP:=Vh hpp;have HL:=Vh hl;clear hx hr hpp hl;have HB:=Vh hb;have b0:=HT.out.mem_cell 2 HB.out 0;have ltb:=HT.out.mem_lt 2 HB.out;have ltk:=HT.out.lt 0 0 rfl;simp only [GE2] at b0 ltb ltk;have k0:=HT.out.cell 0 0 rfl 0;simp only [qbh,GE3] at k0;go_enter func157,ntmps157
 go_wp2_with fail
 have HT:=Vh (HT.out.alloc (k:=w.heap.size) rfl 180 #[.nilFunc,.nilFunc]);obtain ⟨rb,hrb⟩:∃ rb,rb=w.heap.size:=⟨_,rfl⟩;rw [← hrb] at HT ⊢;clear hrb hb b0 ltb ltk k0;generalize World.alloc w _=wa at HT ⊢;go_wp2_with fail
 refine (Qe.use (Jr HX.out) (HT.out) [3] rfl rfl).mono ?_
 rintro e w1 ⟨rfl,mq,rfl⟩;have HT:=Vh (HT.out.drewN mq);generalize World.drewN _ _=wq at HT ⊢;go_wp2_with fail
 refine (Qa.use (HTK.out _ HPP.out) (HT.out) [4] rfl rfl).mono ?_
 rintro e w1 ⟨gs,⟨rfl,g1,hp1,rfl⟩,Ta⟩;simp only [PU] at Ta;have HPP:=Vh hp1;clear hp1;have HT:=Vh Ta;clear Ta;go_wp2_with fail
 have HT:=Vh (HT.out.alloc (k:=w1.heap.size) rfl 82 #[.int .u64 f.id,.int .u64 f.gen,.int .u64 f.dl,.int .u64 f.tick]);obtain ⟨vb,hvb⟩:∃ vb,vb=w1.heap.size:=⟨_,rfl⟩;rw [← hvb] at HT ⊢;clear hvb;generalize World.alloc w1 _=wb1 at HT ⊢;have b0:=HT.out.mem_cell 2 HB.out 0;have ltb:=HT.out.mem_lt 2 HB.out;simp only [GE2] at b0 ltb;have k2:=HT.out.cell 0 0 rfl 2;simp only [qbh,GE3] at k2;obtain ⟨v0,v1,v2,v3⟩:=Ce4 (HT.out.cell 7 0 rfl) 0 1 2 3;simp only [GE4] at v0 v1 v2 v3;have ltk:=HT.out.lt 0 0 rfl;simp only [] at ltk;simp only [List.cons_append,List.nil_append] at HT;have HT:=Vh HT.out.drew
 apply qmt (α:=Option Addr) (β:=Nat) (A:=fun a1 cap1 w5=>∃ gl1,Qu 82 4 (.slice a1 (k.holds.length+1) cap1) (k.holds.length+1) (Jh k.holds++f.vals) gl1 ∧
  TG [Yo wb L.fb pv (.slice av k.holds.length cap) k.worked++(gh++e_),gC++(gP++gL)] w [Yo wb L.fb pv (.slice a1 (k.holds.length+1) cap1) k.worked,gl1,e_,gC,g1,gL,[cl rb 180 #[.nilFunc,.nilFunc]]] w5)
 case main =>
  intro key
  go_region_law (
   refine q7 rfl (.tmp 17) (.tmp 19) 70 rfl 4 32 _ underlying70 qb2 rfl (by decide) (HT.out.alloc0 _) 1 rfl rfl HR.out rfl ⟨wb1.heap.size,0,none⟩ 1 1 [.int .u64 f.id,.int .u64 f.gen,.int .u64 f.dl,.int .u64 f.tick] rfl rfl (X8 _ _ _) (by simp [Value.oneCell']) (by unfold maxLen;omega) (by omega) ?_
   intro v w3 gl1 r T;simp only [List.set_cons_zero,List.set_cons_succ] at T;obtain ⟨a1,cap1,rfl⟩:=r.val;have c2:=T.cell 0 0 rfl 2;have f2:=T.free 0 0 rfl 2;have bq:=T.mem_cell 2 HB.out 0;simp only [qbh,GE3] at c2 bq;have T:=Vh T
   have r:=Vh r)
  all_goals
   have T5:=(T.out.set 0 0 rfl 2 (.slice a1 (k.holds.length+1) cap1)).eq (H':=[Yo wb L.fb pv (.slice a1 (k.holds.length+1) cap1) k.worked,gl1,e_,gC,g1,gL,[cl rb 180 #[.nilFunc,.nilFunc]],[cl vb 82 #[.int .u64 f.id,.int .u64 f.gen,.int .u64 f.dl,.int .u64 f.tick]]]) rfl;generalize World.setCell _ _ _=w5 at T5 ⊢;exact key a1 cap1 w5 ⟨gl1,r.out,T5.pick [0,1,2,3,4,5,6] rfl⟩
 case key =>
  rintro a1 cap1 w5 ⟨gl1,r,T⟩;have HT:=Vh T
  have RR:=Vh (show Qu 82 4 (.slice a1 (k.holds.length+1) cap1) (k.holds++[f]).length (Jh (k.holds++[f])) gl1 from by
   rw [List.length_append,qja]
   simpa [Jh,qbi] using r)
  clear r T b0 k2 v0 v1 v2 v3 ltb ltk;have b0:=HT.out.mem_cell 2 HB.out 0;have ltb:=HT.out.mem_lt 2 HB.out;simp only [GE2] at b0 ltb;have k0:=HT.out.cell 0 0 rfl 0;simp only [qbh,GE3] at k0;go_wp2_with fail
  refine (Qa.use (HCW.out _ HX.out) (HT.out) [3] rfl rfl).mono ?_
  rintro e w1 ⟨gs,⟨rfl,g2,hx2,rfl⟩,Ta⟩;simp only [PU] at Ta;have HX:=Vh hx2;clear hx2 b0 k0 ltb;have HT:=Vh Ta;clear Ta;generalize w1=w6 at HT ⊢;have b0:=HT.out.mem_cell 2 HB.out 0;have ltb:=HT.out.mem_lt 2 HB.out;have ltr:=HT.out.lt 6 0 rfl;simp only [GE2] at b0 ltb ltr;go_wp2_with fail
  go_region_held3 (fun w'=>w'.cell? ⟨bk,0,none⟩=some (Qb wb))
   (first
   | exact b0
   | exact q1
   | exact r1
   | exact (((HT8.out.set 6 0 rfl 0 .nilFunc).set 6 0 rfl 1 (.func (.func 167) #[] #[Qb bs,Qb br])).mem_cell 2 HB.out 0)
   | (simp [go_sem,b0,ltb,Nat.ne_of_lt ltb,Nat.ne_of_gt ltb];done))
   (first
   | (go_at_call 138
      refine (Qa.use (Cli.row_1 (b:=w6.heap.size) (o:=0) (D:=#[.func (.func 160) #[Qb wb] #[]]) rfl 1 (.inl rfl)) (HT.out.drew.alloc (k:=w6.heap.size) rfl 1 #[.func (.func 160) #[Qb wb] #[]]) [7] rfl rfl).mono ?_
      rintro e w7 ⟨gs,⟨bf,bl,bi,rfl,rfl⟩,Ta⟩;simp only [PU] at Ta;have HT7:=Vh Ta;clear Ta;have q1:=HT7.out.mem_cell 2 HB.out 0;simp only [GE3] at q1
      have hsv:((qvi L wb pv).on e_).SV (.row1 .puts) .nilFunc (.func (.func 166) #[] #[Qb bf,Qb bl,Qb bi]) ([cl bf 1 #[.func (.func 160) #[Qb wb] #[]],cl bl 282 #[.slice (some ⟨w6.heap.size,0,none⟩) 1 1],cl bi 3 #[.int .i64 0],cl w6.heap.size 1 #[.func (.func 160) #[Qb wb] #[]]]++[]) :=
       ⟨rfl,bf,bl,bi,w6.heap.size,0,_,_,[],rfl,⟨rfl,rfl⟩,rfl,rfl⟩
      have HSV:=Vh hsv
      clear hsv)
   | (go_at_call 140
      refine (Qa.use (Cli.prog_then_x (c:=(qvi L wb pv).on e_) (f:=MW.takes) (v:=.func (.func 133) #[Qb wb] #[]) (gm:=[]) (qej L wb pv _) rfl HSV.out ⟨rfl,rfl⟩) (HT7.out.sum2 (H':=[Yo wb L.fb pv (.slice a1 (k.holds.length+1) cap1) k.worked,gl1,e_,g2,g1,gL,[cl rb 180 #[.nilFunc,.nilFunc]],[cl bf 1 #[.func (.func 160) #[Qb wb] #[]],cl bl 282 #[.slice (some ⟨w6.heap.size,0,none⟩) 1 1],cl bi 3 #[.int .i64 0],cl w6.heap.size 1 #[.func (.func 160) #[Qb wb] #[]]]++[],[]])) [7,8] rfl rfl).mono ?_
      rintro e w8 ⟨gs,⟨bs,br,rfl,rfl⟩,Ta⟩;simp only [PU] at Ta;have HT8:=Vh Ta;clear Ta;have r1:=HT8.out.mem_cell 2 HB.out 0;obtain ⟨z0,z1⟩:=Ce2 (HT8.out.cell 6 0 rfl) 0 1;obtain ⟨fz0,fz1⟩:=Ce2 (HT8.out.free 6 0 rfl) 0 1
      simp only [GE3] at r1 z0 z1))
  all_goals
   have T9:=((HT8.out.set 6 0 rfl 0 .nilFunc).set 6 0 rfl 1 (.func (.func 167) #[] #[Qb bs,Qb br])).pick [7,0,1,2,3,4,5] rfl
   have HREP:qqk L wb pv e_ (qxb .takes1 ⟨k,x,p,lg⟩).2 (Yo wb L.fb pv (.slice a1 (k.holds.length+1) cap1) k.worked++(gl1++e_)) (g2++(g1++gL)):=by
    show qqk L wb pv e_ ⟨⟨k.holds++[p.take.2.1],k.worked⟩,{ x with f:={ x.f with busy:=x.f.busy+1 } },p.take.1,lg⟩ _ _
    rw [HF.out];exact ⟨_,gl1,g2,g1,gL,RR.out,HX.out,HPP.out,HL.out,rfl,rfl⟩
   have HSV2:=HSV.out;have HTF:=Vh (And.intro T9 (And.intro HREP HSV2));clear T9 HREP HSV2;go_wp2
   exact bodyPost_ret (v:=.agg #[.nilFunc,_]) (by simp [results,results157,go_sem,z0,z1]) rfl ⟨_,⟨_,_,_,_,_,rfl,⟨bs,br,_,_,_,[],rfl,rfl,HTF.out.2.2,⟨rfl,rfl⟩,rfl⟩,HTF.out.2.1,rfl⟩,HTF.out.1.sum2⟩
end
end
end Go.Proofs.YtikpbibeagbccaaGreat
