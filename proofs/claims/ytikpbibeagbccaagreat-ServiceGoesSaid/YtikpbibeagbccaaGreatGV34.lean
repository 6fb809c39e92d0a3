import Derived.Test.YtikpbibeagbccaaGreatGV33
import Derived.Test.YtikpbibeagbccaaGreatGV25
import Derived.Test.YtikpbibeagbccaaGreatGV16
set_option maxRecDepth 100000
set_option maxHeartbeats 4000000
namespace Go.Proofs.YtikpbibeagbccaaGreat
set_option linter.unusedVariables false
set_option linter.unusedSimpArgs false
open Go.Proofs.Tryz
section
open Go.RowKit Go.Shelf
theorem qxh {L:Lay} {wb:Nat} {pv:Value} {e gK gF:List Blk} {z:ZW} (hz:qqk L wb pv e z gK gF):Qa prog 133 #[Qb wb] [gK,gF] fun en gs =>
 ∃ e',leE e e'∧∃ m d g' gK' gF',en=.returned (.agg #[m,d])∧(qvi L wb pv).SV e' (qxb .takes z).1 m d g'∧qqk L wb pv e' (qxb .takes z).2 gK' gF'∧gs=[g',gK',gF']:=by
 obtain ⟨hv,gh,gC,gP,gL,hr,hx,hpp,hl,rfl,rfl⟩:=hz;intro w hw;refine (Qa.use (qxa L wb pv) (TG.refl hw) [] rfl rfl).mono ?_
 rintro en w1 ⟨gs,⟨g',l,⟨m,d,rfl,hs⟩,rfl⟩,Ta⟩;exact ⟨_,⟨e++l,leE.app _ _,m,d,g',_,_,rfl,hs _ (fun b hb=>List.mem_append_right _ hb),⟨hv,gh,gC,gP,gL,hr,hx,hpp,hl,(rfl:Yo wb L.fb pv hv z.k.worked++(gh++(e++l))=_),rfl⟩,rfl⟩,TG.sum (H:=[Yo wb L.fb pv hv z.k.worked++(gh++e),gC++(gP++gL),g',l]) Ta⟩
theorem qko (L:Lay) (wb:Nat) (pv:Value):(qvi L wb pv).Ok where
 refl:=leE.refl
 trans h1 h2:=fun b hb=>h2 b (h1 b hb)
 mm {e e' f v g} hl h:=by
  obtain ⟨h0,h⟩:=h;refine ⟨h0,?_⟩
  cases f with
  | takes=>exact h
  | takes1=>exact qz7.le h hl
 ma hl h:=h
 v e:=qej L wb pv e
 m {e f v g gK gF z} hv hz hp:=by
   obtain ⟨k,x,p,lg⟩:=z;obtain ⟨rfl,hv⟩:=hv;cases f with
   | takes =>
     subst hv;refine ⟨_,_,_,rfl,fun _ _=>rfl,(Qa.pre (gs':=[[],gK,gF]) (qxh hz) rfl)⟩
   | takes1 =>
     obtain ⟨bk,rfl,hb⟩:=hv;refine ⟨_,_,_,rfl,fun _ _=>rfl,(Qa.pre (gs':=[[],gK,gF]) (qyi hz hp bk hb) rfl).mono ?_⟩
     rintro en gs ⟨m,d,g',gK',gF',h1,h2,h3,rfl⟩;exact ⟨e,leE.refl _,m,d,g',gK',gF',h1,h2,h3,rfl⟩
 a {e f v g gK gF z} hv hz hp:=by
   obtain ⟨k,x,p,lg⟩:=z;obtain ⟨rfl,hv⟩:=hv;cases f
   subst hv;refine ⟨_,_,_,rfl,fun _ _=>rfl,((q26 hz hp.1 hp.2).pre (gs':=[[],gK,gF]) rfl).post ?_⟩
   rintro en gs ⟨gK',gF',h1,h2,rfl⟩;exact ⟨[[],gK',gF'],⟨e,leE.refl _,gK',gF',h1,h2,rfl⟩,.refl _⟩
 y {e f v g gK gF z} hv hz hp:=by
   obtain ⟨k,x,p,lg⟩:=z;obtain ⟨rfl,bk,rfl,hb⟩:=hv;cases f
   refine ⟨_,_,_,rfl,fun _ _=>rfl,fun w hw=>?_⟩
   refine (Qe.use (qy3 hz hp bk hb) (TG.refl hw) [1,2] rfl rfl).mono ?_
   rintro en w1 ⟨rfl,m,rfl⟩;exact ⟨_,⟨gK,gF,rfl,hz,rfl⟩,(TG.refl hw).drewN m⟩
def isWK (L:Lay) (wb:Nat) (pv:Value) (e:List Blk) (k:qxp) (gK:List Blk):Prop:=∃ hv gh,Qu 82 4 hv k.holds.length (Jh k.holds) gh∧gK=Yo wb L.fb pv hv k.worked++(gh++e)
def qt0 (L:Lay) (x:Qj) (p:Qy) (lg:List Q7) (gF:List Blk):Prop:=∃ gC gP gL,Qf L x gC∧Xs L.p.pb p gP∧qfh L.p.lb lg gL∧gF=gC++(gP++gL)
theorem qax {L:Lay} {wb:Nat} {pv:Value} {e gK gF:List Blk} {z:ZW}:qqk L wb pv e z gK gF↔isWK L wb pv e z.k gK∧qt0 L z.x z.p z.lg gF :=
 ⟨fun ⟨hv,gh,gC,gP,gL,a,b,c,d,h,i⟩=>⟨⟨hv,gh,a,h⟩,⟨gC,gP,gL,b,c,d,i⟩⟩,fun ⟨⟨hv,gh,a,h⟩,⟨gC,gP,gL,b,c,d,i⟩⟩=>⟨hv,gh,gC,gP,gL,a,b,c,d,h,i⟩⟩
def qe3 (L:Lay) (wb:Nat) (s:SW) (n:Int) (k:qxp) (g:List Blk):Prop :=
 ∃ (pb:Nat) (e:List Blk) (m d:Value) (gst gK:List Blk),(qvi L wb (Qb pb)).SV e s m d gst∧isWK L wb (Qb pb) e k gK∧g=Cli.progB pb m d n++(gst++gK)
def qa7 (s:SW) (z:ZW):SW × ZW:=St.run qxb qug s z
def q1k (s:SW) (z:ZW):Prop:=St.pre qxb qug preW q0p s z
def qpr (s:SW) (z:ZW):Bool:=s.may q20 z
def qns (s:SW) (z:ZW):Prop:=St.preY q08 s z
section
variable {L:Lay} {x:Qj} {p:Qy} {lg:List Q7} {g gF:List Blk} {wb:Nat} {s:SW} {n:Int} {k:qxp}
theorem qzs (hc:qe3 L wb s n k g) (hx:qt0 L x p lg gF) (hy:qns s ⟨k,x,p,lg⟩) (hm:qpr s ⟨k,x,p,lg⟩=true) (hp:q1k s ⟨k,x,p,lg⟩) (hb:0≤n∧n≤1000000000) :
 Qa prog 343 #[Qb wb] [g,gF] fun en gs=>∃ g' gF',en=.returned (.bool true)∧qe3 L wb (qa7 s ⟨k,x,p,lg⟩).1 (n+1) (qa7 s ⟨k,x,p,lg⟩).2.k g'∧qt0 L (qa7 s ⟨k,x,p,lg⟩).2.x (qa7 s ⟨k,x,p,lg⟩).2.p (qa7 s ⟨k,x,p,lg⟩).2.lg gF'∧gs=[g',gF']:=by
 obtain ⟨pb,e,m,d,gst,gK,hs,hk,rfl⟩:=hc;have hd:=qgl.prog_step (n:=n) (qko L wb (Qb pb)) hs (x:=(⟨k,x,p,lg⟩:ZW)) (qax.2 ⟨hk,hx⟩) hy hp pb hb hm;obtain ⟨hv,gh,hl,rfl⟩:=hk;refine GO fun w HT=>?_
 have T1:=HT.out.sum (H':=[Yo wb L.fb (Qb pb) hv k.worked,Cli.progB pb m d n++(gst++(gh++e)),gF]);have k1:=T1.cell 0 0 rfl 1;simp only [qbh,GE3] at k1;have lt:=T1.lt 0 0 rfl;simp only [] at lt;have HD:=Vh hd;have HT:=Vh (HT.out.sum (H':=[Cli.progB pb m d n,gst,Yo wb L.fb (Qb pb) hv k.worked++(gh++e),gF]));clear hs hl hx hy hm hp hb hd T1;go_enter func343,ntmps343
 go_wp2_with fail
 refine (Qa.use (HD.out) (HT.out) [0,1,2,3] rfl rfl).mono ?_
 rintro e w1 ⟨gs,⟨e',hle,m',d',gst',gK',gF',rfl,hs',hx',rfl⟩,Ta⟩;simp only [PU] at Ta;have HS:=Vh hs';have HX:=Vh (qax.1 hx');clear hs' hx' k1;have HT:=Vh Ta;clear Ta;go_wp2
 go_ret
 exact ⟨_,⟨_,gF',rfl,⟨pb,e',m',d',gst',gK',HS.out,HX.out.1,rfl⟩,HX.out.2,rfl⟩,HT.out.sum⟩
theorem q3c (hc:qe3 L wb s n k g) (hx:qt0 L x p lg gF) (hy:qns s ⟨k,x,p,lg⟩) (hm:qpr s ⟨k,x,p,lg⟩=false) :
 Qa prog 343 #[Qb wb] [g,gF] fun en gs=>en=.returned (.bool false)∧∃ g' gF',qe3 L wb s n k g'∧qt0 L x p lg gF'∧gs=[g',gF']:=by
 obtain ⟨pb,e,m,d,gst,gK,hs,hk,rfl⟩:=hc;have hd:=qgl.prog_step_no (n:=n) (qko L wb (Qb pb)) hs (x:=(⟨k,x,p,lg⟩:ZW)) (qax.2 ⟨hk,hx⟩) hy pb hm;obtain ⟨hv,gh,hl,rfl⟩:=hk;refine GO fun w HT=>?_
 have T1:=HT.out.sum (H':=[Yo wb L.fb (Qb pb) hv k.worked,Cli.progB pb m d n++(gst++(gh++e)),gF]);have k1:=T1.cell 0 0 rfl 1;simp only [qbh,GE3] at k1;have lt:=T1.lt 0 0 rfl;simp only [] at lt;have HD:=Vh hd;have HS:=Vh hs;have HT:=Vh (HT.out.sum (H':=[Cli.progB pb m d n,gst,Yo wb L.fb (Qb pb) hv k.worked++(gh++e),gF]));clear hs hl hx hy hm hd T1;go_enter func343,ntmps343
 go_wp2_with fail
 refine (Qa.use (HD.out) (HT.out) [0,1,2,3] rfl rfl).mono ?_
 rintro e w1 ⟨gs,⟨gK',gF',rfl,hx',rfl⟩,Ta⟩;simp only [PU] at Ta;have HX:=Vh (qax.1 hx');clear hx' k1;have HT:=Vh Ta;clear Ta;go_wp2
 go_ret
 exact ⟨_,⟨rfl,_,gF',⟨pb,e,m,d,gst,gK',HS.out,HX.out.1,rfl⟩,HX.out.2,rfl⟩,HT.out.sum⟩
theorem q2g (hc:qe3 L wb s n k g) (hx:qt0 L x p lg gF) (hy:qns s ⟨k,x,p,lg⟩) :
 Qa prog 342 #[Qb wb] [g,gF] fun en gs=>en=.returned (.bool (qpr s ⟨k,x,p,lg⟩))∧∃ g' gF',qe3 L wb s n k g'∧qt0 L x p lg gF'∧gs=[g',gF']:=by
 obtain ⟨pb,e,m,d,gst,gK,hs,hk,rfl⟩:=hc;have hd:=qgl.prog_may (n:=n) (qko L wb (Qb pb)) hs (x:=(⟨k,x,p,lg⟩:ZW)) (qax.2 ⟨hk,hx⟩) hy pb;have hd:Qa prog 331 _ _ fun en gs=>∃ gK' gF',en=.returned (.bool (qpr s ⟨k,x,p,lg⟩))∧qqk L wb (Qb pb) e ⟨k,x,p,lg⟩ gK' gF'∧_:=hd
 generalize qpr s ⟨k,x,p,lg⟩=v at *;obtain ⟨hv,gh,hl,rfl⟩:=hk;refine GO fun w HT=>?_
 have T1:=HT.out.sum (H':=[Yo wb L.fb (Qb pb) hv k.worked,Cli.progB pb m d n++(gst++(gh++e)),gF]);have k1:=T1.cell 0 0 rfl 1;simp only [qbh,GE3] at k1;have lt:=T1.lt 0 0 rfl;simp only [] at lt;have HD:=Vh hd;have HS:=Vh hs;have HT:=Vh (HT.out.sum (H':=[Cli.progB pb m d n,gst,Yo wb L.fb (Qb pb) hv k.worked++(gh++e),gF]));clear hs hl hx hy hd T1;go_enter func342,ntmps342
 go_wp2_with fail
 refine (Qa.use (HD.out) (HT.out) [0,1,2,3] rfl rfl).mono ?_
 rintro e w1 ⟨gs,⟨gK',gF',rfl,hx',rfl⟩,Ta⟩;simp only [PU] at Ta;have HX:=Vh (qax.1 hx');clear hx' k1;have HT:=Vh Ta;clear Ta;go_wp2
 go_ret
 exact ⟨_,⟨rfl,_,gF',⟨pb,e,m,d,gst,gK',HS.out,HX.out.1,rfl⟩,HX.out.2,rfl⟩,HT.out.sum⟩
def quc:List Q7→Q7
 | []=>Q7.zero
 | f::_=>f
theorem qv8 (hc:qe3 L wb s n k g) (hn:k.holds.length≤1000):Qa prog 69 #[Qb wb] [g] fun en gs=>en=.returned (.tuple #[.agg (quc k.holds).vals.toArray,.bool (!k.holds.isEmpty)])∧gs=[g]:=by
 obtain ⟨pb,e,m,d,gst,gK,hs,⟨hv,gh,hl,rfl⟩,rfl⟩:=hc;cases hh:k.holds with
 | nil =>
   rw [show k.holds.length=0 from by rw [hh];rfl] at hl;obtain ⟨av,cap,rfl⟩:=Qu.val hl;refine GO fun w HT=>?_
   have HT:=Vh (HT.out.sum (H':=[Yo wb L.fb (Qb pb) (.slice av 0 cap) k.worked,Cli.progB pb m d n++(gst++(gh++e))]));have k2:=HT.out.cell 0 0 rfl 2;simp only [qbh,GE3] at k2;have lt:=HT.out.lt 0 0 rfl;simp only [] at lt;clear hs hl hh;go_enter func69,ntmps69
   go_wp2
   have HT2:=Vh (HT.out.alloc (k:=w.heap.size) rfl 82 #[.int .u64 0,.int .u64 0,.int .u64 0,.int .u64 0]);obtain ⟨r0,r1,r2,r3⟩:=Ce4 (HT2.out.cell 2 0 rfl) 0 1 2 3;simp only [GE4] at r0 r1 r2 r3;exact bodyPost_ret (v:=.tuple #[.agg #[.int .u64 0,.int .u64 0,.int .u64 0,.int .u64 0],.bool false]) (by simp [results,results69,go_sem,r0,r1,r2,r3]) rfl ⟨_,⟨rfl,rfl⟩,(HT2.out.pick [0,1] rfl).sum⟩
 | cons f l =>
   have h0:0<k.holds.length:=by rw [hh];exact Nat.zero_lt_succ _
   obtain ⟨hb,hcap,hcur,rfl,hgh,hc1,hc2,hc3,hc4⟩:=hl.open h0
   have hf0:(Jh k.holds)[0]?=some (.int .u64 f.id)∧(Jh k.holds)[1]?=some (.int .u64 f.gen)∧(Jh k.holds)[2]?=some (.int .u64 f.dl)∧(Jh k.holds)[3]?=some (.int .u64 f.tick):=by
    rw [hh];exact ⟨rfl,rfl,rfl,rfl⟩
   obtain ⟨q0,q1,q2,q3⟩:=hf0;have a0:=(hc4 0 (by omega)).trans q0;have a1:=(hc4 1 (by omega)).trans q1;have a2:=(hc4 2 (by omega)).trans q2;have a3:=(hc4 3 (by omega)).trans q3;refine GO fun w HT=>?_
   have HT:=Vh (HT.out.sum (H':=[Yo wb L.fb (Qb pb) (.slice (some ⟨hb,0,none⟩) k.holds.length hcap) k.worked,gh,Cli.progB pb m d n++(gst++e)]));rw [hgh] at HT;obtain ⟨N,hN⟩:∃ N,k.holds.length=N:=⟨_,rfl⟩;rw [hN] at HT h0 hc1 hn ⊢;have p0:=(HT.out.cell 1 0 rfl 0).trans a0;have p1:=(HT.out.cell 1 0 rfl 1).trans a1;have p2:=(HT.out.cell 1 0 rfl 2).trans a2;have p3:=(HT.out.cell 1 0 rfl 3).trans a3;have k2:=HT.out.cell 0 0 rfl 2;simp only [qbh,GE3] at k2;have lt:=HT.out.lt 0 0 rfl;have lt2:=HT.out.lt 1 0 rfl;simp only [] at lt lt2;clear hs hl hh hc2 hc3 hc4 a0 a1 a2 a3 q0 q1 q2 q3;go_enter func69,ntmps69
   go_wp2
   have HT2:=Vh (HT.out.alloc (k:=w.heap.size) rfl 82 #[.int .u64 f.id,.int .u64 f.gen,.int .u64 f.dl,.int .u64 f.tick]);obtain ⟨r0,r1,r2,r3⟩:=Ce4 (HT2.out.cell 3 0 rfl) 0 1 2 3;simp only [GE4] at r0 r1 r2 r3;have T9:=HT2.out.pick [0,1,2] rfl;change TG _ w [_,[cl hb 82 hcur],_] _ at T9
   rw [← hgh] at T9;exact bodyPost_ret (v:=.tuple #[.agg #[.int .u64 f.id,.int .u64 f.gen,.int .u64 f.dl,.int .u64 f.tick],.bool true]) (by simp [results,results69,go_sem,r0,r1,r2,r3]) rfl ⟨_,⟨rfl,rfl⟩,T9.sum⟩
end
end
section
open Go.RowKit Go.Shelf
attribute [local go_sem] Oper.semAt_some
def qt1:qxp:=⟨[],0⟩
def Yj:SW:=.at (some .ready) .takes1
theorem qrw (L:Lay):Qa prog 110 #[Qb L.fb] [] fun en gs=>∃ wb g,en=.returned (.tuple #[Qb wb,.int .i64 0])∧qe3 L wb Yj 0 qt1 g∧gs=[g]:=by
 have HNW:=Vh (show ∀ wb (m d:Value) gst l,(∀ e,leE l e→(qvi L wb (.pointer none)).SV e Yj m d gst)→_ from fun wb m d gst l h=>Cli.prog_new_v (qej L wb (.pointer none) l) (h l (fun b hb=>hb)));refine GO fun w HT=>?_
 go_enter func110,ntmps110
 go_wp2_with fail
 refine (Qa.use (qxa L w.heap.size (.pointer none)) (HT.out.alloc (k:=w.heap.size) rfl 190 (qbh L.fb (.pointer none) (.slice none 0 0) 0)) [] rfl rfl).mono ?_
 rintro e w1 ⟨gs,⟨gst,l,⟨m,d,rfl,hs⟩,rfl⟩,Ta⟩;simp only [PU] at Ta;have HS:=Vh hs;clear hs;have HT:=Vh Ta;clear Ta;go_wp2_with fail
 refine Qa.run (HNW.out _ _ _ _ _ HS.out) (HT.out) [1] ?_
 rintro e w1 gs ⟨pb,rfl,rfl⟩ HT;simp only [PU] at HT;have k1:=HT.out.cell 0 0 rfl 1;have fk1:=HT.out.free 0 0 rfl 1;simp only [qbh,GE3] at k1;go_wp2
 go_ret2
 exact ⟨_,⟨_,_,rfl,⟨pb,l,m,d,gst,Yo w.heap.size L.fb (Qb pb) (.slice none 0 0) 0++([]++l),HS.out l (fun b hb=>hb),⟨_,[],Zi _ _,rfl⟩,rfl⟩,rfl⟩,(((HT.out.set 0 0 rfl 1 (Qb pb)).eq (H':=[Yo w.heap.size L.fb (Qb pb) (.slice none 0 0) 0,gst,l,Cli.progB pb m d 0]) rfl).pick [3,1,0,2] rfl).sum⟩
def q13 (L:Lay) (n:Nat) (x:Qj) (gC:List Blk) (O:GH):ItS where
 σ:=Nat
 O _ O':=O'=O
 T _ H:=∃ i,H.getD i []=gC∧i<H.length
 step k v G k':=k<n∧(∃ wb g,qe3 L wb Yj 0 qt1 g∧v=#[Qb wb]∧G=[g])∧k'=k+1
 fin k:=k=n
theorem qbm {α:Type}:∀ (l:List (List α)) (i:Nat),i<l.length→l.flatten.Perm (l.getD i []++(l.eraseIdx i).flatten)
 | [],i,h=>absurd h (Nat.not_lt_zero _)
 | a::l,0,_=>List.Perm.refl _
 | a::l,i+1,h=>by
   have ih:=qbm l i (Nat.lt_of_succ_lt_succ h)
   show (a++l.flatten).Perm (l.getD i []++(a++(l.eraseIdx i).flatten))
   refine (ih.append_left a).trans ?_
   rw [← List.append_assoc,← List.append_assoc];exact List.perm_append_comm.append_right _
theorem q0e {P:Program} {f:FuncId} {args:Array Value} {g:List Blk} {R:Ending→GH→Prop} (hd:Qa P f args [g] R) {H:GH} {i:Nat} (hi:H.getD i []=g) (hl:i<H.length) {W:World} (hH:J3 H W) :
 Calls P f args W fun e w'=>∃ gs K,R e gs∧TG H W (gs++K) w'∧H.flatten.Perm (g++K.flatten):=by
 have hp:=qbm H i hl;rw [hi] at hp;have h2:J3 ([g]++H.eraseIdx i) W:=hH.re (by simpa using hp);refine (hd W h2.left).mono ?_
 rintro e w' ⟨gs,hR,T⟩;exact ⟨gs,_,hR,(T.frame h2).basePerm (by simpa using hp.symm),hp⟩
theorem qod (a b c d e f:Value) (w:World):(Instr.field 28 (.agg #[a,b,c,d,e,f]) 4).run prog w=.ok e w:=by kernel_rfl
theorem qiw (L:Lay) (bx:Nat) {x:Qj} {gC:List Blk} (hx:Qf L x gC) {n:Nat} (hn:x.f.cfg.wk=n) (hn2:n≤1000) :
 qeo prog 108 #[Qb bx] (q13 L n x gC [[cl bx 49 #[Qb L.fb]]]) (0:Nat):=by
 intro ly J Jx hT hY H0 O0 W hJ0 hO hH;have hO':O0=[[cl bx 49 #[Qb L.fb]]]:=hO;subst hO';have T0:=TG.refl hH;have c0:=(TG.refl hH.right).cell 0 0 rfl 0;simp only [GE2] at c0;obtain ⟨i0,hi0,hl0⟩:=hT (0:Nat) H0 hJ0;have HCF:=Vh (qgn hx);have HB:=Vh (qrw L);have HH:=Vh (And.intro hJ0 T0);have HY:=Vh hY;have HI:=Vh (And.intro hi0 hl0);clear hO hH hY hT hJ0 T0 hi0 hl0 hx;refine (callsIn_wide (n:=9)).1 (callsIn_of_wp func108 rfl trivial ?_ rfl)
 simp only [ntmps108,List.size_toArray,List.length_cons,List.length_nil,Nat.reduceAdd,Nat.reduceSub,Array.replicate_succ,Array.replicate_zero,List.push_toArray,List.append_toArray,List.nil_append,List.cons_append];gi_wp2
 refine ⟨trivial,(callsIn_wide (n:=8)).2 ((q0e HCF.out (i:=i0) (H:=H0++[[cl bx 49 #[Qb L.fb]]]) (by rw [List.getD_eq_getElem?_getD,List.getElem?_append_left HI.out.2,← List.getD_eq_getElem?_getD];exact HI.out.1) (by rw [List.length_append];have:=HI.out.2;omega) HH.out.2.has).mono ?_)⟩
 rintro e W1 ⟨gs,K,⟨rfl,rfl⟩,T1,hp⟩;have HT1:=Vh (T1.re (H':=H0++[[cl bx 49 #[Qb L.fb]]]) (by simpa using hp.symm));clear T1 hp;have hf4:=qod (.int .i64 x.f.cfg.sh) (.int .i64 x.f.cfg.cap) (.int .i64 x.f.cfg.ring) (.int .i64 x.f.cfg.room) (.int .i64 n) (.int .i64 x.f.cfg.cli) W1;unfold Cfg.cells;rw [hn];have HJ0:=HH.out.1;have T0:=Vh (HT1.out);have HJ:=Vh HJ0;clear HJ0 HH HI HT1 c0;gi_wp2
 gi_loopw [8] (fun i wr=>∃ (k:Nat) (H:GH),k≤n∧i=.int .i64 k∧J k H∧TG (H0++[[cl bx 49 #[Qb L.fb]]]) W (H++[[cl bx 49 #[Qb L.fb]]]) wr) (fun i _=>n+1 - (intOf i).toNat)
 case atStart=>exact ⟨0,H0,by omega,rfl,HJ.out,T0.out⟩
 case round =>
  obtain ⟨k,H,hk,rfl,hj,T⟩:=hrel;clear HJ T0 hf4;by_cases hlt:k<n
  ·have a0:=(TG.refl T.has.right).cell 0 0 rfl 0
   simp only [GE2] at a0;have HT:=Vh T;have HK:=Vh hj;clear T hj;gi_wp2
   refine ⟨trivial,(callsIn_wide (n:=8)).2 ((Qa.use HB.out HT.out [] rfl rfl).mono ?_)⟩
   rintro e W1 ⟨gs,⟨wb,g,rfl,hw,rfl⟩,Ta⟩
   have Tb:TG (H0++[[cl bx 49 #[Qb L.fb]]]) W ((H++[g])++[[cl bx 49 #[Qb L.fb]]]) W1:=Ta.re (by
    classical
    refine List.perm_iff_count.2 fun a=>?_
    simp only [qc8,List.flatten_append,List.flatten_cons,List.flatten_nil,List.append_nil,List.count_append]
    omega)
   have HT2:=Vh Tb;have hy0:=HY.out k #[Qb wb] [g] (k+1) H _ HK.out ⟨hlt,⟨wb,g,hw,rfl,rfl⟩,rfl⟩ Tb.has.left;obtain ⟨fn,tmps,assign,body,hy,hR⟩:=Zl (n:=8) hy0;have HRR:=Vh hR;clear hy0 hR hw Ta Tb;gi_wp2
   refine HRR.out.mono ?_
   rintro e W' ⟨H',hT',hj'⟩;have T7:=HT2.out.trans (hT'.frame HT2.out.has);have HT7:=Vh T7;rcases hj' with ⟨rfl,hj'⟩ | ⟨rfl,hj'⟩
   ·have HJ:=Vh hj'
    clear hT' T7 hj' hy a0;gi_wp2
    go_roundw
    case rel=>exact ⟨k+1,H',by omega,by go_num,HJ.out,HT7.out⟩
    case measure=>simp [intOf];omega
   ·have HJ:=Vh hj'
    clear hT' T7 hj' hy a0;gi_wp2
    refine bodyPost_ret (results_none rfl _ _ _) rfl ?_
    exact ⟨⟨_,rfl⟩,k+1,H',_,HT7.out,.inr HJ.out⟩
  ·obtain rfl:k=n:=by omega
   have HT:=Vh T;have HK:=Vh hj;clear T hj;gi_wp2
   go_end0
   exact ⟨⟨_,rfl⟩,k,H,_,HT.out,.inl ⟨rfl,HK.out,rfl⟩⟩
structure WkN where
 wb:Nat
 s:SW
 n:Int
 k:qxp
def qf7 (L:Lay) (l:List WkN) (g:List Blk):Prop:=J4 (fun (z:WkN) g=>qe3 L z.wb z.s z.n z.k g) l g
def qf9 (z:WkN):Prop:=z.s=Yj∧z.n=0∧z.k=qt1
def qd1 (l:List WkN):List Value:=l.map fun z=>Qb z.wb
theorem qog:(prog.info? 139).map (fun i=>(i.zero,i.size,i.bytes))=some (some (.pointer none),1,8):=by kernel_rfl
theorem qqv (L:Lay):Qa prog 85 #[Qb L.fb] [] fun e gs=>∃ bx,e=.returned (.func (.func 108) #[] #[Qb bx])∧gs=[[cl bx 49 #[Qb L.fb]]]:=by
 refine GO fun w HT=>?_
 go_enter func85,ntmps85
 go_wp2
 go_ret
 exact ⟨_,⟨_,rfl,rfl⟩,(HT.out.alloc rfl _ _)⟩
theorem quz {L:Lay} {x:Qj} {gC:List Blk} (hx:Qf L x gC) {n:Nat} (hn:x.f.cfg.wk=n) (hn2:n≤1000):Qa prog 63 #[Qb L.fb] [gC] fun e gs =>
 ∃ v gr gW l,e=.returned v∧l.length=n∧(∀ z∈l,qf9 z)∧Qu 139 1 v n (qd1 l) gr∧qf7 L l gW∧gs=[gC,gr,gW]:=by
 have HI:=Vh (show ∀ bx,_ from fun bx=>qiw L bx hx hn hn2);have eg:=enters_of func108 (P:=prog) (by kernel_rfl) rfl;refine GO fun w HT=>?_
 clear hx hn;refine X3 func63 rfl ?_
 simp only [ntmps63,List.size_toArray,List.length_cons,List.length_nil,Nat.reduceAdd,Nat.reduceSub,Array.replicate_succ,Array.replicate_zero,List.push_toArray,List.append_toArray,List.nil_append,List.cons_append];go_wp2_with fail
 obtain ⟨sb,hsb⟩:∃ sb,w.heap.size=sb:=⟨_,rfl⟩;have HT:=Vh (HT.out.alloc (k:=sb) hsb.symm 84 #[.slice none 0 0]);rw [hsb];clear hsb;go_wp2_with fail
 refine Qa.run (qqv L) (HT.out) [] ?_
 rintro e w1 gs ⟨bx,rfl,rfl⟩ HT;simp only [PU] at HT;have T0:=HT.out.re (H':=[gC,[cl sb 84 #[.slice none 0 0]],[],[]]++[[cl bx 49 #[Qb L.fb]]]) (by simp);go_wp2_with fail
 refine qn (H0:=[gC,[cl sb 84 #[.slice none 0 0]],[],[]]) (O0:=[[cl bx 49 #[Qb L.fb]]]) rfl eg (HI.out bx) ?hps T0 ?hO (fun (k:Nat) H=>∃ v gr gW l,H=[gC,[cl sb 84 #[v]],gr,gW]∧l.length=k∧(∀ z∈l,qf9 z)∧Qu 139 1 v k (qd1 l) gr∧qf7 L l gW) (fun _ _ _=>False) ?h0 ?hT ?hbody ?hdone ?hstop
 case hps=>rintro s x G s' ⟨_,⟨_,_,_,rfl,_⟩,_⟩;rfl
 case hO=>exact rfl
 case h0=>exact ⟨_,[],[],[],rfl,rfl,(by intro z h;cases h),Zi _ _,rfl⟩
 case hT=>rintro s H K ⟨v,gr,gW,l,rfl,_⟩;exact ⟨0,rfl,by simp⟩
 case hbody =>
  rintro (k:Nat) x G (k':Nat) H W ly ⟨v,gr,gW,l,rfl,hl,hnw,hr,hf⟩ ⟨hk,⟨wb,g,hw,rfl,rfl⟩,rfl⟩ hH;have HH:=Vh hH;have HR:=Vh hr;have HF:=Vh (show qf7 L (l++[⟨wb,Yj,0,qt1⟩]) (gW++g) from J4.snoc hf hw)
  have HN:=Vh (show ∀ z∈l++[⟨wb,Yj,0,qt1⟩],qf9 z from fun z hz=>(List.mem_append.1 hz).elim (hnw z) (fun h=>by
   obtain rfl:z=_:=by simpa using h
   exact ⟨rfl,rfl,rfl⟩))
  have HL:=Vh hl;have HP:=Vh (show qd1 (l++[⟨wb,Yj,0,qt1⟩])=qd1 l++[Qb wb] from by simp [qd1]);obtain ⟨av,cap,hv⟩:=Qu.val hr;subst hv;clear hH hr hf hw hnw hl;refine Xz (n:=9) ?_
  gi_wp2
  refine ⟨_,TG.refl HH.out,fun Wb hb=>?_⟩
  have HT:=Vh (TG.refl hb);have c0:=HT.out.cell 1 0 rfl 0;have f0:=HT.out.free 1 0 rfl 0;simp only [GE2] at c0;clear hb HH;refine Xz (n:=9) ?_
  have ho1:∀ u∈[Qb wb],u.oneCell'=true:=fun u hu=>by
   obtain rfl:u=Qb wb:=(by simpa using hu);rfl
  have ho2:k+1≤maxLen:=by unfold maxLen;omega
  have ho3:(k+1)*8≤140737488355328:=by omega
  gi_wp2_with (
   gi_at_builtin
   with_reducible refine Z6 rfl (.tmp 8) (.tmp 10) 84 rfl 139 1 8 _ underlying84 qog rfl (by decide) (HT.out.alloc0 _) 2 rfl rfl HR.out rfl ⟨Wb.heap.size,0,none⟩ 1 1 [Qb wb] rfl rfl (X8 _ _ _) ho1 ho2 ho3 ?_;skip)
  ·intro v1 w2 g1 r1 T1
   have T1:=T1.eq (H':=[gC,[cl sb 84 #[.slice av k cap]],g1,gW,g]) rfl;have c1:=T1.cell 1 0 rfl 0;have f1:=T1.free 1 0 rfl 0;obtain ⟨a1,cap1,hv1⟩:=Qu.val r1;subst hv1;have T1:=Vh T1;have r1:=Vh r1;simp only [GE2] at c1;gi_wp2
   exact ⟨[gC,[cl sb 84 #[.slice a1 (k+1) cap1]],g1,gW++g],⟨_,_,_,_,rfl,by rw [List.length_append,HL.out];rfl,HN.out,by rw [HP.out];exact r1.out,HF.out⟩,(((T1.out.set 1 0 rfl 0 (.slice a1 (k+1) cap1)).eq (H':=[gC,[cl sb 84 #[.slice a1 (k+1) cap1]],g1,gW,g]) rfl).sum)⟩
 case hdone =>
  rintro (k:Nat) H O' W D hf' ⟨v,gr,gW,l,rfl,hl,hnw,hr,hf⟩ hO hT;have hf2:k=n:=hf';subst hf2;have hO':O'=[[cl bx 49 #[Qb L.fb]]]:=hO;subst hO';have c0:=hT.cell 1 0 rfl 0;simp only [GE2] at c0;have HX:=Vh (And.intro hl (And.intro hnw (And.intro hr (And.intro hf hT))));obtain ⟨av,cap,hv⟩:=Qu.val hr;subst hv;clear hf hO hr hT hl hnw hf';go_wp2
  obtain ⟨hl,hnw,hr,hf,hT⟩:=HX.out;have T3:=hT.turnLast (.deferred none)
  have T4:TG [gC] w ([gC,gr,gW]++[[cl sb 84 #[.slice av k cap],cl bx 49 #[Qb L.fb],(D,.deferred none)]]) (W.putObj D (.deferred none)):=T3.re (by
   classical
   simp only [List.flatten_append,List.flatten_cons,List.flatten_nil,List.append_nil,List.cons_append,List.nil_append];refine List.perm_iff_count.2 fun a=>?_
   simp only [List.count_append,List.count_cons,List.count_nil]
   omega)
  exact Je (v:=.slice av k cap) hT.has.last (by simp [results,results63,go_sem]) ⟨_,⟨_,gr,gW,l,rfl,hl,hnw,hr,hf,rfl⟩,T4.dropLast⟩
 case hstop=>intro s cd H O W D h;exact h.elim
end
section
open Go.RowKit Go.Shelf
theorem z7 {α:Type} {Pr:Program} {f:FuncId} {args:Array Value} {P:α→List Blk→Prop} {l:List α} {g:List Blk} {k:Nat} {a:α} (hf:J4 P l g) (hk:l[k]?=some a) {rest:GH} {R:Ending→α→GH→Prop}
 (hd:∀ ga,P a ga→Qa Pr f args (ga::rest) fun e gs=>∃ a' ga' rest',R e a' rest'∧P a' ga'∧gs=ga'::rest') :
 Qa Pr f args (g::rest) fun e gs=>∃ a' g' rest',R e a' rest'∧J4 P (l.set k a') g'∧gs=g'::rest':=by
 obtain ⟨x,y,hx,hp,hr⟩:=hf.out hk;intro w hw
 have h2:J3 ((x::rest)++[y]) w:=hw.re (by
  classical
  have:=List.perm_iff_count.1 hp;refine List.perm_iff_count.2 fun b=>?_
  have:=this b;simp only [List.flatten_append,List.flatten_cons,List.flatten_nil,List.append_nil,List.count_append] at this ⊢
  omega)
 refine (hd x hx w h2.left).mono ?_
 rintro e w' ⟨gs,⟨a',ga',rest',hR,hP,rfl⟩,T⟩;obtain ⟨g',hg',hp'⟩:=hr a' ga' hP;refine ⟨_,⟨a',g',rest',hR,hg',rfl⟩,((T.frame h2).re (H':=g'::rest') ?_).basePerm ?_⟩
 ·classical
  have:=List.perm_iff_count.1 hp';refine List.perm_iff_count.2 fun b=>?_
  have:=this b;simp only [List.flatten_append,List.flatten_cons,List.flatten_nil,List.append_nil,List.count_append] at this ⊢;omega
 ·classical
  have:=List.perm_iff_count.1 hp;refine List.perm_iff_count.2 fun b=>?_
  have:=this b;simp only [List.flatten_append,List.flatten_cons,List.flatten_nil,List.append_nil,List.count_append] at this ⊢;omega
theorem qp {α:Type} {l:List α} {k:Nat} {a:α} (h:l[k]?=some a):l.set k a=l:=by
 obtain ⟨h1,h2⟩:=List.getElem?_eq_some_iff.1 h;subst h2;exact List.set_getElem_self h1
theorem qzw {L:Lay} {l:List WkN} {gW:List Blk} {k:Nat} {z:WkN} (hf:qf7 L l gW) (hk:l[k]?=some z) (hn:z.k.holds.length≤1000) :
 Qa prog 69 #[Qb z.wb] [gW] fun e gs=>∃ g',e=.returned (.tuple #[.agg (quc z.k.holds).vals.toArray,.bool (!z.k.holds.isEmpty)])∧qf7 L l g'∧gs=[g']:=by
 refine (z7 (R:=fun e a' rest'=>e=.returned (.tuple #[.agg (quc z.k.holds).vals.toArray,.bool (!z.k.holds.isEmpty)])∧a'=z∧rest'=[]) hf hk (fun ga hga=>(qv8 hga hn).mono ?_)).mono ?_
 ·rintro e gs ⟨rfl,rfl⟩
  exact ⟨z,_,[],⟨rfl,rfl,rfl⟩,hga,rfl⟩
 ·rintro e gs ⟨a',g',rest',⟨rfl,rfl,rfl⟩,hg',rfl⟩
  rw [qp hk] at hg';exact ⟨g',rfl,hg',rfl⟩
def X0 (l:List WkN):Bool:=l.all fun z=>z.k.holds.isEmpty
def Ye (l:List WkN) (p:Qy):Bool:=X0 l && decide ((p.ch.length:Int)+p.sp.length=0)
theorem qzq {l:List WkN} {v:Value} {gr:List Blk} {n:Nat} (hr:Qu 139 1 v n (qd1 l) gr) {h H:GH} {w w':World} (T:TG h w H w') (i:Nat) (hg:H.getD i []=gr) (hi:i<H.length) {k:Nat} {z:WkN} (hk:l[k]?=some z) :
 ∃ b cap,v=.slice (some ⟨b,0,none⟩) n cap∧w'.cell? ⟨b,k,none⟩=some (Qb z.wb):=by
 have hlen:l.length=n:=by
  have:=hr.1;simpa [qd1] using this
 have hkl:=(List.getElem?_eq_some_iff.1 hk).1;obtain ⟨b,cap,cur,hv,hgr,_,_,_,hcur⟩:=hr.open (by omega);refine ⟨b,cap,hv,?_⟩
 have:=T.cell i 0 (b:=b) (T:=139) (C:=cur) (by rw [hg,hgr];rfl) k;rw [this,hcur k (by omega)]
 show (l.map _)[k]?=_
 rw [List.getElem?_map,hk];rfl
theorem qi2 {l:List WkN} {k:Nat} {z:WkN} (hk:l[k]?=some z) (hh:z.k.holds.isEmpty=false):X0 l=false:=by
 unfold X0;rw [List.all_eq_false];exact ⟨z,List.mem_of_getElem? hk,by rw [hh];decide⟩
theorem qfi {l:List WkN} {k:Nat} {z:WkN} (hk:l[k]?=some z) (hh:z.k.holds.isEmpty=true) (h:X0 (l.take k)=true):X0 (l.take (k+1))=true:=by
 unfold X0 at h ⊢;obtain ⟨h1,h2⟩:=List.getElem?_eq_some_iff.1 hk;rw [List.take_succ_eq_append_getElem h1,List.all_append,h,h2];simp [hh]
section
variable {L:Lay} {x:Qj} {p:Qy} {l:List WkN} {gC gP gr gW:List Blk} {n:Nat} {v:Value}
theorem qum (hx:Qf L x gC) (hpp:Xs L.p.pb p gP) (hch:p.ch.length≤1000000) (hsp:p.sp.length≤1000000) (hr:Qu 139 1 v n (qd1 l) gr) (hf:qf7 L l gW) (hn:n≤1000) (hh:∀ z∈l,z.k.holds.length≤1000) :
 Qa prog 48 #[Qb L.fb,v] [gW,gr,gC,gP] fun e gs=>∃ gW',e=.returned (.bool (Ye l p))∧qf7 L l gW'∧gs=[gW',gr,gC,gP]:=by
 have hlen:l.length=n:=by
  have:=hr.1;simpa [qd1] using this
 obtain ⟨av,cap,rfl⟩:=Qu.val hr;have hpl:=qj7 hpp ⟨hch,hsp⟩;have HPR:=Vh (Jr hx);unfold Ye;generalize (p.ch.length:Int)+p.sp.length=m at *;have HPL:=Vh hpl;have HR:=Vh hr;have HF:=Vh hf;have HHH:=Vh hh;have HLL:=Vh hlen;refine GO fun w HT=>?_
 clear hx hpp hch hsp hr hf hh hlen hpl;go_enter func48,ntmps48
 go_wp2_with fail
 go_loopw [11] (fun i wr=>∃ (k:Nat) (gW1:List Blk),k≤n∧i=.int .i64 k∧qf7 L l gW1∧X0 (l.take k)=true∧TG [gW,gr,gC,gP] w [gW1,gr,gC,gP] wr) (fun i _=>n+1 - (intOf i).toNat)
 case atStart=>exact ⟨0,gW,by omega,rfl,HF.out,rfl,HT.out⟩
 case round =>
  obtain ⟨k,gW1,hk,rfl,hf1,hno,T⟩:=hrel;clear HF;by_cases hkl:k<n
  ·obtain ⟨z,hz⟩:∃ z,l[k]?=some z:=⟨_,List.getElem?_eq_getElem (by have:=HLL.out;omega)⟩
   obtain ⟨b,cap2,hv,hb⟩:=qzq HR.out T 1 rfl (by simp) hz;obtain ⟨rfl,rfl⟩:av=some ⟨b,0,none⟩∧cap=cap2:=by cases hv;exact ⟨rfl,rfl⟩
   obtain ⟨fz,hfz⟩:∃ f,quc z.k.holds=f:=⟨_,rfl⟩;have HHO:=Vh (qzw hf1 hz (HHH.out z (List.mem_of_getElem? hz)));rw [hfz,Jg] at HHO;have HZ:=Vh hz;have HNO:=Vh hno;have HT:=Vh T;clear hf1 hz hv T hno hfz;cases he:z.k.holds.isEmpty with
   | true =>
     rw [he] at HHO;go_wp2_with fail
     go_wp2_with fail
     refine Qa.run (HHO.out) (HT.out) [0] ?_
     rintro e w1 gs ⟨gW2,rfl,hf2,rfl⟩ HT;simp only [PU] at HT;have HF2:=Vh hf2;have HN2:=Vh (qfi HZ.out he HNO.out);clear hf2;go_wp2
     first
     | (go_roundw
        case rel=>exact ⟨k+1,gW2,by omega,by go_num,HF2.out,HN2.out,HT.out.alloc0 _⟩
        case measure=>simp [intOf];omega)
     | exact ⟨⟨k+1,gW2,by omega,by go_num,HF2.out,HN2.out,HT.out.alloc0 _⟩,by simp [intOf];omega⟩
     | ((repeat apply Exists.intro);exact ⟨⟨⟨k+1,gW2,by omega,by go_num,HF2.out,HN2.out,HT.out.alloc0 _⟩,rfl⟩,by simp [intOf];omega⟩)
   | false =>
     rw [he] at HHO;go_wp2_with fail
     go_wp2_with fail
     refine Qa.run (HHO.out) (HT.out) [0] ?_
     rintro e w1 gs ⟨gW2,rfl,hf2,rfl⟩ HT;simp only [PU] at HT;have HF2:=Vh hf2;have HN2:=Vh (qi2 HZ.out he);clear hf2;go_wp2
     go_ret
     exact ⟨_,⟨gW2,by rw [HN2.out];rfl,HF2.out,rfl⟩,HT.out.alloc0 _⟩
  ·have hkn:k=n:=by omega
   subst hkn
   have hno2:X0 l=true:=by
    have:=HLL.out;rw [List.take_of_length_le (by omega)] at hno;exact hno
   have HF2:=Vh hf1;have HT:=Vh T;clear hf1 T hno;by_cases hm:m=0
   ·have HD:=Vh (show (X0 l && decide (m=0))=true from by rw [hno2,hm];rfl)
    have hmb:(m == 0)=true:=by rw [hm];rfl
    clear hno2;go_wp2_with fail
    go_wp2_with fail
    refine (Qe.use (HPR.out) (HT.out) [2] rfl rfl).mono ?_
    rintro e w1 ⟨rfl,mq,rfl⟩;have HT:=Vh (HT.out.drewN mq);generalize World.drewN _ _=wq at HT ⊢;go_wp2_with fail
    refine (Qe.use (HPL.out) (HT.out) [3] rfl rfl).mono ?_
    rintro e w1 ⟨rfl,mq,rfl⟩;have HT:=Vh (HT.out.drewN mq);generalize World.drewN _ _=wq at HT ⊢;go_wp2
    go_ret
    exact ⟨_,⟨_,by rw [HD.out];rfl,HF2.out,rfl⟩,HT.out⟩
   ·have hd:decide (m=0)=false:=decide_eq_false hm
    have HD:=Vh (show (X0 l && decide (m=0))=false from by rw [hno2,hd];rfl);have hmb:(m == 0)=false:=by simpa using hm
    clear hno2 hd;go_wp2_with fail
    go_wp2_with fail
    refine (Qe.use (HPR.out) (HT.out) [2] rfl rfl).mono ?_
    rintro e w1 ⟨rfl,mq,rfl⟩;have HT:=Vh (HT.out.drewN mq);generalize World.drewN _ _=wq at HT ⊢;go_wp2_with fail
    refine (Qe.use (HPL.out) (HT.out) [3] rfl rfl).mono ?_
    rintro e w1 ⟨rfl,mq,rfl⟩;have HT:=Vh (HT.out.drewN mq);generalize World.drewN _ _=wq at HT ⊢;go_wp2
    go_ret
    exact ⟨_,⟨_,by rw [HD.out];rfl,HF2.out,rfl⟩,HT.out⟩
end
theorem St.keep {M A Y α:Type} {runM:M→α→St M A Y × α} {runA:A→α→α} {R:α→α→Prop} (hr:∀ z,R z z) (ht:∀ x y z,R x y→R y z→R x z) (hm:∀ m z,R z (runM m z).2) (ha:∀ a z,R z (runA a z)) :
 ∀ (s:St M A Y) (z:α),R z (St.run runM runA s z).2
 | .nil,z=>hr z
 | .at _ m,z=>hm m z
 | .row1 a,z=>ha a z
 | .row2 a _,z=>ha a z
 | .thn s m,z=>by
   have h1:=St.keep (Y:=Y) hr ht hm ha s z
   show R z (Xl runM (s.run runM runA z).1 m (s.run runM runA z).2).2
   unfold Xl;split
   ·exact ht _ _ _ h1 (hm m _)
   ·exact h1
structure qt (z z':ZT):Prop where
 cfg:z'.x.f.cfg=z.x.f.cfg
 busy:z'.x.f.busy=z.x.f.busy
 closed:z'.x.f.closed=z.x.f.closed
 len:z'.x.shs.length=z.x.shs.length
 room:z'.p.room=z.p.room
 shut:z'.p.shut=z.p.shut
 th:z'.k.th=z.k.th
theorem qt.refl (z:ZT):qt z z:=⟨rfl,rfl,rfl,rfl,rfl,rfl,rfl⟩
theorem qt.trans {x y z:ZT} (a:qt x y) (b:qt y z):qt x z :=
 ⟨b.cfg.trans a.cfg,b.busy.trans a.busy,b.closed.trans a.closed,b.len.trans a.len,b.room.trans a.room,b.shut.trans a.shut,b.th.trans a.th⟩
theorem qnw (p:Qy) (f:Q7):(p.put f).1.room=p.room∧(p.put f).1.shut=p.shut:=by
 unfold Qy.put;split
 ·exact ⟨rfl,rfl⟩
 ·split <;> exact ⟨rfl,rfl⟩
theorem qay (z:ZT) (s:Q0):qt z (z.onSh s):=⟨rfl,rfl,rfl,List.length_set,rfl,rfl,rfl⟩
theorem qdh (i:Nat) (z:ZT):qt z (Zj i z).2:=by
 unfold Zj;split <;> exact ⟨rfl,rfl,rfl,rfl,rfl,rfl,rfl⟩
theorem qfc (d i:Nat) (z:ZT):qt z (Xc d i z).2:=by
 unfold Xc;split <;> exact ⟨rfl,rfl,rfl,rfl,rfl,rfl,rfl⟩
theorem qr4 (a:AT) (z:ZT):qt z (Xv a z):=by
 cases a with
 | unlock=>exact qay z _
 | put f=>exact ⟨rfl,rfl,rfl,rfl,(qnw z.p f).1,(qnw z.p f).2,rfl⟩
 | _=>exact ⟨rfl,rfl,rfl,rfl,rfl,rfl,rfl⟩
theorem qp7 (m:MT) (z:ZT):qt z (runT m z).2:=by
 have hr:qt z z:=qt.refl z;cases m with
 | enter=>exact ⟨rfl,rfl,rfl,rfl,rfl,rfl,rfl⟩
 | gate =>
   show qt z (if z.x.f.closed=true then qz 3 z else (.at none .tick,z)).2
   split
   ·exact ⟨rfl,rfl,rfl,rfl,rfl,rfl,rfl⟩
   ·exact hr
 | tick=>exact qt.trans (y:=({ z with x:={ z.x with f:={ z.x.f with now:=z.x.f.now+1 } },k:={ z.k with now:=z.x.f.now+1 } }:ZT).note { ev0 with kind:=11,tick:=z.x.f.now+1 }) ⟨rfl,rfl,rfl,rfl,rfl,rfl,rfl⟩ (qdh 0 _)
 | shards1 i=>exact qdh _ z
 | one2 d=>exact qay z _
 | one21 d =>
   dsimp only [runT]
   split
   ·exact hr
   ·exact hr
 | one211 d=>exact hr
 | one2112 d =>
   dsimp only [runT]
   split
   ·exact hr
   ·exact qfc d 0 z
 | one21121=>exact hr
 | pops1 n =>
   dsimp only [runT]
   split
   ·exact qt.trans (qay z _) ⟨rfl,rfl,rfl,rfl,rfl,rfl,rfl⟩
   ·exact qt.trans (qay z _) ⟨rfl,rfl,rfl,rfl,rfl,rfl,rfl⟩
 | pops11 n=>exact hr
 | rec1 =>
   dsimp only [runT]
   split <;> exact ⟨rfl,rfl,rfl,rfl,rfl,rfl,rfl⟩
 | rec11 =>
   dsimp only [runT]
   split <;> exact ⟨rfl,rfl,rfl,rfl,rfl,rfl,rfl⟩
 | fires1 d i=>exact qfc d _ z
 | looks =>
   dsimp only [runT]
   split <;> exact ⟨rfl,rfl,rfl,rfl,rfl,rfl,rfl⟩
 | claims =>
   dsimp only [runT]
   split <;> exact ⟨rfl,rfl,rfl,rfl,rfl,rfl,rfl⟩
 | claims2=>exact hr
 | behind =>
   dsimp only [runT]
   split
   ·exact ⟨rfl,rfl,rfl,rfl,rfl,rfl,rfl⟩
   ·split <;> exact ⟨rfl,rfl,rfl,rfl,rfl,rfl,rfl⟩
 | rearm1 next =>
   dsimp only [runT]
   split <;> exact ⟨rfl,rfl,rfl,rfl,rfl,rfl,rfl⟩
 | finishes =>
   dsimp only [runT]
   split
   ·split <;> exact ⟨rfl,rfl,rfl,rfl,rfl,rfl,rfl⟩
   ·exact ⟨rfl,rfl,rfl,rfl,rfl,rfl,rfl⟩
theorem qmk (s:ST) (z:ZT):qt z (Xp s z).2:=St.keep qt.refl (fun _ _ _=>qt.trans) qp7 qr4 s z
structure qk3 (z z':ZS):Prop where
 cfg:z'.x.f.cfg=z.x.f.cfg
 busy:z'.x.f.busy=z.x.f.busy
 now:z'.x.f.now=z.x.f.now
 shs:z'.x.shs=z.x.shs
 p:{ z'.p with shut:=z.p.shut }=z.p
theorem qk3.trans {x y z:ZS} (a:qk3 x y) (b:qk3 y z):qk3 x z :=
 ⟨b.cfg.trans a.cfg,b.busy.trans a.busy,b.now.trans a.now,b.shs.trans a.shs,by
   have h1:=a.p;have h2:=b.p
   rw [← h1,← h2]⟩
theorem qtm (s:SS) (z:ZS):qk3 z (stepS s z).2:=by
 refine St.keep (R:=qk3) (runM:=Zn) (runA:=Y3) (fun z=>⟨rfl,rfl,rfl,rfl,rfl⟩) (fun _ _ _=>qk3.trans) (fun m z=>?_) (fun a z=>?_) s z
 ·cases m with
  | shuts=>dsimp only [Zn];split <;> exact ⟨rfl,rfl,rfl,rfl,rfl⟩
  | slots0=>exact ⟨rfl,rfl,rfl,rfl,rfl⟩
  | slots2 i=>exact ⟨rfl,rfl,rfl,rfl,rfl⟩
  | waits=>exact ⟨rfl,rfl,rfl,rfl,rfl⟩
  | looks1 i=>dsimp only [Zn];split <;> exact ⟨rfl,rfl,rfl,rfl,rfl⟩
  | leaves0 i=>dsimp only [Zn];split <;> exact ⟨rfl,rfl,rfl,rfl,rfl⟩
  | waits2=>exact ⟨rfl,rfl,rfl,rfl,rfl⟩
 ·cases a <;> exact ⟨rfl,rfl,rfl,rfl,rfl⟩
inductive Wk where
 | call (s:SC) (k:Qt)
 | turn (s:ST) (k:Xf)
 | clo (s:SS) (k:Yl)
def Wk.done:Wk→Bool
 | .call s _=>s.isNil
 | .turn s _=>s.isNil
 | .clo s _=>s.isNil
def Wk.may:Wk→ZF→Bool
 | .call s _,_=>!s.isNil
 | .turn s k,z=>qbc s ⟨k,z.x,z.ws,z.p⟩
 | .clo s k,z=>qeq s ⟨k,z.x,z.p⟩
def Wk.step:Wk→ZF→Wk × ZF
 | .call s k,z=>(.call (qan s (k,z.x)).1 (qan s (k,z.x)).2.1,{ z with x:=(qan s (k,z.x)).2.2 })
 | .turn s k,z=>(.turn (Xp s ⟨k,z.x,z.ws,z.p⟩).1 (Xp s ⟨k,z.x,z.ws,z.p⟩).2.k,{ z with x:=(Xp s ⟨k,z.x,z.ws,z.p⟩).2.x,ws:=(Xp s ⟨k,z.x,z.ws,z.p⟩).2.ws,p:=(Xp s ⟨k,z.x,z.ws,z.p⟩).2.p })
 | .clo s k,z=>(.clo (stepS s ⟨k,z.x,z.p⟩).1 (stepS s ⟨k,z.x,z.p⟩).2.k,{ z with x:=(stepS s ⟨k,z.x,z.p⟩).2.x,p:=(stepS s ⟨k,z.x,z.p⟩).2.p })
structure qh9 (N:Nat) (z:ZF):Prop where
 zn:ZN N z
 ws:qzb z.ws
 sh4:z.x.shs.length≤4
 room:z.p.room≤1000
theorem qh9.mono {N M:Nat} {z:ZF} (h:qh9 N z) (hm:N≤M):qh9 M z:=⟨h.zn.mono hm,h.ws,h.sh4,h.room⟩
structure CloN (N:Nat) (s:SS) (k:Yl):Prop where
 saw:0≤k.saw∧k.saw<18446744073709551616∧okW k.saw=true
 left:k.left.length≤N
 fit:q2c s k
structure q2t (N:Nat) (s:SC) (k:Qt) (x:Qj):Prop where
 wk:Zo N k x
 fit:qyw s k
 gen:qb0 k
structure TurN (N:Nat) (s:ST) (k:Xf) (x:Qj):Prop where
 wk:qlh N k x
 fit:qz3 s k x
 th:k.th≤1000000
def qpm (N:Nat):Wk→Qj→Prop
 | .call s k,x=>q2t N s k x
 | .turn s k,x=>TurN N s k x
 | .clo s k,_=>CloN N s k
theorem qpm.mono {N M:Nat} {w:Wk} {x:Qj} (h:qpm N w x) (hm:N≤M):qpm M w x:=by
 cases w with
 | call s k=>exact ⟨Zo.mono h.wk hm,h.fit,h.gen⟩
 | turn s k=>exact ⟨qlh.mono h.wk hm,h.fit,h.th⟩
 | clo s k=>exact ⟨h.saw,by have:=h.left;omega,h.fit⟩
structure quv (x x':Qj):Prop where
 recs:x'.slab.recs.length=x.slab.recs.length
 len:x'.shs.length=x.shs.length
def zl (x x':Qj):Prop:=∀ j,(x'.shs.getD j (Qp 1)).who=(x.shs.getD j (Qp 1)).who
theorem qpj {x x':Qj} (hw:zl x x') (s:ST) (k:Xf) (i:Nat):qjj s k x' i=qjj s k x i:=by
 have ho:Own k x'=Own k x:=by unfold Own;rw [hw]
 unfold qjj;rw [ho]
theorem qn4 {x x':Qj} {s:ST} {k:Xf} (h:qz3 s k x) (hth:k.th≤1000000) (hl:x'.shs.length=x.shs.length) (hw:zl x x'):qz3 s k x':=by
 match s,h with
 | .nil,_=>trivial
 | .at none .enter,h=>exact .inr hth
 | .at none .gate,h=>exact .inr hth
 | .at none .tick,h=>exact h
 | .row2 .leave1 .answer,_=>trivial
 | .row1 .answer,_=>trivial
 | .thn X (.shards1 i),h =>
   obtain ⟨a,b,c,d⟩:=h;exact ⟨a,by rw [hl];exact b,c,by rw [qpj hw];exact d⟩
def Wk.isTurn:Wk→Bool
 | .turn _ _=>true
 | _=>false
theorem qpm.frame {N:Nat} {w:Wk} {x x':Qj} (h:qpm N w x) (hk:quv x x') (hw:w.isTurn=true→zl x x'∨w.done=true):qpm N w x':=by
 cases w with
 | call s k =>
   have hwk:=h.wk;exact ⟨⟨hwk.c0,hwk.c1,hwk.id,hwk.slot,hwk.saw,fun q hq=>by rw [hk.recs];exact hwk.rq q hq,fun i t ht=>by rw [hk.len];exact hwk.tk i t ht⟩,h.fit,h.gen⟩
 | turn s k =>
   have hwk:=h.wk;refine ⟨⟨hwk.th,hwk.saw,hwk.t,hwk.dl,hwk.due,fun i hi=>by rw [hk.len];exact hwk.sh i hi⟩,?_,h.th⟩
   rcases hw rfl with hw | hd
   ·exact qn4 h.fit h.th hk.len hw
   ·have:s.isNil=true:=hd
    cases s with
    | nil=>trivial
    | _=>cases this
 | clo s k=>exact h
theorem qtd {N:Nat} {w:Wk} {z:ZF} (hg:qh9 N z) (hj:qpm N w z.x) (hm:w.may z=true) (hN:N<999999) :
 qh9 (N+1) (w.step z).2∧qpm (N+1) (w.step z).1 (w.step z).2.x∧quv z.x (w.step z).2.x∧(w.isTurn=false→zl z.x (w.step z).2.x)∧(w.step z).2.lg=z.lg:=by
 cases w with
 | call s k =>
   have hjc:JC N s (k,z.x):=⟨hg.zn.core,hj.wk,hj.fit⟩;obtain ⟨h1,h2,h3⟩:=hjc.step;obtain ⟨h4,h5⟩:=qmi hjc hj.gen;exact ⟨⟨⟨h1,h4.rest (hg.zn.rest.mono (by omega)),by have:=hg.zn.lg;show z.lg.length≤_;omega⟩,hg.ws,by show (qan s (k,z.x)).2.2.shs.length≤4;rw [h4.len];exact hg.sh4,hg.room⟩,⟨h2,h3,h5⟩,⟨h4.recs,h4.len⟩,fun _=>h4.who,rfl⟩
 | turn s k =>
   have hjt:JT N s ⟨k,z.x,z.ws,z.p⟩:=⟨⟨hg.zn.core,hg.zn.rest,hj.wk,hg.ws,hg.sh4⟩,hj.fit⟩;obtain ⟨h1,h2⟩:=hjt.step hN hm;have h4:=qmk s ⟨k,z.x,z.ws,z.p⟩;refine ⟨⟨⟨h1.core,h1.rest,by have:=hg.zn.lg;show z.lg.length≤_;omega⟩,h1.ws,h1.sh4,by show (Xp s ⟨k,z.x,z.ws,z.p⟩).2.p.room≤1000;rw [h4.room];exact hg.room⟩,⟨h1.k,h2,by show (Xp s ⟨k,z.x,z.ws,z.p⟩).2.k.th≤_;rw [h4.th];exact hj.th⟩,⟨?_,h4.len⟩,(fun h=>by cases h),rfl⟩
   have a:=h1.rest.cap;have b:=hg.zn.rest.cap;rw [h4.cfg] at a
   show (Xp s ⟨k,z.x,z.ws,z.p⟩).2.x.slab.recs.length=_
   have:(z.x.f.cfg.cap:Int)=(Xp s ⟨k,z.x,z.ws,z.p⟩).2.x.slab.recs.length:=a;omega
 | clo s k =>
   have hjs:JS N s ⟨k,z.x,z.p⟩:=⟨⟨hg.zn.core,hg.zn.rest.cap,hg.zn.rest.busy,hj.saw,hj.left⟩,hj.fit⟩;obtain ⟨h1,h2⟩:=hjs.step;have h4:=qtm s ⟨k,z.x,z.p⟩;have hr:=hg.zn.rest
   have hp:(stepS s ⟨k,z.x,z.p⟩).2.p.ch=z.p.ch∧(stepS s ⟨k,z.x,z.p⟩).2.p.sp=z.p.sp∧(stepS s ⟨k,z.x,z.p⟩).2.p.room=z.p.room:=by
    have e1:=congrArg Qy.ch h4.p;have e2:=congrArg Qy.sp h4.p;have e3:=congrArg Qy.room h4.p;exact ⟨e1,e2,e3⟩
   have hsh:(stepS s ⟨k,z.x,z.p⟩).2.x.shs=z.x.shs:=h4.shs;have hnow:(stepS s ⟨k,z.x,z.p⟩).2.x.f.now=z.x.f.now:=h4.now;have hcap:(stepS s ⟨k,z.x,z.p⟩).2.x.f.cfg=z.x.f.cfg:=h4.cfg;refine ⟨⟨⟨h1.core,⟨?_,h1.busy,h1.cap,?_,fun w hw=>(hr.wok w hw).mono (by omega),?_,?_,?_,?_⟩,by have:=hg.zn.lg;show z.lg.length≤_;omega⟩,hg.ws,?_,?_⟩,⟨h1.saw,h1.left,h2⟩,⟨?_,?_⟩,fun _=>?_,rfl⟩
   ·show 0≤(stepS s ⟨k,z.x,z.p⟩).2.x.f.now∧(stepS s ⟨k,z.x,z.p⟩).2.x.f.now≤_
    have:=hr.now;rw [hnow];omega
   ·show z.ws.length=(stepS s ⟨k,z.x,z.p⟩).2.x.shs.length
    rw [hsh];exact hr.wl
   ·show ∀ a∈(stepS s ⟨k,z.x,z.p⟩).2.x.shs,_
    rw [hsh];exact hr.task
   ·show ∀ a∈(stepS s ⟨k,z.x,z.p⟩).2.x.shs,_
    rw [hsh];intro a ha;have:=hr.turns a ha;omega
   ·show (stepS s ⟨k,z.x,z.p⟩).2.p.ch.length≤(stepS s ⟨k,z.x,z.p⟩).2.p.room
    rw [hp.1,hp.2.2];exact hr.ch
   ·show (stepS s ⟨k,z.x,z.p⟩).2.p.sp.length≤_
    have:=hr.sp;rw [hp.2.1];omega
   ·show (stepS s ⟨k,z.x,z.p⟩).2.x.shs.length≤4
    rw [hsh];exact hg.sh4
   ·show (stepS s ⟨k,z.x,z.p⟩).2.p.room≤1000
    rw [hp.2.2];exact hg.room
   ·have a:=h1.cap
    have b:=hr.cap
    show (stepS s ⟨k,z.x,z.p⟩).2.x.slab.recs.length=_
    have a':(stepS s ⟨k,z.x,z.p⟩).2.x.f.cfg.cap=(stepS s ⟨k,z.x,z.p⟩).2.x.slab.recs.length:=a;rw [hcap] at a';omega
   ·show (stepS s ⟨k,z.x,z.p⟩).2.x.shs.length=_
    rw [hsh]
   ·intro j
    show ((stepS s ⟨k,z.x,z.p⟩).2.x.shs.getD j _).who=_
    rw [hsh]
def qt7:SC→Qt→Int
 | .nil,_=>0
 | .at none .right,_=>0
 | .at none .enter,_=>0
 | .row1 .ends1,_=>0
 | _,k=>if k.kind≤3 then 1 else 0
def q0l:SC→Qt→Prop
 | .nil,k=>True
 | .at none .right,k=>k.kind=1∨k.kind=2
 | .at none .enter,k=>1≤k.kind∧k.kind≤3
 | .at none .gate,k=>1≤k.kind∧k.kind≤5
 | .at none .looks,k=>3≤k.kind∧k.kind≤5
 | .at none .asks,k=>k.kind=1∨k.kind=2
 | .at none .queues,k=>1≤k.kind∧k.kind≤3
 | .at none .submits,k=>k.kind=1∨k.kind=2
 | .at none .fills,k=>1≤k.kind∧k.kind≤3
 | .at none .again,k=>k.kind=3
 | .at none .tries,k=>3≤k.kind∧k.kind≤5
 | .row1 .ends1,k=>True
 | .thn (.row1 .leaves1) .ends,k=>1≤k.kind∧k.kind≤3
 | .thn (.row2 .undo .drop) .leaves,k=>k.kind=1∨k.kind=2
 | .thn (.row1 .drop) .leaves,k=>k.kind=1∨k.kind=2
 | .thn (.row1 .again1) .leaves,k=>k.kind=3
 | .thn (.row2 .tries1 .drop) .ends,k=>k.kind=4
 | .thn (.row1 .drop) .ends,k=>k.kind=4
 | _,_=>False
def zq (k:Qt):Prop:=∀ i t,k.tk=some (i,t)→¬ (t.status=2∧t.filled=false)
def qc1 (k:Qt):Prop:=∃ i t,k.tk=some (i,t)∧t.status=2∧t.filled=false
def qs2:SC→Qt→Prop
 | .at none .queues,k=>∃ i t,k.tk=some (i,t)∧t.status=0∧t.filled=false
 | .at none .submits,k=>qc1 k
 | .at none .fills,k=>qc1 k
 | .at none .again,k=>qc1 k
 | .at none .tries,k=>if k.kind=3 then qc1 k else zq k
 | .thn (.row1 .again1) .leaves,k=>qc1 k
 | _,k=>zq k
inductive qzt (k k':Qt) (x x':Qj):Prop where
 | none (h1:x'.shs=x.shs) (h2:k'.tk=k.tk):qzt k k' x x'
 | new (h1:x'.shs=x.shs) (h0:zq k) (i:Nat) (hi:i<x.shs.length) (h2:k'.tk=some (i,Xm)):qzt k k' x x'
 | step (i:Nat) (t:Xt) (s:Q0) (h0:k.tk=some (i,t)) (ht:t.status=0) (hf:t.filled=false) (hs:x.shs[i]?=some s) (h1:x'.shs=x.shs.set i { s with ring:=(stepT s.ring t).1 }) (h2:k'.tk=some (i,(stepT s.ring t).2)):qzt k k' x x'
 | fill (i:Nat) (t:Xt) (s:Q0) (v:Qm) (h0:k.tk=some (i,t)) (ht:t.status=2) (hf:t.filled=false) (hs:x.shs[i]?=some s) (h1:x'.shs=x.shs.set i { s with ring:=(Zs s.ring t v).1 }) (h2:k'.tk=some (i,(Zs s.ring t v).2.1)):qzt k k' x x'
structure GoC (s:SC) (k:Qt) (x:Qj) (r:SC × ZC):Prop where
 kind:r.2.1.kind=k.kind
 fit:q0l r.1 r.2.1
 tk:qs2 r.1 r.2.1
 ins:r.2.2.f.inside=x.f.inside+qt7 r.1 r.2.1 - qt7 s k
 eff:qzt k r.2.1 x r.2.2
theorem zq.tk {k k':Qt} (h:zq k) (e:k'.tk=k.tk):zq k':=fun i t ht=>h i t (e ▸ ht)
theorem qc1.tk {k k':Qt} (h:qc1 k) (e:k'.tk=k.tk):qc1 k':=by
 obtain ⟨i,t,h1,h2⟩:=h;exact ⟨i,t,e.trans h1,h2⟩
theorem qnm {k k2:Qt} (h:1≤k.kind∧k.kind≤5) (e:k2.kind=k.kind) (hf:zq k2):q0l (Zx k) k2∧qs2 (Zx k) k2∧qt7 (Zx k) k2=if k.kind≤3 then 1 else 0:=by
 unfold Zx;split
 ·exact ⟨trivial,hf,by rw [if_neg (by omega)];rfl⟩
 ·refine ⟨by show 1≤k2.kind∧k2.kind≤3;omega,hf,?_⟩
  show (if k2.kind≤3 then (1:Int) else 0)=_
  rw [e]
theorem qm1 (k:Qt) (s:Qn):(lookW k s).1.tk=k.tk∧(lookW k s).1.kind=k.kind:=by
 unfold lookW;split
 ·exact ⟨rfl,rfl⟩
 ·split <;> exact ⟨rfl,rfl⟩
theorem qwn {r:Qs} {t:Xt} (h:t.status=0):((stepT r t).2.status=0∨(stepT r t).2.status=1∨(stepT r t).2.status=2)∧(stepT r t).2.filled=t.filled:=by
 unfold stepT qes qal qdr;rw [if_neg (by omega)];split
 ·exact ⟨.inl h,rfl⟩
 ·split
  ·split
   ·exact ⟨.inl h,rfl⟩
   ·split
    ·exact ⟨.inr (.inl rfl),rfl⟩
    ·exact ⟨.inl h,rfl⟩
  ·split
   ·exact ⟨.inr (.inr rfl),rfl⟩
   ·exact ⟨.inl h,rfl⟩
section
variable {N:Nat} {k:Qt} {x:Qj}
theorem qn0 (hk:Zo N k x) (v:Qm) (h:qc1 k):∃ i t s,k.tk=some (i,t)∧t.status=2∧t.filled=false∧x.shs[i]?=some s∧Y2 v (k,x)=({ k with tk:=some (i,(Zs s.ring t v).2.1) },{ x with shs:=x.shs.set i { s with ring:=(Zs s.ring t v).1 } })∧(Zs s.ring t v).2.1={ t with filled:=true }:=by
 obtain ⟨i,t,h1,h2,h3⟩:=h;have hi:=(hk.tk i t h1).2;refine ⟨i,t,x.shs[i],h1,h2,h3,List.getElem?_eq_getElem hi,?_,?_⟩
 ·unfold Y2
  simp only [h1,List.getElem?_eq_getElem hi]
 ·unfold Zs
  rw [if_pos ⟨h2,h3⟩]
theorem qjn {k':Qt} {i:Nat} {t:Xt} (h:k'.tk=some (i,{ t with filled:=true })):zq k':=by
 intro j u hu;rw [h] at hu;simp only [Option.some.injEq,Prod.mk.injEq] at hu;obtain ⟨_,rfl⟩:=hu;intro hh;cases hh.2
theorem qz9 (hc:Zr N x) (hk:Zo N k x) (m:MC) (hf:qyw (.at none m) k) (h1:q0l (.at none m) k) (h2:qs2 (.at none m) k):GoC (.at none m) k x (zr m (k,x)):=by
 cases m with
 | right =>
   have h1:k.kind=1∨k.kind=2:=h1;have h2:zq k:=h2
   show GoC _ k x (if qt6 k then (.row1 .ends1,Ql 1 (k,x)) else (.at none .enter,(k,x)))
   split
   ·exact ⟨rfl,trivial,h2.tk rfl,by show x.f.inside=x.f.inside+0 - 0;omega,.none rfl rfl⟩
   ·exact ⟨rfl,by show 1≤k.kind∧k.kind≤3;omega,h2,by show x.f.inside=x.f.inside+0 - 0;omega,.none rfl rfl⟩
 | enter =>
   have h1:1≤k.kind∧k.kind≤3:=h1;have h2:zq k:=h2;exact ⟨rfl,by show 1≤k.kind∧k.kind≤5;omega,h2,by show x.f.inside+1=x.f.inside+(if k.kind≤3 then 1 else 0) - 0;rw [if_pos h1.2];omega,.none rfl rfl⟩
 | gate =>
   have h1:1≤k.kind∧k.kind≤5:=h1;have h2:zq k:=h2
   show GoC _ k x (if x.f.closed=true then (Zx k,Ql 3 (k,x)) else if k.kind=1∨k.kind=2 then (.at none .asks,({ k with rq:=some ⟨k.period,0,0,0,0,0⟩ },x)) else (.at none .looks,(k,x)))
   split
   ·obtain ⟨a,b,c⟩:=qnm (k:=k) (k2:=Jl 3 k) h1 rfl (h2.tk rfl)
    exact ⟨rfl,a,b,by show x.f.inside=x.f.inside+qt7 (Zx k) (Jl 3 k) - (if k.kind≤3 then 1 else 0);rw [c];omega,.none rfl rfl⟩
   ·split
    ·exact ⟨rfl,by show k.kind=1∨k.kind=2;assumption,h2.tk rfl,by show x.f.inside=x.f.inside+(if k.kind≤3 then 1 else 0) - (if k.kind≤3 then 1 else 0);omega,.none rfl rfl⟩
    ·exact ⟨rfl,by show 3≤k.kind∧k.kind≤5;omega,h2,by show x.f.inside=x.f.inside+(if k.kind≤3 then 1 else 0) - (if k.kind≤3 then 1 else 0);omega,.none rfl rfl⟩
 | asks =>
   have h1:k.kind=1∨k.kind=2:=h1;have h2:zq k:=h2;obtain ⟨q,hq⟩:=Option.isSome_iff_exists.1 hf.1;have e:zr .asks (k,x)=qcd (k,x) q:=by show (match k.rq with | none=>_ | some q=>_)=_;rw [hq]
   rw [e];unfold qcd;simp only [];split
   ·exact ⟨rfl,by show 1≤k.kind∧k.kind≤3;omega,h2.tk rfl,by show x.f.inside=x.f.inside+(if k.kind≤3 then 1 else 0) - (if k.kind≤3 then 1 else 0);omega,.none rfl rfl⟩
   ·split
    ·rename_i ha hb
     refine ⟨rfl,by show 1≤k.kind∧k.kind≤3;omega,⟨_,_,rfl,rfl,rfl⟩,by show x.f.inside=x.f.inside+(if k.kind≤3 then 1 else 0) - (if k.kind≤3 then 1 else 0);omega,.new rfl h2 _ ?_ rfl⟩
     exact qnh (N:=N) hc (Int.emod_nonneg _ (by omega))
    ·exact ⟨rfl,h1,h2.tk rfl,by show x.f.inside=x.f.inside+(if k.kind≤3 then 1 else 0) - (if k.kind≤3 then 1 else 0);omega,.none rfl rfl⟩
 | queues =>
   have h1:1≤k.kind∧k.kind≤3:=h1;obtain ⟨i,t,ht,hst,hfl⟩:=(show ∃ i t,k.tk=some (i,t)∧t.status=0∧t.filled=false from h2);have hi:=(hk.tk i t ht).2;have hs:=List.getElem?_eq_getElem hi
   have e:zr .queues (k,x)=Z1 (k,x) i t x.shs[i]:=by
    show (match k.tk with | none=>_ | some (i,t)=>_)=_
    rw [ht];simp only [hs]
   rw [e];obtain ⟨hcase,hfl'⟩:=qwn (r:=x.shs[i].ring) hst;rw [hfl] at hfl';unfold Z1;simp only [];split
   ·rename_i h
    exact ⟨rfl,h1,⟨_,_,rfl,h,hfl'⟩,by show x.f.inside=x.f.inside+(if k.kind≤3 then 1 else 0) - (if k.kind≤3 then 1 else 0);omega,.step i t _ ht hst hfl hs rfl rfl⟩
   ·rename_i hn0
    have hfree:(stepT x.shs[i].ring t).2.status=1→∀ k':Qt,k'.tk=some (i,(stepT x.shs[i].ring t).2)→zq k':=by
     intro h k' hk' j u hu;rw [hk'] at hu;simp only [Option.some.injEq,Prod.mk.injEq] at hu;obtain ⟨_,rfl⟩:=hu;omega
    split
    ·rename_i h
     exact ⟨rfl,h1,hfree h.1 _ rfl,by show x.f.inside=x.f.inside+(if k.kind≤3 then 1 else 0) - (if k.kind≤3 then 1 else 0);omega,.step i t _ ht hst hfl hs rfl rfl⟩
    ·rename_i hn1
     split
     ·rename_i h
      exact ⟨rfl,by show k.kind=1∨k.kind=2;omega,hfree h _ rfl,by show x.f.inside=x.f.inside+(if k.kind≤3 then 1 else 0) - (if k.kind≤3 then 1 else 0);omega,.step i t _ ht hst hfl hs rfl rfl⟩
     ·rename_i hn2
      have h3:(stepT x.shs[i].ring t).2.status=2:=by omega
      split
      ·exact ⟨rfl,by show k.kind=3;assumption,⟨_,_,rfl,h3,hfl'⟩,by show x.f.inside=x.f.inside+(if k.kind≤3 then 1 else 0) - (if k.kind≤3 then 1 else 0);omega,.step i t _ ht hst hfl hs rfl rfl⟩
      ·exact ⟨rfl,by show k.kind=1∨k.kind=2;omega,⟨_,_,rfl,h3,hfl'⟩,by show x.f.inside=x.f.inside+(if k.kind≤3 then 1 else 0) - (if k.kind≤3 then 1 else 0);omega,.step i t _ ht hst hfl hs rfl rfl⟩
 | submits =>
   have h1:k.kind=1∨k.kind=2:=h1;have h2:qc1 k:=h2;exact ⟨rfl,by show 1≤k.kind∧k.kind≤3;omega,h2.tk rfl,by show x.f.inside=x.f.inside+(if k.kind≤3 then 1 else 0) - (if k.kind≤3 then 1 else 0);omega,.none rfl rfl⟩
 | fills =>
   have h1:1≤k.kind∧k.kind≤3:=h1;obtain ⟨i,t,s,a1,a2,a3,a4,a5,a6⟩:=qn0 hk (zv (k,x)) h2;have e:zr .fills (k,x)=(Ji,(okC (Y2 (zv (k,x)) (k,x)).1,(Y2 (zv (k,x)) (k,x)).2)):=rfl;rw [e,a5];refine ⟨rfl,h1,qjn (i:=i) (t:=t) (by rw [← a6];rfl),by show x.f.inside=x.f.inside+(if k.kind≤3 then 1 else 0) - (if k.kind≤3 then 1 else 0);omega,.fill i t s (zv (k,x)) a1 a2 a3 a4 rfl rfl⟩
 | looks =>
   have h1:3≤k.kind∧k.kind≤5:=h1;have h2:zq k:=h2;obtain ⟨l1,l2⟩:=qm1 k x.slab;have hl2:(X4 (k,x)).1.1.kind=k.kind:=l2;have hl1:zq (X4 (k,x)).1.1:=h2.tk l1
   show GoC _ k x (if (X4 (k,x)).2=0 then (if k.kind=3 then (.at none .queues,({ (X4 (k,x)).1.1 with tk:=some (Y4 (X4 (k,x)).1.1.slot x,Xm) },x)) else (.at none .tries,(X4 (k,x)).1)) else if (X4 (k,x)).2=1 then (Zx k,Ql 1 (X4 (k,x)).1) else (Zx k,Ql 0 (X4 (k,x)).1))
   split
   ·split
    ·refine ⟨l2,by show 1≤(X4 (k,x)).1.1.kind∧(X4 (k,x)).1.1.kind≤3;omega,⟨_,_,rfl,rfl,rfl⟩,by show x.f.inside=x.f.inside+(if (X4 (k,x)).1.1.kind≤3 then 1 else 0) - (if k.kind≤3 then 1 else 0);rw [hl2];omega,.new rfl h2 _ ?_ rfl⟩
     exact qnh (N:=N) hc ((qrn hc hk).slot)
    ·rename_i hk3
     refine ⟨l2,by show 3≤(X4 (k,x)).1.1.kind∧(X4 (k,x)).1.1.kind≤5;omega,?_,by show x.f.inside=x.f.inside+(if (X4 (k,x)).1.1.kind≤3 then 1 else 0) - (if k.kind≤3 then 1 else 0);rw [hl2];omega,.none rfl l1⟩
     show if (X4 (k,x)).1.1.kind=3 then _ else _
     rw [hl2,if_neg hk3];exact hl1
   ·have hov:=fun e=>qnm (k:=k) (k2:=Jl e (X4 (k,x)).1.1) ⟨by omega,h1.2⟩ l2 (hl1.tk rfl)
    split
    ·exact ⟨l2,(hov 1).1,(hov 1).2.1,by show x.f.inside=x.f.inside+qt7 (Zx k) (Jl 1 (X4 (k,x)).1.1) - (if k.kind≤3 then 1 else 0);rw [(hov 1).2.2];omega,.none rfl l1⟩
    ·exact ⟨l2,(hov 0).1,(hov 0).2.1,by show x.f.inside=x.f.inside+qt7 (Zx k) (Jl 0 (X4 (k,x)).1.1) - (if k.kind≤3 then 1 else 0);rw [(hov 0).2.2];omega,.none rfl l1⟩
 | again =>
   have h1:k.kind=3:=h1;have h2:qc1 k:=h2;obtain ⟨l1,l2⟩:=qm1 k x.slab;have hl2:(X4 (k,x)).1.1.kind=k.kind:=l2;have hl1:qc1 (X4 (k,x)).1.1:=h2.tk l1
   show GoC _ k x (if (X4 (k,x)).2=0 then (.at none .tries,(X4 (k,x)).1) else (.thn (.row1 .again1) .leaves,Ql 0 (X4 (k,x)).1))
   split
   ·refine ⟨l2,by show 3≤(X4 (k,x)).1.1.kind∧(X4 (k,x)).1.1.kind≤5;omega,?_,by show x.f.inside=x.f.inside+(if (X4 (k,x)).1.1.kind≤3 then 1 else 0) - (if k.kind≤3 then 1 else 0);rw [hl2];omega,.none rfl l1⟩
    show if (X4 (k,x)).1.1.kind=3 then _ else _
    rw [hl2,if_pos h1];exact hl1
   ·exact ⟨l2,by show (X4 (k,x)).1.1.kind=3;omega,hl1.tk rfl,by show x.f.inside=x.f.inside+(if (X4 (k,x)).1.1.kind≤3 then 1 else 0) - (if k.kind≤3 then 1 else 0);rw [hl2];omega,.none rfl l1⟩
 | tries =>
   have h1:3≤k.kind∧k.kind≤5:=h1;have h2:if k.kind=3 then qc1 k else zq k:=h2
   have l1:(qx (k,x)).1.1.tk=k.tk:=rfl;have l2:(qx (k,x)).1.1.kind=k.kind:=rfl
   show GoC _ k x (if (qx (k,x)).2≠0 then (if k.kind=3 then (.at none .again,(qx (k,x)).1) else (.at none .looks,(qx (k,x)).1)) else if k.kind=3 then (.at none .fills,z8 { ev0 with kind:=6,id:=k.id,gen:=(qx (k,x)).1.1.gen,dl:=k.cdl } (okC (qx (k,x)).1.1,(qx (k,x)).1.2))
    else if k.kind=5 then (.row1 .ends1,z8 { ev0 with kind:=8,id:=k.id,gen:=(qx (k,x)).1.1.gen } (okC (qx (k,x)).1.1,(qx (k,x)).1.2))
    else (.thn (.row2 .tries1 .drop) .ends,z8 { ev0 with kind:=7,id:=k.id,gen:=(qx (k,x)).1.1.gen } (okC (qx (k,x)).1.1,(qx (k,x)).1.2)))
   split
   ·split
    ·rename_i h3
     rw [if_pos h3] at h2;exact ⟨rfl,h3,h2.tk rfl,by show x.f.inside=x.f.inside+(if k.kind≤3 then 1 else 0) - (if k.kind≤3 then 1 else 0);omega,.none rfl rfl⟩
    ·rename_i h3
     rw [if_neg h3] at h2;exact ⟨rfl,h1,h2.tk rfl,by show x.f.inside=x.f.inside+(if k.kind≤3 then 1 else 0) - (if k.kind≤3 then 1 else 0);omega,.none rfl rfl⟩
   ·split
    ·rename_i h3
     rw [if_pos h3] at h2;exact ⟨rfl,by show 1≤k.kind∧k.kind≤3;omega,h2.tk rfl,by show x.f.inside=x.f.inside+(if k.kind≤3 then 1 else 0) - (if k.kind≤3 then 1 else 0);omega,.none rfl rfl⟩
    ·rename_i h3
     rw [if_neg h3] at h2;split
     ·exact ⟨rfl,trivial,h2.tk rfl,by show x.f.inside=x.f.inside+0 - (if k.kind≤3 then 1 else 0);rw [if_neg (by omega)];omega,.none rfl rfl⟩
     ·exact ⟨rfl,by show k.kind=4;omega,h2.tk rfl,by show x.f.inside=x.f.inside+(if k.kind≤3 then 1 else 0) - (if k.kind≤3 then 1 else 0);omega,.none rfl rfl⟩
 | ends=>exact hf.elim
 | leaves=>exact hf.elim
theorem q11 {s:SC} (hj:JC N s (k,x)) (h1:q0l s k) (h2:qs2 s k) (hi:qt7 s k≤x.f.inside):GoC s k x (qan s (k,x)):=by
 obtain ⟨hc,hk,hf⟩:=hj;simp only at hc hk hf
 match s,hf,h1,h2,hi with
 | .nil,_,_,h2,_=>exact ⟨rfl,trivial,h2,by show x.f.inside=x.f.inside+0 - 0;omega,.none rfl rfl⟩
 | .at none m,hf,h1,h2,_=>exact qz9 hc hk m hf h1 h2
 | .row1 .ends1,_,_,h2,_=>exact ⟨rfl,trivial,h2,by show x.f.inside=x.f.inside+0 - 0;omega,.none rfl rfl⟩
 | .thn (.row1 .leaves1) .ends,_,h1,h2,hi =>
   have h1:1≤k.kind∧k.kind≤3:=h1;have hi:(if k.kind≤3 then (1:Int) else 0)≤x.f.inside:=hi;rw [if_pos h1.2] at hi;refine ⟨rfl,trivial,h2,?_,.none rfl rfl⟩
   show Zf x.f.inside=x.f.inside+0 - (if k.kind≤3 then 1 else 0)
   unfold Zf;rw [if_neg (by omega),if_pos h1.2];omega
 | .thn (.row2 .undo .drop) .leaves,_,h1,h2,_=>exact ⟨rfl,h1,h2,by show x.f.inside=x.f.inside+(if k.kind≤3 then 1 else 0) - (if k.kind≤3 then 1 else 0);omega,.none rfl rfl⟩
 | .thn (.row1 .drop) .leaves,_,h1,h2,_ =>
   have h1:k.kind=1∨k.kind=2:=h1;exact ⟨rfl,by show 1≤k.kind∧k.kind≤3;omega,h2,by show x.f.inside=x.f.inside+(if k.kind≤3 then 1 else 0) - (if k.kind≤3 then 1 else 0);omega,.none rfl rfl⟩
 | .thn (.row1 .again1) .leaves,_,h1,h2,_ =>
   have h1:k.kind=3:=h1;obtain ⟨i,t,s,a1,a2,a3,a4,a5,a6⟩:=qn0 hk { Qm.zero with slot:=-1 } h2;have e:qan (.thn (.row1 .again1) .leaves) (k,x)=(Ji,Y2 { Qm.zero with slot:=-1 } (k,x)):=rfl;rw [e,a5];exact ⟨rfl,by show 1≤k.kind∧k.kind≤3;omega,qjn (i:=i) (t:=t) (by rw [← a6]),by show x.f.inside=x.f.inside+(if k.kind≤3 then 1 else 0) - (if k.kind≤3 then 1 else 0);omega,.fill i t s _ a1 a2 a3 a4 rfl rfl⟩
 | .thn (.row2 .tries1 .drop) .ends,_,h1,h2,_=>exact ⟨rfl,h1,h2,by show x.f.inside=x.f.inside+(if k.kind≤3 then 1 else 0) - (if k.kind≤3 then 1 else 0);omega,.none rfl rfl⟩
 | .thn (.row1 .drop) .ends,_,h1,h2,_ =>
   have h1:k.kind=4:=h1;exact ⟨rfl,trivial,h2,by show x.f.inside=x.f.inside+0 - (if k.kind≤3 then 1 else 0);rw [if_neg (by omega)];omega,.none rfl rfl⟩
end
def qcn (L:Lay) (kb:Nat) (n:Int) (w:Wk) (g:List Blk):Prop:=match w with
 | .call s k=>zo L kb s n k g
 | .turn s k=>isTurn L kb s n k g
 | .clo s k=>qdm L kb s n k g
def Wk.ty:Wk→TypeId
 | .call _ _=>135
 | .turn _ _=>129
 | .clo _ _=>132
def Wk.fStep:Wk→FuncId
 | .call _ _=>341
 | .turn _ _=>329
 | .clo _ _=>336
def Wk.fMay:Wk→FuncId
 | .call _ _=>340
 | .turn _ _=>328
 | .clo _ _=>335
def Wk.fDone:Wk→FuncId
 | .call _ _=>339
 | .turn _ _=>327
 | .clo _ _=>334
theorem Jf {P:Program} {f:FuncId} {args:Array Value} {g gA gB gZ:List Blk} {R:Ending→List Blk→List Blk→Prop} (hd:Qa P f args [g,gA] fun e gs=>∃ g' gA',R e g' gA'∧gs=[g',gA']) (hp:gZ.Perm (gA++gB)) :
 Qa P f args [g,gZ] fun e gs=>∃ g' gA',R e g' gA'∧gs=[g',gA'++gB]:=by
 intro w hw
 have h2:J3 ([g,gA]++[gB]) w:=hw.re (by
  classical
  refine List.perm_iff_count.2 fun b=>?_
  have:=(List.perm_iff_count.1 hp) b;simp only [List.flatten_append,List.flatten_cons,List.flatten_nil,List.append_nil,List.count_append] at this ⊢
  omega)
 refine (hd w h2.left).mono ?_
 rintro e w' ⟨gs,⟨g',gA',hR,rfl⟩,T⟩;refine ⟨_,⟨g',gA',hR,rfl⟩,((T.frame h2).re (H':=[g',gA'++gB]) ?_).basePerm ?_⟩
 ·classical
  refine List.perm_iff_count.2 fun b=>?_
  simp only [List.flatten_append,List.flatten_cons,List.flatten_nil,List.append_nil,List.count_append];omega
 ·classical
  refine List.perm_iff_count.2 fun b=>?_
  have:=(List.perm_iff_count.1 hp) b;simp only [List.flatten_append,List.flatten_cons,List.flatten_nil,List.append_nil,List.count_append] at this ⊢;omega
theorem Zh {L:Lay} {z:ZF} {g:List Blk} (h:isZ L z g):∃ gC gW gP gL,Qf L z.x gC∧Z8 L z.ws gW∧Xs L.p.pb z.p gP∧qfh L.p.lb z.lg gL∧g=(gC++(gW++gP))++gL:=by
 obtain ⟨gT,gL,⟨gC,gW,gP,h1,h2,h3,rfl⟩,h4,rfl⟩:=h;exact ⟨gC,gW,gP,gL,h1,h2,h3,h4,rfl⟩
theorem ql {L:Lay} {z:ZF} {gC gW gP gL:List Blk} (h1:Qf L z.x gC) (h2:Z8 L z.ws gW) (h3:Xs L.p.pb z.p gP) (h4:qfh L.p.lb z.lg gL):isZ L z ((gC++(gW++gP))++gL):=⟨_,gL,⟨gC,gW,gP,h1,h2,h3,rfl⟩,h4,rfl⟩
section
variable {L:Lay} {z:ZF} {w:Wk} {kb:Nat} {n:Int} {g gZ:List Blk} {N:Nat}
theorem qzf (hj:qcn L kb n w g):Qe prog w.fDone #[Qb kb] [g] (.bool w.done):=by
 cases w with
 | call s k=>exact que hj
 | turn s k=>exact qwb hj
 | clo s k=>exact qy4 hj
theorem permA (a b c:List Blk):(a++b++c).Perm (a++(b++c)):=by rw [List.append_assoc]
theorem qyr (a b c d:List Blk):((a++(b++c))++d).Perm ((a++c)++(b++d)):=by
 classical
 refine List.perm_iff_count.2 fun x=>?_
 simp only [List.count_append];omega
theorem qyg (x a b c d:List Blk):([x,(a++c)++(b++d)]:GH).flatten.Perm ([x,(a++(b++c))++d]:GH).flatten:=by
 classical
 refine List.perm_iff_count.2 fun x=>?_
 simp only [List.flatten_cons,List.flatten_nil,List.append_nil,List.count_append];omega
theorem q0a (hj:qcn L kb n w g) (hz:isZ L z gZ) (hg:qh9 N z) (hw:qpm N w z.x) (hN:N<999999) :
 Qa prog w.fMay #[Qb kb] [g,gZ] fun e gs=>∃ g' gZ',e=.returned (.bool (w.may z))∧qcn L kb n w g'∧isZ L z gZ'∧gs=[g',gZ']:=by
 cases w with
 | call s k =>
   obtain ⟨gC,gW,gP,gL,h1,h2,h3,h4,rfl⟩:=Zh hz;refine (Jf (gB:=(gW++gP)++gL) (R:=fun e g' gA'=>e=.returned (.bool (!s.isNil))∧zo L kb s n k g'∧Qf L z.x gA') ((qzx hj h1).mono ?_) (permA _ _ _)).mono ?_
   ·rintro e gs ⟨rfl,g',gF',a,b,rfl⟩
    exact ⟨g',gF',⟨rfl,a,b⟩,rfl⟩
   ·rintro e gs ⟨g',gA',⟨rfl,a,b⟩,rfl⟩
    exact ⟨g',_,rfl,a,by rw [← List.append_assoc];exact ql b h2 h3 h4,rfl⟩
 | turn s k =>
   obtain ⟨gT,gL,h1,h2,rfl⟩:=hz;have hjt:JT N s ⟨k,z.x,z.ws,z.p⟩:=⟨⟨hg.zn.core,hg.zn.rest,hw.wk,hg.ws,hg.sh4⟩,hw.fit⟩;refine (Jf (gB:=gL) (R:=fun e g' gA'=>e=.returned (.bool (qbc s ⟨k,z.x,z.ws,z.p⟩))∧isTurn L kb s n k g'∧qn6 L z.x z.ws z.p gA') ((qzo hj h1 (hjt.preY (by omega))).mono ?_) (List.Perm.refl _)).mono ?_
   ·rintro e gs ⟨rfl,g',gF',a,b,rfl⟩
    exact ⟨g',gF',⟨rfl,a,b⟩,rfl⟩
   ·rintro e gs ⟨g',gA',⟨rfl,a,b⟩,rfl⟩
    exact ⟨g',_,rfl,a,⟨_,gL,b,h2,rfl⟩,rfl⟩
 | clo s k =>
   obtain ⟨gC,gW,gP,gL,h1,h2,h3,h4,rfl⟩:=Zh hz;have hjs:JS N s ⟨k,z.x,z.p⟩:=⟨⟨hg.zn.core,hg.zn.rest.cap,hg.zn.rest.busy,hw.saw,hw.left⟩,hw.fit⟩;refine (Jf (gB:=gW++gL) (R:=fun e g' gA'=>e=.returned (.bool (qeq s ⟨k,z.x,z.p⟩))∧qdm L kb s n k g'∧qql L z.x z.p gA') ((q16 hj ⟨gC,gP,h1,h3,rfl⟩ (hjs.b.ok (by omega))).mono ?_) (qyr _ _ _ _)).post ?_
   ·rintro e gs ⟨rfl,g',gF',a,b,rfl⟩
    exact ⟨g',gF',⟨rfl,a,b⟩,rfl⟩
   ·rintro e gs ⟨g',gA',⟨rfl,a,⟨gC',gP',b1,b2,rfl⟩⟩,rfl⟩
    exact ⟨_,⟨g',_,rfl,a,ql b1 h2 b2 h4,rfl⟩,qyg _ _ _ _ _⟩
theorem qy2 (hj:qcn L kb n w g) (hz:isZ L z gZ) (hg:qh9 N z) (hw:qpm N w z.x) (hN:N<999999) (hm:w.may z=true) (hn:0≤n∧n≤1000000000) :
 Qa prog w.fStep #[Qb kb] [g,gZ] fun e gs=>∃ g' gZ',e=.returned (.bool true)∧qcn L kb (n+1) (w.step z).1 g'∧isZ L (w.step z).2 gZ'∧gs=[g',gZ']:=by
 cases w with
 | call s k =>
   obtain ⟨gC,gW,gP,gL,h1,h2,h3,h4,rfl⟩:=Zh hz;have hjc:JC N s (k,z.x):=⟨hg.zn.core,hw.wk,hw.fit⟩
   have hs:s.isNil=false:=by
    have:(!s.isNil)=true:=hm;cases h:s.isNil
    ·rfl
    ·rw [h] at this;cases this
   refine (Jf (gB:=(gW++gP)++gL) (R:=fun e g' gA'=>e=.returned (.bool true)∧zo L kb (qan s (k,z.x)).1 (n+1) (qan s (k,z.x)).2.1 g'∧Qf L (qan s (k,z.x)).2.2 gA') ((qvv hj h1 (hjc.pre (by omega)) hs hn).mono ?_) (permA _ _ _)).mono ?_
   ·rintro e gs ⟨g',gF',rfl,a,b,rfl⟩
    exact ⟨g',gF',⟨rfl,a,b⟩,rfl⟩
   ·rintro e gs ⟨g',gA',⟨rfl,a,b⟩,rfl⟩
    exact ⟨g',_,rfl,a,by rw [← List.append_assoc];exact ql (z:={ z with x:=(qan s (k,z.x)).2.2 }) b h2 h3 h4,rfl⟩
 | turn s k =>
   obtain ⟨gT,gL,h1,h2,rfl⟩:=hz;have hjt:JT N s ⟨k,z.x,z.ws,z.p⟩:=⟨⟨hg.zn.core,hg.zn.rest,hw.wk,hg.ws,hg.sh4⟩,hw.fit⟩;refine (Jf (gB:=gL) (R:=fun e g' gA'=>e=.returned (.bool true)∧isTurn L kb (Xp s ⟨k,z.x,z.ws,z.p⟩).1 (n+1) (Xp s ⟨k,z.x,z.ws,z.p⟩).2.k g'∧qn6 L (Xp s ⟨k,z.x,z.ws,z.p⟩).2.x (Xp s ⟨k,z.x,z.ws,z.p⟩).2.ws (Xp s ⟨k,z.x,z.ws,z.p⟩).2.p gA') ((qvy hj h1 (hjt.preY (by omega)) hm (hjt.pre (by omega) hm) hn).mono ?_) (List.Perm.refl _)).mono ?_
   ·rintro e gs ⟨g',gF',rfl,a,b,rfl⟩
    exact ⟨g',gF',⟨rfl,a,b⟩,rfl⟩
   ·rintro e gs ⟨g',gA',⟨rfl,a,b⟩,rfl⟩
    exact ⟨g',_,rfl,a,⟨_,gL,b,h2,rfl⟩,rfl⟩
 | clo s k =>
   obtain ⟨gC,gW,gP,gL,h1,h2,h3,h4,rfl⟩:=Zh hz;have hjs:JS N s ⟨k,z.x,z.p⟩:=⟨⟨hg.zn.core,hg.zn.rest.cap,hg.zn.rest.busy,hw.saw,hw.left⟩,hw.fit⟩;refine (Jf (gB:=gW++gL) (R:=fun e g' gA'=>e=.returned (.bool true)∧qdm L kb (stepS s ⟨k,z.x,z.p⟩).1 (n+1) (stepS s ⟨k,z.x,z.p⟩).2.k g'∧qql L (stepS s ⟨k,z.x,z.p⟩).2.x (stepS s ⟨k,z.x,z.p⟩).2.p gA') ((qye hj ⟨gC,gP,h1,h3,rfl⟩ (hjs.b.ok (by omega)) hm (hjs.pre (by omega)) hn).mono ?_) (qyr _ _ _ _)).post ?_
   ·rintro e gs ⟨g',gF',rfl,a,b,rfl⟩
    exact ⟨g',gF',⟨rfl,a,b⟩,rfl⟩
   ·rintro e gs ⟨g',gA',⟨rfl,a,⟨gC',gP',b1,b2,rfl⟩⟩,rfl⟩
    exact ⟨_,⟨g',_,rfl,a,ql (z:={ z with x:=(stepS s ⟨k,z.x,z.p⟩).2.x,p:=(stepS s ⟨k,z.x,z.p⟩).2.p }) b1 h2 b2 h4,rfl⟩,qyg _ _ _ _ _⟩
theorem q2m (hj:qcn L kb n w g) (hz:isZ L z gZ) (hg:qh9 N z) (hw:qpm N w z.x) (hN:N<999999) (hm:w.may z=false) :
 Qa prog w.fStep #[Qb kb] [g,gZ] fun e gs=>∃ g' gZ',e=.returned (.bool false)∧qcn L kb n w g'∧isZ L z gZ'∧gs=[g',gZ']:=by
 cases w with
 | call s k =>
   obtain ⟨gC,gW,gP,gL,h1,h2,h3,h4,rfl⟩:=Zh hz
   obtain rfl:s=.nil:=by
    have:(!s.isNil)=false:=hm;cases s with
    | nil=>rfl
    | _=>cases this
   refine (Jf (gB:=(gW++gP)++gL) (R:=fun e g' gA'=>e=.returned (.bool false)∧zo L kb .nil n k g'∧Qf L z.x gA') ((qiy hj h1).mono ?_) (permA _ _ _)).mono ?_
   ·rintro e gs ⟨rfl,g',gF',a,b,rfl⟩
    exact ⟨g',gF',⟨rfl,a,b⟩,rfl⟩
   ·rintro e gs ⟨g',gA',⟨rfl,a,b⟩,rfl⟩
    exact ⟨g',_,rfl,a,by rw [← List.append_assoc];exact ql b h2 h3 h4,rfl⟩
 | turn s k =>
   obtain ⟨gT,gL,h1,h2,rfl⟩:=hz;have hjt:JT N s ⟨k,z.x,z.ws,z.p⟩:=⟨⟨hg.zn.core,hg.zn.rest,hw.wk,hg.ws,hg.sh4⟩,hw.fit⟩;refine (Jf (gB:=gL) (R:=fun e g' gA'=>e=.returned (.bool false)∧isTurn L kb s n k g'∧qn6 L z.x z.ws z.p gA') ((q1i hj h1 (hjt.preY (by omega)) hm).mono ?_) (List.Perm.refl _)).mono ?_
   ·rintro e gs ⟨rfl,g',gF',a,b,rfl⟩
    exact ⟨g',gF',⟨rfl,a,b⟩,rfl⟩
   ·rintro e gs ⟨g',gA',⟨rfl,a,b⟩,rfl⟩
    exact ⟨g',_,rfl,a,⟨_,gL,b,h2,rfl⟩,rfl⟩
 | clo s k =>
   obtain ⟨gC,gW,gP,gL,h1,h2,h3,h4,rfl⟩:=Zh hz;have hjs:JS N s ⟨k,z.x,z.p⟩:=⟨⟨hg.zn.core,hg.zn.rest.cap,hg.zn.rest.busy,hw.saw,hw.left⟩,hw.fit⟩;refine (Jf (gB:=gW++gL) (R:=fun e g' gA'=>e=.returned (.bool false)∧qdm L kb s n k g'∧qql L z.x z.p gA') ((q2l hj ⟨gC,gP,h1,h3,rfl⟩ (hjs.b.ok (by omega)) hm).mono ?_) (qyr _ _ _ _)).post ?_
   ·rintro e gs ⟨rfl,g',gF',a,b,rfl⟩
    exact ⟨g',gF',⟨rfl,a,b⟩,rfl⟩
   ·rintro e gs ⟨g',gA',⟨rfl,a,⟨gC',gP',b1,b2,rfl⟩⟩,rfl⟩
    exact ⟨_,⟨g',_,rfl,a,ql b1 h2 b2 h4,rfl⟩,qyg _ _ _ _ _⟩
end
section
variable {L:Lay} {z:ZF} {w:Wk} {kb:Nat} {n:Int} {g gZ:List Blk} {N:Nat}
structure qa3 (N:Nat) (c:WkN):Prop where
 fit:(c.s=Yj∧c.k.holds=[])∨(c.s=.thn (.row1 .puts) .takes∧c.k.holds.length=1)
 worked:0≤c.k.worked∧c.k.worked≤N
 n:0≤c.n∧c.n≤N
theorem qa3.mono {N M:Nat} {c:WkN} (h:qa3 N c) (hm:N≤M):qa3 M c:=⟨h.fit,by have:=h.worked;omega,by have:=h.n;omega⟩
theorem qa3.new {c:WkN} (h:qf9 c):qa3 0 c:=by
 obtain ⟨a,b,d⟩:=h;exact ⟨.inl ⟨a,by rw [d];rfl⟩,by rw [d];exact ⟨Int.le_refl _,Int.le_refl _⟩,by rw [b];exact ⟨Int.le_refl _,Int.le_refl _⟩⟩
def WkN.zw (c:WkN) (z:ZF):ZW:=⟨c.k,z.x,z.p,z.lg⟩
def WkN.may (c:WkN) (z:ZF):Bool:=qpr c.s (c.zw z)
def WkN.step (c:WkN) (z:ZF):WkN × ZF :=
 (⟨c.wb,(qa7 c.s (c.zw z)).1,c.n+1,(qa7 c.s (c.zw z)).2.k⟩,⟨(qa7 c.s (c.zw z)).2.x,z.ws,(qa7 c.s (c.zw z)).2.p,(qa7 c.s (c.zw z)).2.lg⟩)
theorem qa3.ok {c:WkN} (h:qa3 N c) (hg:qh9 N z) (hN:N<999999):qlc (c.zw z):=by
 have hr:=hg.zn.rest;have hl:=hg.zn.lg;have hw:=h.worked
 have hh:c.k.holds.length≤1:=by
  rcases h.fit with ⟨_,h⟩ | ⟨_,h⟩
  ·rw [h];exact Nat.zero_le _
  ·omega
 exact ⟨by have:=hr.busy;show 0≤z.x.f.busy∧z.x.f.busy≤_;omega,⟨hr.ch,by have:=hr.sp;show z.p.sp.length≤_;omega⟩,by have:=hg.room;show z.p.room≤_;omega,by show c.k.holds.length≤_;omega,by show z.lg.length≤_;omega,by show 0≤c.k.worked∧c.k.worked≤_;omega⟩
theorem qa3.preY {c:WkN} (h:qa3 N c) (hg:qh9 N z) (hN:N<999999):qns c.s (c.zw z):=by
 have ho:=h.ok hg hN;rcases h.fit with ⟨h1,_⟩ | ⟨h1,_⟩
 ·rw [h1];exact ho
 ·rw [h1];trivial
theorem qtw {p:Qy} (h:p.ch.length≤p.room):p.take.1.ch.length≤p.take.1.room∧p.take.1.room=p.room∧p.take.1.sp.length≤p.sp.length∧p.take.1.shut=p.shut:=by
 unfold Qy.take;split
 ·next h1=>exact ⟨h,rfl,Nat.le_refl _,rfl⟩
 ·next f l h1 h2 =>
  rw [h1] at h;simp only [List.length_cons] at h;refine ⟨?_,rfl,by rw [h2];simp,rfl⟩
  show l.length≤p.room
  omega
 ·next f l x sp h1 h2 =>
  rw [h1] at h;simp only [List.length_cons] at h;refine ⟨?_,rfl,by rw [h2];simp,rfl⟩
  show (l++[x]).length≤p.room
  rw [List.length_append];simpa using h
theorem qf4 {c:WkN} (h:qa3 N c) (hg:qh9 N z) (hN:N<999998) :
 q1k c.s (c.zw z)∧qa3 (N+1) (c.step z).1∧qh9 (N+1) (c.step z).2∧quv z.x (c.step z).2.x∧zl z.x (c.step z).2.x:=by
 have ho:=h.ok hg (by omega);have hr:=hg.zn.rest;have hl:=hg.zn.lg;obtain ⟨wb,s,n,k⟩:=c;have hw:=h.worked;have hn:=h.n;simp only at hw hn;rcases h.fit with ⟨h1,h2⟩ | ⟨h1,h2⟩
 ·obtain rfl:s=Yj:=h1
  have h2:k.holds=[]:=h2;obtain ⟨t1,t2,t3,t4⟩:=qtw hr.ch;refine ⟨ho,⟨.inr ⟨rfl,?_⟩,?_,?_⟩,⟨⟨⟨hg.zn.core.slab,hg.zn.core.i0,by have:=hg.zn.core.i1;show z.x.f.inside≤_;omega,by have:=hg.zn.core.tr;show z.x.tr.length≤_;omega,hg.zn.core.sh,(hg.zn.core.mono (M:=N+1) (by omega)).ring⟩,⟨by have:=hr.now;show 0≤z.x.f.now∧z.x.f.now≤_;omega,?_,hr.cap,hr.wl,fun w hw=>(hr.wok w hw).mono (by omega),hr.task,fun s hs=>by have:=hr.turns s hs;omega,t1,?_⟩,?_⟩,hg.ws,hg.sh4,?_⟩,⟨rfl,rfl⟩,fun _=>rfl⟩
  ·show (k.holds++[_]).length=1
   rw [h2];rfl
  ·show 0≤k.worked∧k.worked≤_;omega
  ·show 0≤n+1∧n+1≤_;omega
  ·have:=hr.busy
   show 0≤z.x.f.busy+1∧z.x.f.busy+1≤_;omega
  ·have:=hr.sp
   show z.p.take.1.sp.length≤_;omega
  ·show z.lg.length≤_;omega
  ·show z.p.take.1.room≤_
   rw [t2];exact hg.room
 ·obtain rfl:s=.thn (.row1 .puts) .takes:=h1
  have h2:k.holds.length=1:=h2;have hb:0≤Zf z.x.f.busy∧Zf z.x.f.busy≤N:=by have:=hr.busy;unfold Zf;split <;> omega
  refine ⟨⟨⟨ho,by show 0<k.holds.length;omega⟩,fun _=>?_⟩,⟨.inl ⟨rfl,rfl⟩,?_,?_⟩,⟨⟨⟨hg.zn.core.slab,hg.zn.core.i0,by have:=hg.zn.core.i1;show z.x.f.inside≤_;omega,by have:=hg.zn.core.tr;show z.x.tr.length≤_;omega,hg.zn.core.sh,(hg.zn.core.mono (M:=N+1) (by omega)).ring⟩,⟨by have:=hr.now;show 0≤z.x.f.now∧z.x.f.now≤_;omega,?_,hr.cap,hr.wl,fun w hw=>(hr.wok w hw).mono (by omega),hr.task,fun s hs=>by have:=hr.turns s hs;omega,hr.ch,?_⟩,?_⟩,hg.ws,hg.sh4,hg.room⟩,⟨rfl,rfl⟩,fun _=>rfl⟩
  ·exact ⟨by show 0≤Zf z.x.f.busy∧Zf z.x.f.busy≤_;omega,ho.pipe,ho.room,by show ([]:List Q7).length≤_;simp,by show (z.lg++k.holds).length≤_;rw [List.length_append];omega,by show 0≤k.worked+1∧k.worked+1≤_;omega⟩
  ·show 0≤k.worked+1∧k.worked+1≤_;omega
  ·show 0≤n+1∧n+1≤_;omega
  ·show 0≤Zf z.x.f.busy∧Zf z.x.f.busy≤_;omega
  ·have:=hr.sp
   show z.p.sp.length≤_;omega
  ·show (z.lg++k.holds).length≤_
   rw [List.length_append];omega
def qwj (L:Lay) (c:WkN) (g:List Blk):Prop:=qe3 L c.wb c.s c.n c.k g
theorem qxs (a b c d:List Blk):((a++(b++c))++d).Perm ((a++(c++d))++b):=by
 classical
 refine List.perm_iff_count.2 fun x=>?_
 simp only [List.count_append];omega
theorem qxt (x a b c d:List Blk):([x,(a++(c++d))++b]:GH).flatten.Perm ([x,(a++(b++c))++d]:GH).flatten:=by
 classical
 refine List.perm_iff_count.2 fun x=>?_
 simp only [List.flatten_cons,List.flatten_nil,List.append_nil,List.count_append];omega
theorem qxq {c:WkN} (hc:qwj L c g) (hz:isZ L z gZ) (hg:qh9 N z) (hw:qa3 N c) (hN:N<999998) :
 Qa prog 342 #[Qb c.wb] [g,gZ] fun e gs=>∃ g' gZ',e=.returned (.bool (c.may z))∧qwj L c g'∧isZ L z gZ'∧gs=[g',gZ']:=by
 obtain ⟨gC,gW,gP,gL,h1,h2,h3,h4,rfl⟩:=Zh hz;refine (Jf (gB:=gW) (R:=fun e g' gA'=>e=.returned (.bool (c.may z))∧qwj L c g'∧qt0 L z.x z.p z.lg gA') ((q2g hc ⟨gC,gP,gL,h1,h3,h4,rfl⟩ (hw.preY hg (by omega))).mono ?_) (qxs _ _ _ _)).post ?_
 ·rintro e gs ⟨rfl,g',gF',a,b,rfl⟩
  exact ⟨g',gF',⟨rfl,a,b⟩,rfl⟩
 ·rintro e gs ⟨g',gA',⟨rfl,a,⟨gC',gP',gL',b1,b2,b3,rfl⟩⟩,rfl⟩
  exact ⟨_,⟨g',_,rfl,a,ql b1 h2 b2 b3,rfl⟩,qxt _ _ _ _ _⟩
theorem qwa {c:WkN} (hc:qwj L c g) (hz:isZ L z gZ) (hg:qh9 N z) (hw:qa3 N c) (hN:N<999998) (hm:c.may z=true) :
 Qa prog 343 #[Qb c.wb] [g,gZ] fun e gs=>∃ g' gZ',e=.returned (.bool true)∧qwj L (c.step z).1 g'∧isZ L (c.step z).2 gZ'∧gs=[g',gZ']:=by
 obtain ⟨gC,gW,gP,gL,h1,h2,h3,h4,rfl⟩:=Zh hz;have hn:=hw.n;refine (Jf (gB:=gW) (R:=fun e g' gA'=>e=.returned (.bool true)∧qwj L (c.step z).1 g'∧qt0 L (c.step z).2.x (c.step z).2.p (c.step z).2.lg gA') ((qzs hc ⟨gC,gP,gL,h1,h3,h4,rfl⟩ (hw.preY hg (by omega)) hm (qf4 hw hg hN).1 (by omega)).mono ?_) (qxs _ _ _ _)).post ?_
 ·rintro e gs ⟨g',gF',rfl,a,b,rfl⟩
  exact ⟨g',gF',⟨rfl,a,b⟩,rfl⟩
 ·rintro e gs ⟨g',gA',⟨rfl,a,⟨gC',gP',gL',b1,b2,b3,rfl⟩⟩,rfl⟩
  exact ⟨_,⟨g',_,rfl,a,ql (z:=(c.step z).2) b1 h2 b2 b3,rfl⟩,qxt _ _ _ _ _⟩
theorem q05 {c:WkN} (hc:qwj L c g) (hz:isZ L z gZ) (hg:qh9 N z) (hw:qa3 N c) (hN:N<999998) (hm:c.may z=false) :
 Qa prog 343 #[Qb c.wb] [g,gZ] fun e gs=>∃ g' gZ',e=.returned (.bool false)∧qwj L c g'∧isZ L z gZ'∧gs=[g',gZ']:=by
 obtain ⟨gC,gW,gP,gL,h1,h2,h3,h4,rfl⟩:=Zh hz;refine (Jf (gB:=gW) (R:=fun e g' gA'=>e=.returned (.bool false)∧qwj L c g'∧qt0 L z.x z.p z.lg gA') ((q3c hc ⟨gC,gP,gL,h1,h3,h4,rfl⟩ (hw.preY hg (by omega)) hm).mono ?_) (qxs _ _ _ _)).post ?_
 ·rintro e gs ⟨rfl,g',gF',a,b,rfl⟩
  exact ⟨g',gF',⟨rfl,a,b⟩,rfl⟩
 ·rintro e gs ⟨g',gA',⟨rfl,a,⟨gC',gP',gL',b1,b2,b3,rfl⟩⟩,rfl⟩
  exact ⟨_,⟨g',_,rfl,a,ql b1 h2 b2 b3,rfl⟩,qxt _ _ _ _ _⟩
end
end
section
open Go.RowKit Go.Shelf
attribute [local go_sem] Oper.semAt_some
def ifO:Option (Wk × Nat)→Value
 | none=>.nilIface
 | some (w,b)=>.iface w.ty (Qb b)
def Ze:Nat→List (Option (Wk × Nat))→List (Array Value)
 | _,[]=>[]
 | a,none::l=>Ze (a+1) l
 | a,some o::l=>#[.int .i64 a,ifO (some o)]::Ze (a+1) l
def qbn:Nat→List Nat→List (Array Value)
 | _,[]=>[]
 | a,p::l=>#[.int .i64 a,.iface 139 (Qb p)]::qbn (a+1) l
theorem qv:∀ (l l':List (Option (Wk × Nat))) (a:Nat),Ze a (l++l')=Ze a l++Ze (a+l.length) l'
 | [],l',a=>rfl
 | none::l,l',a=>by
   show Ze (a+1) (l++l')=Ze (a+1) l++_
   rw [qv l l' (a+1),List.length_cons,show a+1+l.length=a+(l.length+1) by omega]
 | some o::l,l',a=>by
   show _::Ze (a+1) (l++l')=_::Ze (a+1) l++_
   rw [qv l l' (a+1),List.length_cons,show a+1+l.length=a+(l.length+1) by omega];rfl
theorem qgp:∀ (l:List Nat) (a:Nat),(qbn a l).length=l.length
 | [],_=>rfl
 | p::l,a=>by
   show (qbn (a+1) l).length+1=_
   rw [qgp l];rfl
theorem qjp:∀ (l:List Nat) (a i p:Nat),l[i]?=some p→(qbn a l)[i]?=some #[.int .i64 (a+i:Nat),.iface 139 (Qb p)]
 | [],_,_,_,h=>by cases h
 | q::l,a,0,p,h=>by cases h;rfl
 | q::l,a,i+1,p,h=>by
   have:=qjp l (a+1) i p h;rw [show a+1+i=a+(i+1) by omega] at this;exact this
def qoy (os:List (Option (Wk × Nat))) (i:Nat):Nat:=(Ze 0 (os.take i)).length
theorem qsq {os:List (Option (Wk × Nat))} {i:Nat} (h:os[i]?=some none):qoy os (i+1)=qoy os i:=by
 obtain ⟨h1,h2⟩:=List.getElem?_eq_some_iff.1 h;unfold qoy;rw [List.take_succ_eq_append_getElem h1,h2,qv]
 show (Ze 0 (os.take i)++[]).length=_
 rw [List.append_nil]
theorem qta {os:List (Option (Wk × Nat))} {i:Nat} {o:Wk × Nat} (h:os[i]?=some (some o)):qoy os (i+1)=qoy os i+1∧∀ l,(Ze 0 os++l)[qoy os i]?=some #[.int .i64 i,ifO (some o)]:=by
 obtain ⟨h1,h2⟩:=List.getElem?_eq_some_iff.1 h;have hl:(os.take i).length=i:=by rw [List.length_take];omega
 refine ⟨?_,fun l=>?_⟩
 ·unfold qoy
  rw [List.take_succ_eq_append_getElem h1,h2,qv,List.length_append];rfl
 ·have e:os=os.take i++some o::os.drop (i+1):=by
   rw [← h2,← List.drop_eq_getElem_cons h1,List.take_append_drop]
  have e2:Ze 0 os=Ze 0 (os.take i)++(#[.int .i64 i,ifO (some o)]::Ze (i+1) (os.drop (i+1))):=by
   have h3:Ze 0 os=Ze 0 (os.take i++some o::os.drop (i+1)):=congrArg _ e;rw [qv,hl,Nat.zero_add] at h3;exact h3
  rw [e2,List.append_assoc];unfold qoy;rw [List.getElem?_append_right (Nat.le_refl _),Nat.sub_self];rfl
theorem quy (os:List (Option (Wk × Nat))):qoy os os.length=(Ze 0 os).length:=by unfold qoy;rw [List.take_length]
def itTh (xs:List (Array Value)) (R:GH→Prop) (O:GH):ItS where
 σ:=Nat
 O _ O':=O'=O
 T _ H:=R H
 step k x G k':=xs[k]?=some x∧G=[]∧k'=k+1
 fin k:=k=xs.length
theorem qao (W:World):(binOp .neq 88 .nilIface .nilIface).run prog W=.ok (.bool false) W:=by kernel_rfl
theorem qcy (w:Wk) (b:Nat) (W:World):(binOp .neq 88 (.iface w.ty (Qb b)) .nilIface).run prog W=.ok (.bool true) W:=by cases w <;> kernel_rfl
def qrc (sb:Nat) (hd go gc:List Blk) (H:GH):Prop:=∃ i j k,H.getD i []=hd∧H.getD j []=go∧H.getD k []=gc∧i<H.length∧j<H.length∧k<H.length
def Q6 (sb fb:Nat) (vo va vc:Value):List Blk:=[cl sb 86 #[Qb fb,vo,va,vc]]
theorem qm5 {α:Type} {H K:List α} {i:Nat} {d:α} (hi:i<H.length):(H++K).getD i d=H.getD i d:=by
 rw [List.getD_eq_getElem?_getD,List.getElem?_append_left hi,← List.getD_eq_getElem?_getD]
theorem q6 {v:Value} {gr:List Blk} {n:Nat} {t:TypeId} {xs:List Value} (hr:Qu t 1 v n xs gr) {h H:GH} {w w':World} (T:TG h w H w') (i:Nat) (hg:H.getD i []=gr) (hi:i<H.length) {k:Nat} {x:Value} (hk:xs[k]?=some x) :
 ∃ b cap,v=.slice (some ⟨b,0,none⟩) n cap∧w'.cell? ⟨b,k,none⟩=some x:=by
 have hlen:xs.length=n:=by
  have:=hr.1;omega
 have hkl:=(List.getElem?_eq_some_iff.1 hk).1;obtain ⟨b,cap,cur,hv,hgr,_,_,_,hcur⟩:=hr.open (by omega);refine ⟨b,cap,hv,?_⟩
 have:=T.cell i 0 (b:=b) (T:=t) (C:=cur) (by rw [hg,hgr];rfl) k;rw [this,hcur k (by omega),hk]
theorem qkc (bx sb fb:Nat) {os:List (Option (Wk × Nat))} {ps:List Nat} {vo va vc:Value} {go gc:List Blk} (hro:Qu 88 1 vo os.length (os.map ifO) go) (hrc:Qu 139 1 vc ps.length (ps.map Qb) gc) (hn:os.length≤1000) (hm:ps.length≤1000) :
 qeo prog 67 #[Qb bx] (itTh (Ze 0 os++qbn os.length ps) (qrc sb (Q6 sb fb vo va vc) go gc) [[cl bx 25 #[Qb sb]]]) (0:Nat):=by
 intro ly J Jx hT hY H0 O0 W hJ0 hO hH;have hO':O0=[[cl bx 25 #[Qb sb]]]:=hO;subst hO';have T0:=TG.refl hH;have c0:=(TG.refl hH.right).cell 0 0 rfl 0;simp only [GE2] at c0;obtain ⟨a0,a1,a2,b0,b1,b2,l0,l1,l2⟩:=hT (0:Nat) H0 hJ0;obtain ⟨avo,capo,rfl⟩:=Qu.val hro;obtain ⟨avc,capc,rfl⟩:=Qu.val hrc
 have HEAD:∀ (H:GH) (w':World),qrc sb (Q6 sb fb (.slice avo os.length capo) va (.slice avc ps.length capc)) go gc H→J3 H w'→w'.cell? ⟨sb,1,none⟩=some (.slice avo os.length capo)∧w'.cell? ⟨sb,3,none⟩=some (.slice avc ps.length capc):=by
  rintro H w' ⟨i,j,k,h1,_,_,h4,_,_⟩ hh;exact ⟨(TG.refl hh).cell i 0 (b:=sb) (by rw [h1];rfl) 1,(TG.refl hh).cell i 0 (b:=sb) (by rw [h1];rfl) 3⟩
 obtain ⟨hd1,hd3⟩:=HEAD H0 W (hT (0:Nat) H0 hJ0) hH.left;have HHD:=Vh HEAD;have HRO:=Vh hro;have HRC:=Vh hrc;have HJ:=Vh hJ0;have HT0:=Vh T0;have HTT:=Vh hT;have HY:=Vh hY;clear hO hH hY hT hJ0 T0 b0 b1 b2 l0 l1 l2 hro hrc HEAD;refine (callsIn_wide (n:=9)).1 (callsIn_of_wp func67 rfl trivial ?_ rfl)
 simp only [ntmps67,List.size_toArray,List.length_cons,List.length_nil,Nat.reduceAdd,Nat.reduceSub,Array.replicate_succ,Array.replicate_zero,List.push_toArray,List.append_toArray,List.nil_append,List.cons_append];gi_wp2
 clear hd1 hd3
 gi_loopw [14] (fun i wr=>∃ (k:Nat) (H:GH),k≤os.length∧i=.int .i64 k∧J (qoy os k) H∧TG (H0++[[cl bx 25 #[Qb sb]]]) W (H++[[cl bx 25 #[Qb sb]]]) wr) (fun i _=>os.length+1 - (intOf i).toNat)
 case atStart=>exact ⟨0,H0,by omega,rfl,HJ.out,HT0.out⟩
 case round =>
  obtain ⟨k,H,hk,rfl,hj,T⟩:=hrel;clear HJ HT0 c0;by_cases hlt:k<os.length
  ·obtain ⟨o,ho⟩:∃ o,os[k]?=some o:=⟨_,List.getElem?_eq_getElem hlt⟩
   obtain ⟨i,j,q,e1,e2,e3,l1,l2,l3⟩:=HTT.out _ _ hj;obtain ⟨rb,cp,hv,hb⟩:=q6 HRO.out T j (by rw [qm5 l2];exact e2) (by rw [List.length_append];omega) (k:=k) (x:=ifO o) (by rw [List.getElem?_map,ho];rfl);obtain ⟨rfl,rfl⟩:avo=some ⟨rb,0,none⟩∧capo=cp:=by cases hv;exact ⟨rfl,rfl⟩
   clear hv e1 e2 e3 l1 l2 l3;cases o with
   | none =>
     have hp:=qsq ho;have hnq:=qao;change _=some Value.nilIface at hb
     rw [← hp] at hj;have HJ:=Vh hj;have HT:=Vh T;clear hj T hp ho;gi_wp2
     refine ⟨fun f hf=>(by cases hf),?_⟩
     gi_wp2
     go_roundw
     case rel=>exact ⟨k+1,H,by omega,by go_num,HJ.out,HT.out⟩
     case measure=>simp [intOf];omega
   | some ov =>
     obtain ⟨wk,b⟩:=ov;obtain ⟨hp,hp2⟩:=qta ho;have hnq:=qcy wk b;change _=some (Value.iface wk.ty (Qb b)) at hb
     have hy0:=HY.out (qoy os k) #[.int .i64 k,.iface wk.ty (Qb b)] [] (qoy os k+1) H wr hj ⟨hp2 _,rfl,rfl⟩ (by rw [List.append_nil];exact T.has.left);have HP:=Vh hp;obtain ⟨fn,tmps,assign,body,hy,hR⟩:=Zl (n:=8) hy0;have HRR:=Vh hR;have HT:=Vh T;clear hy0 hR hj T hp hp2 ho;gi_wp2
     refine HRR.out.mono ?_
     rintro e W' ⟨H',hT',hj'⟩;have T7:=HT.out.trans ((hT'.app (a':=H) (by simp)).frame HT.out.has);have HT7:=Vh T7;rcases hj' with ⟨rfl,hj'⟩ | ⟨rfl,hj'⟩
     ·have HJ:=Vh hj'
      clear hT' T7 hj' hy;gi_wp2
      go_roundw
      case rel=>exact ⟨k+1,H',by omega,by go_num,by rw [HP.out];exact HJ.out,HT7.out⟩
      case measure=>simp [intOf];omega
     ·have HJ:=Vh hj'
      clear hT' T7 hj' hy;gi_wp2
      refine bodyPost_ret (results_none rfl _ _ _) rfl ?_
      exact ⟨⟨_,rfl⟩,_,H',_,HT7.out,.inr HJ.out⟩
  ·obtain rfl:k=os.length:=by omega
   rw [quy] at hj;obtain ⟨hd1,hd3⟩:=HHD.out H _ (HTT.out _ _ hj) T.has.left;have c1:=(TG.refl T.has.right).cell 0 0 rfl 0;simp only [GE2] at c1;have HJ:=Vh hj;have HT0:=Vh T;clear hj T;gi_wp2
   clear hd1 hd3 c1
   gi_loopw [34] (fun i wr=>∃ (k:Nat) (H:GH),k≤ps.length∧i=.int .i64 k∧J ((Ze 0 os).length+k) H∧TG (H0++[[cl bx 25 #[Qb sb]]]) W (H++[[cl bx 25 #[Qb sb]]]) wr) (fun i _=>ps.length+1 - (intOf i).toNat)
   case atStart=>exact ⟨0,H,by omega,rfl,HJ.out,HT0.out⟩
   case round =>
    obtain ⟨k,H,hk,rfl,hj,T⟩:=hrel;clear HJ HT0;by_cases hlt:k<ps.length
    ·obtain ⟨p,ho⟩:∃ p,ps[k]?=some p:=⟨_,List.getElem?_eq_getElem hlt⟩
     obtain ⟨hd1,hd3⟩:=HHD.out H _ (HTT.out _ _ hj) T.has.left;have c1:=(TG.refl T.has.right).cell 0 0 rfl 0;simp only [GE2] at c1;obtain ⟨i,j,q,e1,e2,e3,l1,l2,l3⟩:=HTT.out _ _ hj;obtain ⟨rb,cp,hv,hb⟩:=q6 HRC.out T q (by rw [qm5 l3];exact e3) (by rw [List.length_append];omega) (k:=k) (x:=Qb p) (by rw [List.getElem?_map,ho];rfl);obtain ⟨rfl,rfl⟩:avc=some ⟨rb,0,none⟩∧capc=cp:=by cases hv;exact ⟨rfl,rfl⟩
     clear hv e1 e2 e3 l1 l2 l3;have hit:=qjp ps os.length k p ho
     have hy0:=HY.out ((Ze 0 os).length+k) #[.int .i64 ((os.length:Int)+k),.iface 139 (Qb p)] [] ((Ze 0 os).length+(k+1)) H wr hj ⟨by
      rw [List.getElem?_append_right (by omega),Nat.add_sub_cancel_left,hit]
      rfl,rfl,by omega⟩ (by rw [List.append_nil];exact T.has.left)
     obtain ⟨fn,tmps,assign,body,hy,hR⟩:=Zl (n:=8) hy0;have HRR:=Vh hR;have HT:=Vh T;clear hy0 hR hj T hit ho;gi_wp2
     refine HRR.out.mono ?_
     rintro e W' ⟨H',hT',hj'⟩;have T7:=HT.out.trans ((hT'.app (a':=H) (by simp)).frame HT.out.has);have HT7:=Vh T7;rcases hj' with ⟨rfl,hj'⟩ | ⟨rfl,hj'⟩
     ·have HJ:=Vh hj'
      clear hT' T7 hj' hy hd1 hd3 c1;gi_wp2
      go_roundw
      case rel=>exact ⟨k+1,H',by omega,by go_num,HJ.out,HT7.out⟩
      case measure=>simp [intOf];omega
     ·have HJ:=Vh hj'
      clear hT' T7 hj' hy hd1 hd3 c1;gi_wp2
      refine bodyPost_ret (results_none rfl _ _ _) rfl ?_
      exact ⟨⟨_,rfl⟩,_,H',_,HT7.out,.inr HJ.out⟩
    ·obtain rfl:k=ps.length:=by omega
     have HJ:=Vh hj;have HT:=Vh T;clear hj T;gi_wp2
     go_end0
     exact ⟨⟨_,rfl⟩,_,H,_,HT.out,.inl ⟨by show _=(Ze 0 os++qbn os.length ps).length;rw [List.length_append,qgp],HJ.out,rfl⟩⟩
end
end Go.Proofs.YtikpbibeagbccaaGreat
