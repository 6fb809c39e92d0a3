import Derived.Test.YtikpbibeagbccaaGreatSV36
import Derived.Test.YtikpbibeagbccaaGreatSV28
import Derived.Test.YtikpbibeagbccaaGreatSV19
set_option maxRecDepth 100000
set_option maxHeartbeats 4000000
namespace Go.Proofs.YtikpbibeagbccaaGreat
set_option linter.unusedVariables false
set_option linter.unusedSimpArgs false
open Go.Proofs.Tryz
section
open Go.RowKit Go.Shelf
theorem q0j {L:Lay} {wb:Nat} {pv:Value} {e gK gF:List Blk} {z:ZW} (hz:qru L wb pv e z gK gF):Qa prog 133 #[Qb wb] [gK,gF] fun en gs =>
 ∃ e',leE e e'∧∃ m d g' gK' gF',en=.returned (.agg #[m,d])∧(qwz L wb pv).SV e' (qyc .takes z).1 m d g'∧qru L wb pv e' (qyc .takes z).2 gK' gF'∧gs=[g',gK',gF']:=by
 obtain ⟨hv,gh,gC,gP,gL,hr,hx,hpp,hl,rfl,rfl⟩:=hz;intro w hw;refine (Qa.use (qyy L wb pv) (TG.refl hw) [] rfl rfl).mono ?_
 rintro en w1 ⟨gs,⟨g',l,⟨m,d,rfl,hs⟩,rfl⟩,Ta⟩;exact ⟨_,⟨e++l,leE.app _ _,m,d,g',_,_,rfl,hs _ (fun b hb=>List.mem_append_right _ hb),⟨hv,gh,gC,gP,gL,hr,hx,hpp,hl,(rfl:Yq wb L.fb pv hv z.k.worked++(gh++(e++l))=_),rfl⟩,rfl⟩,TG.sum (H:=[Yq wb L.fb pv hv z.k.worked++(gh++e),gC++(gP++gL),g',l]) Ta⟩
theorem qli (L:Lay) (wb:Nat) (pv:Value):(qwz L wb pv).Ok where
 refl:=leE.refl
 trans h1 h2:=fun b hb=>h2 b (h1 b hb)
 mm {e e' f v g} hl h:=by
  obtain ⟨h0,h⟩:=h;refine ⟨h0,?_⟩
  cases f with
  | takes=>exact h
  | takes1=>exact q1r.le h hl
 ma hl h:=h
 v e:=qfb L wb pv e
 m {e f v g gK gF z} hv hz hp:=by
   obtain ⟨k,x,p,lg⟩:=z;obtain ⟨rfl,hv⟩:=hv;cases f with
   | takes =>
     subst hv;refine ⟨_,_,_,rfl,fun _ _=>rfl,(Qa.pre (gs':=[[],gK,gF]) (q0j hz) rfl)⟩
   | takes1 =>
     obtain ⟨bk,rfl,hb⟩:=hv;refine ⟨_,_,_,rfl,fun _ _=>rfl,(Qa.pre (gs':=[[],gK,gF]) (qz9 hz hp bk hb) rfl).mono ?_⟩
     rintro en gs ⟨m,d,g',gK',gF',h1,h2,h3,rfl⟩;exact ⟨e,leE.refl _,m,d,g',gK',gF',h1,h2,h3,rfl⟩
 a {e f v g gK gF z} hv hz hp:=by
   obtain ⟨k,x,p,lg⟩:=z;obtain ⟨rfl,hv⟩:=hv;cases f
   subst hv;refine ⟨_,_,_,rfl,fun _ _=>rfl,((q4e hz hp.1 hp.2).pre (gs':=[[],gK,gF]) rfl).post ?_⟩
   rintro en gs ⟨gK',gF',h1,h2,rfl⟩;exact ⟨[[],gK',gF'],⟨e,leE.refl _,gK',gF',h1,h2,rfl⟩,.refl _⟩
 y {e f v g gK gF z} hv hz hp:=by
   obtain ⟨k,x,p,lg⟩:=z;obtain ⟨rfl,bk,rfl,hb⟩:=hv;cases f
   refine ⟨_,_,_,rfl,fun _ _=>rfl,fun w hw=>?_⟩
   refine (Qe.use (q07 hz hp bk hb) (TG.refl hw) [1,2] rfl rfl).mono ?_
   rintro en w1 ⟨rfl,m,rfl⟩;exact ⟨_,⟨gK,gF,rfl,hz,rfl⟩,(TG.refl hw).drewN m⟩
def isWK (L:Lay) (wb:Nat) (pv:Value) (e:List Blk) (k:qzo) (gK:List Blk):Prop:=∃ hv gh,Qr 82 4 hv k.holds.length (Jc k.holds) gh∧gK=Yq wb L.fb pv hv k.worked++(gh++e)
def qvj (L:Lay) (x:Ql) (p:Qy) (lg:List Xa) (gF:List Blk):Prop:=∃ gC gP gL,Qf L x gC∧Xv L.p.pb p gP∧qgj L.p.lb lg gL∧gF=gC++(gP++gL)
theorem qa8 {L:Lay} {wb:Nat} {pv:Value} {e gK gF:List Blk} {z:ZW}:qru L wb pv e z gK gF↔isWK L wb pv e z.k gK∧qvj L z.x z.p z.lg gF :=
 ⟨fun ⟨hv,gh,gC,gP,gL,a,b,c,d,h,i⟩=>⟨⟨hv,gh,a,h⟩,⟨gC,gP,gL,b,c,d,i⟩⟩,fun ⟨⟨hv,gh,a,h⟩,⟨gC,gP,gL,b,c,d,i⟩⟩=>⟨hv,gh,gC,gP,gL,a,b,c,d,h,i⟩⟩
def qew (L:Lay) (wb:Nat) (s:SW) (n:Int) (k:qzo) (g:List Blk):Prop :=
 ∃ (pb:Nat) (e:List Blk) (m d:Value) (gst gK:List Blk),(qwz L wb (Qb pb)).SV e s m d gst∧isWK L wb (Qb pb) e k gK∧g=Cli.progB pb m d n++(gst++gK)
def qbp (s:SW) (z:ZW):SW × ZW:=St.run qyc qv8 s z
def q29 (s:SW) (z:ZW):Prop:=St.pre qyc qv8 preW q2o s z
def qp1 (s:SW) (z:ZW):Bool:=s.may q4x z
def qnn (s:SW) (z:ZW):Prop:=St.preY q2j s z
section
variable {L:Lay} {x:Ql} {p:Qy} {lg:List Xa} {g gF:List Blk} {wb:Nat} {s:SW} {n:Int} {k:qzo}
theorem qz1 (hc:qew L wb s n k g) (hx:qvj L x p lg gF) (hy:qnn s ⟨k,x,p,lg⟩) (hm:qp1 s ⟨k,x,p,lg⟩=true) (hp:q29 s ⟨k,x,p,lg⟩) (hb:0≤n∧n≤1000000000) :
 Qa prog 343 #[Qb wb] [g,gF] fun en gs=>∃ g' gF',en=.returned (.bool true)∧qew L wb (qbp s ⟨k,x,p,lg⟩).1 (n+1) (qbp s ⟨k,x,p,lg⟩).2.k g'∧qvj L (qbp s ⟨k,x,p,lg⟩).2.x (qbp s ⟨k,x,p,lg⟩).2.p (qbp s ⟨k,x,p,lg⟩).2.lg gF'∧gs=[g',gF']:=by
 obtain ⟨pb,e,m,d,gst,gK,hs,hk,rfl⟩:=hc;have hd:=qgt.prog_step (n:=n) (qli L wb (Qb pb)) hs (x:=(⟨k,x,p,lg⟩:ZW)) (qa8.2 ⟨hk,hx⟩) hy hp pb hb hm;obtain ⟨hv,gh,hl,rfl⟩:=hk;refine GO fun w HT=>?_
 have T1:=HT.out.sum (H':=[Yq wb L.fb (Qb pb) hv k.worked,Cli.progB pb m d n++(gst++(gh++e)),gF]);have k1:=T1.cell 0 0 rfl 1;simp only [qbv,GE3] at k1;have lt:=T1.lt 0 0 rfl;simp only [] at lt;have HD:=Vh hd;have HT:=Vh (HT.out.sum (H':=[Cli.progB pb m d n,gst,Yq wb L.fb (Qb pb) hv k.worked++(gh++e),gF]));clear hs hl hx hy hm hp hb hd T1;go_enter func343,ntmps343
 go_wp2_with fail
 refine (Qa.use (HD.out) (HT.out) [0,1,2,3] rfl rfl).mono ?_
 rintro e w1 ⟨gs,⟨e',hle,m',d',gst',gK',gF',rfl,hs',hx',rfl⟩,Ta⟩;simp only [PU] at Ta;have HS:=Vh hs';have HX:=Vh (qa8.1 hx');clear hs' hx' k1;have HT:=Vh Ta;clear Ta;go_wp2
 go_ret
 exact ⟨_,⟨_,gF',rfl,⟨pb,e',m',d',gst',gK',HS.out,HX.out.1,rfl⟩,HX.out.2,rfl⟩,HT.out.sum⟩
theorem q47 (hc:qew L wb s n k g) (hx:qvj L x p lg gF) (hy:qnn s ⟨k,x,p,lg⟩) (hm:qp1 s ⟨k,x,p,lg⟩=false) :
 Qa prog 343 #[Qb wb] [g,gF] fun en gs=>en=.returned (.bool false)∧∃ g' gF',qew L wb s n k g'∧qvj L x p lg gF'∧gs=[g',gF']:=by
 obtain ⟨pb,e,m,d,gst,gK,hs,hk,rfl⟩:=hc;have hd:=qgt.prog_step_no (n:=n) (qli L wb (Qb pb)) hs (x:=(⟨k,x,p,lg⟩:ZW)) (qa8.2 ⟨hk,hx⟩) hy pb hm;obtain ⟨hv,gh,hl,rfl⟩:=hk;refine GO fun w HT=>?_
 have T1:=HT.out.sum (H':=[Yq wb L.fb (Qb pb) hv k.worked,Cli.progB pb m d n++(gst++(gh++e)),gF]);have k1:=T1.cell 0 0 rfl 1;simp only [qbv,GE3] at k1;have lt:=T1.lt 0 0 rfl;simp only [] at lt;have HD:=Vh hd;have HS:=Vh hs;have HT:=Vh (HT.out.sum (H':=[Cli.progB pb m d n,gst,Yq wb L.fb (Qb pb) hv k.worked++(gh++e),gF]));clear hs hl hx hy hm hd T1;go_enter func343,ntmps343
 go_wp2_with fail
 refine (Qa.use (HD.out) (HT.out) [0,1,2,3] rfl rfl).mono ?_
 rintro e w1 ⟨gs,⟨gK',gF',rfl,hx',rfl⟩,Ta⟩;simp only [PU] at Ta;have HX:=Vh (qa8.1 hx');clear hx' k1;have HT:=Vh Ta;clear Ta;go_wp2
 go_ret
 exact ⟨_,⟨rfl,_,gF',⟨pb,e,m,d,gst,gK',HS.out,HX.out.1,rfl⟩,HX.out.2,rfl⟩,HT.out.sum⟩
theorem q21 (hc:qew L wb s n k g) (hx:qvj L x p lg gF) (hy:qnn s ⟨k,x,p,lg⟩) :
 Qa prog 342 #[Qb wb] [g,gF] fun en gs=>en=.returned (.bool (qp1 s ⟨k,x,p,lg⟩))∧∃ g' gF',qew L wb s n k g'∧qvj L x p lg gF'∧gs=[g',gF']:=by
 obtain ⟨pb,e,m,d,gst,gK,hs,hk,rfl⟩:=hc;have hd:=qgt.prog_may (n:=n) (qli L wb (Qb pb)) hs (x:=(⟨k,x,p,lg⟩:ZW)) (qa8.2 ⟨hk,hx⟩) hy pb;have hd:Qa prog 331 _ _ fun en gs=>∃ gK' gF',en=.returned (.bool (qp1 s ⟨k,x,p,lg⟩))∧qru L wb (Qb pb) e ⟨k,x,p,lg⟩ gK' gF'∧_:=hd
 generalize qp1 s ⟨k,x,p,lg⟩=v at *;obtain ⟨hv,gh,hl,rfl⟩:=hk;refine GO fun w HT=>?_
 have T1:=HT.out.sum (H':=[Yq wb L.fb (Qb pb) hv k.worked,Cli.progB pb m d n++(gst++(gh++e)),gF]);have k1:=T1.cell 0 0 rfl 1;simp only [qbv,GE3] at k1;have lt:=T1.lt 0 0 rfl;simp only [] at lt;have HD:=Vh hd;have HS:=Vh hs;have HT:=Vh (HT.out.sum (H':=[Cli.progB pb m d n,gst,Yq wb L.fb (Qb pb) hv k.worked++(gh++e),gF]));clear hs hl hx hy hd T1;go_enter func342,ntmps342
 go_wp2_with fail
 refine (Qa.use (HD.out) (HT.out) [0,1,2,3] rfl rfl).mono ?_
 rintro e w1 ⟨gs,⟨gK',gF',rfl,hx',rfl⟩,Ta⟩;simp only [PU] at Ta;have HX:=Vh (qa8.1 hx');clear hx' k1;have HT:=Vh Ta;clear Ta;go_wp2
 go_ret
 exact ⟨_,⟨rfl,_,gF',⟨pb,e,m,d,gst,gK',HS.out,HX.out.1,rfl⟩,HX.out.2,rfl⟩,HT.out.sum⟩
def qv9:List Xa→Xa
 | []=>Xa.zero
 | f::_=>f
theorem qv6 (hc:qew L wb s n k g) (hn:k.holds.length≤1000):Qa prog 69 #[Qb wb] [g] fun en gs=>en=.returned (.tuple #[.agg (qv9 k.holds).vals.toArray,.bool (!k.holds.isEmpty)])∧gs=[g]:=by
 obtain ⟨pb,e,m,d,gst,gK,hs,⟨hv,gh,hl,rfl⟩,rfl⟩:=hc;cases hh:k.holds with
 | nil =>
   rw [show k.holds.length=0 from by rw [hh];rfl] at hl;obtain ⟨av,cap,rfl⟩:=Qr.val hl;refine GO fun w HT=>?_
   have HT:=Vh (HT.out.sum (H':=[Yq wb L.fb (Qb pb) (.slice av 0 cap) k.worked,Cli.progB pb m d n++(gst++(gh++e))]));have k2:=HT.out.cell 0 0 rfl 2;simp only [qbv,GE3] at k2;have lt:=HT.out.lt 0 0 rfl;simp only [] at lt;clear hs hl hh;go_enter func69,ntmps69
   go_wp2
   have HT2:=Vh (HT.out.alloc (k:=w.heap.size) rfl 82 #[.int .u64 0,.int .u64 0,.int .u64 0,.int .u64 0]);obtain ⟨r0,r1,r2,r3⟩:=Ce4 (HT2.out.cell 2 0 rfl) 0 1 2 3;simp only [GE4] at r0 r1 r2 r3;exact bodyPost_ret (v:=.tuple #[.agg #[.int .u64 0,.int .u64 0,.int .u64 0,.int .u64 0],.bool false]) (by simp [results,results69,go_sem,r0,r1,r2,r3]) rfl ⟨_,⟨rfl,rfl⟩,(HT2.out.pick [0,1] rfl).sum⟩
 | cons f l =>
   have h0:0<k.holds.length:=by rw [hh];exact Nat.zero_lt_succ _
   obtain ⟨hb,hcap,hcur,rfl,hgh,hc1,hc2,hc3,hc4⟩:=hl.open h0
   have hf0:(Jc k.holds)[0]?=some (.int .u64 f.id)∧(Jc k.holds)[1]?=some (.int .u64 f.gen)∧(Jc k.holds)[2]?=some (.int .u64 f.dl)∧(Jc k.holds)[3]?=some (.int .u64 f.tick):=by
    rw [hh];exact ⟨rfl,rfl,rfl,rfl⟩
   obtain ⟨q0,q1,q2,q3⟩:=hf0;have a0:=(hc4 0 (by omega)).trans q0;have a1:=(hc4 1 (by omega)).trans q1;have a2:=(hc4 2 (by omega)).trans q2;have a3:=(hc4 3 (by omega)).trans q3;refine GO fun w HT=>?_
   have HT:=Vh (HT.out.sum (H':=[Yq wb L.fb (Qb pb) (.slice (some ⟨hb,0,none⟩) k.holds.length hcap) k.worked,gh,Cli.progB pb m d n++(gst++e)]));rw [hgh] at HT;obtain ⟨N,hN⟩:∃ N,k.holds.length=N:=⟨_,rfl⟩;rw [hN] at HT h0 hc1 hn ⊢;have p0:=(HT.out.cell 1 0 rfl 0).trans a0;have p1:=(HT.out.cell 1 0 rfl 1).trans a1;have p2:=(HT.out.cell 1 0 rfl 2).trans a2;have p3:=(HT.out.cell 1 0 rfl 3).trans a3;have k2:=HT.out.cell 0 0 rfl 2;simp only [qbv,GE3] at k2;have lt:=HT.out.lt 0 0 rfl;have lt2:=HT.out.lt 1 0 rfl;simp only [] at lt lt2;clear hs hl hh hc2 hc3 hc4 a0 a1 a2 a3 q0 q1 q2 q3;go_enter func69,ntmps69
   go_wp2
   have HT2:=Vh (HT.out.alloc (k:=w.heap.size) rfl 82 #[.int .u64 f.id,.int .u64 f.gen,.int .u64 f.dl,.int .u64 f.tick]);obtain ⟨r0,r1,r2,r3⟩:=Ce4 (HT2.out.cell 3 0 rfl) 0 1 2 3;simp only [GE4] at r0 r1 r2 r3;have T9:=HT2.out.pick [0,1,2] rfl;change TG _ w [_,[cl hb 82 hcur],_] _ at T9
   rw [← hgh] at T9;exact bodyPost_ret (v:=.tuple #[.agg #[.int .u64 f.id,.int .u64 f.gen,.int .u64 f.dl,.int .u64 f.tick],.bool true]) (by simp [results,results69,go_sem,r0,r1,r2,r3]) rfl ⟨_,⟨rfl,rfl⟩,T9.sum⟩
end
end
section
open Go.RowKit Go.Shelf
attribute [local go_sem] Oper.semAt_some
def qvc:qzo:=⟨[],0⟩
def qm:SW:=.at (some .ready) .takes1
theorem qu3 (L:Lay):Qa prog 110 #[Qb L.fb] [] fun en gs=>∃ wb g,en=.returned (.tuple #[Qb wb,.int .i64 0])∧qew L wb qm 0 qvc g∧gs=[g]:=by
 have HNW:=Vh (show ∀ wb (m d:Value) gst l,(∀ e,leE l e→(qwz L wb (.pointer none)).SV e qm m d gst)→_ from fun wb m d gst l h=>Cli.prog_new_v (qfb L wb (.pointer none) l) (h l (fun b hb=>hb)));refine GO fun w HT=>?_
 go_enter func110,ntmps110
 go_wp2_with fail
 refine (Qa.use (qyy L w.heap.size (.pointer none)) (HT.out.alloc (k:=w.heap.size) rfl 190 (qbv L.fb (.pointer none) (.slice none 0 0) 0)) [] rfl rfl).mono ?_
 rintro e w1 ⟨gs,⟨gst,l,⟨m,d,rfl,hs⟩,rfl⟩,Ta⟩;simp only [PU] at Ta;have HS:=Vh hs;clear hs;have HT:=Vh Ta;clear Ta;go_wp2_with fail
 refine Qa.run (HNW.out _ _ _ _ _ HS.out) (HT.out) [1] ?_
 rintro e w1 gs ⟨pb,rfl,rfl⟩ HT;simp only [PU] at HT;have k1:=HT.out.cell 0 0 rfl 1;have fk1:=HT.out.free 0 0 rfl 1;simp only [qbv,GE3] at k1;go_wp2
 go_ret2
 exact ⟨_,⟨_,_,rfl,⟨pb,l,m,d,gst,Yq w.heap.size L.fb (Qb pb) (.slice none 0 0) 0++([]++l),HS.out l (fun b hb=>hb),⟨_,[],Xp _ _,rfl⟩,rfl⟩,rfl⟩,(((HT.out.set 0 0 rfl 1 (Qb pb)).eq (H':=[Yq w.heap.size L.fb (Qb pb) (.slice none 0 0) 0,gst,l,Cli.progB pb m d 0]) rfl).pick [3,1,0,2] rfl).sum⟩
def q2z (L:Lay) (n:Nat) (x:Ql) (gC:List Blk) (O:GH):ItS where
 σ:=Nat
 O _ O':=O'=O
 T _ H:=∃ i,H.getD i []=gC∧i<H.length
 step k v G k':=k<n∧(∃ wb g,qew L wb qm 0 qvc g∧v=#[Qb wb]∧G=[g])∧k'=k+1
 fin k:=k=n
theorem qcc {α:Type}:∀ (l:List (List α)) (i:Nat),i<l.length→l.flatten.Perm (l.getD i []++(l.eraseIdx i).flatten)
 | [],i,h=>absurd h (Nat.not_lt_zero _)
 | a::l,0,_=>List.Perm.refl _
 | a::l,i+1,h=>by
   have ih:=qcc l i (Nat.lt_of_succ_lt_succ h)
   show (a++l.flatten).Perm (l.getD i []++(a++(l.eraseIdx i).flatten))
   refine (ih.append_left a).trans ?_
   rw [← List.append_assoc,← List.append_assoc];exact List.perm_append_comm.append_right _
theorem q3y {P:Program} {f:FuncId} {args:Array Value} {g:List Blk} {R:Ending→GH→Prop} (hd:Qa P f args [g] R) {H:GH} {i:Nat} (hi:H.getD i []=g) (hl:i<H.length) {W:World} (hH:Jj H W) :
 Calls P f args W fun e w'=>∃ gs K,R e gs∧TG H W (gs++K) w'∧H.flatten.Perm (g++K.flatten):=by
 have hp:=qcc H i hl;rw [hi] at hp;have h2:Jj ([g]++H.eraseIdx i) W:=hH.re (by simpa using hp);refine (hd W h2.left).mono ?_
 rintro e w' ⟨gs,hR,T⟩;exact ⟨gs,_,hR,(T.frame h2).basePerm (by simpa using hp.symm),hp⟩
theorem qpn (a b c d e f:Value) (w:World):(Instr.field 28 (.agg #[a,b,c,d,e,f]) 4).run prog w=.ok e w:=by kernel_rfl
theorem qj8 (L:Lay) (bx:Nat) {x:Ql} {gC:List Blk} (hx:Qf L x gC) {n:Nat} (hn:x.f.cfg.wk=n) (hn2:n≤1000) :
 qeu prog 108 #[Qb bx] (q2z L n x gC [[cl bx 49 #[Qb L.fb]]]) (0:Nat):=by
 intro ly J Jx hT hY H0 O0 W hJ0 hO hH;have hO':O0=[[cl bx 49 #[Qb L.fb]]]:=hO;subst hO';have T0:=TG.refl hH;have c0:=(TG.refl hH.right).cell 0 0 rfl 0;simp only [GE2] at c0;obtain ⟨i0,hi0,hl0⟩:=hT (0:Nat) H0 hJ0;have HCF:=Vh (qg1 hx);have HB:=Vh (qu3 L);have HH:=Vh (And.intro hJ0 T0);have HY:=Vh hY;have HI:=Vh (And.intro hi0 hl0);clear hO hH hY hT hJ0 T0 hi0 hl0 hx;refine (callsIn_wide (n:=9)).1 (callsIn_of_wp func108 rfl trivial ?_ rfl)
 simp only [ntmps108,List.size_toArray,List.length_cons,List.length_nil,Nat.reduceAdd,Nat.reduceSub,Array.replicate_succ,Array.replicate_zero,List.push_toArray,List.append_toArray,List.nil_append,List.cons_append];gi_wp2
 refine ⟨trivial,(callsIn_wide (n:=8)).2 ((q3y HCF.out (i:=i0) (H:=H0++[[cl bx 49 #[Qb L.fb]]]) (by rw [List.getD_eq_getElem?_getD,List.getElem?_append_left HI.out.2,← List.getD_eq_getElem?_getD];exact HI.out.1) (by rw [List.length_append];have:=HI.out.2;omega) HH.out.2.has).mono ?_)⟩
 rintro e W1 ⟨gs,K,⟨rfl,rfl⟩,T1,hp⟩;have HT1:=Vh (T1.re (H':=H0++[[cl bx 49 #[Qb L.fb]]]) (by simpa using hp.symm));clear T1 hp;have hf4:=qpn (.int .i64 x.f.cfg.sh) (.int .i64 x.f.cfg.cap) (.int .i64 x.f.cfg.ring) (.int .i64 x.f.cfg.room) (.int .i64 n) (.int .i64 x.f.cfg.cli) W1;unfold Cfg.cells;rw [hn];have HJ0:=HH.out.1;have T0:=Vh (HT1.out);have HJ:=Vh HJ0;clear HJ0 HH HI HT1 c0;gi_wp2
 gi_loopw [8] (fun i wr=>∃ (k:Nat) (H:GH),k≤n∧i=.int .i64 k∧J k H∧TG (H0++[[cl bx 49 #[Qb L.fb]]]) W (H++[[cl bx 49 #[Qb L.fb]]]) wr) (fun i _=>n+1 - (intOf i).toNat)
 case atStart=>exact ⟨0,H0,by omega,rfl,HJ.out,T0.out⟩
 case round =>
  obtain ⟨k,H,hk,rfl,hj,T⟩:=hrel;clear HJ T0 hf4;by_cases hlt:k<n
  ·have a0:=(TG.refl T.has.right).cell 0 0 rfl 0
   simp only [GE2] at a0;have HT:=Vh T;have HK:=Vh hj;clear T hj;gi_wp2
   refine ⟨trivial,(callsIn_wide (n:=8)).2 ((Qa.use HB.out HT.out [] rfl rfl).mono ?_)⟩
   rintro e W1 ⟨gs,⟨wb,g,rfl,hw,rfl⟩,Ta⟩
   have Tb:TG (H0++[[cl bx 49 #[Qb L.fb]]]) W ((H++[g])++[[cl bx 49 #[Qb L.fb]]]) W1:=Ta.re (by
    classical
    refine List.perm_iff_count.2 fun a=>?_
    simp only [qc9,List.flatten_append,List.flatten_cons,List.flatten_nil,List.append_nil,List.count_append]
    omega)
   have HT2:=Vh Tb;have hy0:=HY.out k #[Qb wb] [g] (k+1) H _ HK.out ⟨hlt,⟨wb,g,hw,rfl,rfl⟩,rfl⟩ Tb.has.left;obtain ⟨fn,tmps,assign,body,hy,hR⟩:=X0 (n:=8) hy0;have HRR:=Vh hR;clear hy0 hR hw Ta Tb;gi_wp2
   refine HRR.out.mono ?_
   rintro e W' ⟨H',hT',hj'⟩;have T7:=HT2.out.trans (hT'.frame HT2.out.has);have HT7:=Vh T7;rcases hj' with ⟨rfl,hj'⟩ | ⟨rfl,hj'⟩
   ·have HJ:=Vh hj'
    clear hT' T7 hj' hy a0;gi_wp2
    go_roundw
    case rel=>exact ⟨k+1,H',by omega,by go_num,HJ.out,HT7.out⟩
    case measure=>simp [intOf];omega
   ·have HJ:=Vh hj'
    clear hT' T7 hj' hy a0;gi_wp2
    refine bodyPost_ret (results_none rfl _ _ _) rfl ?_
    exact ⟨⟨_,rfl⟩,k+1,H',_,HT7.out,.inr HJ.out⟩
  ·obtain rfl:k=n:=by omega
   have HT:=Vh T;have HK:=Vh hj;clear T hj;gi_wp2
   go_end0
   exact ⟨⟨_,rfl⟩,k,H,_,HT.out,.inl ⟨rfl,HK.out,rfl⟩⟩
structure WkN where
 wb:Nat
 s:SW
 n:Int
 k:qzo
def qgm (L:Lay) (l:List WkN) (g:List Blk):Prop:=J5 (fun (z:WkN) g=>qew L z.wb z.s z.n z.k g) l g
def qg0 (z:WkN):Prop:=z.s=qm∧z.n=0∧z.k=qvc
def qfr (l:List WkN):List Value:=l.map fun z=>Qb z.wb
theorem qo5:(prog.info? 139).map (fun i=>(i.zero,i.size,i.bytes))=some (some (.pointer none),1,8):=by kernel_rfl
theorem qt8 (L:Lay):Qa prog 85 #[Qb L.fb] [] fun e gs=>∃ bx,e=.returned (.func (.func 108) #[] #[Qb bx])∧gs=[[cl bx 49 #[Qb L.fb]]]:=by
 refine GO fun w HT=>?_
 go_enter func85,ntmps85
 go_wp2
 go_ret
 exact ⟨_,⟨_,rfl,rfl⟩,(HT.out.alloc rfl _ _)⟩
theorem qwo {L:Lay} {x:Ql} {gC:List Blk} (hx:Qf L x gC) {n:Nat} (hn:x.f.cfg.wk=n) (hn2:n≤1000):Qa prog 63 #[Qb L.fb] [gC] fun e gs =>
 ∃ v gr gW l,e=.returned v∧l.length=n∧(∀ z∈l,qg0 z)∧Qr 139 1 v n (qfr l) gr∧qgm L l gW∧gs=[gC,gr,gW]:=by
 have HI:=Vh (show ∀ bx,_ from fun bx=>qj8 L bx hx hn hn2);have eg:=enters_of func108 (P:=prog) (by kernel_rfl) rfl;refine GO fun w HT=>?_
 clear hx hn;refine Qu func63 rfl ?_
 simp only [ntmps63,List.size_toArray,List.length_cons,List.length_nil,Nat.reduceAdd,Nat.reduceSub,Array.replicate_succ,Array.replicate_zero,List.push_toArray,List.append_toArray,List.nil_append,List.cons_append];go_wp2_with fail
 obtain ⟨sb,hsb⟩:∃ sb,w.heap.size=sb:=⟨_,rfl⟩;have HT:=Vh (HT.out.alloc (k:=sb) hsb.symm 84 #[.slice none 0 0]);rw [hsb];clear hsb;go_wp2_with fail
 refine Qa.run (qt8 L) (HT.out) [] ?_
 rintro e w1 gs ⟨bx,rfl,rfl⟩ HT;simp only [PU] at HT;have T0:=HT.out.re (H':=[gC,[cl sb 84 #[.slice none 0 0]],[],[]]++[[cl bx 49 #[Qb L.fb]]]) (by simp);go_wp2_with fail
 refine qy (H0:=[gC,[cl sb 84 #[.slice none 0 0]],[],[]]) (O0:=[[cl bx 49 #[Qb L.fb]]]) rfl eg (HI.out bx) ?hps T0 ?hO (fun (k:Nat) H=>∃ v gr gW l,H=[gC,[cl sb 84 #[v]],gr,gW]∧l.length=k∧(∀ z∈l,qg0 z)∧Qr 139 1 v k (qfr l) gr∧qgm L l gW) (fun _ _ _=>False) ?h0 ?hT ?hbody ?hdone ?hstop
 case hps=>rintro s x G s' ⟨_,⟨_,_,_,rfl,_⟩,_⟩;rfl
 case hO=>exact rfl
 case h0=>exact ⟨_,[],[],[],rfl,rfl,(by intro z h;cases h),Xp _ _,rfl⟩
 case hT=>rintro s H K ⟨v,gr,gW,l,rfl,_⟩;exact ⟨0,rfl,by simp⟩
 case hbody =>
  rintro (k:Nat) x G (k':Nat) H W ly ⟨v,gr,gW,l,rfl,hl,hnw,hr,hf⟩ ⟨hk,⟨wb,g,hw,rfl,rfl⟩,rfl⟩ hH;have HH:=Vh hH;have HR:=Vh hr;have HF:=Vh (show qgm L (l++[⟨wb,qm,0,qvc⟩]) (gW++g) from J5.snoc hf hw)
  have HN:=Vh (show ∀ z∈l++[⟨wb,qm,0,qvc⟩],qg0 z from fun z hz=>(List.mem_append.1 hz).elim (hnw z) (fun h=>by
   obtain rfl:z=_:=by simpa using h
   exact ⟨rfl,rfl,rfl⟩))
  have HL:=Vh hl;have HP:=Vh (show qfr (l++[⟨wb,qm,0,qvc⟩])=qfr l++[Qb wb] from by simp [qfr]);obtain ⟨av,cap,hv⟩:=Qr.val hr;subst hv;clear hH hr hf hw hnw hl;refine Q1 (n:=9) ?_
  gi_wp2
  refine ⟨_,TG.refl HH.out,fun Wb hb=>?_⟩
  have HT:=Vh (TG.refl hb);have c0:=HT.out.cell 1 0 rfl 0;have f0:=HT.out.free 1 0 rfl 0;simp only [GE2] at c0;clear hb HH;refine Q1 (n:=9) ?_
  have ho1:∀ u∈[Qb wb],u.oneCell'=true:=fun u hu=>by
   obtain rfl:u=Qb wb:=(by simpa using hu);rfl
  have ho2:k+1≤maxLen:=by unfold maxLen;omega
  have ho3:(k+1)*8≤140737488355328:=by omega
  gi_wp2_with (
   gi_at_builtin
   with_reducible refine Z7 rfl (.tmp 8) (.tmp 10) 84 rfl 139 1 8 _ underlying84 qo5 rfl (by decide) (HT.out.alloc0 _) 2 rfl rfl HR.out rfl ⟨Wb.heap.size,0,none⟩ 1 1 [Qb wb] rfl rfl (X8 _ _ _) ho1 ho2 ho3 ?_;skip)
  ·intro v1 w2 g1 r1 T1
   have T1:=T1.eq (H':=[gC,[cl sb 84 #[.slice av k cap]],g1,gW,g]) rfl;have c1:=T1.cell 1 0 rfl 0;have f1:=T1.free 1 0 rfl 0;obtain ⟨a1,cap1,hv1⟩:=Qr.val r1;subst hv1;have T1:=Vh T1;have r1:=Vh r1;simp only [GE2] at c1;gi_wp2
   exact ⟨[gC,[cl sb 84 #[.slice a1 (k+1) cap1]],g1,gW++g],⟨_,_,_,_,rfl,by rw [List.length_append,HL.out];rfl,HN.out,by rw [HP.out];exact r1.out,HF.out⟩,(((T1.out.set 1 0 rfl 0 (.slice a1 (k+1) cap1)).eq (H':=[gC,[cl sb 84 #[.slice a1 (k+1) cap1]],g1,gW,g]) rfl).sum)⟩
 case hdone =>
  rintro (k:Nat) H O' W D hf' ⟨v,gr,gW,l,rfl,hl,hnw,hr,hf⟩ hO hT;have hf2:k=n:=hf';subst hf2;have hO':O'=[[cl bx 49 #[Qb L.fb]]]:=hO;subst hO';have c0:=hT.cell 1 0 rfl 0;simp only [GE2] at c0;have HX:=Vh (And.intro hl (And.intro hnw (And.intro hr (And.intro hf hT))));obtain ⟨av,cap,hv⟩:=Qr.val hr;subst hv;clear hf hO hr hT hl hnw hf';go_wp2
  obtain ⟨hl,hnw,hr,hf,hT⟩:=HX.out;have T3:=hT.turnLast (.deferred none)
  have T4:TG [gC] w ([gC,gr,gW]++[[cl sb 84 #[.slice av k cap],cl bx 49 #[Qb L.fb],(D,.deferred none)]]) (W.putObj D (.deferred none)):=T3.re (by
   classical
   simp only [List.flatten_append,List.flatten_cons,List.flatten_nil,List.append_nil,List.cons_append,List.nil_append];refine List.perm_iff_count.2 fun a=>?_
   simp only [List.count_append,List.count_cons,List.count_nil]
   omega)
  exact Xs (v:=.slice av k cap) hT.has.last (by simp [results,results63,go_sem]) ⟨_,⟨_,gr,gW,l,rfl,hl,hnw,hr,hf,rfl⟩,T4.dropLast⟩
 case hstop=>intro s cd H O W D h;exact h.elim
end
section
open Go.RowKit Go.Shelf
theorem zv {α:Type} {Pr:Program} {f:FuncId} {args:Array Value} {P:α→List Blk→Prop} {l:List α} {g:List Blk} {k:Nat} {a:α} (hf:J5 P l g) (hk:l[k]?=some a) {rest:GH} {R:Ending→α→GH→Prop}
 (hd:∀ ga,P a ga→Qa Pr f args (ga::rest) fun e gs=>∃ a' ga' rest',R e a' rest'∧P a' ga'∧gs=ga'::rest') :
 Qa Pr f args (g::rest) fun e gs=>∃ a' g' rest',R e a' rest'∧J5 P (l.set k a') g'∧gs=g'::rest':=by
 obtain ⟨x,y,hx,hp,hr⟩:=hf.out hk;intro w hw
 have h2:Jj ((x::rest)++[y]) w:=hw.re (by
  classical
  have:=List.perm_iff_count.1 hp;refine List.perm_iff_count.2 fun b=>?_
  have:=this b;simp only [List.flatten_append,List.flatten_cons,List.flatten_nil,List.append_nil,List.count_append] at this ⊢
  omega)
 refine (hd x hx w h2.left).mono ?_
 rintro e w' ⟨gs,⟨a',ga',rest',hR,hP,rfl⟩,T⟩;obtain ⟨g',hg',hp'⟩:=hr a' ga' hP;refine ⟨_,⟨a',g',rest',hR,hg',rfl⟩,((T.frame h2).re (H':=g'::rest') ?_).basePerm ?_⟩
 ·classical
  have:=List.perm_iff_count.1 hp';refine List.perm_iff_count.2 fun b=>?_
  have:=this b;simp only [List.flatten_append,List.flatten_cons,List.flatten_nil,List.append_nil,List.count_append] at this ⊢;omega
 ·classical
  have:=List.perm_iff_count.1 hp;refine List.perm_iff_count.2 fun b=>?_
  have:=this b;simp only [List.flatten_append,List.flatten_cons,List.flatten_nil,List.append_nil,List.count_append] at this ⊢;omega
theorem Yz {α:Type} {l:List α} {k:Nat} {a:α} (h:l[k]?=some a):l.set k a=l:=by
 obtain ⟨h1,h2⟩:=List.getElem?_eq_some_iff.1 h;subst h2;exact List.set_getElem_self h1
theorem qz0 {L:Lay} {l:List WkN} {gW:List Blk} {k:Nat} {z:WkN} (hf:qgm L l gW) (hk:l[k]?=some z) (hn:z.k.holds.length≤1000) :
 Qa prog 69 #[Qb z.wb] [gW] fun e gs=>∃ g',e=.returned (.tuple #[.agg (qv9 z.k.holds).vals.toArray,.bool (!z.k.holds.isEmpty)])∧qgm L l g'∧gs=[g']:=by
 refine (zv (R:=fun e a' rest'=>e=.returned (.tuple #[.agg (qv9 z.k.holds).vals.toArray,.bool (!z.k.holds.isEmpty)])∧a'=z∧rest'=[]) hf hk (fun ga hga=>(qv6 hga hn).mono ?_)).mono ?_
 ·rintro e gs ⟨rfl,rfl⟩
  exact ⟨z,_,[],⟨rfl,rfl,rfl⟩,hga,rfl⟩
 ·rintro e gs ⟨a',g',rest',⟨rfl,rfl,rfl⟩,hg',rfl⟩
  rw [Yz hk] at hg';exact ⟨g',rfl,hg',rfl⟩
def X9 (l:List WkN):Bool:=l.all fun z=>z.k.holds.isEmpty
def qq (l:List WkN) (p:Qy):Bool:=X9 l && decide ((p.ch.length:Int)+p.sp.length=0)
theorem qzm {l:List WkN} {v:Value} {gr:List Blk} {n:Nat} (hr:Qr 139 1 v n (qfr l) gr) {h H:GH} {w w':World} (T:TG h w H w') (i:Nat) (hg:H.getD i []=gr) (hi:i<H.length) {k:Nat} {z:WkN} (hk:l[k]?=some z) :
 ∃ b cap,v=.slice (some ⟨b,0,none⟩) n cap∧w'.cell? ⟨b,k,none⟩=some (Qb z.wb):=by
 have hlen:l.length=n:=by
  have:=hr.1;simpa [qfr] using this
 have hkl:=(List.getElem?_eq_some_iff.1 hk).1;obtain ⟨b,cap,cur,hv,hgr,_,_,_,hcur⟩:=hr.open (by omega);refine ⟨b,cap,hv,?_⟩
 have:=T.cell i 0 (b:=b) (T:=139) (C:=cur) (by rw [hg,hgr];rfl) k;rw [this,hcur k (by omega)]
 show (l.map _)[k]?=_
 rw [List.getElem?_map,hk];rfl
theorem qk5 {l:List WkN} {k:Nat} {z:WkN} (hk:l[k]?=some z) (hh:z.k.holds.isEmpty=false):X9 l=false:=by
 unfold X9;rw [List.all_eq_false];exact ⟨z,List.mem_of_getElem? hk,by rw [hh];decide⟩
theorem qgb {l:List WkN} {k:Nat} {z:WkN} (hk:l[k]?=some z) (hh:z.k.holds.isEmpty=true) (h:X9 (l.take k)=true):X9 (l.take (k+1))=true:=by
 unfold X9 at h ⊢;obtain ⟨h1,h2⟩:=List.getElem?_eq_some_iff.1 hk;rw [List.take_succ_eq_append_getElem h1,List.all_append,h,h2];simp [hh]
section
variable {L:Lay} {x:Ql} {p:Qy} {l:List WkN} {gC gP gr gW:List Blk} {n:Nat} {v:Value}
theorem qxg (hx:Qf L x gC) (hpp:Xv L.p.pb p gP) (hch:p.ch.length≤1000000) (hsp:p.sp.length≤1000000) (hr:Qr 139 1 v n (qfr l) gr) (hf:qgm L l gW) (hn:n≤1000) (hh:∀ z∈l,z.k.holds.length≤1000) :
 Qa prog 48 #[Qb L.fb,v] [gW,gr,gC,gP] fun e gs=>∃ gW',e=.returned (.bool (qq l p))∧qgm L l gW'∧gs=[gW',gr,gC,gP]:=by
 have hlen:l.length=n:=by
  have:=hr.1;simpa [qfr] using this
 obtain ⟨av,cap,rfl⟩:=Qr.val hr;have hpl:=qku hpp ⟨hch,hsp⟩;have HPR:=Vh (Jn hx);unfold qq;generalize (p.ch.length:Int)+p.sp.length=m at *;have HPL:=Vh hpl;have HR:=Vh hr;have HF:=Vh hf;have HHH:=Vh hh;have HLL:=Vh hlen;refine GO fun w HT=>?_
 clear hx hpp hch hsp hr hf hh hlen hpl;go_enter func48,ntmps48
 go_wp2_with fail
 go_loopw [11] (fun i wr=>∃ (k:Nat) (gW1:List Blk),k≤n∧i=.int .i64 k∧qgm L l gW1∧X9 (l.take k)=true∧TG [gW,gr,gC,gP] w [gW1,gr,gC,gP] wr) (fun i _=>n+1 - (intOf i).toNat)
 case atStart=>exact ⟨0,gW,by omega,rfl,HF.out,rfl,HT.out⟩
 case round =>
  obtain ⟨k,gW1,hk,rfl,hf1,hno,T⟩:=hrel;clear HF;by_cases hkl:k<n
  ·obtain ⟨z,hz⟩:∃ z,l[k]?=some z:=⟨_,List.getElem?_eq_getElem (by have:=HLL.out;omega)⟩
   obtain ⟨b,cap2,hv,hb⟩:=qzm HR.out T 1 rfl (by simp) hz;obtain ⟨rfl,rfl⟩:av=some ⟨b,0,none⟩∧cap=cap2:=by cases hv;exact ⟨rfl,rfl⟩
   obtain ⟨fz,hfz⟩:∃ f,qv9 z.k.holds=f:=⟨_,rfl⟩;have HHO:=Vh (qz0 hf1 hz (HHH.out z (List.mem_of_getElem? hz)));rw [hfz,Jg] at HHO;have HZ:=Vh hz;have HNO:=Vh hno;have HT:=Vh T;clear hf1 hz hv T hno hfz;cases he:z.k.holds.isEmpty with
   | true =>
     rw [he] at HHO;go_wp2_with fail
     go_wp2_with fail
     refine Qa.run (HHO.out) (HT.out) [0] ?_
     rintro e w1 gs ⟨gW2,rfl,hf2,rfl⟩ HT;simp only [PU] at HT;have HF2:=Vh hf2;have HN2:=Vh (qgb HZ.out he HNO.out);clear hf2;go_wp2
     first
     | (go_roundw
        case rel=>exact ⟨k+1,gW2,by omega,by go_num,HF2.out,HN2.out,HT.out.alloc0 _⟩
        case measure=>simp [intOf];omega)
     | exact ⟨⟨k+1,gW2,by omega,by go_num,HF2.out,HN2.out,HT.out.alloc0 _⟩,by simp [intOf];omega⟩
     | ((repeat apply Exists.intro);exact ⟨⟨⟨k+1,gW2,by omega,by go_num,HF2.out,HN2.out,HT.out.alloc0 _⟩,rfl⟩,by simp [intOf];omega⟩)
   | false =>
     rw [he] at HHO;go_wp2_with fail
     go_wp2_with fail
     refine Qa.run (HHO.out) (HT.out) [0] ?_
     rintro e w1 gs ⟨gW2,rfl,hf2,rfl⟩ HT;simp only [PU] at HT;have HF2:=Vh hf2;have HN2:=Vh (qk5 HZ.out he);clear hf2;go_wp2
     go_ret
     exact ⟨_,⟨gW2,by rw [HN2.out];rfl,HF2.out,rfl⟩,HT.out.alloc0 _⟩
  ·have hkn:k=n:=by omega
   subst hkn
   have hno2:X9 l=true:=by
    have:=HLL.out;rw [List.take_of_length_le (by omega)] at hno;exact hno
   have HF2:=Vh hf1;have HT:=Vh T;clear hf1 T hno;by_cases hm:m=0
   ·have HD:=Vh (show (X9 l && decide (m=0))=true from by rw [hno2,hm];rfl)
    have hmb:(m == 0)=true:=by rw [hm];rfl
    clear hno2;go_wp2_with fail
    go_wp2_with fail
    refine (Qe.use (HPR.out) (HT.out) [2] rfl rfl).mono ?_
    rintro e w1 ⟨rfl,mq,rfl⟩;have HT:=Vh (HT.out.drewN mq);generalize World.drewN _ _=wq at HT ⊢;go_wp2_with fail
    refine (Qe.use (HPL.out) (HT.out) [3] rfl rfl).mono ?_
    rintro e w1 ⟨rfl,mq,rfl⟩;have HT:=Vh (HT.out.drewN mq);generalize World.drewN _ _=wq at HT ⊢;go_wp2
    go_ret
    exact ⟨_,⟨_,by rw [HD.out];rfl,HF2.out,rfl⟩,HT.out⟩
   ·have hd:decide (m=0)=false:=decide_eq_false hm
    have HD:=Vh (show (X9 l && decide (m=0))=false from by rw [hno2,hd];rfl);have hmb:(m == 0)=false:=by simpa using hm
    clear hno2 hd;go_wp2_with fail
    go_wp2_with fail
    refine (Qe.use (HPR.out) (HT.out) [2] rfl rfl).mono ?_
    rintro e w1 ⟨rfl,mq,rfl⟩;have HT:=Vh (HT.out.drewN mq);generalize World.drewN _ _=wq at HT ⊢;go_wp2_with fail
    refine (Qe.use (HPL.out) (HT.out) [3] rfl rfl).mono ?_
    rintro e w1 ⟨rfl,mq,rfl⟩;have HT:=Vh (HT.out.drewN mq);generalize World.drewN _ _=wq at HT ⊢;go_wp2
    go_ret
    exact ⟨_,⟨_,by rw [HD.out];rfl,HF2.out,rfl⟩,HT.out⟩
end
theorem St.keep {M A Y α:Type} {runM:M→α→St M A Y × α} {runA:A→α→α} {R:α→α→Prop} (hr:∀ z,R z z) (ht:∀ x y z,R x y→R y z→R x z) (hm:∀ m z,R z (runM m z).2) (ha:∀ a z,R z (runA a z)) :
 ∀ (s:St M A Y) (z:α),R z (St.run runM runA s z).2
 | .nil,z=>hr z
 | .at _ m,z=>hm m z
 | .row1 a,z=>ha a z
 | .row2 a _,z=>ha a z
 | .thn s m,z=>by
   have h1:=St.keep (Y:=Y) hr ht hm ha s z
   show R z (J1 runM (s.run runM runA z).1 m (s.run runM runA z).2).2
   unfold J1;split
   ·exact ht _ _ _ h1 (hm m _)
   ·exact h1
structure qx (z z':ZT):Prop where
 cfg:z'.x.f.cfg=z.x.f.cfg
 busy:z'.x.f.busy=z.x.f.busy
 closed:z'.x.f.closed=z.x.f.closed
 len:z'.x.shs.length=z.x.shs.length
 room:z'.p.room=z.p.room
 shut:z'.p.shut=z.p.shut
 th:z'.k.th=z.k.th
theorem qx.refl (z:ZT):qx z z:=⟨rfl,rfl,rfl,rfl,rfl,rfl,rfl⟩
theorem qx.trans {x y z:ZT} (a:qx x y) (b:qx y z):qx x z :=
 ⟨b.cfg.trans a.cfg,b.busy.trans a.busy,b.closed.trans a.closed,b.len.trans a.len,b.room.trans a.room,b.shut.trans a.shut,b.th.trans a.th⟩
theorem qoc (p:Qy) (f:Xa):(p.put f).1.room=p.room∧(p.put f).1.shut=p.shut:=by
 unfold Qy.put;split
 ·exact ⟨rfl,rfl⟩
 ·split <;> exact ⟨rfl,rfl⟩
theorem qbd (z:ZT) (s:Xc):qx z (z.onSh s):=⟨rfl,rfl,rfl,List.length_set,rfl,rfl,rfl⟩
theorem qdy (i:Nat) (z:ZT):qx z (Jh i z).2:=by
 unfold Jh;split <;> exact ⟨rfl,rfl,rfl,rfl,rfl,rfl,rfl⟩
theorem qfx (d i:Nat) (z:ZT):qx z (Xo d i z).2:=by
 unfold Xo;split <;> exact ⟨rfl,rfl,rfl,rfl,rfl,rfl,rfl⟩
theorem qs6 (a:AT) (z:ZT):qx z (Yh a z):=by
 cases a with
 | unlock=>exact qbd z _
 | put f=>exact ⟨rfl,rfl,rfl,rfl,(qoc z.p f).1,(qoc z.p f).2,rfl⟩
 | _=>exact ⟨rfl,rfl,rfl,rfl,rfl,rfl,rfl⟩
theorem qpc (m:MT) (z:ZT):qx z (runT m z).2:=by
 have hr:qx z z:=qx.refl z;cases m with
 | enter=>exact ⟨rfl,rfl,rfl,rfl,rfl,rfl,rfl⟩
 | gate =>
   show qx z (if z.x.f.closed=true then qbq 3 z else (.at none .tick,z)).2
   split
   ·exact ⟨rfl,rfl,rfl,rfl,rfl,rfl,rfl⟩
   ·exact hr
 | tick=>exact qx.trans (y:=({ z with x:={ z.x with f:={ z.x.f with now:=z.x.f.now+1 } },k:={ z.k with now:=z.x.f.now+1 } }:ZT).note { ev0 with kind:=11,tick:=z.x.f.now+1 }) ⟨rfl,rfl,rfl,rfl,rfl,rfl,rfl⟩ (qdy 0 _)
 | shards1 i=>exact qdy _ z
 | one2 d=>exact qbd z _
 | one21 d =>
   dsimp only [runT]
   split
   ·exact hr
   ·exact hr
 | one211 d=>exact hr
 | one2112 d =>
   dsimp only [runT]
   split
   ·exact hr
   ·exact qfx d 0 z
 | one21121=>exact hr
 | pops1 n =>
   dsimp only [runT]
   split
   ·exact qx.trans (qbd z _) ⟨rfl,rfl,rfl,rfl,rfl,rfl,rfl⟩
   ·exact qx.trans (qbd z _) ⟨rfl,rfl,rfl,rfl,rfl,rfl,rfl⟩
 | pops11 n=>exact hr
 | rec1 =>
   dsimp only [runT]
   split <;> exact ⟨rfl,rfl,rfl,rfl,rfl,rfl,rfl⟩
 | rec11 =>
   dsimp only [runT]
   split <;> exact ⟨rfl,rfl,rfl,rfl,rfl,rfl,rfl⟩
 | fires1 d i=>exact qfx d _ z
 | looks =>
   dsimp only [runT]
   split <;> exact ⟨rfl,rfl,rfl,rfl,rfl,rfl,rfl⟩
 | claims =>
   dsimp only [runT]
   split <;> exact ⟨rfl,rfl,rfl,rfl,rfl,rfl,rfl⟩
 | claims2=>exact hr
 | behind =>
   dsimp only [runT]
   split
   ·exact ⟨rfl,rfl,rfl,rfl,rfl,rfl,rfl⟩
   ·split <;> exact ⟨rfl,rfl,rfl,rfl,rfl,rfl,rfl⟩
 | rearm1 next =>
   dsimp only [runT]
   split <;> exact ⟨rfl,rfl,rfl,rfl,rfl,rfl,rfl⟩
 | finishes =>
   dsimp only [runT]
   split
   ·split <;> exact ⟨rfl,rfl,rfl,rfl,rfl,rfl,rfl⟩
   ·exact ⟨rfl,rfl,rfl,rfl,rfl,rfl,rfl⟩
theorem qwh (s:ST) (z:ZT):qx z (Z9 s z).2:=St.keep qx.refl (fun _ _ _=>qx.trans) qpc qs6 s z
structure qlf (z z':ZS):Prop where
 cfg:z'.x.f.cfg=z.x.f.cfg
 busy:z'.x.f.busy=z.x.f.busy
 now:z'.x.f.now=z.x.f.now
 shs:z'.x.shs=z.x.shs
 p:{ z'.p with shut:=z.p.shut }=z.p
theorem qlf.trans {x y z:ZS} (a:qlf x y) (b:qlf y z):qlf x z :=
 ⟨b.cfg.trans a.cfg,b.busy.trans a.busy,b.now.trans a.now,b.shs.trans a.shs,by
   have h1:=a.p;have h2:=b.p
   rw [← h1,← h2]⟩
theorem qzv (s:SS) (z:ZS):qlf z (stepS s z).2:=by
 refine St.keep (R:=qlf) (runM:=Jq) (runA:=qbk) (fun z=>⟨rfl,rfl,rfl,rfl,rfl⟩) (fun _ _ _=>qlf.trans) (fun m z=>?_) (fun a z=>?_) s z
 ·cases m with
  | shuts=>dsimp only [Jq];split <;> exact ⟨rfl,rfl,rfl,rfl,rfl⟩
  | slots0=>exact ⟨rfl,rfl,rfl,rfl,rfl⟩
  | slots2 i=>exact ⟨rfl,rfl,rfl,rfl,rfl⟩
  | waits=>exact ⟨rfl,rfl,rfl,rfl,rfl⟩
  | looks1 i=>dsimp only [Jq];split <;> exact ⟨rfl,rfl,rfl,rfl,rfl⟩
  | leaves0 i=>dsimp only [Jq];split <;> exact ⟨rfl,rfl,rfl,rfl,rfl⟩
  | waits2=>exact ⟨rfl,rfl,rfl,rfl,rfl⟩
 ·cases a <;> exact ⟨rfl,rfl,rfl,rfl,rfl⟩
inductive Wk where
 | call (s:SC) (k:Q7)
 | turn (s:ST) (k:Xl)
 | clo (s:SS) (k:Ye)
def Wk.done:Wk→Bool
 | .call s _=>s.isNil
 | .turn s _=>s.isNil
 | .clo s _=>s.isNil
def Wk.may:Wk→ZF→Bool
 | .call s _,_=>!s.isNil
 | .turn s k,z=>qiz s ⟨k,z.x,z.ws,z.p⟩
 | .clo s k,z=>qlq s ⟨k,z.x,z.p⟩
def Wk.step:Wk→ZF→Wk × ZF
 | .call s k,z=>(.call (qbt s (k,z.x)).1 (qbt s (k,z.x)).2.1,{ z with x:=(qbt s (k,z.x)).2.2 })
 | .turn s k,z=>(.turn (Z9 s ⟨k,z.x,z.ws,z.p⟩).1 (Z9 s ⟨k,z.x,z.ws,z.p⟩).2.k,{ z with x:=(Z9 s ⟨k,z.x,z.ws,z.p⟩).2.x,ws:=(Z9 s ⟨k,z.x,z.ws,z.p⟩).2.ws,p:=(Z9 s ⟨k,z.x,z.ws,z.p⟩).2.p })
 | .clo s k,z=>(.clo (stepS s ⟨k,z.x,z.p⟩).1 (stepS s ⟨k,z.x,z.p⟩).2.k,{ z with x:=(stepS s ⟨k,z.x,z.p⟩).2.x,p:=(stepS s ⟨k,z.x,z.p⟩).2.p })
structure qi5 (N:Nat) (z:ZF):Prop where
 zn:ZN N z
 ws:q0a z.ws
 sh4:z.x.shs.length≤4
 room:z.p.room≤1000
theorem qi5.mono {N M:Nat} {z:ZF} (h:qi5 N z) (hm:N≤M):qi5 M z:=⟨h.zn.mono hm,h.ws,h.sh4,h.room⟩
structure CloN (N:Nat) (s:SS) (k:Ye):Prop where
 saw:0≤k.saw∧k.saw<18446744073709551616∧okW k.saw=true
 left:k.left.length≤N
 fit:q36 s k
structure q4p (N:Nat) (s:SC) (k:Q7) (x:Ql):Prop where
 wk:Z6 N k x
 fit:q1s s k
 gen:qck k
structure TurN (N:Nat) (s:ST) (k:Xl) (x:Ql):Prop where
 wk:ql5 N k x
 fit:q33 s k x
 th:k.th≤1000000
def qob (N:Nat):Wk→Ql→Prop
 | .call s k,x=>q4p N s k x
 | .turn s k,x=>TurN N s k x
 | .clo s k,_=>CloN N s k
theorem qob.mono {N M:Nat} {w:Wk} {x:Ql} (h:qob N w x) (hm:N≤M):qob M w x:=by
 cases w with
 | call s k=>exact ⟨Z6.mono h.wk hm,h.fit,h.gen⟩
 | turn s k=>exact ⟨ql5.mono h.wk hm,h.fit,h.th⟩
 | clo s k=>exact ⟨h.saw,by have:=h.left;omega,h.fit⟩
structure qwk (x x':Ql):Prop where
 recs:x'.slab.recs.length=x.slab.recs.length
 len:x'.shs.length=x.shs.length
def qet (x x':Ql):Prop:=∀ j,(x'.shs.getD j (Xe 1)).who=(x.shs.getD j (Xe 1)).who
theorem qph {x x':Ql} (hw:qet x x') (s:ST) (k:Xl) (i:Nat):qmo s k x' i=qmo s k x i:=by
 have ho:Own k x'=Own k x:=by unfold Own;rw [hw]
 unfold qmo;rw [ho]
theorem qp6 {x x':Ql} {s:ST} {k:Xl} (h:q33 s k x) (hth:k.th≤1000000) (hl:x'.shs.length=x.shs.length) (hw:qet x x'):q33 s k x':=by
 match s,h with
 | .nil,_=>trivial
 | .at none .enter,h=>exact .inr hth
 | .at none .gate,h=>exact .inr hth
 | .at none .tick,h=>exact h
 | .row2 .leave1 .answer,_=>trivial
 | .row1 .answer,_=>trivial
 | .thn X (.shards1 i),h =>
   obtain ⟨a,b,c,d⟩:=h;exact ⟨a,by rw [hl];exact b,c,by rw [qph hw];exact d⟩
def Wk.isTurn:Wk→Bool
 | .turn _ _=>true
 | _=>false
theorem qob.frame {N:Nat} {w:Wk} {x x':Ql} (h:qob N w x) (hk:qwk x x') (hw:w.isTurn=true→qet x x'∨w.done=true):qob N w x':=by
 cases w with
 | call s k =>
   have hwk:=h.wk;exact ⟨⟨hwk.c0,hwk.c1,hwk.id,hwk.slot,hwk.saw,fun q hq=>by rw [hk.recs];exact hwk.rq q hq,fun i t ht=>by rw [hk.len];exact hwk.tk i t ht⟩,h.fit,h.gen⟩
 | turn s k =>
   have hwk:=h.wk;refine ⟨⟨hwk.th,hwk.saw,hwk.t,hwk.dl,hwk.due,fun i hi=>by rw [hk.len];exact hwk.sh i hi⟩,?_,h.th⟩
   rcases hw rfl with hw | hd
   ·exact qp6 h.fit h.th hk.len hw
   ·have:s.isNil=true:=hd
    cases s with
    | nil=>trivial
    | _=>cases this
 | clo s k=>exact h
theorem qth {N:Nat} {w:Wk} {z:ZF} (hg:qi5 N z) (hj:qob N w z.x) (hm:w.may z=true) (hN:N<999999) :
 qi5 (N+1) (w.step z).2∧qob (N+1) (w.step z).1 (w.step z).2.x∧qwk z.x (w.step z).2.x∧(w.isTurn=false→qet z.x (w.step z).2.x)∧(w.step z).2.lg=z.lg:=by
 cases w with
 | call s k =>
   have hjc:JC N s (k,z.x):=⟨hg.zn.core,hj.wk,hj.fit⟩;obtain ⟨h1,h2,h3⟩:=hjc.step;obtain ⟨h4,h5⟩:=qvy hjc hj.gen;exact ⟨⟨⟨h1,h4.rest (hg.zn.rest.mono (by omega)),by have:=hg.zn.lg;show z.lg.length≤_;omega⟩,hg.ws,by show (qbt s (k,z.x)).2.2.shs.length≤4;rw [h4.len];exact hg.sh4,hg.room⟩,⟨h2,h3,h5⟩,⟨h4.recs,h4.len⟩,fun _=>h4.who,rfl⟩
 | turn s k =>
   have hjt:JT N s ⟨k,z.x,z.ws,z.p⟩:=⟨⟨hg.zn.core,hg.zn.rest,hj.wk,hg.ws,hg.sh4⟩,hj.fit⟩;obtain ⟨h1,h2⟩:=hjt.step hN hm;have h4:=qwh s ⟨k,z.x,z.ws,z.p⟩;refine ⟨⟨⟨h1.core,h1.rest,by have:=hg.zn.lg;show z.lg.length≤_;omega⟩,h1.ws,h1.sh4,by show (Z9 s ⟨k,z.x,z.ws,z.p⟩).2.p.room≤1000;rw [h4.room];exact hg.room⟩,⟨h1.k,h2,by show (Z9 s ⟨k,z.x,z.ws,z.p⟩).2.k.th≤_;rw [h4.th];exact hj.th⟩,⟨?_,h4.len⟩,(fun h=>by cases h),rfl⟩
   have a:=h1.rest.cap;have b:=hg.zn.rest.cap;rw [h4.cfg] at a
   show (Z9 s ⟨k,z.x,z.ws,z.p⟩).2.x.slab.recs.length=_
   have:(z.x.f.cfg.cap:Int)=(Z9 s ⟨k,z.x,z.ws,z.p⟩).2.x.slab.recs.length:=a;omega
 | clo s k =>
   have hjs:JS N s ⟨k,z.x,z.p⟩:=⟨⟨hg.zn.core,hg.zn.rest.cap,hg.zn.rest.busy,hj.saw,hj.left⟩,hj.fit⟩;obtain ⟨h1,h2⟩:=hjs.step;have h4:=qzv s ⟨k,z.x,z.p⟩;have hr:=hg.zn.rest
   have hp:(stepS s ⟨k,z.x,z.p⟩).2.p.ch=z.p.ch∧(stepS s ⟨k,z.x,z.p⟩).2.p.sp=z.p.sp∧(stepS s ⟨k,z.x,z.p⟩).2.p.room=z.p.room:=by
    have e1:=congrArg Qy.ch h4.p;have e2:=congrArg Qy.sp h4.p;have e3:=congrArg Qy.room h4.p;exact ⟨e1,e2,e3⟩
   have hsh:(stepS s ⟨k,z.x,z.p⟩).2.x.shs=z.x.shs:=h4.shs;have hnow:(stepS s ⟨k,z.x,z.p⟩).2.x.f.now=z.x.f.now:=h4.now;have hcap:(stepS s ⟨k,z.x,z.p⟩).2.x.f.cfg=z.x.f.cfg:=h4.cfg;refine ⟨⟨⟨h1.core,⟨?_,h1.busy,h1.cap,?_,fun w hw=>(hr.wok w hw).mono (by omega),?_,?_,?_,?_⟩,by have:=hg.zn.lg;show z.lg.length≤_;omega⟩,hg.ws,?_,?_⟩,⟨h1.saw,h1.left,h2⟩,⟨?_,?_⟩,fun _=>?_,rfl⟩
   ·show 0≤(stepS s ⟨k,z.x,z.p⟩).2.x.f.now∧(stepS s ⟨k,z.x,z.p⟩).2.x.f.now≤_
    have:=hr.now;rw [hnow];omega
   ·show z.ws.length=(stepS s ⟨k,z.x,z.p⟩).2.x.shs.length
    rw [hsh];exact hr.wl
   ·show ∀ a∈(stepS s ⟨k,z.x,z.p⟩).2.x.shs,_
    rw [hsh];exact hr.task
   ·show ∀ a∈(stepS s ⟨k,z.x,z.p⟩).2.x.shs,_
    rw [hsh];intro a ha;have:=hr.turns a ha;omega
   ·show (stepS s ⟨k,z.x,z.p⟩).2.p.ch.length≤(stepS s ⟨k,z.x,z.p⟩).2.p.room
    rw [hp.1,hp.2.2];exact hr.ch
   ·show (stepS s ⟨k,z.x,z.p⟩).2.p.sp.length≤_
    have:=hr.sp;rw [hp.2.1];omega
   ·show (stepS s ⟨k,z.x,z.p⟩).2.x.shs.length≤4
    rw [hsh];exact hg.sh4
   ·show (stepS s ⟨k,z.x,z.p⟩).2.p.room≤1000
    rw [hp.2.2];exact hg.room
   ·have a:=h1.cap
    have b:=hr.cap
    show (stepS s ⟨k,z.x,z.p⟩).2.x.slab.recs.length=_
    have a':(stepS s ⟨k,z.x,z.p⟩).2.x.f.cfg.cap=(stepS s ⟨k,z.x,z.p⟩).2.x.slab.recs.length:=a;rw [hcap] at a';omega
   ·show (stepS s ⟨k,z.x,z.p⟩).2.x.shs.length=_
    rw [hsh]
   ·intro j
    show ((stepS s ⟨k,z.x,z.p⟩).2.x.shs.getD j _).who=_
    rw [hsh]
def qb5 (L:Lay) (kb:Nat) (n:Int) (w:Wk) (g:List Blk):Prop:=match w with
 | .call s k=>Y9 L kb s n k g
 | .turn s k=>isTurn L kb s n k g
 | .clo s k=>qcd L kb s n k g
def Wk.ty:Wk→TypeId
 | .call _ _=>135
 | .turn _ _=>129
 | .clo _ _=>132
def Wk.fStep:Wk→FuncId
 | .call _ _=>341
 | .turn _ _=>329
 | .clo _ _=>336
def Wk.fMay:Wk→FuncId
 | .call _ _=>340
 | .turn _ _=>328
 | .clo _ _=>335
def Wk.fDone:Wk→FuncId
 | .call _ _=>339
 | .turn _ _=>327
 | .clo _ _=>334
def Wk.fAnswer:Wk→FuncId
 | .call _ _=>338
 | .turn _ _=>326
 | .clo _ _=>333
theorem Jf {P:Program} {f:FuncId} {args:Array Value} {g gA gB gZ:List Blk} {R:Ending→List Blk→List Blk→Prop} (hd:Qa P f args [g,gA] fun e gs=>∃ g' gA',R e g' gA'∧gs=[g',gA']) (hp:gZ.Perm (gA++gB)) :
 Qa P f args [g,gZ] fun e gs=>∃ g' gA',R e g' gA'∧gs=[g',gA'++gB]:=by
 intro w hw
 have h2:Jj ([g,gA]++[gB]) w:=hw.re (by
  classical
  refine List.perm_iff_count.2 fun b=>?_
  have:=(List.perm_iff_count.1 hp) b;simp only [List.flatten_append,List.flatten_cons,List.flatten_nil,List.append_nil,List.count_append] at this ⊢
  omega)
 refine (hd w h2.left).mono ?_
 rintro e w' ⟨gs,⟨g',gA',hR,rfl⟩,T⟩;refine ⟨_,⟨g',gA',hR,rfl⟩,((T.frame h2).re (H':=[g',gA'++gB]) ?_).basePerm ?_⟩
 ·classical
  refine List.perm_iff_count.2 fun b=>?_
  simp only [List.flatten_append,List.flatten_cons,List.flatten_nil,List.append_nil,List.count_append];omega
 ·classical
  refine List.perm_iff_count.2 fun b=>?_
  have:=(List.perm_iff_count.1 hp) b;simp only [List.flatten_append,List.flatten_cons,List.flatten_nil,List.append_nil,List.count_append] at this ⊢;omega
theorem X6 {L:Lay} {z:ZF} {g:List Blk} (h:isZ L z g):∃ gC gW gP gL,Qf L z.x gC∧Z4 L z.ws gW∧Xv L.p.pb z.p gP∧qgj L.p.lb z.lg gL∧g=(gC++(gW++gP))++gL:=by
 obtain ⟨gT,gL,⟨gC,gW,gP,h1,h2,h3,rfl⟩,h4,rfl⟩:=h;exact ⟨gC,gW,gP,gL,h1,h2,h3,h4,rfl⟩
theorem Y8 {L:Lay} {z:ZF} {gC gW gP gL:List Blk} (h1:Qf L z.x gC) (h2:Z4 L z.ws gW) (h3:Xv L.p.pb z.p gP) (h4:qgj L.p.lb z.lg gL):isZ L z ((gC++(gW++gP))++gL):=⟨_,gL,⟨gC,gW,gP,h1,h2,h3,rfl⟩,h4,rfl⟩
section
variable {L:Lay} {z:ZF} {w:Wk} {kb:Nat} {n:Int} {g gZ:List Blk} {N:Nat}
theorem q1m (hj:qb5 L kb n w g):Qe prog w.fDone #[Qb kb] [g] (.bool w.done):=by
 cases w with
 | call s k=>exact qir hj
 | turn s k=>exact qhr hj
 | clo s k=>exact ql3 hj
theorem permA (a b c:List Blk):(a++b++c).Perm (a++(b++c)):=by rw [List.append_assoc]
theorem qzd (a b c d:List Blk):((a++(b++c))++d).Perm ((a++c)++(b++d)):=by
 classical
 refine List.perm_iff_count.2 fun x=>?_
 simp only [List.count_append];omega
theorem q00 (x a b c d:List Blk):([x,(a++c)++(b++d)]:GH).flatten.Perm ([x,(a++(b++c))++d]:GH).flatten:=by
 classical
 refine List.perm_iff_count.2 fun x=>?_
 simp only [List.flatten_cons,List.flatten_nil,List.append_nil,List.count_append];omega
theorem q2t (hj:qb5 L kb n w g) (hz:isZ L z gZ) (hg:qi5 N z) (hw:qob N w z.x) (hN:N<999999) :
 Qa prog w.fMay #[Qb kb] [g,gZ] fun e gs=>∃ g' gZ',e=.returned (.bool (w.may z))∧qb5 L kb n w g'∧isZ L z gZ'∧gs=[g',gZ']:=by
 cases w with
 | call s k =>
   obtain ⟨gC,gW,gP,gL,h1,h2,h3,h4,rfl⟩:=X6 hz;refine (Jf (gB:=(gW++gP)++gL) (R:=fun e g' gA'=>e=.returned (.bool (!s.isNil))∧Y9 L kb s n k g'∧Qf L z.x gA') ((q09 hj h1).mono ?_) (permA _ _ _)).mono ?_
   ·rintro e gs ⟨rfl,g',gF',a,b,rfl⟩
    exact ⟨g',gF',⟨rfl,a,b⟩,rfl⟩
   ·rintro e gs ⟨g',gA',⟨rfl,a,b⟩,rfl⟩
    exact ⟨g',_,rfl,a,by rw [← List.append_assoc];exact Y8 b h2 h3 h4,rfl⟩
 | turn s k =>
   obtain ⟨gT,gL,h1,h2,rfl⟩:=hz;have hjt:JT N s ⟨k,z.x,z.ws,z.p⟩:=⟨⟨hg.zn.core,hg.zn.rest,hw.wk,hg.ws,hg.sh4⟩,hw.fit⟩;refine (Jf (gB:=gL) (R:=fun e g' gA'=>e=.returned (.bool (qiz s ⟨k,z.x,z.ws,z.p⟩))∧isTurn L kb s n k g'∧qpv L z.x z.ws z.p gA') ((qz7 hj h1 (hjt.preY (by omega))).mono ?_) (List.Perm.refl _)).mono ?_
   ·rintro e gs ⟨rfl,g',gF',a,b,rfl⟩
    exact ⟨g',gF',⟨rfl,a,b⟩,rfl⟩
   ·rintro e gs ⟨g',gA',⟨rfl,a,b⟩,rfl⟩
    exact ⟨g',_,rfl,a,⟨_,gL,b,h2,rfl⟩,rfl⟩
 | clo s k =>
   obtain ⟨gC,gW,gP,gL,h1,h2,h3,h4,rfl⟩:=X6 hz;have hjs:JS N s ⟨k,z.x,z.p⟩:=⟨⟨hg.zn.core,hg.zn.rest.cap,hg.zn.rest.busy,hw.saw,hw.left⟩,hw.fit⟩;refine (Jf (gB:=gW++gL) (R:=fun e g' gA'=>e=.returned (.bool (qlq s ⟨k,z.x,z.p⟩))∧qcd L kb s n k g'∧qrz L z.x z.p gA') ((q3e hj ⟨gC,gP,h1,h3,rfl⟩ (hjs.b.ok (by omega))).mono ?_) (qzd _ _ _ _)).post ?_
   ·rintro e gs ⟨rfl,g',gF',a,b,rfl⟩
    exact ⟨g',gF',⟨rfl,a,b⟩,rfl⟩
   ·rintro e gs ⟨g',gA',⟨rfl,a,⟨gC',gP',b1,b2,rfl⟩⟩,rfl⟩
    exact ⟨_,⟨g',_,rfl,a,Y8 b1 h2 b2 h4,rfl⟩,q00 _ _ _ _ _⟩
theorem qzu (hj:qb5 L kb n w g) (hz:isZ L z gZ) (hg:qi5 N z) (hw:qob N w z.x) (hN:N<999999) (hm:w.may z=true) (hn:0≤n∧n≤1000000000) :
 Qa prog w.fStep #[Qb kb] [g,gZ] fun e gs=>∃ g' gZ',e=.returned (.bool true)∧qb5 L kb (n+1) (w.step z).1 g'∧isZ L (w.step z).2 gZ'∧gs=[g',gZ']:=by
 cases w with
 | call s k =>
   obtain ⟨gC,gW,gP,gL,h1,h2,h3,h4,rfl⟩:=X6 hz;have hjc:JC N s (k,z.x):=⟨hg.zn.core,hw.wk,hw.fit⟩
   have hs:s.isNil=false:=by
    have:(!s.isNil)=true:=hm;cases h:s.isNil
    ·rfl
    ·rw [h] at this;cases this
   refine (Jf (gB:=(gW++gP)++gL) (R:=fun e g' gA'=>e=.returned (.bool true)∧Y9 L kb (qbt s (k,z.x)).1 (n+1) (qbt s (k,z.x)).2.1 g'∧Qf L (qbt s (k,z.x)).2.2 gA') ((qwn hj h1 (hjc.pre (by omega)) hs hn).mono ?_) (permA _ _ _)).mono ?_
   ·rintro e gs ⟨g',gF',rfl,a,b,rfl⟩
    exact ⟨g',gF',⟨rfl,a,b⟩,rfl⟩
   ·rintro e gs ⟨g',gA',⟨rfl,a,b⟩,rfl⟩
    exact ⟨g',_,rfl,a,by rw [← List.append_assoc];exact Y8 (z:={ z with x:=(qbt s (k,z.x)).2.2 }) b h2 h3 h4,rfl⟩
 | turn s k =>
   obtain ⟨gT,gL,h1,h2,rfl⟩:=hz;have hjt:JT N s ⟨k,z.x,z.ws,z.p⟩:=⟨⟨hg.zn.core,hg.zn.rest,hw.wk,hg.ws,hg.sh4⟩,hw.fit⟩;refine (Jf (gB:=gL) (R:=fun e g' gA'=>e=.returned (.bool true)∧isTurn L kb (Z9 s ⟨k,z.x,z.ws,z.p⟩).1 (n+1) (Z9 s ⟨k,z.x,z.ws,z.p⟩).2.k g'∧qpv L (Z9 s ⟨k,z.x,z.ws,z.p⟩).2.x (Z9 s ⟨k,z.x,z.ws,z.p⟩).2.ws (Z9 s ⟨k,z.x,z.ws,z.p⟩).2.p gA') ((qwq hj h1 (hjt.preY (by omega)) hm (hjt.pre (by omega) hm) hn).mono ?_) (List.Perm.refl _)).mono ?_
   ·rintro e gs ⟨g',gF',rfl,a,b,rfl⟩
    exact ⟨g',gF',⟨rfl,a,b⟩,rfl⟩
   ·rintro e gs ⟨g',gA',⟨rfl,a,b⟩,rfl⟩
    exact ⟨g',_,rfl,a,⟨_,gL,b,h2,rfl⟩,rfl⟩
 | clo s k =>
   obtain ⟨gC,gW,gP,gL,h1,h2,h3,h4,rfl⟩:=X6 hz;have hjs:JS N s ⟨k,z.x,z.p⟩:=⟨⟨hg.zn.core,hg.zn.rest.cap,hg.zn.rest.busy,hw.saw,hw.left⟩,hw.fit⟩;refine (Jf (gB:=gW++gL) (R:=fun e g' gA'=>e=.returned (.bool true)∧qcd L kb (stepS s ⟨k,z.x,z.p⟩).1 (n+1) (stepS s ⟨k,z.x,z.p⟩).2.k g'∧qrz L (stepS s ⟨k,z.x,z.p⟩).2.x (stepS s ⟨k,z.x,z.p⟩).2.p gA') ((q0x hj ⟨gC,gP,h1,h3,rfl⟩ (hjs.b.ok (by omega)) hm (hjs.pre (by omega)) hn).mono ?_) (qzd _ _ _ _)).post ?_
   ·rintro e gs ⟨g',gF',rfl,a,b,rfl⟩
    exact ⟨g',gF',⟨rfl,a,b⟩,rfl⟩
   ·rintro e gs ⟨g',gA',⟨rfl,a,⟨gC',gP',b1,b2,rfl⟩⟩,rfl⟩
    exact ⟨_,⟨g',_,rfl,a,Y8 (z:={ z with x:=(stepS s ⟨k,z.x,z.p⟩).2.x,p:=(stepS s ⟨k,z.x,z.p⟩).2.p }) b1 h2 b2 h4,rfl⟩,q00 _ _ _ _ _⟩
theorem q38 (hj:qb5 L kb n w g) (hz:isZ L z gZ) (hg:qi5 N z) (hw:qob N w z.x) (hN:N<999999) (hm:w.may z=false) :
 Qa prog w.fStep #[Qb kb] [g,gZ] fun e gs=>∃ g' gZ',e=.returned (.bool false)∧qb5 L kb n w g'∧isZ L z gZ'∧gs=[g',gZ']:=by
 cases w with
 | call s k =>
   obtain ⟨gC,gW,gP,gL,h1,h2,h3,h4,rfl⟩:=X6 hz
   obtain rfl:s=.nil:=by
    have:(!s.isNil)=false:=hm;cases s with
    | nil=>rfl
    | _=>cases this
   refine (Jf (gB:=(gW++gP)++gL) (R:=fun e g' gA'=>e=.returned (.bool false)∧Y9 L kb .nil n k g'∧Qf L z.x gA') ((qkk hj h1).mono ?_) (permA _ _ _)).mono ?_
   ·rintro e gs ⟨rfl,g',gF',a,b,rfl⟩
    exact ⟨g',gF',⟨rfl,a,b⟩,rfl⟩
   ·rintro e gs ⟨g',gA',⟨rfl,a,b⟩,rfl⟩
    exact ⟨g',_,rfl,a,by rw [← List.append_assoc];exact Y8 b h2 h3 h4,rfl⟩
 | turn s k =>
   obtain ⟨gT,gL,h1,h2,rfl⟩:=hz;have hjt:JT N s ⟨k,z.x,z.ws,z.p⟩:=⟨⟨hg.zn.core,hg.zn.rest,hw.wk,hg.ws,hg.sh4⟩,hw.fit⟩;refine (Jf (gB:=gL) (R:=fun e g' gA'=>e=.returned (.bool false)∧isTurn L kb s n k g'∧qpv L z.x z.ws z.p gA') ((q13 hj h1 (hjt.preY (by omega)) hm).mono ?_) (List.Perm.refl _)).mono ?_
   ·rintro e gs ⟨rfl,g',gF',a,b,rfl⟩
    exact ⟨g',gF',⟨rfl,a,b⟩,rfl⟩
   ·rintro e gs ⟨g',gA',⟨rfl,a,b⟩,rfl⟩
    exact ⟨g',_,rfl,a,⟨_,gL,b,h2,rfl⟩,rfl⟩
 | clo s k =>
   obtain ⟨gC,gW,gP,gL,h1,h2,h3,h4,rfl⟩:=X6 hz;have hjs:JS N s ⟨k,z.x,z.p⟩:=⟨⟨hg.zn.core,hg.zn.rest.cap,hg.zn.rest.busy,hw.saw,hw.left⟩,hw.fit⟩;refine (Jf (gB:=gW++gL) (R:=fun e g' gA'=>e=.returned (.bool false)∧qcd L kb s n k g'∧qrz L z.x z.p gA') ((q4b hj ⟨gC,gP,h1,h3,rfl⟩ (hjs.b.ok (by omega)) hm).mono ?_) (qzd _ _ _ _)).post ?_
   ·rintro e gs ⟨rfl,g',gF',a,b,rfl⟩
    exact ⟨g',gF',⟨rfl,a,b⟩,rfl⟩
   ·rintro e gs ⟨g',gA',⟨rfl,a,⟨gC',gP',b1,b2,rfl⟩⟩,rfl⟩
    exact ⟨_,⟨g',_,rfl,a,Y8 b1 h2 b2 h4,rfl⟩,q00 _ _ _ _ _⟩
end
structure qs4 where
 err:Int
 ok:Bool
 id:Int
 gen:Int
 left:List Int
 code:Int
def qs4.cells (a:qs4) (v:Value):Array Value:=#[.int .i64 a.err,.bool a.ok,.int .u64 a.id,.int .u64 a.gen,v]
def Wk.ans:Wk→qs4
 | .call s k=>if s.isNil then ⟨k.err,k.ok,k.aid,k.agen,[],0⟩ else ⟨0,false,0,0,[],10⟩
 | .turn s k=>if s.isNil then ⟨k.err,k.ok,0,0,[],0⟩ else ⟨0,false,0,0,[],10⟩
 | .clo s k=>if s.isNil then ⟨k.err,k.ok,0,0,k.told,0⟩ else ⟨0,false,0,0,[],10⟩
section
variable {L:Lay} {z:ZF} {w:Wk} {kb:Nat} {n:Int} {g gZ:List Blk} {N:Nat}
theorem qft {f:FuncId} {a:Array Value} {c:Int} (hd:Qa prog f #[Qb kb] [g] fun e gs=>e=.returned (.tuple #[.agg a,.int .i64 c])∧gs=[g]) (A:qs4) (h1:A.cells (.slice none 0 0)=a) (h2:A.left=[]) (h3:A.code=c) :
 Qa prog f #[Qb kb] [g] fun e gs=>∃ v gv,e=.returned (.tuple #[.agg (A.cells v),.int .i64 A.code])∧Qr 30 1 v A.left.length (qgf A.left) gv∧gs=[g,gv]:=by
 subst h1 h3;refine hd.post ?_
 rintro e gs ⟨rfl,rfl⟩;exact ⟨[g,[]],⟨.slice none 0 0,[],rfl,by rw [h2];exact Xp _ _,rfl⟩,by simp⟩
theorem qsy (hj:qb5 L kb n w g) (hw:qob N w z.x) (hN:N<999999):Qa prog w.fAnswer #[Qb kb] [g] fun e gs =>
 ∃ v gv,e=.returned (.tuple #[.agg (w.ans.cells v),.int .i64 w.ans.code])∧Qr 30 1 v w.ans.left.length (qgf w.ans.left) gv∧gs=[g,gv]:=by
 cases w with
 | call s k =>
   cases hs:s.isNil with
   | true =>
     rw [show (Wk.call s k).ans=⟨k.err,k.ok,k.aid,k.agen,[],0⟩ from if_pos hs];exact qft (qrq hj hs) _ rfl rfl rfl
   | false =>
     rw [show (Wk.call s k).ans=⟨0,false,0,0,[],10⟩ from if_neg (by rw [hs];decide)];exact qft (qvk hj hs) _ rfl rfl rfl
 | turn s k =>
   cases hs:s.isNil with
   | true =>
     rw [show (Wk.turn s k).ans=⟨k.err,k.ok,0,0,[],0⟩ from if_pos hs];exact qft (qrp hj hs) _ rfl rfl rfl
   | false =>
     rw [show (Wk.turn s k).ans=⟨0,false,0,0,[],10⟩ from if_neg (by rw [hs];decide)];exact qft (qw7 hj hs) _ rfl rfl rfl
 | clo s k =>
   cases hs:s.isNil with
   | true =>
     have hl:k.left.length≤N:=hw.left;rw [show (Wk.clo s k).ans=⟨k.err,k.ok,0,0,k.told,0⟩ from if_pos hs];exact qsj hj hs (by omega)
   | false =>
     rw [show (Wk.clo s k).ans=⟨0,false,0,0,[],10⟩ from if_neg (by rw [hs];decide)];exact qft (qzz hj hs) _ rfl rfl rfl
structure qbg (N:Nat) (c:WkN):Prop where
 fit:(c.s=qm∧c.k.holds=[])∨(c.s=.thn (.row1 .puts) .takes∧c.k.holds.length=1)
 worked:0≤c.k.worked∧c.k.worked≤N
 n:0≤c.n∧c.n≤N
theorem qbg.mono {N M:Nat} {c:WkN} (h:qbg N c) (hm:N≤M):qbg M c:=⟨h.fit,by have:=h.worked;omega,by have:=h.n;omega⟩
theorem qbg.new {c:WkN} (h:qg0 c):qbg 0 c:=by
 obtain ⟨a,b,d⟩:=h;exact ⟨.inl ⟨a,by rw [d];rfl⟩,by rw [d];exact ⟨Int.le_refl _,Int.le_refl _⟩,by rw [b];exact ⟨Int.le_refl _,Int.le_refl _⟩⟩
def WkN.zw (c:WkN) (z:ZF):ZW:=⟨c.k,z.x,z.p,z.lg⟩
def WkN.may (c:WkN) (z:ZF):Bool:=qp1 c.s (c.zw z)
def WkN.step (c:WkN) (z:ZF):WkN × ZF :=
 (⟨c.wb,(qbp c.s (c.zw z)).1,c.n+1,(qbp c.s (c.zw z)).2.k⟩,⟨(qbp c.s (c.zw z)).2.x,z.ws,(qbp c.s (c.zw z)).2.p,(qbp c.s (c.zw z)).2.lg⟩)
theorem qbg.ok {c:WkN} (h:qbg N c) (hg:qi5 N z) (hN:N<999999):qm3 (c.zw z):=by
 have hr:=hg.zn.rest;have hl:=hg.zn.lg;have hw:=h.worked
 have hh:c.k.holds.length≤1:=by
  rcases h.fit with ⟨_,h⟩ | ⟨_,h⟩
  ·rw [h];exact Nat.zero_le _
  ·omega
 exact ⟨by have:=hr.busy;show 0≤z.x.f.busy∧z.x.f.busy≤_;omega,⟨hr.ch,by have:=hr.sp;show z.p.sp.length≤_;omega⟩,by have:=hg.room;show z.p.room≤_;omega,by show c.k.holds.length≤_;omega,by show z.lg.length≤_;omega,by show 0≤c.k.worked∧c.k.worked≤_;omega⟩
theorem qbg.preY {c:WkN} (h:qbg N c) (hg:qi5 N z) (hN:N<999999):qnn c.s (c.zw z):=by
 have ho:=h.ok hg hN;rcases h.fit with ⟨h1,_⟩ | ⟨h1,_⟩
 ·rw [h1];exact ho
 ·rw [h1];trivial
theorem q1n {p:Qy} (h:p.ch.length≤p.room):p.take.1.ch.length≤p.take.1.room∧p.take.1.room=p.room∧p.take.1.sp.length≤p.sp.length∧p.take.1.shut=p.shut:=by
 unfold Qy.take;split
 ·next h1=>exact ⟨h,rfl,Nat.le_refl _,rfl⟩
 ·next f l h1 h2 =>
  rw [h1] at h;simp only [List.length_cons] at h;refine ⟨?_,rfl,by rw [h2];simp,rfl⟩
  show l.length≤p.room
  omega
 ·next f l x sp h1 h2 =>
  rw [h1] at h;simp only [List.length_cons] at h;refine ⟨?_,rfl,by rw [h2];simp,rfl⟩
  show (l++[x]).length≤p.room
  rw [List.length_append];simpa using h
theorem qgy {c:WkN} (h:qbg N c) (hg:qi5 N z) (hN:N<999998) :
 q29 c.s (c.zw z)∧qbg (N+1) (c.step z).1∧qi5 (N+1) (c.step z).2∧qwk z.x (c.step z).2.x∧qet z.x (c.step z).2.x:=by
 have ho:=h.ok hg (by omega);have hr:=hg.zn.rest;have hl:=hg.zn.lg;obtain ⟨wb,s,n,k⟩:=c;have hw:=h.worked;have hn:=h.n;simp only at hw hn;rcases h.fit with ⟨h1,h2⟩ | ⟨h1,h2⟩
 ·obtain rfl:s=qm:=h1
  have h2:k.holds=[]:=h2;obtain ⟨t1,t2,t3,t4⟩:=q1n hr.ch;refine ⟨ho,⟨.inr ⟨rfl,?_⟩,?_,?_⟩,⟨⟨⟨hg.zn.core.slab,hg.zn.core.i0,by have:=hg.zn.core.i1;show z.x.f.inside≤_;omega,by have:=hg.zn.core.tr;show z.x.tr.length≤_;omega,hg.zn.core.sh,(hg.zn.core.mono (M:=N+1) (by omega)).ring⟩,⟨by have:=hr.now;show 0≤z.x.f.now∧z.x.f.now≤_;omega,?_,hr.cap,hr.wl,fun w hw=>(hr.wok w hw).mono (by omega),hr.task,fun s hs=>by have:=hr.turns s hs;omega,t1,?_⟩,?_⟩,hg.ws,hg.sh4,?_⟩,⟨rfl,rfl⟩,fun _=>rfl⟩
  ·show (k.holds++[_]).length=1
   rw [h2];rfl
  ·show 0≤k.worked∧k.worked≤_;omega
  ·show 0≤n+1∧n+1≤_;omega
  ·have:=hr.busy
   show 0≤z.x.f.busy+1∧z.x.f.busy+1≤_;omega
  ·have:=hr.sp
   show z.p.take.1.sp.length≤_;omega
  ·show z.lg.length≤_;omega
  ·show z.p.take.1.room≤_
   rw [t2];exact hg.room
 ·obtain rfl:s=.thn (.row1 .puts) .takes:=h1
  have h2:k.holds.length=1:=h2;have hb:0≤Ja z.x.f.busy∧Ja z.x.f.busy≤N:=by have:=hr.busy;unfold Ja;split <;> omega
  refine ⟨⟨⟨ho,by show 0<k.holds.length;omega⟩,fun _=>?_⟩,⟨.inl ⟨rfl,rfl⟩,?_,?_⟩,⟨⟨⟨hg.zn.core.slab,hg.zn.core.i0,by have:=hg.zn.core.i1;show z.x.f.inside≤_;omega,by have:=hg.zn.core.tr;show z.x.tr.length≤_;omega,hg.zn.core.sh,(hg.zn.core.mono (M:=N+1) (by omega)).ring⟩,⟨by have:=hr.now;show 0≤z.x.f.now∧z.x.f.now≤_;omega,?_,hr.cap,hr.wl,fun w hw=>(hr.wok w hw).mono (by omega),hr.task,fun s hs=>by have:=hr.turns s hs;omega,hr.ch,?_⟩,?_⟩,hg.ws,hg.sh4,hg.room⟩,⟨rfl,rfl⟩,fun _=>rfl⟩
  ·exact ⟨by show 0≤Ja z.x.f.busy∧Ja z.x.f.busy≤_;omega,ho.pipe,ho.room,by show ([]:List Xa).length≤_;simp,by show (z.lg++k.holds).length≤_;rw [List.length_append];omega,by show 0≤k.worked+1∧k.worked+1≤_;omega⟩
  ·show 0≤k.worked+1∧k.worked+1≤_;omega
  ·show 0≤n+1∧n+1≤_;omega
  ·show 0≤Ja z.x.f.busy∧Ja z.x.f.busy≤_;omega
  ·have:=hr.sp
   show z.p.sp.length≤_;omega
  ·show (z.lg++k.holds).length≤_
   rw [List.length_append];omega
def qwf (L:Lay) (c:WkN) (g:List Blk):Prop:=qew L c.wb c.s c.n c.k g
theorem q0e (a b c d:List Blk):((a++(b++c))++d).Perm ((a++(c++d))++b):=by
 classical
 refine List.perm_iff_count.2 fun x=>?_
 simp only [List.count_append];omega
theorem q0n (x a b c d:List Blk):([x,(a++(c++d))++b]:GH).flatten.Perm ([x,(a++(b++c))++d]:GH).flatten:=by
 classical
 refine List.perm_iff_count.2 fun x=>?_
 simp only [List.flatten_cons,List.flatten_nil,List.append_nil,List.count_append];omega
theorem qzt {c:WkN} (hc:qwf L c g) (hz:isZ L z gZ) (hg:qi5 N z) (hw:qbg N c) (hN:N<999998) :
 Qa prog 342 #[Qb c.wb] [g,gZ] fun e gs=>∃ g' gZ',e=.returned (.bool (c.may z))∧qwf L c g'∧isZ L z gZ'∧gs=[g',gZ']:=by
 obtain ⟨gC,gW,gP,gL,h1,h2,h3,h4,rfl⟩:=X6 hz;refine (Jf (gB:=gW) (R:=fun e g' gA'=>e=.returned (.bool (c.may z))∧qwf L c g'∧qvj L z.x z.p z.lg gA') ((q21 hc ⟨gC,gP,gL,h1,h3,h4,rfl⟩ (hw.preY hg (by omega))).mono ?_) (q0e _ _ _ _)).post ?_
 ·rintro e gs ⟨rfl,g',gF',a,b,rfl⟩
  exact ⟨g',gF',⟨rfl,a,b⟩,rfl⟩
 ·rintro e gs ⟨g',gA',⟨rfl,a,⟨gC',gP',gL',b1,b2,b3,rfl⟩⟩,rfl⟩
  exact ⟨_,⟨g',_,rfl,a,Y8 b1 h2 b2 b3,rfl⟩,q0n _ _ _ _ _⟩
theorem qww {c:WkN} (hc:qwf L c g) (hz:isZ L z gZ) (hg:qi5 N z) (hw:qbg N c) (hN:N<999998) (hm:c.may z=true) :
 Qa prog 343 #[Qb c.wb] [g,gZ] fun e gs=>∃ g' gZ',e=.returned (.bool true)∧qwf L (c.step z).1 g'∧isZ L (c.step z).2 gZ'∧gs=[g',gZ']:=by
 obtain ⟨gC,gW,gP,gL,h1,h2,h3,h4,rfl⟩:=X6 hz;have hn:=hw.n;refine (Jf (gB:=gW) (R:=fun e g' gA'=>e=.returned (.bool true)∧qwf L (c.step z).1 g'∧qvj L (c.step z).2.x (c.step z).2.p (c.step z).2.lg gA') ((qz1 hc ⟨gC,gP,gL,h1,h3,h4,rfl⟩ (hw.preY hg (by omega)) hm (qgy hw hg hN).1 (by omega)).mono ?_) (q0e _ _ _ _)).post ?_
 ·rintro e gs ⟨g',gF',rfl,a,b,rfl⟩
  exact ⟨g',gF',⟨rfl,a,b⟩,rfl⟩
 ·rintro e gs ⟨g',gA',⟨rfl,a,⟨gC',gP',gL',b1,b2,b3,rfl⟩⟩,rfl⟩
  exact ⟨_,⟨g',_,rfl,a,Y8 (z:=(c.step z).2) b1 h2 b2 b3,rfl⟩,q0n _ _ _ _ _⟩
theorem q27 {c:WkN} (hc:qwf L c g) (hz:isZ L z gZ) (hg:qi5 N z) (hw:qbg N c) (hN:N<999998) (hm:c.may z=false) :
 Qa prog 343 #[Qb c.wb] [g,gZ] fun e gs=>∃ g' gZ',e=.returned (.bool false)∧qwf L c g'∧isZ L z gZ'∧gs=[g',gZ']:=by
 obtain ⟨gC,gW,gP,gL,h1,h2,h3,h4,rfl⟩:=X6 hz;refine (Jf (gB:=gW) (R:=fun e g' gA'=>e=.returned (.bool false)∧qwf L c g'∧qvj L z.x z.p z.lg gA') ((q47 hc ⟨gC,gP,gL,h1,h3,h4,rfl⟩ (hw.preY hg (by omega)) hm).mono ?_) (q0e _ _ _ _)).post ?_
 ·rintro e gs ⟨rfl,g',gF',a,b,rfl⟩
  exact ⟨g',gF',⟨rfl,a,b⟩,rfl⟩
 ·rintro e gs ⟨g',gA',⟨rfl,a,⟨gC',gP',gL',b1,b2,b3,rfl⟩⟩,rfl⟩
  exact ⟨_,⟨g',_,rfl,a,Y8 b1 h2 b2 b3,rfl⟩,q0n _ _ _ _ _⟩
end
end
section
open Go.RowKit Go.Shelf
attribute [local go_sem] Oper.semAt_some
def ifO:Option (Wk × Nat)→Value
 | none=>.nilIface
 | some (w,b)=>.iface w.ty (Qb b)
def Zh:Nat→List (Option (Wk × Nat))→List (Array Value)
 | _,[]=>[]
 | a,none::l=>Zh (a+1) l
 | a,some o::l=>#[.int .i64 a,ifO (some o)]::Zh (a+1) l
def qb8:Nat→List Nat→List (Array Value)
 | _,[]=>[]
 | a,p::l=>#[.int .i64 a,.iface 139 (Qb p)]::qb8 (a+1) l
theorem za:∀ (l l':List (Option (Wk × Nat))) (a:Nat),Zh a (l++l')=Zh a l++Zh (a+l.length) l'
 | [],l',a=>rfl
 | none::l,l',a=>by
   show Zh (a+1) (l++l')=Zh (a+1) l++_
   rw [za l l' (a+1),List.length_cons,show a+1+l.length=a+(l.length+1) by omega]
 | some o::l,l',a=>by
   show _::Zh (a+1) (l++l')=_::Zh (a+1) l++_
   rw [za l l' (a+1),List.length_cons,show a+1+l.length=a+(l.length+1) by omega];rfl
theorem qgs:∀ (l:List Nat) (a:Nat),(qb8 a l).length=l.length
 | [],_=>rfl
 | p::l,a=>by
   show (qb8 (a+1) l).length+1=_
   rw [qgs l];rfl
theorem qjy:∀ (l:List Nat) (a i p:Nat),l[i]?=some p→(qb8 a l)[i]?=some #[.int .i64 (a+i:Nat),.iface 139 (Qb p)]
 | [],_,_,_,h=>by cases h
 | q::l,a,0,p,h=>by cases h;rfl
 | q::l,a,i+1,p,h=>by
   have:=qjy l (a+1) i p h;rw [show a+1+i=a+(i+1) by omega] at this;exact this
def qpe (os:List (Option (Wk × Nat))) (i:Nat):Nat:=(Zh 0 (os.take i)).length
theorem qsn {os:List (Option (Wk × Nat))} {i:Nat} (h:os[i]?=some none):qpe os (i+1)=qpe os i:=by
 obtain ⟨h1,h2⟩:=List.getElem?_eq_some_iff.1 h;unfold qpe;rw [List.take_succ_eq_append_getElem h1,h2,za]
 show (Zh 0 (os.take i)++[]).length=_
 rw [List.append_nil]
theorem qt7 {os:List (Option (Wk × Nat))} {i:Nat} {o:Wk × Nat} (h:os[i]?=some (some o)):qpe os (i+1)=qpe os i+1∧∀ l,(Zh 0 os++l)[qpe os i]?=some #[.int .i64 i,ifO (some o)]:=by
 obtain ⟨h1,h2⟩:=List.getElem?_eq_some_iff.1 h;have hl:(os.take i).length=i:=by rw [List.length_take];omega
 refine ⟨?_,fun l=>?_⟩
 ·unfold qpe
  rw [List.take_succ_eq_append_getElem h1,h2,za,List.length_append];rfl
 ·have e:os=os.take i++some o::os.drop (i+1):=by
   rw [← h2,← List.drop_eq_getElem_cons h1,List.take_append_drop]
  have e2:Zh 0 os=Zh 0 (os.take i)++(#[.int .i64 i,ifO (some o)]::Zh (i+1) (os.drop (i+1))):=by
   have h3:Zh 0 os=Zh 0 (os.take i++some o::os.drop (i+1)):=congrArg _ e;rw [za,hl,Nat.zero_add] at h3;exact h3
  rw [e2,List.append_assoc];unfold qpe;rw [List.getElem?_append_right (Nat.le_refl _),Nat.sub_self];rfl
theorem qwm (os:List (Option (Wk × Nat))):qpe os os.length=(Zh 0 os).length:=by unfold qpe;rw [List.take_length]
def itTh (xs:List (Array Value)) (R:GH→Prop) (O:GH):ItS where
 σ:=Nat
 O _ O':=O'=O
 T _ H:=R H
 step k x G k':=xs[k]?=some x∧G=[]∧k'=k+1
 fin k:=k=xs.length
theorem qa5 (W:World):(binOp .neq 88 .nilIface .nilIface).run prog W=.ok (.bool false) W:=by kernel_rfl
theorem qdm (w:Wk) (b:Nat) (W:World):(binOp .neq 88 (.iface w.ty (Qb b)) .nilIface).run prog W=.ok (.bool true) W:=by cases w <;> kernel_rfl
def qsu (sb:Nat) (hd go gc:List Blk) (H:GH):Prop:=∃ i j k,H.getD i []=hd∧H.getD j []=go∧H.getD k []=gc∧i<H.length∧j<H.length∧k<H.length
def Q2 (sb fb:Nat) (vo va vc:Value):List Blk:=[cl sb 86 #[Qb fb,vo,va,vc]]
theorem qn1 {α:Type} {H K:List α} {i:Nat} {d:α} (hi:i<H.length):(H++K).getD i d=H.getD i d:=by
 rw [List.getD_eq_getElem?_getD,List.getElem?_append_left hi,← List.getD_eq_getElem?_getD]
theorem Jv {v:Value} {gr:List Blk} {n:Nat} {t:TypeId} {xs:List Value} (hr:Qr t 1 v n xs gr) {h H:GH} {w w':World} (T:TG h w H w') (i:Nat) (hg:H.getD i []=gr) (hi:i<H.length) {k:Nat} {x:Value} (hk:xs[k]?=some x) :
 ∃ b cap,v=.slice (some ⟨b,0,none⟩) n cap∧w'.cell? ⟨b,k,none⟩=some x:=by
 have hlen:xs.length=n:=by
  have:=hr.1;omega
 have hkl:=(List.getElem?_eq_some_iff.1 hk).1;obtain ⟨b,cap,cur,hv,hgr,_,_,_,hcur⟩:=hr.open (by omega);refine ⟨b,cap,hv,?_⟩
 have:=T.cell i 0 (b:=b) (T:=t) (C:=cur) (by rw [hg,hgr];rfl) k;rw [this,hcur k (by omega),hk]
theorem qk4 (bx sb fb:Nat) {os:List (Option (Wk × Nat))} {ps:List Nat} {vo va vc:Value} {go gc:List Blk} (hro:Qr 88 1 vo os.length (os.map ifO) go) (hrc:Qr 139 1 vc ps.length (ps.map Qb) gc) (hn:os.length≤1000) (hm:ps.length≤1000) :
 qeu prog 67 #[Qb bx] (itTh (Zh 0 os++qb8 os.length ps) (qsu sb (Q2 sb fb vo va vc) go gc) [[cl bx 25 #[Qb sb]]]) (0:Nat):=by
 intro ly J Jx hT hY H0 O0 W hJ0 hO hH;have hO':O0=[[cl bx 25 #[Qb sb]]]:=hO;subst hO';have T0:=TG.refl hH;have c0:=(TG.refl hH.right).cell 0 0 rfl 0;simp only [GE2] at c0;obtain ⟨a0,a1,a2,b0,b1,b2,l0,l1,l2⟩:=hT (0:Nat) H0 hJ0;obtain ⟨avo,capo,rfl⟩:=Qr.val hro;obtain ⟨avc,capc,rfl⟩:=Qr.val hrc
 have HEAD:∀ (H:GH) (w':World),qsu sb (Q2 sb fb (.slice avo os.length capo) va (.slice avc ps.length capc)) go gc H→Jj H w'→w'.cell? ⟨sb,1,none⟩=some (.slice avo os.length capo)∧w'.cell? ⟨sb,3,none⟩=some (.slice avc ps.length capc):=by
  rintro H w' ⟨i,j,k,h1,_,_,h4,_,_⟩ hh;exact ⟨(TG.refl hh).cell i 0 (b:=sb) (by rw [h1];rfl) 1,(TG.refl hh).cell i 0 (b:=sb) (by rw [h1];rfl) 3⟩
 obtain ⟨hd1,hd3⟩:=HEAD H0 W (hT (0:Nat) H0 hJ0) hH.left;have HHD:=Vh HEAD;have HRO:=Vh hro;have HRC:=Vh hrc;have HJ:=Vh hJ0;have HT0:=Vh T0;have HTT:=Vh hT;have HY:=Vh hY;clear hO hH hY hT hJ0 T0 b0 b1 b2 l0 l1 l2 hro hrc HEAD;refine (callsIn_wide (n:=9)).1 (callsIn_of_wp func67 rfl trivial ?_ rfl)
 simp only [ntmps67,List.size_toArray,List.length_cons,List.length_nil,Nat.reduceAdd,Nat.reduceSub,Array.replicate_succ,Array.replicate_zero,List.push_toArray,List.append_toArray,List.nil_append,List.cons_append];gi_wp2
 clear hd1 hd3
 gi_loopw [14] (fun i wr=>∃ (k:Nat) (H:GH),k≤os.length∧i=.int .i64 k∧J (qpe os k) H∧TG (H0++[[cl bx 25 #[Qb sb]]]) W (H++[[cl bx 25 #[Qb sb]]]) wr) (fun i _=>os.length+1 - (intOf i).toNat)
 case atStart=>exact ⟨0,H0,by omega,rfl,HJ.out,HT0.out⟩
 case round =>
  obtain ⟨k,H,hk,rfl,hj,T⟩:=hrel;clear HJ HT0 c0;by_cases hlt:k<os.length
  ·obtain ⟨o,ho⟩:∃ o,os[k]?=some o:=⟨_,List.getElem?_eq_getElem hlt⟩
   obtain ⟨i,j,q,e1,e2,e3,l1,l2,l3⟩:=HTT.out _ _ hj;obtain ⟨rb,cp,hv,hb⟩:=Jv HRO.out T j (by rw [qn1 l2];exact e2) (by rw [List.length_append];omega) (k:=k) (x:=ifO o) (by rw [List.getElem?_map,ho];rfl);obtain ⟨rfl,rfl⟩:avo=some ⟨rb,0,none⟩∧capo=cp:=by cases hv;exact ⟨rfl,rfl⟩
   clear hv e1 e2 e3 l1 l2 l3;cases o with
   | none =>
     have hp:=qsn ho;have hnq:=qa5;change _=some Value.nilIface at hb
     rw [← hp] at hj;have HJ:=Vh hj;have HT:=Vh T;clear hj T hp ho;gi_wp2
     refine ⟨fun f hf=>(by cases hf),?_⟩
     gi_wp2
     go_roundw
     case rel=>exact ⟨k+1,H,by omega,by go_num,HJ.out,HT.out⟩
     case measure=>simp [intOf];omega
   | some ov =>
     obtain ⟨wk,b⟩:=ov;obtain ⟨hp,hp2⟩:=qt7 ho;have hnq:=qdm wk b;change _=some (Value.iface wk.ty (Qb b)) at hb
     have hy0:=HY.out (qpe os k) #[.int .i64 k,.iface wk.ty (Qb b)] [] (qpe os k+1) H wr hj ⟨hp2 _,rfl,rfl⟩ (by rw [List.append_nil];exact T.has.left);have HP:=Vh hp;obtain ⟨fn,tmps,assign,body,hy,hR⟩:=X0 (n:=8) hy0;have HRR:=Vh hR;have HT:=Vh T;clear hy0 hR hj T hp hp2 ho;gi_wp2
     refine HRR.out.mono ?_
     rintro e W' ⟨H',hT',hj'⟩;have T7:=HT.out.trans ((hT'.app (a':=H) (by simp)).frame HT.out.has);have HT7:=Vh T7;rcases hj' with ⟨rfl,hj'⟩ | ⟨rfl,hj'⟩
     ·have HJ:=Vh hj'
      clear hT' T7 hj' hy;gi_wp2
      go_roundw
      case rel=>exact ⟨k+1,H',by omega,by go_num,by rw [HP.out];exact HJ.out,HT7.out⟩
      case measure=>simp [intOf];omega
     ·have HJ:=Vh hj'
      clear hT' T7 hj' hy;gi_wp2
      refine bodyPost_ret (results_none rfl _ _ _) rfl ?_
      exact ⟨⟨_,rfl⟩,_,H',_,HT7.out,.inr HJ.out⟩
  ·obtain rfl:k=os.length:=by omega
   rw [qwm] at hj;obtain ⟨hd1,hd3⟩:=HHD.out H _ (HTT.out _ _ hj) T.has.left;have c1:=(TG.refl T.has.right).cell 0 0 rfl 0;simp only [GE2] at c1;have HJ:=Vh hj;have HT0:=Vh T;clear hj T;gi_wp2
   clear hd1 hd3 c1
   gi_loopw [34] (fun i wr=>∃ (k:Nat) (H:GH),k≤ps.length∧i=.int .i64 k∧J ((Zh 0 os).length+k) H∧TG (H0++[[cl bx 25 #[Qb sb]]]) W (H++[[cl bx 25 #[Qb sb]]]) wr) (fun i _=>ps.length+1 - (intOf i).toNat)
   case atStart=>exact ⟨0,H,by omega,rfl,HJ.out,HT0.out⟩
   case round =>
    obtain ⟨k,H,hk,rfl,hj,T⟩:=hrel;clear HJ HT0;by_cases hlt:k<ps.length
    ·obtain ⟨p,ho⟩:∃ p,ps[k]?=some p:=⟨_,List.getElem?_eq_getElem hlt⟩
     obtain ⟨hd1,hd3⟩:=HHD.out H _ (HTT.out _ _ hj) T.has.left;have c1:=(TG.refl T.has.right).cell 0 0 rfl 0;simp only [GE2] at c1;obtain ⟨i,j,q,e1,e2,e3,l1,l2,l3⟩:=HTT.out _ _ hj;obtain ⟨rb,cp,hv,hb⟩:=Jv HRC.out T q (by rw [qn1 l3];exact e3) (by rw [List.length_append];omega) (k:=k) (x:=Qb p) (by rw [List.getElem?_map,ho];rfl);obtain ⟨rfl,rfl⟩:avc=some ⟨rb,0,none⟩∧capc=cp:=by cases hv;exact ⟨rfl,rfl⟩
     clear hv e1 e2 e3 l1 l2 l3;have hit:=qjy ps os.length k p ho
     have hy0:=HY.out ((Zh 0 os).length+k) #[.int .i64 ((os.length:Int)+k),.iface 139 (Qb p)] [] ((Zh 0 os).length+(k+1)) H wr hj ⟨by
      rw [List.getElem?_append_right (by omega),Nat.add_sub_cancel_left,hit]
      rfl,rfl,by omega⟩ (by rw [List.append_nil];exact T.has.left)
     obtain ⟨fn,tmps,assign,body,hy,hR⟩:=X0 (n:=8) hy0;have HRR:=Vh hR;have HT:=Vh T;clear hy0 hR hj T hit ho;gi_wp2
     refine HRR.out.mono ?_
     rintro e W' ⟨H',hT',hj'⟩;have T7:=HT.out.trans ((hT'.app (a':=H) (by simp)).frame HT.out.has);have HT7:=Vh T7;rcases hj' with ⟨rfl,hj'⟩ | ⟨rfl,hj'⟩
     ·have HJ:=Vh hj'
      clear hT' T7 hj' hy hd1 hd3 c1;gi_wp2
      go_roundw
      case rel=>exact ⟨k+1,H',by omega,by go_num,HJ.out,HT7.out⟩
      case measure=>simp [intOf];omega
     ·have HJ:=Vh hj'
      clear hT' T7 hj' hy hd1 hd3 c1;gi_wp2
      refine bodyPost_ret (results_none rfl _ _ _) rfl ?_
      exact ⟨⟨_,rfl⟩,_,H',_,HT7.out,.inr HJ.out⟩
    ·obtain rfl:k=ps.length:=by omega
     have HJ:=Vh hj;have HT:=Vh T;clear hj T;gi_wp2
     go_end0
     exact ⟨⟨_,rfl⟩,_,H,_,HT.out,.inl ⟨by show _=(Zh 0 os++qb8 os.length ps).length;rw [List.length_append,qgs],HJ.out,rfl⟩⟩
end
section
open Go.RowKit Go.Shelf
attribute [local go_sem] Oper.semAt_some
structure qen where
 kb:Nat
 n:Int
 w:Wk
structure SvS where
 z:ZF
 own:List (Option Nat)
 all:List qen
 crew:List WkN
inductive Th where
 | job (a:Nat)
 | wkr (i:Nat)
def q20:qen:=⟨0,0,.call .nil (z6 0 0 ⟨0,0,0,0⟩)⟩
def wkn0:WkN:=⟨0,qm,0,qvc⟩
def SvS.jobAt (S:SvS) (a:Nat):qen:=S.all.getD a q20
def SvS.wkrAt (S:SvS) (i:Nat):WkN:=S.crew.getD i wkn0
def Th.b (S:SvS):Th→Nat
 | .job a=>(S.jobAt a).kb
 | .wkr i=>(S.wkrAt i).wb
def Th.ty (S:SvS):Th→TypeId
 | .job a=>(S.jobAt a).w.ty
 | .wkr i=>139
def Th.fMay (S:SvS):Th→FuncId
 | .job a=>(S.jobAt a).w.fMay
 | .wkr i=>342
def Th.fStep (S:SvS):Th→FuncId
 | .job a=>(S.jobAt a).w.fStep
 | .wkr i=>343
def Th.may (S:SvS):Th→Bool
 | .job a=>(S.jobAt a).w.may S.z
 | .wkr i=>(S.wkrAt i).may S.z
def Th.step (S:SvS):Th→SvS
 | .job a=>{ S with all:=S.all.set a ⟨(S.jobAt a).kb,(S.jobAt a).n+1,((S.jobAt a).w.step S.z).1⟩,z:=((S.jobAt a).w.step S.z).2 }
 | .wkr i=>{ S with crew:=S.crew.set i ((S.wkrAt i).step S.z).1,z:=((S.wkrAt i).step S.z).2 }
def Th.here (S:SvS):Th→Prop
 | .job a=>a<S.all.length
 | .wkr i=>i<S.crew.length
def qys:Nat→List (Option Nat)→List (Nat × Th)
 | _,[]=>[]
 | a,none::l=>qys (a+1) l
 | a,some k::l=>(a,.job k)::qys (a+1) l
def qug:Nat→Nat→List WkN→List (Nat × Th)
 | _,_,[]=>[]
 | a,i,_::l=>(a,.wkr i)::qug (a+1) (i+1) l
def SvS.ths (S:SvS):List (Nat × Th):=qys 0 S.own++qug S.own.length 0 S.crew
def SvS.os (S:SvS):List (Option (Wk × Nat)):=S.own.map fun o=>o.map fun a=>((S.jobAt a).w,(S.jobAt a).kb)
def SvS.ps (S:SvS):List Nat:=S.crew.map WkN.wb
def thC (S:SvS) (t:Nat × Th):Array Value:=#[.int .i64 t.1,.iface (t.2.ty S) (Qb (t.2.b S))]
theorem qc4 (S:SvS):∀ (l:List (Option Nat)) (a:Nat),Zh a (l.map fun o=>o.map fun a=>((S.jobAt a).w,(S.jobAt a).kb))=(qys a l).map (thC S)
 | [],_=>rfl
 | none::l,a=>qc4 S l (a+1)
 | some k::l,a=>by
   show _::Zh (a+1) _=_::(qys (a+1) l).map _
   rw [qc4 S l (a+1)];rfl
theorem qg6 (S:SvS):∀ (l:List WkN) (a i:Nat),(∀ j c,l[j]?=some c→S.crew[i+j]?=some c)→qb8 a (l.map WkN.wb)=(qug a i l).map (thC S)
 | [],_,_,_=>rfl
 | c::l,a,i,h=>by
   show _::qb8 (a+1) _=thC S (a,.wkr i)::(qug (a+1) (i+1) l).map _
   rw [qg6 S l (a+1) (i+1) (fun j d hd=>by
    have:=h (j+1) d hd
    rwa [show i+(j+1)=i+1+j by omega] at this)]
   have h0:=h 0 c rfl
   have:S.wkrAt i=c:=by
    unfold SvS.wkrAt;rw [List.getD_eq_getElem?_getD,show i=i+0 from rfl,h0];rfl
   show _=(#[Value.int .i64 a,Value.iface 139 (Qb (S.wkrAt i).wb)]:Array Value)::_
   rw [this]
theorem qtm (S:SvS):Zh 0 S.os++qb8 S.os.length S.ps=S.ths.map (thC S):=by
 unfold SvS.ths SvS.os SvS.ps;rw [List.map_append,qc4,List.length_map,qg6 S S.crew S.own.length 0 (fun j c h=>by rwa [Nat.zero_add])]
theorem qee:∀ (l:List (Option Nat)) (a:Nat) (t:Nat × Th),t∈qys a l→∃ k,t.2=.job k∧some k∈l∧a≤t.1∧l[t.1 - a]?=some (some k)
 | none::l,a,t,h=>by
   obtain ⟨k,h1,h2,h3,h4⟩:=qee l (a+1) t h;refine ⟨k,h1,List.mem_cons_of_mem _ h2,by omega,?_⟩
   rw [show t.1 - a=(t.1 - (a+1))+1 by omega];exact h4
 | some k::l,a,t,h=>by
   rcases List.mem_cons.1 h with rfl | h
   ·exact ⟨k,rfl,List.mem_cons_self,Nat.le_refl _,by simp⟩
   ·obtain ⟨k',h1,h2,h3,h4⟩:=qee l (a+1) t h
    refine ⟨k',h1,List.mem_cons_of_mem _ h2,by omega,?_⟩
    rw [show t.1 - a=(t.1 - (a+1))+1 by omega];exact h4
theorem qh0:∀ (l:List WkN) (a i:Nat) (t:Nat × Th),t∈qug a i l→∃ j,t.2=.wkr (i+j)∧t.1=a+j∧j<l.length
 | c::l,a,i,t,h=>by
   rcases List.mem_cons.1 h with rfl | h
   ·exact ⟨0,rfl,rfl,Nat.zero_lt_succ _⟩
   ·obtain ⟨j,h1,h2,h3⟩:=qh0 l (a+1) (i+1) t h
    exact ⟨j+1,by rw [h1,show i+1+j=i+(j+1) by omega],by omega,by simp;omega⟩
structure SvN (N:Nat) (S:SvS):Prop where
 glo:qi5 N S.z
 jobs:∀ j∈S.all,qob N j.w S.z.x∧0≤j.n∧j.n≤N
 crew:∀ c∈S.crew,qbg N c
 own:∀ k,some k∈S.own→k<S.all.length
 ol:1≤S.own.length∧S.own.length≤1000
 cl:S.crew.length≤1000
 al:S.all.length≤N
 turn:∀ (a:Nat) (j:qen),S.all[a]?=some j→j.w.isTurn=true→j.w.done=false→S.own[S.own.length - 1]?=some (some a)
theorem SvN.mono {N M:Nat} {S:SvS} (h:SvN N S) (hm:N≤M):SvN M S :=
 ⟨h.glo.mono hm,fun j hj=>⟨(h.jobs j hj).1.mono hm,(h.jobs j hj).2.1,by have:=(h.jobs j hj).2.2;omega⟩,fun c hc=>(h.crew c hc).mono hm,h.own,h.ol,h.cl,by have:=h.al;omega,h.turn⟩
theorem qcs {N:Nat} {S:SvS} (h:SvN N S) {t:Nat × Th} (ht:t∈S.ths):t.2.here S:=by
 rcases List.mem_append.1 ht with ht | ht
 ·obtain ⟨k,h1,h2,_⟩:=qee _ _ _ ht
  rw [h1];exact h.own k h2
 ·obtain ⟨j,h1,_,h3⟩:=qh0 _ _ _ _ ht
  rw [h1,Nat.zero_add];exact h3
theorem X1 {S:SvS} {a:Nat} (h:a<S.all.length):S.all[a]?=some (S.jobAt a):=by
 unfold SvS.jobAt;rw [List.getD_eq_getElem?_getD,List.getElem?_eq_getElem h];rfl
theorem qal {S:SvS} {a:Nat} (h:a<S.crew.length):S.crew[a]?=some (S.wkrAt a):=by
 unfold SvS.wkrAt;rw [List.getD_eq_getElem?_getD,List.getElem?_eq_getElem h];rfl
def Zr (L:Lay) (l:List qen) (g:List Blk):Prop:=J5 (fun (j:qen) g=>qb5 L j.kb j.n j.w g) l g
theorem qh5 {P:Program} {f:FuncId} {args:Array Value} {a b c:List Blk} {R:Ending→List Blk→List Blk→Prop} (hd:Qa P f args [a,c] fun e gs=>∃ a' c',R e a' c'∧gs=[a',c']) :
 Qa P f args [a,b,c] fun e gs=>∃ a' c',R e a' c'∧gs=[a',b,c']:=by
 intro w hw
 have h2:Jj ([a,c]++[b]) w:=hw.re (by
  classical
  refine List.perm_iff_count.2 fun x=>?_
  simp only [List.flatten_append,List.flatten_cons,List.flatten_nil,List.append_nil,List.count_append]
  omega)
 refine (hd w h2.left).mono ?_
 rintro e w' ⟨gs,⟨a',c',hR,rfl⟩,T⟩;refine ⟨_,⟨a',c',hR,rfl⟩,((T.frame h2).re (H':=[a',b,c']) ?_).basePerm ?_⟩
 ·classical
  refine List.perm_iff_count.2 fun x=>?_
  simp only [List.flatten_append,List.flatten_cons,List.flatten_nil,List.append_nil,List.count_append];omega
 ·classical
  refine List.perm_iff_count.2 fun x=>?_
  simp only [List.flatten_append,List.flatten_cons,List.flatten_nil,List.append_nil,List.count_append];omega
theorem qia {P:Program} {f:FuncId} {args:Array Value} {a b c:List Blk} {R:Ending→List Blk→List Blk→Prop} (hd:Qa P f args [a,c] fun e gs=>∃ a' c',R e a' c'∧gs=[a',c']) :
 Qa P f args [b,a,c] fun e gs=>∃ a' c',R e a' c'∧gs=[b,a',c']:=by
 intro w hw;have h2:Jj ([b]++[a,c]) w:=hw;refine (hd w h2.right).mono ?_
 rintro e w' ⟨gs,⟨a',c',hR,rfl⟩,T⟩;exact ⟨_,⟨a',c',hR,rfl⟩,T.frameL h2⟩
section
variable {L:Lay} {S:SvS} {gJ gW gZ:List Blk} {N:Nat} {t:Th}
theorem q37 (hn:SvN N S) (ht:t.here S) (hj:Zr L S.all gJ) (hw:qgm L S.crew gW) (hz:isZ L S.z gZ) (hN:N<999998) :
 Qa prog (t.fMay S) #[Qb (t.b S)] [gJ,gW,gZ] fun e gs=>∃ gJ' gW' gZ',e=.returned (.bool (t.may S))∧Zr L S.all gJ'∧qgm L S.crew gW'∧isZ L S.z gZ'∧gs=[gJ',gW',gZ']:=by
 cases t with
 | job a =>
   have hk:=X1 ht;have hjn:=(hn.jobs _ (List.mem_of_getElem? hk)).1;refine (qh5 (R:=fun e a' c'=>e=.returned (.bool (Th.may S (.job a)))∧Zr L S.all a'∧isZ L S.z c') ((zv (R:=fun e a' rest'=>e=.returned (.bool (Th.may S (.job a)))∧a'=S.jobAt a∧∃ gz,isZ L S.z gz∧rest'=[gz]) hj hk (fun ga hga=>(q2t hga hz hn.glo hjn (by omega)).mono ?_)).mono ?_)).mono ?_
   ·rintro e gs ⟨g',gZ',rfl,h1,h2,rfl⟩
    exact ⟨_,g',[gZ'],⟨rfl,rfl,gZ',h2,rfl⟩,h1,rfl⟩
   ·rintro e gs ⟨a',g',rest',⟨rfl,rfl,gz,h1,rfl⟩,h2,rfl⟩
    rw [Yz hk] at h2;exact ⟨g',gz,⟨rfl,h2,h1⟩,rfl⟩
   ·rintro e gs ⟨a',c',⟨rfl,h1,h2⟩,rfl⟩
    exact ⟨a',gW,c',rfl,h1,hw,h2,rfl⟩
 | wkr i =>
   have hk:=qal ht;have hcn:=hn.crew _ (List.mem_of_getElem? hk);refine (qia (R:=fun e a' c'=>e=.returned (.bool (Th.may S (.wkr i)))∧qgm L S.crew a'∧isZ L S.z c') ((zv (R:=fun e a' rest'=>e=.returned (.bool (Th.may S (.wkr i)))∧a'=S.wkrAt i∧∃ gz,isZ L S.z gz∧rest'=[gz]) hw hk (fun ga hga=>(qzt (c:=S.wkrAt i) hga hz hn.glo hcn hN).mono ?_)).mono ?_)).mono ?_
   ·rintro e gs ⟨g',gZ',rfl,h1,h2,rfl⟩
    exact ⟨_,g',[gZ'],⟨rfl,rfl,gZ',h2,rfl⟩,h1,rfl⟩
   ·rintro e gs ⟨a',g',rest',⟨rfl,rfl,gz,h1,rfl⟩,h2,rfl⟩
    rw [Yz hk] at h2;exact ⟨g',gz,⟨rfl,h2,h1⟩,rfl⟩
   ·rintro e gs ⟨a',c',⟨rfl,h1,h2⟩,rfl⟩
    exact ⟨gJ,a',c',rfl,hj,h1,h2,rfl⟩
theorem q3v (hn:SvN N S) (ht:t.here S) (hj:Zr L S.all gJ) (hw:qgm L S.crew gW) (hz:isZ L S.z gZ) (hN:N<999998) (hm:t.may S=true) :
 Qa prog (t.fStep S) #[Qb (t.b S)] [gJ,gW,gZ] fun e gs=>∃ gJ' gW' gZ',e=.returned (.bool true)∧Zr L (t.step S).all gJ'∧qgm L (t.step S).crew gW'∧isZ L (t.step S).z gZ'∧gs=[gJ',gW',gZ']:=by
 cases t with
 | job a =>
   have hk:=X1 ht;obtain ⟨hjn,hn0,hn1⟩:=hn.jobs _ (List.mem_of_getElem? hk);refine (qh5 (R:=fun e a' c'=>e=.returned (.bool true)∧Zr L (Th.step S (.job a)).all a'∧isZ L (Th.step S (.job a)).z c') ((zv (R:=fun e a' rest'=>e=.returned (.bool true)∧a'=⟨(S.jobAt a).kb,(S.jobAt a).n+1,((S.jobAt a).w.step S.z).1⟩∧∃ gz,isZ L ((S.jobAt a).w.step S.z).2 gz∧rest'=[gz]) hj hk (fun ga hga=>(qzu hga hz hn.glo hjn (by omega) hm (by omega)).mono ?_)).mono ?_)).mono ?_
   ·rintro e gs ⟨g',gZ',rfl,h1,h2,rfl⟩
    exact ⟨_,g',[gZ'],⟨rfl,rfl,gZ',h2,rfl⟩,h1,rfl⟩
   ·rintro e gs ⟨a',g',rest',⟨rfl,rfl,gz,h1,rfl⟩,h2,rfl⟩
    exact ⟨g',gz,⟨rfl,h2,h1⟩,rfl⟩
   ·rintro e gs ⟨a',c',⟨rfl,h1,h2⟩,rfl⟩
    exact ⟨a',gW,c',rfl,h1,hw,h2,rfl⟩
 | wkr i =>
   have hk:=qal ht;have hcn:=hn.crew _ (List.mem_of_getElem? hk);refine (qia (R:=fun e a' c'=>e=.returned (.bool true)∧qgm L (Th.step S (.wkr i)).crew a'∧isZ L (Th.step S (.wkr i)).z c') ((zv (R:=fun e a' rest'=>e=.returned (.bool true)∧a'=((S.wkrAt i).step S.z).1∧∃ gz,isZ L ((S.wkrAt i).step S.z).2 gz∧rest'=[gz]) hw hk (fun ga hga=>(qww (c:=S.wkrAt i) hga hz hn.glo hcn hN hm).mono ?_)).mono ?_)).mono ?_
   ·rintro e gs ⟨g',gZ',rfl,h1,h2,rfl⟩
    exact ⟨_,g',[gZ'],⟨rfl,rfl,gZ',h2,rfl⟩,h1,rfl⟩
   ·rintro e gs ⟨a',g',rest',⟨rfl,rfl,gz,h1,rfl⟩,h2,rfl⟩
    exact ⟨g',gz,⟨rfl,h2,h1⟩,rfl⟩
   ·rintro e gs ⟨a',c',⟨rfl,h1,h2⟩,rfl⟩
    exact ⟨gJ,a',c',rfl,hj,h1,h2,rfl⟩
theorem thNo (hn:SvN N S) (ht:t.here S) (hj:Zr L S.all gJ) (hw:qgm L S.crew gW) (hz:isZ L S.z gZ) (hN:N<999998) (hm:t.may S=false) :
 Qa prog (t.fStep S) #[Qb (t.b S)] [gJ,gW,gZ] fun e gs=>∃ gJ' gW' gZ',e=.returned (.bool false)∧Zr L S.all gJ'∧qgm L S.crew gW'∧isZ L S.z gZ'∧gs=[gJ',gW',gZ']:=by
 cases t with
 | job a =>
   have hk:=X1 ht;have hjn:=(hn.jobs _ (List.mem_of_getElem? hk)).1;refine (qh5 (R:=fun e a' c'=>e=.returned (.bool false)∧Zr L S.all a'∧isZ L S.z c') ((zv (R:=fun e a' rest'=>e=.returned (.bool false)∧a'=S.jobAt a∧∃ gz,isZ L S.z gz∧rest'=[gz]) hj hk (fun ga hga=>(q38 hga hz hn.glo hjn (by omega) hm).mono ?_)).mono ?_)).mono ?_
   ·rintro e gs ⟨g',gZ',rfl,h1,h2,rfl⟩
    exact ⟨_,g',[gZ'],⟨rfl,rfl,gZ',h2,rfl⟩,h1,rfl⟩
   ·rintro e gs ⟨a',g',rest',⟨rfl,rfl,gz,h1,rfl⟩,h2,rfl⟩
    rw [Yz hk] at h2;exact ⟨g',gz,⟨rfl,h2,h1⟩,rfl⟩
   ·rintro e gs ⟨a',c',⟨rfl,h1,h2⟩,rfl⟩
    exact ⟨a',gW,c',rfl,h1,hw,h2,rfl⟩
 | wkr i =>
   have hk:=qal ht;have hcn:=hn.crew _ (List.mem_of_getElem? hk);refine (qia (R:=fun e a' c'=>e=.returned (.bool false)∧qgm L S.crew a'∧isZ L S.z c') ((zv (R:=fun e a' rest'=>e=.returned (.bool false)∧a'=S.wkrAt i∧∃ gz,isZ L S.z gz∧rest'=[gz]) hw hk (fun ga hga=>(q27 (c:=S.wkrAt i) hga hz hn.glo hcn hN hm).mono ?_)).mono ?_)).mono ?_
   ·rintro e gs ⟨g',gZ',rfl,h1,h2,rfl⟩
    exact ⟨_,g',[gZ'],⟨rfl,rfl,gZ',h2,rfl⟩,h1,rfl⟩
   ·rintro e gs ⟨a',g',rest',⟨rfl,rfl,gz,h1,rfl⟩,h2,rfl⟩
    rw [Yz hk] at h2;exact ⟨g',gz,⟨rfl,h2,h1⟩,rfl⟩
   ·rintro e gs ⟨a',c',⟨rfl,h1,h2⟩,rfl⟩
    exact ⟨gJ,a',c',rfl,hj,h1,h2,rfl⟩
end
end
end Go.Proofs.YtikpbibeagbccaaGreat
