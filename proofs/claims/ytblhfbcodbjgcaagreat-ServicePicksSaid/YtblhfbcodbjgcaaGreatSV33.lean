import Derived.Test.YtblhfbcodbjgcaaGreatSV32
import Derived.Test.YtblhfbcodbjgcaaGreatSV24
import Derived.Test.YtblhfbcodbjgcaaGreatSV15
namespace Go.Proofs.YtblhfbcodbjgcaaGreat
set_option linter.unusedVariables false
set_option linter.unusedSimpArgs false
section
open Go.RowKit Go.Shelf
attribute [local go_sem] Oper.semAt_some
section
variable {lb:Nat} {l hs:List FireS} {g gh:List Blk} {hv:Value}
theorem fires_app (a b:List FireS):fires (a++b)=fires a++fires b:=by simp [fires,flatV]
theorem fires_len (a:List FireS):(fires a).length=a.length*4:=by
 induction a with
 | nil=>rfl
 | cons x a ih =>
   show (x.vals++fires a).length=_
   rw [List.length_append,ih]
   show 4+_=_
   rw [List.length_cons];omega
theorem fires_one (a:List FireS):∀ u∈fires a,u.oneCell'=true:=by
 induction a with
 | nil=>intro u hu;cases hu
 | cons x a ih =>
   intro u hu
   rcases List.mem_append.1 (show u∈x.vals++fires a from hu) with hu | hu
   ·simp only [FireS.vals,List.mem_cons,List.not_mem_nil,or_false] at hu
    rcases hu with rfl | rfl | rfl | rfl <;> rfl
   ·exact ih u hu
set_option maxRecDepth 100000 in
theorem logPut_g (hg:isLog lb l g) (hh:rowG 69 4 hv hs.length (fires hs) gh) (h0:0<hs.length) (hn:l.length+hs.length≤2000000) :
 DoesG Tryz.prog 293 #[ptr' lb,hv] [g,gh] fun e gs=>e=.returned (.tuple #[])∧∃ g',isLog lb (l++hs) g'∧gs=[g',gh]:=by
 obtain ⟨v,gr,hr,rfl⟩:=hg
 have HH:=Lib.hid hh
 obtain ⟨hb,hcap,hcur,rfl,rfl,hc1,hc2,hc3,hc4⟩:=hh.open h0
 obtain ⟨av,cap,hv⟩:=rowG.val hr
 subst hv
 intro w hw
 have T0:=TG.refl hw
 have HT:=Lib.hid T0
 clear hw T0
 have HT:=Lib.hid (HT.out.sum (H':=[[cl lb 214 #[.slice av l.length cap]],gr,[cl hb 69 hcur]]))
 have c0:=HT.out.cell 0 0 rfl 0
 have f0:=HT.out.free 0 0 rfl 0
 simp only [GE2] at c0
 have hnews:∀ j u,(fires hs)[j]?=some u→w.cell? ((⟨hb,0,none⟩:Addr).add j)=some u:=fun j u hu=>by
  have hj:=(List.getElem?_eq_some_iff.1 hu).1
  rw [fires_len] at hj
  have:=(HT.out.cell 2 0 rfl j).trans ((hc4 j hj).trans hu)
  have e:(⟨hb,0,none⟩:Addr).add j=⟨hb,j,none⟩:=by
   unfold Addr.add
   split
   ·next h=>subst h;rfl
   ·simp
  rw [e];exact this
 have HR:=Lib.hid hr
 have HNW:=Lib.hid hnews
 have HO:=Lib.hid (fires_one hs)
 have HL:=Lib.hid (fires_len hs)
 have HF:=Lib.hid (fires_app l hs)
 clear hr hh hc3 hc4 hnews
 go_enter Tryz.func293,Tryz.ntmps293
 go_wp2_with (
  at_builtin
  (with_reducible refine wpList_append_G rfl (.tmp 10) (.tmp 11) 89 rfl 69 4 32 _ Tryz.underlying89 fire_info rfl (by decide) HT.out 1 rfl rfl HR.out rfl ⟨hb,0,none⟩ hs.length hcap (fires hs) rfl HL.out HNW.out HO.out (by unfold maxLen;omega) (by omega) ?_)
  intro v1 w2 g2 r1 T1
  simp only [List.set_cons_zero,List.set_cons_succ] at T1
  have c1:=T1.cell 0 0 rfl 0
  have f1:=T1.free 0 0 rfl 0
  have lt1:=T1.lt 0 0 rfl
  obtain ⟨a1,cap1,hv1⟩:=rowG.val r1
  subst hv1
  have T1:=Lib.hid T1
  have r1:=Lib.hid r1
  simp only [GE2] at c1)
 go_end0
 exact ⟨_,⟨rfl,[cl lb 214 #[.slice a1 (l.length+hs.length) cap1]]++g2,⟨_,g2,by rw [List.length_append,HF.out];exact r1.out,rfl⟩,rfl⟩,(((T1.out.set 0 0 rfl 0 (.slice a1 (l.length+hs.length) cap1)).eq (H':=[[cl lb 214 #[.slice a1 (l.length+hs.length) cap1]],g2,[cl hb 69 hcur]]) rfl).sum)⟩
end
theorem askAll_p (a b c d:Int) (w:World):Calls Tryz.prog 153 #[.agg #[.int .u64 a,.int .u64 b,.int .u64 c,.int .u64 d]] w fun e w'=>e=.returned (.bool true)∧∃ C T,w'=w.alloc (.cells C T):=by
 go_enter Tryz.func153,Tryz.ntmps153
 go_wp2
 go_ret
 exact ⟨rfl,_,_,rfl⟩
set_option maxRecDepth 100000 in
set_option maxHeartbeats 4000000 in
theorem those_iter (bl ba lb:Nat) {l:List FireS} {g:List Blk} (hg:isLog lb l g) (hn:l.length≤2000000) :
 IterY Tryz.prog 184 #[ptr' bl,ptr' ba] (itList (l.map fun f=>f.vals.toArray) [[cl bl 123 #[ptr' lb]],[cl ba 258 #[.func (.func 153) #[] #[]]],g]) (0:Nat):=by
 intro ly J Jx hT hY H0 O0 W hJ0 hO hH
 have hO':O0=[[cl bl 123 #[ptr' lb]],[cl ba 258 #[.func (.func 153) #[] #[]]],g]:=hO
 subst hO'
 obtain ⟨v,gr,hr,rfl⟩:=hg
 obtain ⟨av,cap,hv⟩:=rowG.val hr
 subst hv
 obtain ⟨O,hOd⟩:∃ O:GH,O=[[cl bl 123 #[ptr' lb]],[cl ba 258 #[.func (.func 153) #[] #[]]],[cl lb 214 #[.slice av l.length cap]]++gr]:=⟨_,rfl⟩
 rw [← hOd] at hH ⊢
 have T0:=TG.refl hH
 have hHR:=hH.right
 rw [hOd] at hHR
 have T1:=(TG.refl hHR).sum (H':=[[cl bl 123 #[ptr' lb]],[cl ba 258 #[.func (.func 153) #[] #[]]],[cl lb 214 #[.slice av l.length cap]],gr])
 have c0:=T1.cell 0 0 rfl 0
 have l0:=T1.cell 2 0 rfl 0
 simp only [GE2] at c0 l0
 have HR:=Lib.hid hr
 have HH:=Lib.hid (And.intro hJ0 T0)
 have HY:=Lib.hid hY
 have HO:=Lib.hid hOd
 clear hr hO hH hY hT hJ0 T0 T1 hHR hOd
 refine (callsIn_wide (n:=9)).1 (callsIn_of_wp Tryz.func184 rfl trivial ?_ rfl)
 simp only [Tryz.ntmps184,List.size_toArray,List.length_cons,List.length_nil,Nat.reduceAdd,Nat.reduceSub,Array.replicate_succ,Array.replicate_zero,List.push_toArray,List.append_toArray,List.nil_append,List.cons_append]
 gi_wp2
 clear c0 l0
 gi_loopw [13] (fun i wr=>∃ (k:Nat) (H:GH),k≤l.length∧i=.int .i64 k∧J k H∧TG (H0++O) W (H++O) wr) (fun i _=>l.length+1 - (intOf i).toNat)
 case atStart=>exact ⟨0,H0,by omega,rfl,HH.out.1,HH.out.2⟩
 case round =>
  obtain ⟨k,H,hk,rfl,hj,T⟩:=hrel
  clear HH
  by_cases hlt:k<l.length
  ·obtain ⟨f,hf⟩:∃ f,l[k]?=some f:=⟨_,List.getElem?_eq_getElem hlt⟩
   have hat:(l.map fun f=>f.vals.toArray)[k]?=some f.vals.toArray:=by rw [List.getElem?_map,hf];rfl
   have TR:=T.has.right
   rw [HO.out] at TR
   have TE:=(TG.refl TR).sum (H':=[[cl bl 123 #[ptr' lb]],[cl ba 258 #[.func (.func 153) #[] #[]]],[cl lb 214 #[.slice av l.length cap]],gr])
   obtain ⟨rb,cap',cur,hv,rfl,_,hcm,_,hcur⟩:=HR.out.open (by omega)
   cases hv
   have r0:=(TE.cell 3 0 rfl (k*4)).trans ((hcur (k*4) (by omega)).trans (fires_at l k f 0 hf (by decide)))
   have r1:=(TE.cell 3 0 rfl (k*4+1)).trans ((hcur (k*4+1) (by omega)).trans (fires_at l k f 1 hf (by decide)))
   have r2:=(TE.cell 3 0 rfl (k*4+2)).trans ((hcur (k*4+2) (by omega)).trans (fires_at l k f 2 hf (by decide)))
   have r3:=(TE.cell 3 0 rfl (k*4+3)).trans ((hcur (k*4+3) (by omega)).trans (fires_at l k f 3 hf (by decide)))
   have a0:=TE.cell 1 0 rfl 0
   simp only [FireS.vals,List.getElem?_cons_zero,List.getElem?_cons_succ,List.getElem?_toArray] at r0 r1 r2 r3 a0
   have lta:=TE.lt 1 0 rfl
   simp only [] at lta
   have T2:=T.alloc0 (.cells #[.int .u64 f.id,.int .u64 f.gen,.int .u64 f.dl,.int .u64 f.tick] 69)
   have HT2:=Lib.hid T2
   have HK:=Lib.hid (And.intro hj hat)
   clear T TE TR hcur hf hat hj T2
   gi_wp2
   refine ⟨trivial,(callsIn_wide (n:=8)).2 ((askAll_p _ _ _ _ _).mono ?_)⟩
   rintro e W1 ⟨rfl,C1,T1,rfl⟩
   have HT2:=Lib.hid (HT2.out.alloc0 (.cells C1 T1))
   have hy0:=HY.out k #[.agg f.vals.toArray] [] (k+1) H _ HK.out.1 ⟨⟨_,HK.out.2,rfl⟩,rfl,rfl⟩ (by rw [List.append_nil];exact HT2.out.has.left)
   obtain ⟨fn,tmps,assign,body,hy,hR⟩:=yield_any (n:=8) hy0
   have HRR:=Lib.hid hR
   rw [vals_arr] at hy
   clear hy0 hR
   gi_wp2
   refine HRR.out.mono ?_
   rintro e W' ⟨H',hT',hj'⟩
   have T7:=HT2.out.trans ((hT'.app (a':=H) (by simp)).frame HT2.out.has)
   have HT7:=Lib.hid T7
   rcases hj' with ⟨rfl,hj'⟩ | ⟨rfl,hj'⟩
   ·have HJ:=Lib.hid hj'
    clear hT' T7 hj' hy r0 r1 r2 r3 a0
    gi_wp2
    go_roundw
    case rel=>exact ⟨k+1,H',by omega,by go_num,HJ.out,HT7.out⟩
    case measure=>simp [intOf];omega
   ·have HJ:=Lib.hid hj'
    clear hT' T7 hj' hy r0 r1 r2 r3 a0
    gi_wp2
    refine bodyPost_ret (results_none rfl _ _ _) rfl ?_
    exact ⟨⟨_,rfl⟩,k+1,H',_,HT7.out,.inr HJ.out⟩
  ·obtain rfl:k=l.length:=by omega
   gi_wp2
   go_end0
   exact ⟨⟨_,rfl⟩,l.length,H,_,T,.inl ⟨(List.length_map _).symm,hj,by rw [HO.out];rfl⟩⟩
theorem logThose_g (lb:Nat):DoesG Tryz.prog 152 #[ptr' lb,.func (.func 153) #[] #[]] [] fun e gs=>∃ bl ba,e=.returned (.func (.func 184) #[] #[ptr' bl,ptr' ba]) ∧
 gs=[[cl bl 123 #[ptr' lb]],[cl ba 258 #[.func (.func 153) #[] #[]]]]:=by
 intro w hw
 have T0:=TG.refl hw
 have HT:=Lib.hid T0
 clear hw T0
 go_enter Tryz.func152,Tryz.ntmps152
 go_wp2
 go_ret
 exact ⟨_,⟨_,_,rfl,rfl⟩,(HT.out.alloc rfl _ _).alloc (k:=w.heap.size+1) (by simp) _ _⟩
theorem logAll_g {lb:Nat} {l:List FireS} {g:List Blk} (hg:isLog lb l g) (hn:l.length≤1000000):DoesG Tryz.prog 116 #[ptr' lb] [g] fun e gs=>∃ v gv,e=.returned v∧rowG 69 4 v l.length (fires l) gv∧gs=[g,gv]:=by
 have HC:=Lib.hid (show ∀ bl ba,_ from fun bl ba=>collectF_g (enters_of Tryz.func184 (by kernel_rfl) rfl) (those_iter bl ba lb hg (by omega)) (fun c hc=>by
  obtain ⟨a,_,rfl⟩:=List.mem_map.1 hc
  exact ⟨_,_,_,_,rfl⟩) (by rw [List.length_map];exact hn))
 simp only [List.length_map] at HC
 intro w hw
 have T0:=TG.refl hw
 have HT:=Lib.hid T0
 clear hw T0
 go_enter Tryz.func116,Tryz.ntmps116
 go_wp2_with fail
 refine (DoesG.use (logThose_g lb) (HT.out) [] rfl rfl).mono ?_
 rintro e w1 ⟨gs,⟨bl,ba,rfl,rfl⟩,Ta⟩
 simp only [PU] at Ta
 have HT:=Lib.hid Ta
 clear Ta
 go_wp2_with fail
 refine (DoesG.use (HC.out bl ba) (HT.out) [1,2,0] rfl rfl).mono ?_
 rintro e w1 ⟨gs,⟨v,gv,rfl,hr,rfl⟩,Ta⟩
 simp only [PU] at Ta
 have HT:=Lib.hid Ta
 clear Ta
 obtain ⟨av,cap,hv⟩:=rowG.val hr
 subst hv
 have HR:=Lib.hid hr
 clear hr
 go_wp2
 go_ret
 exact ⟨_,⟨_,gv,rfl,HR.out,rfl⟩,HT.out.pick [0,3] rfl⟩
end
section
open Go.RowKit Go.Shelf
structure WkrS where
 holds:List FireS
 worked:Int
inductive MW where
 | takes | takes1
inductive AW where
 | puts
inductive YW where
 | ready
abbrev SW:Type:=St MW AW YW
structure ZW where
 k:WkrS
 x:CoreS
 p:PipeS
 lg:List FireS
def runW:MW→ZW→SW × ZW
 | .takes,z=>(.at (some .ready) .takes1,z)
 | .takes1,z=>(.thn (.row1 .puts) .takes,{ z with k:={ z.k with holds:=z.k.holds++[z.p.take.2.1] },p:=z.p.take.1,x:={ z.x with f:={ z.x.f with busy:=z.x.f.busy+1 } } })
def runAW:AW→ZW→ZW
 | .puts,z=>{ z with lg:=z.lg++z.k.holds,k:=⟨[],z.k.worked+1⟩,x:={ z.x with f:={ z.x.f with busy:=lessN z.x.f.busy } } }
def mayW:YW→ZW→Bool
 | .ready,z=>decide (0<(z.p.ch.length:Int)+z.p.sp.length)
structure WkrOk (z:ZW):Prop where
 busy:0≤z.x.f.busy∧z.x.f.busy≤1000000
 pipe:PipeOk z.p
 room:z.p.room≤1000000
 holds:z.k.holds.length≤1000
 lg:z.lg.length≤1000000
 worked:0≤z.k.worked∧z.k.worked≤1000000
def preW (_:MW) (z:ZW):Prop:=WkrOk z
def preAW (_:AW) (z:ZW):Prop:=WkrOk z∧0<z.k.holds.length
def preYW (_:YW) (z:ZW):Prop:=WkrOk z
def crewC (fb:Nat) (pv hv:Value) (n:Int):Array Value:=#[ptr' fb,pv,hv,.int .i64 n]
abbrev crewB (wb fb:Nat) (pv hv:Value) (n:Int):List Blk:=[cl wb 292 (crewC fb pv hv n)]
def repW (L:Lay) (wb:Nat) (pv:Value) (e:List Blk) (z:ZW) (gK gF:List Blk):Prop :=
 ∃ hv gh gC gP gL,rowG 69 4 hv z.k.holds.length (fires z.k.holds) gh∧isCore L z.x gC∧isPipe L.p.pb z.p gP∧isLog L.p.lb z.lg gL∧gK=crewB wb L.fb pv hv z.k.worked++(gh++e)∧gF=gC++(gP++gL)
def cloW (wb:Nat) (e:List Blk) (fn:FuncId) (v:Value):Prop:=∃ bk,v=.func (.func fn) #[] #[ptr' bk]∧cl bk 255 #[ptr' wb]∈e
def VMW (wb:Nat) (e:List Blk) (f:MW) (v:Value) (g:List Blk):Prop:=g=[]∧match f with
 | .takes=>v=.func (.func 245) #[ptr' wb] #[]
 | .takes1=>cloW wb e 269 v
def VAW (wb:Nat) (e:List Blk) (f:AW) (v:Value) (g:List Blk):Prop:=g=[]∧v=.func (.func 272) #[ptr' wb] #[]
def VYW (wb:Nat) (e:List Blk) (f:YW) (v:Value) (g:List Blk):Prop:=g=[]∧cloW wb e 268 v
def cliW (L:Lay) (wb:Nat) (pv:Value):CliE :=
 ⟨MW,AW,YW,ZW,List Blk,leE,repW L wb pv,VMW wb,VAW wb,VYW wb,runW,runAW,mayW,preW,preAW,preYW⟩
theorem cloW.le {wb:Nat} {e e':List Blk} {fn:FuncId} {v:Value} (h:cloW wb e fn v) (hl:leE e e'):cloW wb e' fn v:=by
 obtain ⟨bk,h1,h2⟩:=h;exact ⟨bk,h1,hl _ h2⟩
theorem cliW_vals (L:Lay) (wb:Nat) (pv:Value) (e:List Blk):((cliW L wb pv).on e).Vals where
 vm {f v g} h:=by
  obtain ⟨_,h⟩:=h
  cases f with
  | takes=>exact ⟨_,_,_,h⟩
  | takes1=>obtain ⟨bk,h,_⟩:=h;exact ⟨_,_,_,h⟩
 va {f v g} h:=⟨_,_,_,h.2⟩
 vy {f v g} h:=by obtain ⟨_,bk,h,_⟩:=h;exact ⟨_,_,_,h⟩
def SRW (L:Lay) (wb:Nat) (pv:Value) (s:SW) (en:Ending) (g' l:List Blk):Prop :=
 ∃ m d,en=.returned (.agg #[m,d])∧∀ e,leE l e→(cliW L wb pv).SV e s m d g'
section
variable {L:Lay} {x:CoreS} {p:PipeS} {lg:List FireS} {g gK gF e:List Blk} {wb:Nat} {pv:Value} {k:WkrS}
set_option maxRecDepth 100000 in
theorem wTakes (L:Lay) (wb:Nat) (pv:Value):DoesG Tryz.prog 245 #[ptr' wb] [] fun en gs=>∃ g' l,SRW L wb pv (.at (some .ready) .takes1) en g' l∧gs=[g',l]:=by
 intro w hw
 have T0:=TG.refl hw
 have HT:=Lib.hid T0
 clear hw T0
 go_enter Tryz.func245,Tryz.ntmps245
 go_wp2_with fail
 refine (DoesG.use (until_g 268 269 #[] #[] #[ptr' w.heap.size] #[ptr' w.heap.size]) ((HT.out.alloc (k:=w.heap.size) rfl 255 #[ptr' wb]).alloc (k:=w.heap.size+1) (by simp) 148 #[.nilFunc,.nilFunc]) [] rfl rfl).mono ?_
 rintro e w1 ⟨gs,⟨rfl,rfl⟩,Ta⟩
 simp only [PU] at Ta
 have HT:=Lib.hid Ta
 clear Ta
 have e0:=HT.out.cell 1 0 rfl 0
 have fe0:=HT.out.free 1 0 rfl 0
 have e1:=HT.out.cell 1 0 rfl 1
 have fe1:=HT.out.free 1 0 rfl 1
 simp only [GE4] at e0 e1
 go_wp2
 exact bodyPost_ret (v:=.agg #[_,_]) (by simp [results,Tryz.results245,go_sem,e0,e1]) rfl ⟨_,⟨[],[cl w.heap.size 255 #[ptr' wb]],⟨_,_,rfl,fun e he=>⟨[],[],⟨rfl,w.heap.size,rfl,he _ (by simp)⟩,⟨rfl,w.heap.size,rfl,he _ (by simp)⟩,rfl⟩⟩,rfl⟩,(((HT.out.set 1 0 rfl 0 _).set 1 0 rfl 1 _).pick [0] rfl).sum⟩
set_option maxRecDepth 100000 in
theorem yReadyW (hz:repW L wb pv e ⟨k,x,p,lg⟩ gK gF) (hp:WkrOk ⟨k,x,p,lg⟩) (bk:Nat) (hb:cl bk 255 #[ptr' wb]∈e) :
 ReadsG Tryz.prog 268 #[ptr' bk] [gK,gF] (.bool (mayW .ready ⟨k,x,p,lg⟩)):=by
 have hch:p.ch.length≤1000000:=Nat.le_trans hp.pipe.ch hp.room
 have hsp:p.sp.length≤1000000:=hp.pipe.sp
 show ReadsG _ _ _ _ (.bool (decide (0<(p.ch.length:Int)+p.sp.length)))
 clear hp
 obtain ⟨hv,gh,gC,gP,gL,hr,hx,hpp,hl,rfl,rfl⟩:=hz
 intro w hw
 have HT:=Lib.hid ((TG.refl hw).sum (H':=[crewB wb L.fb pv hv k.worked,gh,e,gC,gP,gL]))
 have HX:=Lib.hid hx
 have HPL:=Lib.hid (pipeLen_r hpp ⟨hch,hsp⟩)
 have b0:=HT.out.mem_cell 2 hb 0
 have lt:=HT.out.lt 0 0 rfl
 simp only [GE2] at b0 lt
 have k0:=HT.out.cell 0 0 rfl 0
 simp only [crewC,GE3] at k0
 generalize hm:(p.ch.length:Int)+p.sp.length=m at *
 clear hx hr hpp hl hw hch hsp hm
 by_cases h0:0<m
 ·have hd:decide (0<m)=true:=decide_eq_true h0
  rw [hd]
  go_enter Tryz.func268,Tryz.ntmps268
  go_wp2_with fail
  refine (ReadsG.use (corePipe_r HX.out) (HT.out) [3] rfl rfl).mono ?_
  rintro e w1 ⟨rfl,mq,rfl⟩
  go_wp2_with fail
  refine (ReadsG.use (HPL.out) (HT.out.drewN _) [4] rfl rfl).mono ?_
  rintro e w1 ⟨rfl,mq,rfl⟩
  go_wp2
  go_ret
  exact ⟨rfl,_,rfl⟩
 ·have hd:decide (0<m)=false:=decide_eq_false h0
  rw [hd]
  go_enter Tryz.func268,Tryz.ntmps268
  go_wp2_with fail
  refine (ReadsG.use (corePipe_r HX.out) (HT.out) [3] rfl rfl).mono ?_
  rintro e w1 ⟨rfl,mq,rfl⟩
  go_wp2_with fail
  refine (ReadsG.use (HPL.out) (HT.out.drewN _) [4] rfl rfl).mono ?_
  rintro e w1 ⟨rfl,mq,rfl⟩
  go_wp2
  go_ret
  exact ⟨rfl,_,rfl⟩
set_option maxRecDepth 100000 in
set_option maxHeartbeats 2000000 in
theorem aPuts (hz:repW L wb pv e ⟨k,x,p,lg⟩ gK gF) (hp:WkrOk ⟨k,x,p,lg⟩) (h0:0<k.holds.length) :
 DoesG Tryz.prog 272 #[ptr' wb] [gK,gF] fun en gs=>∃ gK' gF',en=.returned (.tuple #[])∧repW L wb pv e (runAW .puts ⟨k,x,p,lg⟩) gK' gF'∧gs=[gK',gF']:=by
 have hbz:=hp.busy
 have hlg:=hp.lg
 have hho:=hp.holds
 have hwk:=hp.worked
 simp only at hbz hlg hho hwk
 clear hp
 have HPT:=Lib.hid (show ∀ g hv gh,isLog L.p.lb lg g→rowG 69 4 hv k.holds.length (fires k.holds) gh→_ from fun g hv gh h1 h2=>logPut_g (hs:=k.holds) h1 h2 h0 (by omega))
 have HCR:=Lib.hid (show ∀ g,isCore L x g→_ from fun g hg=>coreRest hg hbz)
 obtain ⟨hv,gh,gC,gP,gL,hr,hx,hpp,hl,rfl,rfl⟩:=hz
 obtain ⟨av,cap,hv'⟩:=rowG.val hr
 subst hv'
 intro w hw
 have T0:=TG.refl hw
 have HT:=Lib.hid T0
 clear hw T0
 have HT:=Lib.hid (HT.out.sum (H':=[crewB wb L.fb pv (.slice av k.holds.length cap) k.worked,gh,e,gC,gP,gL]))
 have HX:=Lib.hid hx
 have HR:=Lib.hid hr
 have HPP:=Lib.hid hpp
 have HL:=Lib.hid hl
 clear hx hr hpp hl
 have k0:=HT.out.cell 0 0 rfl 0
 have k2:=HT.out.cell 0 0 rfl 2
 simp only [crewC,GE3] at k0 k2
 go_enter Tryz.func272,Tryz.ntmps272
 go_wp2_with fail
 refine wp_region_mix1 9 (by kernel_rfl) (by kernel_rfl) ?_
 simp only [TD4]
 repeat (go_big_quiet_step ((first | (go_at_call 115;with_reducible exact ReadsG.quiet (coreLog_r HX.out) HT.out _ [3] rfl rfl))))
 refine wpQuiet_nil ?_
 intro _ hw'
 obtain ⟨nq,hw''⟩:=hw'
 subst hw''
 have HT:=Lib.hid (HT.out.drewN nq)
 go_wp2_with fail
 refine (DoesG.use (HPT.out _ _ _ HL.out HR.out) (HT.out) [5,1] rfl rfl).mono ?_
 rintro e w1 ⟨gs,⟨rfl,g1,hl1,rfl⟩,Ta⟩
 simp only [PU] at Ta
 have HL:=Lib.hid hl1
 clear hl1 k0 k2
 have HT:=Lib.hid Ta
 clear Ta
 go_wp2_with fail
 refine ⟨rfl,?_⟩
 have k0:=HT.out.cell 0 0 rfl 0
 have k2:=HT.out.cell 0 0 rfl 2
 have fk2:=HT.out.free 0 0 rfl 2
 have k3:=HT.out.cell 0 0 rfl 3
 have fk3:=HT.out.free 0 0 rfl 3
 simp only [crewC,GE3] at k0 k2 k3
 have lt:=HT.out.lt 0 0 rfl
 simp only [] at lt
 go_wp2_with fail
 go_wp2_with fail
 refine (DoesG.use (HCR.out _ HX.out) ((HT.out.set 0 0 rfl 2 (.slice none 0 0)).set 0 0 rfl 3 (.int .i64 (k.worked+1))) [3] rfl rfl).mono ?_
 rintro e w1 ⟨gs,⟨rfl,g2,hx2,rfl⟩,Ta⟩
 simp only [PU] at Ta
 have HX:=Lib.hid hx2
 clear hx2
 have HT:=Lib.hid Ta
 clear Ta
 go_wp2
 exact bodyPost_end (results_none rfl _ _ _) rfl ⟨_,⟨_,_,rfl,⟨.slice none 0 0,[],g2,gP,g1,rowG_nil _ _,HX.out,HPP.out,HL.out,(rfl:crewB wb L.fb pv (.slice none 0 0) (k.worked+1)++([]++e)=_),rfl⟩,rfl⟩,(((HT.out.pick [0,2,3,4,5] rfl).eq (H':=[crewB wb L.fb pv (.slice none 0 0) (k.worked+1),e,g2,gP,g1]) rfl).sum)⟩
set_option maxRecDepth 100000 in
set_option maxHeartbeats 4000000 in
theorem tTakes1 {e_:List Blk} (hz:repW L wb pv e_ ⟨k,x,p,lg⟩ gK gF) (hp:WkrOk ⟨k,x,p,lg⟩) (bk:Nat) (hb:cl bk 255 #[ptr' wb]∈e_) :
 DoesG Tryz.prog 269 #[ptr' bk] [gK,gF] fun en gs=>∃ m d g' gK' gF',en=.returned (.agg #[m,d])∧(cliW L wb pv).SV e_ (runW .takes1 ⟨k,x,p,lg⟩).1 m d g'∧repW L wb pv e_ (runW .takes1 ⟨k,x,p,lg⟩).2 gK' gF'∧gs=[g',gK',gF']:=by
 have hbz:=hp.busy
 have hho:=hp.holds
 simp only at hbz hho
 have HTK:=Lib.hid (show ∀ g,isPipe L.p.pb p g→_ from fun g hg=>pipeTake_g hg hp.pipe)
 clear hp
 have HCW:=Lib.hid (show ∀ g,isCore L x g→_ from fun g hg=>coreWork hg hbz)
 obtain ⟨f,hf⟩:∃ f,p.take.2.1=f:=⟨_,rfl⟩
 have HF:=Lib.hid hf
 rw [hf,vals_arr] at HTK
 clear hf
 obtain ⟨hv,gh,gC,gP,gL,hr,hx,hpp,hl,rfl,rfl⟩:=hz
 obtain ⟨av,cap,hv'⟩:=rowG.val hr
 subst hv'
 intro w hw
 have T0:=TG.refl hw
 have HT:=Lib.hid T0
 clear hw T0
 have HT:=Lib.hid (HT.out.sum (H':=[crewB wb L.fb pv (.slice av k.holds.length cap) k.worked,gh,e_,gC,gP,gL]))
 have HX:=Lib.hid hx
 have HR:=Lib.hid hr
 have HPP:=Lib.hid hpp
 have HL:=Lib.hid hl
 clear hx hr hpp hl
 have HB:=Lib.hid hb
 have b0:=HT.out.mem_cell 2 HB.out 0
 have ltb:=HT.out.mem_lt 2 HB.out
 have ltk:=HT.out.lt 0 0 rfl
 simp only [GE2] at b0 ltb ltk
 have k0:=HT.out.cell 0 0 rfl 0
 simp only [crewC,GE3] at k0
 go_enter Tryz.func269,Tryz.ntmps269
 go_wp2_with fail
 have HT:=Lib.hid (HT.out.alloc (k:=w.heap.size) rfl 148 #[.nilFunc,.nilFunc])
 obtain ⟨rb,hrb⟩:∃ rb,rb=w.heap.size:=⟨_,rfl⟩
 rw [← hrb] at HT ⊢
 clear hrb hb b0 ltb ltk k0
 generalize World.alloc w _=wa at HT ⊢
 go_wp2_with fail
 refine (ReadsG.use (corePipe_r HX.out) (HT.out) [3] rfl rfl).mono ?_
 rintro e w1 ⟨rfl,mq,rfl⟩
 have HT:=Lib.hid (HT.out.drewN mq)
 generalize World.drewN _ _=wq at HT ⊢
 go_wp2_with fail
 refine (DoesG.use (HTK.out _ HPP.out) (HT.out) [4] rfl rfl).mono ?_
 rintro e w1 ⟨gs,⟨rfl,g1,hp1,rfl⟩,Ta⟩
 simp only [PU] at Ta
 have HPP:=Lib.hid hp1
 clear hp1
 have HT:=Lib.hid Ta
 clear Ta
 go_wp2_with fail
 have HT:=Lib.hid (HT.out.alloc (k:=w1.heap.size) rfl 69 #[.int .u64 f.id,.int .u64 f.gen,.int .u64 f.dl,.int .u64 f.tick])
 obtain ⟨vb,hvb⟩:∃ vb,vb=w1.heap.size:=⟨_,rfl⟩
 rw [← hvb] at HT ⊢
 clear hvb
 generalize World.alloc w1 _=wb1 at HT ⊢
 have b0:=HT.out.mem_cell 2 HB.out 0
 have ltb:=HT.out.mem_lt 2 HB.out
 simp only [GE2] at b0 ltb
 have k2:=HT.out.cell 0 0 rfl 2
 simp only [crewC,GE3] at k2
 have v0:=HT.out.cell 7 0 rfl 0
 have v1:=HT.out.cell 7 0 rfl 1
 have v2:=HT.out.cell 7 0 rfl 2
 have v3:=HT.out.cell 7 0 rfl 3
 simp only [GE4] at v0 v1 v2 v3
 have ltk:=HT.out.lt 0 0 rfl
 simp only [] at ltk
 simp only [List.cons_append,List.nil_append] at HT
 have HT:=Lib.hid HT.out.drew
 apply use_key3 (α:=Option Addr) (β:=Nat) (A:=fun a1 cap1 w5=>∃ gl1,rowG 69 4 (.slice a1 (k.holds.length+1) cap1) (k.holds.length+1) (fires k.holds++f.vals) gl1 ∧
  TG [crewB wb L.fb pv (.slice av k.holds.length cap) k.worked++(gh++e_),gC++(gP++gL)] w [crewB wb L.fb pv (.slice a1 (k.holds.length+1) cap1) k.worked,gl1,e_,gC,g1,gL,[cl rb 148 #[.nilFunc,.nilFunc]]] w5)
 case main =>
  intro key
  go_region_law (
   refine step_append_G rfl (.tmp 17) (.tmp 19) 89 rfl 4 32 _ Tryz.underlying89 fire_info rfl (by decide) (HT.out.alloc0 _) 1 rfl rfl HR.out rfl ⟨wb1.heap.size,0,none⟩ 1 1 [.int .u64 f.id,.int .u64 f.gen,.int .u64 f.dl,.int .u64 f.tick] rfl rfl (news_alloc _ _ _) (by simp [Value.oneCell']) (by unfold maxLen;omega) (by omega) ?_
   intro v w3 gl1 r T
   simp only [List.set_cons_zero,List.set_cons_succ] at T
   obtain ⟨a1,cap1,rfl⟩:=r.val
   have f2:=T.free 0 0 rfl 2
   have c2:=T.cell 0 0 rfl 2
   have bq:=T.mem_cell 2 HB.out 0
   simp only [crewC,GE3] at c2 bq
   have T:=Lib.hid T
   have r:=Lib.hid r)
  all_goals
   have T5:=(T.out.set 0 0 rfl 2 (.slice a1 (k.holds.length+1) cap1)).eq (H':=[crewB wb L.fb pv (.slice a1 (k.holds.length+1) cap1) k.worked,gl1,e_,gC,g1,gL,[cl rb 148 #[.nilFunc,.nilFunc]],[cl vb 69 #[.int .u64 f.id,.int .u64 f.gen,.int .u64 f.dl,.int .u64 f.tick]]]) rfl
   generalize World.setCell _ _ _=w5 at T5 ⊢
   exact key a1 cap1 w5 ⟨gl1,r.out,T5.pick [0,1,2,3,4,5,6] rfl⟩
 case key =>
  rintro a1 cap1 w5 ⟨gl1,r,T⟩
  have HT:=Lib.hid T
  have RR:=Lib.hid (show rowG 69 4 (.slice a1 (k.holds.length+1) cap1) (k.holds++[f]).length (fires (k.holds++[f])) gl1 from by
   rw [List.length_append,fires_app]
   simpa [fires,flatV] using r)
  clear r T b0 k2 v0 v1 v2 v3 ltb ltk
  have b0:=HT.out.mem_cell 2 HB.out 0
  have ltb:=HT.out.mem_lt 2 HB.out
  simp only [GE2] at b0 ltb
  have k0:=HT.out.cell 0 0 rfl 0
  simp only [crewC,GE3] at k0
  go_wp2_with fail
  refine (DoesG.use (HCW.out _ HX.out) (HT.out) [3] rfl rfl).mono ?_
  rintro e w1 ⟨gs,⟨rfl,g2,hx2,rfl⟩,Ta⟩
  simp only [PU] at Ta
  have HX:=Lib.hid hx2
  clear hx2 b0 k0 ltb
  have HT:=Lib.hid Ta
  clear Ta
  generalize w1=w6 at HT ⊢
  have b0:=HT.out.mem_cell 2 HB.out 0
  have ltb:=HT.out.mem_lt 2 HB.out
  have ltr:=HT.out.lt 6 0 rfl
  simp only [GE2] at b0 ltb ltr
  go_wp2_with fail
  go_region_held3 (fun w'=>w'.cell? ⟨bk,0,none⟩=some (ptr' wb))
   (first
   | exact b0
   | exact q1
   | exact r1
   | exact (((HT8.out.set 6 0 rfl 0 .nilFunc).set 6 0 rfl 1 (.func (.func 226) #[] #[ptr' bs,ptr' br])).mem_cell 2 HB.out 0)
   | (simp [go_sem,b0,ltb,Nat.ne_of_lt ltb,Nat.ne_of_gt ltb];done))
   (first
   | (go_at_call 164
      refine (DoesG.use (Cli.row_1 (b:=w6.heap.size) (o:=0) (D:=#[.func (.func 272) #[ptr' wb] #[]]) rfl 1 (.inl rfl)) (HT.out.drew.alloc (k:=w6.heap.size) rfl 1 #[.func (.func 272) #[ptr' wb] #[]]) [7] rfl rfl).mono ?_
      rintro e w7 ⟨gs,⟨bf,bl,bi,rfl,rfl⟩,Ta⟩
      simp only [PU] at Ta
      have HT7:=Lib.hid Ta
      clear Ta
      have q1:=HT7.out.mem_cell 2 HB.out 0
      simp only [GE3] at q1
      have hsv:((cliW L wb pv).on e_).SV (.row1 .puts) .nilFunc (.func (.func 188) #[] #[ptr' bf,ptr' bl,ptr' bi]) ([cl bf 1 #[.func (.func 272) #[ptr' wb] #[]],cl bl 303 #[.slice (some ⟨w6.heap.size,0,none⟩) 1 1],cl bi 3 #[.int .i64 0],cl w6.heap.size 1 #[.func (.func 272) #[ptr' wb] #[]]]++[]) :=
       ⟨rfl,bf,bl,bi,w6.heap.size,0,_,_,[],rfl,⟨rfl,rfl⟩,rfl,rfl⟩
      have HSV:=Lib.hid hsv
      clear hsv)
   | (go_at_call 191
      refine (DoesG.use (Cli.prog_then_x (c:=(cliW L wb pv).on e_) (f:=MW.takes) (v:=.func (.func 245) #[ptr' wb] #[]) (gm:=[]) (cliW_vals L wb pv _) rfl HSV.out ⟨rfl,rfl⟩) (HT7.out.sum2 (H':=[crewB wb L.fb pv (.slice a1 (k.holds.length+1) cap1) k.worked,gl1,e_,g2,g1,gL,[cl rb 148 #[.nilFunc,.nilFunc]],[cl bf 1 #[.func (.func 272) #[ptr' wb] #[]],cl bl 303 #[.slice (some ⟨w6.heap.size,0,none⟩) 1 1],cl bi 3 #[.int .i64 0],cl w6.heap.size 1 #[.func (.func 272) #[ptr' wb] #[]]]++[],[]])) [7,8] rfl rfl).mono ?_
      rintro e w8 ⟨gs,⟨bs,br,rfl,rfl⟩,Ta⟩
      simp only [PU] at Ta
      have HT8:=Lib.hid Ta
      clear Ta
      have r1:=HT8.out.mem_cell 2 HB.out 0
      have z0:=HT8.out.cell 6 0 rfl 0
      have fz0:=HT8.out.free 6 0 rfl 0
      have z1:=HT8.out.cell 6 0 rfl 1
      have fz1:=HT8.out.free 6 0 rfl 1
      simp only [GE3] at r1 z0 z1))
  all_goals
   have T9:=((HT8.out.set 6 0 rfl 0 .nilFunc).set 6 0 rfl 1 (.func (.func 226) #[] #[ptr' bs,ptr' br])).pick [7,0,1,2,3,4,5] rfl
   have HREP:repW L wb pv e_ (runW .takes1 ⟨k,x,p,lg⟩).2 (crewB wb L.fb pv (.slice a1 (k.holds.length+1) cap1) k.worked++(gl1++e_)) (g2++(g1++gL)):=by
    show repW L wb pv e_ ⟨⟨k.holds++[p.take.2.1],k.worked⟩,{ x with f:={ x.f with busy:=x.f.busy+1 } },p.take.1,lg⟩ _ _
    rw [HF.out]
    exact ⟨_,gl1,g2,g1,gL,RR.out,HX.out,HPP.out,HL.out,rfl,rfl⟩
   have HSV2:=HSV.out
   have HTF:=Lib.hid (And.intro T9 (And.intro HREP HSV2))
   clear T9 HREP HSV2
   go_wp2
   exact bodyPost_ret (v:=.agg #[.nilFunc,_]) (by simp [results,Tryz.results269,go_sem,z0,z1]) rfl ⟨_,⟨_,_,_,_,_,rfl,⟨bs,br,_,_,_,[],rfl,rfl,HTF.out.2.2,⟨rfl,rfl⟩,rfl⟩,HTF.out.2.1,rfl⟩,HTF.out.1.sum2⟩
end
end
section
open Go.RowKit Go.Shelf
theorem mTakesW {L:Lay} {wb:Nat} {pv:Value} {e gK gF:List Blk} {z:ZW} (hz:repW L wb pv e z gK gF):DoesG Tryz.prog 245 #[ptr' wb] [gK,gF] fun en gs =>
 ∃ e',leE e e'∧∃ m d g' gK' gF',en=.returned (.agg #[m,d])∧(cliW L wb pv).SV e' (runW .takes z).1 m d g'∧repW L wb pv e' (runW .takes z).2 gK' gF'∧gs=[g',gK',gF']:=by
 obtain ⟨hv,gh,gC,gP,gL,hr,hx,hpp,hl,rfl,rfl⟩:=hz
 intro w hw
 refine (DoesG.use (wTakes L wb pv) (TG.refl hw) [] rfl rfl).mono ?_
 rintro en w1 ⟨gs,⟨g',l,⟨m,d,rfl,hs⟩,rfl⟩,Ta⟩
 exact ⟨_,⟨e++l,leE.app _ _,m,d,g',_,_,rfl,hs _ (fun b hb=>List.mem_append_right _ hb),⟨hv,gh,gC,gP,gL,hr,hx,hpp,hl,(rfl:crewB wb L.fb pv hv z.k.worked++(gh++(e++l))=_),rfl⟩,rfl⟩,TG.sum (H:=[crewB wb L.fb pv hv z.k.worked++(gh++e),gC++(gP++gL),g',l]) Ta⟩
set_option maxRecDepth 100000 in
theorem cliW_ok (L:Lay) (wb:Nat) (pv:Value):(cliW L wb pv).Ok where
 refl:=leE.refl
 trans h1 h2:=fun b hb=>h2 b (h1 b hb)
 mm {e e' f v g} hl h:=by
  obtain ⟨h0,h⟩:=h
  refine ⟨h0,?_⟩
  cases f with
  | takes=>exact h
  | takes1=>exact cloW.le h hl
 ma hl h:=h
 v e:=cliW_vals L wb pv e
 m {e f v g gK gF z} hv hz hp:=by
   obtain ⟨k,x,p,lg⟩:=z
   obtain ⟨rfl,hv⟩:=hv
   cases f with
   | takes =>
     subst hv
     refine ⟨_,_,_,rfl,fun _ _=>rfl,(DoesG.pre (gs':=[[],gK,gF]) (mTakesW hz) rfl)⟩
   | takes1 =>
     obtain ⟨bk,rfl,hb⟩:=hv
     refine ⟨_,_,_,rfl,fun _ _=>rfl,(DoesG.pre (gs':=[[],gK,gF]) (tTakes1 hz hp bk hb) rfl).mono ?_⟩
     rintro en gs ⟨m,d,g',gK',gF',h1,h2,h3,rfl⟩
     exact ⟨e,leE.refl _,m,d,g',gK',gF',h1,h2,h3,rfl⟩
 a {e f v g gK gF z} hv hz hp:=by
   obtain ⟨k,x,p,lg⟩:=z
   obtain ⟨rfl,hv⟩:=hv
   cases f
   subst hv
   refine ⟨_,_,_,rfl,fun _ _=>rfl,((aPuts hz hp.1 hp.2).pre (gs':=[[],gK,gF]) rfl).post ?_⟩
   rintro en gs ⟨gK',gF',h1,h2,rfl⟩
   exact ⟨[[],gK',gF'],⟨e,leE.refl _,gK',gF',h1,h2,rfl⟩,.refl _⟩
 y {e f v g gK gF z} hv hz hp:=by
   obtain ⟨k,x,p,lg⟩:=z
   obtain ⟨rfl,bk,rfl,hb⟩:=hv
   cases f
   refine ⟨_,_,_,rfl,fun _ _=>rfl,fun w hw=>?_⟩
   refine (ReadsG.use (yReadyW hz hp bk hb) (TG.refl hw) [1,2] rfl rfl).mono ?_
   rintro en w1 ⟨rfl,m,rfl⟩
   exact ⟨_,⟨gK,gF,rfl,hz,rfl⟩,(TG.refl hw).drewN m⟩
def isWK (L:Lay) (wb:Nat) (pv:Value) (e:List Blk) (k:WkrS) (gK:List Blk):Prop:=∃ hv gh,rowG 69 4 hv k.holds.length (fires k.holds) gh∧gK=crewB wb L.fb pv hv k.worked++(gh++e)
def isWF (L:Lay) (x:CoreS) (p:PipeS) (lg:List FireS) (gF:List Blk):Prop:=∃ gC gP gL,isCore L x gC∧isPipe L.p.pb p gP∧isLog L.p.lb lg gL∧gF=gC++(gP++gL)
theorem repW_iff {L:Lay} {wb:Nat} {pv:Value} {e gK gF:List Blk} {z:ZW}:repW L wb pv e z gK gF↔isWK L wb pv e z.k gK∧isWF L z.x z.p z.lg gF :=
 ⟨fun ⟨hv,gh,gC,gP,gL,a,b,c,d,h,i⟩=>⟨⟨hv,gh,a,h⟩,⟨gC,gP,gL,b,c,d,i⟩⟩,fun ⟨⟨hv,gh,a,h⟩,⟨gC,gP,gL,b,c,d,i⟩⟩=>⟨hv,gh,gC,gP,gL,a,b,c,d,h,i⟩⟩
def isWkr (L:Lay) (wb:Nat) (s:SW) (n:Int) (k:WkrS) (g:List Blk):Prop :=
 ∃ (pb:Nat) (e:List Blk) (m d:Value) (gst gK:List Blk),(cliW L wb (ptr' pb)).SV e s m d gst∧isWK L wb (ptr' pb) e k gK∧g=Cli.progB pb m d n++(gst++gK)
def stepWk (s:SW) (z:ZW):SW × ZW:=St.run runW runAW s z
def preSW (s:SW) (z:ZW):Prop:=St.pre runW runAW preW preAW s z
def mayWk (s:SW) (z:ZW):Bool:=s.may mayW z
def preYSW (s:SW) (z:ZW):Prop:=St.preY preYW s z
section
variable {L:Lay} {x:CoreS} {p:PipeS} {lg:List FireS} {g gF:List Blk} {wb:Nat} {s:SW} {n:Int} {k:WkrS}
set_option maxRecDepth 100000 in
theorem wkrStep (hc:isWkr L wb s n k g) (hx:isWF L x p lg gF) (hy:preYSW s ⟨k,x,p,lg⟩) (hm:mayWk s ⟨k,x,p,lg⟩=true) (hp:preSW s ⟨k,x,p,lg⟩) (hb:0≤n∧n≤1000000000) :
 DoesG Tryz.prog 379 #[ptr' wb] [g,gF] fun en gs=>∃ g' gF',en=.returned (.bool true)∧isWkr L wb (stepWk s ⟨k,x,p,lg⟩).1 (n+1) (stepWk s ⟨k,x,p,lg⟩).2.k g'∧isWF L (stepWk s ⟨k,x,p,lg⟩).2.x (stepWk s ⟨k,x,p,lg⟩).2.p (stepWk s ⟨k,x,p,lg⟩).2.lg gF'∧gs=[g',gF']:=by
 obtain ⟨pb,e,m,d,gst,gK,hs,hk,rfl⟩:=hc
 have hd:=CliE.prog_step (n:=n) (cliW_ok L wb (ptr' pb)) hs (x:=(⟨k,x,p,lg⟩:ZW)) (repW_iff.2 ⟨hk,hx⟩) hy hp pb hb hm
 obtain ⟨hv,gh,hl,rfl⟩:=hk
 intro w hw
 have T0:=TG.refl hw
 have HT:=Lib.hid T0
 clear hw T0
 have T1:=HT.out.sum (H':=[crewB wb L.fb (ptr' pb) hv k.worked,Cli.progB pb m d n++(gst++(gh++e)),gF])
 have k1:=T1.cell 0 0 rfl 1
 simp only [crewC,GE3] at k1
 have lt:=T1.lt 0 0 rfl
 simp only [] at lt
 have HD:=Lib.hid hd
 have HT:=Lib.hid (HT.out.sum (H':=[Cli.progB pb m d n,gst,crewB wb L.fb (ptr' pb) hv k.worked++(gh++e),gF]))
 clear hs hl hx hy hm hp hb hd T1
 go_enter Tryz.func379,Tryz.ntmps379
 go_wp2_with fail
 refine (DoesG.use (HD.out) (HT.out) [0,1,2,3] rfl rfl).mono ?_
 rintro e w1 ⟨gs,⟨e',hle,m',d',gst',gK',gF',rfl,hs',hx',rfl⟩,Ta⟩
 simp only [PU] at Ta
 have HS:=Lib.hid hs'
 have HX:=Lib.hid (repW_iff.1 hx')
 clear hs' hx' k1
 have HT:=Lib.hid Ta
 clear Ta
 go_wp2
 go_ret
 exact ⟨_,⟨_,gF',rfl,⟨pb,e',m',d',gst',gK',HS.out,HX.out.1,rfl⟩,HX.out.2,rfl⟩,HT.out.sum⟩
set_option maxRecDepth 100000 in
theorem wkrNo (hc:isWkr L wb s n k g) (hx:isWF L x p lg gF) (hy:preYSW s ⟨k,x,p,lg⟩) (hm:mayWk s ⟨k,x,p,lg⟩=false) :
 DoesG Tryz.prog 379 #[ptr' wb] [g,gF] fun en gs=>en=.returned (.bool false)∧∃ g' gF',isWkr L wb s n k g'∧isWF L x p lg gF'∧gs=[g',gF']:=by
 obtain ⟨pb,e,m,d,gst,gK,hs,hk,rfl⟩:=hc
 have hd:=CliE.prog_step_no (n:=n) (cliW_ok L wb (ptr' pb)) hs (x:=(⟨k,x,p,lg⟩:ZW)) (repW_iff.2 ⟨hk,hx⟩) hy pb hm
 obtain ⟨hv,gh,hl,rfl⟩:=hk
 intro w hw
 have T0:=TG.refl hw
 have HT:=Lib.hid T0
 clear hw T0
 have T1:=HT.out.sum (H':=[crewB wb L.fb (ptr' pb) hv k.worked,Cli.progB pb m d n++(gst++(gh++e)),gF])
 have k1:=T1.cell 0 0 rfl 1
 simp only [crewC,GE3] at k1
 have lt:=T1.lt 0 0 rfl
 simp only [] at lt
 have HD:=Lib.hid hd
 have HS:=Lib.hid hs
 have HT:=Lib.hid (HT.out.sum (H':=[Cli.progB pb m d n,gst,crewB wb L.fb (ptr' pb) hv k.worked++(gh++e),gF]))
 clear hs hl hx hy hm hd T1
 go_enter Tryz.func379,Tryz.ntmps379
 go_wp2_with fail
 refine (DoesG.use (HD.out) (HT.out) [0,1,2,3] rfl rfl).mono ?_
 rintro e w1 ⟨gs,⟨gK',gF',rfl,hx',rfl⟩,Ta⟩
 simp only [PU] at Ta
 have HX:=Lib.hid (repW_iff.1 hx')
 clear hx' k1
 have HT:=Lib.hid Ta
 clear Ta
 go_wp2
 go_ret
 exact ⟨_,⟨rfl,_,gF',⟨pb,e,m,d,gst,gK',HS.out,HX.out.1,rfl⟩,HX.out.2,rfl⟩,HT.out.sum⟩
set_option maxRecDepth 100000 in
theorem wkrMay (hc:isWkr L wb s n k g) (hx:isWF L x p lg gF) (hy:preYSW s ⟨k,x,p,lg⟩) :
 DoesG Tryz.prog 378 #[ptr' wb] [g,gF] fun en gs=>en=.returned (.bool (mayWk s ⟨k,x,p,lg⟩))∧∃ g' gF',isWkr L wb s n k g'∧isWF L x p lg gF'∧gs=[g',gF']:=by
 obtain ⟨pb,e,m,d,gst,gK,hs,hk,rfl⟩:=hc
 have hd:=CliE.prog_may (n:=n) (cliW_ok L wb (ptr' pb)) hs (x:=(⟨k,x,p,lg⟩:ZW)) (repW_iff.2 ⟨hk,hx⟩) hy pb
 have hd:DoesG Tryz.prog 101 _ _ fun en gs=>∃ gK' gF',en=.returned (.bool (mayWk s ⟨k,x,p,lg⟩))∧repW L wb (ptr' pb) e ⟨k,x,p,lg⟩ gK' gF'∧_:=hd
 generalize mayWk s ⟨k,x,p,lg⟩=v at *
 obtain ⟨hv,gh,hl,rfl⟩:=hk
 intro w hw
 have T0:=TG.refl hw
 have HT:=Lib.hid T0
 clear hw T0
 have T1:=HT.out.sum (H':=[crewB wb L.fb (ptr' pb) hv k.worked,Cli.progB pb m d n++(gst++(gh++e)),gF])
 have k1:=T1.cell 0 0 rfl 1
 simp only [crewC,GE3] at k1
 have lt:=T1.lt 0 0 rfl
 simp only [] at lt
 have HD:=Lib.hid hd
 have HS:=Lib.hid hs
 have HT:=Lib.hid (HT.out.sum (H':=[Cli.progB pb m d n,gst,crewB wb L.fb (ptr' pb) hv k.worked++(gh++e),gF]))
 clear hs hl hx hy hd T1
 go_enter Tryz.func378,Tryz.ntmps378
 go_wp2_with fail
 refine (DoesG.use (HD.out) (HT.out) [0,1,2,3] rfl rfl).mono ?_
 rintro e w1 ⟨gs,⟨gK',gF',rfl,hx',rfl⟩,Ta⟩
 simp only [PU] at Ta
 have HX:=Lib.hid (repW_iff.1 hx')
 clear hx' k1
 have HT:=Lib.hid Ta
 clear Ta
 go_wp2
 go_ret
 exact ⟨_,⟨rfl,_,gF',⟨pb,e,m,d,gst,gK',HS.out,HX.out.1,rfl⟩,HX.out.2,rfl⟩,HT.out.sum⟩
def headF:List FireS→FireS
 | []=>FireS.zero
 | f::_=>f
set_option maxRecDepth 100000 in
set_option maxHeartbeats 1000000 in
theorem wkrHolds (hc:isWkr L wb s n k g) (hn:k.holds.length≤1000):DoesG Tryz.prog 155 #[ptr' wb] [g] fun en gs=>en=.returned (.tuple #[.agg (headF k.holds).vals.toArray,.bool (!k.holds.isEmpty)])∧gs=[g]:=by
 obtain ⟨pb,e,m,d,gst,gK,hs,⟨hv,gh,hl,rfl⟩,rfl⟩:=hc
 cases hh:k.holds with
 | nil =>
   rw [show k.holds.length=0 from by rw [hh];rfl] at hl
   obtain ⟨av,cap,rfl⟩:=rowG.val hl
   intro w hw
   have T0:=TG.refl hw
   have HT:=Lib.hid T0
   clear hw T0
   have HT:=Lib.hid (HT.out.sum (H':=[crewB wb L.fb (ptr' pb) (.slice av 0 cap) k.worked,Cli.progB pb m d n++(gst++(gh++e))]))
   have k2:=HT.out.cell 0 0 rfl 2
   simp only [crewC,GE3] at k2
   have lt:=HT.out.lt 0 0 rfl
   simp only [] at lt
   clear hs hl hh
   go_enter Tryz.func155,Tryz.ntmps155
   go_wp2
   have HT2:=Lib.hid (HT.out.alloc (k:=w.heap.size) rfl 69 #[.int .u64 0,.int .u64 0,.int .u64 0,.int .u64 0])
   have r0:=HT2.out.cell 2 0 rfl 0
   have r1:=HT2.out.cell 2 0 rfl 1
   have r2:=HT2.out.cell 2 0 rfl 2
   have r3:=HT2.out.cell 2 0 rfl 3
   simp only [GE4] at r0 r1 r2 r3
   exact bodyPost_ret (v:=.tuple #[.agg #[.int .u64 0,.int .u64 0,.int .u64 0,.int .u64 0],.bool false]) (by simp [results,Tryz.results155,go_sem,r0,r1,r2,r3]) rfl ⟨_,⟨rfl,rfl⟩,(HT2.out.pick [0,1] rfl).sum⟩
 | cons f l =>
   have h0:0<k.holds.length:=by rw [hh];exact Nat.zero_lt_succ _
   obtain ⟨hb,hcap,hcur,rfl,hgh,hc1,hc2,hc3,hc4⟩:=hl.open h0
   have hf0:(fires k.holds)[0]?=some (.int .u64 f.id)∧(fires k.holds)[1]?=some (.int .u64 f.gen)∧(fires k.holds)[2]?=some (.int .u64 f.dl)∧(fires k.holds)[3]?=some (.int .u64 f.tick):=by
    rw [hh];exact ⟨rfl,rfl,rfl,rfl⟩
   obtain ⟨q0,q1,q2,q3⟩:=hf0
   have a0:=(hc4 0 (by omega)).trans q0
   have a1:=(hc4 1 (by omega)).trans q1
   have a2:=(hc4 2 (by omega)).trans q2
   have a3:=(hc4 3 (by omega)).trans q3
   intro w hw
   have T0:=TG.refl hw
   have HT:=Lib.hid T0
   clear hw T0
   have HT:=Lib.hid (HT.out.sum (H':=[crewB wb L.fb (ptr' pb) (.slice (some ⟨hb,0,none⟩) k.holds.length hcap) k.worked,gh,Cli.progB pb m d n++(gst++e)]))
   rw [hgh] at HT
   obtain ⟨N,hN⟩:∃ N,k.holds.length=N:=⟨_,rfl⟩
   rw [hN] at HT h0 hc1 hn ⊢
   have p0:=(HT.out.cell 1 0 rfl 0).trans a0
   have p1:=(HT.out.cell 1 0 rfl 1).trans a1
   have p2:=(HT.out.cell 1 0 rfl 2).trans a2
   have p3:=(HT.out.cell 1 0 rfl 3).trans a3
   have k2:=HT.out.cell 0 0 rfl 2
   simp only [crewC,GE3] at k2
   have lt:=HT.out.lt 0 0 rfl
   have lt2:=HT.out.lt 1 0 rfl
   simp only [] at lt lt2
   clear hs hl hh hc2 hc3 hc4 a0 a1 a2 a3 q0 q1 q2 q3
   go_enter Tryz.func155,Tryz.ntmps155
   go_wp2
   have HT2:=Lib.hid (HT.out.alloc (k:=w.heap.size) rfl 69 #[.int .u64 f.id,.int .u64 f.gen,.int .u64 f.dl,.int .u64 f.tick])
   have r0:=HT2.out.cell 3 0 rfl 0
   have r1:=HT2.out.cell 3 0 rfl 1
   have r2:=HT2.out.cell 3 0 rfl 2
   have r3:=HT2.out.cell 3 0 rfl 3
   simp only [GE4] at r0 r1 r2 r3
   have T9:=HT2.out.pick [0,1,2] rfl
   change TG _ w [_,[cl hb 69 hcur],_] _ at T9
   rw [← hgh] at T9
   exact bodyPost_ret (v:=.tuple #[.agg #[.int .u64 f.id,.int .u64 f.gen,.int .u64 f.dl,.int .u64 f.tick],.bool true]) (by simp [results,Tryz.results155,go_sem,r0,r1,r2,r3]) rfl ⟨_,⟨rfl,rfl⟩,T9.sum⟩
end
end
section
open Go.RowKit Go.Shelf
attribute [local go_sem] Oper.semAt_some
def wkr0:WkrS:=⟨[],0⟩
def firstW:SW:=.at (some .ready) .takes1
set_option maxRecDepth 100000 in
theorem crewBegin (L:Lay):DoesG Tryz.prog 219 #[ptr' L.fb] [] fun en gs=>∃ wb g,en=.returned (.tuple #[ptr' wb,.int .i64 0])∧isWkr L wb firstW 0 wkr0 g∧gs=[g]:=by
 have HNW:=Lib.hid (show ∀ wb (m d:Value) gst l,(∀ e,leE l e→(cliW L wb (.pointer none)).SV e firstW m d gst)→_ from fun wb m d gst l h=>Cli.prog_new_v (cliW_vals L wb (.pointer none) l) (h l (fun b hb=>hb)))
 intro w hw
 have T0:=TG.refl hw
 have HT:=Lib.hid T0
 clear hw T0
 go_enter Tryz.func219,Tryz.ntmps219
 go_wp2_with fail
 refine (DoesG.use (wTakes L w.heap.size (.pointer none)) (HT.out.alloc (k:=w.heap.size) rfl 292 (crewC L.fb (.pointer none) (.slice none 0 0) 0)) [] rfl rfl).mono ?_
 rintro e w1 ⟨gs,⟨gst,l,⟨m,d,rfl,hs⟩,rfl⟩,Ta⟩
 simp only [PU] at Ta
 have HS:=Lib.hid hs
 clear hs
 have HT:=Lib.hid Ta
 clear Ta
 go_wp2_with fail
 refine (DoesG.use (HNW.out _ _ _ _ _ HS.out) (HT.out) [1] rfl rfl).mono ?_
 rintro e w1 ⟨gs,⟨pb,rfl,rfl⟩,Ta⟩
 simp only [PU] at Ta
 have HT:=Lib.hid Ta
 clear Ta
 have k1:=HT.out.cell 0 0 rfl 1
 have fk1:=HT.out.free 0 0 rfl 1
 simp only [crewC,GE3] at k1
 go_wp2
 go_ret2
 exact ⟨_,⟨_,_,rfl,⟨pb,l,m,d,gst,crewB w.heap.size L.fb (ptr' pb) (.slice none 0 0) 0++([]++l),HS.out l (fun b hb=>hb),⟨_,[],rowG_nil _ _,rfl⟩,rfl⟩,rfl⟩,(((HT.out.set 0 0 rfl 1 (ptr' pb)).eq (H':=[crewB w.heap.size L.fb (ptr' pb) (.slice none 0 0) 0,gst,l,Cli.progB pb m d 0]) rfl).pick [3,1,0,2] rfl).sum⟩
def itCrew (L:Lay) (n:Nat) (x:CoreS) (gC:List Blk) (O:GH):ItS where
 σ:=Nat
 O _ O':=O'=O
 T _ H:=∃ i,H.getD i []=gC∧i<H.length
 step k v G k':=k<n∧(∃ wb g,isWkr L wb firstW 0 wkr0 g∧v=#[ptr' wb]∧G=[g])∧k'=k+1
 fin k:=k=n
theorem flat_eraseIdx {α:Type}:∀ (l:List (List α)) (i:Nat),i<l.length→l.flatten.Perm (l.getD i []++(l.eraseIdx i).flatten)
 | [],i,h=>absurd h (Nat.not_lt_zero _)
 | a::l,0,_=>List.Perm.refl _
 | a::l,i+1,h=>by
   have ih:=flat_eraseIdx l i (Nat.lt_of_succ_lt_succ h)
   show (a++l.flatten).Perm (l.getD i []++(a++(l.eraseIdx i).flatten))
   refine (ih.append_left a).trans ?_
   rw [← List.append_assoc,← List.append_assoc]
   exact List.perm_append_comm.append_right _
theorem doesAt {P:Program} {f:FuncId} {args:Array Value} {g:List Blk} {R:Ending→GH→Prop} (hd:DoesG P f args [g] R) {H:GH} {i:Nat} (hi:H.getD i []=g) (hl:i<H.length) {W:World} (hH:HasG H W) :
 Calls P f args W fun e w'=>∃ gs K,R e gs∧TG H W (gs++K) w'∧H.flatten.Perm (g++K.flatten):=by
 have hp:=flat_eraseIdx H i hl
 rw [hi] at hp
 have h2:HasG ([g]++H.eraseIdx i) W:=hH.re (by simpa using hp)
 refine (hd W h2.left).mono ?_
 rintro e w' ⟨gs,hR,T⟩
 exact ⟨gs,_,hR,(T.frame h2).basePerm (by simpa using hp.symm),hp⟩
theorem cfg_field4 (a b c d e f:Value) (w:World):(Instr.field 30 (.agg #[a,b,c,d,e,f]) 4).run Tryz.prog w=.ok e w:=by kernel_rfl
set_option maxRecDepth 100000 in
set_option maxHeartbeats 4000000 in
theorem workers_iter (L:Lay) (bx:Nat) {x:CoreS} {gC:List Blk} (hx:isCore L x gC) {n:Nat} (hn:x.f.cfg.wk=n) (hn2:n≤1000) :
 IterY Tryz.prog 217 #[ptr' bx] (itCrew L n x gC [[cl bx 25 #[ptr' L.fb]]]) (0:Nat):=by
 intro ly J Jx hT hY H0 O0 W hJ0 hO hH
 have hO':O0=[[cl bx 25 #[ptr' L.fb]]]:=hO
 subst hO'
 have T0:=TG.refl hH
 have c0:=(TG.refl hH.right).cell 0 0 rfl 0
 simp only [GE2] at c0
 obtain ⟨i0,hi0,hl0⟩:=hT (0:Nat) H0 hJ0
 have HCF:=Lib.hid (coreConfig hx)
 have HB:=Lib.hid (crewBegin L)
 have HH:=Lib.hid (And.intro hJ0 T0)
 have HY:=Lib.hid hY
 have HI:=Lib.hid (And.intro hi0 hl0)
 clear hO hH hY hT hJ0 T0 hi0 hl0 hx
 refine (callsIn_wide (n:=9)).1 (callsIn_of_wp Tryz.func217 rfl trivial ?_ rfl)
 simp only [Tryz.ntmps217,List.size_toArray,List.length_cons,List.length_nil,Nat.reduceAdd,Nat.reduceSub,Array.replicate_succ,Array.replicate_zero,List.push_toArray,List.append_toArray,List.nil_append,List.cons_append]
 gi_wp2
 refine ⟨trivial,(callsIn_wide (n:=8)).2 ((doesAt HCF.out (i:=i0) (H:=H0++[[cl bx 25 #[ptr' L.fb]]]) (by rw [List.getD_eq_getElem?_getD,List.getElem?_append_left HI.out.2,← List.getD_eq_getElem?_getD];exact HI.out.1) (by rw [List.length_append];have:=HI.out.2;omega) HH.out.2.has).mono ?_)⟩
 rintro e W1 ⟨gs,K,⟨rfl,rfl⟩,T1,hp⟩
 have HT1:=Lib.hid (T1.re (H':=H0++[[cl bx 25 #[ptr' L.fb]]]) (by simpa using hp.symm))
 clear T1 hp
 have hf4:=cfg_field4 (.int .i64 x.f.cfg.sh) (.int .i64 x.f.cfg.cap) (.int .i64 x.f.cfg.ring) (.int .i64 x.f.cfg.room) (.int .i64 n) (.int .i64 x.f.cfg.cli) W1
 unfold Cfg.cells
 rw [hn]
 have HJ0:=HH.out.1
 have T0:=Lib.hid (HT1.out)
 have HJ:=Lib.hid HJ0
 clear HJ0 HH HI HT1 c0
 gi_wp2
 gi_loopw [8] (fun i wr=>∃ (k:Nat) (H:GH),k≤n∧i=.int .i64 k∧J k H∧TG (H0++[[cl bx 25 #[ptr' L.fb]]]) W (H++[[cl bx 25 #[ptr' L.fb]]]) wr) (fun i _=>n+1 - (intOf i).toNat)
 case atStart=>exact ⟨0,H0,by omega,rfl,HJ.out,T0.out⟩
 case round =>
  obtain ⟨k,H,hk,rfl,hj,T⟩:=hrel
  clear HJ T0 hf4
  by_cases hlt:k<n
  ·have a0:=(TG.refl T.has.right).cell 0 0 rfl 0
   simp only [GE2] at a0
   have HT:=Lib.hid T
   have HK:=Lib.hid hj
   clear T hj
   gi_wp2
   refine ⟨trivial,(callsIn_wide (n:=8)).2 ((DoesG.use HB.out HT.out [] rfl rfl).mono ?_)⟩
   rintro e W1 ⟨gs,⟨wb,g,rfl,hw,rfl⟩,Ta⟩
   have Tb:TG (H0++[[cl bx 25 #[ptr' L.fb]]]) W ((H++[g])++[[cl bx 25 #[ptr' L.fb]]]) W1:=Ta.re (by
    classical
    refine List.perm_iff_count.2 fun a=>?_
    simp only [putG,List.flatten_append,List.flatten_cons,List.flatten_nil,List.append_nil,List.count_append]
    omega)
   have HT2:=Lib.hid Tb
   have hy0:=HY.out k #[ptr' wb] [g] (k+1) H _ HK.out ⟨hlt,⟨wb,g,hw,rfl,rfl⟩,rfl⟩ Tb.has.left
   obtain ⟨fn,tmps,assign,body,hy,hR⟩:=yield_any (n:=8) hy0
   have HRR:=Lib.hid hR
   clear hy0 hR hw Ta Tb
   gi_wp2
   refine HRR.out.mono ?_
   rintro e W' ⟨H',hT',hj'⟩
   have T7:=HT2.out.trans (hT'.frame HT2.out.has)
   have HT7:=Lib.hid T7
   rcases hj' with ⟨rfl,hj'⟩ | ⟨rfl,hj'⟩
   ·have HJ:=Lib.hid hj'
    clear hT' T7 hj' hy a0
    gi_wp2
    go_roundw
    case rel=>exact ⟨k+1,H',by omega,by go_num,HJ.out,HT7.out⟩
    case measure=>simp [intOf];omega
   ·have HJ:=Lib.hid hj'
    clear hT' T7 hj' hy a0
    gi_wp2
    refine bodyPost_ret (results_none rfl _ _ _) rfl ?_
    exact ⟨⟨_,rfl⟩,k+1,H',_,HT7.out,.inr HJ.out⟩
  ·obtain rfl:k=n:=by omega
   have HT:=Lib.hid T
   have HK:=Lib.hid hj
   clear T hj
   gi_wp2
   go_end0
   exact ⟨⟨_,rfl⟩,k,H,_,HT.out,.inl ⟨rfl,HK.out,rfl⟩⟩
structure WkN where
 wb:Nat
 s:SW
 n:Int
 k:WkrS
def isWs (L:Lay) (l:List WkN) (g:List Blk):Prop:=FamP (fun (z:WkN) g=>isWkr L z.wb z.s z.n z.k g) l g
def isNewW (z:WkN):Prop:=z.s=firstW∧z.n=0∧z.k=wkr0
def ptrsW (l:List WkN):List Value:=l.map fun z=>ptr' z.wb
theorem crewP_info:(Tryz.prog.info? 255).map (fun i=>(i.zero,i.size,i.bytes))=some (some (.pointer none),1,8):=by kernel_rfl
theorem workers_g (L:Lay):DoesG Tryz.prog 180 #[ptr' L.fb] [] fun e gs=>∃ bx,e=.returned (.func (.func 217) #[] #[ptr' bx])∧gs=[[cl bx 25 #[ptr' L.fb]]]:=by
 intro w hw
 have T0:=TG.refl hw
 have HT:=Lib.hid T0
 clear hw T0
 go_enter Tryz.func180,Tryz.ntmps180
 go_wp2
 go_ret
 exact ⟨_,⟨_,rfl,rfl⟩,(HT.out.alloc rfl _ _)⟩
set_option maxRecDepth 100000 in
set_option maxHeartbeats 4000000 in
theorem crewCrew {L:Lay} {x:CoreS} {gC:List Blk} (hx:isCore L x gC) {n:Nat} (hn:x.f.cfg.wk=n) (hn2:n≤1000):DoesG Tryz.prog 148 #[ptr' L.fb] [gC] fun e gs =>
 ∃ v gr gW l,e=.returned v∧l.length=n∧(∀ z∈l,isNewW z)∧rowG 255 1 v n (ptrsW l) gr∧isWs L l gW∧gs=[gC,gr,gW]:=by
 have HI:=Lib.hid (show ∀ bx,_ from fun bx=>workers_iter L bx hx hn hn2)
 have eg:=enters_of Tryz.func217 (P:=Tryz.prog) (by kernel_rfl) rfl
 intro w hw
 have T0:=TG.refl hw
 have HT:=Lib.hid T0
 clear hw T0
 clear hx hn
 refine calls_of_marks Tryz.func148 rfl ?_
 simp only [Tryz.ntmps148,List.size_toArray,List.length_cons,List.length_nil,Nat.reduceAdd,Nat.reduceSub,Array.replicate_succ,Array.replicate_zero,List.push_toArray,List.append_toArray,List.nil_append,List.cons_append]
 go_wp2_with fail
 obtain ⟨sb,hsb⟩:∃ sb,w.heap.size=sb:=⟨_,rfl⟩
 have HT:=Lib.hid (HT.out.alloc (k:=sb) hsb.symm 184 #[.slice none 0 0])
 rw [hsb]
 clear hsb
 go_wp2_with fail
 refine (DoesG.use (workers_g L) (HT.out) [] rfl rfl).mono ?_
 rintro e w1 ⟨gs,⟨bx,rfl,rfl⟩,Ta⟩
 simp only [PU] at Ta
 have HT:=Lib.hid Ta
 clear Ta
 have T0:=HT.out.re (H':=[gC,[cl sb 184 #[.slice none 0 0]],[],[]]++[[cl bx 25 #[ptr' L.fb]]]) (by simp)
 go_wp2_with fail
 refine wp_rangeY (H0:=[gC,[cl sb 184 #[.slice none 0 0]],[],[]]) (O0:=[[cl bx 25 #[ptr' L.fb]]]) rfl eg (HI.out bx) ?hps T0 ?hO (fun (k:Nat) H=>∃ v gr gW l,H=[gC,[cl sb 184 #[v]],gr,gW]∧l.length=k∧(∀ z∈l,isNewW z)∧rowG 255 1 v k (ptrsW l) gr∧isWs L l gW) (fun _ _ _=>False) ?h0 ?hT ?hbody ?hdone ?hstop
 case hps=>rintro s x G s' ⟨_,⟨_,_,_,rfl,_⟩,_⟩;rfl
 case hO=>exact rfl
 case h0=>exact ⟨_,[],[],[],rfl,rfl,(by intro z h;cases h),rowG_nil _ _,rfl⟩
 case hT=>rintro s H K ⟨v,gr,gW,l,rfl,_⟩;exact ⟨0,rfl,by simp⟩
 case hbody =>
  rintro (k:Nat) x G (k':Nat) H W ly ⟨v,gr,gW,l,rfl,hl,hnw,hr,hf⟩ ⟨hk,⟨wb,g,hw,rfl,rfl⟩,rfl⟩ hH
  have HH:=Lib.hid hH
  have HR:=Lib.hid hr
  have HF:=Lib.hid (show isWs L (l++[⟨wb,firstW,0,wkr0⟩]) (gW++g) from FamP.snoc hf hw)
  have HN:=Lib.hid (show ∀ z∈l++[⟨wb,firstW,0,wkr0⟩],isNewW z from fun z hz=>(List.mem_append.1 hz).elim (hnw z) (fun h=>by
   obtain rfl:z=_:=by simpa using h
   exact ⟨rfl,rfl,rfl⟩))
  have HL:=Lib.hid hl
  have HP:=Lib.hid (show ptrsW (l++[⟨wb,firstW,0,wkr0⟩])=ptrsW l++[ptr' wb] from by simp [ptrsW])
  obtain ⟨av,cap,hv⟩:=rowG.val hr
  subst hv
  clear hH hr hf hw hnw hl
  refine wpIn_any (n:=9) ?_
  gi_wp2
  refine ⟨_,TG.refl HH.out,fun Wb hb=>?_⟩
  have HT:=Lib.hid (TG.refl hb)
  have c0:=HT.out.cell 1 0 rfl 0
  have f0:=HT.out.free 1 0 rfl 0
  simp only [GE2] at c0
  clear hb HH
  refine wpIn_any (n:=9) ?_
  have ho1:∀ u∈[ptr' wb],u.oneCell'=true:=fun u hu=>by
   obtain rfl:u=ptr' wb:=(by simpa using hu)
   rfl
  have ho2:k+1≤maxLen:=by unfold maxLen;omega
  have ho3:(k+1)*8≤140737488355328:=by omega
  gi_wp2_with (
   gi_at_builtin
   with_reducible refine wpListIn_append_G rfl (.tmp 8) (.tmp 10) 184 rfl 255 1 8 _ Tryz.underlying184 crewP_info rfl (by decide) (HT.out.alloc0 _) 2 rfl rfl HR.out rfl ⟨Wb.heap.size,0,none⟩ 1 1 [ptr' wb] rfl rfl (news_alloc _ _ _) ho1 ho2 ho3 ?_;skip)
  ·intro v1 w2 g1 r1 T1
   have T1:=T1.eq (H':=[gC,[cl sb 184 #[.slice av k cap]],g1,gW,g]) rfl
   have c1:=T1.cell 1 0 rfl 0
   have f1:=T1.free 1 0 rfl 0
   obtain ⟨a1,cap1,hv1⟩:=rowG.val r1
   subst hv1
   have T1:=Lib.hid T1
   have r1:=Lib.hid r1
   simp only [GE2] at c1
   gi_wp2
   exact ⟨[gC,[cl sb 184 #[.slice a1 (k+1) cap1]],g1,gW++g],⟨_,_,_,_,rfl,by rw [List.length_append,HL.out];rfl,HN.out,by rw [HP.out];exact r1.out,HF.out⟩,(((T1.out.set 1 0 rfl 0 (.slice a1 (k+1) cap1)).eq (H':=[gC,[cl sb 184 #[.slice a1 (k+1) cap1]],g1,gW,g]) rfl).sum)⟩
 case hdone =>
  rintro (k:Nat) H O' W D hf' ⟨v,gr,gW,l,rfl,hl,hnw,hr,hf⟩ hO hT
  have hf2:k=n:=hf'
  subst hf2
  have hO':O'=[[cl bx 25 #[ptr' L.fb]]]:=hO
  subst hO'
  have c0:=hT.cell 1 0 rfl 0
  simp only [GE2] at c0
  have HX:=Lib.hid (And.intro hl (And.intro hnw (And.intro hr (And.intro hf hT))))
  obtain ⟨av,cap,hv⟩:=rowG.val hr
  subst hv
  clear hf hO hr hT hl hnw hf'
  go_wp2
  obtain ⟨hl,hnw,hr,hf,hT⟩:=HX.out
  have T3:=hT.turnLast (.deferred none)
  have T4:TG [gC] w ([gC,gr,gW]++[[cl sb 184 #[.slice av k cap],cl bx 25 #[ptr' L.fb],(D,.deferred none)]]) (W.putObj D (.deferred none)):=T3.re (by
   classical
   simp only [List.flatten_append,List.flatten_cons,List.flatten_nil,List.append_nil,List.cons_append,List.nil_append]
   refine List.perm_iff_count.2 fun a=>?_
   simp only [List.count_append,List.count_cons,List.count_nil]
   omega)
  exact post_mark (v:=.slice av k cap) hT.has.last (by simp [results,Tryz.results148,go_sem]) ⟨_,⟨_,gr,gW,l,rfl,hl,hnw,hr,hf,rfl⟩,T4.dropLast⟩
 case hstop=>intro s cd H O W D h;exact h.elim
end
section
open Go.RowKit Go.Shelf
theorem famStep {α:Type} {Pr:Program} {f:FuncId} {args:Array Value} {P:α→List Blk→Prop} {l:List α} {g:List Blk} {k:Nat} {a:α} (hf:FamP P l g) (hk:l[k]?=some a) {rest:GH} {R:Ending→α→GH→Prop}
 (hd:∀ ga,P a ga→DoesG Pr f args (ga::rest) fun e gs=>∃ a' ga' rest',R e a' rest'∧P a' ga'∧gs=ga'::rest') :
 DoesG Pr f args (g::rest) fun e gs=>∃ a' g' rest',R e a' rest'∧FamP P (l.set k a') g'∧gs=g'::rest':=by
 obtain ⟨x,y,hx,hp,hr⟩:=hf.out hk
 intro w hw
 have h2:HasG ((x::rest)++[y]) w:=hw.re (by
  classical
  have:=List.perm_iff_count.1 hp
  refine List.perm_iff_count.2 fun b=>?_
  have:=this b
  simp only [List.flatten_append,List.flatten_cons,List.flatten_nil,List.append_nil,List.count_append] at this ⊢
  omega)
 refine (hd x hx w h2.left).mono ?_
 rintro e w' ⟨gs,⟨a',ga',rest',hR,hP,rfl⟩,T⟩
 obtain ⟨g',hg',hp'⟩:=hr a' ga' hP
 refine ⟨_,⟨a',g',rest',hR,hg',rfl⟩,((T.frame h2).re (H':=g'::rest') ?_).basePerm ?_⟩
 ·classical
  have:=List.perm_iff_count.1 hp'
  refine List.perm_iff_count.2 fun b=>?_
  have:=this b
  simp only [List.flatten_append,List.flatten_cons,List.flatten_nil,List.append_nil,List.count_append] at this ⊢
  omega
 ·classical
  have:=List.perm_iff_count.1 hp
  refine List.perm_iff_count.2 fun b=>?_
  have:=this b
  simp only [List.flatten_append,List.flatten_cons,List.flatten_nil,List.append_nil,List.count_append] at this ⊢
  omega
theorem set_keeps {α:Type} {l:List α} {k:Nat} {a:α} (h:l[k]?=some a):l.set k a=l:=by
 obtain ⟨h1,h2⟩:=List.getElem?_eq_some_iff.1 h
 subst h2
 exact List.set_getElem_self h1
theorem wsHolds {L:Lay} {l:List WkN} {gW:List Blk} {k:Nat} {z:WkN} (hf:isWs L l gW) (hk:l[k]?=some z) (hn:z.k.holds.length≤1000) :
 DoesG Tryz.prog 155 #[ptr' z.wb] [gW] fun e gs=>∃ g',e=.returned (.tuple #[.agg (headF z.k.holds).vals.toArray,.bool (!z.k.holds.isEmpty)])∧isWs L l g'∧gs=[g']:=by
 refine (famStep (R:=fun e a' rest'=>e=.returned (.tuple #[.agg (headF z.k.holds).vals.toArray,.bool (!z.k.holds.isEmpty)])∧a'=z∧rest'=[]) hf hk (fun ga hga=>(wkrHolds hga hn).mono ?_)).mono ?_
 ·rintro e gs ⟨rfl,rfl⟩
  exact ⟨z,_,[],⟨rfl,rfl,rfl⟩,hga,rfl⟩
 ·rintro e gs ⟨a',g',rest',⟨rfl,rfl,rfl⟩,hg',rfl⟩
  rw [set_keeps hk] at hg'
  exact ⟨g',rfl,hg',rfl⟩
def noneHolds (l:List WkN):Bool:=l.all fun z=>z.k.holds.isEmpty
def crewIdleB (l:List WkN) (p:PipeS):Bool:=noneHolds l && decide ((p.ch.length:Int)+p.sp.length=0)
theorem ptr_row {l:List WkN} {v:Value} {gr:List Blk} {n:Nat} (hr:rowG 255 1 v n (ptrsW l) gr) {h H:GH} {w w':World} (T:TG h w H w') (i:Nat) (hg:H.getD i []=gr) (hi:i<H.length) {k:Nat} {z:WkN} (hk:l[k]?=some z) :
 ∃ b cap,v=.slice (some ⟨b,0,none⟩) n cap∧w'.cell? ⟨b,k,none⟩=some (ptr' z.wb):=by
 have hlen:l.length=n:=by
  have:=hr.1
  simpa [ptrsW] using this
 have hkl:=(List.getElem?_eq_some_iff.1 hk).1
 obtain ⟨b,cap,cur,hv,hgr,_,_,_,hcur⟩:=hr.open (by omega)
 refine ⟨b,cap,hv,?_⟩
 have:=T.cell i 0 (b:=b) (T:=255) (C:=cur) (by rw [hg,hgr];rfl) k
 rw [this,hcur k (by omega)]
 show (l.map _)[k]?=_
 rw [List.getElem?_map,hk]
 rfl
theorem noneHolds_at {l:List WkN} {k:Nat} {z:WkN} (hk:l[k]?=some z) (hh:z.k.holds.isEmpty=false):noneHolds l=false:=by
 unfold noneHolds
 rw [List.all_eq_false]
 exact ⟨z,List.mem_of_getElem? hk,by rw [hh];decide⟩
theorem noneHolds_take {l:List WkN} {k:Nat} {z:WkN} (hk:l[k]?=some z) (hh:z.k.holds.isEmpty=true) (h:noneHolds (l.take k)=true):noneHolds (l.take (k+1))=true:=by
 unfold noneHolds at h ⊢
 obtain ⟨h1,h2⟩:=List.getElem?_eq_some_iff.1 hk
 rw [List.take_succ_eq_append_getElem h1,List.all_append,h,h2]
 simp [hh]
section
variable {L:Lay} {x:CoreS} {p:PipeS} {l:List WkN} {gC gP gr gW:List Blk} {n:Nat} {v:Value}
set_option maxRecDepth 100000 in
set_option maxHeartbeats 4000000 in
theorem crewIdle (hx:isCore L x gC) (hpp:isPipe L.p.pb p gP) (hch:p.ch.length≤1000000) (hsp:p.sp.length≤1000000) (hr:rowG 255 1 v n (ptrsW l) gr) (hf:isWs L l gW) (hn:n≤1000) (hh:∀ z∈l,z.k.holds.length≤1000) :
 DoesG Tryz.prog 119 #[ptr' L.fb,v] [gW,gr,gC,gP] fun e gs=>∃ gW',e=.returned (.bool (crewIdleB l p))∧isWs L l gW'∧gs=[gW',gr,gC,gP]:=by
 have hlen:l.length=n:=by
  have:=hr.1
  simpa [ptrsW] using this
 obtain ⟨av,cap,rfl⟩:=rowG.val hr
 have hpl:=pipeLen_r hpp ⟨hch,hsp⟩
 have HPR:=Lib.hid (corePipe_r hx)
 unfold crewIdleB
 generalize (p.ch.length:Int)+p.sp.length=m at *
 have HPL:=Lib.hid hpl
 have HR:=Lib.hid hr
 have HF:=Lib.hid hf
 have HHH:=Lib.hid hh
 have HLL:=Lib.hid hlen
 intro w hw
 have T0:=TG.refl hw
 have HT:=Lib.hid T0
 clear hw T0
 clear hx hpp hch hsp hr hf hh hlen hpl
 go_enter Tryz.func119,Tryz.ntmps119
 go_wp2_with fail
 go_loopw [11] (fun i wr=>∃ (k:Nat) (gW1:List Blk),k≤n∧i=.int .i64 k∧isWs L l gW1∧noneHolds (l.take k)=true∧TG [gW,gr,gC,gP] w [gW1,gr,gC,gP] wr) (fun i _=>n+1 - (intOf i).toNat)
 case atStart=>exact ⟨0,gW,by omega,rfl,HF.out,rfl,HT.out⟩
 case round =>
  obtain ⟨k,gW1,hk,rfl,hf1,hno,T⟩:=hrel
  clear HF
  by_cases hkl:k<n
  ·obtain ⟨z,hz⟩:∃ z,l[k]?=some z:=⟨_,List.getElem?_eq_getElem (by have:=HLL.out;omega)⟩
   obtain ⟨b,cap2,hv,hb⟩:=ptr_row HR.out T 1 rfl (by simp) hz
   obtain ⟨rfl,rfl⟩:av=some ⟨b,0,none⟩∧cap=cap2:=by cases hv;exact ⟨rfl,rfl⟩
   obtain ⟨fz,hfz⟩:∃ f,headF z.k.holds=f:=⟨_,rfl⟩
   have HHO:=Lib.hid (wsHolds hf1 hz (HHH.out z (List.mem_of_getElem? hz)))
   rw [hfz,vals_arr] at HHO
   have HZ:=Lib.hid hz
   have HNO:=Lib.hid hno
   have HT:=Lib.hid T
   clear hf1 hz hv T hno hfz
   cases he:z.k.holds.isEmpty with
   | true =>
     rw [he] at HHO
     go_wp2_with fail
     go_wp2_with fail
     refine (DoesG.use (HHO.out) (HT.out) [0] rfl rfl).mono ?_
     rintro e w1 ⟨gs,⟨gW2,rfl,hf2,rfl⟩,Ta⟩
     simp only [PU] at Ta
     have HT:=Lib.hid Ta
     clear Ta
     have HF2:=Lib.hid hf2
     have HN2:=Lib.hid (noneHolds_take HZ.out he HNO.out)
     clear hf2
     go_wp2
     first
     | (go_roundw
        case rel=>exact ⟨k+1,gW2,by omega,by go_num,HF2.out,HN2.out,HT.out.alloc0 _⟩
        case measure=>simp [intOf];omega)
     | exact ⟨⟨k+1,gW2,by omega,by go_num,HF2.out,HN2.out,HT.out.alloc0 _⟩,by simp [intOf];omega⟩
     | ((repeat apply Exists.intro);exact ⟨⟨⟨k+1,gW2,by omega,by go_num,HF2.out,HN2.out,HT.out.alloc0 _⟩,rfl⟩,by simp [intOf];omega⟩)
   | false =>
     rw [he] at HHO
     go_wp2_with fail
     go_wp2_with fail
     refine (DoesG.use (HHO.out) (HT.out) [0] rfl rfl).mono ?_
     rintro e w1 ⟨gs,⟨gW2,rfl,hf2,rfl⟩,Ta⟩
     simp only [PU] at Ta
     have HT:=Lib.hid Ta
     clear Ta
     have HF2:=Lib.hid hf2
     have HN2:=Lib.hid (noneHolds_at HZ.out he)
     clear hf2
     go_wp2
     go_ret
     exact ⟨_,⟨gW2,by rw [HN2.out];rfl,HF2.out,rfl⟩,HT.out.alloc0 _⟩
  ·have hkn:k=n:=by omega
   subst hkn
   have hno2:noneHolds l=true:=by
    have:=HLL.out
    rw [List.take_of_length_le (by omega)] at hno
    exact hno
   have HF2:=Lib.hid hf1
   have HT:=Lib.hid T
   clear hf1 T hno
   by_cases hm:m=0
   ·have HD:=Lib.hid (show (noneHolds l && decide (m=0))=true from by rw [hno2,hm];rfl)
    have hmb:(m == 0)=true:=by rw [hm];rfl
    clear hno2
    go_wp2_with fail
    go_wp2_with fail
    refine (ReadsG.use (HPR.out) (HT.out) [2] rfl rfl).mono ?_
    rintro e w1 ⟨rfl,mq,rfl⟩
    have HT:=Lib.hid (HT.out.drewN mq)
    generalize World.drewN _ _=wq at HT ⊢
    go_wp2_with fail
    refine (ReadsG.use (HPL.out) (HT.out) [3] rfl rfl).mono ?_
    rintro e w1 ⟨rfl,mq,rfl⟩
    have HT:=Lib.hid (HT.out.drewN mq)
    generalize World.drewN _ _=wq at HT ⊢
    go_wp2
    go_ret
    exact ⟨_,⟨_,by rw [HD.out];rfl,HF2.out,rfl⟩,HT.out⟩
   ·have hd:decide (m=0)=false:=decide_eq_false hm
    have HD:=Lib.hid (show (noneHolds l && decide (m=0))=false from by rw [hno2,hd];rfl)
    have hmb:(m == 0)=false:=by simpa using hm
    clear hno2 hd
    go_wp2_with fail
    go_wp2_with fail
    refine (ReadsG.use (HPR.out) (HT.out) [2] rfl rfl).mono ?_
    rintro e w1 ⟨rfl,mq,rfl⟩
    have HT:=Lib.hid (HT.out.drewN mq)
    generalize World.drewN _ _=wq at HT ⊢
    go_wp2_with fail
    refine (ReadsG.use (HPL.out) (HT.out) [3] rfl rfl).mono ?_
    rintro e w1 ⟨rfl,mq,rfl⟩
    have HT:=Lib.hid (HT.out.drewN mq)
    generalize World.drewN _ _=wq at HT ⊢
    go_wp2
    go_ret
    exact ⟨_,⟨_,by rw [HD.out];rfl,HF2.out,rfl⟩,HT.out⟩
end
end
section
open Go.RowKit Go.Shelf
theorem St.keep {M A Y α:Type} {runM:M→α→St M A Y × α} {runA:A→α→α} {R:α→α→Prop} (hr:∀ z,R z z) (ht:∀ x y z,R x y→R y z→R x z) (hm:∀ m z,R z (runM m z).2) (ha:∀ a z,R z (runA a z)) :
 ∀ (s:St M A Y) (z:α),R z (St.run runM runA s z).2
 | .nil,z=>hr z
 | .at _ m,z=>hm m z
 | .row1 a,z=>ha a z
 | .row2 a _,z=>ha a z
 | .thn s m,z=>by
   have h1:=St.keep (Y:=Y) hr ht hm ha s z
   show R z (thenSt runM (s.run runM runA z).1 m (s.run runM runA z).2).2
   unfold thenSt
   split
   ·exact ht _ _ _ h1 (hm m _)
   ·exact h1
structure KeepT (z z':ZT):Prop where
 cfg:z'.x.f.cfg=z.x.f.cfg
 busy:z'.x.f.busy=z.x.f.busy
 closed:z'.x.f.closed=z.x.f.closed
 len:z'.x.shs.length=z.x.shs.length
 room:z'.p.room=z.p.room
 shut:z'.p.shut=z.p.shut
 th:z'.k.th=z.k.th
theorem KeepT.refl (z:ZT):KeepT z z:=⟨rfl,rfl,rfl,rfl,rfl,rfl,rfl⟩
theorem KeepT.trans {x y z:ZT} (a:KeepT x y) (b:KeepT y z):KeepT x z :=
 ⟨b.cfg.trans a.cfg,b.busy.trans a.busy,b.closed.trans a.closed,b.len.trans a.len,b.room.trans a.room,b.shut.trans a.shut,b.th.trans a.th⟩
theorem put_keep (p:PipeS) (f:FireS):(p.put f).1.room=p.room∧(p.put f).1.shut=p.shut:=by
 unfold PipeS.put
 split
 ·exact ⟨rfl,rfl⟩
 ·split <;> exact ⟨rfl,rfl⟩
theorem keepT_onSh (z:ZT) (s:ShardS):KeepT z (z.onSh s):=⟨rfl,rfl,rfl,List.length_set,rfl,rfl,rfl⟩
theorem keepT_shards (i:Nat) (z:ZT):KeepT z (shardsT i z).2:=by
 unfold shardsT
 split <;> exact ⟨rfl,rfl,rfl,rfl,rfl,rfl,rfl⟩
theorem keepT_fires (d i:Nat) (z:ZT):KeepT z (firesT d i z).2:=by
 unfold firesT
 split <;> exact ⟨rfl,rfl,rfl,rfl,rfl,rfl,rfl⟩
theorem actT_keep (a:AT) (z:ZT):KeepT z (runAT a z):=by
 cases a with
 | unlock=>exact keepT_onSh z _
 | put f=>exact ⟨rfl,rfl,rfl,rfl,(put_keep z.p f).1,(put_keep z.p f).2,rfl⟩
 | _=>exact ⟨rfl,rfl,rfl,rfl,rfl,rfl,rfl⟩
theorem methT_keep (m:MT) (z:ZT):KeepT z (runT m z).2:=by
 have hr:KeepT z z:=KeepT.refl z
 cases m with
 | enter=>exact ⟨rfl,rfl,rfl,rfl,rfl,rfl,rfl⟩
 | gate =>
   show KeepT z (if z.x.f.closed=true then refuseT 3 z else (.at none .tick,z)).2
   split
   ·exact ⟨rfl,rfl,rfl,rfl,rfl,rfl,rfl⟩
   ·exact hr
 | tick=>exact KeepT.trans (y:=({ z with x:={ z.x with f:={ z.x.f with now:=z.x.f.now+1 } },k:={ z.k with now:=z.x.f.now+1 } }:ZT).note { ev0 with kind:=11,tick:=z.x.f.now+1 }) ⟨rfl,rfl,rfl,rfl,rfl,rfl,rfl⟩ (keepT_shards 0 _)
 | shards1 i=>exact keepT_shards _ z
 | one2 d=>exact keepT_onSh z _
 | one21 d =>
   dsimp only [runT]
   split
   ·exact hr
   ·exact hr
 | one211 d=>exact hr
 | one2112 d =>
   dsimp only [runT]
   split
   ·exact hr
   ·exact keepT_fires d 0 z
 | one21121=>exact hr
 | pops1 n =>
   dsimp only [runT]
   split
   ·exact KeepT.trans (keepT_onSh z _) ⟨rfl,rfl,rfl,rfl,rfl,rfl,rfl⟩
   ·exact KeepT.trans (keepT_onSh z _) ⟨rfl,rfl,rfl,rfl,rfl,rfl,rfl⟩
 | pops11 n=>exact hr
 | rec1 =>
   dsimp only [runT]
   split <;> exact ⟨rfl,rfl,rfl,rfl,rfl,rfl,rfl⟩
 | rec11 =>
   dsimp only [runT]
   split <;> exact ⟨rfl,rfl,rfl,rfl,rfl,rfl,rfl⟩
 | fires1 d i=>exact keepT_fires d _ z
 | looks =>
   dsimp only [runT]
   split <;> exact ⟨rfl,rfl,rfl,rfl,rfl,rfl,rfl⟩
 | claims =>
   dsimp only [runT]
   split <;> exact ⟨rfl,rfl,rfl,rfl,rfl,rfl,rfl⟩
 | claims2=>exact hr
 | behind =>
   dsimp only [runT]
   split
   ·exact ⟨rfl,rfl,rfl,rfl,rfl,rfl,rfl⟩
   ·split <;> exact ⟨rfl,rfl,rfl,rfl,rfl,rfl,rfl⟩
 | rearm1 next =>
   dsimp only [runT]
   split <;> exact ⟨rfl,rfl,rfl,rfl,rfl,rfl,rfl⟩
 | finishes =>
   dsimp only [runT]
   split
   ·split <;> exact ⟨rfl,rfl,rfl,rfl,rfl,rfl,rfl⟩
   ·exact ⟨rfl,rfl,rfl,rfl,rfl,rfl,rfl⟩
theorem turnKeep (s:ST) (z:ZT):KeepT z (stepTu s z).2:=St.keep KeepT.refl (fun _ _ _=>KeepT.trans) methT_keep actT_keep s z
structure KeepS (z z':ZS):Prop where
 cfg:z'.x.f.cfg=z.x.f.cfg
 busy:z'.x.f.busy=z.x.f.busy
 now:z'.x.f.now=z.x.f.now
 shs:z'.x.shs=z.x.shs
 p:{ z'.p with shut:=z.p.shut }=z.p
theorem KeepS.trans {x y z:ZS} (a:KeepS x y) (b:KeepS y z):KeepS x z :=
 ⟨b.cfg.trans a.cfg,b.busy.trans a.busy,b.now.trans a.now,b.shs.trans a.shs,by
   have h1:=a.p
   have h2:=b.p
   rw [← h1,← h2]⟩
theorem cloKeep (s:SS) (z:ZS):KeepS z (stepS s z).2:=by
 refine St.keep (R:=KeepS) (runM:=runS) (runA:=runAS) (fun z=>⟨rfl,rfl,rfl,rfl,rfl⟩) (fun _ _ _=>KeepS.trans) (fun m z=>?_) (fun a z=>?_) s z
 ·cases m with
  | shuts=>dsimp only [runS];split <;> exact ⟨rfl,rfl,rfl,rfl,rfl⟩
  | slots0=>exact ⟨rfl,rfl,rfl,rfl,rfl⟩
  | slots2 i=>exact ⟨rfl,rfl,rfl,rfl,rfl⟩
  | waits=>exact ⟨rfl,rfl,rfl,rfl,rfl⟩
  | looks1 i=>dsimp only [runS];split <;> exact ⟨rfl,rfl,rfl,rfl,rfl⟩
  | leaves0 i=>dsimp only [runS];split <;> exact ⟨rfl,rfl,rfl,rfl,rfl⟩
  | waits2=>exact ⟨rfl,rfl,rfl,rfl,rfl⟩
 ·cases a <;> exact ⟨rfl,rfl,rfl,rfl,rfl⟩
end
section
open Go.RowKit Go.Shelf
inductive Wk where
 | call (s:SC) (k:WorkS)
 | turn (s:ST) (k:TurnS)
 | clo (s:SS) (k:ShutS)
def Wk.done:Wk→Bool
 | .call s _=>s.isNil
 | .turn s _=>s.isNil
 | .clo s _=>s.isNil
def Wk.may:Wk→ZF→Bool
 | .call s _,_=>!s.isNil
 | .turn s k,z=>maySt s ⟨k,z.x,z.ws,z.p⟩
 | .clo s k,z=>mayS' s ⟨k,z.x,z.p⟩
def Wk.step:Wk→ZF→Wk × ZF
 | .call s k,z=>(.call (stepC s (k,z.x)).1 (stepC s (k,z.x)).2.1,{ z with x:=(stepC s (k,z.x)).2.2 })
 | .turn s k,z=>(.turn (stepTu s ⟨k,z.x,z.ws,z.p⟩).1 (stepTu s ⟨k,z.x,z.ws,z.p⟩).2.k,{ z with x:=(stepTu s ⟨k,z.x,z.ws,z.p⟩).2.x,ws:=(stepTu s ⟨k,z.x,z.ws,z.p⟩).2.ws,p:=(stepTu s ⟨k,z.x,z.ws,z.p⟩).2.p })
 | .clo s k,z=>(.clo (stepS s ⟨k,z.x,z.p⟩).1 (stepS s ⟨k,z.x,z.p⟩).2.k,{ z with x:=(stepS s ⟨k,z.x,z.p⟩).2.x,p:=(stepS s ⟨k,z.x,z.p⟩).2.p })
structure GloN (N:Nat) (z:ZF):Prop where
 zn:ZN N z
 ws:WSlot z.ws
 sh4:z.x.shs.length≤4
 room:z.p.room≤1000
theorem GloN.mono {N M:Nat} {z:ZF} (h:GloN N z) (hm:N≤M):GloN M z:=⟨h.zn.mono hm,h.ws,h.sh4,h.room⟩
structure CloN (N:Nat) (s:SS) (k:ShutS):Prop where
 saw:0≤k.saw∧k.saw<18446744073709551616∧okW k.saw=true
 left:k.left.length≤N
 fit:FitS s k
structure CallN (N:Nat) (s:SC) (k:WorkS) (x:CoreS):Prop where
 wk:WorkN N k x
 fit:FitC s k
 gen:GenN k
structure TurN (N:Nat) (s:ST) (k:TurnS) (x:CoreS):Prop where
 wk:TurnN N k x
 fit:FitT s k x
 th:k.th≤1000000
def JobN (N:Nat):Wk→CoreS→Prop
 | .call s k,x=>CallN N s k x
 | .turn s k,x=>TurN N s k x
 | .clo s k,_=>CloN N s k
theorem JobN.mono {N M:Nat} {w:Wk} {x:CoreS} (h:JobN N w x) (hm:N≤M):JobN M w x:=by
 cases w with
 | call s k=>exact ⟨WorkN.mono h.wk hm,h.fit,h.gen⟩
 | turn s k=>exact ⟨TurnN.mono h.wk hm,h.fit,h.th⟩
 | clo s k=>exact ⟨h.saw,by have:=h.left;omega,h.fit⟩
structure KeepG (x x':CoreS):Prop where
 recs:x'.slab.recs.length=x.slab.recs.length
 len:x'.shs.length=x.shs.length
def SameWho (x x':CoreS):Prop:=∀ j,(x'.shs.getD j (newShard 1)).who=(x.shs.getD j (newShard 1)).who
theorem fitX_frame {x x':CoreS} (hw:SameWho x x') (s:ST) (k:TurnS) (i:Nat):FitX s k x' i=FitX s k x i:=by
 have ho:Own k x'=Own k x:=by unfold Own;rw [hw]
 unfold FitX
 rw [ho]
theorem fitT_frame {x x':CoreS} {s:ST} {k:TurnS} (h:FitT s k x) (hth:k.th≤1000000) (hl:x'.shs.length=x.shs.length) (hw:SameWho x x'):FitT s k x':=by
 match s,h with
 | .nil,_=>trivial
 | .at none .enter,h=>exact .inr hth
 | .at none .gate,h=>exact .inr hth
 | .at none .tick,h=>exact h
 | .row2 .leave1 .answer,_=>trivial
 | .row1 .answer,_=>trivial
 | .thn X (.shards1 i),h =>
   obtain ⟨a,b,c,d⟩:=h
   exact ⟨a,by rw [hl];exact b,c,by rw [fitX_frame hw];exact d⟩
def Wk.isTurn:Wk→Bool
 | .turn _ _=>true
 | _=>false
theorem JobN.frame {N:Nat} {w:Wk} {x x':CoreS} (h:JobN N w x) (hk:KeepG x x') (hw:w.isTurn=true→SameWho x x'∨w.done=true):JobN N w x':=by
 cases w with
 | call s k =>
   have hwk:=h.wk
   exact ⟨⟨hwk.c0,hwk.c1,hwk.id,hwk.slot,hwk.saw,fun q hq=>by rw [hk.recs];exact hwk.rq q hq,fun i t ht=>by rw [hk.len];exact hwk.tk i t ht⟩,h.fit,h.gen⟩
 | turn s k =>
   have hwk:=h.wk
   refine ⟨⟨hwk.th,hwk.saw,hwk.t,hwk.dl,hwk.due,fun i hi=>by rw [hk.len];exact hwk.sh i hi⟩,?_,h.th⟩
   rcases hw rfl with hw | hd
   ·exact fitT_frame h.fit h.th hk.len hw
   ·have:s.isNil=true:=hd
    cases s with
    | nil=>trivial
    | _=>cases this
 | clo s k=>exact h
theorem jobStep_n {N:Nat} {w:Wk} {z:ZF} (hg:GloN N z) (hj:JobN N w z.x) (hm:w.may z=true) (hN:N<999999) :
 GloN (N+1) (w.step z).2∧JobN (N+1) (w.step z).1 (w.step z).2.x∧KeepG z.x (w.step z).2.x∧(w.isTurn=false→SameWho z.x (w.step z).2.x)∧(w.step z).2.lg=z.lg:=by
 cases w with
 | call s k =>
   have hjc:JC N s (k,z.x):=⟨hg.zn.core,hj.wk,hj.fit⟩
   obtain ⟨h1,h2,h3⟩:=hjc.step
   obtain ⟨h4,h5⟩:=callKeep hjc hj.gen
   exact ⟨⟨⟨h1,h4.rest (hg.zn.rest.mono (by omega)),by have:=hg.zn.lg;show z.lg.length≤_;omega⟩,hg.ws,by show (stepC s (k,z.x)).2.2.shs.length≤4;rw [h4.len];exact hg.sh4,hg.room⟩,⟨h2,h3,h5⟩,⟨h4.recs,h4.len⟩,fun _=>h4.who,rfl⟩
 | turn s k =>
   have hjt:JT N s ⟨k,z.x,z.ws,z.p⟩:=⟨⟨hg.zn.core,hg.zn.rest,hj.wk,hg.ws,hg.sh4⟩,hj.fit⟩
   obtain ⟨h1,h2⟩:=hjt.step hN hm
   have h4:=turnKeep s ⟨k,z.x,z.ws,z.p⟩
   refine ⟨⟨⟨h1.core,h1.rest,by have:=hg.zn.lg;show z.lg.length≤_;omega⟩,h1.ws,h1.sh4,by show (stepTu s ⟨k,z.x,z.ws,z.p⟩).2.p.room≤1000;rw [h4.room];exact hg.room⟩,⟨h1.k,h2,by show (stepTu s ⟨k,z.x,z.ws,z.p⟩).2.k.th≤_;rw [h4.th];exact hj.th⟩,⟨?_,h4.len⟩,(fun h=>by cases h),rfl⟩
   have a:=h1.rest.cap
   have b:=hg.zn.rest.cap
   rw [h4.cfg] at a
   show (stepTu s ⟨k,z.x,z.ws,z.p⟩).2.x.slab.recs.length=_
   have:(z.x.f.cfg.cap:Int)=(stepTu s ⟨k,z.x,z.ws,z.p⟩).2.x.slab.recs.length:=a
   omega
 | clo s k =>
   have hjs:JS N s ⟨k,z.x,z.p⟩:=⟨⟨hg.zn.core,hg.zn.rest.cap,hg.zn.rest.busy,hj.saw,hj.left⟩,hj.fit⟩
   obtain ⟨h1,h2⟩:=hjs.step
   have h4:=cloKeep s ⟨k,z.x,z.p⟩
   have hr:=hg.zn.rest
   have hp:(stepS s ⟨k,z.x,z.p⟩).2.p.ch=z.p.ch∧(stepS s ⟨k,z.x,z.p⟩).2.p.sp=z.p.sp∧(stepS s ⟨k,z.x,z.p⟩).2.p.room=z.p.room:=by
    have e1:=congrArg PipeS.ch h4.p
    have e2:=congrArg PipeS.sp h4.p
    have e3:=congrArg PipeS.room h4.p
    exact ⟨e1,e2,e3⟩
   have hsh:(stepS s ⟨k,z.x,z.p⟩).2.x.shs=z.x.shs:=h4.shs
   have hnow:(stepS s ⟨k,z.x,z.p⟩).2.x.f.now=z.x.f.now:=h4.now
   have hcap:(stepS s ⟨k,z.x,z.p⟩).2.x.f.cfg=z.x.f.cfg:=h4.cfg
   refine ⟨⟨⟨h1.core,⟨?_,h1.busy,h1.cap,?_,fun w hw=>(hr.wok w hw).mono (by omega),?_,?_,?_,?_⟩,by have:=hg.zn.lg;show z.lg.length≤_;omega⟩,hg.ws,?_,?_⟩,⟨h1.saw,h1.left,h2⟩,⟨?_,?_⟩,fun _=>?_,rfl⟩
   ·show 0≤(stepS s ⟨k,z.x,z.p⟩).2.x.f.now∧(stepS s ⟨k,z.x,z.p⟩).2.x.f.now≤_
    have:=hr.now
    rw [hnow];omega
   ·show z.ws.length=(stepS s ⟨k,z.x,z.p⟩).2.x.shs.length
    rw [hsh];exact hr.wl
   ·show ∀ a∈(stepS s ⟨k,z.x,z.p⟩).2.x.shs,_
    rw [hsh];exact hr.task
   ·show ∀ a∈(stepS s ⟨k,z.x,z.p⟩).2.x.shs,_
    rw [hsh]
    intro a ha
    have:=hr.turns a ha
    omega
   ·show (stepS s ⟨k,z.x,z.p⟩).2.p.ch.length≤(stepS s ⟨k,z.x,z.p⟩).2.p.room
    rw [hp.1,hp.2.2];exact hr.ch
   ·show (stepS s ⟨k,z.x,z.p⟩).2.p.sp.length≤_
    have:=hr.sp
    rw [hp.2.1];omega
   ·show (stepS s ⟨k,z.x,z.p⟩).2.x.shs.length≤4
    rw [hsh];exact hg.sh4
   ·show (stepS s ⟨k,z.x,z.p⟩).2.p.room≤1000
    rw [hp.2.2];exact hg.room
   ·have a:=h1.cap
    have b:=hr.cap
    show (stepS s ⟨k,z.x,z.p⟩).2.x.slab.recs.length=_
    have a':(stepS s ⟨k,z.x,z.p⟩).2.x.f.cfg.cap=(stepS s ⟨k,z.x,z.p⟩).2.x.slab.recs.length:=a
    rw [hcap] at a'
    omega
   ·show (stepS s ⟨k,z.x,z.p⟩).2.x.shs.length=_
    rw [hsh]
   ·intro j
    show ((stepS s ⟨k,z.x,z.p⟩).2.x.shs.getD j _).who=_
    rw [hsh]
end
section
open Go.RowKit Go.Shelf
def isJob (L:Lay) (kb:Nat) (n:Int) (w:Wk) (g:List Blk):Prop:=match w with
 | .call s k=>isCall L kb s n k g
 | .turn s k=>isTurn L kb s n k g
 | .clo s k=>isClo L kb s n k g
def Wk.ty:Wk→TypeId
 | .call _ _=>33
 | .turn _ _=>56
 | .clo _ _=>251
def Wk.fStep:Wk→FuncId
 | .call _ _=>19
 | .turn _ _=>31
 | .clo _ _=>376
def Wk.fMay:Wk→FuncId
 | .call _ _=>359
 | .turn _ _=>30
 | .clo _ _=>375
def Wk.fDone:Wk→FuncId
 | .call _ _=>94
 | .turn _ _=>32
 | .clo _ _=>374
theorem partDoes {P:Program} {f:FuncId} {args:Array Value} {g gA gB gZ:List Blk} {R:Ending→List Blk→List Blk→Prop} (hd:DoesG P f args [g,gA] fun e gs=>∃ g' gA',R e g' gA'∧gs=[g',gA']) (hp:gZ.Perm (gA++gB)) :
 DoesG P f args [g,gZ] fun e gs=>∃ g' gA',R e g' gA'∧gs=[g',gA'++gB]:=by
 intro w hw
 have h2:HasG ([g,gA]++[gB]) w:=hw.re (by
  classical
  refine List.perm_iff_count.2 fun b=>?_
  have:=(List.perm_iff_count.1 hp) b
  simp only [List.flatten_append,List.flatten_cons,List.flatten_nil,List.append_nil,List.count_append] at this ⊢
  omega)
 refine (hd w h2.left).mono ?_
 rintro e w' ⟨gs,⟨g',gA',hR,rfl⟩,T⟩
 refine ⟨_,⟨g',gA',hR,rfl⟩,((T.frame h2).re (H':=[g',gA'++gB]) ?_).basePerm ?_⟩
 ·classical
  refine List.perm_iff_count.2 fun b=>?_
  simp only [List.flatten_append,List.flatten_cons,List.flatten_nil,List.append_nil,List.count_append]
  omega
 ·classical
  refine List.perm_iff_count.2 fun b=>?_
  have:=(List.perm_iff_count.1 hp) b
  simp only [List.flatten_append,List.flatten_cons,List.flatten_nil,List.append_nil,List.count_append] at this ⊢
  omega
theorem isZ_open {L:Lay} {z:ZF} {g:List Blk} (h:isZ L z g):∃ gC gW gP gL,isCore L z.x gC∧isWheels L z.ws gW∧isPipe L.p.pb z.p gP∧isLog L.p.lb z.lg gL∧g=(gC++(gW++gP))++gL:=by
 obtain ⟨gT,gL,⟨gC,gW,gP,h1,h2,h3,rfl⟩,h4,rfl⟩:=h
 exact ⟨gC,gW,gP,gL,h1,h2,h3,h4,rfl⟩
theorem isZ_mk {L:Lay} {z:ZF} {gC gW gP gL:List Blk} (h1:isCore L z.x gC) (h2:isWheels L z.ws gW) (h3:isPipe L.p.pb z.p gP) (h4:isLog L.p.lb z.lg gL):isZ L z ((gC++(gW++gP))++gL):=⟨_,gL,⟨gC,gW,gP,h1,h2,h3,rfl⟩,h4,rfl⟩
section
variable {L:Lay} {z:ZF} {w:Wk} {kb:Nat} {n:Int} {g gZ:List Blk} {N:Nat}
theorem jobDone (hj:isJob L kb n w g):ReadsG Tryz.prog w.fDone #[ptr' kb] [g] (.bool w.done):=by
 cases w with
 | call s k=>exact callDone hj
 | turn s k=>exact turnDone hj
 | clo s k=>exact cloDone hj
theorem permA (a b c:List Blk):(a++b++c).Perm (a++(b++c)):=by rw [List.append_assoc]
theorem permS (a b c d:List Blk):((a++(b++c))++d).Perm ((a++c)++(b++d)):=by
 classical
 refine List.perm_iff_count.2 fun x=>?_
 simp only [List.count_append]
 omega
theorem permB (x a b c d:List Blk):([x,(a++c)++(b++d)]:GH).flatten.Perm ([x,(a++(b++c))++d]:GH).flatten:=by
 classical
 refine List.perm_iff_count.2 fun x=>?_
 simp only [List.flatten_cons,List.flatten_nil,List.append_nil,List.count_append]
 omega
theorem jobMay (hj:isJob L kb n w g) (hz:isZ L z gZ) (hg:GloN N z) (hw:JobN N w z.x) (hN:N<999999) :
 DoesG Tryz.prog w.fMay #[ptr' kb] [g,gZ] fun e gs=>∃ g' gZ',e=.returned (.bool (w.may z))∧isJob L kb n w g'∧isZ L z gZ'∧gs=[g',gZ']:=by
 cases w with
 | call s k =>
   obtain ⟨gC,gW,gP,gL,h1,h2,h3,h4,rfl⟩:=isZ_open hz
   refine (partDoes (gB:=(gW++gP)++gL) (R:=fun e g' gA'=>e=.returned (.bool (!s.isNil))∧isCall L kb s n k g'∧isCore L z.x gA') ((callMay hj h1).mono ?_) (permA _ _ _)).mono ?_
   ·rintro e gs ⟨rfl,g',gF',a,b,rfl⟩
    exact ⟨g',gF',⟨rfl,a,b⟩,rfl⟩
   ·rintro e gs ⟨g',gA',⟨rfl,a,b⟩,rfl⟩
    exact ⟨g',_,rfl,a,by rw [← List.append_assoc];exact isZ_mk b h2 h3 h4,rfl⟩
 | turn s k =>
   obtain ⟨gT,gL,h1,h2,rfl⟩:=hz
   have hjt:JT N s ⟨k,z.x,z.ws,z.p⟩:=⟨⟨hg.zn.core,hg.zn.rest,hw.wk,hg.ws,hg.sh4⟩,hw.fit⟩
   refine (partDoes (gB:=gL) (R:=fun e g' gA'=>e=.returned (.bool (maySt s ⟨k,z.x,z.ws,z.p⟩))∧isTurn L kb s n k g'∧isTF L z.x z.ws z.p gA') ((turnMay hj h1 (hjt.preY (by omega))).mono ?_) (List.Perm.refl _)).mono ?_
   ·rintro e gs ⟨rfl,g',gF',a,b,rfl⟩
    exact ⟨g',gF',⟨rfl,a,b⟩,rfl⟩
   ·rintro e gs ⟨g',gA',⟨rfl,a,b⟩,rfl⟩
    exact ⟨g',_,rfl,a,⟨_,gL,b,h2,rfl⟩,rfl⟩
 | clo s k =>
   obtain ⟨gC,gW,gP,gL,h1,h2,h3,h4,rfl⟩:=isZ_open hz
   have hjs:JS N s ⟨k,z.x,z.p⟩:=⟨⟨hg.zn.core,hg.zn.rest.cap,hg.zn.rest.busy,hw.saw,hw.left⟩,hw.fit⟩
   refine (partDoes (gB:=gW++gL) (R:=fun e g' gA'=>e=.returned (.bool (mayS' s ⟨k,z.x,z.p⟩))∧isClo L kb s n k g'∧isCP L z.x z.p gA') ((cloMay hj ⟨gC,gP,h1,h3,rfl⟩ (hjs.b.ok (by omega))).mono ?_) (permS _ _ _ _)).post ?_
   ·rintro e gs ⟨rfl,g',gF',a,b,rfl⟩
    exact ⟨g',gF',⟨rfl,a,b⟩,rfl⟩
   ·rintro e gs ⟨g',gA',⟨rfl,a,⟨gC',gP',b1,b2,rfl⟩⟩,rfl⟩
    exact ⟨_,⟨g',_,rfl,a,isZ_mk b1 h2 b2 h4,rfl⟩,permB _ _ _ _ _⟩
theorem jobStep (hj:isJob L kb n w g) (hz:isZ L z gZ) (hg:GloN N z) (hw:JobN N w z.x) (hN:N<999999) (hm:w.may z=true) (hn:0≤n∧n≤1000000000) :
 DoesG Tryz.prog w.fStep #[ptr' kb] [g,gZ] fun e gs=>∃ g' gZ',e=.returned (.bool true)∧isJob L kb (n+1) (w.step z).1 g'∧isZ L (w.step z).2 gZ'∧gs=[g',gZ']:=by
 cases w with
 | call s k =>
   obtain ⟨gC,gW,gP,gL,h1,h2,h3,h4,rfl⟩:=isZ_open hz
   have hjc:JC N s (k,z.x):=⟨hg.zn.core,hw.wk,hw.fit⟩
   have hs:s.isNil=false:=by
    have:(!s.isNil)=true:=hm
    cases h:s.isNil
    ·rfl
    ·rw [h] at this;cases this
   refine (partDoes (gB:=(gW++gP)++gL) (R:=fun e g' gA'=>e=.returned (.bool true)∧isCall L kb (stepC s (k,z.x)).1 (n+1) (stepC s (k,z.x)).2.1 g'∧isCore L (stepC s (k,z.x)).2.2 gA') ((callStep hj h1 (hjc.pre (by omega)) hs hn).mono ?_) (permA _ _ _)).mono ?_
   ·rintro e gs ⟨g',gF',rfl,a,b,rfl⟩
    exact ⟨g',gF',⟨rfl,a,b⟩,rfl⟩
   ·rintro e gs ⟨g',gA',⟨rfl,a,b⟩,rfl⟩
    exact ⟨g',_,rfl,a,by rw [← List.append_assoc];exact isZ_mk (z:={ z with x:=(stepC s (k,z.x)).2.2 }) b h2 h3 h4,rfl⟩
 | turn s k =>
   obtain ⟨gT,gL,h1,h2,rfl⟩:=hz
   have hjt:JT N s ⟨k,z.x,z.ws,z.p⟩:=⟨⟨hg.zn.core,hg.zn.rest,hw.wk,hg.ws,hg.sh4⟩,hw.fit⟩
   refine (partDoes (gB:=gL) (R:=fun e g' gA'=>e=.returned (.bool true)∧isTurn L kb (stepTu s ⟨k,z.x,z.ws,z.p⟩).1 (n+1) (stepTu s ⟨k,z.x,z.ws,z.p⟩).2.k g'∧isTF L (stepTu s ⟨k,z.x,z.ws,z.p⟩).2.x (stepTu s ⟨k,z.x,z.ws,z.p⟩).2.ws (stepTu s ⟨k,z.x,z.ws,z.p⟩).2.p gA') ((turnStep hj h1 (hjt.preY (by omega)) hm (hjt.pre (by omega) hm) hn).mono ?_) (List.Perm.refl _)).mono ?_
   ·rintro e gs ⟨g',gF',rfl,a,b,rfl⟩
    exact ⟨g',gF',⟨rfl,a,b⟩,rfl⟩
   ·rintro e gs ⟨g',gA',⟨rfl,a,b⟩,rfl⟩
    exact ⟨g',_,rfl,a,⟨_,gL,b,h2,rfl⟩,rfl⟩
 | clo s k =>
   obtain ⟨gC,gW,gP,gL,h1,h2,h3,h4,rfl⟩:=isZ_open hz
   have hjs:JS N s ⟨k,z.x,z.p⟩:=⟨⟨hg.zn.core,hg.zn.rest.cap,hg.zn.rest.busy,hw.saw,hw.left⟩,hw.fit⟩
   refine (partDoes (gB:=gW++gL) (R:=fun e g' gA'=>e=.returned (.bool true)∧isClo L kb (stepS s ⟨k,z.x,z.p⟩).1 (n+1) (stepS s ⟨k,z.x,z.p⟩).2.k g'∧isCP L (stepS s ⟨k,z.x,z.p⟩).2.x (stepS s ⟨k,z.x,z.p⟩).2.p gA') ((cloStep hj ⟨gC,gP,h1,h3,rfl⟩ (hjs.b.ok (by omega)) hm (hjs.pre (by omega)) hn).mono ?_) (permS _ _ _ _)).post ?_
   ·rintro e gs ⟨g',gF',rfl,a,b,rfl⟩
    exact ⟨g',gF',⟨rfl,a,b⟩,rfl⟩
   ·rintro e gs ⟨g',gA',⟨rfl,a,⟨gC',gP',b1,b2,rfl⟩⟩,rfl⟩
    exact ⟨_,⟨g',_,rfl,a,isZ_mk (z:={ z with x:=(stepS s ⟨k,z.x,z.p⟩).2.x,p:=(stepS s ⟨k,z.x,z.p⟩).2.p }) b1 h2 b2 h4,rfl⟩,permB _ _ _ _ _⟩
theorem jobNo (hj:isJob L kb n w g) (hz:isZ L z gZ) (hg:GloN N z) (hw:JobN N w z.x) (hN:N<999999) (hm:w.may z=false) :
 DoesG Tryz.prog w.fStep #[ptr' kb] [g,gZ] fun e gs=>∃ g' gZ',e=.returned (.bool false)∧isJob L kb n w g'∧isZ L z gZ'∧gs=[g',gZ']:=by
 cases w with
 | call s k =>
   obtain ⟨gC,gW,gP,gL,h1,h2,h3,h4,rfl⟩:=isZ_open hz
   obtain rfl:s=.nil:=by
    have:(!s.isNil)=false:=hm
    cases s with
    | nil=>rfl
    | _=>cases this
   refine (partDoes (gB:=(gW++gP)++gL) (R:=fun e g' gA'=>e=.returned (.bool false)∧isCall L kb .nil n k g'∧isCore L z.x gA') ((callStep_nil hj h1).mono ?_) (permA _ _ _)).mono ?_
   ·rintro e gs ⟨rfl,g',gF',a,b,rfl⟩
    exact ⟨g',gF',⟨rfl,a,b⟩,rfl⟩
   ·rintro e gs ⟨g',gA',⟨rfl,a,b⟩,rfl⟩
    exact ⟨g',_,rfl,a,by rw [← List.append_assoc];exact isZ_mk b h2 h3 h4,rfl⟩
 | turn s k =>
   obtain ⟨gT,gL,h1,h2,rfl⟩:=hz
   have hjt:JT N s ⟨k,z.x,z.ws,z.p⟩:=⟨⟨hg.zn.core,hg.zn.rest,hw.wk,hg.ws,hg.sh4⟩,hw.fit⟩
   refine (partDoes (gB:=gL) (R:=fun e g' gA'=>e=.returned (.bool false)∧isTurn L kb s n k g'∧isTF L z.x z.ws z.p gA') ((turnNo hj h1 (hjt.preY (by omega)) hm).mono ?_) (List.Perm.refl _)).mono ?_
   ·rintro e gs ⟨rfl,g',gF',a,b,rfl⟩
    exact ⟨g',gF',⟨rfl,a,b⟩,rfl⟩
   ·rintro e gs ⟨g',gA',⟨rfl,a,b⟩,rfl⟩
    exact ⟨g',_,rfl,a,⟨_,gL,b,h2,rfl⟩,rfl⟩
 | clo s k =>
   obtain ⟨gC,gW,gP,gL,h1,h2,h3,h4,rfl⟩:=isZ_open hz
   have hjs:JS N s ⟨k,z.x,z.p⟩:=⟨⟨hg.zn.core,hg.zn.rest.cap,hg.zn.rest.busy,hw.saw,hw.left⟩,hw.fit⟩
   refine (partDoes (gB:=gW++gL) (R:=fun e g' gA'=>e=.returned (.bool false)∧isClo L kb s n k g'∧isCP L z.x z.p gA') ((cloNo hj ⟨gC,gP,h1,h3,rfl⟩ (hjs.b.ok (by omega)) hm).mono ?_) (permS _ _ _ _)).post ?_
   ·rintro e gs ⟨rfl,g',gF',a,b,rfl⟩
    exact ⟨g',gF',⟨rfl,a,b⟩,rfl⟩
   ·rintro e gs ⟨g',gA',⟨rfl,a,⟨gC',gP',b1,b2,rfl⟩⟩,rfl⟩
    exact ⟨_,⟨g',_,rfl,a,isZ_mk b1 h2 b2 h4,rfl⟩,permB _ _ _ _ _⟩
end
end
section
open Go.RowKit Go.Shelf
structure AnsS where
 err:Int
 ok:Bool
 id:Int
 gen:Int
 left:List Int
 code:Int
def AnsS.cells (a:AnsS) (v:Value):Array Value:=#[.int .i64 a.err,.bool a.ok,.int .u64 a.id,.int .u64 a.gen,v]
section
variable {L:Lay} {z:ZF} {w:Wk} {kb:Nat} {n:Int} {g gZ:List Blk} {N:Nat}
structure CrewN (N:Nat) (c:WkN):Prop where
 fit:(c.s=firstW∧c.k.holds=[])∨(c.s=.thn (.row1 .puts) .takes∧c.k.holds.length=1)
 worked:0≤c.k.worked∧c.k.worked≤N
 n:0≤c.n∧c.n≤N
theorem CrewN.mono {N M:Nat} {c:WkN} (h:CrewN N c) (hm:N≤M):CrewN M c:=⟨h.fit,by have:=h.worked;omega,by have:=h.n;omega⟩
theorem CrewN.new {c:WkN} (h:isNewW c):CrewN 0 c:=by
 obtain ⟨a,b,d⟩:=h
 exact ⟨.inl ⟨a,by rw [d];rfl⟩,by rw [d];exact ⟨Int.le_refl _,Int.le_refl _⟩,by rw [b];exact ⟨Int.le_refl _,Int.le_refl _⟩⟩
def WkN.zw (c:WkN) (z:ZF):ZW:=⟨c.k,z.x,z.p,z.lg⟩
def WkN.may (c:WkN) (z:ZF):Bool:=mayWk c.s (c.zw z)
def WkN.step (c:WkN) (z:ZF):WkN × ZF :=
 (⟨c.wb,(stepWk c.s (c.zw z)).1,c.n+1,(stepWk c.s (c.zw z)).2.k⟩,⟨(stepWk c.s (c.zw z)).2.x,z.ws,(stepWk c.s (c.zw z)).2.p,(stepWk c.s (c.zw z)).2.lg⟩)
theorem CrewN.ok {c:WkN} (h:CrewN N c) (hg:GloN N z) (hN:N<999999):WkrOk (c.zw z):=by
 have hr:=hg.zn.rest
 have hl:=hg.zn.lg
 have hw:=h.worked
 have hh:c.k.holds.length≤1:=by
  rcases h.fit with ⟨_,h⟩ | ⟨_,h⟩
  ·rw [h];exact Nat.zero_le _
  ·omega
 exact ⟨by have:=hr.busy;show 0≤z.x.f.busy∧z.x.f.busy≤_;omega,⟨hr.ch,by have:=hr.sp;show z.p.sp.length≤_;omega⟩,by have:=hg.room;show z.p.room≤_;omega,by show c.k.holds.length≤_;omega,by show z.lg.length≤_;omega,by show 0≤c.k.worked∧c.k.worked≤_;omega⟩
theorem CrewN.preY {c:WkN} (h:CrewN N c) (hg:GloN N z) (hN:N<999999):preYSW c.s (c.zw z):=by
 have ho:=h.ok hg hN
 rcases h.fit with ⟨h1,_⟩ | ⟨h1,_⟩
 ·rw [h1];exact ho
 ·rw [h1];trivial
theorem take_ok {p:PipeS} (h:p.ch.length≤p.room):p.take.1.ch.length≤p.take.1.room∧p.take.1.room=p.room∧p.take.1.sp.length≤p.sp.length∧p.take.1.shut=p.shut:=by
 unfold PipeS.take
 split
 ·next h1=>exact ⟨h,rfl,Nat.le_refl _,rfl⟩
 ·next f l h1 h2 =>
  rw [h1] at h
  simp only [List.length_cons] at h
  refine ⟨?_,rfl,by rw [h2];simp,rfl⟩
  show l.length≤p.room
  omega
 ·next f l x sp h1 h2 =>
  rw [h1] at h
  simp only [List.length_cons] at h
  refine ⟨?_,rfl,by rw [h2];simp,rfl⟩
  show (l++[x]).length≤p.room
  rw [List.length_append]
  simpa using h
theorem crewStep_n {c:WkN} (h:CrewN N c) (hg:GloN N z) (hN:N<999998) :
 preSW c.s (c.zw z)∧CrewN (N+1) (c.step z).1∧GloN (N+1) (c.step z).2∧KeepG z.x (c.step z).2.x∧SameWho z.x (c.step z).2.x:=by
 have ho:=h.ok hg (by omega)
 have hr:=hg.zn.rest
 have hl:=hg.zn.lg
 obtain ⟨wb,s,n,k⟩:=c
 have hw:=h.worked
 have hn:=h.n
 simp only at hw hn
 rcases h.fit with ⟨h1,h2⟩ | ⟨h1,h2⟩
 ·obtain rfl:s=firstW:=h1
  have h2:k.holds=[]:=h2
  obtain ⟨t1,t2,t3,t4⟩:=take_ok hr.ch
  refine ⟨ho,⟨.inr ⟨rfl,?_⟩,?_,?_⟩,⟨⟨⟨hg.zn.core.slab,hg.zn.core.i0,by have:=hg.zn.core.i1;show z.x.f.inside≤_;omega,by have:=hg.zn.core.tr;show z.x.tr.length≤_;omega,hg.zn.core.sh,(hg.zn.core.mono (M:=N+1) (by omega)).ring⟩,⟨by have:=hr.now;show 0≤z.x.f.now∧z.x.f.now≤_;omega,?_,hr.cap,hr.wl,fun w hw=>(hr.wok w hw).mono (by omega),hr.task,fun s hs=>by have:=hr.turns s hs;omega,t1,?_⟩,?_⟩,hg.ws,hg.sh4,?_⟩,⟨rfl,rfl⟩,fun _=>rfl⟩
  ·show (k.holds++[_]).length=1
   rw [h2];rfl
  ·show 0≤k.worked∧k.worked≤_;omega
  ·show 0≤n+1∧n+1≤_;omega
  ·have:=hr.busy
   show 0≤z.x.f.busy+1∧z.x.f.busy+1≤_;omega
  ·have:=hr.sp
   show z.p.take.1.sp.length≤_;omega
  ·show z.lg.length≤_;omega
  ·show z.p.take.1.room≤_
   rw [t2];exact hg.room
 ·obtain rfl:s=.thn (.row1 .puts) .takes:=h1
  have h2:k.holds.length=1:=h2
  have hb:0≤lessN z.x.f.busy∧lessN z.x.f.busy≤N:=by have:=hr.busy;unfold lessN;split <;> omega
  refine ⟨⟨⟨ho,by show 0<k.holds.length;omega⟩,fun _=>?_⟩,⟨.inl ⟨rfl,rfl⟩,?_,?_⟩,⟨⟨⟨hg.zn.core.slab,hg.zn.core.i0,by have:=hg.zn.core.i1;show z.x.f.inside≤_;omega,by have:=hg.zn.core.tr;show z.x.tr.length≤_;omega,hg.zn.core.sh,(hg.zn.core.mono (M:=N+1) (by omega)).ring⟩,⟨by have:=hr.now;show 0≤z.x.f.now∧z.x.f.now≤_;omega,?_,hr.cap,hr.wl,fun w hw=>(hr.wok w hw).mono (by omega),hr.task,fun s hs=>by have:=hr.turns s hs;omega,hr.ch,?_⟩,?_⟩,hg.ws,hg.sh4,hg.room⟩,⟨rfl,rfl⟩,fun _=>rfl⟩
  ·exact ⟨by show 0≤lessN z.x.f.busy∧lessN z.x.f.busy≤_;omega,ho.pipe,ho.room,by show ([]:List FireS).length≤_;simp,by show (z.lg++k.holds).length≤_;rw [List.length_append];omega,by show 0≤k.worked+1∧k.worked+1≤_;omega⟩
  ·show 0≤k.worked+1∧k.worked+1≤_;omega
  ·show 0≤n+1∧n+1≤_;omega
  ·show 0≤lessN z.x.f.busy∧lessN z.x.f.busy≤_;omega
  ·have:=hr.sp
   show z.p.sp.length≤_;omega
  ·show (z.lg++k.holds).length≤_
   rw [List.length_append];omega
def isCw (L:Lay) (c:WkN) (g:List Blk):Prop:=isWkr L c.wb c.s c.n c.k g
theorem permW (a b c d:List Blk):((a++(b++c))++d).Perm ((a++(c++d))++b):=by
 classical
 refine List.perm_iff_count.2 fun x=>?_
 simp only [List.count_append]
 omega
theorem permV (x a b c d:List Blk):([x,(a++(c++d))++b]:GH).flatten.Perm ([x,(a++(b++c))++d]:GH).flatten:=by
 classical
 refine List.perm_iff_count.2 fun x=>?_
 simp only [List.flatten_cons,List.flatten_nil,List.append_nil,List.count_append]
 omega
theorem crewMay {c:WkN} (hc:isCw L c g) (hz:isZ L z gZ) (hg:GloN N z) (hw:CrewN N c) (hN:N<999998) :
 DoesG Tryz.prog 378 #[ptr' c.wb] [g,gZ] fun e gs=>∃ g' gZ',e=.returned (.bool (c.may z))∧isCw L c g'∧isZ L z gZ'∧gs=[g',gZ']:=by
 obtain ⟨gC,gW,gP,gL,h1,h2,h3,h4,rfl⟩:=isZ_open hz
 refine (partDoes (gB:=gW) (R:=fun e g' gA'=>e=.returned (.bool (c.may z))∧isCw L c g'∧isWF L z.x z.p z.lg gA') ((wkrMay hc ⟨gC,gP,gL,h1,h3,h4,rfl⟩ (hw.preY hg (by omega))).mono ?_) (permW _ _ _ _)).post ?_
 ·rintro e gs ⟨rfl,g',gF',a,b,rfl⟩
  exact ⟨g',gF',⟨rfl,a,b⟩,rfl⟩
 ·rintro e gs ⟨g',gA',⟨rfl,a,⟨gC',gP',gL',b1,b2,b3,rfl⟩⟩,rfl⟩
  exact ⟨_,⟨g',_,rfl,a,isZ_mk b1 h2 b2 b3,rfl⟩,permV _ _ _ _ _⟩
theorem crewStep {c:WkN} (hc:isCw L c g) (hz:isZ L z gZ) (hg:GloN N z) (hw:CrewN N c) (hN:N<999998) (hm:c.may z=true) :
 DoesG Tryz.prog 379 #[ptr' c.wb] [g,gZ] fun e gs=>∃ g' gZ',e=.returned (.bool true)∧isCw L (c.step z).1 g'∧isZ L (c.step z).2 gZ'∧gs=[g',gZ']:=by
 obtain ⟨gC,gW,gP,gL,h1,h2,h3,h4,rfl⟩:=isZ_open hz
 have hn:=hw.n
 refine (partDoes (gB:=gW) (R:=fun e g' gA'=>e=.returned (.bool true)∧isCw L (c.step z).1 g'∧isWF L (c.step z).2.x (c.step z).2.p (c.step z).2.lg gA') ((wkrStep hc ⟨gC,gP,gL,h1,h3,h4,rfl⟩ (hw.preY hg (by omega)) hm (crewStep_n hw hg hN).1 (by omega)).mono ?_) (permW _ _ _ _)).post ?_
 ·rintro e gs ⟨g',gF',rfl,a,b,rfl⟩
  exact ⟨g',gF',⟨rfl,a,b⟩,rfl⟩
 ·rintro e gs ⟨g',gA',⟨rfl,a,⟨gC',gP',gL',b1,b2,b3,rfl⟩⟩,rfl⟩
  exact ⟨_,⟨g',_,rfl,a,isZ_mk (z:=(c.step z).2) b1 h2 b2 b3,rfl⟩,permV _ _ _ _ _⟩
theorem crewNo {c:WkN} (hc:isCw L c g) (hz:isZ L z gZ) (hg:GloN N z) (hw:CrewN N c) (hN:N<999998) (hm:c.may z=false) :
 DoesG Tryz.prog 379 #[ptr' c.wb] [g,gZ] fun e gs=>∃ g' gZ',e=.returned (.bool false)∧isCw L c g'∧isZ L z gZ'∧gs=[g',gZ']:=by
 obtain ⟨gC,gW,gP,gL,h1,h2,h3,h4,rfl⟩:=isZ_open hz
 refine (partDoes (gB:=gW) (R:=fun e g' gA'=>e=.returned (.bool false)∧isCw L c g'∧isWF L z.x z.p z.lg gA') ((wkrNo hc ⟨gC,gP,gL,h1,h3,h4,rfl⟩ (hw.preY hg (by omega)) hm).mono ?_) (permW _ _ _ _)).post ?_
 ·rintro e gs ⟨rfl,g',gF',a,b,rfl⟩
  exact ⟨g',gF',⟨rfl,a,b⟩,rfl⟩
 ·rintro e gs ⟨g',gA',⟨rfl,a,⟨gC',gP',gL',b1,b2,b3,rfl⟩⟩,rfl⟩
  exact ⟨_,⟨g',_,rfl,a,isZ_mk b1 h2 b2 b3,rfl⟩,permV _ _ _ _ _⟩
end
end
end Go.Proofs.YtblhfbcodbjgcaaGreat
