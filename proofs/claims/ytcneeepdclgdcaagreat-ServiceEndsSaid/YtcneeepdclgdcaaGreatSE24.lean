import Derived.Test.YtcneeepdclgdcaaGreatSE22
import Derived.Test.YtcneeepdclgdcaaGreatSE18
import Derived.Test.YtcneeepdclgdcaaGreatSE13
import Derived.Test.YtcneeepdclgdcaaGreatSE23
import Derived.Test.YtcneeepdclgdcaaGreatSE14
import Derived.Test.YtcneeepdclgdcaaGreatSE21
set_option maxRecDepth 100000
set_option maxHeartbeats 4000000
namespace Go.Proofs.YtcneeepdclgdcaaGreat
open Go.Value renaming int->U1,nilFunc->U3,func->U6,tuple->U9,pointer->UE
open Go.IntKind renaming i64->U2,u64->U5
open Go.Ending renaming returned->U4
open Go.Fn renaming func->U7
open Go renaming bodyPost_ret->U8,wpQuiet_nil->UA,bodyPost_end->UG,results_none->UH,FuncId->UK,Ending->UO
open Go.World renaming alloc->UB,drew->UD,setCell->UJ
open _root_.List renaming mem_append_right->UC,mem_append_left->UF,set_cons_zero->UL,set_cons_succ->UM,cons_append->UN,nil_append->UQ
open _root_.Subtype renaming val->UI
set_option linter.all false
open Go.Proofs.Tryz
section
open Go.RowKit Go.Shelf
section
variable {q:ik} {s:Qu} {g:List ak}
theorem qtz (hg:tO q s g) (hr:zu s.ring):Qa prog 18 #[Qb q.b] [g] fun e gs =>
 e=U4 (U9 #[.agg (J3 s.ring).2.1.cells,U1 U2 (J3 s.ring).2.2])/\∃ g',tO q { s with ring:=(J3 s.ring).1 } g'/\gs=[g']:=by
 obtain ⟨gr,gl,h1,h2,rfl⟩:=hg;have hp:=qxg h1 hr;generalize J3 s.ring=p at *;refine GO fun w HT=>?_
 have HT:=Vh (HT.out.m [Xq q.b q.rb q.lb q.wb,gr,gl]);have HP:=Vh hp;have HL:=Vh h2;clear h1 h2 hp hr;go_enter func18,ntmps18
 go_wp2_with fail
 refine Qa.run (Jl q.b q.rb q.lb q.wb) (HT.a 40 Qp.zero.cells) [0] ?_
 rintro e w1 gs ⟨rfl,rfl⟩ HT;simp only [PU] at HT;have hf:=fun w=>(J9 (Qb q.rb) (Qb q.lb) (Qb q.wb) w).1
 go_wp2_with fail
 refine Qa.run HP HT [1] ?_
 rintro e w1 gs ⟨rfl,g1,hg1,rfl⟩ HT;simp only [PU] at HT;have HG:=Vh hg1;clear hg1;obtain ⟨a0,a1,a2,a3,a4⟩:=HT.c5 3 0 0 1 2 3 4;obtain ⟨fa0,fa1,fa2,fa3,fa4⟩:=HT.f5 3 0 0 1 2 3 4;simp only [Qp.cells,Qp.zero,az] at a0 a1 a2 a3 a4;simp only [Qp.cells];go_wp2
 exact U8 (v:=U9 #[.agg p.2.1.cells,U1 U2 p.2.2]) (by simp [results,results18,go_sem,a0,a1,a2,a3,a4,Qp.cells]) rfl ⟨_,⟨rfl,_,⟨g1,gl,HG,HL,rfl⟩,rfl⟩,((((((HT.set 3 0 rfl 0 _).set 3 0 rfl 1 _).set 3 0 rfl 2 _).set 3 0 rfl 3 _).set 3 0 rfl 4 _).p [0,1,2]).sum⟩
theorem qih (hg:tO q s g) (hr:zu s.ring):Qa prog 35 #[Qb q.b] [g] fun e gs=>e=U4 (U1 U2 (s.ring.tail - s.ring.head))/\∃ g',tO q s g'/\gs=[g']:=by
 obtain ⟨gr,gl,h1,h2,rfl⟩:=hg;have hp:=qxe h1 hr;refine GO fun w HT=>?_
 have HT:=Vh (HT.out.m [Xq q.b q.rb q.lb q.wb,gr,gl]);have HP:=Vh hp;have HL:=Vh h2;clear h1 h2 hp hr;go_enter func35,ntmps35
 go_wp2_with fail
 refine Qa.run (Jl q.b q.rb q.lb q.wb) (HT) [0] ?_
 rintro e w1 gs ⟨rfl,rfl⟩ HT;simp only [PU] at HT;have hf:=fun w=>(J9 (Qb q.rb) (Qb q.lb) (Qb q.wb) w).1
 go_wp2_with fail
 refine Qa.run HP HT [1] ?_
 rintro e w1 gs ⟨rfl,g1,hg1,rfl⟩ HT;simp only [PU] at HT;have HG:=Vh hg1;clear hg1;go_wp2
 go_ret
 exact ⟨_,⟨rfl,_,⟨g1,gl,HG,HL,rfl⟩,rfl⟩,HT.sum⟩
theorem qmy (hg:tO q s g) (hr:zu s.ring):Qa prog 291 #[Qb q.b] [g] fun e gs=>e=U4 (.bool s.ring.ready)/\∃ g',tO q s g'/\gs=[g']:=by
 obtain ⟨gr,gl,h1,h2,rfl⟩:=hg;have hp:=OO h1 hr;refine GO fun w HT=>?_
 have HT:=Vh (HT.out.m [Xq q.b q.rb q.lb q.wb,gr,gl]);have HP:=Vh hp;have HL:=Vh h2;clear h1 h2 hp hr;go_enter func291,ntmps291
 go_wp2_with fail
 refine Qa.run (Jl q.b q.rb q.lb q.wb) (HT) [0] ?_
 rintro e w1 gs ⟨rfl,rfl⟩ HT;simp only [PU] at HT;have hf:=fun w=>(J9 (Qb q.rb) (Qb q.lb) (Qb q.wb) w).1
 go_wp2_with fail
 refine Qa.run HP HT [1] ?_
 rintro e w1 gs ⟨rfl,g1,hg1,rfl⟩ HT;simp only [PU] at HT;have HG:=Vh hg1;clear hg1;go_wp2
 go_ret
 exact ⟨_,⟨rfl,_,⟨g1,gl,HG,HL,rfl⟩,rfl⟩,HT.sum⟩
end
section
variable {L:Lay} {x:Qi} {g:List ak}
theorem Dp {F:Nat} {args:Array Value} {i:Nat} {q:ik} {s s':Qu} {v:Value} (hx:Qf L x g) (hq:L.qs[i]?=some q) (hs:x.au[i]?=some s)
 (hd:∀ g,tO q s g->Qa prog F args [g] fun e gs=>e=U4 v/\∃ g',tO q s' g'/\gs=[g']) :
 Qa prog F args [g] fun e gs=>e=U4 v/\∃ g',Qf L { x with au:=x.au.set i s' } g'/\gs=[g']:=by
 obtain ⟨tr,gF,gS,gR,gH,gT,h1,h2,h3,h4,h5,h6,rfl⟩:=hx;have hz:(L.qs.zip x.au)[i]?=some (q,s):=sN hq hs;obtain ⟨u,y,hu,hp,hback⟩:=h5.out hz;intro w hw;have T:=(((TG.refl hw).sum (H':=[gF++(gS++(gR++gT)),gH])).bz 1 rfl hp).sum (H':=[gF++(gS++(gR++gT)),u,y]);refine (Qa.use (hd u hu) T [1] rfl rfl).mono ?_
 rintro e w' ⟨gs,⟨he,g1,hn1,rfl⟩,T'⟩;obtain ⟨mX,hf,hp'⟩:=hback (q,s') g1 hn1;rw [Yv i hq] at hf;refine ⟨_,⟨he,_,⟨tr,gF,gS,gR,mX,gT,h1,h2,h3,by simpa using h4,hf,h6,rfl⟩,rfl⟩,?_⟩
 exact ((TG.sum (H:=[gF++(gS++(gR++gT)),g1,y]) (H':=[gF++(gS++(gR++gT)),g1++y]) T').bz 1 rfl hp').sum
theorem qm {x:Qi} {i:Nat} {s:Qu} (hs:x.au[i]?=some s):({ x with au:=x.au.set i s }:Qi)=x:=by
 have:x.au.set i s=x.au:=Yh hs;rw [this]
theorem q34 (hx:Qf L x g) {i:Nat} {q:ik} {s:Qu} (hq:L.qs[i]?=some q) (hs:x.au[i]?=some s) (hr:zu s.ring):Qa prog 18 #[Qb q.b] [g] fun e gs =>
 e=U4 (U9 #[.agg (J3 s.ring).2.1.cells,U1 U2 (J3 s.ring).2.2])/\∃ g',Qf L { x with au:=x.au.set i { s with ring:=(J3 s.ring).1 } } g'/\gs=[g'] :=
 Dp hx hq hs fun g hg=>qtz hg hr
theorem qok (hx:Qf L x g) {i:Nat} {q:ik} {s:Qu} (hq:L.qs[i]?=some q) (hs:x.au[i]?=some s) (hr:zu s.ring):Qa prog 35 #[Qb q.b] [g] fun e gs =>
 e=U4 (U1 U2 (s.ring.tail - s.ring.head))/\∃ g',Qf L x g'/\gs=[g']:=by
 have:=Dp hx hq hs fun g hg=>qih hg hr
 rwa [qm hs] at this
theorem qvr (hx:Qf L x g) {i:Nat} {q:ik} {s:Qu} (hq:L.qs[i]?=some q) (hs:x.au[i]?=some s) (hr:zu s.ring):Qa prog 291 #[Qb q.b] [g] fun e gs =>
 e=U4 (.bool s.ring.ready)/\∃ g',Qf L x g'/\gs=[g']:=by
 have:=Dp hx hq hs fun g hg=>qmy hg hr
 rwa [qm hs] at this
theorem qj6 (hx:Qf L x g) (i:Int):Qd prog 17 #[Qb L.fb,U1 U2 i] [g] (sJ (L.qs.map ik.b) i):=by
 obtain ⟨tr,gF,gS,gR,gH,gT,h1,h2,h3,h4,h5,h6,rfl⟩:=hx;intro w hw;have T:=(TG.refl hw).m [gF,gS,gR,gH,gT];exact (O7 h1 h3 i).use T [0,2] rfl rfl
end
theorem NI {L:Lay} {x:Qi} {g:List ak} (hx:Qf L x g) {i:Nat} (hi:i<x.au.length):∃ q,L.qs[i]?=some q/\sJ (L.qs.map ik.b) i=Qb q.b:=by
 obtain ⟨tr,gF,gS,gR,gH,gT,h1,h2,h3,h4,h5,h6,rfl⟩:=hx;have hl:i<L.qs.length:=by omega
 refine ⟨L.qs[i],List.getElem?_eq_getElem hl,?_⟩
 unfold sJ;rw [if_pos (by simp;omega)];simp [hl]
section
variable {L:Lay} {x:Qi} {g:List ak}
theorem Rv (hx:Qf L x g):Qa prog 61 #[Qb L.fb] [g] fun e gs=>e=U4 (U1 U2 x.f.busy)/\∃ g',Qf L x g'/\gs=[g']:=by
 obtain ⟨tr,gF,gS,gR,gH,gT,h1,h2,h3,h4,h5,h6,rfl⟩:=hx;intro w hw;have T:=(TG.refl hw).m [gF,gS,gR,gH,gT];refine (Qa.use (qos h1) T [0] rfl rfl).mono ?_
 rintro e w' ⟨gs,⟨he,g1,hn1,rfl⟩,T'⟩;exact ⟨_,⟨he,_,⟨tr,g1,gS,gR,gH,gT,hn1,h2,h3,h4,h5,h6,rfl⟩,rfl⟩,TG.sum (H:=[g1,gS,gR,gH,gT]) T'⟩
theorem qzx (hx:Qf L x g) (h:0<=x.f.busy/\x.f.busy<=1000000):Qa prog 288 #[Qb L.fb,.bool true] [g] fun e gs=>e=U4 (U1 U2 0)/\∃ g',Qf L { x with f:={ x.f with busy:=x.f.busy+1 } } g'/\gs=[g']:=by
 obtain ⟨tr,gF,gS,gR,gH,gT,h1,h2,h3,h4,h5,h6,rfl⟩:=hx;intro w hw;have T:=(TG.refl hw).m [gF,gS,gR,gH,gT];refine (Qa.use (qoz h1 h) T [0] rfl rfl).mono ?_
 rintro e w' ⟨gs,⟨he,g1,hn1,rfl⟩,T'⟩;exact ⟨_,⟨he,_,⟨tr,g1,gS,gR,gH,gT,hn1,h2,h3,h4,h5,h6,rfl⟩,rfl⟩,TG.sum (H:=[g1,gS,gR,gH,gT]) T'⟩
theorem qzu (hx:Qf L x g) (h:0<=x.f.busy/\x.f.busy<=1000000):Qa prog 288 #[Qb L.fb,.bool false] [g] fun e gs=>e=U4 (U1 U2 (xE x.f.busy))/\∃ g',Qf L { x with f:={ x.f with busy:=Z5 x.f.busy } } g'/\gs=[g']:=by
 obtain ⟨tr,gF,gS,gR,gH,gT,h1,h2,h3,h4,h5,h6,rfl⟩:=hx;intro w hw;have T:=(TG.refl hw).m [gF,gS,gR,gH,gT];refine (Qa.use (qov h1 h) T [0] rfl rfl).mono ?_
 rintro e w' ⟨gs,⟨he,g1,hn1,rfl⟩,T'⟩;exact ⟨_,⟨he,_,⟨tr,g1,gS,gR,gH,gT,hn1,h2,h3,h4,h5,h6,rfl⟩,rfl⟩,TG.sum (H:=[g1,gS,gR,gH,gT]) T'⟩
theorem qzw (hx:Qf L x g) (h:0<=x.f.now/\x.f.now<9223372036854775807):Qa prog 235 #[Qb L.fb] [g] fun e gs=>e=U4 (U9 #[U1 U5 (x.f.now+1),U1 U2 0])/\∃ g',Qf L { x with f:={ x.f with now:=x.f.now+1 } } g'/\gs=[g']:=by
 obtain ⟨tr,gF,gS,gR,gH,gT,h1,h2,h3,h4,h5,h6,rfl⟩:=hx;intro w hw;have T:=(TG.refl hw).m [gF,gS,gR,gH,gT];refine (Qa.use (qoy h1 h) T [0] rfl rfl).mono ?_
 rintro e w' ⟨gs,⟨he,g1,hn1,rfl⟩,T'⟩;exact ⟨_,⟨he,_,⟨tr,g1,gS,gR,gH,gT,hn1,h2,h3,h4,h5,h6,rfl⟩,rfl⟩,TG.sum (H:=[g1,gS,gR,gH,gT]) T'⟩
theorem Yf (hx:Qf L x g):Qd prog 31 #[Qb L.fb] [g] (Qb L.p.pb):=by
 obtain ⟨tr,gF,gS,gR,gH,gT,⟨C,rfl,hc⟩,h2,h3,h4,h5,h6,rfl⟩:=hx;refine GO fun w HT=>?_
 have c0:=((HT.m [[cl L.fb 138 C],gS,gR,gH,gT]).c 0 0 8).trans hc.pipe;clear hc h2 h3 h4 h5 h6;go_enter func31,ntmps31
 go_wp2
 go_ret
 exact ⟨rfl,0,rfl⟩
theorem QA (hx:Qf L x g):Qd prog 164 #[Qb L.fb] [g] (Qb L.p.lb):=by
 obtain ⟨tr,gF,gS,gR,gH,gT,⟨C,rfl,hc⟩,h2,h3,h4,h5,h6,rfl⟩:=hx;refine GO fun w HT=>?_
 have c0:=((HT.m [[cl L.fb 138 C],gS,gR,gH,gT]).c 0 0 9).trans hc.log;clear hc h2 h3 h4 h5 h6;go_enter func164,ntmps164
 go_wp2
 go_ret
 exact ⟨rfl,0,rfl⟩
theorem Pp (hx:Qf L x g):Qa prog 195 #[Qb L.fb] [g] fun e gs=>e=U4 (.agg x.f.cfg.cells)/\gs=[g]:=by
 obtain ⟨tr,gF,gS,gR,gH,gT,⟨C,rfl,hc⟩,h2,h3,h4,h5,h6,rfl⟩:=hx;have hcf:=hc.cfg;refine GO fun w HT=>?_
 have HT1:=Vh (HT.out.m [[cl L.fb 138 C],gS,gR,gH,gT]);have k0:=(HT1.c 0 0 0).trans (hcf 0 (by decide));have k1:=(HT1.c 0 0 1).trans (hcf 1 (by decide));have k2:=(HT1.c 0 0 2).trans (hcf 2 (by decide));have k3:=(HT1.c 0 0 3).trans (hcf 3 (by decide));have k4:=(HT1.c 0 0 4).trans (hcf 4 (by decide));have k5:=(HT1.c 0 0 5).trans (hcf 5 (by decide));simp only [Cfg.cells,az] at k0 k1 k2 k3 k4 k5;have hlt:=HT1.l 0 0;simp only [] at hlt;clear hcf hc h2 h3 h4 h5 h6 HT1;go_enter func195,ntmps195
 go_wp2
 exact U8 (v:=.agg x.f.cfg.cells) (by simp [results,results195,go_sem,Cfg.cells]) rfl ⟨_,⟨rfl,rfl⟩,HT.aT _⟩
theorem qsa (hx:Qf L x g) (hc:x.f.cfg.cap=x.aa.recs.length) (hs:Xh x.aa) (i:Int):Qa prog 266 #[Qb L.fb,U1 U2 i] [g] fun e gs=>e=U4 (U9 #[U1 U5 (qF x.aa i).1,U1 U2 (qF x.aa i).2])/\∃ g',Qf L x g'/\gs=[g']:=by
 obtain ⟨tr,gF,gS,gR,gH,gT,h1,h2,h3,h4,h5,h6,rfl⟩:=hx;intro w hw;have T:=(TG.refl hw).m [gF,gS,gR,gH,gT]
 refine (Qa.use (qkc h1 h2 hc hs.n1 (fun r hr=>⟨(hs.recs r hr).g0,by
  have h:=(hs.recs r hr).g1;unfold Xv at h;split at h
  ·next ho =>
   unfold okW at ho;simp only [Bool.and_eq_true,decide_eq_true_eq] at ho;omega
  ·omega⟩) i) T [0,1] rfl rfl).mono ?_
 rintro e w' ⟨gs,⟨he,g1,hn1,rfl⟩,T'⟩;exact ⟨_,⟨he,_,⟨tr,gF,g1,gR,gH,gT,h1,hn1,h3,h4,h5,h6,rfl⟩,rfl⟩,TG.sum (H:=[gF,g1,gR,gH,gT]) T'⟩
end
theorem TG.sG {h H:GH} {w w':World} (T:TG h w H w') (i:Nat) {p:ak} (hm:p∈H.getD i []):w'.heap[p.1]?=some p.2:=by
 obtain ⟨j,hj⟩:=List.mem_iff_getElem?.1 hm;exact T.obj i j hj
theorem TG.ah {h H:GH} {w w':World} (T:TG h w H w') (i:Nat) {b:Nat} {t:TypeId} {C:Array Value} (hm:cl b t C∈H.getD i []) (o:Nat):w'.cell? ⟨b,o,none⟩=C[o]?:=Q8 (T.sG i hm) o
theorem TG.bu {h H:GH} {w w':World} (T:TG h w H w') (i:Nat) {p:ak} (hm:p∈H.getD i []):p.1<w'.heap.size:=(Array.getElem?_eq_some_iff.1 (T.sG i hm)).1
structure Yw where
 th:Int
 no:Int
 err:Int
 ok:Bool
 fq:Bool
 left:List Int
 aB:Int
inductive MS where
 | shuts | bO | aA (i:Int) | waits | bH (i:Int) | aC (i:Int) | cO
inductive AS where
 | aS | dC | release (i:Int) | drop
inductive YS where
 | inside | idle
abbrev SS:Type:=St MS AS YS
structure ZS where
 k:Yw
 x:Qi
 p:Q2
def pq (k:Yw) (E:EvS):EvS:={ E with thread:=k.th,call:=k.no,what:=6 }
def ZS.note (E:EvS) (z:ZS):ZS:={ z with x:={ z.x with tr:=z.x.tr++[pq z.k E] } }
def sP (i:Int):SS:=.at none (.bH i)
def Zz (i:Int) (z:ZS):SS:=if z.x.f.cfg.cap<=i then .thn (.aj .dC) .waits else .thn (sP i) (.aA i)
def Yd (i:Int) (z:ZS):ZS:={ z with k:={ z.k with aB:=z.x.aa.word i } }
def Xy:MS->ZS->SS × ZS
 | .shuts,z=>if z.x.f.closed=true then (.aj .aS,{ (z.note { bL with kind:=9,err:=3 }) with k:={ z.k with err:=3,ok:=false,fq:=false } })
    else (.at (some .inside) .bO,({ z with x:={ z.x with f:={ z.x.f with closed:=true } } }:ZS).note { bL with kind:=10 })
 | .bO,z=>(Zz 0 z,z)
 | .aA i,z=>(Zz (i+1) z,z)
 | .waits,z=>(.at (some .idle) .cO,z)
 | .bH i,z=>if bB (z.x.aa.word i)=2\/bB (z.x.aa.word i)=3 then (.at none (.aC i),Yd i z) else (.nil,Yd i z)
 | .aC i,z =>
   let r:=z.x.aa.try i z.k.aB 6
   if r.2.2≠0 then (sP i,{ z with x:={ z.x with aa:=r.1 } })
   else (.aO (.release i) .drop,({ z with x:={ z.x with aa:=r.1 },k:={ z.k with left:=z.k.left++[(qF r.1 i).1] } }:ZS).note { bL with kind:=12,id:=(qF r.1 i).1,gen:=Xv r.2.1 })
 | .cO,z=>(.aj .aS,{ (z.note { bL with kind:=13 }) with k:={ z.k with err:=0,ok:=true,fq:=true } })
def Yc:AS->ZS->ZS
 | .aS,z=>z.note { bL with kind:=2,err:=z.k.err }
 | .dC,z=>{ z with p:={ z.p with shut:=true } }
 | .release i,z=>{ z with x:={ z.x with aa:=(z.x.aa.try i (z.x.aa.word i) 10).1 } }
 | .drop,z=>{ z with x:={ z.x with aa:=z.x.aa.drop.1 } }
def Ah:YS->ZS->Bool
 | .inside,z=>z.x.f.inside == 0
 | .idle,z=>z.p.shut && decide (z.p.ch=[]) && (z.x.f.busy == 0)
structure uE (z:ZS):Prop where
 core:pR z.x
 cap:z.x.f.cfg.cap=z.x.aa.recs.length
 busy:0<=z.x.f.busy/\z.x.f.busy<=1000000
 aB:0<=z.k.aB/\z.k.aB<18446744073709551616/\okW z.k.aB=true
 left:z.k.left.length<=1000000
def MS.fit:MS->ZS->Prop
 | .aA i,_=>0<=i/\i<=64
 | .bH i,_=>0<=i/\i<=64
 | .aC i,z=>(0<=i/\i<=64)/\z.k.fq=false
 | _,_=>True
def xy (f:MS) (z:ZS):Prop:=uE z/\f.fit z
def Bo (_:AS) (z:ZS):Prop:=uE z
def Zg (fb:Nat) (pv vl al:Value) (k:Yw):Array Value:=#[Qb fb,U1 U2 k.th,U1 U2 k.no,U1 U2 k.err,.bool k.ok,U1 U5 0,U1 U5 0,al,pv,vl,U1 U5 k.aB]
abbrev Xc (kb fb:Nat) (pv vl al:Value) (k:Yw):List ak:=[cl kb 194 (Zg fb pv vl al k)]
def kX (l:List Int):List Value:=l.map fun n=>U1 U5 n
def NL (k:Yw) (vl al:Value) (g:List ak):Prop:=Q3 36 1 vl k.left.length (kX k.left) g/\(if k.fq then al=vl else al=.slice none 0 0)
def lL (L:Lay) (kb:Nat) (pv:Value) (e:List ak) (z:ZS) (gK gF:List ak):Prop :=
 ∃ vl al gl gC gP,NL z.k vl al gl/\Qf L z.x gC/\Zd L.p.pb z.p gP/\gK=Xc kb L.fb pv vl al z.k++(gl++e)/\gF=gC++gP
def mQ (kb:Nat) (e:List ak) (fn:UK) (v:Value):Prop:=∃ bk,v=U6 (U7 fn) #[] #[Qb bk]/\cl bk 94 #[Qb kb]∈e
def qB (kb:Nat) (e:List ak) (fn:UK) (i:Int) (v:Value):Prop:=∃ bk bi,v=U6 (U7 fn) #[] #[Qb bk,Qb bi]/\cl bk 94 #[Qb kb]∈e/\cl bi 3 #[U1 U2 i]∈e
def BO (kb:Nat) (e:List ak) (f:MS) (v:Value) (g:List ak):Prop:=g=[]/\match f with
 | .shuts=>v=U6 (U7 110) #[Qb kb] #[]
 | .bO=>mQ kb e 160 v
 | .aA i=>qB kb e 201 i v
 | .waits=>v=U6 (U7 199) #[Qb kb] #[]
 | .bH i=>qB kb e 241 i v
 | .aC i=>qB kb e 242 i v
 | .cO=>mQ kb e 240 v
def BM (kb:Nat) (e:List ak) (f:AS) (v:Value) (g:List ak):Prop:=g=[]/\match f with
 | .aS=>mQ kb e 194 v
 | .dC=>mQ kb e 197 v
 | .release i=>qB kb e 267 i v
 | .drop=>mQ kb e 268 v
def VYS (kb:Nat) (e:List ak) (f:YS) (v:Value) (g:List ak):Prop:=g=[]/\match f with
 | .inside=>mQ kb e 159 v
 | .idle=>mQ kb e 238 v
def fw (e e':List ak):Prop:=∀ b∈e,b∈e'
def wK (L:Lay) (kb:Nat) (pv:Value):kV :=
 ⟨MS,AS,YS,ZS,List ak,fw,lL L kb pv,BO kb,BM kb,VYS kb,Xy,Yc,Ah,xy,Bo,fun _ z=>uE z⟩
theorem mQ.le {kb:Nat} {e e':List ak} {fn:UK} {v:Value} (h:mQ kb e fn v) (hl:fw e e'):mQ kb e' fn v:=by
 obtain ⟨bk,h1,h2⟩:=h;exact ⟨bk,h1,hl _ h2⟩
theorem qB.le {kb:Nat} {e e':List ak} {fn:UK} {i:Int} {v:Value} (h:qB kb e fn i v) (hl:fw e e'):qB kb e' fn i v:=by
 obtain ⟨bk,bi,h1,h2,h3⟩:=h;exact ⟨bk,bi,h1,hl _ h2,hl _ h3⟩
theorem mQ.is {kb:Nat} {e:List ak} {fn:UK} {v:Value} (h:mQ kb e fn v):∃ fn first aK,v=U6 (U7 fn) first aK:=by
 obtain ⟨bk,h1,h2⟩:=h;exact ⟨_,_,_,h1⟩
theorem qB.is {kb:Nat} {e:List ak} {fn:UK} {i:Int} {v:Value} (h:qB kb e fn i v):∃ fn first aK,v=U6 (U7 fn) first aK:=by
 obtain ⟨bk,bi,h1,h2,h3⟩:=h;exact ⟨_,_,_,h1⟩
theorem BO.le {kb:Nat} {e e':List ak} {f:MS} {v:Value} {g:List ak} (hl:fw e e') (h:BO kb e f v g):BO kb e' f v g:=by
 refine ⟨h.1,?_⟩
 have:=h.2;cases f <;> first | exact this | exact mQ.le this hl | exact qB.le this hl
theorem BM.le {kb:Nat} {e e':List ak} {f:AS} {v:Value} {g:List ak} (hl:fw e e') (h:BM kb e f v g):BM kb e' f v g:=by
 refine ⟨h.1,?_⟩
 have:=h.2;cases f <;> first | exact mQ.le this hl | exact qB.le this hl
theorem Jf (L:Lay) (kb:Nat) (pv:Value) (e:List ak):((wK L kb pv).on e).iI where
 vm {f v g} h:=by
  have:=h.2;cases f <;> first | exact ⟨_,_,_,this⟩ | exact mQ.is this | exact qB.is this
 va {f v g} h:=by
  have:=h.2;cases f <;> first | exact mQ.is this | exact qB.is this
 vy {f v g} h:=by
  have:=h.2;cases f <;> exact mQ.is this
theorem fw.refl (e:List ak):fw e e:=fun _ h=>h
theorem fw.app (e l:List ak):fw e (e++l):=fun _ h=>UF _ h
def nH (L:Lay) (kb:Nat) (pv:Value) (e:List ak) (s:SS) (z:ZS) (en:UO) (gs:GH):Prop :=
 ∃ e',fw e e'/\∃ m d g' bg aJ,en=U4 (.agg #[m,d])/\(wK L kb pv).SV e' s m d g'/\lL L kb pv e' z bg aJ/\gs=[g',bg,aJ]
def wN (L:Lay) (kb:Nat) (pv:Value) (e:List ak) (z:ZS) (en:UO) (gs:GH):Prop :=
 ∃ e',fw e e'/\∃ bg aJ,en=U4 (U9 #[])/\lL L kb pv e' z bg aJ/\gs=[[],bg,aJ]
def EF (L:Lay) (kb:Nat) (pv:Value) (s:SS) (en:UO) (g' l:List ak):Prop :=
 ∃ m d,en=U4 (.agg #[m,d])/\∀ e,fw l e->(wK L kb pv).SV e s m d g'
theorem DK (f1 f2:UK) (a1 a2 c1 c2:Array Value):Qa prog 158 #[U6 (U7 f1) a1 c1,U6 (U7 f2) a2 c2] [] fun en gs=>en=U4 (.agg #[U6 (U7 f1) a1 c1,U6 (U7 f2) a2 c2])/\gs=[]:=by
 refine GO fun w HT=>?_
 go_enter func158,ntmps158
 go_wp2
 exact U8 (v:=.agg #[_,_]) (by simp [results,results158,go_sem]) rfl ⟨_,⟨rfl,rfl⟩,HT.aT _⟩
section
variable {L:Lay} {x:Qi} {g gK gF:List ak} {kb:Nat} {pv vl al:Value} {k:Yw}
theorem AB (hx:Qf L x g) (E:EvS) (hn:x.tr.length<=1000000):Qa prog 111 #[Qb kb,.agg E.cells] [Xc kb L.fb pv vl al k,g] fun e gs =>
 e=U4 (U9 #[])/\∃ g',Qf L { x with tr:=x.tr++[pq k E] } g'/\gs=[Xc kb L.fb pv vl al k,g']:=by
 refine GO fun w HT=>?_
 have HN:=Vh (KG hx (pq k E) hn);have lt:=HT.l 0 0;simp only [] at lt;obtain ⟨k0,k1,k2⟩:=HT.c3 0 0 0 1 2;simp only [Zg,az] at k0 k1 k2;clear hx hn;simp only [EvS.cells];go_enter func111,ntmps111
 go_wp2
 go_region
 go_wp2
 have HT:=Vh (HT.out.a 73 (pq k E).cells).drew;simp only [UN,UQ] at HT;simp only [EvS.cells,pq] at HT;clear lt k1 k2 k0;generalize UD _=w1 at HT |-;have k0:=HT.c 0 0 0;simp only [Zg,az] at k0;obtain ⟨b0,b1,b2,b3,b4,b5,b6,b7⟩:=HT.c8 2 0 0 1 2 3 4 5 6 7;obtain ⟨b8,b9⟩:=HT.c2 2 0 8 9;simp only [aN] at b0 b1 b2 b3 b4 b5 b6 b7 b8 b9;refine Mx 5 ?_
 simp only [bY]
 repeat (go_big_quiet_step ((fail)))
 refine UA (QT HT fun nq HT=>?_)
 go_wp2_with fail
 refine Qa.run HN HT [1] ?_
 rintro e w1 gs ⟨rfl,g',hx',rfl⟩ HT;simp only [PU] at HT;have HX:=Vh hx';clear hx';go_wp2_with fail
 refine ⟨rfl,?_⟩
 go_wp2
 exact UG (UH rfl _ _ _) rfl ⟨_,⟨rfl,g',HX,rfl⟩,HT.p [0,1]⟩
theorem NR (L:Lay) (kb:Nat) (pv:Value):Qa prog 157 #[Qb kb] [] fun en gs=>∃ g' l,EF L kb pv (.aj .aS) en g' l/\gs=[g',l]:=by
 refine GO fun w HT=>?_
 go_enter func157,ntmps157
 go_wp2_with fail
 refine Qa.run (aV.dY (b:=w.heap.size+1+1) (o:=0) (D:=#[U6 (U7 194) #[] #[Qb w.heap.size]]) rfl 1 (.inl rfl)) (((HT.a _ _).alloc (k:=w.heap.size+1) (by simp) _ _).alloc (k:=w.heap.size+1+1) (by simp) _ _) [2] ?_
 rintro e w1 gs ⟨bf,bl,bi,rfl,rfl⟩ HT;simp only [PU] at HT;obtain ⟨e0,e1⟩:=HT.c2 1 0 0 1;obtain ⟨ek,dZ⟩:=HT.f2 1 0 0 1;simp only [aN] at e0 e1;go_wp2
 exact U8 (v:=.agg #[U3,_]) (by simp [results,results157,go_sem,e0,e1]) rfl ⟨_,⟨_,[cl w.heap.size 94 #[Qb kb]],⟨_,_,rfl,fun e he=>⟨rfl,bf,bl,bi,w.heap.size+1+1,0,#[U6 (U7 194) #[] #[Qb w.heap.size]],_,[],rfl,⟨rfl,w.heap.size,rfl,he _ (by simp)⟩,rfl,rfl⟩⟩,rfl⟩,(((HT.set 1 0 rfl 0 _).set 1 0 rfl 1 _).p [2,3,4,5,0]).sum⟩
theorem Tc (L:Lay) (kb:Nat) (pv:Value) (i:Int):Qa prog 200 #[Qb kb,U1 U2 i] [] fun en gs=>∃ g' l,EF L kb pv (sP i) en g' l/\gs=[g',l]:=by
 refine GO fun w HT=>?_
 go_enter func200,ntmps200
 go_wp2
 exact U8 (v:=.agg #[U3,_]) (by simp [results,results200,go_sem]) rfl ⟨_,⟨[],[cl w.heap.size 94 #[Qb kb],cl (w.heap.size+1) 3 #[U1 U2 i]],⟨_,_,rfl,fun e he=>⟨rfl,rfl,w.heap.size,w.heap.size+1,rfl,he _ (by simp),he _ (by simp)⟩⟩,rfl⟩,(((HT.a _ _).alloc (k:=w.heap.size+1) (by simp) _ _).aT _).sum⟩
end
section
variable {L:Lay} {x:Qi} {p:Q2} {e gK gF:List ak} {kb:Nat} {pv:Value} {k:Yw}
theorem q7h (hz:lL L kb pv e ⟨k,x,p⟩ gK gF) (hp:xy .shuts ⟨k,x,p⟩):Qa prog 110 #[Qb kb] [gK,gF] (nH L kb pv e (Xy .shuts ⟨k,x,p⟩).1 (Xy .shuts ⟨k,x,p⟩).2):=by
 have dJ:=Vh hp.1.core.tr;simp only at dJ;cases hc:x.f.closed with
 | true =>
   have he:Xy .shuts ⟨k,x,p⟩=(.aj .aS,⟨{ k with err:=3,ok:=false,fq:=false },{ x with tr:=x.tr++[pq k { bL with kind:=9,err:=3 }] },p⟩):=by
    unfold Xy ZS.note;simp only [hc,if_true]
   rw [he];clear he hp;unfold nH;have hsame:({ x with f:={ x.f with closed:=true } }:Qi)=x:=by rw [<- hc]
   obtain ⟨vl,al,gl,gC,gP,hl,hx,aU,rfl,rfl⟩:=hz;refine GO fun w HT=>?_
   have HT:=Vh (HT.out.m [Xc kb L.fb pv vl al k,gl,e,gC,gP]);have HX:=Vh hx;have HL:=Vh hl;have bF:=Vh aU;clear hx hl aU;have hsh:=Ry HX;rw [hsame,hc] at hsh;have kr:=Vh hsh;clear hsh hsame hc;have k0:=HT.c 0 0 0;simp only [Zg,az] at k0;have lt:=HT.l 0 0;simp only [] at lt;go_enter func110,ntmps110
   go_wp2_with fail
   refine Qa.run kr ((HT.a _ _).alloc (k:=w.heap.size+1) (by simp) _ _) [3] ?_
   rintro e w1 gs ⟨rfl,g1,hx1,rfl⟩ HT;simp only [PU] at HT;have HX:=Vh hx1;have b0:=HT.c 5 0 0;clear hx1;simp only [bP] at b0;go_wp2_with fail
   refine Qa.run (AB HX { bL with kind:=9,err:=3 } dJ) (HT) [0,3] ?_
   rintro e w1 gs ⟨rfl,g3,hx3,rfl⟩ HT;simp only [PU] at HT;have HX:=Vh hx3;have b0:=HT.c 5 0 0;clear hx3 k0;obtain ⟨k3,k4,k5,k6,k7⟩:=HT.c5 0 0 3 4 5 6 7;obtain ⟨zU,Cf,Cg,Ch,p8⟩:=HT.f5 0 0 3 4 5 6 7;simp only [Zg,az] at k3 k4 k5 k6 k7;simp only [bP] at b0;go_wp2_with fail
   refine Qa.run (NR L kb pv) (((((((HT.set 0 0 rfl 3 _).set 0 0 rfl 4 _).set 0 0 rfl 5 _).set 0 0 rfl 6 _).set 0 0 rfl 7 _).eq (H':=[Xc kb L.fb pv vl (.slice none 0 0) { k with err:=3,ok:=false,fq:=false },gl,e,g3,gP,[cl w.heap.size 94 #[Qb kb]],[cl (w.heap.size+1) 153 #[U3,U3]]]) rfl)) [] ?_
   rintro e w1 gs ⟨g2,l2,⟨m2,d2,rfl,hs2⟩,rfl⟩ HT;simp only [PU] at HT;obtain ⟨r0,r1⟩:=HT.c2 6 0 0 1;obtain ⟨cr,df⟩:=HT.f2 6 0 0 1;simp only [aN] at r0 r1;have hv2:=(Jf L kb pv l2).vals (hs2 l2 (fw.refl _));obtain ⟨st1,st2⟩:=aV.aD (P:=prog) hv2.1 hv2.2 r0 cr r1 df;have HS:=Vh hs2;clear hv2 hs2;go_wp2
   exact U8 (v:=.agg #[_,_]) (by simp [results,results110,go_sem,r0,r1]) rfl ⟨_,⟨e++l2,fw.app _ _,m2,d2,g2,_,_,rfl,HS _ (fun b hb=>UC _ hb),⟨vl,(.slice none 0 0),gl,_,gP,⟨HL.1,rfl⟩,HX,bF,rfl,rfl⟩,rfl⟩,(((HT.set 6 0 rfl 0 _).set 6 0 rfl 1 _).p [7,0,1,2,8,3,4]).sum⟩
 | false =>
   have he:Xy .shuts ⟨k,x,p⟩=(.at (some .inside) .bO,⟨k,{ x with f:={ x.f with closed:=true },tr:=x.tr++[pq k { bL with kind:=10 }] },p⟩):=by
    unfold Xy ZS.note;simp [hc]
   rw [he];clear he hp;unfold nH;obtain ⟨vl,al,gl,gC,gP,hl,hx,aU,rfl,rfl⟩:=hz;refine GO fun w HT=>?_
   have HT:=Vh (HT.out.m [Xc kb L.fb pv vl al k,gl,e,gC,gP]);have HX:=Vh hx;have HL:=Vh hl;have bF:=Vh aU;clear hx hl aU;have hsh:=Ry HX;rw [hc] at hsh;have kr:=Vh hsh;clear hsh hc;have k0:=HT.c 0 0 0;simp only [Zg,az] at k0;have lt:=HT.l 0 0;simp only [] at lt;go_enter func110,ntmps110
   go_wp2_with fail
   refine Qa.run kr ((HT.a _ _).alloc (k:=w.heap.size+1) (by simp) _ _) [3] ?_
   rintro e w1 gs ⟨rfl,g1,hx1,rfl⟩ HT;simp only [PU] at HT;have HX:=Vh hx1;have b0:=HT.c 5 0 0;clear hx1;simp only [bP] at b0;go_wp2_with fail
   refine Qa.run (AB HX { bL with kind:=10 } dJ) (HT) [0,3] ?_
   rintro e w1 gs ⟨rfl,g3,hx3,rfl⟩ HT;simp only [PU] at HT;have HX:=Vh hx3;have b0:=HT.c 5 0 0;clear hx3 k0;simp only [bP] at b0;go_wp2_with fail
   refine Qa.run (DK _ _ _ _ _ _) (HT) [] ?_
   rintro e w1 gs ⟨rfl,rfl⟩ HT;simp only [PU] at HT;obtain ⟨r0,r1⟩:=HT.c2 6 0 0 1;obtain ⟨cr,df⟩:=HT.f2 6 0 0 1;simp only [aN] at r0 r1;go_wp2
   exact U8 (v:=.agg #[_,_]) (by simp [results,results110,go_sem,r0,r1]) rfl ⟨_,⟨e++[cl w.heap.size 94 #[Qb kb]],fw.app _ _,_,_,[],_,_,rfl,⟨[],[],⟨rfl,w.heap.size,rfl,by simp⟩,⟨rfl,w.heap.size,rfl,by simp⟩,rfl⟩,⟨vl,al,gl,_,gP,HL,HX,bF,rfl,rfl⟩,rfl⟩,(((HT.set 6 0 rfl 0 _).set 6 0 rfl 1 _).p [0,1,2,5,3,4]).sum⟩
end
theorem PV (a b c d e f:Value) (w:World):(Instr.field 30 (.agg #[a,b,c,d,e,f]) 1).run prog w=.ok b w:=by kernel_rfl
section
variable {L:Lay} {x:Qi} {p:Q2} {e g gC gK gF:List ak} {kb:Nat} {pv vl al:Value} {k:Yw}
theorem NU (hx:Qf L x gC) (ix:Int) (h0:0<=ix/\ix<=65):Qa prog 161 #[Qb kb,U1 U2 ix] [Xc kb L.fb pv vl al k,gC] fun en gs =>
 ∃ g' l,EF L kb pv (Zz ix ⟨k,x,p⟩) en g' l/\gs=[g',l,Xc kb L.fb pv vl al k,gC]:=by
 have hcf:=Pp hx;simp only [Cfg.cells] at hcf;by_cases hi:x.f.cfg.cap<=ix
 ·have he:Zz ix ⟨k,x,p⟩=.thn (.aj .dC) .waits:=if_pos hi
  rw [he]
  have hrow:∀ (bk b bf bl bi:Nat),(wK L kb pv).SV [cl bk 94 #[Qb kb]] (.aj .dC) U3 (U6 (U7 209) #[] #[Qb bf,Qb bl,Qb bi])
   ([cl bf 1 #[U6 (U7 197) #[] #[Qb bk]],cl bl 322 #[.slice (some ⟨b,0,none⟩) 1 1],cl bi 3 #[U1 U2 0],cl b 1 #[U6 (U7 197) #[] #[Qb bk]]]++[]) :=
   fun bk b bf bl bi=>⟨rfl,bf,bl,bi,b,0,_,_,_,rfl,⟨rfl,bk,rfl,by simp⟩,rfl,rfl⟩
  have fo:∀ (bk b bf bl bi:Nat),_:=fun bk b bf bl bi=>aV.bR (c:=(wK L kb pv).on [cl bk 94 #[Qb kb]]) (f:=MS.waits) (v:=U6 (U7 199) #[Qb kb] #[]) (gm:=[]) (Jf L kb pv _) rfl (hrow bk b bf bl bi) ⟨rfl,rfl⟩
  have hfc:=fun w=>PV (U1 U2 x.f.cfg.sh) (U1 U2 x.f.cfg.cap) (U1 U2 x.f.cfg.ring) (U1 U2 x.f.cfg.room) (U1 U2 x.f.cfg.wk) (U1 U2 x.f.cfg.jA) w
  refine GO fun w HT=>?_
  have nD:=Vh fo;have Bv:=Vh hcf;have k0:=HT.c 0 0 0;simp only [Zg,az] at k0;clear hrow fo hcf hx he h0;go_enter func161,ntmps161
  go_wp2
  have HT:=Vh (((HT.a 94 #[Qb kb]).alloc (k:=w.heap.size+1) (by simp) 3 #[U1 U2 ix]).alloc (k:=w.heap.size+1+1) (by simp) 153 #[U3,U3]);clear k0;generalize UB (UB (UB w _) _) _=w1 at HT |-;obtain ⟨ι,W,hW0,hend,hin⟩:∃ (ι:Type) (W:ι->World),(∃ i,UD w1=W i)/\(∀ i,∃ u:Unit,True/\TG [Xc kb L.fb pv vl al k,gC] w [Xc kb L.fb pv vl al k,gC,[cl w.heap.size 94 #[Qb kb]],[cl (w.heap.size+1) 3 #[U1 U2 ix]],[cl (w.heap.size+1+1) 153 #[U3,U3]]] (W i))/\(∀ w',(∃ u:Unit,True/\TG [Xc kb L.fb pv vl al k,gC] w [Xc kb L.fb pv vl al k,gC,[cl w.heap.size 94 #[Qb kb]],[cl (w.heap.size+1) 3 #[U1 U2 ix]],[cl (w.heap.size+1+1) 153 #[U3,U3]]] w')->∃ i,w'=W i):=⟨{w' // ∃ u:Unit,True/\TG [Xc kb L.fb pv vl al k,gC] w [Xc kb L.fb pv vl al k,gC,[cl w.heap.size 94 #[Qb kb]],[cl (w.heap.size+1) 3 #[U1 U2 ix]],[cl (w.heap.size+1+1) 153 #[U3,U3]]] w'},UI,⟨⟨_,(),trivial,HT.drew⟩,rfl⟩,fun i=>i.2,fun w' h=>⟨⟨w',h⟩,rfl⟩⟩;have hne:Nonempty ι:=hW0.elim fun i _=>⟨i⟩
  have k0:∀ i,(W i).cell? ⟨kb,0,none⟩=some (Qb L.fb):=fun i=>by obtain ⟨_,_,T⟩:=hend i;exact T.c 0 0 0
  have a0:∀ i,(W i).cell? ⟨w.heap.size,0,none⟩=some (Qb kb):=fun i=>by obtain ⟨_,_,T⟩:=hend i;exact T.c 2 0 0
  have b0:∀ i,(W i).cell? ⟨w.heap.size+1,0,none⟩=some (U1 U2 ix):=fun i=>by obtain ⟨_,_,T⟩:=hend i;exact T.c 3 0 0
  have m1:∀ i,Calls prog 195 #[Qb L.fb] (W i) fun e w2=>e=U4 (.agg #[U1 U2 x.f.cfg.sh,U1 U2 x.f.cfg.cap,U1 U2 x.f.cfg.ring,U1 U2 x.f.cfg.room,U1 U2 x.f.cfg.wk,U1 U2 x.f.cfg.jA])/\∃ j,w2=W j:=fun i=>by
   obtain ⟨_,_,T⟩:=hend i;refine (Qa.use Bv T [1] rfl rfl).mono ?_
   rintro e w2 ⟨gs,⟨rfl,rfl⟩,T2⟩;exact ⟨rfl,hin _ ⟨(),trivial,T2⟩⟩
  refine Jv W (by kernel_rfl) (by kernel_rfl) hW0 ?_
  repeat (go_big_quiet_step ((first | (go_at_call 195;with_reducible exact m1 _))))
  refine UA ?_
  intro _ hw;obtain ⟨iq,hw2⟩:=hw;subst hw2;obtain ⟨_,_,T⟩:=hend iq;have HT:=Vh T;generalize W iq=w1 at HT |-;clear T hend hin hW0 hne;clear k0 a0 b0 m1;go_wp2_with fail
  have nS:=HT.l 2 0;have lt2:=HT.l 4 0;simp only [] at nS lt2;have bb0:=HT.c 2 0 0;simp only [aN] at bb0
  go_region_with (first
   | (go_at_call 178
      refine (Qa.use (aV.dY (b:=w1.heap.size) (o:=0) (D:=#[U6 (U7 197) #[] #[Qb w.heap.size]]) rfl 1 (.inl rfl)) (HT.drew.alloc (k:=w1.heap.size) (by simp) _ _) [5] rfl rfl).mono ?_
      rintro e w2 ⟨gs,⟨bf,bl,bi,rfl,rfl⟩,Ta⟩;simp only [PU] at Ta;have b0:=Ta.c 2 0 0;simp only [bP] at b0;have HT1:=Vh (Ta.sum (H':=[[cl bf 1 #[U6 (U7 197) #[] #[Qb w.heap.size]],cl bl 322 #[.slice (some ⟨w1.heap.size,0,none⟩) 1 1],cl bi 3 #[U1 U2 0],cl w1.heap.size 1 #[U6 (U7 197) #[] #[Qb w.heap.size]]]++[],[],[cl w.heap.size 94 #[Qb kb]],Xc kb L.fb pv vl al k,gC,[cl (w.heap.size+1+1) 153 #[U3,U3]],[cl (w.heap.size+1) 3 #[U1 U2 ix]]]))
      clear Ta)
   | (go_at_call 196
      refine (Qa.use (nD w.heap.size w1.heap.size bf bl bi) HT1 [0,1] rfl rfl).mono ?_
      rintro e w3 ⟨gs,⟨bs,br,rfl,rfl⟩,Ta⟩;simp only [PU] at Ta;obtain ⟨e0,e1⟩:=Ta.c2 5 0 0 1;obtain ⟨f0,f1⟩:=Ta.f2 5 0 0 1;have HT2:=Vh Ta
      clear Ta))
  all_goals
   go_wp2
   exact U8 (v:=.agg #[_,_]) (by simp [results,results161,go_sem,e0,e1]) rfl ⟨_,⟨_,[cl w.heap.size 94 #[Qb kb]],⟨_,_,rfl,fun e he=>⟨bs,br,_,_,_,[],rfl,rfl,⟨rfl,bf,bl,bi,w1.heap.size,0,#[U6 (U7 197) #[] #[Qb w.heap.size]],_,[],rfl,⟨rfl,w.heap.size,rfl,he _ (by simp)⟩,rfl,rfl⟩,⟨rfl,rfl⟩,rfl⟩⟩,rfl⟩,(((HT2.set 5 0 rfl 0 _).set 5 0 rfl 1 _).p [0,2,3,4]).sum⟩
 ·have he:Zz ix ⟨k,x,p⟩=.thn (sP ix) (.aA ix):=if_neg hi
  rw [he];have hi2:ix<x.f.cfg.cap:=by omega
  have hfc:=fun w=>PV (U1 U2 x.f.cfg.sh) (U1 U2 x.f.cfg.cap) (U1 U2 x.f.cfg.ring) (U1 U2 x.f.cfg.room) (U1 U2 x.f.cfg.wk) (U1 U2 x.f.cfg.jA) w
  refine GO fun w HT=>?_
  have Bv:=Vh hcf;have k0:=HT.c 0 0 0;simp only [Zg,az] at k0;clear hcf hx he h0;go_enter func161,ntmps161
  go_wp2
  have HT:=Vh (((HT.a 94 #[Qb kb]).alloc (k:=w.heap.size+1) (by simp) 3 #[U1 U2 ix]).alloc (k:=w.heap.size+1+1) (by simp) 153 #[U3,U3]);clear k0;generalize UB (UB (UB w _) _) _=w1 at HT |-;obtain ⟨ι,W,hW0,hend,hin⟩:∃ (ι:Type) (W:ι->World),(∃ i,UD w1=W i)/\(∀ i,∃ u:Unit,True/\TG [Xc kb L.fb pv vl al k,gC] w [Xc kb L.fb pv vl al k,gC,[cl w.heap.size 94 #[Qb kb]],[cl (w.heap.size+1) 3 #[U1 U2 ix]],[cl (w.heap.size+1+1) 153 #[U3,U3]]] (W i))/\(∀ w',(∃ u:Unit,True/\TG [Xc kb L.fb pv vl al k,gC] w [Xc kb L.fb pv vl al k,gC,[cl w.heap.size 94 #[Qb kb]],[cl (w.heap.size+1) 3 #[U1 U2 ix]],[cl (w.heap.size+1+1) 153 #[U3,U3]]] w')->∃ i,w'=W i):=⟨{w' // ∃ u:Unit,True/\TG [Xc kb L.fb pv vl al k,gC] w [Xc kb L.fb pv vl al k,gC,[cl w.heap.size 94 #[Qb kb]],[cl (w.heap.size+1) 3 #[U1 U2 ix]],[cl (w.heap.size+1+1) 153 #[U3,U3]]] w'},UI,⟨⟨_,(),trivial,HT.drew⟩,rfl⟩,fun i=>i.2,fun w' h=>⟨⟨w',h⟩,rfl⟩⟩;have hne:Nonempty ι:=hW0.elim fun i _=>⟨i⟩
  have k0:∀ i,(W i).cell? ⟨kb,0,none⟩=some (Qb L.fb):=fun i=>by obtain ⟨_,_,T⟩:=hend i;exact T.c 0 0 0
  have a0:∀ i,(W i).cell? ⟨w.heap.size,0,none⟩=some (Qb kb):=fun i=>by obtain ⟨_,_,T⟩:=hend i;exact T.c 2 0 0
  have b0:∀ i,(W i).cell? ⟨w.heap.size+1,0,none⟩=some (U1 U2 ix):=fun i=>by obtain ⟨_,_,T⟩:=hend i;exact T.c 3 0 0
  have m1:∀ i,Calls prog 195 #[Qb L.fb] (W i) fun e w2=>e=U4 (.agg #[U1 U2 x.f.cfg.sh,U1 U2 x.f.cfg.cap,U1 U2 x.f.cfg.ring,U1 U2 x.f.cfg.room,U1 U2 x.f.cfg.wk,U1 U2 x.f.cfg.jA])/\∃ j,w2=W j:=fun i=>by
   obtain ⟨_,_,T⟩:=hend i;refine (Qa.use Bv T [1] rfl rfl).mono ?_
   rintro e w2 ⟨gs,⟨rfl,rfl⟩,T2⟩;exact ⟨rfl,hin _ ⟨(),trivial,T2⟩⟩
  refine Jv W (by kernel_rfl) (by kernel_rfl) hW0 ?_
  repeat (go_big_quiet_step ((first | (go_at_call 195;with_reducible exact m1 _))))
  refine UA ?_
  intro _ hw;obtain ⟨iq,hw2⟩:=hw;subst hw2;obtain ⟨_,_,T⟩:=hend iq;have HT:=Vh T;generalize W iq=w1 at HT |-;clear T hend hin hW0 hne;clear k0 a0 b0 m1
  all_goals
   skip
   have a0:=HT.c 2 0 0;simp only [aN] at a0;have b0:=HT.c 3 0 0;simp only [aN] at b0;go_wp2_with fail
   refine Qa.run (Tc L kb pv ix) (HT) [] ?_
   rintro e w1 gs ⟨g2,l2,⟨m2,d2,rfl,hs2⟩,rfl⟩ HT;simp only [PU] at HT;have HS2:=Vh hs2;clear hs2 a0 b0;go_wp2_with fail
   refine Qa.run (aV.bR (c:=(wK L kb pv).on (l2++[cl w.heap.size 94 #[Qb kb],cl (w.heap.size+1) 3 #[U1 U2 ix]])) (f:=MS.aA ix) (v:=U6 (U7 201) #[] #[Qb w.heap.size,Qb (w.heap.size+1)]) (gm:=[]) (Jf L kb pv _) rfl (HS2 _ (fun b hb=>UF _ hb)) ⟨rfl,w.heap.size,w.heap.size+1,rfl,by simp,by simp⟩) (HT.sum (H':=[Xc kb L.fb pv vl al k,gC,[cl w.heap.size 94 #[Qb kb]],[cl (w.heap.size+1) 3 #[U1 U2 ix]],[cl (w.heap.size+1+1) 153 #[U3,U3]],g2,l2,[]])) [5,7] ?_
   rintro e w1 gs ⟨bs,br,rfl,rfl⟩ HT;simp only [PU] at HT;obtain ⟨r0,r1⟩:=HT.c2 4 0 0 1;obtain ⟨cr,df⟩:=HT.f2 4 0 0 1;simp only [aN] at r0 r1;have hv2:=(Jf L kb pv l2).vals (HS2 l2 (fw.refl _));obtain ⟨st1,st2⟩:=aV.aD (P:=prog) hv2.1 (.inr ⟨_,_,_,rfl⟩:aV.eH (U6 (U7 237) #[] #[Qb bs,Qb br])) r0 cr r1 df;clear hv2;go_wp2
   exact U8 (v:=.agg #[_,_]) (by simp [results,results161,go_sem,r0,r1]) rfl ⟨_,⟨_,l2++[cl w.heap.size 94 #[Qb kb],cl (w.heap.size+1) 3 #[U1 U2 ix]],⟨_,_,rfl,fun e he=>⟨bs,br,d2,_,g2,[],rfl,rfl,HS2 _ (fun b hb=>he _ (UF _ hb)),⟨rfl,w.heap.size,w.heap.size+1,rfl,he _ (by simp),he _ (by simp)⟩,rfl⟩⟩,rfl⟩,(((HT.set 4 0 rfl 0 _).set 4 0 rfl 1 _).p [5,6,2,3,0,1]).sum⟩
end
section
variable {L:Lay} {x:Qi} {p:Q2} {e gK gF:List ak} {kb:Nat} {pv:Value} {k:Yw}
theorem q4j (hz:lL L kb pv e ⟨k,x,p⟩ gK gF) (hp:xy .bO ⟨k,x,p⟩) (bk:Nat) (hb:cl bk 94 #[Qb kb]∈e):Qa prog 160 #[Qb bk] [gK,gF] (nH L kb pv e (Xy .bO ⟨k,x,p⟩).1 (Xy .bO ⟨k,x,p⟩).2):=by
 clear hp;unfold nH;dsimp only [Xy]
 obtain ⟨vl,al,gl,gC,gP,hl,hx,aU,rfl,rfl⟩:=hz;refine GO fun w HT=>?_
 have HT:=Vh (HT.out.m [Xc kb L.fb pv vl al k,gl,e,gC,gP]);have HX:=Vh hx;have HL:=Vh hl;have bF:=Vh aU;clear hx hl aU;have bM:=HT.bu 2 hb;simp only [] at bM;have b0:=HT.ah 2 hb 0;simp only [bP] at b0;have ku:=Vh (NU (p:=p) (kb:=kb) (pv:=pv) (vl:=vl) (al:=al) (k:=k) HX 0 (by decide));clear hb;go_enter func160,ntmps160
 go_wp2_with fail
 refine Qa.run ku (HT.a _ _) [0,3] ?_
 rintro e w1 gs ⟨g2,l2,⟨m2,d2,rfl,hs2⟩,rfl⟩ HT;simp only [PU] at HT;clear b0;obtain ⟨r0,r1⟩:=HT.c2 5 0 0 1;obtain ⟨cr,df⟩:=HT.f2 5 0 0 1;simp only [aN] at r0 r1;have hv2:=(Jf L kb pv l2).vals (hs2 l2 (fw.refl _));obtain ⟨st1,st2⟩:=aV.aD (P:=prog) hv2.1 hv2.2 r0 cr r1 df;have HS:=Vh hs2;clear hv2 hs2;go_wp2
 exact U8 (v:=.agg #[_,_]) (by simp [results,results160,go_sem,r0,r1]) rfl ⟨_,⟨e++l2,fw.app _ _,m2,d2,g2,_,_,rfl,HS _ (fun b hb=>UC _ hb),⟨vl,al,gl,gC,gP,HL,HX,bF,rfl,rfl⟩,rfl⟩,(((HT.set 5 0 rfl 0 _).set 5 0 rfl 1 _).p [0,6,1,2,7,3,4]).sum⟩
theorem q4k (i:Int) (hz:lL L kb pv e ⟨k,x,p⟩ gK gF) (hp:xy (.aA i) ⟨k,x,p⟩) (bk bi:Nat) (hb:cl bk 94 #[Qb kb]∈e) (hbi:cl bi 3 #[U1 U2 i]∈e):Qa prog 201 #[Qb bk,Qb bi] [gK,gF] (nH L kb pv e (Xy (.aA i) ⟨k,x,p⟩).1 (Xy (.aA i) ⟨k,x,p⟩).2):=by
 obtain ⟨_,hi0,hi1⟩:=hp;unfold nH;dsimp only [Xy]
 obtain ⟨vl,al,gl,gC,gP,hl,hx,aU,rfl,rfl⟩:=hz;refine GO fun w HT=>?_
 have HT:=Vh (HT.out.m [Xc kb L.fb pv vl al k,gl,e,gC,gP]);have HX:=Vh hx;have HL:=Vh hl;have bF:=Vh aU;clear hx hl aU;have bM:=HT.bu 2 hb;have nT:=HT.bu 2 hbi;simp only [] at bM nT;have b0:=HT.ah 2 hb 0;have i0:=HT.ah 2 hbi 0;simp only [bP] at b0 i0;have ku:=Vh (NU (p:=p) (kb:=kb) (pv:=pv) (vl:=vl) (al:=al) (k:=k) HX (i+1) (by omega));clear hb hbi;go_enter func201,ntmps201
 go_wp2_with fail
 refine Qa.run ku (HT.a _ _) [0,3] ?_
 rintro e w1 gs ⟨g2,l2,⟨m2,d2,rfl,hs2⟩,rfl⟩ HT;simp only [PU] at HT;clear b0 i0;obtain ⟨r0,r1⟩:=HT.c2 5 0 0 1;obtain ⟨cr,df⟩:=HT.f2 5 0 0 1;simp only [aN] at r0 r1;have hv2:=(Jf L kb pv l2).vals (hs2 l2 (fw.refl _));obtain ⟨st1,st2⟩:=aV.aD (P:=prog) hv2.1 hv2.2 r0 cr r1 df;have HS:=Vh hs2;clear hv2 hs2;go_wp2
 exact U8 (v:=.agg #[_,_]) (by simp [results,results201,go_sem,r0,r1]) rfl ⟨_,⟨e++l2,fw.app _ _,m2,d2,g2,_,_,rfl,HS _ (fun b hb=>UC _ hb),⟨vl,al,gl,gC,gP,HL,HX,bF,rfl,rfl⟩,rfl⟩,(((HT.set 5 0 rfl 0 _).set 5 0 rfl 1 _).p [0,6,1,2,7,3,4]).sum⟩
theorem q7j (hz:lL L kb pv e ⟨k,x,p⟩ gK gF):Qa prog 199 #[Qb kb] [gK,gF] (nH L kb pv e (Xy .waits ⟨k,x,p⟩).1 (Xy .waits ⟨k,x,p⟩).2):=by
 unfold nH;dsimp only [Xy]
 obtain ⟨vl,al,gl,gC,gP,hl,hx,aU,rfl,rfl⟩:=hz;refine GO fun w HT=>?_
 have HT:=Vh (HT.out.m [Xc kb L.fb pv vl al k,gl,e,gC,gP]);have HX:=Vh hx;have HL:=Vh hl;have bF:=Vh aU;clear hx hl aU;go_enter func199,ntmps199
 go_wp2_with fail
 refine Qa.run (DK _ _ _ _ _ _) ((HT.a _ _).alloc (k:=w.heap.size+1) (by simp) _ _) [] ?_
 rintro e w1 gs ⟨rfl,rfl⟩ HT;simp only [PU] at HT;obtain ⟨r0,r1⟩:=HT.c2 6 0 0 1;obtain ⟨cr,df⟩:=HT.f2 6 0 0 1;simp only [aN] at r0 r1;go_wp2
 exact U8 (v:=.agg #[_,_]) (by simp [results,results199,go_sem,r0,r1]) rfl ⟨_,⟨e++[cl w.heap.size 94 #[Qb kb]],fw.app _ _,_,_,[],_,_,rfl,⟨[],[],⟨rfl,w.heap.size,rfl,by simp⟩,⟨rfl,w.heap.size,rfl,by simp⟩,rfl⟩,⟨vl,al,gl,_,gP,HL,HX,bF,rfl,rfl⟩,rfl⟩,(((HT.set 6 0 rfl 0 _).set 6 0 rfl 1 _).p [0,1,2,5,3,4]).sum⟩
theorem q4m (hz:lL L kb pv e ⟨k,x,p⟩ gK gF) (hp:xy .cO ⟨k,x,p⟩) (bk:Nat) (hb:cl bk 94 #[Qb kb]∈e):Qa prog 240 #[Qb bk] [gK,gF] (nH L kb pv e (Xy .cO ⟨k,x,p⟩).1 (Xy .cO ⟨k,x,p⟩).2):=by
 have dJ:=Vh hp.1.core.tr;simp only at dJ;clear hp;unfold nH;dsimp only [Xy,ZS.note]
 obtain ⟨vl,al,gl,gC,gP,hl,hx,aU,rfl,rfl⟩:=hz;refine GO fun w HT=>?_
 have HT:=Vh (HT.out.m [Xc kb L.fb pv vl al k,gl,e,gC,gP]);have HX:=Vh hx;have HL:=Vh hl;have bF:=Vh aU;clear hx hl aU;have bM:=HT.bu 2 hb;simp only [] at bM;have b0:=HT.ah 2 hb 0;simp only [bP] at b0;have HB:=Vh hb;clear hb;obtain ⟨av,cap,hvl⟩:=Q3.val HL.1;subst hvl;go_enter func240,ntmps240
 go_wp2_with fail
 refine Qa.run (AB HX { bL with kind:=13 } dJ) (HT.a _ _) [0,3] ?_
 rintro e w1 gs ⟨rfl,g3,hx3,rfl⟩ HT;simp only [PU] at HT;have HX:=Vh hx3;clear hx3 b0;have b0:=HT.ah 2 HB 0;simp only [bP] at b0;obtain ⟨k3,k4,k5,k6,k7,k9⟩:=HT.c6 0 0 3 4 5 6 7 9;obtain ⟨zU,Cf,Cg,Ch,p8⟩:=HT.f5 0 0 3 4 5 6 7;simp only [Zg,az] at k3 k4 k5 k6 k7 k9;go_wp2
 go_region
 go_wp2_with fail
 refine Qa.run (NR L kb pv) (((((((HT.set 0 0 rfl 3 (U1 U2 0)).set 0 0 rfl 4 (.bool true)).set 0 0 rfl 5 (U1 U5 0)).set 0 0 rfl 6 (U1 U5 0)).set 0 0 rfl 7 (.slice av k.left.length cap)).eq (H':=[Xc kb L.fb pv (.slice av k.left.length cap) (.slice av k.left.length cap) { k with err:=0,ok:=true,fq:=true },gl,e,g3,gP,[cl w.heap.size 153 #[U3,U3]]]) rfl).drew) [] ?_
 rintro e w1 gs ⟨g2,l2,⟨m2,d2,rfl,hs2⟩,rfl⟩ HT;simp only [PU] at HT;clear b0 k3 zU k4 Cf k5 Cg k6 Ch k7 p8 k9;obtain ⟨r0,r1⟩:=HT.c2 5 0 0 1;obtain ⟨cr,df⟩:=HT.f2 5 0 0 1;simp only [aN] at r0 r1;have hv2:=(Jf L kb pv l2).vals (hs2 l2 (fw.refl _));obtain ⟨st1,st2⟩:=aV.aD (P:=prog) hv2.1 hv2.2 r0 cr r1 df;have HS:=Vh hs2;clear hv2 hs2;go_wp2
 exact U8 (v:=.agg #[_,_]) (by simp [results,results240,go_sem,r0,r1]) rfl ⟨_,⟨e++l2,fw.app _ _,m2,d2,g2,_,_,rfl,HS _ (fun b hb=>UC _ hb),⟨.slice av k.left.length cap,.slice av k.left.length cap,gl,g3,gP,⟨HL.1,rfl⟩,HX,bF,rfl,rfl⟩,rfl⟩,(((HT.set 5 0 rfl 0 _).set 5 0 rfl 1 _).p [6,0,1,2,7,3,4]).sum⟩
end
theorem Tryz.oz:(prog.info? 36).map (fun i=>(i.zero,i.size,i.bytes))=some (some (U1 U5 0),1,8):=by kernel_rfl
section
variable {L:Lay} {x:Qi} {p:Q2} {e gl gC gK gF:List ak} {kb:Nat} {pv vl al:Value} {k:Yw}
theorem q4h (ix:Int) (hz:lL L kb pv e ⟨k,x,p⟩ gK gF) (hp:xy (.bH ix) ⟨k,x,p⟩) (bk bi:Nat) (hb:cl bk 94 #[Qb kb]∈e) (hbi:cl bi 3 #[U1 U2 ix]∈e):Qa prog 241 #[Qb bk,Qb bi] [gK,gF] (nH L kb pv e (Xy (.bH ix) ⟨k,x,p⟩).1 (Xy (.bH ix) ⟨k,x,p⟩).2):=by
 have hok:=hp.1.core;simp only at hok;have gp:=Vh (Y4 hok.aa ix);have kL:=Vh (show ∀ g',Qf L x g'->_ from fun g' hx'=>yO (g:=g') hx' hok.aa.n1 ix);unfold nH;dsimp only [Xy,Yd]
 obtain ⟨wd,hwd⟩:∃ wd,wd=x.aa.word ix:=⟨_,rfl⟩;rw [<- hwd] at gp kL |-;clear hok hp hwd;obtain ⟨st,hst⟩:∃ st,st=bB wd:=⟨_,rfl⟩;have HST:=Vh hst;rw [<- hst];clear hst;by_cases h23:st=2\/st=3
 ·rw [if_pos h23]
  dsimp only
  rcases h23 with rfl | rfl
  ·obtain ⟨vl,al,gl,gC,gP,hl,hx,aU,rfl,rfl⟩:=hz
   refine GO fun w HT=>?_
   have HT:=Vh (HT.out.m [Xc kb L.fb pv vl al k,gl,e,gC,gP]);have HX:=Vh hx;have HL:=Vh hl;have bF:=Vh aU;clear hx hl aU;have HB:=Vh hb;have iU:=Vh hbi;clear hb hbi;have b0:=HT.ah 2 HB 0;have i0:=HT.ah 2 iU 0;simp only [bP] at b0 i0;have k0:=HT.c 0 0 0;simp only [Zg,az] at k0;go_enter func241,ntmps241
   go_wp2_with fail
   have HT:=Vh (HT.out.a 153 #[U3,U3]);clear k0 b0 i0;generalize w.alloc _=w1 at HT |-;have b0:=HT.ah 2 HB 0;have i0:=HT.ah 2 iU 0;simp only [bP] at b0 i0;have k0:=HT.c 0 0 0;simp only [Zg,az] at k0;clear b0 i0 k0;obtain ⟨ι,W,hW0,hend,hin⟩:∃ (ι:Type) (W:ι->World),(∃ i,UD w1=W i)/\(∀ i,∃ gx,Qf L x gx/\TG [Xc kb L.fb pv vl al k++(gl++e),gC++gP] w [Xc kb L.fb pv vl al k,gl,e,gx,gP,[cl w.heap.size 153 #[U3,U3]]] (W i))/\(∀ w',(∃ gx,Qf L x gx/\TG [Xc kb L.fb pv vl al k++(gl++e),gC++gP] w [Xc kb L.fb pv vl al k,gl,e,gx,gP,[cl w.heap.size 153 #[U3,U3]]] w')->∃ i,w'=W i):=⟨{w' // ∃ gx,Qf L x gx/\TG [Xc kb L.fb pv vl al k++(gl++e),gC++gP] w [Xc kb L.fb pv vl al k,gl,e,gx,gP,[cl w.heap.size 153 #[U3,U3]]] w'},UI,⟨⟨_,gC,HX,HT.drew⟩,rfl⟩,fun i=>i.2,fun w' h=>⟨⟨w',h⟩,rfl⟩⟩;have hne:Nonempty ι:=hW0.elim fun i _=>⟨i⟩
   have k0:∀ i,(W i).cell? ⟨kb,0,none⟩=some (Qb L.fb):=fun i=>by obtain ⟨_,_,T⟩:=hend i;exact T.c 0 0 0
   have b0:∀ i,(W i).cell? ⟨bk,0,none⟩=some (Qb kb):=fun i=>by obtain ⟨_,_,T⟩:=hend i;exact T.ah 2 HB 0
   have i0:∀ i,(W i).cell? ⟨bi,0,none⟩=some (U1 U2 ix):=fun i=>by obtain ⟨_,_,T⟩:=hend i;exact T.ah 2 iU 0
   have m1:∀ i,Calls prog 19 #[Qb L.fb] (W i) fun e w2=>e=U4 (Qb L.p.sb)/\∃ j,w2=W j:=fun i=>by
    obtain ⟨_,hg,T⟩:=hend i;refine (Qa.use ((Qn hg).does) T [3] rfl rfl).mono ?_
    rintro e w2 ⟨gs,⟨rfl,rfl⟩,T2⟩;exact ⟨rfl,hin _ ⟨_,hg,T2⟩⟩
   have m2:∀ i,Calls prog 38 #[Qb L.p.sb,U1 U2 ix] (W i) fun e w2=>e=U4 (U9 #[U1 U5 wd,U1 U2 (x.aa.jG ix)])/\∃ j,w2=W j:=fun i=>by
    obtain ⟨_,hg,T⟩:=hend i;refine (Qa.use (kL _ hg) T [3] rfl rfl).mono ?_
    rintro e w2 ⟨gs,⟨rfl,g3,hg3,rfl⟩,T2⟩;exact ⟨rfl,hin _ ⟨g3,hg3,T2⟩⟩
   refine Z6 (fun w'=>∃ i,w'=W i) 13 (by kernel_rfl) (by kernel_rfl) hW0 ?_
   simp only [bY]
   repeat (go_big_quiet_step ((first | (go_at_call 19;with_reducible exact m1 _) | (go_at_call 38;with_reducible exact m2 _))))
   refine UA ?_
   intro _ hw';obtain ⟨iq,hw''⟩:=hw';subst hw'';obtain ⟨g1,hx1,T⟩:=hend iq;have HT:=Vh T;generalize W iq=w1 at HT |-;clear T hend hin hW0 hne;have jI:=Vh hx1;clear hx1 k0 b0 i0 m1 m2;have k10:=HT.c 0 0 10;have iK:=HT.f 0 0 10;simp only [Zg,az] at k10;go_wp2_with fail
   refine ⟨rfl,?_⟩
   have HT:=Vh ((HT.set 0 0 rfl 10 (U1 U5 wd)).eq (H':=[Xc kb L.fb pv vl al { k with aB:=wd },gl,e,g1,gP,[cl w.heap.size 153 #[U3,U3]]]) rfl);clear k10 iK;generalize UJ _ _ _=w5 at HT |-;have b0:=HT.ah 2 HB 0;have i0:=HT.ah 2 iU 0;simp only [bP] at b0 i0;have k10:=HT.c 0 0 10;simp only [Zg,az] at k10;obtain ⟨r0,r1⟩:=HT.c2 5 0 0 1;obtain ⟨cr,df⟩:=HT.f2 5 0 0 1;simp only [aN] at r0 r1;go_wp2_with (go_at_call 39;refine (zc _ _ gp.1 gp.2.1).mono ?_;rw [<- HST.out];rintro en w' ⟨rfl,rfl⟩)
   exact U8 (v:=.agg #[U3,U6 (U7 242) #[] #[Qb bk,Qb bi]]) (by simp [results,results241,go_sem,r0,r1]) rfl ⟨_,⟨e,fw.refl _,_,_,[],_,_,rfl,⟨rfl,rfl,bk,bi,rfl,HB,iU⟩,⟨vl,al,gl,g1,gP,HL,jI,bF,rfl,rfl⟩,rfl⟩,(((HT.set 5 0 rfl 0 _).set 5 0 rfl 1 _).p [0,1,2,3,4]).sum⟩
  ·obtain ⟨vl,al,gl,gC,gP,hl,hx,aU,rfl,rfl⟩:=hz
   refine GO fun w HT=>?_
   have HT:=Vh (HT.out.m [Xc kb L.fb pv vl al k,gl,e,gC,gP]);have HX:=Vh hx;have HL:=Vh hl;have bF:=Vh aU;clear hx hl aU;have HB:=Vh hb;have iU:=Vh hbi;clear hb hbi;have b0:=HT.ah 2 HB 0;have i0:=HT.ah 2 iU 0;simp only [bP] at b0 i0;have k0:=HT.c 0 0 0;simp only [Zg,az] at k0;go_enter func241,ntmps241
   go_wp2_with fail
   have HT:=Vh (HT.out.a 153 #[U3,U3]);clear k0 b0 i0;generalize w.alloc _=w1 at HT |-;have b0:=HT.ah 2 HB 0;have i0:=HT.ah 2 iU 0;simp only [bP] at b0 i0;have k0:=HT.c 0 0 0;simp only [Zg,az] at k0;clear b0 i0 k0;obtain ⟨ι,W,hW0,hend,hin⟩:∃ (ι:Type) (W:ι->World),(∃ i,UD w1=W i)/\(∀ i,∃ gx,Qf L x gx/\TG [Xc kb L.fb pv vl al k++(gl++e),gC++gP] w [Xc kb L.fb pv vl al k,gl,e,gx,gP,[cl w.heap.size 153 #[U3,U3]]] (W i))/\(∀ w',(∃ gx,Qf L x gx/\TG [Xc kb L.fb pv vl al k++(gl++e),gC++gP] w [Xc kb L.fb pv vl al k,gl,e,gx,gP,[cl w.heap.size 153 #[U3,U3]]] w')->∃ i,w'=W i):=⟨{w' // ∃ gx,Qf L x gx/\TG [Xc kb L.fb pv vl al k++(gl++e),gC++gP] w [Xc kb L.fb pv vl al k,gl,e,gx,gP,[cl w.heap.size 153 #[U3,U3]]] w'},UI,⟨⟨_,gC,HX,HT.drew⟩,rfl⟩,fun i=>i.2,fun w' h=>⟨⟨w',h⟩,rfl⟩⟩;have hne:Nonempty ι:=hW0.elim fun i _=>⟨i⟩
   have k0:∀ i,(W i).cell? ⟨kb,0,none⟩=some (Qb L.fb):=fun i=>by obtain ⟨_,_,T⟩:=hend i;exact T.c 0 0 0
   have b0:∀ i,(W i).cell? ⟨bk,0,none⟩=some (Qb kb):=fun i=>by obtain ⟨_,_,T⟩:=hend i;exact T.ah 2 HB 0
   have i0:∀ i,(W i).cell? ⟨bi,0,none⟩=some (U1 U2 ix):=fun i=>by obtain ⟨_,_,T⟩:=hend i;exact T.ah 2 iU 0
   have m1:∀ i,Calls prog 19 #[Qb L.fb] (W i) fun e w2=>e=U4 (Qb L.p.sb)/\∃ j,w2=W j:=fun i=>by
    obtain ⟨_,hg,T⟩:=hend i;refine (Qa.use ((Qn hg).does) T [3] rfl rfl).mono ?_
    rintro e w2 ⟨gs,⟨rfl,rfl⟩,T2⟩;exact ⟨rfl,hin _ ⟨_,hg,T2⟩⟩
   have m2:∀ i,Calls prog 38 #[Qb L.p.sb,U1 U2 ix] (W i) fun e w2=>e=U4 (U9 #[U1 U5 wd,U1 U2 (x.aa.jG ix)])/\∃ j,w2=W j:=fun i=>by
    obtain ⟨_,hg,T⟩:=hend i;refine (Qa.use (kL _ hg) T [3] rfl rfl).mono ?_
    rintro e w2 ⟨gs,⟨rfl,g3,hg3,rfl⟩,T2⟩;exact ⟨rfl,hin _ ⟨g3,hg3,T2⟩⟩
   refine Z6 (fun w'=>∃ i,w'=W i) 13 (by kernel_rfl) (by kernel_rfl) hW0 ?_
   simp only [bY]
   repeat (go_big_quiet_step ((first | (go_at_call 19;with_reducible exact m1 _) | (go_at_call 38;with_reducible exact m2 _))))
   refine UA ?_
   intro _ hw';obtain ⟨iq,hw''⟩:=hw';subst hw'';obtain ⟨g1,hx1,T⟩:=hend iq;have HT:=Vh T;generalize W iq=w1 at HT |-;clear T hend hin hW0 hne;have jI:=Vh hx1;clear hx1 k0 b0 i0 m1 m2;have k10:=HT.c 0 0 10;have iK:=HT.f 0 0 10;simp only [Zg,az] at k10;go_wp2_with fail
   refine ⟨rfl,?_⟩
   have HT:=Vh ((HT.set 0 0 rfl 10 (U1 U5 wd)).eq (H':=[Xc kb L.fb pv vl al { k with aB:=wd },gl,e,g1,gP,[cl w.heap.size 153 #[U3,U3]]]) rfl);clear k10 iK;generalize UJ _ _ _=w5 at HT |-;have b0:=HT.ah 2 HB 0;have i0:=HT.ah 2 iU 0;simp only [bP] at b0 i0;have k10:=HT.c 0 0 10;simp only [Zg,az] at k10;obtain ⟨r0,r1⟩:=HT.c2 5 0 0 1;obtain ⟨cr,df⟩:=HT.f2 5 0 0 1;simp only [aN] at r0 r1;go_wp2_with (go_at_call 39;refine (zc _ _ gp.1 gp.2.1).mono ?_;rw [<- HST.out];rintro en w' ⟨rfl,rfl⟩)
   exact U8 (v:=.agg #[U3,U6 (U7 242) #[] #[Qb bk,Qb bi]]) (by simp [results,results241,go_sem,r0,r1]) rfl ⟨_,⟨e,fw.refl _,_,_,[],_,_,rfl,⟨rfl,rfl,bk,bi,rfl,HB,iU⟩,⟨vl,al,gl,g1,gP,HL,jI,bF,rfl,rfl⟩,rfl⟩,(((HT.set 5 0 rfl 0 _).set 5 0 rfl 1 _).p [0,1,2,3,4]).sum⟩
 ·rw [if_neg h23]
  dsimp only
  have hb2:(st == 2)=false:=beq_eq_false_iff_ne.2 (fun h=>h23 (.inl h));have hb3:(st == 3)=false:=beq_eq_false_iff_ne.2 (fun h=>h23 (.inr h));clear h23;obtain ⟨vl,al,gl,gC,gP,hl,hx,aU,rfl,rfl⟩:=hz;refine GO fun w HT=>?_
  have HT:=Vh (HT.out.m [Xc kb L.fb pv vl al k,gl,e,gC,gP]);have HX:=Vh hx;have HL:=Vh hl;have bF:=Vh aU;clear hx hl aU;have HB:=Vh hb;have iU:=Vh hbi;clear hb hbi;have b0:=HT.ah 2 HB 0;have i0:=HT.ah 2 iU 0;simp only [bP] at b0 i0;have k0:=HT.c 0 0 0;simp only [Zg,az] at k0;go_enter func241,ntmps241
  go_wp2_with fail
  have HT:=Vh (HT.out.a 153 #[U3,U3]);clear k0 b0 i0;generalize w.alloc _=w1 at HT |-;have b0:=HT.ah 2 HB 0;have i0:=HT.ah 2 iU 0;simp only [bP] at b0 i0;have k0:=HT.c 0 0 0;simp only [Zg,az] at k0;clear b0 i0 k0;obtain ⟨ι,W,hW0,hend,hin⟩:∃ (ι:Type) (W:ι->World),(∃ i,UD w1=W i)/\(∀ i,∃ gx,Qf L x gx/\TG [Xc kb L.fb pv vl al k++(gl++e),gC++gP] w [Xc kb L.fb pv vl al k,gl,e,gx,gP,[cl w.heap.size 153 #[U3,U3]]] (W i))/\(∀ w',(∃ gx,Qf L x gx/\TG [Xc kb L.fb pv vl al k++(gl++e),gC++gP] w [Xc kb L.fb pv vl al k,gl,e,gx,gP,[cl w.heap.size 153 #[U3,U3]]] w')->∃ i,w'=W i):=⟨{w' // ∃ gx,Qf L x gx/\TG [Xc kb L.fb pv vl al k++(gl++e),gC++gP] w [Xc kb L.fb pv vl al k,gl,e,gx,gP,[cl w.heap.size 153 #[U3,U3]]] w'},UI,⟨⟨_,gC,HX,HT.drew⟩,rfl⟩,fun i=>i.2,fun w' h=>⟨⟨w',h⟩,rfl⟩⟩;have hne:Nonempty ι:=hW0.elim fun i _=>⟨i⟩
  have k0:∀ i,(W i).cell? ⟨kb,0,none⟩=some (Qb L.fb):=fun i=>by obtain ⟨_,_,T⟩:=hend i;exact T.c 0 0 0
  have b0:∀ i,(W i).cell? ⟨bk,0,none⟩=some (Qb kb):=fun i=>by obtain ⟨_,_,T⟩:=hend i;exact T.ah 2 HB 0
  have i0:∀ i,(W i).cell? ⟨bi,0,none⟩=some (U1 U2 ix):=fun i=>by obtain ⟨_,_,T⟩:=hend i;exact T.ah 2 iU 0
  have m1:∀ i,Calls prog 19 #[Qb L.fb] (W i) fun e w2=>e=U4 (Qb L.p.sb)/\∃ j,w2=W j:=fun i=>by
   obtain ⟨_,hg,T⟩:=hend i;refine (Qa.use ((Qn hg).does) T [3] rfl rfl).mono ?_
   rintro e w2 ⟨gs,⟨rfl,rfl⟩,T2⟩;exact ⟨rfl,hin _ ⟨_,hg,T2⟩⟩
  have m2:∀ i,Calls prog 38 #[Qb L.p.sb,U1 U2 ix] (W i) fun e w2=>e=U4 (U9 #[U1 U5 wd,U1 U2 (x.aa.jG ix)])/\∃ j,w2=W j:=fun i=>by
   obtain ⟨_,hg,T⟩:=hend i;refine (Qa.use (kL _ hg) T [3] rfl rfl).mono ?_
   rintro e w2 ⟨gs,⟨rfl,g3,hg3,rfl⟩,T2⟩;exact ⟨rfl,hin _ ⟨g3,hg3,T2⟩⟩
  refine Z6 (fun w'=>∃ i,w'=W i) 13 (by kernel_rfl) (by kernel_rfl) hW0 ?_
  simp only [bY]
  repeat (go_big_quiet_step ((first | (go_at_call 19;with_reducible exact m1 _) | (go_at_call 38;with_reducible exact m2 _))))
  refine UA ?_
  intro _ hw';obtain ⟨iq,hw''⟩:=hw';subst hw'';obtain ⟨g1,hx1,T⟩:=hend iq;have HT:=Vh T;generalize W iq=w1 at HT |-;clear T hend hin hW0 hne;have jI:=Vh hx1;clear hx1 k0 b0 i0 m1 m2;have k10:=HT.c 0 0 10;have iK:=HT.f 0 0 10;simp only [Zg,az] at k10;go_wp2_with fail
  refine ⟨rfl,?_⟩
  have HT:=Vh ((HT.set 0 0 rfl 10 (U1 U5 wd)).eq (H':=[Xc kb L.fb pv vl al { k with aB:=wd },gl,e,g1,gP,[cl w.heap.size 153 #[U3,U3]]]) rfl);clear k10 iK;generalize UJ _ _ _=w5 at HT |-;have b0:=HT.ah 2 HB 0;have i0:=HT.ah 2 iU 0;simp only [bP] at b0 i0;have k10:=HT.c 0 0 10;simp only [Zg,az] at k10;obtain ⟨r0,r1⟩:=HT.c2 5 0 0 1;obtain ⟨cr,df⟩:=HT.f2 5 0 0 1;simp only [aN] at r0 r1;go_wp2_with (go_at_call 39;refine (zc _ _ gp.1 gp.2.1).mono ?_;rw [<- HST.out];rintro en w' ⟨rfl,rfl⟩)
  exact U8 (v:=.agg #[U3,U3]) (by simp [results,results241,go_sem,r0,r1]) rfl ⟨_,⟨e,fw.refl _,_,_,[],_,_,rfl,⟨rfl,rfl,rfl⟩,⟨vl,al,gl,g1,gP,HL,jI,bF,rfl,rfl⟩,rfl⟩,(((HT.set 5 0 rfl 0 _).set 5 0 rfl 1 _).p [0,1,2,3,4]).sum⟩
end
section
variable {L:Lay} {x:Qi} {p:Q2} {e gK gF:List ak} {kb:Nat} {pv:Value} {k:Yw}
theorem q6n (hz:lL L kb pv e ⟨k,x,p⟩ gK gF) (hp:Bo .aS ⟨k,x,p⟩) (bk:Nat) (hb:cl bk 94 #[Qb kb]∈e):Qa prog 194 #[Qb bk] [gK,gF] (wN L kb pv e (Yc .aS ⟨k,x,p⟩)):=by
 have dJ:=Vh hp.core.tr;simp only at dJ;clear hp;unfold wN;dsimp only [Yc,ZS.note]
 obtain ⟨vl,al,gl,gC,gP,hl,hx,aU,rfl,rfl⟩:=hz;refine GO fun w HT=>?_
 have HT:=Vh (HT.out.m [Xc kb L.fb pv vl al k,gl,e,gC,gP]);have HX:=Vh hx;have HL:=Vh hl;have bF:=Vh aU;clear hx hl aU;have b0:=HT.ah 2 hb 0;simp only [bP] at b0;have HB:=Vh hb;clear hb;have k3:=HT.c 0 0 3;simp only [Zg,az] at k3;go_enter func194,ntmps194
 go_wp2_with fail
 refine Mx 7 ?_
 simp only [bY]
 repeat (go_big_quiet_step ((fail)))
 refine UA (QT HT fun nq HT=>?_)
 go_wp2_with fail
 refine Qa.run (AB HX { bL with kind:=2,err:=k.err } dJ) (HT) [0,3] ?_
 rintro e w1 gs ⟨rfl,g2,hx2,rfl⟩ HT;simp only [PU] at HT;have HX:=Vh hx2;clear hx2 k3 b0;go_wp2_with fail
 refine ⟨rfl,?_⟩
 go_wp2
 exact UG (UH rfl _ _ _) rfl ⟨_,⟨e,fw.refl _,_,_,rfl,⟨vl,al,gl,g2,gP,HL,HX,bF,rfl,rfl⟩,rfl⟩,(HT.p [0,1,2,3,4]).sum⟩
theorem q6o (hz:lL L kb pv e ⟨k,x,p⟩ gK gF) (hp:Bo .dC ⟨k,x,p⟩) (bk:Nat) (hb:cl bk 94 #[Qb kb]∈e):Qa prog 197 #[Qb bk] [gK,gF] (wN L kb pv e (Yc .dC ⟨k,x,p⟩)):=by
 clear hp;unfold wN;dsimp only [Yc]
 obtain ⟨vl,al,gl,gC,gP,hl,hx,aU,rfl,rfl⟩:=hz;refine GO fun w HT=>?_
 have HT:=Vh (HT.out.m [Xc kb L.fb pv vl al k,gl,e,gC,gP]);have HX:=Vh hx;have HL:=Vh hl;have bF:=Vh aU;clear hx hl aU;have b0:=HT.ah 2 hb 0;simp only [bP] at b0;have HB:=Vh hb;clear hb;have k0:=HT.c 0 0 0;simp only [Zg,az] at k0;go_enter func197,ntmps197
 go_wp2_with fail
 refine Qd.run (Yf HX) HT [3] ?_
 rintro e wq rfl HT;go_wp2_with fail
 refine Qa.run (qtf bF) (HT) [4] ?_
 rintro e w1 gs ⟨rfl,g2,hp2,rfl⟩ HT;simp only [PU] at HT;have bF:=Vh hp2;clear hp2 k0 b0;go_wp2
 exact UG (UH rfl _ _ _) rfl ⟨_,⟨e,fw.refl _,_,_,rfl,⟨vl,al,gl,gC,g2,HL,HX,bF,rfl,rfl⟩,rfl⟩,(HT.p [0,1,2,3,4]).sum⟩
theorem q6l (hz:lL L kb pv e ⟨k,x,p⟩ gK gF) (hp:Bo .drop ⟨k,x,p⟩) (bk:Nat) (hb:cl bk 94 #[Qb kb]∈e):Qa prog 268 #[Qb bk] [gK,gF] (wN L kb pv e (Yc .drop ⟨k,x,p⟩)):=by
 have HC:=Vh (And.intro hp.core.aa.c0 (show x.aa.count<=64 by have:=hp.core.aa.c1;have:=hp.core.aa.n1;simp only at *;omega));simp only at HC;clear hp;unfold wN;dsimp only [Yc]
 obtain ⟨vl,al,gl,gC,gP,hl,hx,aU,rfl,rfl⟩:=hz;refine GO fun w HT=>?_
 have HT:=Vh (HT.out.m [Xc kb L.fb pv vl al k,gl,e,gC,gP]);have HX:=Vh hx;have HL:=Vh hl;have bF:=Vh aU;clear hx hl aU;have b0:=HT.ah 2 hb 0;simp only [bP] at b0;have HB:=Vh hb;clear hb;have k0:=HT.c 0 0 0;simp only [Zg,az] at k0;go_enter func268,ntmps268
 go_wp2_with fail
 refine Qd.run (Qn HX) HT [3] ?_
 rintro e wq rfl HT;go_wp2_with fail
 refine Qa.run (KF HX HC.1 HC.2) (HT) [3] ?_
 rintro e w1 gs ⟨rfl,g2,hx2,rfl⟩ HT;simp only [PU] at HT;have HX:=Vh hx2;clear hx2 k0 b0;go_wp2
 exact UG (UH rfl _ _ _) rfl ⟨_,⟨e,fw.refl _,_,_,rfl,⟨vl,al,gl,g2,gP,HL,HX,bF,rfl,rfl⟩,rfl⟩,(HT.p [0,1,2,3,4]).sum⟩
theorem qu0 (i:Int) (hz:lL L kb pv e ⟨k,x,p⟩ gK gF) (hp:Bo (.release i) ⟨k,x,p⟩) (bk bi:Nat) (hb:cl bk 94 #[Qb kb]∈e) (hbi:cl bi 3 #[U1 U2 i]∈e):Qa prog 267 #[Qb bk,Qb bi] [gK,gF] (wN L kb pv e (Yc (.release i) ⟨k,x,p⟩)):=by
 have hok:=hp.core;simp only at hok;obtain ⟨w0,w1,w2⟩:=Y4 hok.aa i;unfold wN;dsimp only [Yc]
 have HY:=Vh (show ∀ g',Qf L x g'->_ from fun g' hx'=>AO (g:=g') hx' hok.aa.n1 i (x.aa.word i) 10 w0 w1);have kL:=Vh (show ∀ g',Qf L x g'->_ from fun g' hx'=>yO (g:=g') hx' hok.aa.n1 i);clear w0 w1 w2 hok hp;obtain ⟨vl,al,gl,gC,gP,hl,hx,aU,rfl,rfl⟩:=hz;refine GO fun w HT=>?_
 have HT:=Vh (HT.out.m [Xc kb L.fb pv vl al k,gl,e,gC,gP]);have HX:=Vh hx;have HL:=Vh hl;have bF:=Vh aU;clear hx hl aU;have b0:=HT.ah 2 hb 0;simp only [bP] at b0;have HB:=Vh hb;clear hb;have i0:=HT.ah 2 hbi 0;simp only [bP] at i0;have iU:=Vh hbi;clear hbi;have k0:=HT.c 0 0 0;simp only [Zg,az] at k0;go_enter func267,ntmps267
 go_wp2_with fail
 refine Mx 6 ?_
 simp only [bY]
 repeat (go_big_quiet_step ((first | (go_at_call 19;with_reducible exact Qd.quiet (Qn HX.out) HT.out _ [3] rfl rfl))))
 refine UA (QT HT fun nq HT=>?_)
 go_wp2_with fail
 refine Qa.run (kL _ HX) (HT) [3] ?_
 rintro e w1 gs ⟨rfl,g1,hx1,rfl⟩ HT;simp only [PU] at HT;have HX:=Vh hx1;clear hx1 k0 b0 i0;go_wp2_with fail
 refine ⟨rfl,?_⟩
 have hb:=HB.out;have hbi:=iU.out;have b0:=HT.ah 2 hb 0;simp only [bP] at b0;have HB:=Vh hb;clear hb;have i0:=HT.ah 2 hbi 0;simp only [bP] at i0;have iU:=Vh hbi;clear hbi;have k0:=HT.c 0 0 0;simp only [Zg,az] at k0;go_wp2_with fail
 refine Mx 7 ?_
 simp only [bY]
 repeat (go_big_quiet_step ((first | (go_at_call 19;with_reducible exact Qd.quiet (Qn HX.out) HT.out _ [3] rfl rfl))))
 refine UA (QT HT fun nq HT=>?_)
 go_wp2_with fail
 refine Qa.run (HY _ HX) (HT) [3] ?_
 rintro e w1 gs ⟨rfl,g2,hx2,rfl⟩ HT;simp only [PU] at HT;have kM:=Vh hx2;clear hx2 k0 b0 i0;go_wp2_with fail
 refine ⟨rfl,?_⟩
 go_wp2
 exact UG (UH rfl _ _ _) rfl ⟨_,⟨e,fw.refl _,_,_,rfl,⟨vl,al,gl,g2,gP,HL,kM,bF,rfl,rfl⟩,rfl⟩,(HT.p [0,1,2,3,4]).sum⟩
def EG (L:Lay) (kb:Nat) (pv:Value) (e:List ak) (v:Bool) (z:ZS) (en:UO) (gs:GH):Prop:=∃ bg aJ,en=U4 (.bool v)/\lL L kb pv e z bg aJ/\gs=[bg,aJ]
theorem q51 (hz:lL L kb pv e ⟨k,x,p⟩ gK gF) (bk:Nat) (hb:cl bk 94 #[Qb kb]∈e):Qa prog 159 #[Qb bk] [gK,gF] (EG L kb pv e (Ah .inside ⟨k,x,p⟩) ⟨k,x,p⟩):=by
 unfold EG;dsimp only [Ah]
 obtain ⟨vl,al,gl,gC,gP,hl,hx,aU,rfl,rfl⟩:=hz;refine GO fun w HT=>?_
 have HT:=Vh (HT.out.m [Xc kb L.fb pv vl al k,gl,e,gC,gP]);have HX:=Vh hx;have HL:=Vh hl;have bF:=Vh aU;clear hx hl aU;have b0:=HT.ah 2 hb 0;simp only [bP] at b0;have HB:=Vh hb;clear hb;have k0:=HT.c 0 0 0;simp only [Zg,az] at k0;go_enter func159,ntmps159
 go_wp2_with fail
 refine Qa.run (Ps HX) (HT) [3] ?_
 rintro e w1 gs ⟨rfl,g2,hx2,rfl⟩ HT;simp only [PU] at HT;have HX:=Vh hx2;clear hx2 k0 b0;go_wp2
 go_ret
 exact ⟨_,⟨_,_,rfl,⟨vl,al,gl,g2,gP,HL,HX,bF,rfl,rfl⟩,rfl⟩,(HT.p [0,1,2,3,4]).sum⟩
theorem q91 (hz:lL L kb pv e ⟨k,x,p⟩ gK gF) (bk:Nat) (hb:cl bk 94 #[Qb kb]∈e):Qa prog 238 #[Qb bk] [gK,gF] (EG L kb pv e (Ah .idle ⟨k,x,p⟩) ⟨k,x,p⟩):=by
 unfold EG;dsimp only [Ah]
 obtain ⟨vl,al,gl,gC,gP,hl,hx,aU,rfl,rfl⟩:=hz;refine GO fun w HT=>?_
 have HT:=Vh (HT.out.m [Xc kb L.fb pv vl al k,gl,e,gC,gP]);have HX:=Vh hx;have HL:=Vh hl;have bF:=Vh aU;clear hx hl aU;have b0:=HT.ah 2 hb 0;simp only [bP] at b0;have HB:=Vh hb;clear hb;have k0:=HT.c 0 0 0;simp only [Zg,az] at k0;have hcl:=qmq bF;cases hq:(p.shut && decide (p.ch=[])) with
 | false =>
   rw [hq] at hcl;have iB:=Vh hcl;clear hcl hq;go_enter func238,ntmps238
   go_wp2_with fail
   refine Qd.run (Yf HX) HT [3] ?_
   rintro e wq rfl HT;go_wp2_with fail
   refine Qd.run iB HT [4] ?_
   rintro e wq rfl HT;go_wp2
   go_ret
   exact ⟨_,⟨_,_,rfl,⟨vl,al,gl,gC,gP,HL,HX,bF,rfl,rfl⟩,rfl⟩,(HT.p [0,1,2,3,4]).sum⟩
 | true =>
   rw [hq] at hcl;have iB:=Vh hcl;clear hcl hq;go_enter func238,ntmps238
   go_wp2_with fail
   refine Qd.run (Yf HX) HT [3] ?_
   rintro e wq rfl HT;go_wp2_with fail
   refine Qd.run iB HT [4] ?_
   rintro e wq rfl HT;clear k0 b0;have hb:=HB.out;have b0:=HT.ah 2 hb 0;simp only [bP] at b0;have HB:=Vh hb;clear hb;have k0:=HT.c 0 0 0;simp only [Zg,az] at k0;go_wp2_with fail
   refine Qa.run (Rv HX) (HT) [3] ?_
   rintro e w1 gs ⟨rfl,g2,hx2,rfl⟩ HT;simp only [PU] at HT;have HX:=Vh hx2;clear hx2 k0 b0;go_wp2
   go_ret
   exact ⟨_,⟨_,_,rfl,⟨vl,al,gl,g2,gP,HL,HX,bF,rfl,rfl⟩,rfl⟩,(HT.p [0,1,2,3,4]).sum⟩
end
theorem JE (n:Int) (h0:0<=n) (h1:n<18446744073709551616):Qd prog 229 #[U1 U5 n] [] (U1 U5 (Xv n)):=fun w hw=>(F9 n w h0 h1).mono (by rintro e w' ⟨rfl,rfl⟩;exact ⟨rfl,0,rfl⟩)
theorem Si {G:Prop} {α β:Type} {P A:α->β->World->Prop} (main:(∀ a b w2,A a b w2->P a b w2)->G) (key:∀ a b w2,A a b w2->P a b w2):G:=main key
section
variable {L:Lay} {x:Qi} {p:Q2} {e gl gC gK gF:List ak} {kb:Nat} {pv vl al:Value} {k:Yw}
def GX (L:Lay) (kb:Nat) (pv al:Value) (s:SS) (k:Yw) (x:Qi) (en:UO) (gs:GH):Prop :=
 ∃ g' l U0 MZ jm,EF L kb pv s en g' l/\Q3 36 1 U0 k.left.length (kX k.left) MZ/\Qf L x jm/\gs=[g',l,Xc kb L.fb pv U0 al k,MZ,jm]
theorem q1e (hr:Q3 36 1 vl k.left.length (kX k.left) gl) (hx:Qf L x gC) (hp:uE ⟨k,x,p⟩) (ix:Int) (h0:0<=ix/\ix<=64) :
 Qa prog 243 #[Qb kb,U1 U2 ix] [Xc kb L.fb pv vl al k,gl,gC] (GX L kb pv al (Xy (.aC ix) ⟨k,x,p⟩).1 (Xy (.aC ix) ⟨k,x,p⟩).2.k (Xy (.aC ix) ⟨k,x,p⟩).2.x):=by
 obtain ⟨s0,s1,s2⟩:=hp.aB;simp only at s0 s1 s2;have hok:=hp.core;simp only at hok;have hty:=AO hx hok.aa.n1 ix k.aB 6 s0 s1;obtain ⟨Mg,Mh⟩:=sK hok.aa ix k.aB 6;obtain ⟨Mj,Mk⟩:=KS hok.aa ix k.aB 6 s0 s1 s2;dsimp only [Xy,ZS.note]
 have hcap:=hp.cap;simp only at hcap;have HN:=Vh (show ∀ g',Qf L { x with aa:=(x.aa.try ix k.aB 6).1 } g'->_ from fun g' hx'=>qsa (g:=g') hx' (by simp only;rw [Mh];exact hcap) Mg ix);have oV:=Vh (show x.tr.length<=1000000 from hok.tr);have mW:=Vh (show k.left.length<=1000000 from hp.left);generalize x.aa.try ix k.aB 6=r at *;obtain ⟨rs,Tp,re⟩:=r;simp only at hty Mg Mh Mj Mk HN |-;have EE:=Vh hty;have MG:=Vh (And.intro Mj Mk);clear hty hok hp s0 s1 s2 Mg Mh Mj Mk hcap;obtain ⟨av,cap,rfl⟩:=hr.val;by_cases he:re=0
 ·subst he
  rw [if_neg (by simp)];unfold GX;dsimp only
  obtain ⟨nu,hnu⟩:∃ nu,nu=qF rs ix:=⟨_,rfl⟩;rw [<- hnu] at HN |-;obtain ⟨nv,ne⟩:=nu;dsimp only at HN |-
  clear hnu;refine GO fun w HT=>?_
  have HX:=Vh hx;have HR:=Vh hr;clear hx hr;go_enter func243,ntmps243
  go_wp2_with fail
  have HT:=Vh (((HT.a 94 #[Qb kb]).alloc (k:=w.heap.size+1) (by simp) 3 #[U1 U2 ix]).alloc (k:=w.heap.size+1+1) (by simp) 153 #[U3,U3]);generalize UB (UB (UB w _) _) _=w1 at HT |-;obtain ⟨k0,k10⟩:=HT.c2 0 0 0 10;simp only [Zg,az] at k0 k10;have a0:=HT.c 3 0 0;simp only [aN] at a0;have b0:=HT.c 4 0 0;simp only [aN] at b0;refine Mx 10 ?_
  simp only [bY]
  repeat (go_big_quiet_step ((first | (go_at_call 19;with_reducible exact Qd.quiet (Qn HX.out) HT.out _ [2] rfl rfl))))
  refine UA (QT HT fun nq HT=>?_)
  go_wp2_with fail
  refine Qa.run EE HT [2] ?_
  rintro e w1 gs ⟨rfl,g1,hx1,rfl⟩ HT;simp only [PU] at HT;have HX:=Vh hx1;clear hx1 k0 k10 a0 b0;go_wp2_with fail
  refine ⟨rfl,?_⟩
  have k0:=HT.c 0 0 0;simp only [Zg,az] at k0;have a0:=HT.c 3 0 0;simp only [aN] at a0;have b0:=HT.c 4 0 0;simp only [aN] at b0;go_wp2_with fail
  refine Mx 5 ?_
  simp only [bY]
  repeat (go_big_quiet_step ((fail)))
  refine UA (QT HT fun nq HT=>?_)
  go_wp2_with fail
  refine Qa.run (HN _ HX) (HT) [2] ?_
  rintro e w1 gs ⟨rfl,g2,hx2,rfl⟩ HT;simp only [PU] at HT;have HX:=Vh hx2;clear hx2 k0 a0 b0;go_wp2_with fail
  refine ⟨rfl,?_⟩
  go_wp2_with fail
  have k9:=HT.c 0 0 9;have rJ:=HT.f 0 0 9;simp only [Zg,az] at k9;have a0:=HT.c 3 0 0;simp only [aN] at a0;have HT:=Vh HT.out.drew;have hl0:=HT.l 0 0;have hl3:=HT.l 3 0;simp only [UD] at hl0 hl3;have hll:=mW.out;apply Si (α:=Option Addr) (β:=Nat) (A:=fun a1 di w5=>∃ l7,Q3 36 1 (.slice a1 (k.left.length+1) di) (k.left.length+1) (kX k.left++[U1 U5 nv]) l7/\TG [Xc kb L.fb pv (.slice av k.left.length cap) al k,gl,gC] w [Xc kb L.fb pv (.slice a1 (k.left.length+1) di) al { k with left:=k.left++[nv] },l7,g2,[cl w.heap.size 94 #[Qb kb]],[cl (w.heap.size+1) 3 #[U1 U2 ix]],[cl (w.heap.size+1+1) 153 #[U3,U3]]] w5)
  case main =>
   intro key
   go_region_law (
    refine JM rfl (.tmp 41) (.tmp 43) 49 rfl 1 8 _ underlying49 Tryz.oz rfl (by decide) (HT.aT _) 1 rfl rfl HR rfl ⟨w1.heap.size,0,none⟩ 1 1 [U1 U5 nv] rfl rfl (Zy _ _ _) (by simp [Value.oneCell']) (by unfold maxLen;omega) (by omega) ?_
    intro v w3 l7 r T;simp only [UL,UM] at T;obtain ⟨a1,di,rfl⟩:=r.val;have c9:=T.c 0 0 9;have f9:=T.f 0 0 9;have a1':=T.c 3 0 0;simp only [Zg,az] at c9 a1';have T:=Vh T
    have r:=Vh r)
   all_goals
    have T5:=(T.set 0 0 rfl 9 (.slice a1 (k.left.length+1) di)).eq (H':=[Xc kb L.fb pv (.slice a1 (k.left.length+1) di) al { k with left:=k.left++[nv] },l7,g2,[cl w.heap.size 94 #[Qb kb]],[cl (w.heap.size+1) 3 #[U1 U2 ix]],[cl (w.heap.size+1+1) 153 #[U3,U3]]]) rfl;generalize UJ _ _ _=w5 at T5 |-;exact key a1 di w5 ⟨l7,r.out,T5⟩
  case key =>
   rintro a1 di w5 ⟨l7,r,T⟩;have HT:=Vh T;have RR:=Vh (show Q3 36 1 (.slice a1 (k.left.length+1) di) (k.left++[nv]).length (kX (k.left++[nv])) l7 from by simpa [kX] using r);clear r T k9 rJ a0 hl0 hl3 hll;have a0:=HT.c 3 0 0;simp only [aN] at a0;go_wp2_with fail
   refine Mx 5 ?_
   simp only [bY]
   repeat (go_big_quiet_step ((first | (go_at_call 229;with_reducible exact Qd.quiet (JE Tp MG.out.1 MG.out.2) HT.out _ [] rfl rfl))))
   refine UA (QT HT fun nq HT=>?_)
   go_wp2_with fail
   refine Qa.run (AB HX { bL with kind:=12,id:=nv,gen:=Xv Tp } oV) (HT) [0,2] ?_
   rintro e w1 gs ⟨rfl,g3,hx3,rfl⟩ HT;simp only [PU] at HT;have HX:=Vh hx3;clear hx3 a0;go_wp2_with fail
   refine ⟨rfl,?_⟩
   generalize w1=wq at HT |-;go_wp2_with fail
   refine Qa.run (aV.dY (b:=wq.heap.size) (o:=0) (D:=#[U6 (U7 267) #[] #[Qb w.heap.size,Qb (w.heap.size+1)],U6 (U7 268) #[] #[Qb w.heap.size]]) rfl 2 (.inr rfl)) (HT.a _ _) [6] ?_
   rintro e w1 gs ⟨bf,bl,bi,rfl,rfl⟩ HT;simp only [PU] at HT;obtain ⟨e0,e1⟩:=HT.c2 5 0 0 1;obtain ⟨ek,dZ⟩:=HT.f2 5 0 0 1;simp only [aN] at e0 e1;go_wp2
   exact U8 (v:=.agg #[U3,_]) (by simp [results,results243,go_sem,e0,e1]) rfl ⟨_,⟨_,[cl w.heap.size 94 #[Qb kb],cl (w.heap.size+1) 3 #[U1 U2 ix]],_,l7,g3,⟨_,_,rfl,fun e he=>⟨rfl,bf,bl,bi,wq.heap.size,U6 (U7 267) #[] #[Qb w.heap.size,Qb (w.heap.size+1)],U6 (U7 268) #[] #[Qb w.heap.size],[],[],rfl,⟨rfl,w.heap.size,w.heap.size+1,rfl,he _ (by simp),he _ (by simp)⟩,⟨rfl,w.heap.size,rfl,he _ (by simp)⟩,rfl⟩⟩,RR,HX,rfl⟩,(((HT.set 5 0 rfl 0 _).set 5 0 rfl 1 _).p [7,8,9,6,3,4,0,1,2]).sum⟩
 ·rw [if_pos he]
  have hb:(re != 0)=true:=bne_iff_ne.2 he;unfold GX;dsimp only
  refine GO fun w HT=>?_
  have HX:=Vh hx;have HR:=Vh hr;clear hx hr;go_enter func243,ntmps243
  go_wp2_with fail
  have HT:=Vh (((HT.a 94 #[Qb kb]).alloc (k:=w.heap.size+1) (by simp) 3 #[U1 U2 ix]).alloc (k:=w.heap.size+1+1) (by simp) 153 #[U3,U3]);generalize UB (UB (UB w _) _) _=w1 at HT |-;obtain ⟨k0,k10⟩:=HT.c2 0 0 0 10;simp only [Zg,az] at k0 k10;have a0:=HT.c 3 0 0;simp only [aN] at a0;have b0:=HT.c 4 0 0;simp only [aN] at b0;refine Mx 10 ?_
  simp only [bY]
  repeat (go_big_quiet_step ((first | (go_at_call 19;with_reducible exact Qd.quiet (Qn HX.out) HT.out _ [2] rfl rfl))))
  refine UA (QT HT fun nq HT=>?_)
  go_wp2_with fail
  refine Qa.run EE HT [2] ?_
  rintro e w1 gs ⟨rfl,g1,hx1,rfl⟩ HT;simp only [PU] at HT;have HX:=Vh hx1;clear hx1 k0 k10 a0 b0;go_wp2_with fail
  refine ⟨rfl,?_⟩
  have a0:=HT.c 3 0 0;simp only [aN] at a0;have b0:=HT.c 4 0 0;simp only [aN] at b0;go_wp2_with fail
  refine Qa.run (Tc L kb pv ix) (HT) [] ?_
  rintro e w1 gs ⟨g2,l2,⟨m2,d2,rfl,hs2⟩,rfl⟩ HT;simp only [PU] at HT;clear a0 b0;obtain ⟨r0,r1⟩:=HT.c2 5 0 0 1;obtain ⟨cr,df⟩:=HT.f2 5 0 0 1;simp only [aN] at r0 r1;have hv2:=(Jf L kb pv l2).vals (hs2 l2 (fw.refl _));obtain ⟨st1,st2⟩:=aV.aD (P:=prog) hv2.1 hv2.2 r0 cr r1 df;have HS:=Vh hs2;clear hv2 hs2;go_wp2
  exact U8 (v:=.agg #[_,_]) (by simp [results,results243,go_sem,r0,r1]) rfl ⟨_,⟨g2,l2,_,gl,g1,⟨m2,d2,rfl,HS⟩,HR,HX,rfl⟩,((HT.set 5 0 rfl 0 _).set 5 0 rfl 1 _).p [6,7,0,1,2]⟩
end
section
variable {L:Lay} {x:Qi} {p:Q2} {e gl gC gK gF:List ak} {kb:Nat} {pv vl al:Value} {k:Yw}
theorem q0y (ix:Int) (hz:lL L kb pv e ⟨k,x,p⟩ gK gF) (hp:xy (.aC ix) ⟨k,x,p⟩) (bk bi:Nat) (hb:cl bk 94 #[Qb kb]∈e) (hbi:cl bi 3 #[U1 U2 ix]∈e):Qa prog 242 #[Qb bk,Qb bi] [gK,gF] (nH L kb pv e (Xy (.aC ix) ⟨k,x,p⟩).1 (Xy (.aC ix) ⟨k,x,p⟩).2):=by
 obtain ⟨hok,⟨hi0,hi1⟩,hset⟩:=hp;simp only at hset;unfold nH;obtain ⟨vl,al,gl,gC,gP,hl,hx,aU,rfl,rfl⟩:=hz
 have rV:(Xy (.aC ix) ⟨k,x,p⟩).2.k.fq=false:=by
  dsimp only [Xy]
  split <;> exact hset
 have rT:(Xy (.aC ix) ⟨k,x,p⟩).2.p=p:=by
  dsimp only [Xy]
  split <;> rfl
 have hal:al=.slice none 0 0:=by have:=hl.2;rw [hset] at this;simpa using this
 subst hal;have hlv:=q1e (kb:=kb) (pv:=pv) (al:=.slice none 0 0) hl.1 hx hok ix ⟨hi0,hi1⟩;generalize Xy (.aC ix) ⟨k,x,p⟩=R at *;obtain ⟨s',⟨k',x',p'⟩⟩:=R;simp only at rV rT hlv |-;subst rT;refine GO fun w HT=>?_
 have HT:=Vh (HT.out.m [Xc kb L.fb pv vl (.slice none 0 0) k,gl,e,gC,gP]);have qH:=Vh hlv;have bF:=Vh aU;have HST:=Vh rV;have bM:=HT.bu 2 hb;have nT:=HT.bu 2 hbi;simp only [] at bM nT;have b0:=HT.ah 2 hb 0;have i0:=HT.ah 2 hbi 0;simp only [bP] at b0 i0;clear hb hbi hl hx aU hok hset rV hlv;go_enter func242,ntmps242
 go_wp2_with fail
 refine Qa.run qH (HT.a _ _) [0,1,3] ?_
 rintro e w1 gs ⟨g2,l2,vl2,gl2,Ck,⟨m2,d2,rfl,hs2⟩,hr2,hx2,rfl⟩ HT;simp only [PU] at HT;clear b0 i0;obtain ⟨r0,r1⟩:=HT.c2 5 0 0 1;obtain ⟨cr,df⟩:=HT.f2 5 0 0 1;simp only [aN] at r0 r1;have hv2:=(Jf L kb pv l2).vals (hs2 l2 (fw.refl _));obtain ⟨st1,st2⟩:=aV.aD (P:=prog) hv2.1 hv2.2 r0 cr r1 df;have HS:=Vh hs2;have HR2:=Vh hr2;have kM:=Vh hx2;clear hv2 hs2 hr2 hx2;go_wp2
 exact U8 (v:=.agg #[_,_]) (by simp [results,results242,go_sem,r0,r1]) rfl ⟨_,⟨e++l2,fw.app _ _,m2,d2,g2,_,_,rfl,HS _ (fun b hb=>UC _ hb),⟨vl2,.slice none 0 0,gl2,Ck,gP,⟨HR2,by rw [HST.out];rfl⟩,kM,bF,rfl,rfl⟩,rfl⟩,(((HT.set 5 0 rfl 0 _).set 5 0 rfl 1 _).p [0,3,6,2,1,7,4]).sum⟩
theorem FV (L:Lay) (kb:Nat) (pv:Value):(wK L kb pv).Ok where
 refl:=fw.refl
 trans h1 h2:=fun b hb=>h2 b (h1 b hb)
 mm hl h:=BO.le hl h
 ma hl h:=BM.le hl h
 v e:=Jf L kb pv e
 m {e f v g gK gF z} hv hz hp:=by
   obtain ⟨k,x,p⟩:=z;obtain ⟨rfl,hv⟩:=hv;cases f with
   | shuts=>subst hv;exact ⟨_,_,_,rfl,fun _ _=>rfl,(q7h hz hp).pre rfl⟩
   | bO=>obtain ⟨bk,rfl,hb⟩:=hv;exact ⟨_,_,_,rfl,fun _ _=>rfl,(q4j hz hp bk hb).pre rfl⟩
   | aA i=>obtain ⟨bk,bi,rfl,hb,hbi⟩:=hv;exact ⟨_,_,_,rfl,fun _ _=>rfl,(q4k i hz hp bk bi hb hbi).pre rfl⟩
   | waits=>subst hv;exact ⟨_,_,_,rfl,fun _ _=>rfl,(q7j hz).pre rfl⟩
   | bH i=>obtain ⟨bk,bi,rfl,hb,hbi⟩:=hv;exact ⟨_,_,_,rfl,fun _ _=>rfl,(q4h i hz hp bk bi hb hbi).pre rfl⟩
   | aC i=>obtain ⟨bk,bi,rfl,hb,hbi⟩:=hv;exact ⟨_,_,_,rfl,fun _ _=>rfl,(q0y i hz hp bk bi hb hbi).pre rfl⟩
   | cO=>obtain ⟨bk,rfl,hb⟩:=hv;exact ⟨_,_,_,rfl,fun _ _=>rfl,(q4m hz hp bk hb).pre rfl⟩
 a {e f v g gK gF z} hv hz hp:=by
   obtain ⟨k,x,p⟩:=z;obtain ⟨rfl,hv⟩:=hv;cases f with
   | aS=>obtain ⟨bk,rfl,hb⟩:=hv;exact ⟨_,_,_,rfl,fun _ _=>rfl,(q6n hz hp bk hb).pre rfl⟩
   | dC=>obtain ⟨bk,rfl,hb⟩:=hv;exact ⟨_,_,_,rfl,fun _ _=>rfl,(q6o hz hp bk hb).pre rfl⟩
   | release i=>obtain ⟨bk,bi,rfl,hb,hbi⟩:=hv;exact ⟨_,_,_,rfl,fun _ _=>rfl,(qu0 i hz hp bk bi hb hbi).pre rfl⟩
   | drop=>obtain ⟨bk,rfl,hb⟩:=hv;exact ⟨_,_,_,rfl,fun _ _=>rfl,(q6l hz hp bk hb).pre rfl⟩
 y {e f v g gK gF z} hv hz hp:=by
   obtain ⟨k,x,p⟩:=z;obtain ⟨rfl,hv⟩:=hv;cases f with
   | inside=>obtain ⟨bk,rfl,hb⟩:=hv;exact ⟨_,_,_,rfl,fun _ _=>rfl,((q51 hz bk hb).pre rfl).post (by rintro e gs ⟨bg,aJ,h1,h2,rfl⟩;exact ⟨_,⟨bg,aJ,h1,h2,rfl⟩,.refl _⟩)⟩
   | idle=>obtain ⟨bk,rfl,hb⟩:=hv;exact ⟨_,_,_,rfl,fun _ _=>rfl,((q91 hz bk hb).pre rfl).post (by rintro e gs ⟨bg,aJ,h1,h2,rfl⟩;exact ⟨_,⟨bg,aJ,h1,h2,rfl⟩,.refl _⟩)⟩
end
def CO (L:Lay) (kb:Nat) (pv:Value) (e:List ak) (k:Yw) (gK:List ak):Prop:=∃ vl al gl,NL k vl al gl/\gK=Xc kb L.fb pv vl al k++(gl++e)
def qX (L:Lay) (x:Qi) (p:Q2) (gF:List ak):Prop:=∃ gC gP,Qf L x gC/\Zd L.p.pb p gP/\gF=gC++gP
theorem A8 {L:Lay} {kb:Nat} {pv:Value} {e gK gF:List ak} {z:ZS}:lL L kb pv e z gK gF↔CO L kb pv e z.k gK/\qX L z.x z.p gF :=
 ⟨fun ⟨vl,al,gl,gC,gP,a,b,c,d,f⟩=>⟨⟨vl,al,gl,a,d⟩,⟨gC,gP,b,c,f⟩⟩,fun ⟨⟨vl,al,gl,a,d⟩,⟨gC,gP,b,c,f⟩⟩=>⟨vl,al,gl,gC,gP,a,b,c,d,f⟩⟩
def oH (L:Lay) (kb:Nat) (s:SS) (n:Int) (k:Yw) (g:List ak):Prop :=
 ∃ (pb:Nat) (e:List ak) (m d:Value) (cB gK:List ak),(wK L kb (Qb pb)).SV e s m d cB/\CO L kb (Qb pb) e k gK/\g=aV.aH pb m d n++(cB++gK)
def stepS (s:SS) (z:ZS):SS × ZS:=St.run Xy Yc s z
def Ou (s:SS) (z:ZS):Prop:=St.pre Xy Yc xy Bo s z
def sQ (s:SS) (z:ZS):Bool:=s.may Ah z
theorem Ff:∀ (s:SS) {z:ZS},uE z->St.dx (fun (_:YS) (z:ZS)=>uE z) s z
 | .nil,_,_=>trivial
 | .at none _,_,_=>trivial
 | .at (some y) _,_,h=>h
 | .aj _,_,_=>trivial
 | .aO _ _,_,_=>trivial
 | .thn s _,_,h=>Ff s h
section
variable {L:Lay} {x:Qi} {p:Q2} {g gF:List ak} {kb:Nat} {s:SS} {n:Int} {k:Yw}
theorem q31 (hc:oH L kb s n k g) (hx:qX L x p gF) (ho:uE ⟨k,x,p⟩) (hm:sQ s ⟨k,x,p⟩=true) (hp:Ou s ⟨k,x,p⟩) (hb:0<=n/\n<=1000000000) :
 Qa prog 48 #[Qb kb] [g,gF] fun en gs=>∃ g' aJ,en=U4 (.bool true)/\oH L kb (stepS s ⟨k,x,p⟩).1 (n+1) (stepS s ⟨k,x,p⟩).2.k g'/\qX L (stepS s ⟨k,x,p⟩).2.x (stepS s ⟨k,x,p⟩).2.p aJ/\gs=[g',aJ]:=by
 obtain ⟨pb,e,m,d,cB,gK,hs,hk,rfl⟩:=hc;have hd:=kV.fD (n:=n) (FV L kb (Qb pb)) hs (x:=(⟨k,x,p⟩:ZS)) (A8.2 ⟨hk,hx⟩) (Ff s ho) hp pb hb hm;obtain ⟨vl,al,gl,hl,rfl⟩:=hk;refine GO fun w HT=>?_
 have T1:=HT.sum (H':=[Xc kb L.fb (Qb pb) vl al k,aV.aH pb m d n++(cB++(gl++e)),gF]);have k8:=T1.c 0 0 8;simp only [Zg,az] at k8;have lt:=T1.l 0 0;simp only [] at lt;have HD:=Vh hd;have HT:=Vh (HT.out.m [aV.aH pb m d n,cB,Xc kb L.fb (Qb pb) vl al k++(gl++e),gF]);clear hs hl hx ho hm hp hb hd T1;go_enter func48,ntmps48
 go_wp2_with fail
 refine Qa.run HD HT [0,1,2,3] ?_
 rintro e w1 gs ⟨e',hle,m',d',nL,bg,aJ,rfl,hs',hx',rfl⟩ HT;simp only [PU] at HT;have HS:=Vh hs';have HX:=Vh (A8.1 hx');clear hs' hx' k8;go_wp2
 go_ret
 exact ⟨_,⟨_,aJ,rfl,⟨pb,e',m',d',nL,bg,HS,HX.1,rfl⟩,HX.2,rfl⟩,HT.sum⟩
theorem q87 (hc:oH L kb s n k g) (hx:qX L x p gF) (ho:uE ⟨k,x,p⟩) (hm:sQ s ⟨k,x,p⟩=false) :
 Qa prog 48 #[Qb kb] [g,gF] fun en gs=>en=U4 (.bool false)/\∃ g' aJ,oH L kb s n k g'/\qX L x p aJ/\gs=[g',aJ]:=by
 obtain ⟨pb,e,m,d,cB,gK,hs,hk,rfl⟩:=hc;have hd:=kV.dU (n:=n) (FV L kb (Qb pb)) hs (x:=(⟨k,x,p⟩:ZS)) (A8.2 ⟨hk,hx⟩) (Ff s ho) pb hm;obtain ⟨vl,al,gl,hl,rfl⟩:=hk;refine GO fun w HT=>?_
 have T1:=HT.sum (H':=[Xc kb L.fb (Qb pb) vl al k,aV.aH pb m d n++(cB++(gl++e)),gF]);have k8:=T1.c 0 0 8;simp only [Zg,az] at k8;have lt:=T1.l 0 0;simp only [] at lt;have HD:=Vh hd;have HS:=Vh hs;have HT:=Vh (HT.out.m [aV.aH pb m d n,cB,Xc kb L.fb (Qb pb) vl al k++(gl++e),gF]);clear hs hl hx ho hm hd T1;go_enter func48,ntmps48
 go_wp2_with fail
 refine Qa.run HD HT [0,1,2,3] ?_
 rintro e w1 gs ⟨bg,aJ,rfl,hx',rfl⟩ HT;simp only [PU] at HT;have HX:=Vh (A8.1 hx');clear hx' k8;go_wp2
 go_ret
 exact ⟨_,⟨rfl,_,aJ,⟨pb,e,m,d,cB,bg,HS,HX.1,rfl⟩,HX.2,rfl⟩,HT.sum⟩
theorem q6z (hc:oH L kb s n k g) (hx:qX L x p gF) (ho:uE ⟨k,x,p⟩) :
 Qa prog 366 #[Qb kb] [g,gF] fun en gs=>en=U4 (.bool (sQ s ⟨k,x,p⟩))/\∃ g' aJ,oH L kb s n k g'/\qX L x p aJ/\gs=[g',aJ]:=by
 obtain ⟨pb,e,m,d,cB,gK,hs,hk,rfl⟩:=hc;have hd:=kV.dS (n:=n) (FV L kb (Qb pb)) hs (x:=(⟨k,x,p⟩:ZS)) (A8.2 ⟨hk,hx⟩) (Ff s ho) pb;have hd:Qa prog 146 _ _ fun en gs=>∃ bg aJ,en=U4 (.bool (sQ s ⟨k,x,p⟩))/\lL L kb (Qb pb) e ⟨k,x,p⟩ bg aJ/\_:=hd
 generalize sQ s ⟨k,x,p⟩=v at *;obtain ⟨vl,al,gl,hl,rfl⟩:=hk;refine GO fun w HT=>?_
 have T1:=HT.sum (H':=[Xc kb L.fb (Qb pb) vl al k,aV.aH pb m d n++(cB++(gl++e)),gF]);have k8:=T1.c 0 0 8;simp only [Zg,az] at k8;have lt:=T1.l 0 0;simp only [] at lt;have HD:=Vh hd;have HS:=Vh hs;have HT:=Vh (HT.out.m [aV.aH pb m d n,cB,Xc kb L.fb (Qb pb) vl al k++(gl++e),gF]);clear hs hl hx ho hd T1;go_enter func366,ntmps366
 go_wp2_with fail
 refine Qa.run HD HT [0,1,2,3] ?_
 rintro e w1 gs ⟨bg,aJ,rfl,hx',rfl⟩ HT;simp only [PU] at HT;have HX:=Vh (A8.1 hx');clear hx' k8;go_wp2
 go_ret
 exact ⟨_,⟨rfl,_,aJ,⟨pb,e,m,d,cB,bg,HS,HX.1,rfl⟩,HX.2,rfl⟩,HT.sum⟩
theorem Lt (hc:oH L kb s n k g):Qd prog 112 #[Qb kb] [g] (.bool s.isNil):=by
 obtain ⟨pb,e,m,d,cB,gK,hs,hk,rfl⟩:=hc;have hd:=kV.eP (FV L kb (Qb pb)) hs pb n;obtain ⟨vl,al,gl,hl,rfl⟩:=hk;refine GO fun w HT=>?_
 have T1:=HT.sum (H':=[Xc kb L.fb (Qb pb) vl al k,aV.aH pb m d n++(cB++(gl++e))]);have k8:=T1.c 0 0 8;simp only [Zg,az] at k8;have lt:=T1.l 0 0;simp only [] at lt;have HD:=Vh hd;have HT:=Vh (HT.out.m [aV.aH pb m d n,cB,Xc kb L.fb (Qb pb) vl al k++(gl++e)]);clear hs hl hd T1;go_enter func112,ntmps112
 go_wp2_with fail
 refine (Qd.use HD HT [0] rfl rfl).mono ?_
 rintro e w1 ⟨rfl,mq,rfl⟩;go_wp2
 go_ret
 exact ⟨rfl,_,rfl⟩
end
theorem aV.iM {c:aV} (h:c.iI) {s:c.S} {m d:Value} {g:List ak} (hs:c.SV s m d g):Qa prog 79 #[.agg #[m,d]] [g] fun e gs=>∃ pb,e=U4 (Qb pb)/\gs=[g,aV.aH pb m d 0]:=by
 obtain ⟨v1,v2⟩:=h.vals hs;refine GO fun w HT=>?_
 clear hs h;rcases v1 with rfl | ⟨p9,eu,fU,rfl⟩ <;> rcases v2 with rfl | ⟨Ci,lq,oq,rfl⟩
 all_goals
  go_enter func79,ntmps79
  go_wp2
  go_ret
  exact ⟨_,⟨_,rfl,rfl⟩,(HT.aT _).alloc (k:=w.heap.size+1) (by simp) _ _⟩
theorem q12 (l:List Int):∀ u∈kX l,u.oneCell'=true:=by
 intro u hu;obtain ⟨n,_,rfl⟩:=List.mem_map.1 hu;rfl
theorem Ru {tr:Value} {l:List Int} {gT:List ak} (hr:Q3 36 1 tr l.length (kX l) gT) (hn:l.length<=1000000000) :
 Qa prog 113 #[tr] [gT] fun e gs=>∃ v g',e=U4 v/\Q3 36 1 v l.length (kX l) g'/\gs=[gT,g']:=by
 have hr':=hr;obtain ⟨hl,(⟨rfl,h0,rfl⟩ | ⟨b,cap,cur,rfl,rfl,h1,h2,h3,h4⟩)⟩:=hr
 ·have he:l=[]:=List.eq_nil_of_length_eq_zero h0
  subst he;clear hr' h0 hl hn;refine GO fun w HT=>?_
  have hn:=fun (w:World)=>Lib.run_eql_slice_nil (P:=prog) w 49 36 none 0 0 0 0 underlying49
  go_enter func113,ntmps113
  go_wp2
  go_ret
  exact ⟨[[],[]],⟨_,[],rfl,X7 _ _,rfl⟩,HT.eq (by simp)⟩
 ·refine GO fun w HT=>?_
  have HN:=Vh (show ∀ j u,(kX l)[j]?=some u->(w.alloc (.cells #[] 36)).cell? ((⟨b,0,none⟩:Addr).add j)=some u from ((HT.a 36 #[]).owns 0 rfl hr').cells (g:=b) rfl);have HL:=Vh hl;have HC:=Vh (q12 l);clear hr' hl h4 h3;have hn:=fun (w:World)=>Lib.run_eql_slice_nil (P:=prog) w 49 36 (some ⟨b,0,none⟩) l.length cap 0 0 underlying49
  go_enter func113,ntmps113
  go_wp2_with (
   at_builtin
   (with_reducible refine Z0 rfl (.tmp 5) (.tmp 6) 49 rfl 36 1 8 _ underlying49 Tryz.oz rfl (by decide) (HT.out.alloc rfl _ _) 1 rfl rfl (Lg _ 1 _ 0 0 #[] (Nat.le_refl _) (by decide) rfl) rfl ⟨b,0,none⟩ l.length cap (kX l) rfl HL.out HN.out HC.out (by unfold maxLen;omega) (by omega) ?_)
   intro v w2 g2 r T;simp only [UL,UM,UN,UQ] at T;have T:=Vh T
   have r:=Vh r)
  go_ret
  have hv:Q3 36 1 v l.length (kX l) g2:=by simpa using r.out
  exact ⟨_,⟨_,rfl,_,hv,rfl⟩,T⟩
def oM (th no:Int):Yw:=⟨th,no,0,false,false,[],0⟩
def Gg:SS:=.at none .shuts
def dw (err:Int) (ok:Bool) (v:Value):Array Value:=#[U1 U2 err,.bool ok,U1 U5 0,U1 U5 0,v]
section
variable {L:Lay} {x:Qi} {p:Q2} {g gF:List ak} {kb:Nat} {s:SS} {n:Int} {k:Yw}
theorem qzq (hx:qX L x p gF) (hn:x.tr.length<=1000000) (th no:Int):Qa prog 47 #[Qb L.fb,U1 U2 th,U1 U2 no] [gF] fun en gs =>
 ∃ kb g aJ,en=U4 (U9 #[Qb kb,U1 U2 0])/\oH L kb Gg 0 (oM th no) g/\qX L { x with tr:=x.tr++[pq (oM th no) { bL with kind:=1 }] } p aJ/\gs=[g,aJ]:=by
 obtain ⟨gC,gP,hx,aU,rfl⟩:=hx;have HS:=Vh (show ∀ kb pv,((wK L kb pv).on []).SV (.at none .shuts) U3 (U6 (U7 110) #[Qb kb] #[]) [] from fun kb pv=>⟨rfl,rfl,rfl⟩);have kz:=Vh (show ∀ kb,_ from fun kb=>aV.iM (Jf L kb (UE none) []) (HS kb (UE none)));refine GO fun w HT=>?_
 have HX:=Vh hx;have bF:=Vh aU;have dJ:=Vh hn;clear hx hn aU;go_enter func47,ntmps47
 go_wp2_with fail
 refine Qa.run (kz w.heap.size) ((HT.a 194 (Zg L.fb (UE none) (.slice none 0 0) (.slice none 0 0) (oM th no))).m [gC,gP,[],[cl w.heap.size 194 (Zg L.fb (UE none) (.slice none 0 0) (.slice none 0 0) (oM th no))]]) [2] ?_
 rintro e w1 gs ⟨pb,rfl,rfl⟩ HT;simp only [PU] at HT;have k8:=HT.c 3 0 8;have rH:=HT.f 3 0 8;simp only [Zg,az] at k8;go_wp2_with fail
 refine Qa.run (AB (pv:=Qb pb) HX { bL with kind:=1 } dJ) ((HT.set 3 0 rfl 8 (Qb pb)).eq (H':=[gC,gP,[],Xc w.heap.size L.fb (Qb pb) (.slice none 0 0) (.slice none 0 0) (oM th no),aV.aH pb U3 (U6 (U7 110) #[Qb w.heap.size] #[]) 0]) rfl) [3,0] ?_
 rintro e w1 gs ⟨rfl,g1,hx1,rfl⟩ HT;simp only [PU] at HT;have HX:=Vh hx1;clear hx1 k8 rH;go_wp2
 go_ret2
 exact ⟨_,⟨_,_,_,rfl,⟨pb,[],_,_,[],[cl w.heap.size 194 (Zg L.fb (Qb pb) (.slice none 0 0) (.slice none 0 0) (oM th no))],HS _ _,⟨_,_,[],⟨X7 _ _,rfl⟩,rfl⟩,rfl⟩,⟨g1,gP,HX,bF,rfl⟩,rfl⟩,((HT.p [4,3,0,1]).eq (H':=[aV.aH pb U3 (U6 (U7 110) #[Qb w.heap.size] #[]) 0,[cl w.heap.size 194 (Zg L.fb (Qb pb) (.slice none 0 0) (.slice none 0 0) (oM th no))],g1,gP]) rfl).sum⟩
theorem q3x (hc:oH L kb s n k g) (hn:s.isNil=false):Qa prog 49 #[Qb kb] [g] fun en gs =>
 en=U4 (U9 #[.agg (dw 0 false (.slice none 0 0)),U1 U2 10])/\gs=[g]:=by
 have hd:=Lt hc;rw [hn] at hd;refine GO fun w HT=>?_
 have HD:=Vh hd;clear hd hc;go_enter func49,ntmps49
 go_wp2_with fail
 have HT:=Vh (HT.out.a 51 #[U1 U2 0,.bool false,U1 U5 0,U1 U5 0,.slice none 0 0]);go_wp2_with fail
 refine Qd.run HD HT [0] ?_
 rintro e wq rfl HT;obtain ⟨e0,e1,e2,e3,e4⟩:=HT.c5 1 0 0 1 2 3 4;obtain ⟨ek,dZ,EM,MO,zT⟩:=HT.f5 1 0 0 1 2 3 4;simp only [aN] at e0 e1 e2 e3 e4;go_wp2
 exact U8 (v:=U9 #[.agg (dw 0 false (.slice none 0 0)),U1 U2 10]) (by simp [results,results49,go_sem,e0,e1,e2,e3,e4,dw]) rfl ⟨_,⟨rfl,rfl⟩,(((((HT.set 1 0 rfl 0 _).set 1 0 rfl 1 _).set 1 0 rfl 2 _).set 1 0 rfl 3 _).set 1 0 rfl 4 _).p [0]⟩
def Yw.told (k:Yw):List Int:=if k.fq then k.left else []
theorem qvp (hc:oH L kb s n k g) (hn:s.isNil=true) (hl:k.left.length<=1000000):Qa prog 49 #[Qb kb] [g] fun en gs =>
 ∃ v gv,en=U4 (U9 #[.agg (dw k.err k.ok v),U1 U2 0])/\Q3 36 1 v k.told.length (kX k.told) gv/\gs=[g,gv]:=by
 have hd:=Lt hc;rw [hn] at hd;obtain ⟨pb,e,m,d,cB,gK,hs,⟨vl,al,gl,⟨hr,hal⟩,rfl⟩,rfl⟩:=hc;obtain ⟨av,cap,rfl⟩:=hr.val
 have lU:(al=.slice none 0 0/\k.told=[])\/(al=.slice av k.left.length cap/\k.told=k.left):=by
  unfold Yw.told;cases hh:k.fq <;> rw [hh] at hal <;> simp at hal <;> simp [hal]
 clear hal;rcases lU with ⟨rfl,ht⟩ | ⟨rfl,ht⟩
 ·rw [ht]
  have HC:=Vh (Ru (tr:=.slice none 0 0) (l:=[]) (X7 _ _) (by simp));refine GO fun w HT=>?_
  have HD:=Vh hd;clear hd hs hr;go_enter func49,ntmps49
  go_wp2_with fail
  have HT:=Vh (HT.out.a 51 #[U1 U2 0,.bool false,U1 U5 0,U1 U5 0,.slice none 0 0]);go_wp2_with fail
  refine Qd.run HD HT [0] ?_
  rintro e wq rfl HT;have HT:=Vh (HT.out.sum (H':=[Xc kb L.fb (Qb pb) (.slice av k.left.length cap) (.slice none 0 0) k,gl,aV.aH pb m d n++cB++e,[cl w.heap.size 51 #[U1 U2 0,.bool false,U1 U5 0,U1 U5 0,.slice none 0 0]],[]]));obtain ⟨k3,k4,k5,k6,k7⟩:=HT.c5 0 0 3 4 5 6 7;simp only [Zg,az] at k3 k4 k5 k6 k7;have lt:=HT.l 0 0;have nU:=HT.l 3 0;simp only [] at lt nU;go_wp2_with fail
  refine Qa.run HC (HT.a 51 #[U1 U2 k.err,.bool k.ok,U1 U5 0,U1 U5 0,.slice none 0 0]) [4] ?_
  rintro e w1 gs ⟨v,g2,rfl,hv,rfl⟩ HT;simp only [PU] at HT;obtain ⟨BS,cap2,rfl⟩:=Q3.val hv;have HV:=Vh hv;clear hv k3 k4 k5 k6 k7;obtain ⟨a0,a1,a2,a3,a4⟩:=HT.c5 5 0 0 1 2 3 4;have fa4:=HT.f 5 0 4;simp only [aN] at a0 a1 a2 a3 a4;obtain ⟨r0,r1,r2,r3,r4⟩:=HT.c5 3 0 0 1 2 3 4;obtain ⟨cr,df,yh,yj,EN⟩:=HT.f5 3 0 0 1 2 3 4;simp only [aN] at r0 r1 r2 r3 r4;have ne1:=HT.ne 5 0 3 0 (by decide) rfl rfl;simp only [] at ne1;have o7:=Ne.symm ne1;go_wp2
  exact U8 (v:=U9 #[.agg (dw k.err k.ok (.slice BS ([]:List Int).length cap2)),U1 U2 0]) (by simp [results,results49,go_sem,r0,r1,r2,r3,r4,dw,ne1,o7]) rfl ⟨_,⟨_,g2,rfl,HV,rfl⟩,(((((((HT.set 5 0 rfl 4 _).set 3 0 rfl 0 _).set 3 0 rfl 1 _).set 3 0 rfl 2 _).set 3 0 rfl 3 _).set 3 0 rfl 4 _).p [0,1,2,6]).sum⟩
 ·rw [ht]
  have HC:=Vh (Ru (tr:=.slice av k.left.length cap) hr (by omega));refine GO fun w HT=>?_
  have HD:=Vh hd;clear hd hs hr;go_enter func49,ntmps49
  go_wp2_with fail
  have HT:=Vh (HT.out.a 51 #[U1 U2 0,.bool false,U1 U5 0,U1 U5 0,.slice none 0 0]);go_wp2_with fail
  refine Qd.run HD HT [0] ?_
  rintro e wq rfl HT;have HT:=Vh (HT.out.sum (H':=[Xc kb L.fb (Qb pb) (.slice av k.left.length cap) (.slice av k.left.length cap) k,gl,aV.aH pb m d n++cB++e,[cl w.heap.size 51 #[U1 U2 0,.bool false,U1 U5 0,U1 U5 0,.slice none 0 0]],[]]));obtain ⟨k3,k4,k5,k6,k7⟩:=HT.c5 0 0 3 4 5 6 7;simp only [Zg,az] at k3 k4 k5 k6 k7;have lt:=HT.l 0 0;have nU:=HT.l 3 0;simp only [] at lt nU;go_wp2_with fail
  refine Qa.run HC (HT.a 51 #[U1 U2 k.err,.bool k.ok,U1 U5 0,U1 U5 0,.slice av k.left.length cap]) [1] ?_
  rintro e w1 gs ⟨v,g2,rfl,hv,rfl⟩ HT;simp only [PU] at HT;obtain ⟨BS,cap2,rfl⟩:=Q3.val hv;have HV:=Vh hv;clear hv k3 k4 k5 k6 k7;obtain ⟨a0,a1,a2,a3,a4⟩:=HT.c5 5 0 0 1 2 3 4;have fa4:=HT.f 5 0 4;simp only [aN] at a0 a1 a2 a3 a4;obtain ⟨r0,r1,r2,r3,r4⟩:=HT.c5 3 0 0 1 2 3 4;obtain ⟨cr,df,yh,yj,EN⟩:=HT.f5 3 0 0 1 2 3 4;simp only [aN] at r0 r1 r2 r3 r4;have ne1:=HT.ne 5 0 3 0 (by decide) rfl rfl;simp only [] at ne1;have o7:=Ne.symm ne1;go_wp2
  exact U8 (v:=U9 #[.agg (dw k.err k.ok (.slice BS k.left.length cap2)),U1 U2 0]) (by simp [results,results49,go_sem,r0,r1,r2,r3,r4,dw,ne1,o7]) rfl ⟨_,⟨_,g2,rfl,HV,rfl⟩,(((((((HT.set 5 0 rfl 4 _).set 3 0 rfl 0 _).set 3 0 rfl 1 _).set 3 0 rfl 2 _).set 3 0 rfl 3 _).set 3 0 rfl 4 _).p [0,1,2,6]).sum⟩
end
end
end Go.Proofs.YtcneeepdclgdcaaGreat
