import Derived.Test.YtblhfbcodbjgcaaGreatSV30
import Derived.Deep.RegionHeld3
namespace Go.Proofs.YtblhfbcodbjgcaaGreat
set_option linter.unusedVariables false
set_option linter.unusedSimpArgs false
section
open Go.RowKit Go.Shelf
def one1 (n:List Blk→Nat) (a:Blk):Nat:=n [a]
theorem TG.sum2 {h H H':GH} {w w':World} (T:TG h w H w')
 (hs:∀ n:List Blk→Nat,(∀ x y,n (x++y)=n x+n y)→n []=0→(∀ a l,n (a::l)=one1 n a+n l)→n []=0→n H.flatten=n H'.flatten:=by intro n ha h0 h1 h2;simp only [SU,ha,h0,h1,h2] <;> omega):TG h w H' w' :=
 T.sum fun n ha h0 _ _=>hs n ha h0 (fun a l=>by show n ([a]++l)=_;rw [ha];rfl) h0
theorem due_cur {ds:List Nat} {k:TurnS} {gd:List Blk} {d bd:Nat} (h:isDue ds k gd) (hc:k.nd=d+1) (hb:ds[d]?=some bd) :
 ∃ v gr,rowG 40 5 v k.due.length (tasksV k.due) gr∧gd=[cl bd 343 #[v]]++gr:=by
 obtain ⟨h0,⟨h1,_⟩ | ⟨m,bd',v,gr,h1,h2,h3,h4⟩⟩:=h
 ·omega
 ·have:m=d:=by omega
  subst this
  rw [hb] at h2
  cases h2
  exact ⟨v,gr,h3,h4⟩
section
variable {L:Lay} {x:CoreS} {ws:List WheelS} {p:PipeS} {e:ET} {g gC gK gF:List Blk} {kb:Nat} {pv sv:Value} {k:TurnS}
set_option maxRecDepth 100000 in
set_option maxHeartbeats 4000000 in
theorem tOne2112 (d:Nat) (hz:repT L kb pv e ⟨k,x,ws,p⟩ gK gF) (hp:preT (.one2112 d) ⟨k,x,ws,p⟩) (bk bd:Nat) (hb:kBox kb bk e) (hbd:e.2[d]?=some bd) :
 DoesG Tryz.prog 263 #[ptr' bk,ptr' bd] [gK,gF] (MRT L kb pv e (runT (.one2112 d) ⟨k,x,ws,p⟩).1 (runT (.one2112 d) ⟨k,x,ws,p⟩).2):=by
 have hc:k.nd=d+1:=hp.2.2
 clear hp
 obtain ⟨gd,gC,gW,gP,hd,hx,hw,hpp,rfl,rfl⟩:=hz
 obtain ⟨v,gr,hr,rfl⟩:=due_cur hd hc hbd
 have hfi:=sFires (L:=L) (x:=x) (ws:=ws) (p:=p) (kb:=kb) (pv:=pv) (sv:=sVal L k) (k:=k) d bd 0 v gr hr (by decide)
 unfold FiR at hfi
 cases hq:k.due[0]? with
 | none =>
   rw [show runT (.one2112 d) ⟨k,x,ws,p⟩=(.row1 .unlock,⟨k,x,ws,p⟩) by simp only [runT,hq]]
   rw [show firesT d 0 ⟨k,x,ws,p⟩=(.nil,⟨k,x,ws,p⟩) by simp only [firesT,hq]] at hfi
   dsimp only at hfi ⊢
   have hcl:∀ (e':ET) gK gF,repT L kb pv e' ⟨k,x,ws,p⟩ gK gF→kBox kb bk e'→_:=fun e' gK gF hz h1=>tOne21121 hz bk h1
   unfold MRT at *
   intro w hw
   have T0:=TG.refl hw
   have HT:=Lib.hid T0
   clear hw T0
   have HFI:=Lib.hid hfi
   have HCL:=Lib.hid hcl
   have HT:=Lib.hid (HT.out.sum2 (H':=[turnB kb L.fb pv (sVal L k) k,[cl bd 343 #[v]],gr,e.1,gC,gW,gP]))
   have HX:=Lib.hid hx
   have HD:=Lib.hid hd
   have HW:=Lib.hid hw
   have HPP:=Lib.hid hpp
   have HBD:=Lib.hid hbd
   clear hx hd hw hpp hfi hcl hq hbd hr hc
   have HB:=Lib.hid (show cl bk 56 #[ptr' kb]∈e.1 from hb)
   clear hb
   have b0:=HT.out.mem_cell 3 HB.out 0
   have ltb:=HT.out.mem_lt 3 HB.out
   simp only [GE2] at b0 ltb
   go_enter Tryz.func263,Tryz.ntmps263
   go_wp2_with fail
   refine (DoesG.use (HFI.out) (HT.out.alloc (k:=w.heap.size) rfl _ _) [0,1,2] rfl rfl).mono ?_
   rintro e w1 ⟨gs,⟨g2,l2,m2,d2,rfl,hs2,rfl⟩,Ta⟩
   simp only [PU] at Ta
   clear b0 ltb
   have HT:=Lib.hid Ta
   clear Ta
   obtain ⟨rfl,rfl,rfl⟩:=hs2 (l2,e.2) (fun _ h=>h) HBD.out
   clear hs2
   have hth:=then_nil (first:=#[]) (caps:=#[ptr' bk]) (enters_of Tryz.func265 (by kernel_rfl) rfl) (HCL.out (e.1++l2,e.2) (turnB kb L.fb pv (sVal L k) k++(([cl bd 343 #[v]]++gr)++(e.1++l2))) (gC++(gW++gP)) ⟨[cl bd 343 #[v]]++gr,gC,gW,gP,HD.out,HX.out,HW.out,HPP.out,rfl,rfl⟩ (List.mem_append_left _ HB.out)) (fun _ _ h=>MRT.fv h)
   obtain ⟨gT,hgT⟩:∃ gT,gT=turnB kb L.fb pv (sVal L k) k:=⟨_,rfl⟩
   obtain ⟨gD,hgD⟩:∃ gD,gD=[cl bd 343 #[v]]++gr:=⟨_,rfl⟩
   have HTo:=HT.out
   rw [← hgT] at hth HTo
   have HTo:=HTo.sum2 (H':=[gT,[cl bd 343 #[v]]++gr,e.1,gC,gW,gP,[cl w.heap.size 148 #[.nilFunc,.nilFunc]],l2])
   rw [← hgD] at hth HTo
   have HTH:=Lib.hid hth
   have HT:=Lib.hid HTo
   clear hth HTo hgT hgD
   go_wp2_with fail
   refine (DoesG.use (HTH.out) (HT.out.sum2 (H':=[gT++(gD++(e.1++l2)),gC++(gW++gP),[cl w.heap.size 148 #[.nilFunc,.nilFunc]]])) [0,1] rfl rfl).mono ?_
   rintro e w1 ⟨gs,⟨e2,hl2,m3,d3,g3,gK3,gF3,rfl,hs3,hz3,rfl⟩,Ta⟩
   simp only [PU] at Ta
   have HL2:=Lib.hid hl2
   have HZ3:=Lib.hid hz3
   clear hl2 hz3
   have HT:=Lib.hid Ta
   clear Ta
   have r0:=HT.out.cell 2 0 rfl 0
   have fr0:=HT.out.free 2 0 rfl 0
   have r1:=HT.out.cell 2 0 rfl 1
   have fr1:=HT.out.free 2 0 rfl 1
   simp only [GE4] at r0 r1
   have hv2:=(cliT_vals L kb pv e2).vals hs3
   obtain ⟨st1,st2⟩:=Cli.store_fv2 (P:=Tryz.prog) hv2.1 hv2.2 r0 fr0 r1 fr1
   have HS:=Lib.hid hs3
   clear hv2 hs3
   go_wp2
   exact bodyPost_ret (v:=.agg #[_,_]) (by simp [results,Tryz.results263,go_sem,r0,r1]) rfl ⟨_,⟨e2,(leT.app e l2).trans HL2.out,m3,d3,g3,gK3,gF3,rfl,HS.out,HZ3.out,rfl⟩,((HT.out.set 2 0 rfl 0 _).set 2 0 rfl 1 _).pick [0,1,3] rfl⟩
 | some t =>
   rw [show runT (.one2112 d) ⟨k,x,ws,p⟩=(.thn (firesT d 0 ⟨k,x,ws,p⟩).1 .one21121,(firesT d 0 ⟨k,x,ws,p⟩).2) by simp only [runT,hq]]
   rw [show firesT d 0 ⟨k,x,ws,p⟩=(.thn (.at none .looks) (.fires1 d 0),⟨{ k with t:=t },x,ws,p⟩) by simp only [firesT,hq]] at hfi ⊢
   dsimp only at hfi ⊢
   unfold MRT
   intro w hw
   have T0:=TG.refl hw
   have HT:=Lib.hid T0
   clear hw T0
   have HFI:=Lib.hid hfi
   have HT:=Lib.hid (HT.out.sum2 (H':=[turnB kb L.fb pv (sVal L k) k,[cl bd 343 #[v]],gr,e.1,gC,gW,gP]))
   have HX:=Lib.hid hx
   have HD:=Lib.hid hd
   have HW:=Lib.hid hw
   have HPP:=Lib.hid hpp
   have HBD:=Lib.hid hbd
   clear hx hd hw hpp hfi hq hbd hr hc
   have HB:=Lib.hid (show cl bk 56 #[ptr' kb]∈e.1 from hb)
   clear hb
   have b0:=HT.out.mem_cell 3 HB.out 0
   have ltb:=HT.out.mem_lt 3 HB.out
   simp only [GE2] at b0 ltb
   go_enter Tryz.func263,Tryz.ntmps263
   obtain ⟨gT,hgT⟩:∃ gT,gT=turnB kb L.fb pv (sVal L k) { k with t:=t }:=⟨_,rfl⟩
   go_wp2_with fail
   refine (DoesG.use (HFI.out) (HT.out.alloc (k:=w.heap.size) rfl _ _) [0,1,2] rfl rfl).mono ?_
   rintro e w1 ⟨gs,⟨g2,l2,m2,d2,rfl,hs2,rfl⟩,Ta⟩
   simp only [PU] at Ta
   clear b0 ltb
   have HT:=Lib.hid Ta
   clear Ta
   have HTo:=HT.out
   rw [← hgT] at HTo
   obtain ⟨gD,hgD⟩:∃ gD,gD=[cl bd 343 #[v]]++gr:=⟨_,rfl⟩
   have HTo:=HTo.sum2 (H':=[gT,[cl bd 343 #[v]]++gr,e.1,gC,gW,gP,[cl w.heap.size 148 #[.nilFunc,.nilFunc]],l2,g2,[]])
   rw [← hgD] at HTo
   have HT:=Lib.hid HTo
   have HGT:=Lib.hid hgT
   have HGD:=Lib.hid hgD
   clear hgD
   have HS:=Lib.hid (hs2 (e.1++l2,e.2) (fun b hb=>List.mem_append_right _ hb) HBD.out)
   clear HTo hgT hs2
   go_wp2_with fail
   refine (DoesG.use (Cli.prog_then_x (c:=(cliT L kb pv).on (e.1++l2,e.2)) (s:=.thn (.at none .looks) (.fires1 d 0)) (f:=MT.one21121) (v:=.func (.func 265) #[] #[ptr' bk]) (gm:=[]) (cliT_vals L kb pv _) rfl HS.out ⟨rfl,bk,rfl,List.mem_append_left _ HB.out⟩) (HT.out) [8,9] rfl rfl).mono ?_
   rintro e w1 ⟨gs,⟨bs,br,rfl,rfl⟩,Ta⟩
   simp only [PU] at Ta
   have HT:=Lib.hid Ta
   clear Ta
   have r0:=HT.out.cell 6 0 rfl 0
   have fr0:=HT.out.free 6 0 rfl 0
   have r1:=HT.out.cell 6 0 rfl 1
   have fr1:=HT.out.free 6 0 rfl 1
   simp only [GE4] at r0 r1
   have hv2:=(cliT_vals L kb pv _).vals HS.out
   obtain ⟨st1,st2⟩:=Cli.store_fv2 (P:=Tryz.prog) (v':=.func (.func 226) #[] #[ptr' bs,ptr' br]) hv2.1 (Or.inr ⟨_,_,_,rfl⟩) r0 fr0 r1 fr1
   clear hv2
   go_wp2
   have HF:=(((HT.out.set 6 0 rfl 0 m2).set 6 0 rfl 1 (.func (.func 226) #[] #[ptr' bs,ptr' br])).pick [8,0,1,2,7,3,4,5] rfl).sum2 (H':=[[cl bs 148 #[m2,d2],cl br 146 #[.func (.func 265) #[] #[ptr' bk]]]++g2++[],gT++(gD++(e.1++l2)),gC++(gW++gP)])
   rw [HGT.out,HGD.out] at HF
   exact bodyPost_ret (v:=.agg #[_,_]) (by simp [results,Tryz.results263,go_sem,r0,r1]) rfl ⟨_,⟨(e.1++l2,e.2),leT.app e l2,_,_,_,_,_,rfl,⟨bs,br,_,_,g2,[],rfl,rfl,HS.out,⟨rfl,bk,rfl,List.mem_append_left _ HB.out⟩,rfl⟩,⟨_,gC,gW,gP,HD.out,HX.out,HW.out,HPP.out,rfl,rfl⟩,rfl⟩,HF⟩
end
end
section
open Go.RowKit Go.Shelf
section
variable {L:Lay} {x:CoreS} {ws:List WheelS} {p:PipeS} {e:ET} {g gC gK gF:List Blk} {kb:Nat} {pv sv:Value} {k:TurnS}
set_option maxRecDepth 100000 in
theorem tRec1 (hz:repT L kb pv e ⟨k,x,ws,p⟩ gK gF) (hp:preT .rec1 ⟨k,x,ws,p⟩) (bk:Nat) (hb:kBox kb bk e) :
 DoesG Tryz.prog 297 #[ptr' bk] [gK,gF] (MRT L kb pv e (runT .rec1 ⟨k,x,ws,p⟩).1 (runT .rec1 ⟨k,x,ws,p⟩).2):=by
 have HO:=Lib.hid hp.1.core
 have HTO:=Lib.hid hp.1.t
 have HB:=Lib.hid (show cl bk 56 #[ptr' kb]∈e.1 from hb)
 clear hp hb
 cases hc:(stW (x.slab.word k.t.slot) == 2 && genW (x.slab.word k.t.slot) == k.t.gen && x.slab.mine k.t.id) with
 | false =>
   rw [show runT .rec1 ⟨k,x,ws,p⟩=(.nil,⟨{ k with saw:=x.slab.word k.t.slot },x,ws,p⟩) by simp [runT,lookTu,hc]]
   unfold MRT
   obtain ⟨gd,gC,gW,gP,hd,hx,hw,hpp,rfl,rfl⟩:=hz
   intro w hw
   have T0:=TG.refl hw
   have HT:=Lib.hid T0
   clear hw T0
   have HT:=Lib.hid (HT.out.sum (H':=[turnB kb L.fb pv (sVal L k) k,gd,e.1,gC,gW,gP]))
   have HX:=Lib.hid hx
   have HD:=Lib.hid hd
   have HW:=Lib.hid hw
   have HPP:=Lib.hid hpp
   clear hx hd hw hpp
   have hlk:=turnLook (kb:=kb) (pv:=pv) (sv:=sVal L k) HX.out HO.out HTO.out 2
   rw [hc] at hlk
   have HLK:=Lib.hid hlk
   clear hlk hc
   have b0:=HT.out.mem_cell 2 HB.out 0
   have ltb:=HT.out.mem_lt 2 HB.out
   simp only [GE2] at b0 ltb
   go_enter Tryz.func297,Tryz.ntmps297
   go_wp2_with fail
   refine (DoesG.use (HLK.out) (HT.out.alloc (k:=w.heap.size) rfl _ _) [0,3] rfl rfl).mono ?_
   rintro e w1 ⟨gs,⟨rfl,g1,hx1,rfl⟩,Ta⟩
   simp only [PU] at Ta
   have HX:=Lib.hid hx1
   clear hx1 b0 ltb
   have HT:=Lib.hid Ta
   clear Ta
   have r0:=HT.out.cell 6 0 rfl 0
   have fr0:=HT.out.free 6 0 rfl 0
   have r1:=HT.out.cell 6 0 rfl 1
   have fr1:=HT.out.free 6 0 rfl 1
   simp only [GE4] at r0 r1
   go_wp2
   exact bodyPost_ret (v:=.agg #[_,_]) (by simp [results,Tryz.results297,go_sem,r0,r1]) rfl ⟨_,⟨e,leT.refl e,_,_,[],_,_,rfl,⟨rfl,rfl,rfl⟩,⟨gd,_,_,gP,HD.out,HX.out,HW.out,HPP.out,(rfl:turnB kb L.fb pv (sVal L k) { k with saw:=x.slab.word k.t.slot }++(gd++e.1)=_),rfl⟩,rfl⟩,(((HT.out.set 6 0 rfl 0 _).set 6 0 rfl 1 _).pick [0,1,2,3,4,5] rfl).sum2⟩
 | true =>
   rw [show runT .rec1 ⟨k,x,ws,p⟩=(.at none .rec11,⟨{ k with saw:=x.slab.word k.t.slot },x,ws,p⟩) by simp [runT,lookTu,hc]]
   unfold MRT
   obtain ⟨gd,gC,gW,gP,hd,hx,hw,hpp,rfl,rfl⟩:=hz
   intro w hw
   have T0:=TG.refl hw
   have HT:=Lib.hid T0
   clear hw T0
   have HT:=Lib.hid (HT.out.sum (H':=[turnB kb L.fb pv (sVal L k) k,gd,e.1,gC,gW,gP]))
   have HX:=Lib.hid hx
   have HD:=Lib.hid hd
   have HW:=Lib.hid hw
   have HPP:=Lib.hid hpp
   clear hx hd hw hpp
   have hlk:=turnLook (kb:=kb) (pv:=pv) (sv:=sVal L k) HX.out HO.out HTO.out 2
   rw [hc] at hlk
   have HLK:=Lib.hid hlk
   clear hlk hc
   have b0:=HT.out.mem_cell 2 HB.out 0
   have ltb:=HT.out.mem_lt 2 HB.out
   simp only [GE2] at b0 ltb
   go_enter Tryz.func297,Tryz.ntmps297
   go_wp2_with fail
   refine (DoesG.use (HLK.out) (HT.out.alloc (k:=w.heap.size) rfl _ _) [0,3] rfl rfl).mono ?_
   rintro e w1 ⟨gs,⟨rfl,g1,hx1,rfl⟩,Ta⟩
   simp only [PU] at Ta
   have HX:=Lib.hid hx1
   clear hx1 b0 ltb
   have HT:=Lib.hid Ta
   clear Ta
   go_wp2_with fail
   refine (DoesG.use (at_g _ _ _) (HT.out) [] rfl rfl).mono ?_
   rintro e w1 ⟨gs,⟨rfl,rfl⟩,Ta⟩
   simp only [PU] at Ta
   have HT:=Lib.hid Ta
   clear Ta
   have r0:=HT.out.cell 6 0 rfl 0
   have fr0:=HT.out.free 6 0 rfl 0
   have r1:=HT.out.cell 6 0 rfl 1
   have fr1:=HT.out.free 6 0 rfl 1
   simp only [GE4] at r0 r1
   go_wp2
   exact bodyPost_ret (v:=.agg #[_,_]) (by simp [results,Tryz.results297,go_sem,r0,r1]) rfl ⟨_,⟨e,leT.refl e,_,_,[],_,_,rfl,⟨rfl,rfl,⟨bk,rfl,HB.out⟩⟩,⟨gd,_,_,gP,HD.out,HX.out,HW.out,HPP.out,(rfl:turnB kb L.fb pv (sVal L k) { k with saw:=x.slab.word k.t.slot }++(gd++e.1)=_),rfl⟩,rfl⟩,(((HT.out.set 6 0 rfl 0 _).set 6 0 rfl 1 _).pick [0,1,2,3,4,5] rfl).sum2⟩
set_option maxRecDepth 100000 in
theorem tLooks (hz:repT L kb pv e ⟨k,x,ws,p⟩ gK gF) (hp:preT .looks ⟨k,x,ws,p⟩) :
 DoesG Tryz.prog 287 #[ptr' kb] [gK,gF] (MRT L kb pv e (runT .looks ⟨k,x,ws,p⟩).1 (runT .looks ⟨k,x,ws,p⟩).2):=by
 have HO:=Lib.hid hp.1.core
 have HTO:=Lib.hid hp.1.t
 clear hp
 cases hc:(stW (x.slab.word k.t.slot) == 3 && genW (x.slab.word k.t.slot) == k.t.gen && x.slab.mine k.t.id) with
 | false =>
   rw [show runT .looks ⟨k,x,ws,p⟩=(.nil,⟨{ k with saw:=x.slab.word k.t.slot },x,ws,p⟩) by simp [runT,lookTu,hc]]
   unfold MRT
   obtain ⟨gd,gC,gW,gP,hd,hx,hw,hpp,rfl,rfl⟩:=hz
   intro w hw
   have T0:=TG.refl hw
   have HT:=Lib.hid T0
   clear hw T0
   have HT:=Lib.hid (HT.out.sum (H':=[turnB kb L.fb pv (sVal L k) k,gd,e.1,gC,gW,gP]))
   have HX:=Lib.hid hx
   have HD:=Lib.hid hd
   have HW:=Lib.hid hw
   have HPP:=Lib.hid hpp
   clear hx hd hw hpp
   have hlk:=turnLook (kb:=kb) (pv:=pv) (sv:=sVal L k) HX.out HO.out HTO.out 3
   rw [hc] at hlk
   have HLK:=Lib.hid hlk
   clear hlk hc
   go_enter Tryz.func287,Tryz.ntmps287
   go_wp2_with fail
   refine (DoesG.use (HLK.out) (HT.out.alloc (k:=w.heap.size) rfl _ _) [0,3] rfl rfl).mono ?_
   rintro e w1 ⟨gs,⟨rfl,g1,hx1,rfl⟩,Ta⟩
   simp only [PU] at Ta
   have HX:=Lib.hid hx1
   clear hx1
   have HT:=Lib.hid Ta
   clear Ta
   have r0:=HT.out.cell 6 0 rfl 0
   have fr0:=HT.out.free 6 0 rfl 0
   have r1:=HT.out.cell 6 0 rfl 1
   have fr1:=HT.out.free 6 0 rfl 1
   simp only [GE4] at r0 r1
   go_wp2
   exact bodyPost_ret (v:=.agg #[_,_]) (by simp [results,Tryz.results287,go_sem,r0,r1]) rfl ⟨_,⟨e,leT.refl e,_,_,[],_,_,rfl,⟨rfl,rfl,rfl⟩,⟨gd,_,_,gP,HD.out,HX.out,HW.out,HPP.out,(rfl:turnB kb L.fb pv (sVal L k) { k with saw:=x.slab.word k.t.slot }++(gd++e.1)=_),rfl⟩,rfl⟩,(((HT.out.set 6 0 rfl 0 _).set 6 0 rfl 1 _).pick [0,1,2,3,4,5] rfl).sum2⟩
 | true =>
   rw [show runT .looks ⟨k,x,ws,p⟩=(.at none .claims,⟨{ k with saw:=x.slab.word k.t.slot },x,ws,p⟩) by simp [runT,lookTu,hc]]
   unfold MRT
   obtain ⟨gd,gC,gW,gP,hd,hx,hw,hpp,rfl,rfl⟩:=hz
   intro w hw
   have T0:=TG.refl hw
   have HT:=Lib.hid T0
   clear hw T0
   have HT:=Lib.hid (HT.out.sum (H':=[turnB kb L.fb pv (sVal L k) k,gd,e.1,gC,gW,gP]))
   have HX:=Lib.hid hx
   have HD:=Lib.hid hd
   have HW:=Lib.hid hw
   have HPP:=Lib.hid hpp
   clear hx hd hw hpp
   have hlk:=turnLook (kb:=kb) (pv:=pv) (sv:=sVal L k) HX.out HO.out HTO.out 3
   rw [hc] at hlk
   have HLK:=Lib.hid hlk
   clear hlk hc
   go_enter Tryz.func287,Tryz.ntmps287
   go_wp2_with fail
   refine (DoesG.use (HLK.out) (HT.out.alloc (k:=w.heap.size) rfl _ _) [0,3] rfl rfl).mono ?_
   rintro e w1 ⟨gs,⟨rfl,g1,hx1,rfl⟩,Ta⟩
   simp only [PU] at Ta
   have HX:=Lib.hid hx1
   clear hx1
   have HT:=Lib.hid Ta
   clear Ta
   go_wp2_with fail
   refine (DoesG.use (at_g _ _ _) (HT.out) [] rfl rfl).mono ?_
   rintro e w1 ⟨gs,⟨rfl,rfl⟩,Ta⟩
   simp only [PU] at Ta
   have HT:=Lib.hid Ta
   clear Ta
   have r0:=HT.out.cell 6 0 rfl 0
   have fr0:=HT.out.free 6 0 rfl 0
   have r1:=HT.out.cell 6 0 rfl 1
   have fr1:=HT.out.free 6 0 rfl 1
   simp only [GE4] at r0 r1
   go_wp2
   exact bodyPost_ret (v:=.agg #[_,_]) (by simp [results,Tryz.results287,go_sem,r0,r1]) rfl ⟨_,⟨e,leT.refl e,_,_,[],_,_,rfl,⟨rfl,rfl,rfl⟩,⟨gd,_,_,gP,HD.out,HX.out,HW.out,HPP.out,(rfl:turnB kb L.fb pv (sVal L k) { k with saw:=x.slab.word k.t.slot }++(gd++e.1)=_),rfl⟩,rfl⟩,(((HT.out.set 6 0 rfl 0 _).set 6 0 rfl 1 _).pick [0,1,2,3,4,5] rfl).sum2⟩
set_option maxRecDepth 100000 in
theorem tClaims2 (hz:repT L kb pv e ⟨k,x,ws,p⟩ gK gF) (bk:Nat) (hb:kBox kb bk e) :
 DoesG Tryz.prog 324 #[ptr' bk] [gK,gF] (MRT L kb pv e (runT .claims2 ⟨k,x,ws,p⟩).1 (runT .claims2 ⟨k,x,ws,p⟩).2):=by
 have HB:=Lib.hid (show cl bk 56 #[ptr' kb]∈e.1 from hb)
 clear hb
 rw [show runT .claims2 ⟨k,x,ws,p⟩=(.at none .behind,⟨k,x,ws,p⟩) from rfl]
 unfold MRT
 obtain ⟨gd,gC,gW,gP,hd,hx,hw,hpp,rfl,rfl⟩:=hz
 intro w hw
 have T0:=TG.refl hw
 have HT:=Lib.hid T0
 clear hw T0
 have HT:=Lib.hid (HT.out.sum (H':=[turnB kb L.fb pv (sVal L k) k,gd,e.1,gC,gW,gP]))
 have HX:=Lib.hid hx
 have HD:=Lib.hid hd
 have HW:=Lib.hid hw
 have HPP:=Lib.hid hpp
 clear hx hd hw hpp
 have b0:=HT.out.mem_cell 2 HB.out 0
 have ltb:=HT.out.mem_lt 2 HB.out
 simp only [GE2] at b0 ltb
 go_enter Tryz.func324,Tryz.ntmps324
 go_wp2_with fail
 refine (DoesG.use (at_g _ _ _) (HT.out.alloc (k:=w.heap.size) rfl _ _) [] rfl rfl).mono ?_
 rintro e w1 ⟨gs,⟨rfl,rfl⟩,Ta⟩
 simp only [PU] at Ta
 have HT:=Lib.hid Ta
 clear Ta
 have r0:=HT.out.cell 6 0 rfl 0
 have fr0:=HT.out.free 6 0 rfl 0
 have r1:=HT.out.cell 6 0 rfl 1
 have fr1:=HT.out.free 6 0 rfl 1
 simp only [GE4] at r0 r1
 go_wp2
 exact bodyPost_ret (v:=.agg #[_,_]) (by simp [results,Tryz.results324,go_sem,r0,r1]) rfl ⟨_,⟨e,leT.refl e,_,_,[],_,_,rfl,⟨rfl,rfl,rfl⟩,⟨gd,_,_,gP,HD.out,HX.out,HW.out,HPP.out,rfl,rfl⟩,rfl⟩,(((HT.out.set 6 0 rfl 0 _).set 6 0 rfl 1 _).pick [0,1,2,3,4,5] rfl).sum2⟩
set_option maxRecDepth 100000 in
set_option maxHeartbeats 4000000 in
theorem tRec11 (hz:repT L kb pv e ⟨k,x,ws,p⟩ gK gF) (hp:preT .rec11 ⟨k,x,ws,p⟩) (bk:Nat) (hb:kBox kb bk e) :
 DoesG Tryz.prog 299 #[ptr' bk] [gK,gF] (MRT L kb pv e (runT .rec11 ⟨k,x,ws,p⟩).1 (runT .rec11 ⟨k,x,ws,p⟩).2):=by
 obtain ⟨ho,hh,hs0⟩:=hp
 have HO:=Lib.hid ho.core
 have HSW:=Lib.hid (show 0≤k.saw∧k.saw<18446744073709551616 from ⟨ho.saw.1,ho.saw.2.1⟩)
 have HTR:=Lib.hid (show x.tr.length≤1000000 from ho.core.tr)
 have HDL:=Lib.hid (show 0≤k.t.dl∧k.t.dl<18446744073709551616 from ho.t.dl)
 have HS0:=Lib.hid (show 0≤k.t.slot from hs0)
 have HB:=Lib.hid (show cl bk 56 #[ptr' kb]∈e.1 from hb)
 cases hc:((x.slab.try k.t.slot k.saw 3).2.2 == 0) with
 | false =>
   rw [show runT .rec11 ⟨k,x,ws,p⟩=(receivesT ⟨k,x,ws,p⟩,⟨k,{ x with slab:=(x.slab.try k.t.slot k.saw 3).1 },ws,p⟩) by simp [runT,tryTu,hc,receivesT]]
   unfold MRT
   clear ho hh hs0 hb
   have hrc:=sReceives (L:=L) (kb:=kb) (pv:=pv) (sv:=sVal L k) (k:=k)
   rw [show (if k.t.slot<0 then St.nil else St.at none MT.rec1)=receivesT ⟨k,x,ws,p⟩ from rfl] at hrc
   generalize receivesT ⟨k,x,ws,p⟩=st at *
   obtain ⟨gd,gC,gW,gP,hd,hx,hw,hpp,rfl,rfl⟩:=hz
   intro w hw
   have T0:=TG.refl hw
   have HT:=Lib.hid T0
   clear hw T0
   have HT:=Lib.hid (HT.out.sum (H':=[turnB kb L.fb pv (sVal L k) k,gd,e.1,gC,gW,gP]))
   have HX:=Lib.hid hx
   have HD:=Lib.hid hd
   have HW:=Lib.hid hw
   have HPP:=Lib.hid hpp
   clear hx hd hw hpp
   have HRC:=Lib.hid hrc
   have hlk:=turnTry (kb:=kb) (pv:=pv) (sv:=sVal L k) HX.out HO.out HSW.out 3
   rw [hc] at hlk
   have HLK:=Lib.hid hlk
   clear hlk hc hrc
   have b0:=HT.out.mem_cell 2 HB.out 0
   have ltb:=HT.out.mem_lt 2 HB.out
   simp only [GE2] at b0 ltb
   go_enter Tryz.func299,Tryz.ntmps299
   go_wp2_with fail
   refine (DoesG.use (HLK.out) (HT.out.alloc (k:=w.heap.size) rfl _ _) [0,3] rfl rfl).mono ?_
   rintro e w1 ⟨gs,⟨rfl,g1,hx1,rfl⟩,Ta⟩
   simp only [PU] at Ta
   have HX:=Lib.hid hx1
   clear hx1 b0 ltb
   have HT:=Lib.hid Ta
   clear Ta
   have b0:=HT.out.mem_cell 2 HB.out 0
   simp only [GE2] at b0
   go_wp2_with fail
   refine (DoesG.use (HRC.out) (HT.out) [0] rfl rfl).mono ?_
   rintro e w1 ⟨gs,⟨g2,l2,⟨m2,d2,rfl,hs2⟩,rfl⟩,Ta⟩
   simp only [PU] at Ta
   clear b0
   have HT:=Lib.hid Ta
   clear Ta
   have r0:=HT.out.cell 6 0 rfl 0
   have fr0:=HT.out.free 6 0 rfl 0
   have r1:=HT.out.cell 6 0 rfl 1
   have fr1:=HT.out.free 6 0 rfl 1
   simp only [GE4] at r0 r1
   have hv2:=(cliT_vals L kb pv (l2,[])).vals (hs2 (l2,[]) (fun _ h=>h))
   obtain ⟨st1,st2⟩:=Cli.store_fv2 (P:=Tryz.prog) hv2.1 hv2.2 r0 fr0 r1 fr1
   have HS:=Lib.hid hs2
   clear hv2 hs2
   go_wp2
   exact bodyPost_ret (v:=.agg #[_,_]) (by simp [results,Tryz.results299,go_sem,r0,r1]) rfl ⟨_,⟨(e.1++l2,e.2),leT.app e l2,m2,d2,g2,_,_,rfl,HS.out _ (fun b hb=>List.mem_append_right _ hb),⟨gd,_,gW,gP,HD.out,HX.out,HW.out,HPP.out,rfl,rfl⟩,rfl⟩,(((HT.out.set 6 0 rfl 0 _).set 6 0 rfl 1 _).pick [0,8,1,2,7,3,4,5] rfl).sum2⟩
 | true =>
   obtain ⟨gd,gC,gW,gP,hd,hx,hw,hpp,hgK,hgF⟩:=hz
   obtain ⟨i,q,s,S,hki,hq,hs,hS,hsv,hsh,hss,hwh,hwo,hrb,ht0,ht1⟩:=turn_sh hx hw ho hh
   have hz2:runT .rec11 ⟨k,x,ws,p⟩=(.nil,⟨k,{ x with slab:=(x.slab.try k.t.slot k.saw 3).1,tr:=x.tr++[evT k { ev0 with kind:=4,id:=k.t.id,gen:=k.t.gen,dl:=armD S k.t }] },ws.set i (S.place (armE S k.t)),p⟩):=by
    have h1:(tryTu 3 ⟨k,x,ws,p⟩).2=true:=hc
    simp only [runT,h1,if_pos,armT,tryTu,ZT.note]
    rw [show ZT.sh ⟨k,{ x with slab:=(x.slab.try k.t.slot k.saw 3).1 },ws,p⟩=i from hsh,show ZT.wh ⟨k,{ x with slab:=(x.slab.try k.t.slot k.saw 3).1 },ws,p⟩=S from hwh]
    exact if_pos h1
   rw [hz2]
   have hz:repT L kb pv e ⟨k,x,ws,p⟩ gK gF:=⟨gd,gC,gW,gP,hd,hx,hw,hpp,hgK,hgF⟩
   clear hx hw hd hpp hgK hgF
   have har:∀ gC gW,isCore L { x with slab:=(x.slab.try k.t.slot k.saw 3).1 } gC→isWheels L ws gW→_:=fun gC gW hx hw=>turnArm (kb:=kb) (pv:=pv) (k:=k) hx hw hq hs hS hwo HS0.out HDL.out HTR.out
   have HSV:=Lib.hid hsv
   clear ho hh hs0 hb hz2 hki hq hs hS hsv hsh hss hwh hwo hrb ht0 ht1
   unfold MRT
   obtain ⟨gd,gC,gW,gP,hd,hx,hw,hpp,rfl,rfl⟩:=hz
   intro w hw
   have T0:=TG.refl hw
   have HT:=Lib.hid T0
   clear hw T0
   have HT:=Lib.hid (HT.out.sum (H':=[turnB kb L.fb pv (sVal L k) k,gd,e.1,gC,gW,gP]))
   have HX:=Lib.hid hx
   have HD:=Lib.hid hd
   have HW:=Lib.hid hw
   have HPP:=Lib.hid hpp
   clear hx hd hw hpp
   have HAR:=Lib.hid har
   have hlk:=turnTry (kb:=kb) (pv:=pv) (sv:=sVal L k) HX.out HO.out HSW.out 3
   rw [hc] at hlk
   rw [HSV.out] at hlk
   have HTo:=HT.out
   rw [HSV.out] at HTo
   have HT:=Lib.hid HTo
   have HLK:=Lib.hid hlk
   clear hlk hc har HTo
   generalize (x.slab.try k.t.slot k.saw 3).1=sl at *
   generalize S.place (armE S k.t)=S1 at *
   generalize armD S k.t=dl1 at *
   have b0:=HT.out.mem_cell 2 HB.out 0
   have ltb:=HT.out.mem_lt 2 HB.out
   simp only [GE2] at b0 ltb
   go_enter Tryz.func299,Tryz.ntmps299
   go_wp2_with fail
   refine (DoesG.use (HLK.out) (HT.out.alloc (k:=w.heap.size) rfl _ _) [0,3] rfl rfl).mono ?_
   rintro e w1 ⟨gs,⟨rfl,g1,hx1,rfl⟩,Ta⟩
   simp only [PU] at Ta
   have HX:=Lib.hid hx1
   clear hx1 b0 ltb
   have HT:=Lib.hid Ta
   clear Ta
   have b0:=HT.out.mem_cell 2 HB.out 0
   simp only [GE2] at b0
   go_wp2_with fail
   refine (DoesG.use (HAR.out _ _ HX.out HW.out) (HT.out) [0,3,4] rfl rfl).mono ?_
   rintro e w1 ⟨gs,⟨rfl,g2,gW2,hx2,hw2,rfl⟩,Ta⟩
   simp only [PU] at Ta
   have HX:=Lib.hid hx2
   have HW:=Lib.hid hw2
   clear hx2 hw2 b0
   have HT:=Lib.hid Ta
   clear Ta
   have r0:=HT.out.cell 6 0 rfl 0
   have fr0:=HT.out.free 6 0 rfl 0
   have r1:=HT.out.cell 6 0 rfl 1
   have fr1:=HT.out.free 6 0 rfl 1
   simp only [GE4] at r0 r1
   go_wp2
   have HF:=(((HT.out.set 6 0 rfl 0 .nilFunc).set 6 0 rfl 1 .nilFunc).pick [0,1,2,3,4,5] rfl)
   rw [← HSV.out] at HF
   exact bodyPost_ret (v:=.agg #[_,_]) (by simp [results,Tryz.results299,go_sem,r0,r1]) rfl ⟨_,⟨e,leT.refl e,_,_,[],_,_,rfl,⟨rfl,rfl,rfl⟩,⟨gd,_,_,gP,HD.out,HX.out,HW.out,HPP.out,rfl,rfl⟩,rfl⟩,HF.sum2⟩
end
end
section
open Go.RowKit Go.Shelf
theorem firesT_eq (d i:Nat) (k:TurnS) (x:CoreS) (ws:List WheelS) (p:PipeS) :
 ∃ st k',firesT d i ⟨k,x,ws,p⟩=(st,⟨k',x,ws,p⟩)∧k'.s=k.s∧k'.nd=k.nd∧k'.due=k.due:=by
 unfold firesT
 split
 ·exact ⟨_,_,rfl,rfl,rfl,rfl⟩
 ·exact ⟨_,_,rfl,rfl,rfl,rfl⟩
theorem isDue.of {ds:List Nat} {k k':TurnS} {g:List Blk} (h:isDue ds k g) (h1:k'.nd=k.nd) (h2:k'.due=k.due):isDue ds k' g:=by
 unfold isDue at *
 rw [h1,h2]
 exact h
theorem sVal.of {L:Lay} {k k':TurnS} (h:k'.s=k.s):sVal L k'=sVal L k:=by
 unfold sVal;rw [h]
section
variable {L:Lay} {x:CoreS} {ws:List WheelS} {p:PipeS} {e:ET} {g gC gK gF:List Blk} {kb:Nat} {pv sv:Value} {k:TurnS}
set_option maxRecDepth 100000 in
set_option maxHeartbeats 4000000 in
theorem tFires1 (d i:Nat) (hz:repT L kb pv e ⟨k,x,ws,p⟩ gK gF) (hp:preT (.fires1 d i) ⟨k,x,ws,p⟩) (bk bp bi bd:Nat) (hb:kBox kb bk e) (hbd:e.2[d]?=some bd)
 (hbp:cl bp 347 #[ptr' bd]∈e.1) (hbi:cl bi 3 #[.int .i64 i]∈e.1) :
 DoesG Tryz.prog 288 #[ptr' bk,ptr' bp,ptr' bi] [gK,gF] (MRT L kb pv e (runT (.fires1 d i) ⟨k,x,ws,p⟩).1 (runT (.fires1 d i) ⟨k,x,ws,p⟩).2):=by
 have hc:k.nd=d+1:=hp.2.2.1
 have hi:i≤1000000:=hp.2.2.2
 clear hp
 obtain ⟨gd,gC,gW,gP,hd,hx,hw,hpp,rfl,rfl⟩:=hz
 obtain ⟨v,gr,hr,rfl⟩:=due_cur hd hc hbd
 have hfi:=sFires (L:=L) (x:=x) (ws:=ws) (p:=p) (kb:=kb) (pv:=pv) (sv:=sVal L k) (k:=k) d bd (i+1) v gr hr (by omega)
 unfold FiR at hfi
 rw [show runT (.fires1 d i) ⟨k,x,ws,p⟩=firesT d (i+1) ⟨k,x,ws,p⟩ from rfl]
 obtain ⟨st,k',he,hks,hknd,hkdu⟩:=firesT_eq d (i+1) k x ws p
 rw [he] at hfi ⊢
 dsimp only at hfi ⊢
 rw [show (((i+1:Nat):Int))=(i:Int)+1 by omega,← sVal.of (L:=L) hks] at hfi
 have hd':=hd.of hknd hkdu
 unfold MRT
 rw [← sVal.of (L:=L) hks]
 intro w hw
 have T0:=TG.refl hw
 have HT:=Lib.hid T0
 clear hw T0
 have HFI:=Lib.hid hfi
 have HT:=Lib.hid (HT.out.sum (H':=[turnB kb L.fb pv (sVal L k') k,[cl bd 343 #[v]],gr,e.1,gC,gW,gP]))
 have HX:=Lib.hid hx
 have HD:=Lib.hid hd'
 have HW:=Lib.hid hw
 have HPP:=Lib.hid hpp
 have HBD:=Lib.hid hbd
 have b0:=HT.out.mem_cell 3 hb 0
 have p0:=HT.out.mem_cell 3 hbp 0
 have i0:=HT.out.mem_cell 3 hbi 0
 have ltb:=HT.out.mem_lt 3 hb
 have ltp:=HT.out.mem_lt 3 hbp
 have lti:=HT.out.mem_lt 3 hbi
 simp only [GE2] at b0 ltb p0 ltp i0 lti
 clear hx hd hw hpp hfi hr hc hb hbp hbi hbd hd' he hks hknd hkdu
 go_enter Tryz.func288,Tryz.ntmps288
 go_wp2_with fail
 refine (DoesG.use (HFI.out) (HT.out.alloc (k:=w.heap.size) rfl _ _) [0,1,2] rfl rfl).mono ?_
 rintro e w1 ⟨gs,⟨g2,l2,m2,d2,rfl,hs2,rfl⟩,Ta⟩
 simp only [PU] at Ta
 clear b0 ltb p0 ltp i0 lti
 have HT:=Lib.hid Ta
 clear Ta
 have HS:=Lib.hid (hs2 (e.1++l2,e.2) (fun b hb=>List.mem_append_right _ hb) HBD.out)
 have HT:=Lib.hid (HT.out.sum2 (H':=[turnB kb L.fb pv (sVal L k') k',[cl bd 343 #[v]]++gr,e.1,gC,gW,gP,[cl w.heap.size 148 #[.nilFunc,.nilFunc]],l2,g2]))
 clear hs2
 have r0:=HT.out.cell 6 0 rfl 0
 have fr0:=HT.out.free 6 0 rfl 0
 have r1:=HT.out.cell 6 0 rfl 1
 have fr1:=HT.out.free 6 0 rfl 1
 simp only [GE4] at r0 r1
 have hv2:=(cliT_vals L kb pv _).vals HS.out
 obtain ⟨st1,st2⟩:=Cli.store_fv2 (P:=Tryz.prog) hv2.1 hv2.2 r0 fr0 r1 fr1
 clear hv2
 go_wp2
 exact bodyPost_ret (v:=.agg #[_,_]) (by simp [results,Tryz.results288,go_sem,r0,r1]) rfl ⟨_,⟨(e.1++l2,e.2),leT.app e l2,_,_,g2,_,_,rfl,HS.out,⟨_,gC,gW,gP,HD.out,HX.out,HW.out,HPP.out,rfl,rfl⟩,rfl⟩,(((HT.out.set 6 0 rfl 0 _).set 6 0 rfl 1 _).pick [8,0,1,2,7,3,4,5] rfl).sum2⟩
set_option maxRecDepth 100000 in
set_option maxHeartbeats 4000000 in
theorem sRearms (next:Int) (hz:repT L kb pv e ⟨k,x,ws,p⟩ gK gF) (hp:preT (.rearm1 next) ⟨k,x,ws,p⟩) :
 DoesG Tryz.prog 338 #[ptr' kb,.int .u64 next] [gK,gF] (MRT L kb pv e (runT (.rearm1 next) ⟨k,x,ws,p⟩).1 (runT (.rearm1 next) ⟨k,x,ws,p⟩).2):=by
 obtain ⟨ho,hh,hs0,hn0,hn1⟩:=hp
 have HO:=Lib.hid ho.core
 have HSW:=Lib.hid (show 0≤k.saw∧k.saw<18446744073709551616 from ⟨ho.saw.1,ho.saw.2.1⟩)
 have HTR:=Lib.hid (show x.tr.length≤1000000 from ho.core.tr)
 have HS0:=Lib.hid (show 0≤k.t.slot from hs0)
 have HN:=Lib.hid (And.intro hn0 hn1)
 have hg0:0≤k.t.gen:=ho.t.gen.1
 have hg1:k.t.gen≤4294967296:=ho.t.gen.2
 cases hc:((x.slab.try k.t.slot k.saw 5).2.2 == 0) with
 | false =>
   rw [show runT (.rearm1 next) ⟨k,x,ws,p⟩=(.at none .behind,⟨k,{ x with slab:=(x.slab.try k.t.slot k.saw 5).1 },ws,p⟩) by simp [runT,tryTu,hc]]
   unfold MRT
   clear ho hh hs0 hn0 hn1 hg0 hg1
   obtain ⟨gd,gC,gW,gP,hd,hx,hw,hpp,rfl,rfl⟩:=hz
   intro w hw
   have T0:=TG.refl hw
   have HT:=Lib.hid T0
   clear hw T0
   have HT:=Lib.hid (HT.out.sum (H':=[turnB kb L.fb pv (sVal L k) k,gd,e.1,gC,gW,gP]))
   have HX:=Lib.hid hx
   have HD:=Lib.hid hd
   have HW:=Lib.hid hw
   have HPP:=Lib.hid hpp
   clear hx hd hw hpp
   have hlk:=turnTry (kb:=kb) (pv:=pv) (sv:=sVal L k) HX.out HO.out HSW.out 5
   rw [hc] at hlk
   have HLK:=Lib.hid hlk
   clear hlk hc
   go_enter Tryz.func338,Tryz.ntmps338
   go_wp2_with fail
   refine (DoesG.use (HLK.out) (HT.out.alloc (k:=w.heap.size) rfl _ _) [0,3] rfl rfl).mono ?_
   rintro e w1 ⟨gs,⟨rfl,g1,hx1,rfl⟩,Ta⟩
   simp only [PU] at Ta
   have HX:=Lib.hid hx1
   clear hx1
   have HT:=Lib.hid Ta
   clear Ta
   go_wp2_with fail
   refine (DoesG.use (at_g _ _ _) (HT.out) [] rfl rfl).mono ?_
   rintro e w1 ⟨gs,⟨rfl,rfl⟩,Ta⟩
   simp only [PU] at Ta
   have HT:=Lib.hid Ta
   clear Ta
   have r0:=HT.out.cell 6 0 rfl 0
   have fr0:=HT.out.free 6 0 rfl 0
   have r1:=HT.out.cell 6 0 rfl 1
   have fr1:=HT.out.free 6 0 rfl 1
   simp only [GE4] at r0 r1
   go_wp2
   exact bodyPost_ret (v:=.agg #[_,_]) (by simp [results,Tryz.results338,go_sem,r0,r1]) rfl ⟨_,⟨e,leT.refl e,_,_,[],_,_,rfl,⟨rfl,rfl,rfl⟩,⟨gd,_,_,gP,HD.out,HX.out,HW.out,HPP.out,(rfl:turnB kb L.fb pv (sVal L k) k++(gd++e.1)=_),rfl⟩,rfl⟩,(((HT.out.set 6 0 rfl 0 _).set 6 0 rfl 1 _).pick [0,1,2,3,4,5] rfl).sum2⟩
 | true =>
   obtain ⟨gd,gC,gW,gP,hd,hx,hw,hpp,hgK,hgF⟩:=hz
   obtain ⟨i,q,s,S,hki,hq,hs,hS,hsv,hsh,hss,hwh,hwo,hrb,ht0,ht1⟩:=turn_sh hx hw ho hh
   have hz2:runT (.rearm1 next) ⟨k,x,ws,p⟩=(.nil,⟨{ k with t:={ k.t with gen:=k.t.gen+1,dl:=next } },{ x with slab:=(x.slab.try k.t.slot k.saw 5).1,tr:=x.tr++[evT k { ev0 with kind:=4,id:=k.t.id,gen:=k.t.gen+1,dl:=armD S { k.t with gen:=k.t.gen+1,dl:=next } }] },ws.set i (S.place (armE S { k.t with gen:=k.t.gen+1,dl:=next })),p⟩):=by
    have h1:(tryTu 5 ⟨k,x,ws,p⟩).2=true:=hc
    simp only [runT,h1,if_pos,armT,tryTu,ZT.note]
    rw [show ZT.sh ⟨{ k with t:={ k.t with gen:=k.t.gen+1,dl:=next } },{ x with slab:=(x.slab.try k.t.slot k.saw 5).1 },ws,p⟩=i from hsh,show ZT.wh ⟨{ k with t:={ k.t with gen:=k.t.gen+1,dl:=next } },{ x with slab:=(x.slab.try k.t.slot k.saw 5).1 },ws,p⟩=S from hwh]
    exact if_pos h1
   rw [hz2]
   have hz:repT L kb pv e ⟨k,x,ws,p⟩ gK gF:=⟨gd,gC,gW,gP,hd,hx,hw,hpp,hgK,hgF⟩
   clear hx hw hd hpp hgK hgF
   have har:∀ gC gW,isCore L { x with slab:=(x.slab.try k.t.slot k.saw 5).1 } gC→isWheels L ws gW→_:=fun gC gW hx hw=>turnArm (kb:=kb) (pv:=pv) (k:={ k with t:={ k.t with gen:=k.t.gen+1,dl:=next } }) hx hw hq hs hS hwo HS0.out HN.out HTR.out
   have HSV:=Lib.hid hsv
   clear ho hh hs0 hz2 hki hq hs hS hsv hsh hss hwh hwo hrb ht0 ht1
   unfold MRT
   obtain ⟨gd,gC,gW,gP,hd,hx,hw,hpp,rfl,rfl⟩:=hz
   intro w hw
   have T0:=TG.refl hw
   have HT:=Lib.hid T0
   clear hw T0
   have HT:=Lib.hid (HT.out.sum (H':=[turnB kb L.fb pv (sVal L k) k,gd,e.1,gC,gW,gP]))
   have HX:=Lib.hid hx
   have HD:=Lib.hid hd
   have HW:=Lib.hid hw
   have HPP:=Lib.hid hpp
   clear hx hd hw hpp
   have HAR:=Lib.hid har
   have hlk:=turnTry (kb:=kb) (pv:=pv) (sv:=sVal L k) HX.out HO.out HSW.out 5
   rw [hc] at hlk
   rw [HSV.out] at hlk
   have HTo:=HT.out
   rw [HSV.out] at HTo
   have HT:=Lib.hid HTo
   have HLK:=Lib.hid hlk
   clear hlk hc har HTo
   generalize (x.slab.try k.t.slot k.saw 5).1=sl at *
   generalize S.place (armE S { k.t with gen:=k.t.gen+1,dl:=next })=S1 at *
   generalize armD S { k.t with gen:=k.t.gen+1,dl:=next }=dl1 at *
   go_enter Tryz.func338,Tryz.ntmps338
   go_wp2_with fail
   refine (DoesG.use (HLK.out) (HT.out.alloc (k:=w.heap.size) rfl _ _) [0,3] rfl rfl).mono ?_
   rintro e w1 ⟨gs,⟨rfl,g1,hx1,rfl⟩,Ta⟩
   simp only [PU] at Ta
   have HX:=Lib.hid hx1
   clear hx1
   have HT:=Lib.hid Ta
   clear Ta
   have k13:=HT.out.cell 0 0 rfl 13
   have fk13:=HT.out.free 0 0 rfl 13
   have k14:=HT.out.cell 0 0 rfl 14
   have fk14:=HT.out.free 0 0 rfl 14
   simp only [turnC,GE3] at k13 k14
   go_wp2_with fail
   refine (DoesG.use (HAR.out _ _ HX.out HW.out) (((HT.out.set 0 0 rfl 13 (.int .u64 (k.t.gen+1))).set 0 0 rfl 14 (.int .u64 next)).eq (H':=[turnB kb L.fb pv (ptr' q.b) { k with t:={ k.t with gen:=k.t.gen+1,dl:=next } },gd,e.1,g1,gW,gP,[cl w.heap.size 148 #[.nilFunc,.nilFunc]]]) rfl) [0,3,4] rfl rfl).mono ?_
   rintro e w1 ⟨gs,⟨rfl,g2,gW2,hx2,hw2,rfl⟩,Ta⟩
   simp only [PU] at Ta
   have HX:=Lib.hid hx2
   have HW:=Lib.hid hw2
   clear hx2 hw2 k13 k14 fk13 fk14
   have HT:=Lib.hid Ta
   clear Ta
   have r0:=HT.out.cell 6 0 rfl 0
   have fr0:=HT.out.free 6 0 rfl 0
   have r1:=HT.out.cell 6 0 rfl 1
   have fr1:=HT.out.free 6 0 rfl 1
   simp only [GE4] at r0 r1
   go_wp2
   have HF:=(((HT.out.set 6 0 rfl 0 .nilFunc).set 6 0 rfl 1 .nilFunc).pick [0,1,2,3,4,5] rfl)
   rw [← HSV.out] at HF
   exact bodyPost_ret (v:=.agg #[_,_]) (by simp [results,Tryz.results338,go_sem,r0,r1]) rfl ⟨_,⟨e,leT.refl e,_,_,[],_,_,rfl,⟨rfl,rfl,rfl⟩,⟨gd,_,_,gP,HD.out,HX.out,HW.out,HPP.out,(rfl:turnB kb L.fb pv (sVal L k) { k with t:={ k.t with gen:=k.t.gen+1,dl:=next } }++(gd++e.1)=_),rfl⟩,rfl⟩,HF.sum2⟩
set_option maxRecDepth 100000 in
set_option maxHeartbeats 4000000 in
theorem tRearm1 (next:Int) (hz:repT L kb pv e ⟨k,x,ws,p⟩ gK gF) (hp:preT (.rearm1 next) ⟨k,x,ws,p⟩) (bk bn:Nat) (hb:kBox kb bk e) (hbn:cl bn 36 #[.int .u64 next]∈e.1) :
 DoesG Tryz.prog 337 #[ptr' bk,ptr' bn] [gK,gF] (MRT L kb pv e (runT (.rearm1 next) ⟨k,x,ws,p⟩).1 (runT (.rearm1 next) ⟨k,x,ws,p⟩).2):=by
 have hre:=sRearms next hz hp
 generalize (runT (.rearm1 next) ⟨k,x,ws,p⟩).1=st at *
 generalize (runT (.rearm1 next) ⟨k,x,ws,p⟩).2=z2 at *
 obtain ⟨gd,gC,gW,gP,hd,hx,hw,hpp,rfl,rfl⟩:=hz
 clear hd hx hw hpp hp
 unfold MRT at *
 intro w hw
 have T0:=TG.refl hw
 have HT:=Lib.hid T0
 clear hw T0
 have HRE:=Lib.hid hre
 have h1:∀ b,b∈e.1→b∈turnB kb L.fb pv (sVal L k) k++(gd++e.1):=fun b hb=>List.mem_append_right _ (List.mem_append_right _ hb)
 have b0:=HT.out.mem_cell 0 (h1 _ hb) 0
 have n0:=HT.out.mem_cell 0 (h1 _ hbn) 0
 have ltb:=HT.out.mem_lt 0 (h1 _ hb)
 have ltn:=HT.out.mem_lt 0 (h1 _ hbn)
 simp only [GE2] at b0 ltb n0 ltn
 clear hre h1 hb hbn
 go_enter Tryz.func337,Tryz.ntmps337
 go_wp2_with fail
 refine (DoesG.use (HRE.out) (HT.out.alloc (k:=w.heap.size) rfl _ _) [0,1] rfl rfl).mono ?_
 rintro e w1 ⟨gs,⟨e2,hl2,m3,d3,g3,gK3,gF3,rfl,hs3,hz3,rfl⟩,Ta⟩
 simp only [PU] at Ta
 have HL2:=Lib.hid hl2
 have HZ3:=Lib.hid hz3
 clear hl2 hz3 b0 n0 ltb ltn
 have HT:=Lib.hid Ta
 clear Ta
 have r0:=HT.out.cell 2 0 rfl 0
 have fr0:=HT.out.free 2 0 rfl 0
 have r1:=HT.out.cell 2 0 rfl 1
 have fr1:=HT.out.free 2 0 rfl 1
 simp only [GE4] at r0 r1
 have hv2:=(cliT_vals L kb pv e2).vals hs3
 obtain ⟨st1,st2⟩:=Cli.store_fv2 (P:=Tryz.prog) hv2.1 hv2.2 r0 fr0 r1 fr1
 have HS:=Lib.hid hs3
 clear hv2 hs3
 go_wp2
 exact bodyPost_ret (v:=.agg #[_,_]) (by simp [results,Tryz.results337,go_sem,r0,r1]) rfl ⟨_,⟨e2,HL2.out,m3,d3,g3,gK3,gF3,rfl,HS.out,HZ3.out,rfl⟩,((HT.out.set 2 0 rfl 0 _).set 2 0 rfl 1 _).pick [0,1,3] rfl⟩
end
end
section
open Go.RowKit Go.Shelf
section
variable {L:Lay} {x:CoreS} {ws:List WheelS} {p:PipeS} {e:ET} {g gC gK gF:List Blk} {kb:Nat} {pv sv:Value} {k:TurnS}
set_option maxRecDepth 100000 in
set_option maxHeartbeats 4000000 in
theorem tFinishes (hz:repT L kb pv e ⟨k,x,ws,p⟩ gK gF) (hp:preT .finishes ⟨k,x,ws,p⟩) :
 DoesG Tryz.prog 339 #[ptr' kb] [gK,gF] (MRT L kb pv e (runT .finishes ⟨k,x,ws,p⟩).1 (runT .finishes ⟨k,x,ws,p⟩).2):=by
 obtain ⟨ho,_⟩:=hp
 have HO:=Lib.hid ho.core
 have HSW:=Lib.hid (show 0≤k.saw∧k.saw<18446744073709551616 from ⟨ho.saw.1,ho.saw.2.1⟩)
 have HTR:=Lib.hid (show x.tr.length≤1000000 from ho.core.tr)
 have HPE:=Lib.hid (show 0≤k.t.per∧k.t.per<18446744073709551616 from ho.t.per)
 clear ho
 cases hc:((x.slab.try k.t.slot k.saw 9).2.2 == 0) with
 | false =>
   rw [show runT .finishes ⟨k,x,ws,p⟩=(.at none .behind,⟨k,{ x with slab:=(x.slab.try k.t.slot k.saw 9).1 },ws,p⟩) by simp [runT,tryTu,hc]]
   unfold MRT
   obtain ⟨gd,gC,gW,gP,hd,hx,hw,hpp,rfl,rfl⟩:=hz
   intro w hw
   have T0:=TG.refl hw
   have HT:=Lib.hid T0
   clear hw T0
   have HT:=Lib.hid (HT.out.sum (H':=[turnB kb L.fb pv (sVal L k) k,gd,e.1,gC,gW,gP]))
   have HX:=Lib.hid hx
   have HD:=Lib.hid hd
   have HW:=Lib.hid hw
   have HPP:=Lib.hid hpp
   clear hx hd hw hpp
   have hlk:=turnTry (kb:=kb) (pv:=pv) (sv:=sVal L k) HX.out HO.out HSW.out 9
   rw [hc] at hlk
   have HLK:=Lib.hid hlk
   clear hlk hc
   generalize (x.slab.try k.t.slot k.saw 9).1=sl at *
   go_enter Tryz.func339,Tryz.ntmps339
   go_wp2_with fail
   refine (DoesG.use (HLK.out) ((HT.out.alloc (k:=w.heap.size) rfl 56 #[ptr' kb]).alloc (k:=w.heap.size+1) (by simp) 148 #[.nilFunc,.nilFunc]) [0,3] rfl rfl).mono ?_
   rintro e w1 ⟨gs,⟨rfl,g1,hx1,rfl⟩,Ta⟩
   simp only [PU] at Ta
   have HX:=Lib.hid hx1
   clear hx1
   have HT:=Lib.hid Ta
   clear Ta
   have b0:=HT.out.cell 6 0 rfl 0
   simp only [GE4] at b0
   go_wp2_with fail
   refine (DoesG.use (at_g _ _ _) (HT.out) [] rfl rfl).mono ?_
   rintro e w1 ⟨gs,⟨rfl,rfl⟩,Ta⟩
   simp only [PU] at Ta
   have HT:=Lib.hid Ta
   clear Ta
   have r0:=HT.out.cell 7 0 rfl 0
   have fr0:=HT.out.free 7 0 rfl 0
   have r1:=HT.out.cell 7 0 rfl 1
   have fr1:=HT.out.free 7 0 rfl 1
   simp only [GE4] at r0 r1
   go_wp2
   exact bodyPost_ret (v:=.agg #[_,_]) (by simp [results,Tryz.results339,go_sem,r0,r1]) rfl ⟨_,⟨e,leT.refl e,_,_,[],_,_,rfl,⟨rfl,rfl,rfl⟩,⟨gd,_,_,gP,HD.out,HX.out,HW.out,HPP.out,(rfl:turnB kb L.fb pv (sVal L k) k++(gd++e.1)=_),rfl⟩,rfl⟩,(((HT.out.set 7 0 rfl 0 _).set 7 0 rfl 1 _).pick [0,1,2,3,4,5] rfl).sum2⟩
 | true =>
   have hz2:runT .finishes ⟨k,x,ws,p⟩=(.row2 .rel .drop,if 0<k.t.per∧lastW k.saw=false then ⟨k,{ x with slab:=(x.slab.try k.t.slot k.saw 9).1,tr:=x.tr++[evT k { ev0 with kind:=14,id:=k.t.id,gen:=k.t.gen }] },ws,p⟩ else ⟨k,{ x with slab:=(x.slab.try k.t.slot k.saw 9).1 },ws,p⟩):=by
    have h1:(tryTu 9 ⟨k,x,ws,p⟩).2=true:=hc
    simp only [runT,tryTu,ZT.note]
    exact if_pos h1
   rw [hz2]
   clear hz2
   have HLS:=Lib.hid (lastR k.saw HSW.out.1 HSW.out.2)
   have HNT:=Lib.hid (show ∀ g,isCore L { x with slab:=(x.slab.try k.t.slot k.saw 9).1 } g→_ from fun g hg=>turnNote (kb:=kb) (pv:=pv) (sv:=sVal L k) (k:=k) (gC:=g) hg { ev0 with kind:=14,id:=k.t.id,gen:=k.t.gen } HTR.out)
   by_cases hper:0<k.t.per
   ·cases hl:lastW k.saw with
    | false =>
      rw [if_pos ⟨hper,rfl⟩]
      rw [hl] at HLS
      clear hl HPE
      unfold MRT
      obtain ⟨gd,gC,gW,gP,hd,hx,hw,hpp,rfl,rfl⟩:=hz
      intro w hw
      have T0:=TG.refl hw
      have HT:=Lib.hid T0
      clear hw T0
      have HT:=Lib.hid (HT.out.sum (H':=[turnB kb L.fb pv (sVal L k) k,gd,e.1,gC,gW,gP]))
      have HX:=Lib.hid hx
      have HD:=Lib.hid hd
      have HW:=Lib.hid hw
      have HPP:=Lib.hid hpp
      clear hx hd hw hpp
      have hlk:=turnTry (kb:=kb) (pv:=pv) (sv:=sVal L k) HX.out HO.out HSW.out 9
      rw [hc] at hlk
      have HLK:=Lib.hid hlk
      clear hlk hc
      generalize (x.slab.try k.t.slot k.saw 9).1=sl at *
      go_enter Tryz.func339,Tryz.ntmps339
      go_wp2_with fail
      refine (DoesG.use (HLK.out) ((HT.out.alloc (k:=w.heap.size) rfl 56 #[ptr' kb]).alloc (k:=w.heap.size+1) (by simp) 148 #[.nilFunc,.nilFunc]) [0,3] rfl rfl).mono ?_
      rintro e w1 ⟨gs,⟨rfl,g1,hx1,rfl⟩,Ta⟩
      simp only [PU] at Ta
      have HX:=Lib.hid hx1
      clear hx1
      have HT:=Lib.hid Ta
      clear Ta
      have b0:=HT.out.cell 6 0 rfl 0
      simp only [GE4] at b0
      have k15:=HT.out.cell 0 0 rfl 15
      have k16:=HT.out.cell 0 0 rfl 16
      simp only [turnC,GE3] at k15 k16
      go_wp2_with fail
      refine (ReadsG.use (HLS.out) (HT.out) [] rfl rfl).mono ?_
      rintro e w1 ⟨rfl,mq,rfl⟩
      have HT:=Lib.hid (HT.out.drewN mq)
      generalize World.drewN _ _=wq at HT ⊢
      clear b0 k15 k16 hper
      have b0:=HT.out.cell 6 0 rfl 0
      simp only [GE4] at b0
      have k11:=HT.out.cell 0 0 rfl 11
      have k13:=HT.out.cell 0 0 rfl 13
      simp only [turnC,GE3] at k11 k13
      go_wp2_with fail
      refine wp_region_mix1 12 (by kernel_rfl) (by kernel_rfl) ?_
      simp only [TD4]
      repeat (go_big_quiet_step ((fail)))
      refine wpQuiet_nil ?_
      intro _ hw'
      obtain ⟨nq,hw''⟩:=hw'
      subst hw''
      have HT:=Lib.hid (HT.out.drewN nq)
      have hnt:=HNT.out _ HX.out
      simp only [EvS.cells,ev0] at hnt
      go_wp2_with fail
      refine (DoesG.use (hnt) (HT.out) [0,3] rfl rfl).mono ?_
      rintro e w1 ⟨gs,⟨rfl,g2,hx2,rfl⟩,Ta⟩
      simp only [PU] at Ta
      have HX:=Lib.hid hx2
      clear hx2 b0 k11 k13
      have HT:=Lib.hid Ta
      clear Ta
      go_wp2_with fail
      refine ⟨rfl,?_⟩
      obtain ⟨wz,rfl⟩:∃ wz,wz=w1:=⟨_,rfl⟩
      go_wp2_with fail
      refine (DoesG.use (Cli.row_1 (b:=wz.heap.size) (o:=0) (D:=#[.func (.func 342) #[] #[ptr' w.heap.size],.func (.func 343) #[] #[ptr' w.heap.size]]) rfl 2 (.inr rfl)) (HT.out.alloc (k:=wz.heap.size) rfl _ _) [8] rfl rfl).mono ?_
      rintro e w1 ⟨gs,⟨bf,bl,bi,rfl,rfl⟩,Ta⟩
      simp only [PU] at Ta
      have HT:=Lib.hid Ta
      clear Ta
      have r0:=HT.out.cell 7 0 rfl 0
      have fr0:=HT.out.free 7 0 rfl 0
      have r1:=HT.out.cell 7 0 rfl 1
      have fr1:=HT.out.free 7 0 rfl 1
      simp only [GE4] at r0 r1
      go_wp2
      exact bodyPost_ret (v:=.agg #[.nilFunc,_]) (by simp [results,Tryz.results339,go_sem,r0,r1]) rfl ⟨_,⟨(e.1++[cl w.heap.size 56 #[ptr' kb]],e.2),leT.app e _,_,_,_,_,_,rfl,⟨rfl,bf,bl,bi,wz.heap.size,.func (.func 342) #[] #[ptr' w.heap.size],.func (.func 343) #[] #[ptr' w.heap.size],[],[],rfl,⟨rfl,w.heap.size,rfl,List.mem_append_right _ (List.mem_cons_self ..)⟩,⟨rfl,w.heap.size,rfl,List.mem_append_right _ (List.mem_cons_self ..)⟩,rfl⟩,⟨gd,_,_,gP,HD.out,HX.out,HW.out,HPP.out,(rfl:turnB kb L.fb pv (sVal L k) k++(gd++(e.1++[cl w.heap.size 56 #[ptr' kb]]))=_),rfl⟩,rfl⟩,(((HT.out.set 7 0 rfl 0 _).set 7 0 rfl 1 _).pick [9,10,11,8,0,1,2,6,3,4,5] rfl).sum2⟩
    | true =>
      rw [if_neg (by simp)]
      rw [hl] at HLS
      clear hl HPE HNT
      unfold MRT
      obtain ⟨gd,gC,gW,gP,hd,hx,hw,hpp,rfl,rfl⟩:=hz
      intro w hw
      have T0:=TG.refl hw
      have HT:=Lib.hid T0
      clear hw T0
      have HT:=Lib.hid (HT.out.sum (H':=[turnB kb L.fb pv (sVal L k) k,gd,e.1,gC,gW,gP]))
      have HX:=Lib.hid hx
      have HD:=Lib.hid hd
      have HW:=Lib.hid hw
      have HPP:=Lib.hid hpp
      clear hx hd hw hpp
      have hlk:=turnTry (kb:=kb) (pv:=pv) (sv:=sVal L k) HX.out HO.out HSW.out 9
      rw [hc] at hlk
      have HLK:=Lib.hid hlk
      clear hlk hc
      generalize (x.slab.try k.t.slot k.saw 9).1=sl at *
      go_enter Tryz.func339,Tryz.ntmps339
      go_wp2_with fail
      refine (DoesG.use (HLK.out) ((HT.out.alloc (k:=w.heap.size) rfl 56 #[ptr' kb]).alloc (k:=w.heap.size+1) (by simp) 148 #[.nilFunc,.nilFunc]) [0,3] rfl rfl).mono ?_
      rintro e w1 ⟨gs,⟨rfl,g1,hx1,rfl⟩,Ta⟩
      simp only [PU] at Ta
      have HX:=Lib.hid hx1
      clear hx1
      have HT:=Lib.hid Ta
      clear Ta
      have b0:=HT.out.cell 6 0 rfl 0
      simp only [GE4] at b0
      have k15:=HT.out.cell 0 0 rfl 15
      have k16:=HT.out.cell 0 0 rfl 16
      simp only [turnC,GE3] at k15 k16
      go_wp2_with fail
      refine (ReadsG.use (HLS.out) (HT.out) [] rfl rfl).mono ?_
      rintro e w1 ⟨rfl,mq,rfl⟩
      have HT:=Lib.hid (HT.out.drewN mq)
      generalize World.drewN _ _=wq at HT ⊢
      clear b0 k15 k16 hper
      go_wp2_with fail
      refine (DoesG.use (Cli.row_1 (b:=wq.heap.size) (o:=0) (D:=#[.func (.func 342) #[] #[ptr' w.heap.size],.func (.func 343) #[] #[ptr' w.heap.size]]) rfl 2 (.inr rfl)) (HT.out.alloc (k:=wq.heap.size) rfl _ _) [8] rfl rfl).mono ?_
      rintro e w1 ⟨gs,⟨bf,bl,bi,rfl,rfl⟩,Ta⟩
      simp only [PU] at Ta
      have HT:=Lib.hid Ta
      clear Ta
      have r0:=HT.out.cell 7 0 rfl 0
      have fr0:=HT.out.free 7 0 rfl 0
      have r1:=HT.out.cell 7 0 rfl 1
      have fr1:=HT.out.free 7 0 rfl 1
      simp only [GE4] at r0 r1
      go_wp2
      exact bodyPost_ret (v:=.agg #[.nilFunc,_]) (by simp [results,Tryz.results339,go_sem,r0,r1]) rfl ⟨_,⟨(e.1++[cl w.heap.size 56 #[ptr' kb]],e.2),leT.app e _,_,_,_,_,_,rfl,⟨rfl,bf,bl,bi,wq.heap.size,.func (.func 342) #[] #[ptr' w.heap.size],.func (.func 343) #[] #[ptr' w.heap.size],[],[],rfl,⟨rfl,w.heap.size,rfl,List.mem_append_right _ (List.mem_cons_self ..)⟩,⟨rfl,w.heap.size,rfl,List.mem_append_right _ (List.mem_cons_self ..)⟩,rfl⟩,⟨gd,_,_,gP,HD.out,HX.out,HW.out,HPP.out,(rfl:turnB kb L.fb pv (sVal L k) k++(gd++(e.1++[cl w.heap.size 56 #[ptr' kb]]))=_),rfl⟩,rfl⟩,(((HT.out.set 7 0 rfl 0 _).set 7 0 rfl 1 _).pick [9,10,11,8,0,1,2,6,3,4,5] rfl).sum2⟩
   ·rw [if_neg (fun h=>hper h.1)]
    have hper0:k.t.per=0:=by have:=HPE.out.1;omega
    clear HPE HNT HLS
    unfold MRT
    obtain ⟨gd,gC,gW,gP,hd,hx,hw,hpp,rfl,rfl⟩:=hz
    intro w hw
    have T0:=TG.refl hw
    have HT:=Lib.hid T0
    clear hw T0
    have HT:=Lib.hid (HT.out.sum (H':=[turnB kb L.fb pv (sVal L k) k,gd,e.1,gC,gW,gP]))
    have HX:=Lib.hid hx
    have HD:=Lib.hid hd
    have HW:=Lib.hid hw
    have HPP:=Lib.hid hpp
    clear hx hd hw hpp
    have hlk:=turnTry (kb:=kb) (pv:=pv) (sv:=sVal L k) HX.out HO.out HSW.out 9
    rw [hc] at hlk
    have HLK:=Lib.hid hlk
    clear hlk hc
    generalize (x.slab.try k.t.slot k.saw 9).1=sl at *
    go_enter Tryz.func339,Tryz.ntmps339
    go_wp2_with fail
    refine (DoesG.use (HLK.out) ((HT.out.alloc (k:=w.heap.size) rfl 56 #[ptr' kb]).alloc (k:=w.heap.size+1) (by simp) 148 #[.nilFunc,.nilFunc]) [0,3] rfl rfl).mono ?_
    rintro e w1 ⟨gs,⟨rfl,g1,hx1,rfl⟩,Ta⟩
    simp only [PU] at Ta
    have HX:=Lib.hid hx1
    clear hx1
    have HT:=Lib.hid Ta
    clear Ta
    have b0:=HT.out.cell 6 0 rfl 0
    simp only [GE4] at b0
    have k15:=HT.out.cell 0 0 rfl 15
    simp only [turnC,GE3] at k15
    rw [hper0] at k15
    clear hper hper0
    obtain ⟨wz,rfl⟩:∃ wz,wz=w1:=⟨_,rfl⟩
    go_wp2_with fail
    refine (DoesG.use (Cli.row_1 (b:=wz.heap.size) (o:=0) (D:=#[.func (.func 342) #[] #[ptr' w.heap.size],.func (.func 343) #[] #[ptr' w.heap.size]]) rfl 2 (.inr rfl)) (HT.out.alloc (k:=wz.heap.size) rfl _ _) [8] rfl rfl).mono ?_
    rintro e w1 ⟨gs,⟨bf,bl,bi,rfl,rfl⟩,Ta⟩
    simp only [PU] at Ta
    have HT:=Lib.hid Ta
    clear Ta
    have r0:=HT.out.cell 7 0 rfl 0
    have fr0:=HT.out.free 7 0 rfl 0
    have r1:=HT.out.cell 7 0 rfl 1
    have fr1:=HT.out.free 7 0 rfl 1
    simp only [GE4] at r0 r1
    go_wp2
    exact bodyPost_ret (v:=.agg #[.nilFunc,_]) (by simp [results,Tryz.results339,go_sem,r0,r1]) rfl ⟨_,⟨(e.1++[cl w.heap.size 56 #[ptr' kb]],e.2),leT.app e _,_,_,_,_,_,rfl,⟨rfl,bf,bl,bi,wz.heap.size,.func (.func 342) #[] #[ptr' w.heap.size],.func (.func 343) #[] #[ptr' w.heap.size],[],[],rfl,⟨rfl,w.heap.size,rfl,List.mem_append_right _ (List.mem_cons_self ..)⟩,⟨rfl,w.heap.size,rfl,List.mem_append_right _ (List.mem_cons_self ..)⟩,rfl⟩,⟨gd,_,_,gP,HD.out,HX.out,HW.out,HPP.out,(rfl:turnB kb L.fb pv (sVal L k) k++(gd++(e.1++[cl w.heap.size 56 #[ptr' kb]]))=_),rfl⟩,rfl⟩,(((HT.out.set 7 0 rfl 0 _).set 7 0 rfl 1 _).pick [9,10,11,8,0,1,2,6,3,4,5] rfl).sum2⟩
end
end
section
open Go.RowKit Go.Shelf
section
variable {L:Lay} {x:CoreS} {ws:List WheelS} {p:PipeS} {e:ET} {g gC gK gF:List Blk} {kb:Nat} {pv sv:Value} {k:TurnS}
set_option maxRecDepth 100000 in
set_option maxHeartbeats 4000000 in
theorem tClaims (hz:repT L kb pv e ⟨k,x,ws,p⟩ gK gF) (hp:preT .claims ⟨k,x,ws,p⟩) :
 DoesG Tryz.prog 310 #[ptr' kb] [gK,gF] (MRT L kb pv e (runT .claims ⟨k,x,ws,p⟩).1 (runT .claims ⟨k,x,ws,p⟩).2):=by
 obtain ⟨ho,_⟩:=hp
 have HO:=Lib.hid ho.core
 have HSW:=Lib.hid (show 0≤k.saw∧k.saw<18446744073709551616 from ⟨ho.saw.1,ho.saw.2.1⟩)
 have HTR:=Lib.hid (show x.tr.length≤1000000 from ho.core.tr)
 clear ho
 cases hc:((x.slab.try k.t.slot k.saw 4).2.2 == 0) with
 | false =>
   rw [show runT .claims ⟨k,x,ws,p⟩=(.at none .looks,⟨k,{ x with slab:=(x.slab.try k.t.slot k.saw 4).1 },ws,p⟩) by simp [runT,tryTu,hc]]
   unfold MRT
   obtain ⟨gd,gC,gW,gP,hd,hx,hw,hpp,rfl,rfl⟩:=hz
   intro w hw
   have T0:=TG.refl hw
   have HT:=Lib.hid T0
   clear hw T0
   have HT:=Lib.hid (HT.out.sum (H':=[turnB kb L.fb pv (sVal L k) k,gd,e.1,gC,gW,gP]))
   have HX:=Lib.hid hx
   have HD:=Lib.hid hd
   have HW:=Lib.hid hw
   have HPP:=Lib.hid hpp
   clear hx hd hw hpp
   have hlk:=turnTry (kb:=kb) (pv:=pv) (sv:=sVal L k) HX.out HO.out HSW.out 4
   rw [hc] at hlk
   have HLK:=Lib.hid hlk
   clear hlk hc
   generalize (x.slab.try k.t.slot k.saw 4).1=sl at *
   go_enter Tryz.func310,Tryz.ntmps310
   go_wp2_with fail
   refine (DoesG.use (HLK.out) ((HT.out.alloc (k:=w.heap.size) rfl 56 #[ptr' kb]).alloc (k:=w.heap.size+1) (by simp) 148 #[.nilFunc,.nilFunc]) [0,3] rfl rfl).mono ?_
   rintro e w1 ⟨gs,⟨rfl,g1,hx1,rfl⟩,Ta⟩
   simp only [PU] at Ta
   have HX:=Lib.hid hx1
   clear hx1
   have HT:=Lib.hid Ta
   clear Ta
   have b0:=HT.out.cell 6 0 rfl 0
   simp only [GE4] at b0
   go_wp2_with fail
   refine (DoesG.use (at_g _ _ _) (HT.out) [] rfl rfl).mono ?_
   rintro e w1 ⟨gs,⟨rfl,rfl⟩,Ta⟩
   simp only [PU] at Ta
   have HT:=Lib.hid Ta
   clear Ta
   have r0:=HT.out.cell 7 0 rfl 0
   have fr0:=HT.out.free 7 0 rfl 0
   have r1:=HT.out.cell 7 0 rfl 1
   have fr1:=HT.out.free 7 0 rfl 1
   simp only [GE4] at r0 r1
   go_wp2
   exact bodyPost_ret (v:=.agg #[_,_]) (by simp [results,Tryz.results310,go_sem,r0,r1]) rfl ⟨_,⟨e,leT.refl e,_,_,[],_,_,rfl,⟨rfl,rfl,rfl⟩,⟨gd,_,_,gP,HD.out,HX.out,HW.out,HPP.out,(rfl:turnB kb L.fb pv (sVal L k) k++(gd++e.1)=_),rfl⟩,rfl⟩,(((HT.out.set 7 0 rfl 0 _).set 7 0 rfl 1 _).pick [0,1,2,3,4,5] rfl).sum2⟩
 | true =>
   rw [show runT .claims ⟨k,x,ws,p⟩=(.thn (.row1 (.put ⟨k.t.id,k.t.gen,k.t.dl,k.now⟩)) .claims2,⟨k,{ x with slab:=(x.slab.try k.t.slot k.saw 4).1,tr:=x.tr++[evT k { ev0 with kind:=5,id:=k.t.id,gen:=k.t.gen,dl:=k.t.dl,tick:=k.now }] },ws,p⟩) from if_pos hc]
   have HNT:=Lib.hid (show ∀ g,isCore L { x with slab:=(x.slab.try k.t.slot k.saw 4).1 } g→_ from fun g hg=>turnNote (kb:=kb) (pv:=pv) (sv:=sVal L k) (k:=k) (gC:=g) hg { ev0 with kind:=5,id:=k.t.id,gen:=k.t.gen,dl:=k.t.dl,tick:=k.now } HTR.out)
   unfold MRT
   obtain ⟨gd,gC,gW,gP,hd,hx,hw,hpp,rfl,rfl⟩:=hz
   intro w hw
   have T0:=TG.refl hw
   have HT:=Lib.hid T0
   clear hw T0
   have HT:=Lib.hid (HT.out.sum (H':=[turnB kb L.fb pv (sVal L k) k,gd,e.1,gC,gW,gP]))
   have HX:=Lib.hid hx
   have HD:=Lib.hid hd
   have HW:=Lib.hid hw
   have HPP:=Lib.hid hpp
   clear hx hd hw hpp
   have hlk:=turnTry (kb:=kb) (pv:=pv) (sv:=sVal L k) HX.out HO.out HSW.out 4
   rw [hc] at hlk
   have HLK:=Lib.hid hlk
   clear hlk hc
   generalize (x.slab.try k.t.slot k.saw 4).1=sl at *
   go_enter Tryz.func310,Tryz.ntmps310
   go_wp2_with fail
   refine (DoesG.use (HLK.out) ((HT.out.alloc (k:=w.heap.size) rfl 56 #[ptr' kb]).alloc (k:=w.heap.size+1) (by simp) 148 #[.nilFunc,.nilFunc]) [0,3] rfl rfl).mono ?_
   rintro e w1 ⟨gs,⟨rfl,g1,hx1,rfl⟩,Ta⟩
   simp only [PU] at Ta
   have HX:=Lib.hid hx1
   clear hx1
   have HT:=Lib.hid Ta
   clear Ta
   have b0:=HT.out.cell 6 0 rfl 0
   simp only [GE4] at b0
   have k9:=HT.out.cell 0 0 rfl 9
   have k11:=HT.out.cell 0 0 rfl 11
   have k13:=HT.out.cell 0 0 rfl 13
   have k14:=HT.out.cell 0 0 rfl 14
   simp only [turnC,GE3] at k9 k11 k13 k14
   have ltb:=HT.out.lt 6 0 rfl
   have ltk:=HT.out.lt 0 0 rfl
   simp only [] at ltb ltk
   obtain ⟨wz,rfl⟩:∃ wz,wz=w1:=⟨_,rfl⟩
   go_wp2_with fail
   clear HO HSW HTR
   generalize w.heap.size=bb at *
   have hnt:=HNT.out _ HX.out
   simp only [EvS.cells,ev0] at hnt
   have HNT:=Lib.hid hnt
   clear hnt
   go_region_held3 (fun w'=>w'.cell? ⟨bb,0,none⟩=some (ptr' kb)∧w'.cell? ⟨kb,9,none⟩=some (.int .u64 k.now)∧w'.cell? ⟨kb,11,none⟩=some (.int .u64 k.t.id)∧w'.cell? ⟨kb,13,none⟩=some (.int .u64 k.t.gen)∧w'.cell? ⟨kb,14,none⟩=some (.int .u64 k.t.dl))
    (first
    | exact ⟨b0,k9,k11,k13,k14⟩
    | exact ⟨(HT.out.drew.alloc (k:=wz.heap.size) rfl 69 #[.int .u64 0,.int .u64 0,.int .u64 0,.int .u64 0]).cell 6 0 rfl 0,(HT.out.drew.alloc (k:=wz.heap.size) rfl 69 #[.int .u64 0,.int .u64 0,.int .u64 0,.int .u64 0]).cell 0 0 rfl 9,(HT.out.drew.alloc (k:=wz.heap.size) rfl 69 #[.int .u64 0,.int .u64 0,.int .u64 0,.int .u64 0]).cell 0 0 rfl 11,(HT.out.drew.alloc (k:=wz.heap.size) rfl 69 #[.int .u64 0,.int .u64 0,.int .u64 0,.int .u64 0]).cell 0 0 rfl 13,(HT.out.drew.alloc (k:=wz.heap.size) rfl 69 #[.int .u64 0,.int .u64 0,.int .u64 0,.int .u64 0]).cell 0 0 rfl 14⟩
    | (refine ⟨?_,?_,?_,?_,?_⟩ <;> simp [go_sem,b0,k9,k11,k13,k14,ltb,ltk,Nat.ne_of_lt ltb,Nat.ne_of_lt ltk,Nat.ne_of_gt ltb,Nat.ne_of_gt ltk]))
    (fail)
   have HT:=Lib.hid (HT.out.alloc (k:=wz.heap.size) rfl 69 #[.int .u64 k.t.id,.int .u64 k.t.gen,.int .u64 k.t.dl,.int .u64 k.now]).drew
   generalize World.drew (World.alloc wz _)=w2 at HT ⊢
   generalize wz.heap.size=fb at HT ⊢
   clear b0 k9 k11 k13 k14 ltb ltk
   have b0:=HT.out.cell 6 0 rfl 0
   simp only [GE4] at b0
   have f0:=HT.out.cell 8 0 rfl 0
   have f1:=HT.out.cell 8 0 rfl 1
   have f2:=HT.out.cell 8 0 rfl 2
   have f3:=HT.out.cell 8 0 rfl 3
   simp only [GE4] at f0 f1 f2 f3
   go_wp2_with fail
   refine (DoesG.use (HNT.out) (HT.out) [0,3] rfl rfl).mono ?_
   rintro e w1 ⟨gs,⟨rfl,g2,hx2,rfl⟩,Ta⟩
   simp only [PU] at Ta
   have HX:=Lib.hid hx2
   clear hx2 b0 f0 f1 f2 f3
   have HT:=Lib.hid Ta
   clear Ta
   obtain ⟨wy,rfl⟩:∃ wy,wy=w1:=⟨_,rfl⟩
   go_wp2_with fail
   refine (DoesG.use (Cli.row_1 (b:=wy.heap.size) (o:=0) (D:=#[.func (.func 322) #[] #[ptr' bb,ptr' fb]]) rfl 1 (.inl rfl)) (HT.out.alloc (k:=wy.heap.size) rfl _ _) [9] rfl rfl).mono ?_
   rintro e w1 ⟨gs,⟨bf,bl,bi,rfl,rfl⟩,Ta⟩
   simp only [PU] at Ta
   have HT:=Lib.hid Ta
   clear Ta
   generalize wy.heap.size=sb at *
   have hsv:(cliT L kb pv).SV (e.1++[cl bb 56 #[ptr' kb],cl fb 69 #[.int .u64 k.t.id,.int .u64 k.t.gen,.int .u64 k.t.dl,.int .u64 k.now]],e.2) (.row1 (.put ⟨k.t.id,k.t.gen,k.t.dl,k.now⟩)) .nilFunc (.func (.func 188) #[] #[ptr' bf,ptr' bl,ptr' bi]) ([cl bf 1 #[.func (.func 322) #[] #[ptr' bb,ptr' fb]],cl bl 303 #[.slice (some ⟨sb,0,none⟩) 1 1],cl bi 3 #[.int .i64 0],cl sb 1 #[.func (.func 322) #[] #[ptr' bb,ptr' fb]]]++[]) :=
    ⟨rfl,bf,bl,bi,sb,0,_,_,_,rfl,⟨rfl,bb,fb,rfl,List.mem_append_right _ (List.mem_cons_self ..),List.mem_append_right _ (List.mem_cons_of_mem _ (List.mem_cons_self ..))⟩,rfl,rfl⟩
   have HSV:=Lib.hid hsv
   clear hsv
   go_wp2_with fail
   refine (DoesG.use (Cli.prog_then_x (c:=(cliT L kb pv).on (e.1++[cl bb 56 #[ptr' kb],cl fb 69 #[.int .u64 k.t.id,.int .u64 k.t.gen,.int .u64 k.t.dl,.int .u64 k.now]],e.2)) (f:=MT.claims2) (v:=.func (.func 324) #[] #[ptr' bb]) (gm:=[]) (cliT_vals L kb pv _) rfl HSV.out ⟨rfl,bb,rfl,List.mem_append_right _ (List.mem_cons_self ..)⟩) (HT.out.sum2 (H':=[turnB kb L.fb pv (sVal L k) k,gd,e.1,g2,gW,gP,[cl bb 56 #[ptr' kb]],[cl (bb+1) 148 #[.nilFunc,.nilFunc]],[cl fb 69 #[.int .u64 k.t.id,.int .u64 k.t.gen,.int .u64 k.t.dl,.int .u64 k.now]],[cl bf 1 #[.func (.func 322) #[] #[ptr' bb,ptr' fb]],cl bl 303 #[.slice (some ⟨sb,0,none⟩) 1 1],cl bi 3 #[.int .i64 0],cl sb 1 #[.func (.func 322) #[] #[ptr' bb,ptr' fb]]]++[],[]])) [9,10] rfl rfl).mono ?_
   rintro e w1 ⟨gs,⟨bs,br,rfl,rfl⟩,Ta⟩
   simp only [PU] at Ta
   have HT:=Lib.hid Ta
   clear Ta
   have r0:=HT.out.cell 7 0 rfl 0
   have fr0:=HT.out.free 7 0 rfl 0
   have r1:=HT.out.cell 7 0 rfl 1
   have fr1:=HT.out.free 7 0 rfl 1
   simp only [GE4] at r0 r1
   go_wp2
   exact bodyPost_ret (v:=.agg #[_,_]) (by simp [results,Tryz.results310,go_sem,r0,r1]) rfl ⟨_,⟨(e.1++[cl bb 56 #[ptr' kb],cl fb 69 #[.int .u64 k.t.id,.int .u64 k.t.gen,.int .u64 k.t.dl,.int .u64 k.now]],e.2),leT.app e _,_,_,_,_,_,rfl,⟨bs,br,_,_,_,[],rfl,rfl,HSV.out,⟨rfl,bb,rfl,List.mem_append_right _ (List.mem_cons_self ..)⟩,rfl⟩,⟨gd,_,_,gP,HD.out,HX.out,HW.out,HPP.out,(rfl:turnB kb L.fb pv (sVal L k) k++(gd++(e.1++[cl bb 56 #[ptr' kb],cl fb 69 #[.int .u64 k.t.id,.int .u64 k.t.gen,.int .u64 k.t.dl,.int .u64 k.now]]))=_),rfl⟩,rfl⟩,(((HT.out.set 7 0 rfl 0 _).set 7 0 rfl 1 _).pick [9,0,1,2,6,8,3,4,5] rfl).sum2⟩
end
end
section
open Go.RowKit Go.Shelf
section
variable {L:Lay} {x:CoreS} {ws:List WheelS} {p:PipeS} {e:ET} {g gC gK gF:List Blk} {kb:Nat} {pv sv:Value} {k:TurnS}
theorem MRT.of {s:ST} {z:ZT} {en:Ending} {gs:GH} (h:∃ e',leT e e'∧∃ m d g' gK' gF',en=.returned (.agg #[m,d])∧(cliT L kb pv).SV e' s m d g'∧repT L kb pv e' z gK' gF'∧gs=[g',gK',gF']):MRT L kb pv e s z en gs:=h
theorem times_add_any (a b:Int) (ha:0≤a∧a<18446744073709551616) (hb:0≤b∧b<18446744073709551616) :
 ∃ nx er:Int,ReadsG Tryz.prog 132 #[.int .u64 a,.int .u64 b] [] (.tuple #[.int .u64 nx,.int .i64 er])∧(er=0↔a+b<18446744073709551616)∧(a+b<18446744073709551616→nx=a+b):=by
 by_cases h:a+b<18446744073709551616
 ·exact ⟨a+b,0,times_add_r a b ha.1 hb.1 h,⟨fun _=>h,fun _=>rfl⟩,fun _=>rfl⟩
 ·exact ⟨0,9,times_over_r a b ha.1 hb.1 ha.2 hb.2 (by omega),⟨fun h'=>by omega,fun h'=>absurd h' h⟩,fun h'=>absurd h' h⟩
set_option maxRecDepth 100000 in
set_option maxHeartbeats 4000000 in
theorem tBehind (hz:repT L kb pv e ⟨k,x,ws,p⟩ gK gF) (hp:preT .behind ⟨k,x,ws,p⟩) :
 DoesG Tryz.prog 325 #[ptr' kb] [gK,gF] (MRT L kb pv e (runT .behind ⟨k,x,ws,p⟩).1 (runT .behind ⟨k,x,ws,p⟩).2):=by
 obtain ⟨ho,_⟩:=hp
 have hcore:CoreOk x:=ho.core
 have HWD:=Lib.hid (show ∀ g',isCore L x g'→_ from fun g' hx'=>coreWord (g:=g') hx' hcore.slab.n1 k.t.slot)
 have HWB:=Lib.hid (word_bd hcore.slab k.t.slot)
 obtain ⟨nx,er,had,her,hnx⟩:=times_add_any k.t.dl k.t.per ho.t.dl ho.t.per
 have HPE:=Lib.hid (show 0≤k.t.per∧k.t.per<18446744073709551616 from ho.t.per)
 clear ho hcore
 simp only [runT]
 obtain ⟨wd,hwd⟩:∃ wd,wd=x.slab.word k.t.slot:=⟨_,rfl⟩
 rw [← hwd] at HWB HWD ⊢
 have HSW:=Lib.hid (stateR wd HWB.out.1 HWB.out.2.1)
 have HGW:=Lib.hid (genR wd HWB.out.1 HWB.out.2.1)
 have HLS:=Lib.hid (lastR wd HWB.out.1 HWB.out.2.1)
 have HAD:=Lib.hid had
 have HER:=Lib.hid her
 have HNX:=Lib.hid hnx
 generalize stW wd=sw at *
 generalize genW wd=gw at *
 generalize lastW wd=lw at *
 clear hwd HWB had her hnx
 obtain ⟨R,hR⟩:∃ R:ST × ZT,R=(if sw≠4∨gw≠k.t.gen then (.nil,⟨{ k with saw:=wd },x,ws,p⟩) else if 0<k.t.per∧lw=false∧k.t.dl+k.t.per<18446744073709551616 then (.at none (.rearm1 (k.t.dl+k.t.per)),⟨{ k with saw:=wd },x,ws,p⟩) else (.at none .finishes,⟨{ k with saw:=wd },x,ws,p⟩)):=⟨_,rfl⟩
 rw [← hR]
 have HR:=Lib.hid hR
 clear hR
 obtain ⟨gd,gC,gW,gP,hd,hx,hw,hpp,rfl,rfl⟩:=hz
 intro w hw
 have T0:=TG.refl hw
 have HT:=Lib.hid T0
 clear hw T0
 have HT:=Lib.hid (HT.out.sum (H':=[turnB kb L.fb pv (sVal L k) k,gd,e.1,gC,gW,gP]))
 have HX:=Lib.hid hx
 have HD:=Lib.hid hd
 have HW:=Lib.hid hw
 have HPP:=Lib.hid hpp
 clear hx hd hw hpp
 go_enter Tryz.func325,Tryz.ntmps325
 go_wp2_with fail
 have HT:=Lib.hid ((HT.out.alloc (k:=w.heap.size) rfl 56 #[ptr' kb]).alloc (k:=w.heap.size+1) (by simp) 148 #[.nilFunc,.nilFunc])
 generalize World.alloc (World.alloc w _) _=w1 at HT ⊢
 generalize w.heap.size=bb at *
 obtain ⟨ι,W,hW0,hend,hin⟩:∃ (ι:Type) (W:ι→World),(∃ i,World.drew w1=W i)∧(∀ i,∃ gx,isCore L x gx∧TG [turnB kb L.fb pv (sVal L k) k++(gd++e.1),gC++(gW++gP)] w [turnB kb L.fb pv (sVal L k) k,gd,e.1,gx,gW,gP,[cl bb 56 #[ptr' kb]],[cl (bb+1) 148 #[.nilFunc,.nilFunc]]] (W i))∧(∀ w',(∃ gx,isCore L x gx∧TG [turnB kb L.fb pv (sVal L k) k++(gd++e.1),gC++(gW++gP)] w [turnB kb L.fb pv (sVal L k) k,gd,e.1,gx,gW,gP,[cl bb 56 #[ptr' kb]],[cl (bb+1) 148 #[.nilFunc,.nilFunc]]] w')→∃ i,w'=W i):=⟨{w' // ∃ gx,isCore L x gx∧TG [turnB kb L.fb pv (sVal L k) k++(gd++e.1),gC++(gW++gP)] w [turnB kb L.fb pv (sVal L k) k,gd,e.1,gx,gW,gP,[cl bb 56 #[ptr' kb]],[cl (bb+1) 148 #[.nilFunc,.nilFunc]]] w'},Subtype.val,⟨⟨_,gC,HX.out,HT.out.drew⟩,rfl⟩,fun i=>i.2,fun w' h=>⟨⟨w',h⟩,rfl⟩⟩
 have hne:Nonempty ι:=hW0.elim fun i _=>⟨i⟩
 have b0:∀ i,(W i).cell? ⟨bb,0,none⟩=some (ptr' kb):=fun i=>by obtain ⟨_,_,T⟩:=hend i;exact T.cell 6 0 rfl 0
 have k0:∀ i,(W i).cell? ⟨kb,0,none⟩=some (ptr' L.fb):=fun i=>by obtain ⟨_,_,T⟩:=hend i;exact T.cell 0 0 rfl 0
 have k12:∀ i,(W i).cell? ⟨kb,12,none⟩=some (.int .i64 k.t.slot):=fun i=>by obtain ⟨_,_,T⟩:=hend i;exact T.cell 0 0 rfl 12
 have m1:∀ i,Calls Tryz.prog 22 #[ptr' L.fb] (W i) fun e w2=>e=.returned (ptr' L.p.sb)∧∃ j,w2=W j:=fun i=>by
  obtain ⟨_,hg,T⟩:=hend i
  refine (DoesG.use ((coreSlab_r hg).does) T [3] rfl rfl).mono ?_
  rintro e w2 ⟨gs,⟨rfl,rfl⟩,T2⟩
  exact ⟨rfl,hin _ ⟨_,hg,T2⟩⟩
 have m2:∀ i,Calls Tryz.prog 46 #[ptr' L.p.sb,.int .i64 k.t.slot] (W i) fun e w2=>e=.returned (.tuple #[.int .u64 wd,.int .i64 (x.slab.werr k.t.slot)])∧∃ j,w2=W j:=fun i=>by
  obtain ⟨_,hg,T⟩:=hend i
  refine (DoesG.use (HWD.out _ hg) T [3] rfl rfl).mono ?_
  rintro e w2 ⟨gs,⟨rfl,g3,hg3,rfl⟩,T2⟩
  exact ⟨rfl,hin _ ⟨g3,hg3,T2⟩⟩
 refine wp_region_cls W (by kernel_rfl) (by kernel_rfl) hW0 ?_
 repeat (go_big_quiet_step ((first | (go_at_call 22;with_reducible exact m1 _) | (go_at_call 46;with_reducible exact m2 _))))
 refine wpQuiet_nil ?_
 intro _ hw
 obtain ⟨iq,hw2⟩:=hw
 subst hw2
 obtain ⟨g1,hx1,T⟩:=hend iq
 have HT:=Lib.hid T
 generalize W iq=w1 at HT ⊢
 clear T hend hin hW0 hne
 have HX:=Lib.hid hx1
 clear hx1 b0 k0 k12 m1 m2
 have b0:=HT.out.cell 6 0 rfl 0
 simp only [GE4] at b0
 have k16:=HT.out.cell 0 0 rfl 16
 have fk16:=HT.out.free 0 0 rfl 16
 simp only [turnC,GE3] at k16
 go_wp2_with fail
 have HT:=Lib.hid ((HT.out.set 0 0 rfl 16 (.int .u64 wd)).eq (H':=[turnB kb L.fb pv (sVal L k) { k with saw:=wd },gd,e.1,g1,gW,gP,[cl bb 56 #[ptr' kb]],[cl (bb+1) 148 #[.nilFunc,.nilFunc]]]) rfl)
 clear k16 fk16 b0
 generalize World.setCell _ _ _=w5 at HT ⊢
 have b0:=HT.out.cell 6 0 rfl 0
 simp only [GE4] at b0
 have k13:=HT.out.cell 0 0 rfl 13
 simp only [turnC,GE3] at k13
 cases hb1:(sw != 4) with
 | true =>
   have hR:=HR.out
   rw [if_pos (.inl (by simpa using hb1))] at hR
   subst hR
   go_quiet ((first | (go_at_call 47;with_reducible exact ReadsG.quiet (HSW.out) HT.out _ [] rfl rfl) | (go_at_call 209;with_reducible exact ReadsG.quiet (HGW.out) HT.out _ [] rfl rfl)))
   have HT:=Lib.hid (HT.out.drewN nq)
   have HT:=Lib.hid HT.out
   generalize World.drewN _ _=wq at HT ⊢
   clear b0 k13
   have r0:=HT.out.cell 7 0 rfl 0
   have fr0:=HT.out.free 7 0 rfl 0
   have r1:=HT.out.cell 7 0 rfl 1
   have fr1:=HT.out.free 7 0 rfl 1
   simp only [GE4] at r0 r1
   go_wp2
   exact bodyPost_ret (v:=.agg #[_,_]) (by simp [results,Tryz.results325,go_sem,r0,r1]) rfl ⟨_,MRT.of ⟨e,leT.refl e,_,_,[],_,_,rfl,⟨rfl,rfl,rfl⟩,⟨gd,_,_,gP,HD.out,HX.out,HW.out,HPP.out,(rfl:turnB kb L.fb pv (sVal L k) { k with saw:=wd }++(gd++e.1)=_),rfl⟩,rfl⟩,(((HT.out.set 7 0 rfl 0 _).set 7 0 rfl 1 _).pick [0,1,2,3,4,5] rfl).sum2⟩
 | false =>
   cases hb2:(gw != k.t.gen) with
   | true =>
     have hR:=HR.out
     rw [if_pos (.inr (by simpa using hb2))] at hR
     subst hR
     go_quiet ((first | (go_at_call 47;with_reducible exact ReadsG.quiet (HSW.out) HT.out _ [] rfl rfl) | (go_at_call 209;with_reducible exact ReadsG.quiet (HGW.out) HT.out _ [] rfl rfl)))
     have HT:=Lib.hid (HT.out.drewN nq)
     have HT:=Lib.hid HT.out
     generalize World.drewN _ _=wq at HT ⊢
     clear b0 k13
     have r0:=HT.out.cell 7 0 rfl 0
     have fr0:=HT.out.free 7 0 rfl 0
     have r1:=HT.out.cell 7 0 rfl 1
     have fr1:=HT.out.free 7 0 rfl 1
     simp only [GE4] at r0 r1
     go_wp2
     exact bodyPost_ret (v:=.agg #[_,_]) (by simp [results,Tryz.results325,go_sem,r0,r1]) rfl ⟨_,MRT.of ⟨e,leT.refl e,_,_,[],_,_,rfl,⟨rfl,rfl,rfl⟩,⟨gd,_,_,gP,HD.out,HX.out,HW.out,HPP.out,(rfl:turnB kb L.fb pv (sVal L k) { k with saw:=wd }++(gd++e.1)=_),rfl⟩,rfl⟩,(((HT.out.set 7 0 rfl 0 _).set 7 0 rfl 1 _).pick [0,1,2,3,4,5] rfl).sum2⟩
   | false =>
     have hR:=HR.out
     rw [if_neg (by simp only [bne_eq_false_iff_eq] at hb1 hb2;omega)] at hR
     have HR:=Lib.hid hR
     go_quiet ((first | (go_at_call 47;with_reducible exact ReadsG.quiet (HSW.out) HT.out _ [] rfl rfl) | (go_at_call 209;with_reducible exact ReadsG.quiet (HGW.out) HT.out _ [] rfl rfl)))
     have HT:=Lib.hid (HT.out.drewN nq)
     generalize World.drewN _ _=wz at HT ⊢
     clear b0 k13 hR HSW HGW hb1 hb2 HWD
     have b0:=HT.out.cell 6 0 rfl 0
     simp only [GE4] at b0
     have k14:=HT.out.cell 0 0 rfl 14
     have k15:=HT.out.cell 0 0 rfl 15
     simp only [turnC,GE3] at k14 k15
     have ltb:=HT.out.lt 6 0 rfl
     have ltk:=HT.out.lt 0 0 rfl
     simp only [] at ltb ltk
     go_wp2_with fail
     apply use_key2 (A:=fun (nb:Nat) w5=>TG [turnB kb L.fb pv (sVal L k) k++(gd++e.1),gC++(gW++gP)] w [turnB kb L.fb pv (sVal L k) { k with saw:=wd },gd,e.1,g1,gW,gP,[cl bb 56 #[ptr' kb]],[cl (bb+1) 148 #[.nilFunc,.nilFunc]],[cl nb 36 #[.int .u64 nx]]] w5)
     case main =>
      intro key
      go_region_held3 (fun w'=>w'.cell? ⟨bb,0,none⟩=some (ptr' kb)∧w'.cell? ⟨kb,14,none⟩=some (.int .u64 k.t.dl)∧w'.cell? ⟨kb,15,none⟩=some (.int .u64 k.t.per))
       (first
       | exact ⟨b0,k14,k15⟩
       | exact ⟨q1,q2,q3⟩
       | (refine ⟨?_,?_,?_⟩ <;> (simp [go_sem,b0,k14,k15,ltb,ltk,Nat.ne_of_lt ltb,Nat.ne_of_lt ltk,Nat.ne_of_gt ltb,Nat.ne_of_gt ltk];done))
       | (refine ⟨?_,?_,?_⟩ <;> (simp [go_sem,q1,q2,q3,l1,l2,Nat.ne_of_lt l1,Nat.ne_of_lt l2,Nat.ne_of_gt l1,Nat.ne_of_gt l2];done))
       | (refine ⟨?_,?_,?_⟩ <;> (simp [go_sem,q1,q2,q3,ltb,ltk,Nat.ne_of_lt ltb,Nat.ne_of_lt ltk,Nat.ne_of_gt ltb,Nat.ne_of_gt ltk];done))
       | exact ⟨s1,s2,s3⟩
       | exact ⟨((HT7.out.set 8 0 rfl 0 (.int .u64 nx)).cell 6 0 rfl 0),((HT7.out.set 8 0 rfl 0 (.int .u64 nx)).cell 0 0 rfl 14),((HT7.out.set 8 0 rfl 0 (.int .u64 nx)).cell 0 0 rfl 15)⟩
       | exact ⟨((HT7.out.alloc (k:=w7.heap.size) rfl 36 #[.int .u64 nx]).cell 6 0 rfl 0),((HT7.out.alloc (k:=w7.heap.size) rfl 36 #[.int .u64 nx]).cell 0 0 rfl 14),((HT7.out.alloc (k:=w7.heap.size) rfl 36 #[.int .u64 nx]).cell 0 0 rfl 15)⟩
       | exact ⟨(((HT7.out.alloc (k:=w7.heap.size) rfl 36 #[.int .u64 0]).set 8 0 rfl 0 (.int .u64 nx)).cell 6 0 rfl 0),(((HT7.out.alloc (k:=w7.heap.size) rfl 36 #[.int .u64 0]).set 8 0 rfl 0 (.int .u64 nx)).cell 0 0 rfl 14),(((HT7.out.alloc (k:=w7.heap.size) rfl 36 #[.int .u64 0]).set 8 0 rfl 0 (.int .u64 nx)).cell 0 0 rfl 15)⟩)
       (first
       | (go_at_call 132
          refine (ReadsG.use HAD.out HT.out.drew [] rfl rfl).mono ?_
          rintro e w7 ⟨rfl,mq,rfl⟩
          have HT7:=Lib.hid (HT.out.drew.drewN mq)
          have q1:=HT7.out.cell 6 0 rfl 0
          have q2:=HT7.out.cell 0 0 rfl 14
          have q3:=HT7.out.cell 0 0 rfl 15
          have l1:=HT7.out.lt 6 0 rfl
          have l2:=HT7.out.lt 0 0 rfl
          simp only [turnC,GE3] at q1 q2 q3 l1 l2
          generalize World.drewN _ _=w7 at HT7 q1 q2 q3 l1 l2 ⊢)
       | (go_at_call 132
          refine (ReadsG.use HAD.out (HT.out.alloc (k:=wz.heap.size) rfl 36 #[.int .u64 0]).drew [] rfl rfl).mono ?_
          rintro e w7 ⟨rfl,mq,rfl⟩
          have HT7:=Lib.hid ((HT.out.alloc (k:=wz.heap.size) rfl 36 #[.int .u64 0]).drew.drewN mq)
          have c0:=HT7.out.cell 8 0 rfl 0
          have f0:=HT7.out.free 8 0 rfl 0
          simp only [GE2] at c0
          have q1:=HT7.out.cell 6 0 rfl 0
          have q2:=HT7.out.cell 0 0 rfl 14
          have q3:=HT7.out.cell 0 0 rfl 15
          have l1:=HT7.out.lt 6 0 rfl
          have l2:=HT7.out.lt 0 0 rfl
          simp only [turnC,GE3] at q1 q2 q3 l1 l2
          generalize World.drewN _ _=w7 at HT7 c0 f0 q1 q2 q3 l1 l2 ⊢
          have HT8:=HT7.out.set 8 0 rfl 0 (.int .u64 nx)
          have s1:=HT8.cell 6 0 rfl 0
          have s2:=HT8.cell 0 0 rfl 14
          have s3:=HT8.cell 0 0 rfl 15
          simp only [turnC,GE3] at s1 s2 s3))
      ·have T5:=(HT7.out.alloc (k:=w7.heap.size) rfl 36 #[.int .u64 nx]).eq (H':=[turnB kb L.fb pv (sVal L k) { k with saw:=wd },gd,e.1,g1,gW,gP,[cl bb 56 #[ptr' kb]],[cl (bb+1) 148 #[.nilFunc,.nilFunc]],[cl w7.heap.size 36 #[.int .u64 nx]]]) rfl
       clear HT7 q1 q2 q3 l1 l2
       generalize World.alloc w7 _=w5 at T5 ⊢
       generalize w7.heap.size=nb at T5 ⊢
       exact key nb w5 T5
      ·have T5:=(HT7.out.set 8 0 rfl 0 (.int .u64 nx)).eq (H':=[turnB kb L.fb pv (sVal L k) { k with saw:=wd },gd,e.1,g1,gW,gP,[cl bb 56 #[ptr' kb]],[cl (bb+1) 148 #[.nilFunc,.nilFunc]],[cl wz.heap.size 36 #[.int .u64 nx]]]) rfl
       clear HT7 q1 q2 q3 l1 l2 c0 f0 s1 s2 s3 HT8
       generalize World.setCell w7 _ _=w5 at T5 ⊢
       generalize wz.heap.size=nb at T5 ⊢
       exact key nb w5 T5
     case key =>
      rintro nb w5 T5
      have HT:=Lib.hid T5
      clear T5 b0 k14 k15 ltb ltk
      have HNX:=HNX.out
      have hper:=HPE.out
      have b0:=HT.out.cell 6 0 rfl 0
      simp only [GE4] at b0
      have k15:=HT.out.cell 0 0 rfl 15
      simp only [turnC,GE3] at k15
      by_cases hp0:0<k.t.per
      ·cases lw with
       | false =>
         by_cases hov:k.t.dl+k.t.per<18446744073709551616
         ·have hR:=HR.out
          rw [if_pos ⟨hp0,rfl,hov⟩] at hR
          subst hR
          have her:=HER.out.2 hov
          subst her
          have hnx:=HNX hov
          subst hnx
          clear HNX hper HER
          go_wp2_with fail
          refine (ReadsG.use (HLS.out) (HT.out) [] rfl rfl).mono ?_
          rintro e w1 ⟨rfl,mq,rfl⟩
          have HT:=Lib.hid (HT.out.drewN mq)
          generalize World.drewN _ _=wq at HT ⊢
          clear b0 k15
          go_wp2_with fail
          refine (DoesG.use (at_g _ _ _) (HT.out) [] rfl rfl).mono ?_
          rintro e w1 ⟨gs,⟨rfl,rfl⟩,Ta⟩
          simp only [PU] at Ta
          have HT:=Lib.hid Ta
          clear Ta
          have r0:=HT.out.cell 7 0 rfl 0
          have fr0:=HT.out.free 7 0 rfl 0
          have r1:=HT.out.cell 7 0 rfl 1
          have fr1:=HT.out.free 7 0 rfl 1
          simp only [GE4] at r0 r1
          go_wp2
          exact bodyPost_ret (v:=.agg #[_,_]) (by simp [results,Tryz.results325,go_sem,r0,r1]) rfl ⟨_,MRT.of ⟨(e.1++[cl bb 56 #[ptr' kb],cl nb 36 #[.int .u64 (k.t.dl+k.t.per)]],e.2),leT.app e _,_,_,[],_,_,rfl,⟨rfl,rfl,⟨bb,nb,rfl,List.mem_append_right _ (List.mem_cons_self ..),List.mem_append_right _ (List.mem_cons_of_mem _ (List.mem_cons_self ..))⟩⟩,⟨gd,_,_,gP,HD.out,HX.out,HW.out,HPP.out,(rfl:turnB kb L.fb pv (sVal L k) { k with saw:=wd }++(gd++(e.1++[cl bb 56 #[ptr' kb],cl nb 36 #[.int .u64 (k.t.dl+k.t.per)]]))=_),rfl⟩,rfl⟩,(((HT.out.set 7 0 rfl 0 _).set 7 0 rfl 1 _).pick [0,1,2,6,8,3,4,5] rfl).sum2⟩
         ·have hR:=HR.out
          rw [if_neg (fun h=>hov h.2.2)] at hR
          subst hR
          have heb:(er == 0)=false:=beq_eq_false_iff_ne.2 fun h=>hov (HER.out.1 h)
          clear HNX hper HER hov
          go_wp2_with fail
          refine (ReadsG.use (HLS.out) (HT.out) [] rfl rfl).mono ?_
          rintro e w1 ⟨rfl,mq,rfl⟩
          have HT:=Lib.hid (HT.out.drewN mq)
          generalize World.drewN _ _=wq at HT ⊢
          clear b0 k15
          have b0:=HT.out.cell 6 0 rfl 0
          simp only [GE4] at b0
          go_wp2_with fail
          refine (DoesG.use (at_g _ _ _) (HT.out) [] rfl rfl).mono ?_
          rintro e w1 ⟨gs,⟨rfl,rfl⟩,Ta⟩
          simp only [PU] at Ta
          have HT:=Lib.hid Ta
          clear Ta
          have r0:=HT.out.cell 7 0 rfl 0
          have fr0:=HT.out.free 7 0 rfl 0
          have r1:=HT.out.cell 7 0 rfl 1
          have fr1:=HT.out.free 7 0 rfl 1
          simp only [GE4] at r0 r1
          go_wp2
          exact bodyPost_ret (v:=.agg #[_,_]) (by simp [results,Tryz.results325,go_sem,r0,r1]) rfl ⟨_,MRT.of ⟨e,leT.refl e,_,_,[],_,_,rfl,⟨rfl,rfl,rfl⟩,⟨gd,_,_,gP,HD.out,HX.out,HW.out,HPP.out,(rfl:turnB kb L.fb pv (sVal L k) { k with saw:=wd }++(gd++e.1)=_),rfl⟩,rfl⟩,(((HT.out.set 7 0 rfl 0 _).set 7 0 rfl 1 _).pick [0,1,2,3,4,5] rfl).sum2⟩
       | true =>
         have hR:=HR.out
         rw [if_neg (fun h=>by cases h.2.1)] at hR
         subst hR
         clear HNX hper HER
         go_wp2_with fail
         refine (ReadsG.use (HLS.out) (HT.out) [] rfl rfl).mono ?_
         rintro e w1 ⟨rfl,mq,rfl⟩
         have HT:=Lib.hid (HT.out.drewN mq)
         generalize World.drewN _ _=wq at HT ⊢
         clear b0 k15
         have b0:=HT.out.cell 6 0 rfl 0
         simp only [GE4] at b0
         go_wp2_with fail
         refine (DoesG.use (at_g _ _ _) (HT.out) [] rfl rfl).mono ?_
         rintro e w1 ⟨gs,⟨rfl,rfl⟩,Ta⟩
         simp only [PU] at Ta
         have HT:=Lib.hid Ta
         clear Ta
         have r0:=HT.out.cell 7 0 rfl 0
         have fr0:=HT.out.free 7 0 rfl 0
         have r1:=HT.out.cell 7 0 rfl 1
         have fr1:=HT.out.free 7 0 rfl 1
         simp only [GE4] at r0 r1
         go_wp2
         exact bodyPost_ret (v:=.agg #[_,_]) (by simp [results,Tryz.results325,go_sem,r0,r1]) rfl ⟨_,MRT.of ⟨e,leT.refl e,_,_,[],_,_,rfl,⟨rfl,rfl,rfl⟩,⟨gd,_,_,gP,HD.out,HX.out,HW.out,HPP.out,(rfl:turnB kb L.fb pv (sVal L k) { k with saw:=wd }++(gd++e.1)=_),rfl⟩,rfl⟩,(((HT.out.set 7 0 rfl 0 _).set 7 0 rfl 1 _).pick [0,1,2,3,4,5] rfl).sum2⟩
      ·have hR:=HR.out
       rw [if_neg (fun h=>hp0 h.1)] at hR
       subst hR
       have hper0:k.t.per=0:=by omega
       rw [hper0] at k15
       clear HNX HER hper hp0 hper0 HAD HLS
       go_wp2_with fail
       refine (DoesG.use (at_g _ _ _) (HT.out) [] rfl rfl).mono ?_
       rintro e w1 ⟨gs,⟨rfl,rfl⟩,Ta⟩
       simp only [PU] at Ta
       have HT:=Lib.hid Ta
       clear Ta
       have r0:=HT.out.cell 7 0 rfl 0
       have fr0:=HT.out.free 7 0 rfl 0
       have r1:=HT.out.cell 7 0 rfl 1
       have fr1:=HT.out.free 7 0 rfl 1
       simp only [GE4] at r0 r1
       go_wp2
       exact bodyPost_ret (v:=.agg #[_,_]) (by simp [results,Tryz.results325,go_sem,r0,r1]) rfl ⟨_,MRT.of ⟨e,leT.refl e,_,_,[],_,_,rfl,⟨rfl,rfl,rfl⟩,⟨gd,_,_,gP,HD.out,HX.out,HW.out,HPP.out,(rfl:turnB kb L.fb pv (sVal L k) { k with saw:=wd }++(gd++e.1)=_),rfl⟩,rfl⟩,(((HT.out.set 7 0 rfl 0 _).set 7 0 rfl 1 _).pick [0,1,2,3,4,5] rfl).sum2⟩
end
end
section
open Go.RowKit Go.Shelf
section
variable {L:Lay} {x:CoreS} {ws:List WheelS} {p:PipeS} {e:ET} {g gC gK gF:List Blk} {kb:Nat} {pv sv:Value} {k:TurnS}
def YRT (L:Lay) (kb:Nat) (pv:Value) (e:ET) (y:YT) (z:ZT) (en:Ending) (gs:GH):Prop :=
 ∃ gK' gF',en=.returned (.bool (mayT y z))∧repT L kb pv e z gK' gF'∧gs=[gK',gF']
theorem ART.of {z:ZT} {en:Ending} {gs:GH} (h:∃ e',leT e e'∧∃ gK' gF',en=.returned (.tuple #[])∧repT L kb pv e' z gK' gF'∧gs=[[],gK',gF']):ART L kb pv e z en gs:=h
theorem YRT.of {y:YT} {z:ZT} {en:Ending} {gs:GH} (h:∃ gK' gF',en=.returned (.bool (mayT y z))∧repT L kb pv e z gK' gF'∧gs=[gK',gF']):YRT L kb pv e y z en gs:=h
set_option maxRecDepth 100000 in
set_option maxHeartbeats 4000000 in
theorem tOne2 (d:Nat) (hz:repT L kb pv e ⟨k,x,ws,p⟩ gK gF) (hp:preT (.one2 d) ⟨k,x,ws,p⟩) (bk bd:Nat) (hb:kBox kb bk e) (hbd:e.2[d]?=some bd) :
 DoesG Tryz.prog 256 #[ptr' bk,ptr' bd] [gK,gF] (MRT L kb pv e (runT (.one2 d) ⟨k,x,ws,p⟩).1 (runT (.one2 d) ⟨k,x,ws,p⟩).2):=by
 obtain ⟨ho,hh,hc,hth1⟩:=hp
 obtain ⟨gd,gC,gW,gP,hd,hx,hw,hpp,rfl,rfl⟩:=hz
 obtain ⟨i,q,s,S,hki,hq,hs,hS,hsv,hsh,hss,hwh,hwo,hrb,ht0,ht1⟩:=turn_sh hx hw ho hh
 have hth:0≤k.th∧k.th≤1000000:=⟨ho.th,hth1⟩
 clear hth1
 rw [show runT (.one2 d) ⟨k,x,ws,p⟩=(.at none (.one21 d),⟨k,{ x with shs:=x.shs.set i { s with who:=tryW s.who k.th,turns:=tryN s.who s.turns } },ws,p⟩) by
  simp only [runT,ZT.onSh,hss,hsh]]
 dsimp only
 have HLO:=Lib.hid (fun (g:List Blk) (hg:isCore L x g)=>coreLockOf_r hg hq hs)
 have HLT:=Lib.hid (fun (g:List Blk) (hg:isCore L x g)=>coreLockDo (v:=.bool (s.who == 0)) hg hq hs fun g hl=>lockTry_g k.th hl ⟨hth.1,by omega⟩ ⟨ht0,by omega⟩)
 clear hth ho hh hc hki hq hs hS hsh hss hwh hwo hrb ht0 ht1
 intro w hw
 have T0:=TG.refl hw
 have HT:=Lib.hid T0
 clear hw T0
 have HT:=Lib.hid (HT.out.sum (H':=[turnB kb L.fb pv (sVal L k) k,gd,e.1,gC,gW,gP]))
 have HX:=Lib.hid hx
 have HD:=Lib.hid hd
 have HW:=Lib.hid hw
 have HPP:=Lib.hid hpp
 have HSV:=Lib.hid hsv
 clear hx hd hw hpp hsv
 have HBD:=Lib.hid hbd
 clear hbd
 have HB:=Lib.hid (show cl bk 56 #[ptr' kb]∈e.1 from hb)
 clear hb
 have ltb:=HT.out.mem_lt 2 HB.out
 simp only [] at ltb
 go_enter Tryz.func256,Tryz.ntmps256
 go_wp2_with fail
 have HT:=Lib.hid (HT.out.alloc (k:=w.heap.size) rfl 148 #[.nilFunc,.nilFunc])
 generalize World.alloc w _=w1 at HT ⊢
 generalize w.heap.size=bs at *
 obtain ⟨ι,W,hW0,hend,hin⟩:∃ (ι:Type) (W:ι→World),(∃ i,World.drew w1=W i)∧(∀ i,∃ gx,isCore L x gx∧TG [turnB kb L.fb pv (sVal L k) k++(gd++e.1),gC++(gW++gP)] w [turnB kb L.fb pv (sVal L k) k,gd,e.1,gx,gW,gP,[cl bs 148 #[.nilFunc,.nilFunc]]] (W i))∧(∀ w',(∃ gx,isCore L x gx∧TG [turnB kb L.fb pv (sVal L k) k++(gd++e.1),gC++(gW++gP)] w [turnB kb L.fb pv (sVal L k) k,gd,e.1,gx,gW,gP,[cl bs 148 #[.nilFunc,.nilFunc]]] w')→∃ i,w'=W i):=⟨{w' // ∃ gx,isCore L x gx∧TG [turnB kb L.fb pv (sVal L k) k++(gd++e.1),gC++(gW++gP)] w [turnB kb L.fb pv (sVal L k) k,gd,e.1,gx,gW,gP,[cl bs 148 #[.nilFunc,.nilFunc]]] w'},Subtype.val,⟨⟨_,gC,HX.out,HT.out.drew⟩,rfl⟩,fun i=>i.2,fun w' h=>⟨⟨w',h⟩,rfl⟩⟩
 have hne:Nonempty ι:=hW0.elim fun i _=>⟨i⟩
 have b0:∀ i,(W i).cell? ⟨bk,0,none⟩=some (ptr' kb):=fun i=>by obtain ⟨_,_,T⟩:=hend i;exact T.mem_cell 2 HB.out 0
 have k10:∀ i,(W i).cell? ⟨kb,10,none⟩=some (ptr' q.b):=fun i=>by obtain ⟨_,_,T⟩:=hend i;exact HSV.out ▸ T.cell 0 0 rfl 10
 have k1:∀ i,(W i).cell? ⟨kb,1,none⟩=some (.int .i64 k.th):=fun i=>by obtain ⟨_,_,T⟩:=hend i;exact T.cell 0 0 rfl 1
 have m1:∀ i,Calls Tryz.prog 38 #[ptr' q.b] (W i) fun e w2=>e=.returned (ptr' q.lb)∧∃ j,w2=W j:=fun i=>by
  obtain ⟨_,hg,T⟩:=hend i
  refine (DoesG.use (HLO.out _ hg) T [3] rfl rfl).mono ?_
  rintro e w2 ⟨gs,⟨rfl,g3,hg3,rfl⟩,T2⟩
  exact ⟨rfl,hin _ ⟨g3,hg3,T2⟩⟩
 refine wp_region_mix (fun w'=>∃ i,w'=W i) 9 (by kernel_rfl) (by kernel_rfl) hW0 ?_
 simp only [TD4]
 repeat (go_big_quiet_step ((first | (go_at_call 38;with_reducible exact m1 _))))
 refine wpQuiet_nil ?_
 intro _ hw'
 obtain ⟨iq,hw''⟩:=hw'
 subst hw''
 obtain ⟨g1,hx1,T⟩:=hend iq
 have HT:=Lib.hid T
 generalize W iq=w1 at HT ⊢
 clear T hend hin hW0 hne
 have HX1:=Lib.hid hx1
 clear hx1 b0 k10 k1 m1
 go_wp2_with fail
 refine (DoesG.use (HLT.out _ HX1.out) (HT.out) [3] rfl rfl).mono ?_
 rintro e w1 ⟨gs,⟨rfl,g2,hx2,rfl⟩,Ta⟩
 simp only [PU] at Ta
 have HX:=Lib.hid hx2
 clear hx2
 have HT:=Lib.hid Ta
 clear Ta
 go_wp2_with fail
 refine ⟨rfl,?_⟩
 go_wp2_with fail
 refine (DoesG.use (at_g _ _ _) (HT.out) [] rfl rfl).mono ?_
 rintro e w1 ⟨gs,⟨rfl,rfl⟩,Ta⟩
 simp only [PU] at Ta
 have HT:=Lib.hid Ta
 clear Ta
 have r0:=HT.out.cell 6 0 rfl 0
 have fr0:=HT.out.free 6 0 rfl 0
 have r1:=HT.out.cell 6 0 rfl 1
 have fr1:=HT.out.free 6 0 rfl 1
 simp only [GE4] at r0 r1
 go_wp2
 exact bodyPost_ret (v:=.agg #[_,_]) (by simp [results,Tryz.results256,go_sem,r0,r1]) rfl ⟨_,MRT.of ⟨e,leT.refl e,_,_,[],_,_,rfl,⟨rfl,rfl,⟨bk,bd,rfl,HB.out,HBD.out⟩⟩,⟨gd,_,_,gP,HD.out,HX.out,HW.out,HPP.out,(rfl:turnB kb L.fb pv (sVal L k) k++(gd++e.1)=_),rfl⟩,rfl⟩,(((HT.out.set 6 0 rfl 0 _).set 6 0 rfl 1 _).pick [0,1,2,3,4,5] rfl).sum2⟩
set_option maxRecDepth 100000 in
set_option maxHeartbeats 4000000 in
theorem yLock (hz:repT L kb pv e ⟨k,x,ws,p⟩ gK gF) (hp:preYT .lock ⟨k,x,ws,p⟩) (bk:Nat) (hb:kBox kb bk e) :
 DoesG Tryz.prog 254 #[ptr' bk] [gK,gF] (YRT L kb pv e .lock ⟨k,x,ws,p⟩):=by
 obtain ⟨ho,hh⟩:=hp
 obtain ⟨gd,gC,gW,gP,hd,hx,hw,hpp,rfl,rfl⟩:=hz
 obtain ⟨i,q,s,S,hki,hq,hs,hS,hsv,hsh,hss,hwh,hwo,hrb,ht0,ht1⟩:=turn_sh hx hw ho hh
 have hm:mayT .lock ⟨k,x,ws,p⟩=(decide (0≤k.th) && s.who == 0):=by simp only [mayT,hss]
 have HLO:=Lib.hid (fun (g:List Blk) (hg:isCore L x g)=>coreLockOf_r hg hq hs)
 have hlm:∀ (g:List Blk) (hg:isCore L x g),_:=fun (g:List Blk) (hg:isCore L x g)=>coreLockDo (v:=.bool (decide (0≤k.th) && s.who == 0)) hg hq hs fun g hl=>lockMay_g k.th hl
 rw [← hm,core_shs_same hs] at hlm
 have HLM:=Lib.hid hlm
 clear hm hlm ho hh hki hq hs hS hsh hss hwh hwo hrb ht0 ht1
 generalize hmv:mayT .lock ⟨k,x,ws,p⟩=mv at *
 have HMV:=Lib.hid hmv
 clear hmv
 intro w hw
 have T0:=TG.refl hw
 have HT:=Lib.hid T0
 clear hw T0
 have HT:=Lib.hid (HT.out.sum (H':=[turnB kb L.fb pv (sVal L k) k,gd,e.1,gC,gW,gP]))
 have HX:=Lib.hid hx
 have HD:=Lib.hid hd
 have HW:=Lib.hid hw
 have HPP:=Lib.hid hpp
 have HSV:=Lib.hid hsv
 clear hx hd hw hpp hsv
 have HB:=Lib.hid (show cl bk 56 #[ptr' kb]∈e.1 from hb)
 clear hb
 have ltb:=HT.out.mem_lt 2 HB.out
 simp only [] at ltb
 go_enter Tryz.func254,Tryz.ntmps254
 go_wp2_with fail
 obtain ⟨ι,W,hW0,hend,hin⟩:∃ (ι:Type) (W:ι→World),(∃ i,World.drew w=W i)∧(∀ i,∃ gx,isCore L x gx∧TG [turnB kb L.fb pv (sVal L k) k++(gd++e.1),gC++(gW++gP)] w [turnB kb L.fb pv (sVal L k) k,gd,e.1,gx,gW,gP] (W i))∧(∀ w',(∃ gx,isCore L x gx∧TG [turnB kb L.fb pv (sVal L k) k++(gd++e.1),gC++(gW++gP)] w [turnB kb L.fb pv (sVal L k) k,gd,e.1,gx,gW,gP] w')→∃ i,w'=W i):=⟨{w' // ∃ gx,isCore L x gx∧TG [turnB kb L.fb pv (sVal L k) k++(gd++e.1),gC++(gW++gP)] w [turnB kb L.fb pv (sVal L k) k,gd,e.1,gx,gW,gP] w'},Subtype.val,⟨⟨_,gC,HX.out,HT.out.drew⟩,rfl⟩,fun i=>i.2,fun w' h=>⟨⟨w',h⟩,rfl⟩⟩
 have hne:Nonempty ι:=hW0.elim fun i _=>⟨i⟩
 have b0:∀ i,(W i).cell? ⟨bk,0,none⟩=some (ptr' kb):=fun i=>by obtain ⟨_,_,T⟩:=hend i;exact T.mem_cell 2 HB.out 0
 have k10:∀ i,(W i).cell? ⟨kb,10,none⟩=some (ptr' q.b):=fun i=>by obtain ⟨_,_,T⟩:=hend i;exact HSV.out ▸ T.cell 0 0 rfl 10
 have k1:∀ i,(W i).cell? ⟨kb,1,none⟩=some (.int .i64 k.th):=fun i=>by obtain ⟨_,_,T⟩:=hend i;exact T.cell 0 0 rfl 1
 have m1:∀ i,Calls Tryz.prog 38 #[ptr' q.b] (W i) fun e w2=>e=.returned (ptr' q.lb)∧∃ j,w2=W j:=fun i=>by
  obtain ⟨_,hg,T⟩:=hend i
  refine (DoesG.use (HLO.out _ hg) T [3] rfl rfl).mono ?_
  rintro e w2 ⟨gs,⟨rfl,g3,hg3,rfl⟩,T2⟩
  exact ⟨rfl,hin _ ⟨g3,hg3,T2⟩⟩
 have m2:∀ i,Calls Tryz.prog 255 #[ptr' q.lb,.int .i64 k.th] (W i) fun e w2=>e=.returned (.bool mv)∧∃ j,w2=W j:=fun i=>by
  obtain ⟨_,hg,T⟩:=hend i
  refine (DoesG.use (HLM.out _ hg) T [3] rfl rfl).mono ?_
  rintro e w2 ⟨gs,⟨rfl,g3,hg3,rfl⟩,T2⟩
  exact ⟨rfl,hin _ ⟨g3,hg3,T2⟩⟩
 refine wp_region_cls W (by kernel_rfl) (by kernel_rfl) hW0 ?_
 repeat (go_big_quiet_step ((first | (go_at_call 38;with_reducible exact m1 _) | (go_at_call 255;with_reducible exact m2 _))))
 refine wpQuiet_nil ?_
 intro _ hw
 obtain ⟨iq,hw2⟩:=hw
 subst hw2
 obtain ⟨g1,hx1,T⟩:=hend iq
 have HT:=Lib.hid T
 generalize W iq=w1 at HT ⊢
 clear T hend hin hW0 hne
 have HX1:=Lib.hid hx1
 clear hx1 b0 k10 k1 m1 m2
 go_wp2
 go_ret
 exact ⟨_,YRT.of ⟨_,_,by rw [HMV.out];rfl,⟨gd,g1,gW,gP,HD.out,HX1.out,HW.out,HPP.out,rfl,rfl⟩,rfl⟩,HT.out.sum2⟩
set_option maxRecDepth 100000 in
set_option maxHeartbeats 4000000 in
theorem aUnlock (hz:repT L kb pv e ⟨k,x,ws,p⟩ gK gF) (hp:preAT .unlock ⟨k,x,ws,p⟩) (bk:Nat) (hb:kBox kb bk e) :
 DoesG Tryz.prog 266 #[ptr' bk] [gK,gF] (ART L kb pv e (runAT .unlock ⟨k,x,ws,p⟩)):=by
 obtain ⟨ho,hh,hwho,hth1⟩:=hp
 obtain ⟨gd,gC,gW,gP,hd,hx,hw,hpp,rfl,rfl⟩:=hz
 obtain ⟨i,q,s,S,hki,hq,hs,hS,hsv,hsh,hss,hwh,hwo,hrb,ht0,ht1⟩:=turn_sh hx hw ho hh
 rw [hss] at hwho
 have hth:0≤k.th∧k.th≤1000000:=⟨ho.th,hth1⟩
 clear hth1
 have hwho:s.who=k.th+1:=hwho
 rw [show runAT .unlock ⟨k,x,ws,p⟩=⟨k,{ x with shs:=x.shs.set i { s with who:=0,turns:=s.turns } },ws,p⟩ by
  simp only [runAT,ZT.onSh,hss,hsh]]
 have HLO:=Lib.hid (fun (g:List Blk) (hg:isCore L x g)=>coreLockOf_r hg hq hs)
 have HLT:=Lib.hid (fun (g:List Blk) (hg:isCore L x g)=>coreLockDo (v:=.int .i64 0) hg hq hs fun g hl=>lockLeave_g k.th (hwho ▸ hl) ⟨hth.1,by omega⟩)
 clear hth ho hh hki hq hs hS hsh hss hwh hwo hrb ht0 ht1 hwho
 intro w hw
 have T0:=TG.refl hw
 have HT:=Lib.hid T0
 clear hw T0
 have HT:=Lib.hid (HT.out.sum (H':=[turnB kb L.fb pv (sVal L k) k,gd,e.1,gC,gW,gP]))
 have HX:=Lib.hid hx
 have HD:=Lib.hid hd
 have HW:=Lib.hid hw
 have HPP:=Lib.hid hpp
 have HSV:=Lib.hid hsv
 clear hx hd hw hpp hsv
 have HB:=Lib.hid (show cl bk 56 #[ptr' kb]∈e.1 from hb)
 clear hb
 have ltb:=HT.out.mem_lt 2 HB.out
 simp only [] at ltb
 go_enter Tryz.func266,Tryz.ntmps266
 go_wp2_with fail
 obtain ⟨ι,W,hW0,hend,hin⟩:∃ (ι:Type) (W:ι→World),(∃ i,World.drew w=W i)∧(∀ i,∃ gx,isCore L x gx∧TG [turnB kb L.fb pv (sVal L k) k++(gd++e.1),gC++(gW++gP)] w [turnB kb L.fb pv (sVal L k) k,gd,e.1,gx,gW,gP] (W i))∧(∀ w',(∃ gx,isCore L x gx∧TG [turnB kb L.fb pv (sVal L k) k++(gd++e.1),gC++(gW++gP)] w [turnB kb L.fb pv (sVal L k) k,gd,e.1,gx,gW,gP] w')→∃ i,w'=W i):=⟨{w' // ∃ gx,isCore L x gx∧TG [turnB kb L.fb pv (sVal L k) k++(gd++e.1),gC++(gW++gP)] w [turnB kb L.fb pv (sVal L k) k,gd,e.1,gx,gW,gP] w'},Subtype.val,⟨⟨_,gC,HX.out,HT.out.drew⟩,rfl⟩,fun i=>i.2,fun w' h=>⟨⟨w',h⟩,rfl⟩⟩
 have hne:Nonempty ι:=hW0.elim fun i _=>⟨i⟩
 have b0:∀ i,(W i).cell? ⟨bk,0,none⟩=some (ptr' kb):=fun i=>by obtain ⟨_,_,T⟩:=hend i;exact T.mem_cell 2 HB.out 0
 have k10:∀ i,(W i).cell? ⟨kb,10,none⟩=some (ptr' q.b):=fun i=>by obtain ⟨_,_,T⟩:=hend i;exact HSV.out ▸ T.cell 0 0 rfl 10
 have k1:∀ i,(W i).cell? ⟨kb,1,none⟩=some (.int .i64 k.th):=fun i=>by obtain ⟨_,_,T⟩:=hend i;exact T.cell 0 0 rfl 1
 have m1:∀ i,Calls Tryz.prog 38 #[ptr' q.b] (W i) fun e w2=>e=.returned (ptr' q.lb)∧∃ j,w2=W j:=fun i=>by
  obtain ⟨_,hg,T⟩:=hend i
  refine (DoesG.use (HLO.out _ hg) T [3] rfl rfl).mono ?_
  rintro e w2 ⟨gs,⟨rfl,g3,hg3,rfl⟩,T2⟩
  exact ⟨rfl,hin _ ⟨g3,hg3,T2⟩⟩
 refine wp_region_mix (fun w'=>∃ i,w'=W i) 9 (by kernel_rfl) (by kernel_rfl) hW0 ?_
 simp only [TD4]
 repeat (go_big_quiet_step ((first | (go_at_call 38;with_reducible exact m1 _))))
 refine wpQuiet_nil ?_
 intro _ hw'
 obtain ⟨iq,hw''⟩:=hw'
 subst hw''
 obtain ⟨g1,hx1,T⟩:=hend iq
 have HT:=Lib.hid T
 generalize W iq=w1 at HT ⊢
 clear T hend hin hW0 hne
 have HX1:=Lib.hid hx1
 clear hx1 b0 k10 k1 m1
 go_wp2_with fail
 refine (DoesG.use (HLT.out _ HX1.out) (HT.out) [3] rfl rfl).mono ?_
 rintro e w1 ⟨gs,⟨rfl,g2,hx2,rfl⟩,Ta⟩
 simp only [PU] at Ta
 have HX:=Lib.hid hx2
 clear hx2
 have HT:=Lib.hid Ta
 clear Ta
 go_wp2_with fail
 refine ⟨rfl,?_⟩
 go_wp2
 exact bodyPost_end (results_none rfl _ _ _) rfl ⟨_,ART.of ⟨e,leT.refl e,_,_,rfl,⟨gd,_,gW,gP,HD.out,HX.out,HW.out,HPP.out,rfl,rfl⟩,rfl⟩,HT.out.sum2⟩
end
end
end Go.Proofs.YtblhfbcodbjgcaaGreat
