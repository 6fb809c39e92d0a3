import Derived.Test.YtikpbibeagbccaaGreatSV38
import Derived.Test.YtikpbibeagbccaaGreatSV28
import Derived.Test.YtikpbibeagbccaaGreatSV4
set_option maxRecDepth 100000
set_option maxHeartbeats 4000000
namespace Go.Proofs.YtikpbibeagbccaaGreat
set_option linter.unusedVariables false
set_option linter.unusedSimpArgs false
open Go.Proofs.Tryz
section
open Go.RowKit Go.Shelf
section
variable {L:Lay} {sb:Nat} {S:SvS} {N:Nat} {vo va vc:Value} {go ga gc gJ gW gZ:List Blk}
theorem qrk (hn:SvN N S) (hN:N<999998) (hr:Yb L sb S vo va vc go ga gc) (hi:qgh L S gJ gW gZ) {t:Nat} (ht:t<S.own.length) (id dl per:Int)
 (hd:(t:Int)=(S.own.length:Int) - 1):Qa prog 44 #[Qb sb,.int .i64 t,.int .i64 (S.all.length+1),.agg (Qs.cells ⟨7,id,dl,per⟩)] [Q2 sb L.fb vo va vc,go,gJ,gZ] (BgR L sb S vo va vc go t ⟨7,id,dl,per⟩):=by
 obtain ⟨avo,capo,rfl⟩:=Qr.val hr.o;have HJ:=Vh hi.j;have HZ:=Vh hi.z;have htr:S.z.x.tr.length≤1000000:=by have:=hn.glo.zn.core.tr;omega
 have hol:=hn.ol;obtain ⟨NO,hNO⟩:∃ x,((S.all.length:Int)+1)=x:=⟨_,rfl⟩;have HRO:=Vh hr.o;refine GO fun w HT=>?_
 obtain ⟨sv0,sv1⟩:=Ce2 (HT.out.cell 0 0 rfl) 0 1;simp only [Q2,GE3] at sv0 sv1;have lth:=HT.out.lt 0 0 rfl;simp only [] at lth;obtain ⟨o,ho⟩:∃ o,S.own[t]?=some o:=⟨_,List.getElem?_eq_getElem ht⟩;obtain ⟨rb,cp,hv,hcell⟩:=Jv HRO.out HT.out 1 rfl (by simp) (k:=t) (x:=ifO (o.map fun a=>((S.jobAt a).w,(S.jobAt a).kb))) (by unfold SvS.os;rw [List.getElem?_map,List.getElem?_map,ho];rfl);obtain ⟨rfl,rfl⟩:avo=some ⟨rb,0,none⟩∧capo=cp:=by cases hv;exact ⟨rfl,rfl⟩
 have ltb:rb<w.heap.size:=by
  obtain ⟨b',c',cur,hv',hg',_⟩:=HRO.out.open (by omega);cases hv'
  have:=HT.out.lt 1 0 (p:=(rb,.cells cur 88)) (by show go[0]?=_;rw [hg'];rfl);exact this
 clear hv;have HF:=Vh (qvv (th:=(t:Int)) (no:=NO) (c:=⟨7,id,dl,per⟩) rfl);have HBE:=Vh (q2g HZ.out htr (t:Int) ((S.all.length:Int)+1) (by omega));have q1:((t:Int) == (S.own.length:Int) - 1)=true:=by rw [hd];exact beq_self_eq_true _
 have hdd:decide ((t:Int)=(S.own.length:Int) - 1)=decide ((7:Int)=7):=by rw [decide_eq_true hd];rfl
 cases o with
 | none =>
   have hb:S.busyAt t=false:=by unfold SvS.busyAt;rw [List.getD_eq_getElem?_getD,ho];rfl
   have hnq:=qa5;change _=some Value.nilIface at hcell
   have HJ':=HJ;have HE:=Vh (qcz (c:=⟨7,id,dl,per⟩) ht hdd hb (show (1:Int)≤7∧(7:Int)≤7 by decide));clear hdd hd;clear hr hi hn ho;simp only [Qs.cells];rw [hNO] at HBE ⊢;have HT:=Vh (HT.out.alloc (k:=w.heap.size) rfl 32 #[.int .i64 7,.int .u64 id,.int .u64 dl,.int .u64 per]);obtain ⟨W0,hW0⟩:∃ W0,W0=w.alloc (.cells #[.int .i64 7,.int .u64 id,.int .u64 dl,.int .u64 per] 32):=⟨_,rfl⟩;go_enter func44,ntmps44
   go_wp2_with fail
   refine Qa.run (HBE.out) (HT.out) [3] ?_
   rintro e w1 gs ⟨kb,gN,gZ',rfl,hjn,hz',rfl⟩ HT;simp only [PU] at HT;have HX:=Vh (And.intro hjn hz');clear hjn hz';skip
   go_wp2
   go_ret2
   exact ⟨_,.inl ⟨kb,gN,_,gZ',HE.out,by rw [hNO,HF.out.1];rfl,by rw [hNO,HF.out.1];exact HX.out.1,HJ'.out,by rw [hNO,HF.out.2];exact HX.out.2,rfl⟩,HT.out.pick [0,1,2,5,3] rfl⟩
 | some a =>
   have hk:=X1 (hn.own a (List.mem_of_getElem? ho));have hbz:S.busyAt t=!(S.jobAt a).w.done:=by unfold SvS.busyAt;rw [List.getD_eq_getElem?_getD,ho];rfl
   have HD:=Vh (qcr hi.j hk);have hnq:=qdm (S.jobAt a).w (S.jobAt a).kb;have hmt:=qfq (S.jobAt a).w;have hcl:=qe5 (S.jobAt a).w;change _=some (Value.iface (S.jobAt a).w.ty (Qb (S.jobAt a).kb)) at hcell
   obtain ⟨d,hdn⟩:∃ d,(S.jobAt a).w.done=d:=⟨_,rfl⟩;obtain ⟨tyV,hty⟩:∃ y,(S.jobAt a).w.ty=y:=⟨_,rfl⟩;obtain ⟨fV,hfv⟩:∃ y,(S.jobAt a).w.fDone=y:=⟨_,rfl⟩;obtain ⟨bV,hbv⟩:∃ y,(S.jobAt a).kb=y:=⟨_,rfl⟩;rw [hdn,hfv,hbv] at HD;rw [hty,hfv] at hmt;rw [hty,hbv] at hnq;rw [hfv] at hcl;rw [hdn] at hbz;rw [hty,hbv] at hcell;clear hk hdn hty hfv hbv;cases d with
   | true =>
     have HE:=Vh (qcz (c:=⟨7,id,dl,per⟩) ht hdd hbz (show (1:Int)≤7∧(7:Int)≤7 by decide));clear hdd hd hbz;clear hr hi hn ho;simp only [Qs.cells];rw [hNO] at HBE ⊢;have HT:=Vh (HT.out.alloc (k:=w.heap.size) rfl 32 #[.int .i64 7,.int .u64 id,.int .u64 dl,.int .u64 per]);obtain ⟨W0,hW0⟩:∃ W0,W0=w.alloc (.cells #[.int .i64 7,.int .u64 id,.int .u64 dl,.int .u64 per] 32):=⟨_,rfl⟩;go_enter func44,ntmps44
     go_wp2_with fail
     go_wp2_with fail
     refine Qa.run (HD.out) (HT.out) [2] ?_
     rintro e w1 gs ⟨gJ',rfl,hj',rfl⟩ HT;simp only [PU] at HT;have HJ':=Vh hj';clear hj' sv0 sv1 hcell;have sv0:=HT.out.cell 0 0 rfl 0;simp only [Q2,GE3] at sv0;have lth:=HT.out.lt 0 0 rfl;simp only [] at lth;obtain ⟨b0,b1,b2,b3⟩:=Ce4 (HT.out.cell 4 0 rfl) 0 1 2 3;simp only [GE4] at b0 b1 b2 b3;have ltq:=HT.out.lt 4 0 rfl;simp only [] at ltq;go_wp2_with fail
     refine Qa.run (HBE.out) (HT.out) [3] ?_
     rintro e w1 gs ⟨kb,gN,gZ',rfl,hjn,hz',rfl⟩ HT;simp only [PU] at HT;have HX:=Vh (And.intro hjn hz');clear hjn hz';skip
     go_wp2
     go_ret2
     exact ⟨_,.inl ⟨kb,gN,_,gZ',HE.out,by rw [hNO,HF.out.1];rfl,by rw [hNO,HF.out.1];exact HX.out.1,HJ'.out,by rw [hNO,HF.out.2];exact HX.out.2,rfl⟩,HT.out.pick [0,1,2,5,3] rfl⟩
   | false =>
     have HE:=Vh (qh1 (c:=⟨7,id,dl,per⟩) ht hdd hbz (show (1:Int)≤7∧(7:Int)≤7 by decide));clear hdd hd hbz;clear hr hi hn ho;simp only [Qs.cells];rw [hNO] at HBE ⊢;have HT:=Vh (HT.out.alloc (k:=w.heap.size) rfl 32 #[.int .i64 7,.int .u64 id,.int .u64 dl,.int .u64 per]);obtain ⟨W0,hW0⟩:∃ W0,W0=w.alloc (.cells #[.int .i64 7,.int .u64 id,.int .u64 dl,.int .u64 per] 32):=⟨_,rfl⟩;go_enter func44,ntmps44
     go_wp2_with fail
     go_wp2_with fail
     refine Qa.run (HD.out) (HT.out) [2] ?_
     rintro e w1 gs ⟨gJ',rfl,hj',rfl⟩ HT;simp only [PU] at HT;have HJ':=Vh hj';clear hj' sv0 sv1 hcell;have sv0:=HT.out.cell 0 0 rfl 0;simp only [Q2,GE3] at sv0;have lth:=HT.out.lt 0 0 rfl;simp only [] at lth;obtain ⟨b0,b1,b2,b3⟩:=Ce4 (HT.out.cell 4 0 rfl) 0 1 2 3;simp only [GE4] at b0 b1 b2 b3;have ltq:=HT.out.lt 4 0 rfl;simp only [] at ltq;go_wp2
     go_ret2
     exact ⟨_,.inr ⟨.nilIface,_,gZ,by rw [HE.out];decide,by rw [HE.out];rfl,HJ'.out,HZ.out,rfl⟩,HT.out.pick [0,1,2,3] rfl⟩
theorem qpl (hn:SvN N S) (hN:N<999998) (hr:Yb L sb S vo va vc go ga gc) (hi:qgh L S gJ gW gZ) {t:Nat} (ht:t<S.own.length) (id dl per:Int)
 (hd:(t:Int)≠(S.own.length:Int) - 1):Qa prog 44 #[Qb sb,.int .i64 t,.int .i64 (S.all.length+1),.agg (Qs.cells ⟨6,id,dl,per⟩)] [Q2 sb L.fb vo va vc,go,gJ,gZ] (BgR L sb S vo va vc go t ⟨6,id,dl,per⟩):=by
 obtain ⟨avo,capo,rfl⟩:=Qr.val hr.o;have HJ:=Vh hi.j;have HZ:=Vh hi.z;have htr:S.z.x.tr.length≤1000000:=by have:=hn.glo.zn.core.tr;omega
 have hol:=hn.ol;obtain ⟨NO,hNO⟩:∃ x,((S.all.length:Int)+1)=x:=⟨_,rfl⟩;have HRO:=Vh hr.o;refine GO fun w HT=>?_
 obtain ⟨sv0,sv1⟩:=Ce2 (HT.out.cell 0 0 rfl) 0 1;simp only [Q2,GE3] at sv0 sv1;have lth:=HT.out.lt 0 0 rfl;simp only [] at lth;obtain ⟨o,ho⟩:∃ o,S.own[t]?=some o:=⟨_,List.getElem?_eq_getElem ht⟩;obtain ⟨rb,cp,hv,hcell⟩:=Jv HRO.out HT.out 1 rfl (by simp) (k:=t) (x:=ifO (o.map fun a=>((S.jobAt a).w,(S.jobAt a).kb))) (by unfold SvS.os;rw [List.getElem?_map,List.getElem?_map,ho];rfl);obtain ⟨rfl,rfl⟩:avo=some ⟨rb,0,none⟩∧capo=cp:=by cases hv;exact ⟨rfl,rfl⟩
 have ltb:rb<w.heap.size:=by
  obtain ⟨b',c',cur,hv',hg',_⟩:=HRO.out.open (by omega);cases hv'
  have:=HT.out.lt 1 0 (p:=(rb,.cells cur 88)) (by show go[0]?=_;rw [hg'];rfl);exact this
 clear hv;have HF:=Vh (qvz (th:=(t:Int)) (no:=NO) (c:=⟨6,id,dl,per⟩) rfl);have HBE:=Vh (q2k HZ.out htr (t:Int) ((S.all.length:Int)+1));have q1:((t:Int) == (S.own.length:Int) - 1)=false:=beq_eq_false_iff_ne.2 hd;have hdd:decide ((t:Int)=(S.own.length:Int) - 1)=decide ((6:Int)=7):=by rw [decide_eq_false hd];rfl
 cases o with
 | none =>
   have hb:S.busyAt t=false:=by unfold SvS.busyAt;rw [List.getD_eq_getElem?_getD,ho];rfl
   have hnq:=qa5;change _=some Value.nilIface at hcell
   have HJ':=HJ;have HE:=Vh (qcz (c:=⟨6,id,dl,per⟩) ht hdd hb (show (1:Int)≤6∧(6:Int)≤7 by decide));clear hdd hd;clear hr hi hn ho;simp only [Qs.cells];rw [hNO] at HBE ⊢;have HT:=Vh (HT.out.alloc (k:=w.heap.size) rfl 32 #[.int .i64 6,.int .u64 id,.int .u64 dl,.int .u64 per]);obtain ⟨W0,hW0⟩:∃ W0,W0=w.alloc (.cells #[.int .i64 6,.int .u64 id,.int .u64 dl,.int .u64 per] 32):=⟨_,rfl⟩;go_enter func44,ntmps44
   go_wp2_with fail
   refine Qa.run (HBE.out) (HT.out) [3] ?_
   rintro e w1 gs ⟨kb,gN,gZ',rfl,hjn,hz',rfl⟩ HT;simp only [PU] at HT;have HX:=Vh (And.intro hjn hz');clear hjn hz';skip
   go_wp2
   go_ret2
   exact ⟨_,.inl ⟨kb,gN,_,gZ',HE.out,by rw [hNO,HF.out.1];rfl,by rw [hNO,HF.out.1];exact HX.out.1,HJ'.out,by rw [hNO,HF.out.2];exact HX.out.2,rfl⟩,HT.out.pick [0,1,2,5,3] rfl⟩
 | some a =>
   have hk:=X1 (hn.own a (List.mem_of_getElem? ho));have hbz:S.busyAt t=!(S.jobAt a).w.done:=by unfold SvS.busyAt;rw [List.getD_eq_getElem?_getD,ho];rfl
   have HD:=Vh (qcr hi.j hk);have hnq:=qdm (S.jobAt a).w (S.jobAt a).kb;have hmt:=qfq (S.jobAt a).w;have hcl:=qe5 (S.jobAt a).w;change _=some (Value.iface (S.jobAt a).w.ty (Qb (S.jobAt a).kb)) at hcell
   obtain ⟨d,hdn⟩:∃ d,(S.jobAt a).w.done=d:=⟨_,rfl⟩;obtain ⟨tyV,hty⟩:∃ y,(S.jobAt a).w.ty=y:=⟨_,rfl⟩;obtain ⟨fV,hfv⟩:∃ y,(S.jobAt a).w.fDone=y:=⟨_,rfl⟩;obtain ⟨bV,hbv⟩:∃ y,(S.jobAt a).kb=y:=⟨_,rfl⟩;rw [hdn,hfv,hbv] at HD;rw [hty,hfv] at hmt;rw [hty,hbv] at hnq;rw [hfv] at hcl;rw [hdn] at hbz;rw [hty,hbv] at hcell;clear hk hdn hty hfv hbv;cases d with
   | true =>
     have HE:=Vh (qcz (c:=⟨6,id,dl,per⟩) ht hdd hbz (show (1:Int)≤6∧(6:Int)≤7 by decide));clear hdd hd hbz;clear hr hi hn ho;simp only [Qs.cells];rw [hNO] at HBE ⊢;have HT:=Vh (HT.out.alloc (k:=w.heap.size) rfl 32 #[.int .i64 6,.int .u64 id,.int .u64 dl,.int .u64 per]);obtain ⟨W0,hW0⟩:∃ W0,W0=w.alloc (.cells #[.int .i64 6,.int .u64 id,.int .u64 dl,.int .u64 per] 32):=⟨_,rfl⟩;go_enter func44,ntmps44
     go_wp2_with fail
     go_wp2_with fail
     refine Qa.run (HD.out) (HT.out) [2] ?_
     rintro e w1 gs ⟨gJ',rfl,hj',rfl⟩ HT;simp only [PU] at HT;have HJ':=Vh hj';clear hj' sv0 sv1 hcell;have sv0:=HT.out.cell 0 0 rfl 0;simp only [Q2,GE3] at sv0;have lth:=HT.out.lt 0 0 rfl;simp only [] at lth;obtain ⟨b0,b1,b2,b3⟩:=Ce4 (HT.out.cell 4 0 rfl) 0 1 2 3;simp only [GE4] at b0 b1 b2 b3;have ltq:=HT.out.lt 4 0 rfl;simp only [] at ltq;go_wp2_with fail
     refine Qa.run (HBE.out) (HT.out) [3] ?_
     rintro e w1 gs ⟨kb,gN,gZ',rfl,hjn,hz',rfl⟩ HT;simp only [PU] at HT;have HX:=Vh (And.intro hjn hz');clear hjn hz';skip
     go_wp2
     go_ret2
     exact ⟨_,.inl ⟨kb,gN,_,gZ',HE.out,by rw [hNO,HF.out.1];rfl,by rw [hNO,HF.out.1];exact HX.out.1,HJ'.out,by rw [hNO,HF.out.2];exact HX.out.2,rfl⟩,HT.out.pick [0,1,2,5,3] rfl⟩
   | false =>
     have HE:=Vh (qh1 (c:=⟨6,id,dl,per⟩) ht hdd hbz (show (1:Int)≤6∧(6:Int)≤7 by decide));clear hdd hd hbz;clear hr hi hn ho;simp only [Qs.cells];rw [hNO] at HBE ⊢;have HT:=Vh (HT.out.alloc (k:=w.heap.size) rfl 32 #[.int .i64 6,.int .u64 id,.int .u64 dl,.int .u64 per]);obtain ⟨W0,hW0⟩:∃ W0,W0=w.alloc (.cells #[.int .i64 6,.int .u64 id,.int .u64 dl,.int .u64 per] 32):=⟨_,rfl⟩;go_enter func44,ntmps44
     go_wp2_with fail
     go_wp2_with fail
     refine Qa.run (HD.out) (HT.out) [2] ?_
     rintro e w1 gs ⟨gJ',rfl,hj',rfl⟩ HT;simp only [PU] at HT;have HJ':=Vh hj';clear hj' sv0 sv1 hcell;have sv0:=HT.out.cell 0 0 rfl 0;simp only [Q2,GE3] at sv0;have lth:=HT.out.lt 0 0 rfl;simp only [] at lth;obtain ⟨b0,b1,b2,b3⟩:=Ce4 (HT.out.cell 4 0 rfl) 0 1 2 3;simp only [GE4] at b0 b1 b2 b3;have ltq:=HT.out.lt 4 0 rfl;simp only [] at ltq;go_wp2
     go_ret2
     exact ⟨_,.inr ⟨.nilIface,_,gZ,by rw [HE.out];decide,by rw [HE.out];rfl,HJ'.out,HZ.out,rfl⟩,HT.out.pick [0,1,2,3] rfl⟩
theorem qpy (hn:SvN N S) (hN:N<999998) (hr:Yb L sb S vo va vc go ga gc) (hi:qgh L S gJ gW gZ) {t:Nat} (ht:t<S.own.length) (kd id dl per:Int) (h1:1≤kd) (h5:kd≤5)
 (hd:(t:Int)≠(S.own.length:Int) - 1):Qa prog 44 #[Qb sb,.int .i64 t,.int .i64 (S.all.length+1),.agg (Qs.cells ⟨kd,id,dl,per⟩)] [Q2 sb L.fb vo va vc,go,gJ,gZ] (BgR L sb S vo va vc go t ⟨kd,id,dl,per⟩):=by
 obtain ⟨avo,capo,rfl⟩:=Qr.val hr.o;have HJ:=Vh hi.j;have HZ:=Vh hi.z;have htr:S.z.x.tr.length≤1000000:=by have:=hn.glo.zn.core.tr;omega
 have hol:=hn.ol;obtain ⟨NO,hNO⟩:∃ x,((S.all.length:Int)+1)=x:=⟨_,rfl⟩;have HRO:=Vh hr.o;refine GO fun w HT=>?_
 obtain ⟨sv0,sv1⟩:=Ce2 (HT.out.cell 0 0 rfl) 0 1;simp only [Q2,GE3] at sv0 sv1;have lth:=HT.out.lt 0 0 rfl;simp only [] at lth;obtain ⟨o,ho⟩:∃ o,S.own[t]?=some o:=⟨_,List.getElem?_eq_getElem ht⟩;obtain ⟨rb,cp,hv,hcell⟩:=Jv HRO.out HT.out 1 rfl (by simp) (k:=t) (x:=ifO (o.map fun a=>((S.jobAt a).w,(S.jobAt a).kb))) (by unfold SvS.os;rw [List.getElem?_map,List.getElem?_map,ho];rfl);obtain ⟨rfl,rfl⟩:avo=some ⟨rb,0,none⟩∧capo=cp:=by cases hv;exact ⟨rfl,rfl⟩
 have ltb:rb<w.heap.size:=by
  obtain ⟨b',c',cur,hv',hg',_⟩:=HRO.out.open (by omega);cases hv'
  have:=HT.out.lt 1 0 (p:=(rb,.cells cur 88)) (by show go[0]?=_;rw [hg'];rfl);exact this
 clear hv;have HF:=Vh (qxd (th:=(t:Int)) (no:=NO) (c:=⟨kd,id,dl,per⟩) h5);have HBE:=Vh (q2c HZ.out htr (t:Int) ((S.all.length:Int)+1) ⟨kd,id,dl,per⟩ h1 h5);simp only [Qs.cells] at HBE;have q1:((t:Int) == (S.own.length:Int) - 1)=false:=beq_eq_false_iff_ne.2 hd;have q2:(kd == 7)=false:=beq_eq_false_iff_ne.2 (by omega);have q3:(kd == 6)=false:=beq_eq_false_iff_ne.2 (by omega);have hdd:decide ((t:Int)=(S.own.length:Int) - 1)=decide (kd=7):=by rw [decide_eq_false hd,decide_eq_false (by omega)]
 cases o with
 | none =>
   have hb:S.busyAt t=false:=by unfold SvS.busyAt;rw [List.getD_eq_getElem?_getD,ho];rfl
   have hnq:=qa5;change _=some Value.nilIface at hcell
   have HJ':=HJ;have HE:=Vh (qcz (c:=⟨kd,id,dl,per⟩) ht hdd hb ⟨h1,by show kd≤7;omega⟩);clear hdd hd;clear hr hi hn ho;simp only [Qs.cells];rw [hNO] at HBE ⊢;have HT:=Vh (HT.out.alloc (k:=w.heap.size) rfl 32 #[.int .i64 kd,.int .u64 id,.int .u64 dl,.int .u64 per]);obtain ⟨W0,hW0⟩:∃ W0,W0=w.alloc (.cells #[.int .i64 kd,.int .u64 id,.int .u64 dl,.int .u64 per] 32):=⟨_,rfl⟩;go_enter func44,ntmps44
   go_wp2_with fail
   refine Qc 7 (by kernel_rfl) (by kernel_rfl) ?_
   simp only [TD4]
   repeat (go_big_quiet_step ((fail)))
   refine wpQuiet_nil (QE fun nq=>?_)
   have HT:=Vh (HT.out.drewN nq);go_wp2_with fail
   refine Qa.run (HBE.out) (HT.out) [3] ?_
   rintro e w1 gs ⟨kb,gN,gZ',rfl,hjn,hz',rfl⟩ HT;simp only [PU] at HT;have HX:=Vh (And.intro hjn hz');clear hjn hz';go_wp2_with fail
   refine ⟨rfl,?_⟩
   go_wp2
   go_ret2
   exact ⟨_,.inl ⟨kb,gN,_,gZ',HE.out,by rw [hNO,HF.out.1];rfl,by rw [hNO,HF.out.1];exact HX.out.1,HJ'.out,by rw [hNO,HF.out.2];exact HX.out.2,rfl⟩,HT.out.pick [0,1,2,5,3] rfl⟩
 | some a =>
   have hk:=X1 (hn.own a (List.mem_of_getElem? ho));have hbz:S.busyAt t=!(S.jobAt a).w.done:=by unfold SvS.busyAt;rw [List.getD_eq_getElem?_getD,ho];rfl
   have HD:=Vh (qcr hi.j hk);have hnq:=qdm (S.jobAt a).w (S.jobAt a).kb;have hmt:=qfq (S.jobAt a).w;have hcl:=qe5 (S.jobAt a).w;change _=some (Value.iface (S.jobAt a).w.ty (Qb (S.jobAt a).kb)) at hcell
   obtain ⟨d,hdn⟩:∃ d,(S.jobAt a).w.done=d:=⟨_,rfl⟩;obtain ⟨tyV,hty⟩:∃ y,(S.jobAt a).w.ty=y:=⟨_,rfl⟩;obtain ⟨fV,hfv⟩:∃ y,(S.jobAt a).w.fDone=y:=⟨_,rfl⟩;obtain ⟨bV,hbv⟩:∃ y,(S.jobAt a).kb=y:=⟨_,rfl⟩;rw [hdn,hfv,hbv] at HD;rw [hty,hfv] at hmt;rw [hty,hbv] at hnq;rw [hfv] at hcl;rw [hdn] at hbz;rw [hty,hbv] at hcell;clear hk hdn hty hfv hbv;cases d with
   | true =>
     have HE:=Vh (qcz (c:=⟨kd,id,dl,per⟩) ht hdd hbz ⟨h1,by show kd≤7;omega⟩);clear hdd hd hbz;clear hr hi hn ho;simp only [Qs.cells];rw [hNO] at HBE ⊢;have HT:=Vh (HT.out.alloc (k:=w.heap.size) rfl 32 #[.int .i64 kd,.int .u64 id,.int .u64 dl,.int .u64 per]);obtain ⟨W0,hW0⟩:∃ W0,W0=w.alloc (.cells #[.int .i64 kd,.int .u64 id,.int .u64 dl,.int .u64 per] 32):=⟨_,rfl⟩;go_enter func44,ntmps44
     go_wp2_with fail
     go_wp2_with fail
     refine Qa.run (HD.out) (HT.out) [2] ?_
     rintro e w1 gs ⟨gJ',rfl,hj',rfl⟩ HT;simp only [PU] at HT;have HJ':=Vh hj';clear hj' sv0 sv1 hcell;have sv0:=HT.out.cell 0 0 rfl 0;simp only [Q2,GE3] at sv0;have lth:=HT.out.lt 0 0 rfl;simp only [] at lth;obtain ⟨b0,b1,b2,b3⟩:=Ce4 (HT.out.cell 4 0 rfl) 0 1 2 3;simp only [GE4] at b0 b1 b2 b3;have ltq:=HT.out.lt 4 0 rfl;simp only [] at ltq;go_wp2_with fail
     refine Qc 7 (by kernel_rfl) (by kernel_rfl) ?_
     simp only [TD4]
     repeat (go_big_quiet_step ((fail)))
     refine wpQuiet_nil (QE fun nq=>?_)
     have HT:=Vh (HT.out.drewN nq);go_wp2_with fail
     refine Qa.run (HBE.out) (HT.out) [3] ?_
     rintro e w1 gs ⟨kb,gN,gZ',rfl,hjn,hz',rfl⟩ HT;simp only [PU] at HT;have HX:=Vh (And.intro hjn hz');clear hjn hz';go_wp2_with fail
     refine ⟨rfl,?_⟩
     go_wp2
     go_ret2
     exact ⟨_,.inl ⟨kb,gN,_,gZ',HE.out,by rw [hNO,HF.out.1];rfl,by rw [hNO,HF.out.1];exact HX.out.1,HJ'.out,by rw [hNO,HF.out.2];exact HX.out.2,rfl⟩,HT.out.pick [0,1,2,5,3] rfl⟩
   | false =>
     have HE:=Vh (qh1 (c:=⟨kd,id,dl,per⟩) ht hdd hbz ⟨h1,by show kd≤7;omega⟩);clear hdd hd hbz;clear hr hi hn ho;simp only [Qs.cells];rw [hNO] at HBE ⊢;have HT:=Vh (HT.out.alloc (k:=w.heap.size) rfl 32 #[.int .i64 kd,.int .u64 id,.int .u64 dl,.int .u64 per]);obtain ⟨W0,hW0⟩:∃ W0,W0=w.alloc (.cells #[.int .i64 kd,.int .u64 id,.int .u64 dl,.int .u64 per] 32):=⟨_,rfl⟩;go_enter func44,ntmps44
     go_wp2_with fail
     go_wp2_with fail
     refine Qa.run (HD.out) (HT.out) [2] ?_
     rintro e w1 gs ⟨gJ',rfl,hj',rfl⟩ HT;simp only [PU] at HT;have HJ':=Vh hj';clear hj' sv0 sv1 hcell;have sv0:=HT.out.cell 0 0 rfl 0;simp only [Q2,GE3] at sv0;have lth:=HT.out.lt 0 0 rfl;simp only [] at lth;obtain ⟨b0,b1,b2,b3⟩:=Ce4 (HT.out.cell 4 0 rfl) 0 1 2 3;simp only [GE4] at b0 b1 b2 b3;have ltq:=HT.out.lt 4 0 rfl;simp only [] at ltq;go_wp2
     go_ret2
     exact ⟨_,.inr ⟨.nilIface,_,gZ,by rw [HE.out];decide,by rw [HE.out];rfl,HJ'.out,HZ.out,rfl⟩,HT.out.pick [0,1,2,3] rfl⟩
theorem qq6 (hn:SvN N S) (hN:N<999998) (hr:Yb L sb S vo va vc go ga gc) (hi:qgh L S gJ gW gZ) {t:Nat} (ht:t<S.own.length) (kd id dl per:Int) (h1:kd<1∨7<kd)
 (hd:(t:Int)≠(S.own.length:Int) - 1):Qa prog 44 #[Qb sb,.int .i64 t,.int .i64 (S.all.length+1),.agg (Qs.cells ⟨kd,id,dl,per⟩)] [Q2 sb L.fb vo va vc,go,gJ,gZ] (BgR L sb S vo va vc go t ⟨kd,id,dl,per⟩):=by
 obtain ⟨avo,capo,rfl⟩:=Qr.val hr.o;have HJ:=Vh hi.j;have HZ:=Vh hi.z;have htr:S.z.x.tr.length≤1000000:=by have:=hn.glo.zn.core.tr;omega
 have hol:=hn.ol;obtain ⟨NO,hNO⟩:∃ x,((S.all.length:Int)+1)=x:=⟨_,rfl⟩;have HRO:=Vh hr.o;refine GO fun w HT=>?_
 obtain ⟨sv0,sv1⟩:=Ce2 (HT.out.cell 0 0 rfl) 0 1;simp only [Q2,GE3] at sv0 sv1;have lth:=HT.out.lt 0 0 rfl;simp only [] at lth;obtain ⟨o,ho⟩:∃ o,S.own[t]?=some o:=⟨_,List.getElem?_eq_getElem ht⟩;obtain ⟨rb,cp,hv,hcell⟩:=Jv HRO.out HT.out 1 rfl (by simp) (k:=t) (x:=ifO (o.map fun a=>((S.jobAt a).w,(S.jobAt a).kb))) (by unfold SvS.os;rw [List.getElem?_map,List.getElem?_map,ho];rfl);obtain ⟨rfl,rfl⟩:avo=some ⟨rb,0,none⟩∧capo=cp:=by cases hv;exact ⟨rfl,rfl⟩
 have ltb:rb<w.heap.size:=by
  obtain ⟨b',c',cur,hv',hg',_⟩:=HRO.out.open (by omega);cases hv'
  have:=HT.out.lt 1 0 (p:=(rb,.cells cur 88)) (by show go[0]?=_;rw [hg'];rfl);exact this
 clear hv;have HBE:=Vh (qwc HZ.out (t:Int) ((S.all.length:Int)+1) ⟨kd,id,dl,per⟩ (by show kd<1∨5<kd;omega));simp only [Qs.cells] at HBE;have q1:((t:Int) == (S.own.length:Int) - 1)=false:=beq_eq_false_iff_ne.2 hd;have q2:(kd == 7)=false:=beq_eq_false_iff_ne.2 (by omega);have q3:(kd == 6)=false:=beq_eq_false_iff_ne.2 (by omega);have hdd:decide ((t:Int)=(S.own.length:Int) - 1)=decide (kd=7):=by rw [decide_eq_false hd,decide_eq_false (by omega)]
 have HE:=Vh (qsv (c:=⟨kd,id,dl,per⟩) ht hdd h1);cases o with
 | none =>
   have hb:S.busyAt t=false:=by unfold SvS.busyAt;rw [List.getD_eq_getElem?_getD,ho];rfl
   have hnq:=qa5;change _=some Value.nilIface at hcell
   have HJ':=HJ;clear hdd hd h1;clear hr hi hn ho;simp only [Qs.cells];rw [hNO] at HBE ⊢;have HT:=Vh (HT.out.alloc (k:=w.heap.size) rfl 32 #[.int .i64 kd,.int .u64 id,.int .u64 dl,.int .u64 per]);obtain ⟨W0,hW0⟩:∃ W0,W0=w.alloc (.cells #[.int .i64 kd,.int .u64 id,.int .u64 dl,.int .u64 per] 32):=⟨_,rfl⟩;go_enter func44,ntmps44
   go_wp2_with fail
   refine Qc 7 (by kernel_rfl) (by kernel_rfl) ?_
   simp only [TD4]
   repeat (go_big_quiet_step ((fail)))
   refine wpQuiet_nil (QE fun nq=>?_)
   have HT:=Vh (HT.out.drewN nq);go_wp2_with fail
   refine Qa.run (HBE.out) (HT.out) [3] ?_
   rintro e w1 gs ⟨rfl,rfl⟩ HT;simp only [PU] at HT;go_wp2_with fail
   refine ⟨rfl,?_⟩
   go_wp2
   go_ret2
   exact ⟨_,.inr ⟨.iface 135 (.pointer none),_,gZ,by rw [HE.out];decide,by rw [HE.out];rfl,HJ'.out,HZ.out,rfl⟩,HT.out.pick [0,1,2,3] rfl⟩
 | some a =>
   have hk:=X1 (hn.own a (List.mem_of_getElem? ho));have hbz:S.busyAt t=!(S.jobAt a).w.done:=by unfold SvS.busyAt;rw [List.getD_eq_getElem?_getD,ho];rfl
   have HD:=Vh (qcr hi.j hk);have hnq:=qdm (S.jobAt a).w (S.jobAt a).kb;have hmt:=qfq (S.jobAt a).w;have hcl:=qe5 (S.jobAt a).w;change _=some (Value.iface (S.jobAt a).w.ty (Qb (S.jobAt a).kb)) at hcell
   obtain ⟨d,hdn⟩:∃ d,(S.jobAt a).w.done=d:=⟨_,rfl⟩;obtain ⟨tyV,hty⟩:∃ y,(S.jobAt a).w.ty=y:=⟨_,rfl⟩;obtain ⟨fV,hfv⟩:∃ y,(S.jobAt a).w.fDone=y:=⟨_,rfl⟩;obtain ⟨bV,hbv⟩:∃ y,(S.jobAt a).kb=y:=⟨_,rfl⟩;rw [hdn,hfv,hbv] at HD;rw [hty,hfv] at hmt;rw [hty,hbv] at hnq;rw [hfv] at hcl;rw [hdn] at hbz;rw [hty,hbv] at hcell;clear hk hdn hty hfv hbv;cases d with
   | true =>
     clear hdd hd h1 hbz;clear hr hi hn ho;simp only [Qs.cells];rw [hNO] at HBE ⊢;have HT:=Vh (HT.out.alloc (k:=w.heap.size) rfl 32 #[.int .i64 kd,.int .u64 id,.int .u64 dl,.int .u64 per]);obtain ⟨W0,hW0⟩:∃ W0,W0=w.alloc (.cells #[.int .i64 kd,.int .u64 id,.int .u64 dl,.int .u64 per] 32):=⟨_,rfl⟩;go_enter func44,ntmps44
     go_wp2_with fail
     go_wp2_with fail
     refine Qa.run (HD.out) (HT.out) [2] ?_
     rintro e w1 gs ⟨gJ',rfl,hj',rfl⟩ HT;simp only [PU] at HT;have HJ':=Vh hj';clear hj' sv0 sv1 hcell;have sv0:=HT.out.cell 0 0 rfl 0;simp only [Q2,GE3] at sv0;have lth:=HT.out.lt 0 0 rfl;simp only [] at lth;obtain ⟨b0,b1,b2,b3⟩:=Ce4 (HT.out.cell 4 0 rfl) 0 1 2 3;simp only [GE4] at b0 b1 b2 b3;have ltq:=HT.out.lt 4 0 rfl;simp only [] at ltq;go_wp2_with fail
     refine Qc 7 (by kernel_rfl) (by kernel_rfl) ?_
     simp only [TD4]
     repeat (go_big_quiet_step ((fail)))
     refine wpQuiet_nil (QE fun nq=>?_)
     have HT:=Vh (HT.out.drewN nq);go_wp2_with fail
     refine Qa.run (HBE.out) (HT.out) [3] ?_
     rintro e w1 gs ⟨rfl,rfl⟩ HT;simp only [PU] at HT;go_wp2_with fail
     refine ⟨rfl,?_⟩
     go_wp2
     go_ret2
     exact ⟨_,.inr ⟨.iface 135 (.pointer none),_,gZ,by rw [HE.out];decide,by rw [HE.out];rfl,HJ'.out,HZ.out,rfl⟩,HT.out.pick [0,1,2,3] rfl⟩
   | false =>
     rcases h1 with h1 | h1
     ·clear hdd hd hbz
      clear hr hi hn ho;simp only [Qs.cells];rw [hNO] at HBE ⊢;have HT:=Vh (HT.out.alloc (k:=w.heap.size) rfl 32 #[.int .i64 kd,.int .u64 id,.int .u64 dl,.int .u64 per]);obtain ⟨W0,hW0⟩:∃ W0,W0=w.alloc (.cells #[.int .i64 kd,.int .u64 id,.int .u64 dl,.int .u64 per] 32):=⟨_,rfl⟩;go_enter func44,ntmps44
      go_wp2_with fail
      go_wp2_with fail
      refine Qa.run (HD.out) (HT.out) [2] ?_
      rintro e w1 gs ⟨gJ',rfl,hj',rfl⟩ HT;simp only [PU] at HT;have HJ':=Vh hj';clear hj' sv0 sv1 hcell;have sv0:=HT.out.cell 0 0 rfl 0;simp only [Q2,GE3] at sv0;have lth:=HT.out.lt 0 0 rfl;simp only [] at lth;obtain ⟨b0,b1,b2,b3⟩:=Ce4 (HT.out.cell 4 0 rfl) 0 1 2 3;simp only [GE4] at b0 b1 b2 b3;have ltq:=HT.out.lt 4 0 rfl;simp only [] at ltq;go_wp2_with fail
      refine Qc 7 (by kernel_rfl) (by kernel_rfl) ?_
      simp only [TD4]
      repeat (go_big_quiet_step ((fail)))
      refine wpQuiet_nil (QE fun nq=>?_)
      have HT:=Vh (HT.out.drewN nq);go_wp2_with fail
      refine Qa.run (HBE.out) (HT.out) [3] ?_
      rintro e w1 gs ⟨rfl,rfl⟩ HT;simp only [PU] at HT;go_wp2_with fail
      refine ⟨rfl,?_⟩
      go_wp2
      go_ret2
      exact ⟨_,.inr ⟨.iface 135 (.pointer none),_,gZ,by rw [HE.out];decide,by rw [HE.out];rfl,HJ'.out,HZ.out,rfl⟩,HT.out.pick [0,1,2,3] rfl⟩
     ·have q4:kd ≥ 1:=by omega
      clear hdd hd hbz;clear hr hi hn ho;simp only [Qs.cells];rw [hNO] at HBE ⊢;have HT:=Vh (HT.out.alloc (k:=w.heap.size) rfl 32 #[.int .i64 kd,.int .u64 id,.int .u64 dl,.int .u64 per]);obtain ⟨W0,hW0⟩:∃ W0,W0=w.alloc (.cells #[.int .i64 kd,.int .u64 id,.int .u64 dl,.int .u64 per] 32):=⟨_,rfl⟩;go_enter func44,ntmps44
      go_wp2_with fail
      go_wp2_with fail
      refine Qa.run (HD.out) (HT.out) [2] ?_
      rintro e w1 gs ⟨gJ',rfl,hj',rfl⟩ HT;simp only [PU] at HT;have HJ':=Vh hj';clear hj' sv0 sv1 hcell;have sv0:=HT.out.cell 0 0 rfl 0;simp only [Q2,GE3] at sv0;have lth:=HT.out.lt 0 0 rfl;simp only [] at lth;obtain ⟨b0,b1,b2,b3⟩:=Ce4 (HT.out.cell 4 0 rfl) 0 1 2 3;simp only [GE4] at b0 b1 b2 b3;have ltq:=HT.out.lt 4 0 rfl;simp only [] at ltq;go_wp2_with fail
      refine Qc 7 (by kernel_rfl) (by kernel_rfl) ?_
      simp only [TD4]
      repeat (go_big_quiet_step ((fail)))
      refine wpQuiet_nil (QE fun nq=>?_)
      have HT:=Vh (HT.out.drewN nq);go_wp2_with fail
      refine Qa.run (HBE.out) (HT.out) [3] ?_
      rintro e w1 gs ⟨rfl,rfl⟩ HT;simp only [PU] at HT;go_wp2_with fail
      refine ⟨rfl,?_⟩
      go_wp2
      go_ret2
      exact ⟨_,.inr ⟨.iface 135 (.pointer none),_,gZ,by rw [HE.out];decide,by rw [HE.out];rfl,HJ'.out,HZ.out,rfl⟩,HT.out.pick [0,1,2,3] rfl⟩
theorem q05 (hn:SvN N S) (hN:N<999998) (hr:Yb L sb S vo va vc go ga gc) (hi:qgh L S gJ gW gZ) {t:Nat} (ht:t<S.own.length) (c:Qs) :
 Qa prog 44 #[Qb sb,.int .i64 t,.int .i64 (S.all.length+1),.agg c.cells] [Q2 sb L.fb vo va vc,go,gJ,gZ] (BgR L sb S vo va vc go t c):=by
 by_cases hd:decide ((t:Int)=(S.own.length:Int) - 1)=decide (c.kind=7)
 ·have hdi:=decide_eq_decide.1 hd
  obtain ⟨kd,id,dl,per⟩:=c;by_cases h7:kd=7
  ·subst h7
   exact qrk hn hN hr hi ht id dl per (hdi.2 rfl)
  ·have hne:(t:Int)≠(S.own.length:Int) - 1:=fun e=>h7 (hdi.1 e)
   by_cases h6:kd=6
   ·subst h6
    exact qpl hn hN hr hi ht id dl per hne
   ·by_cases h1:kd<1∨7<kd
    ·exact qq6 hn hN hr hi ht kd id dl per h1 hne
    ·exact qpy hn hN hr hi ht kd id dl per (by omega) (by omega) hne
 ·exact qtx hn hN hr hi ht c hd
end
theorem qy0:(prog.info? 88).map (fun i=>(i.zero,i.size,i.bytes))=some (some .nilIface,1,16):=by kernel_rfl
section
variable {L:Lay} {sb:Nat} {S:SvS} {N:Nat} {g:List Blk}
theorem qnr {th:Int} {c:Qs} (h:S.callE th c≠0) (kb:Nat):S.callS kb th c=S∧S.callNo th c=0:=⟨if_neg h,if_neg h⟩
theorem qj1 {th:Int} {c:Qs} (h:S.callE th c=0) (kb:Nat):S.callS kb th c=S.callT kb th c∧S.callNo th c=S.all.length+1:=⟨if_pos h,if_pos h⟩
theorem q1i {th:Int} {c:Qs} (h:th<0∨(S.own.length:Int)≤th):S.callE th c=4:=if_pos h
theorem qwi {gJ gW gZ gN:List Blk} {th:Int} {c:Qs} {kb:Nat} (hj:Zr L S.all gJ) (hw:qgm L S.crew gW) (hz:isZ L { S.z with x:=qvd (qz2 th (S.all.length+1) c) S.z.x } gZ) (hn:qb5 L kb 0 (Jb th (S.all.length+1) c) gN) :
 qgh L (S.callT kb th c) (gJ++gN) gW gZ:=⟨J5.snoc hj hn,hw,hz⟩
theorem qri {vo va vc:Value} {go ga gc:List Blk} {va' x:Value} {ga':List Blk} {b t:Nat} {cur:Array Value} {c:Qs} {kb:Nat} (hn:SvN N S) (hr:Yb L sb S vo va vc go ga gc) (hgo:go=[cl b 88 cur])
 (hx:qog ⟨kb,0,Jb t (S.all.length+1) c⟩=x) (ha:Qr 88 1 va' (S.all.length+1) (S.all.map qog++[x]) ga') :
 Yb L sb (S.callT kb t c) vo va' vc [cl b 88 (cur.setIfInBounds t x)] ga' gc:=by
 subst hx;refine ⟨?_,?_,hr.c⟩
 ·have h1:=hr.o.set hgo t (qog ⟨kb,0,Jb t (S.all.length+1) c⟩)
  rw [qv3 hn]
  show Qr _ 1 vo (S.own.set _ _).length ((S.os.set _ _).map ifO) _
  rw [List.length_set,List.map_set,Int.toNat_natCast];exact h1
 ·show Qr _ 1 va' (S.all++[_]).length (List.map qog (S.all++[_])) _
  rw [List.length_append,List.map_append];exact ha
def q19 (L:Lay) (sb:Nat) (S:SvS) (th:Int) (c:Qs) (e:Ending) (gs:GH):Prop :=
 ∃ kb g',e=.returned (.tuple #[.int .i64 (S.callNo th c),.int .i64 (S.callE th c)])∧qe8 L sb (S.callS kb th c) g'∧gs=[g']
theorem qu5 {vo va vc:Value} {go ga gc gJ gW gZ:List Blk} {th:Int} {c:Qs} (h:th<0∨(S.own.length:Int)≤th) (hr:Yb L sb S vo va vc go ga gc) (hi:qgh L S gJ gW gZ) :
 q19 L sb S th c (.returned (.tuple #[.int .i64 0,.int .i64 4])) [Q2 sb L.fb vo va vc++(go++(ga++(gc++(gJ++(gW++gZ)))))]:=by
 have HE:=q1i (c:=c) h;obtain ⟨h1,h2⟩:=qnr (S:=S) (th:=th) (c:=c) (by rw [HE];decide) 0;exact ⟨0,_,by rw [h2,HE],by rw [h1];exact ⟨vo,va,vc,go,ga,gc,gJ,gW,gZ,hr,hi,rfl⟩,rfl⟩
theorem q3i (h:qe8 L sb S g) (hn:SvN N S) (hN:N<999998) (th:Int) (c:Qs):Qa prog 14 #[Qb sb,.int .i64 th,.agg c.cells] [g] (q19 L sb S th c):=by
 by_cases h0:th<0
 ·have h4:th<0∨(S.own.length:Int)≤th:=.inl h0
  obtain ⟨vo,va,vc,go,ga,gc,gJ,gW,gZ,hr,hi,rfl⟩:=h;obtain ⟨avo,capo,rfl⟩:=Qr.val hr.o;obtain ⟨ava,capa,rfl⟩:=Qr.val hr.a;refine GO fun w HT=>?_
  have HT:=Vh (HT.out.sum (H':=[Q2 sb L.fb (.slice avo S.own.length capo) (.slice ava S.all.length capa) vc,go,ga,gc,gJ,gW,gZ]));obtain ⟨sv0,sv1,sv2,sv3⟩:=Ce4 (HT.out.cell 0 0 rfl) 0 1 2 3;simp only [Q2,GE3] at sv0 sv1 sv2 sv3;have lth:=HT.out.lt 0 0 rfl;simp only [] at lth;have HR:=Vh hr;have HSI:=Vh hi;have hol:=hn.ol;have hal:=hn.al;clear hr hi hn;have HC4:=Vh h4;clear h4;obtain ⟨kd,id,dl,per⟩:=c;simp only [Qs.cells];go_enter func14,ntmps14
  go_wp2
  go_ret2
  exact ⟨_,qu5 HC4.out HR.out HSI.out,(HT.out.alloc0 _).sum⟩
 ·by_cases h1:(S.own.length:Int)≤th
  ·have h4:th<0∨(S.own.length:Int)≤th:=.inr h1
   obtain ⟨vo,va,vc,go,ga,gc,gJ,gW,gZ,hr,hi,rfl⟩:=h;obtain ⟨avo,capo,rfl⟩:=Qr.val hr.o;obtain ⟨ava,capa,rfl⟩:=Qr.val hr.a;refine GO fun w HT=>?_
   have HT:=Vh (HT.out.sum (H':=[Q2 sb L.fb (.slice avo S.own.length capo) (.slice ava S.all.length capa) vc,go,ga,gc,gJ,gW,gZ]));obtain ⟨sv0,sv1,sv2,sv3⟩:=Ce4 (HT.out.cell 0 0 rfl) 0 1 2 3;simp only [Q2,GE3] at sv0 sv1 sv2 sv3;have lth:=HT.out.lt 0 0 rfl;simp only [] at lth;have HR:=Vh hr;have HSI:=Vh hi;have hol:=hn.ol;have hal:=hn.al;clear hr hi hn;have HC4:=Vh h4;clear h4;obtain ⟨kd,id,dl,per⟩:=c;simp only [Qs.cells];go_enter func14,ntmps14
   go_wp2
   go_ret2
   exact ⟨_,qu5 HC4.out HR.out HSI.out,(HT.out.alloc0 _).sum⟩
  ·obtain ⟨t,rfl⟩:∃ t:Nat,th=(t:Int):=⟨th.toNat,by omega⟩
   have ht:t<S.own.length:=by omega
   obtain ⟨vo,va,vc,go,ga,gc,gJ,gW,gZ,hr,hi,rfl⟩:=h;obtain ⟨avo,capo,rfl⟩:=Qr.val hr.o;obtain ⟨ava,capa,rfl⟩:=Qr.val hr.a;refine GO fun w HT=>?_
   have HT:=Vh (HT.out.sum (H':=[Q2 sb L.fb (.slice avo S.own.length capo) (.slice ava S.all.length capa) vc,go,ga,gc,gJ,gW,gZ]));obtain ⟨sv0,sv1,sv2,sv3⟩:=Ce4 (HT.out.cell 0 0 rfl) 0 1 2 3;simp only [Q2,GE3] at sv0 sv1 sv2 sv3;have lth:=HT.out.lt 0 0 rfl;simp only [] at lth;have HR:=Vh hr;have HSI:=Vh hi;have hol:=hn.ol;have hal:=hn.al;have HB:=Vh (q05 hn hN hr hi ht c);obtain ⟨b0,c0,cur,hv',hg',hle,_,hsz,_⟩:=hr.o.open (by omega);have HGO:=Vh hg';obtain ⟨rfl,rfl⟩:avo=some ⟨b0,0,none⟩∧capo=c0:=by cases hv';exact ⟨rfl,rfl⟩
   subst hg';have HN:=Vh hn;clear hr hi hn hv';simp only [Qs.cells] at HB ⊢;go_enter func14,ntmps14
   go_wp2_with fail
   have HT:=Vh (HT.out.alloc (k:=w.heap.size) rfl 32 #[.int .i64 c.kind,.int .u64 c.id,.int .u64 c.dl,.int .u64 c.per]);refine (Qa.use HB.out HT.out [0,1,4,6] rfl rfl).mono ?_
   rintro e w1 ⟨gs,hB,Ta⟩;rcases hB with ⟨kb,gN,gJ',gZ',hE,rfl,hjn,hj',hz',rfl⟩ | ⟨v,gJ',gZ',hE,rfl,hj',hz',rfl⟩
   ·simp only [PU] at Ta
    have HJN:=Vh (qwi (th:=(t:Int)) (c:=c) hj' HSI.out.w hz' hjn);have HT:=Vh (Ta.sum2 (H':=[Q2 sb L.fb (.slice (some ⟨b0,0,none⟩) S.own.length capo) (.slice ava S.all.length capa) vc,[cl b0 88 cur],ga,gc,gJ'++gN,gW,gZ',[cl w.heap.size 32 #[.int .i64 c.kind,.int .u64 c.id,.int .u64 c.dl,.int .u64 c.per]]]));have HE:=Vh hE;obtain ⟨ty,hty⟩:∃ ty,(Jb (t:Int) (S.all.length+1) c).ty=ty:=⟨_,rfl⟩;have HTY:=Vh (show qog ⟨kb,0,Jb (t:Int) (S.all.length+1) c⟩=.iface ty (Qb kb) by unfold qog;rw [hty]);rw [hty];have hcur:(cur[t]?).isSome=true:=by rw [Array.getElem?_eq_getElem (by omega)];rfl
    obtain ⟨ocv,hoc⟩:=Option.isSome_iff_exists.1 hcur;have kc:=HT.out.cell 1 0 rfl t;rw [hoc] at kc;have fkc:=HT.out.free 1 0 rfl t;have ltk:=HT.out.lt 1 0 rfl;have nek:=HT.out.ne 0 0 1 0 (by decide) rfl rfl;simp only [] at ltk nek;have nek2:=Ne.symm nek;clear Ta hjn hj' hz' hty hcur hoc hE sv0 sv1 sv2 sv3;obtain ⟨sv0,sv1,sv2,sv3⟩:=Ce4 (HT.out.cell 0 0 rfl) 0 1 2 3;have fsv2:=HT.out.free 0 0 rfl 2;simp only [Q2,GE3] at sv0 sv1 sv2 sv3;have lth:=HT.out.lt 0 0 rfl;simp only [] at lth;have HC:=Vh (show (S.all.length:Nat)≤N from hal);have hone:∀ u∈[Value.iface ty (Qb kb)],u.oneCell'=true:=fun u hu=>by rw [List.mem_singleton.1 hu];rfl
    have hnews:=X8 (w1.setCell ⟨b0,t,none⟩ (.iface ty (Qb kb))) 88 [.iface ty (Qb kb)];rw [Ze] at hnews;have hnews:=Vh hnews
    go_wp2_with (
     at_builtin
     (with_reducible refine Xj rfl (.tmp 54) (.tmp 56) 83 rfl 88 1 16 _ underlying83 qy0 rfl (by decide) ((HT.out.set 1 0 rfl t (.iface ty (Qb kb))).alloc0 _) 2 rfl rfl HR.out.a rfl ⟨w1.heap.size,0,none⟩ 1 1 [.iface ty (Qb kb)] rfl rfl hnews.out hone (by unfold maxLen;omega) (by omega) ?_)
     intro v1 w2 g1 r1 T1;obtain ⟨a1,cap1,hv1⟩:=Qr.val r1;subst hv1;simp only [List.set_cons_zero,List.set_cons_succ] at T1;have T1:=Vh T1;have d2:=T1.out.cell 0 0 rfl 2;have fd2:=T1.out.free 0 0 rfl 2;have ltd:=T1.out.lt 0 0 rfl;simp only [Q2,GE3] at d2 ltd
     have r1:=Vh r1)
    go_ret2
    exact ⟨_,⟨kb,_,by rw [(qj1 HE.out kb).2,HE.out];rfl,by rw [(qj1 HE.out kb).1];exact ⟨_,_,vc,_,g1,gc,_,gW,gZ',qri HN.out HR.out rfl HTY.out r1.out,HJN.out,rfl⟩,rfl⟩,((((T1.out.set 0 0 rfl 2 (.slice a1 (S.all.length+1) cap1)).pick [0,1,2,3,4,5,6] rfl).eq (H':=[Q2 sb L.fb (.slice (some ⟨b0,0,none⟩) S.own.length capo) (.slice a1 (S.all.length+1) cap1) vc,[cl b0 88 (cur.setIfInBounds t (.iface ty (Qb kb)))],g1,gc,gJ'++gN,gW,gZ']) rfl).sum2)⟩
   ·simp only [PU] at Ta
    have hE2:(S.callE (t:Int) c != 0)=true:=bne_iff_ne.2 hE;have HCN:=Vh (qnr (S:=S) hE 0);have HI2:=Vh (show qgh L S gJ' gW gZ' from ⟨hj',HSI.out.w,hz'⟩);have HT:=Vh Ta;clear Ta hj' hz' hE;obtain ⟨E,hEE⟩:∃ E,S.callE (t:Int) c=E:=⟨_,rfl⟩;rw [hEE] at hE2 ⊢;have HEE:=Vh hEE;clear hEE;go_wp2
    go_ret2
    exact ⟨_,⟨0,_,by rw [HCN.out.2,HEE.out];rfl,by rw [HCN.out.1];exact ⟨_,_,vc,_,ga,gc,gJ',gW,gZ',HR.out,HI2.out,rfl⟩,rfl⟩,((HT.out.pick [0,1,2,3,4,5,6] rfl).sum)⟩
end
def qaw (n:Nat):Array Value:=madeCells #[.nilIface] (n*1)
theorem qo8 (b n:Nat) (hn:n≤1000):Qr 88 1 (.slice (some ⟨b,0,none⟩) n n) n ((List.replicate n (none:Option (Wk × Nat))).map ifO) [cl b 88 (qaw n)]:=by
 have hs:(qaw n).size=n*1:=by unfold qaw;simp [madeCells]
 have h:=qea 88 1 b n n (qaw n) (Nat.le_refl _) (by unfold maxLen;omega) hs
 have e:(qaw n).toList.take (n*1)=(List.replicate n (none:Option (Wk × Nat))).map ifO:=by
  rw [List.map_replicate];apply List.ext_getElem?
  intro i;rw [List.getElem?_take,Array.getElem?_toList];split
  ·next hi =>
   have:=qa #[.nilIface] n 1 i 0 rfl (by omega) (by omega);rw [show i*1+0=i by omega] at this;unfold qaw;rw [this,List.getElem?_replicate,if_pos (by omega)];rfl
  ·next hi=>rw [List.getElem?_replicate,if_neg (by omega)]
 rw [e] at h;exact h
theorem qyn {L:Lay} {sb b m q:Nat} {c:Cfg} {ws:List WkN} {vc:Value} {go gr gWk gZ:List Blk} (hc:c.cli=(m:Int)) (hl:ws.length=q) (ho:Qr 88 1 (.slice (some ⟨b,0,none⟩) (m+1) (m+1)) (m+1) ((List.replicate (m+1) (none:Option (Wk × Nat))).map ifO) go)
 (hr:Qr 139 1 vc q (qfr ws) gr) (hw:qgm L ws gWk) (hz:isZ L (zf0 c) gZ):qe8 L sb (sv0 c ws) (Q2 sb L.fb (.slice (some ⟨b,0,none⟩) (m+1) (m+1)) (.slice none 0 0) vc++(go++([]++(gr++([]++(gWk++gZ)))))):=by
 refine ⟨_,_,vc,go,[],gr,[],gWk,gZ,⟨?_,Xp _ _,?_⟩,⟨rfl,hw,hz⟩,rfl⟩
 ·show Qr _ 1 _ (List.replicate (c.cli.toNat+1) none).length (((List.replicate (c.cli.toNat+1) (none:Option Nat)).map _).map ifO) go
  rw [List.length_replicate,List.map_replicate,hc,Int.toNat_natCast];exact ho
 ·show Qr _ 1 vc ws.length _ gr
  rw [hl];have:(qfr ws)=(sv0 c ws).ps.map Qb:=by show ws.map _=(ws.map _).map _;rw [List.map_map];rfl
  rw [← this];exact hr
theorem q4f (c:Cfg) (hk:c.ok=true):Qa prog 43 #[.agg c.cells] [] fun e gs =>
 ∃ L sb ws g,e=.returned (.tuple #[Qb sb,.int .i64 0])∧ws.length=c.wk.toNat∧(∀ z∈ws,qg0 z)∧qe8 L sb (sv0 c ws) g∧gs=[g]:=by
 have hnf:=qzi c hk;have hbd:=Cfg.bd hk;obtain ⟨sh,cap,ring,room,wk,cli⟩:=c;simp only [Cfg.cells] at hnf ⊢;have HN:=Vh hnf;simp only at hbd;obtain ⟨m,hm⟩:∃ m:Nat,cli=(m:Int):=⟨cli.toNat,by omega⟩;obtain ⟨q,hq⟩:∃ q:Nat,wk=(q:Int):=⟨wk.toNat,by omega⟩;subst hm hq;have hmk:∀ w,(Instr.makeSlice 83 (.int .i64 ((m:Int)+1)) (.int .i64 ((m:Int)+1))).run prog w=.ok (.slice (some ⟨w.heap.size,0,none⟩) (m+1) (m+1)) (w.alloc (.cells (qaw (m+1)) 88)):=qc8 _ _ .nilIface 1 16 underlying83 qy0 (m+1) (by omega) (by omega);have hrw:=Vh (show ∀ b,_ from fun b=>qo8 b (m+1) (by omega));have hwr:IntKind.i64.wrap ((m:Int)+1)=(m:Int)+1:=q01 _ (by omega) (by omega);refine GO fun w HT=>?_
 go_enter func43,ntmps43
 go_wp2_with fail
 have HT:=Vh (HT.out.alloc (k:=w.heap.size) rfl 28 #[.int .i64 sh,.int .i64 cap,.int .i64 ring,.int .i64 room,.int .i64 q,.int .i64 m]);go_wp2_with fail
 refine Qa.run (HN.out) (HT.out) [] ?_
 rintro e w1 gs ⟨L,g,rfl,hz,rfl⟩ HT;simp only [PU] at HT;obtain ⟨gC,gW,gP,gL,h1,h2,h3,h4,rfl⟩:=X6 hz;have HZ:=Vh (And.intro h1 (And.intro h2 (And.intro h3 h4)));have HCR:=Vh (qwo (n:=q) h1 rfl (by omega));clear hz hnf h1 h2 h3 h4;have HT:=Vh (HT.out.sum (H':=[[cl w.heap.size 28 #[.int .i64 sh,.int .i64 cap,.int .i64 ring,.int .i64 room,.int .i64 q,.int .i64 m]],gC,gW++(gP++gL)]));have a5:=HT.out.cell 0 0 rfl 5;simp only [GE4] at a5;have lta:=HT.out.lt 0 0 rfl;simp only [] at lta;go_wp2_with fail
 go_region_with (
  go_at_call 63
  first
  | (refine (Qa.use HCR.out (HT.out.drew.put rfl (.cells (qaw (m+1)) 88)) [1] rfl rfl).mono ?_
     rintro e w2 ⟨gs,⟨v,gr,gWk,l,rfl,hl,hnw,hrr,hws,rfl⟩,Ta⟩;obtain ⟨av,capv,rfl⟩:=Qr.val hrr;have a5b:=Ta.cell 0 0 rfl 5;simp only [GE3] at a5b;have ltb:=Ta.lt 0 0 rfl;simp only [] at ltb;simp only [PU] at Ta;have HT1:=Vh Ta;have HX:=Vh (And.intro hl (And.intro hnw (And.intro hrr hws)))
     clear Ta hl hnw hrr hws)
  | (refine (Qa.use HCR.out HT.out.drew [1] rfl rfl).mono ?_
     rintro e w2 ⟨gs,⟨v,gr,gWk,l,rfl,hl,hnw,hrr,hws,rfl⟩,Ta⟩;obtain ⟨av,capv,rfl⟩:=Qr.val hrr;have a5b:=Ta.cell 0 0 rfl 5;simp only [GE3] at a5b;have ltb:=Ta.lt 0 0 rfl;simp only [] at ltb;simp only [PU] at Ta;have HT1:=Vh Ta;have HX:=Vh (And.intro hl (And.intro hnw (And.intro hrr hws)))
     clear Ta hl hnw hrr hws))
 all_goals
  go_wp2
  go_ret2
  obtain ⟨hl,hnw,hrr,hws⟩:=HX.out;obtain ⟨h1,h2,h3,h4⟩:=HZ.out
  first
  | exact ⟨_,⟨L,w2.heap.size,l,_,rfl,by rw [hl];rfl,hnw,qyn rfl hl (hrw.out w1.heap.size) hrr hws (Y8 h1 h2 h3 h4),rfl⟩,(((HT1.out.alloc (k:=w2.heap.size) rfl 86 #[Qb L.fb,.slice (some ⟨w1.heap.size,0,none⟩) (m+1) (m+1),.slice none 0 0,.slice av q capv]).pick [6,3,4,5,1,2] rfl).eq (H':=[Q2 w2.heap.size L.fb (.slice (some ⟨w1.heap.size,0,none⟩) (m+1) (m+1)) (.slice none 0 0) (.slice av q capv),[cl w1.heap.size 88 (qaw (m+1))],gr,gWk,gC,gW++(gP++gL)]) rfl).sum2⟩
  | exact ⟨_,⟨L,w2.heap.size+1,l,_,rfl,by rw [hl];rfl,hnw,qyn rfl hl (hrw.out w2.heap.size) hrr hws (Y8 h1 h2 h3 h4),rfl⟩,((((HT1.out.alloc (k:=w2.heap.size) rfl 88 (qaw (m+1))).alloc (k:=w2.heap.size+1) (by simp) 86 #[Qb L.fb,.slice (some ⟨w2.heap.size,0,none⟩) (m+1) (m+1),.slice none 0 0,.slice av q capv]).pick [6,5,3,4,1,2] rfl).eq (H':=[Q2 (w2.heap.size+1) L.fb (.slice (some ⟨w2.heap.size,0,none⟩) (m+1) (m+1)) (.slice none 0 0) (.slice av q capv),[cl w2.heap.size 88 (qaw (m+1))],gr,gWk,gC,gW++(gP++gL)]) rfl).sum2⟩
def qen.bare (j:qen):qen:={ j with kb:=0 }
def WkN.bare (c:WkN):WkN:={ c with wb:=0 }
def SvS.bare (S:SvS):SvS:={ S with all:=S.all.map qen.bare,crew:=S.crew.map WkN.bare }
section
variable (S:SvS)
theorem qr (a:Nat):S.bare.jobAt a=(S.jobAt a).bare:=by
 unfold SvS.jobAt SvS.bare;simp only [List.getD_eq_getElem?_getD,List.getElem?_map];cases S.all[a]? <;> rfl
theorem qhi (a:Nat):S.bare.wkrAt a=(S.wkrAt a).bare:=by
 unfold SvS.wkrAt SvS.bare;simp only [List.getD_eq_getElem?_getD,List.getElem?_map];cases S.crew[a]? <;> rfl
theorem qnt (f:WkN→WkN):∀ (l:List WkN) (a i:Nat),qug a i (l.map f)=qug a i l
 | [],_,_=>rfl
 | c::l,a,i=>by
   show (a,Th.wkr i)::qug (a+1) (i+1) (l.map f)=(a,Th.wkr i)::qug (a+1) (i+1) l
   rw [qnt f l]
theorem qoh:S.bare.ths=S.ths:=by
 show qys 0 S.own++qug S.own.length 0 (S.crew.map _)=_
 rw [qnt];rfl
theorem qoa (t:Th):t.may S.bare=t.may S:=by
 cases t with
 | job a=>show (S.bare.jobAt a).w.may S.z=_;rw [qr];rfl
 | wkr i=>show (S.bare.wkrAt i).may S.z=_;rw [qhi];rfl
theorem qr0 (t:Th):(t.step S).bare=t.step S.bare:=by
 cases t with
 | job a =>
   show SvS.mk ((S.jobAt a).w.step S.z).2 S.own ((S.all.set a _).map qen.bare) (S.crew.map WkN.bare)=SvS.mk ((S.bare.jobAt a).w.step S.z).2 S.own ((S.all.map qen.bare).set a ⟨(S.bare.jobAt a).kb,(S.bare.jobAt a).n+1,((S.bare.jobAt a).w.step S.z).1⟩) (S.crew.map WkN.bare)
   rw [List.map_set,qr];rfl
 | wkr i =>
   show SvS.mk ((S.wkrAt i).step S.z).2 S.own (S.all.map qen.bare) ((S.crew.set i _).map WkN.bare)=SvS.mk ((S.bare.wkrAt i).step S.z).2 S.own (S.all.map qen.bare) ((S.crew.map WkN.bare).set i ((S.bare.wkrAt i).step S.z).1)
   rw [List.map_set,qhi];rfl
theorem qci:S.bare.mays=S.mays:=by
 unfold SvS.mays;rw [qoh];simp only [qoa]
theorem qln (i:Int):S.bare.pickTh i=S.pickTh i:=by
 unfold SvS.pickTh;rw [qoh];simp only [qoa]
theorem qgr (i:Int):(S.stepS i).1.bare=(S.bare.stepS i).1∧(S.stepS i).2=(S.bare.stepS i).2:=by
 unfold SvS.stepS;rw [qln]
 have e:(S.bare.own.length:Int)+S.bare.crew.length=(S.own.length:Int)+S.crew.length:=by
  show (S.own.length:Int)+(S.crew.map _).length=_
  rw [List.length_map]
 rw [e];split
 ·exact ⟨rfl,rfl⟩
 ·split
  ·exact ⟨qr0 S _,rfl⟩
  ·exact ⟨rfl,rfl⟩
theorem qmd (k:Int):S.bare.pickAt k=S.pickAt k:=by unfold SvS.pickAt;rw [qci]
theorem qro (k:Int):(S.pickS k).1.bare=(S.bare.pickS k).1∧(S.pickS k).2=(S.bare.pickS k).2:=by
 unfold SvS.pickS;rw [qci,qmd];split
 ·exact ⟨rfl,rfl⟩
 ·obtain ⟨h1,h2⟩:=qgr S (S.pickAt k)
  exact ⟨h1,by rw [h2]⟩
theorem ql9 (i:Nat):S.bare.busyAt i=S.busyAt i:=by
 unfold SvS.busyAt
 show (match S.own.getD i none with | some a=>!(S.bare.jobAt a).w.done | none=>false)=_
 cases S.own.getD i none with
 | some a=>show (!(S.bare.jobAt a).w.done)=_;rw [qr];rfl
 | none=>rfl
theorem qdk (th:Int) (c:Qs):S.bare.callE th c=S.callE th c:=by
 unfold SvS.callE;rw [ql9];rfl
theorem qmn (th:Int) (c:Qs):S.bare.callNo th c=S.callNo th c:=by
 unfold SvS.callNo;rw [qdk]
 show (if _ then ((S.all.map _).length:Int)+1 else 0)=_
 rw [List.length_map]
theorem qps (kb:Nat) (th:Int) (c:Qs):(S.callS kb th c).bare=S.bare.callS 0 th c:=by
 unfold SvS.callS;rw [qdk];split
 ·have e:S.bare.all.length=S.all.length:=List.length_map _
  unfold SvS.callT;rw [e]
  show SvS.mk _ _ ((S.all++[_]).map qen.bare) _=SvS.mk _ _ ((S.all.map qen.bare)++[_]) _
  rw [List.map_append];rfl
 ·rfl
theorem qqs:S.bare.busyB=S.busyB:=by
 unfold SvS.busyB
 show S.own.any _=S.own.any _
 congr 1
 funext o
 cases o with
 | none=>rfl
 | some a=>show (!(S.bare.jobAt a).w.done)=_;rw [qr];rfl
theorem qsq (no:Int):S.bare.ansS no=S.ansS no:=by
 unfold SvS.ansS;have e:S.bare.all.length=S.all.length:=List.length_map _;rw [e,qr];rfl
theorem qtg:S.bare.idle=S.idle:=by
 unfold SvS.idle;rw [qqs]
 show (_ && qq (S.crew.map WkN.bare) S.z.p)=_
 have:X9 (S.crew.map WkN.bare)=X9 S.crew:=by
  unfold X9;rw [List.all_map];rfl
 unfold qq;rw [this]
end
def isB (N:Nat) (L:Lay) (sb:Nat) (B:SvS) (g:List Blk):Prop:=∃ S,S.bare=B∧SvN N S∧qe8 L sb S g
section
variable {N:Nat} {L:Lay} {sb:Nat} {B:SvS} {g:List Blk}
theorem isB.mono {M:Nat} (h:isB N L sb B g) (hm:N≤M):isB M L sb B g:=by
 obtain ⟨S,h1,h2,h3⟩:=h;exact ⟨S,h1,h2.mono hm,h3⟩
theorem q4k (h:isB N L sb B g) (hN:N<999998):Qa prog 18 #[Qb sb] [g] fun e gs =>
 ∃ v gl g',e=.returned v∧Qr 3 1 v B.mays.length (qd7 B.mays) gl∧isB N L sb B g'∧gs=[g',gl]:=by
 obtain ⟨S,rfl,hn,hs⟩:=h;refine (q3j hs hn hN).mono ?_
 rintro e gs ⟨v,gl,g',rfl,h1,h2,rfl⟩;exact ⟨v,gl,g',rfl,by rw [qci];exact h1,⟨S,rfl,hn,h2⟩,rfl⟩
theorem q4j (h:isB N L sb B g) (hN:N<999998) (i:Int):Qa prog 15 #[Qb sb,.int .i64 i] [g] fun e gs =>
 ∃ g',e=.returned (.int .i64 (B.stepS i).2)∧isB (N+1) L sb (B.stepS i).1 g'∧gs=[g']:=by
 obtain ⟨S,rfl,hn,hs⟩:=h;refine (qyx hs hn hN i).mono ?_
 rintro e gs ⟨g',rfl,h2,rfl⟩;obtain ⟨e1,e2⟩:=qgr S i;exact ⟨g',by rw [e2],⟨_,e1,qsi hn hN i,h2⟩,rfl⟩
theorem q4l (h:isB N L sb B g) (hN:N<999998) (k:Int):Qa prog 16 #[Qb sb,.int .i64 k] [g] fun e gs =>
 ∃ g',e=.returned (.tuple #[.int .i64 (B.pickS k).2.1,.int .i64 (B.pickS k).2.2])∧isB (N+1) L sb (B.pickS k).1 g'∧gs=[g']:=by
 obtain ⟨S,rfl,hn,hs⟩:=h;refine (q14 hs hn hN k).mono ?_
 rintro e gs ⟨g',rfl,h2,rfl⟩;obtain ⟨e1,e2⟩:=qro S k;exact ⟨g',by rw [e2],⟨_,e1,q1f hn hN k,h2⟩,rfl⟩
theorem q4o (h:isB N L sb B g) (hN:N<999998) (th:Int) (c:Qs) (hc:c.wf):Qa prog 14 #[Qb sb,.int .i64 th,.agg c.cells] [g] fun e gs =>
 ∃ g',e=.returned (.tuple #[.int .i64 (B.callNo th c),.int .i64 (B.callE th c)])∧isB (N+1) L sb (B.callS 0 th c) g'∧gs=[g']:=by
 obtain ⟨S,rfl,hn,hs⟩:=h;refine (q3i hs hn hN th c).mono ?_
 rintro e gs ⟨kb,g',rfl,h2,rfl⟩;exact ⟨g',by rw [qmn,qdk],⟨_,qps S kb th c,q0l hn hc kb th,h2⟩,rfl⟩
theorem q03 (h:isB N L sb B g) (hN:N<999998) (no:Int):Qa prog 20 #[Qb sb,.int .i64 no] [g] fun e gs =>
 ∃ v gv g',e=.returned (.tuple #[.agg ((B.ansS no).cells v),.int .i64 (B.ansS no).code])∧Qr 30 1 v (B.ansS no).left.length (qgf (B.ansS no).left) gv∧isB N L sb B g'∧gs=[g',gv]:=by
 obtain ⟨S,rfl,hn,hs⟩:=h;refine (qvx hs hn hN no).mono ?_
 rintro e gs ⟨v,gv,g',rfl,h1,h2,rfl⟩;rw [qsq];exact ⟨v,gv,g',rfl,h1,⟨S,rfl,hn,h2⟩,rfl⟩
theorem q48 (h:isB N L sb B g) (hN:N<999998):Qa prog 17 #[Qb sb] [g] fun e gs=>∃ g',e=.returned (.bool B.idle)∧isB N L sb B g'∧gs=[g']:=by
 obtain ⟨S,rfl,hn,hs⟩:=h;refine (q2q hs hn hN).mono ?_
 rintro e gs ⟨g',rfl,h2,rfl⟩;exact ⟨g',by rw [qtg],⟨S,rfl,hn,h2⟩,rfl⟩
theorem bLog (h:isB N L sb B g) (hN:N<999998):Qa prog 39 #[Qb sb] [g] fun e gs=>∃ v gv g',e=.returned v∧Qr 82 4 v B.z.lg.length (Jc B.z.lg) gv∧isB N L sb B g'∧gs=[g',gv]:=by
 obtain ⟨S,rfl,hn,hs⟩:=h;refine (q4i hs hn hN).mono ?_
 rintro e gs ⟨v,gv,g',rfl,h1,h2,rfl⟩;exact ⟨v,gv,g',rfl,h1,⟨S,rfl,hn,h2⟩,rfl⟩
theorem q23 (h:isB N L sb B g) (hN:N<999998):Qa prog 35 #[Qb sb] [g] fun e gs=>∃ v gv g',e=.returned v∧trG v B.z.x.tr gv∧isB N L sb B g'∧gs=[g',gv]:=by
 obtain ⟨S,rfl,hn,hs⟩:=h;have HF:=Vh (quy hs);have htr:S.z.x.tr.length≤1000000:=by have:=hn.glo.zn.core.tr;omega
 obtain ⟨vo,va,vc,go,ga,gc,gJ,gW,gZ,hr,hi,rfl⟩:=hs;obtain ⟨gC,gWh,gP,gL,h1,h2,h3,h4,rfl⟩:=X6 hi.z;have HR:=Vh hr;have HSI:=Vh hi;have HNN:=Vh hn;have HX:=Vh (qtr h1 htr);have HZZ:=Vh (And.intro h2 (And.intro h3 h4))
 show Qa _ _ _ _ fun e gs=>∃ v gv g',e=.returned v∧trG v S.z.x.tr gv∧isB N L sb S.bare g'∧gs=[g',gv]
 refine GO fun w HT=>?_
 clear hr hi h1 h2 h3 h4 hn;go_enter func35,ntmps35
 go_wp2_with fail
 refine Qa.run (HF.out) (HT.out) [0] ?_
 rintro e w1 gs ⟨rfl,rfl⟩ HT;simp only [PU] at HT;have HT:=Vh (HT.out.sum2 (H':=[Q2 sb L.fb vo va vc++(go++(ga++(gc++(gJ++gW)))),gC,gWh++(gP++gL)]));go_wp2_with fail
 refine Qa.run (HX.out) (HT.out) [1] ?_
 rintro e w1 gs ⟨v,gC',gv,rfl,hx',hv,rfl⟩ HT;simp only [PU] at HT;obtain ⟨av,cap,rfl⟩:=Qr.val hv;have HV:=Vh (And.intro hx' hv);clear hv hx';go_wp2
 go_ret
 obtain ⟨h2,h3,h4⟩:=HZZ.out;exact ⟨_,⟨_,gv,_,rfl,HV.out.2,⟨S,rfl,HNN.out,⟨vo,va,vc,go,ga,gc,gJ,gW,_,HR.out,⟨HSI.out.j,HSI.out.w,Y8 HV.out.1 h2 h3 h4⟩,rfl⟩⟩,rfl⟩,HT.out.sum2⟩
def svB0 (c:Cfg):SvS:=⟨zf0 c,List.replicate (c.cli.toNat+1) none,[],List.replicate c.wk.toNat ⟨0,qm,0,qvc⟩⟩
theorem bNew (c:Cfg) (hk:c.ok=true):Qa prog 43 #[.agg c.cells] [] fun e gs =>
 ∃ L sb g,e=.returned (.tuple #[Qb sb,.int .i64 0])∧isB 0 L sb (svB0 c) g∧gs=[g]:=by
 refine (q4f c hk).mono ?_
 rintro e gs ⟨L,sb,ws,g,rfl,hl,hw,hs,rfl⟩;refine ⟨L,sb,g,rfl,⟨_,?_,q44 c hk hl hw,hs⟩,rfl⟩
 show SvS.mk _ _ [] (ws.map WkN.bare)=_
 have:ws.map WkN.bare=List.replicate c.wk.toNat ⟨0,qm,0,qvc⟩:=by
  rw [List.eq_replicate_iff,List.length_map];refine ⟨hl,fun b hb=>?_⟩
  obtain ⟨z,hz,rfl⟩:=List.mem_map.1 hb;obtain ⟨a,b,d⟩:=hw z hz;obtain ⟨wb,s,n,k⟩:=z;simp only at a b d;subst a b d;rfl
 rw [this];rfl
end
def Yp (a b:Int):Cfg:=⟨1+max 0 a % 4,1+max 0 b % 12,1+max 0 b % 7,1+max 0 b % 3,1+max 0 b % 4,4⟩
theorem qch (a b:Int):(Yp a b).ok=true:=by
 unfold Cfg.ok Yp;simp only [Cfg.fine,Cfg.pair,Bool.and_eq_true,decide_eq_true_eq];omega
theorem qh6 (a b:Int) (ha:0≤a∧a≤1000000) (hb:0≤b∧b≤1000000):Qa prog 13 #[.int .i64 a,.int .i64 b] [] fun e gs=>e=.returned (.agg (Yp a b).cells)∧gs=[]:=by
 have e1:max 0 a=a:=by omega
 have e2:max 0 b=b:=by omega
 unfold Yp;rw [e1,e2];simp only [Cfg.cells];have h1:0≤a % 4∧a % 4<4:=by omega
 have h2:0≤b % 12∧b % 12<12:=by omega
 have h3:0≤b % 7∧b % 7<7:=by omega
 have h4:0≤b % 3∧b % 3<3:=by omega
 have h5:0≤b % 4∧b % 4<4:=by omega
 refine GO fun w HT=>?_
 go_enter func13,ntmps13
 go_wp2_with fail
 have HT2:=Vh (HT.out.alloc (k:=w.heap.size) rfl 28 #[.int .i64 (1+a % 4),.int .i64 (1+b % 12),.int .i64 (1+b % 7),.int .i64 (1+b % 3),.int .i64 (1+b % 4),.int .i64 4]);obtain ⟨r0,r1,r2,r3,r4,r5⟩:=Ce6 (HT2.out.cell 0 0 rfl) 0 1 2 3 4 5;simp only [GE4] at r0 r1 r2 r3 r4 r5;exact bodyPost_ret (v:=.agg #[.int .i64 (1+a % 4),.int .i64 (1+b % 12),.int .i64 (1+b % 7),.int .i64 (1+b % 3),.int .i64 (1+b % 4),.int .i64 4]) (by simp [results,results13,go_sem,r0,r1,r2,r3,r4,r5]) rfl ⟨_,⟨rfl,rfl⟩,HT2.out.pick [] rfl⟩
theorem qtd {S:SvS} {t:Nat × Th} (h:t∈S.ths):t.1<S.own.length+S.crew.length:=by
 rcases List.mem_append.1 h with h | h
 ·obtain ⟨k,_,_,_,h4⟩:=qee _ _ _ h
  have:=(List.getElem?_eq_some_iff.1 h4).1;omega
 ·obtain ⟨j,_,h2,h3⟩:=qh0 _ _ _ _ h
  omega
theorem qpk {S:SvS} (h:S.mays.length≠0) (k:Int):S.pickAt k∈S.mays:=by
 unfold SvS.pickAt
 have h1:((max 0 k) % (S.mays.length:Int)).toNat<S.mays.length:=by
  have:=Int.emod_lt_of_pos (max 0 k) (show (0:Int)<S.mays.length by omega);have:=Int.emod_nonneg (max 0 k) (show (S.mays.length:Int)≠0 by omega);omega
 rw [List.getD_eq_getElem?_getD,List.getElem?_eq_getElem h1];exact List.getElem_mem h1
end
section
open Go.RowKit Go.Shelf Go.Maps Go.ChangeMaps Go.MapKept
structure PlS where
 S:SvS
 cli:Int
 steps:Nat
 lon:Nat
 ws:Nat→Option Nat
def qgd (ws:Nat→Option Nat) (t n:Nat):Nat→Option Nat:=fun x=>if x=t then some n else ws x
def qor (ws:Nat→Option Nat) (t:Nat):Nat→Option Nat:=fun x=>if x=t then none else ws x
def qqk (ws:Nat→Option Nat) (t:Nat):Nat:=match ws t with
 | some n=>n+1
 | none=>0
def qek (ws:Nat→Option Nat) (s:(Nat→Option Nat) × Nat) (t:Nat):(Nat→Option Nat) × Nat:=(qgd s.1 t (qqk ws t),max s.2 (qqk ws t))
def qgi (ws:Nat→Option Nat) (t:Nat):Nat→Option Nat:=match ws t with
 | some _=>ws
 | none=>qgd ws t 0
def PlS.made (P:PlS) (at_:Nat):PlS :=
 { P with steps:=P.steps+1,ws:=(P.S.mays.foldl (qek (qor P.ws at_)) (fun _=>none,P.lon)).1,lon:=(P.S.mays.foldl (qek (qor P.ws at_)) (fun _=>none,P.lon)).2 }
def PlS.look (P:PlS):PlS:={ P with ws:=P.S.mays.foldl qgi P.ws }
def PlS.step (P:PlS) (at_:Nat):PlS:=if (P.S.stepS at_).2=0 then ({ P with S:=(P.S.stepS at_).1 }:PlS).made at_ else { P with S:=(P.S.stepS at_).1 }
def PlS.round (P:PlS):PlS:=P.S.mays.foldl PlS.step P
def PlS.rounds:Nat→PlS→PlS
 | 0,P=>P
 | n+1,P=>PlS.rounds n P.round
theorem PlS.rounds_next:∀ (n:Nat) (P:PlS),PlS.rounds (n+1) P=(PlS.rounds n P).round
 | 0,_=>rfl
 | n+1,P=>by rw [PlS.rounds,PlS.rounds_next n];rfl
def PlS.pick (P:PlS) (k:Int):PlS:=if (P.S.pickS k).2.2=0 then ({ P with S:=(P.S.pickS k).1 }:PlS).made (P.S.pickS k).2.1.toNat else { P with S:=(P.S.pickS k).1 }
def PlS.call (P:PlS) (th:Int) (c:Qs):PlS:=({ P with S:=P.S.callS 0 th c }:PlS).look
structure PlN (N:Nat) (P:PlS):Prop where
 steps:P.steps≤N
 lon:P.lon≤N
 ws:∀ t n,P.ws t=some n→n≤N
theorem PlN.mono {N M:Nat} {P:PlS} (h:PlN N P) (hm:N≤M):PlN M P:=⟨Nat.le_trans h.steps hm,Nat.le_trans h.lon hm,fun t n e=>Nat.le_trans (h.ws t n e) hm⟩
theorem qot {ws:Nat→Option Nat} {N:Nat} (h:∀ t n,ws t=some n→n≤N) (t:Nat):qqk ws t≤N+1:=by
 unfold qqk;cases hw:ws t with
 | none=>exact Nat.zero_le _
 | some n=>exact Nat.succ_le_succ (h t n hw)
theorem qsg {ws:Nat→Option Nat} {N a:Nat} (h:∀ t n,ws t=some n→n≤N):∀ t n,qor ws a t=some n→n≤N:=by
 intro t n e;unfold qor at e;split at e
 ·cases e
 ·exact h t n e
theorem qyp {ws:Nat→Option Nat} {N a x:Nat} (h:∀ t n,ws t=some n→n≤N) (hx:x≤N):∀ t n,qgd ws a x t=some n→n≤N:=by
 intro t n e;unfold qgd at e;split at e
 ·cases e;exact hx
 ·exact h t n e
theorem qmw {ws:Nat→Option Nat} {N:Nat} (h:∀ t n,ws t=some n→n≤N):∀ (l:List Nat) (s:(Nat→Option Nat) × Nat),(∀ t n,s.1 t=some n→n≤N+1)→s.2≤N+1 →
 (∀ t n,(l.foldl (qek ws) s).1 t=some n→n≤N+1)∧(l.foldl (qek ws) s).2≤N+1
 | [],s,h1,h2=>⟨h1,h2⟩
 | t::l,s,h1,h2=>qmw h l _ (qyp h1 (qot h t)) (Nat.max_le.2 ⟨h2,qot h t⟩)
theorem PlN.made {N:Nat} {P:PlS} (h:PlN N P) (a:Nat):PlN (N+1) (P.made a):=by
 obtain ⟨h1,h2⟩:=qmw (qsg (a:=a) h.ws) P.S.mays (fun _=>none,P.lon) (fun t n e=>by cases e) (Nat.le_succ_of_le h.lon);exact ⟨Nat.succ_le_succ h.steps,h2,h1⟩
theorem qtw {N:Nat}:∀ (l:List Nat) (ws:Nat→Option Nat),(∀ t n,ws t=some n→n≤N)→∀ t n,(l.foldl qgi ws) t=some n→n≤N
 | [],_,h=>h
 | t::l,ws,h=>qtw l _ (by
   unfold qgi;cases hw:ws t with
   | none=>exact qyp h (Nat.zero_le _)
   | some n=>exact h)
theorem PlN.look {N:Nat} {P:PlS} (h:PlN N P):PlN N P.look:=⟨h.steps,h.lon,qtw _ _ h.ws⟩
theorem PlN.withS {N:Nat} {P:PlS} (h:PlN N P) (S:SvS):PlN N { P with S:=S }:=⟨h.steps,h.lon,h.ws⟩
def q7 (m:Lit→Option Value) (ws:Nat→Option Nat):Prop:=∀ t:Nat,m (.int .i64 (t:Int))=(ws t).map fun n=>.int .i64 (n:Int)
theorem qyo {a b:Nat} (h:a≠b):(Lit.int .i64 (a:Int):Lit)≠.int .i64 (b:Int):=by intro x;injection x with _ x;omega
theorem qas {m:Lit→Option Value} {ws:Nat→Option Nat} (h:q7 m ws) (t n:Nat):q7 (qo1 m (.int .i64 (t:Int)) (.int .i64 (n:Int))) (qgd ws t n):=by
 intro x;unfold qgd;by_cases e:x=t
 ·subst e;simp [qo1]
 ·simp only [qo1,if_neg (qyo e),if_neg e];exact h x
theorem qtz {m:Lit→Option Value} {ws:Nat→Option Nat} (h:q7 m ws) (t:Nat):q7 (q1e m (.int .i64 (t:Int))) (qor ws t):=by
 intro x;unfold qor;by_cases e:x=t
 ·subst e;simp [q1e]
 ·simp only [q1e,if_neg (qyo e),if_neg e];exact h x
theorem qha:q7 noK (fun _=>none):=fun _=>rfl
theorem Yi (t:Nat) (h:t<9223372036854775808):keyOf prog 3 (.int .i64 (t:Int))=some (.int .i64 (t:Int)):=keyOf_int_mk underlying3 (WalkArith.wf_i64 ⟨by omega,by omega⟩)
theorem Zk:Keyed prog 3:=int_keyed underlying3
theorem qbe (w:World):(zeroValue 3).run prog w=.ok (.int .i64 0) w:=by kernel_rfl
section
variable {P:Program} {K T E:TypeId} {b n z:Nat} {m:Lit→Option Value} {g:List Blk} {h H:GH} {w w1:World}
theorem TG.run_look (TT:TG h w H w1) (i:Nat) (hi:H.getD i []=g) (r:qla P K b n m z g) (hK:Keyed P K) (ht:P.underlying T=some (.map K E)) (zero:Value) (hz:∀ w,(zeroValue E).run P w=.ok zero w) {key:Value} {kl:Lit} (hkey:keyOf P K key=some kl) :
 (Instr.lookup T (.map (some b)) key false).run P w1=.ok ((m kl).getD zero) w1:=by
 obtain ⟨D,hown,hv⟩:=TT.ownMap i hi r;obtain ⟨v,ps,hrun,hR⟩:=hown.lookup hK ht (hz w1) (zd:=.held zero) (zp:=[]) rfl hkey
 have e:v=(m kl).getD zero:=by
  rw [(hv.2.2 kl (hK.key hkey)).2 zero] at hR;simp only [qs8,Option.some.injEq,Prod.mk.injEq,DataW.held.injEq] at hR;exact hR.1
 subst e;exact hrun
end
def plB (pb sb mb:Nat) (cli:Int) (steps lon:Nat):List Blk:=[cl pb 114 #[Qb sb,.int .i64 cli,.int .i64 (steps:Int),.int .i64 (lon:Int),.map (some mb)]]
structure q2p (N:Nat) (L:Lay) (sb mb:Nat) (P:PlS) (gS gM:List Blk):Prop where
 sv:isB N L sb P.S gS
 mp:∃ n m z,qla prog 3 mb n m z gM∧q7 m P.ws∧n≤5000*(N+1)
 pn:PlN N P
def Zl (N:Nat) (L:Lay) (pb sb:Nat) (P:PlS) (g:List Blk):Prop:=∃ mb gS gM,q2p N L sb mb P gS gM∧g=plB pb sb mb P.cli P.steps P.lon++(gS++gM)
theorem q2p.mono {N M:Nat} {L:Lay} {sb mb:Nat} {P:PlS} {gS gM:List Blk} (h:q2p N L sb mb P gS gM) (hm:N≤M):q2p M L sb mb P gS gM:=by
 obtain ⟨n,m,z,h1,h2,h3⟩:=h.mp;exact ⟨h.sv.mono hm,⟨n,m,z,h1,h2,by omega⟩,h.pn.mono hm⟩
theorem Zl.mono {N M:Nat} {L:Lay} {pb sb:Nat} {P:PlS} {g:List Blk} (h:Zl N L pb sb P g) (hm:N≤M):Zl M L pb sb P g:=by
 obtain ⟨mb,gS,gM,h1,h2⟩:=h;exact ⟨mb,gS,gM,h1.mono hm,h2⟩
theorem qiv {N:Nat} {L:Lay} {sb:Nat} {B:SvS} {g:List Blk} (h:isB N L sb B g):B.mays.length≤2000∧∀ t∈B.mays,t<1000000:=by
 obtain ⟨S,rfl,hn,_⟩:=h;rw [qci];refine ⟨Nat.le_trans (by unfold SvS.mays;rw [List.length_map];exact List.length_filter_le _ _) (qmq hn),fun t ht=>?_⟩
 obtain ⟨u,hu,rfl⟩:=List.mem_map.1 ht;have h1:=qtd (List.mem_filter.1 hu).1;have h2:=hn.ol;have h3:=hn.cl;omega
section
variable {N:Nat} {L:Lay} {pb sb mb:Nat} {P:PlS} {gS gM:List Blk}
def Y7 (P:PlS) (a k:Nat):(Nat→Option Nat) × Nat:=(P.S.mays.take k).foldl (qek (qor P.ws a)) (fun _=>none,P.lon)
theorem ql8 {P:PlS} {a k t:Nat} (h:P.S.mays[k]?=some t):Y7 P a (k+1)=qek (qor P.ws a) (Y7 P a k) t:=by
 obtain ⟨h1,h2⟩:=List.getElem?_eq_some_iff.1 h;unfold Y7;rw [List.take_succ_eq_append_getElem h1,h2,List.foldl_append];rfl
theorem qua {M:Nat} (hp:PlN M P) (a k:Nat):(∀ t n,(Y7 P a k).1 t=some n→n≤M+1)∧(Y7 P a k).2≤M+1 :=
 qmw (qsg (a:=a) hp.ws) _ _ (fun t n e=>by cases e) (Nat.le_succ_of_le hp.lon)
theorem q1l (f:Nat→Option Nat) (t x y:Nat):qgd (qgd f t x) t y=qgd f t y:=by
 funext k
 unfold qgd;split <;> rfl
theorem qya (f:Nat→Option Nat) (t x:Nat):qgd f t x t=some x:=if_pos rfl
theorem q7.at {m:Lit→Option Value} {ws:Nat→Option Nat} (h:q7 m ws) {t n:Nat} (hw:ws t=some n):(m (.int .i64 (t:Int))).getD (.int .i64 0)=.int .i64 (n:Int)∧(m (.int .i64 (t:Int))).isSome=true:=by rw [h t,hw];exact ⟨rfl,rfl⟩
theorem q7.no {m:Lit→Option Value} {ws:Nat→Option Nat} (h:q7 m ws) {t:Nat} (hw:ws t=none):(m (.int .i64 (t:Int))).getD (.int .i64 0)=.int .i64 0∧(m (.int .i64 (t:Int))).isSome=false:=by rw [h t,hw];exact ⟨rfl,rfl⟩
theorem qyu (hs:isB (N+1) L sb P.S gS) (hmp:∃ n m z,qla prog 3 mb n m z gM∧q7 m P.ws∧n≤5000*(N+2)) (hp:PlN N P) (hN:N<999990) (a:Nat) (ha:a<1000000) :
 Qa prog 50 #[Qb pb,.int .i64 a] [plB pb sb mb P.cli P.steps P.lon,gS,gM] fun e gs =>
  ∃ mb' gS' gM',e=.returned (.tuple #[])∧q2p (N+1) L sb mb' (P.made a) gS' gM'∧gs=[plB pb sb mb' P.cli (P.made a).steps (P.made a).lon,gS',gM']:=by
 obtain ⟨n,m,z,hm,hl,hn⟩:=hmp;have HMY:=Vh (q4k hs (by omega));obtain ⟨hml,hmt⟩:=qiv hs;have h1:=hp.steps;have h2:=hp.lon;have HS:=Vh hs;have HP:=Vh hp;have HM:=Vh hm;have HL:=Vh hl;have hmm:=@run_makeMap prog;obtain ⟨S,cli,steps,lon,ws⟩:=P;simp only at h1 h2 hml hmt HL HMY HS ⊢;refine GO fun w HT=>?_
 clear hs hp hm hl;obtain ⟨p0,p2,p3,p4⟩:=Ce4 (HT.out.cell 0 0 rfl) 0 2 3 4;have fp2:=HT.out.free 0 0 rfl 2;simp only [plB,GE3] at p0 p2 p3 p4;have ltp:=HT.out.lt 0 0 rfl;simp only [] at ltp;go_enter func50,ntmps50
 go_wp2_with (
  at_delete
  (with_reducible refine qfy rfl (.tmp 19) (.tmp 20) rfl Zk underlying112 (HT.out.set 0 0 rfl 2 (.int .i64 ((steps:Int)+1))) 2 rfl rfl HM.out rfl (.int .i64 (a:Int)) (.int .i64 (a:Int)) rfl (Yi a (by omega)) ?_)
  intro w2 g2 r2 T2;simp only [List.set_cons_zero,List.set_cons_succ] at T2;have HT:=Vh (T2.eq (H':=[plB pb sb mb cli (steps+1) lon,gS,g2]) rfl);have HM2:=Vh r2;have HL2:=Vh (qtz HL.out a);clear T2 r2 p0 p2 fp2 p3 p4;obtain ⟨p0,p3,p4⟩:=Ce3 (HT.out.cell 0 0 rfl) 0 3 4;simp only [plB,GE3] at p0 p3 p4;have ltp:=HT.out.lt 0 0 rfl
  simp only [] at ltp)
 obtain ⟨mb2,hmb2⟩:∃ x,w2.heap.size=x:=⟨_,rfl⟩;have HT:=Vh (HT.out.put hmb2.symm (.map #[] 0));rw [hmb2];go_wp2_with fail
 refine Qa.run (HMY.out) (HT.out) [1] ?_
 rintro e w1 gs ⟨v,gl,gS1,rfl,hrow,hs1,rfl⟩ HT;simp only [PU] at HT;obtain ⟨av,cap,hv⟩:=Qr.val hrow;subst hv;have HROW:=Vh hrow;have HS1:=Vh hs1;clear hrow hs1 p0 p3 p4 ltp hmb2;obtain ⟨M,hM⟩:∃ M,S.mays.length=M:=⟨_,rfl⟩;have HMT:=Vh hmt;have HMM:=Vh hM;rw [hM] at hml;rw [HMM.out];clear hM hmt;have HT:=Vh (HT.out.eq (H':=[plB pb sb mb cli (steps+1) lon,gS1,g2,[(mb2,.map #[] 0)],gl]) rfl);go_wp2_with fail
 obtain ⟨PP,hPP⟩:∃ PP:PlS,PP=⟨S,cli,steps,lon,ws⟩:=⟨_,rfl⟩;have HPP:=Vh hPP;have T1:=HT.out
 go_loopw [28] (fun i wr=>∃ (k n2 z2:Nat) (m2:Lit→Option Value) (gm:List Blk),k≤M∧i=.int .i64 k∧qla prog 3 mb2 n2 m2 z2 gm∧q7 m2 (Y7 PP a k).1∧n2≤2*k∧TG [plB pb sb mb cli steps lon,gS,gM] w [plB pb sb mb cli (steps+1) (Y7 PP a k).2,gS1,g2,gm,gl] wr) (fun i _=>M+1 - (intOf i).toNat)
 case atStart=>exact ⟨0,0,0,noK,_,Nat.zero_le _,rfl,qnw _ _ _,qha,by omega,by rw [hPP];exact T1⟩
 case round =>
  obtain ⟨k,n2,z2,m2,gm,hk,rfl,hm2,hl2,hn2,T⟩:=hrel;clear T1 hPP;by_cases hlt:k<M
  ·obtain ⟨t,ht⟩:∃ t,S.mays[k]?=some t:=⟨_,List.getElem?_eq_getElem (by rw [HMM.out];exact hlt)⟩
   have ht6:=HMT.out t (List.mem_of_getElem? ht);have hnx:=ql8 (P:=PP) (a:=a) (k:=k) (t:=t) (by rw [HPP.out];exact ht);obtain ⟨rb,cp,hv,hb⟩:=Jv HROW.out T 4 rfl (by simp) (k:=k) (x:=.int .i64 (t:Int)) (by unfold qd7;rw [List.getElem?_map,ht];rfl);rw [HMM.out] at hv;obtain ⟨rfl,rfl⟩:av=some ⟨rb,0,none⟩∧cap=cp:=by cases hv;exact ⟨rfl,rfl⟩
   have hle:=qua HP.out a k;have hle2:(Y7 PP a k).2≤N+1:=by rw [HPP.out];exact hle.2
   have HT:=Vh T;have HM3:=Vh hm2;have HL3:=Vh hl2;have HNX:=Vh hnx;obtain ⟨F,hF⟩:∃ F,Y7 PP a k=F:=⟨_,rfl⟩;rw [hF] at HNX HL3 hle2 HT;obtain ⟨f1,lo⟩:=F;simp only at HL3 hle2 HT;have hwle:∀ x n,qor ws a x=some n→n≤N:=qsg HP.out.ws;clear T hm2 hl2 hnx ht hv hle hF;cases hw:qor ws a t with
   | none =>
     have hlk:=HL2.out.no hw;have HFN:=Vh (show qek (qor ws a) (f1,lo) t=(qgd f1 t 0,lo) by unfold qek qqk;rw [hw];simp);clear hwle hw
     go_wp2_with (
      first
      | (at_mapUpdate
         (with_reducible refine Zy rfl (.tmp 32) (.tmp 33) _ rfl Zk underlying112 HT.out 3 rfl rfl HM3.out (by unfold maxLen;omega) rfl (.int .i64 (t:Int)) (.int .i64 0) (.int .i64 (t:Int)) rfl rfl (Yi t (by omega)) ?_)
         intro w3 g3 r3 T3;simp only [List.set_cons_zero,List.set_cons_succ] at T3;have HT:=Vh T3;have HM4:=Vh r3;have HL4:=Vh (show q7 (qo1 m2 (.int .i64 (t:Int)) (.int .i64 0)) (qgd f1 t 0) from qas HL3.out t 0);clear T3 r3;obtain ⟨p0,p3,p4⟩:=Ce3 (HT.out.cell 0 0 rfl) 0 3 4;have ltp:=HT.out.lt 0 0 rfl
         simp only [plB,GE3] at p0 p3 p4 ltp)
      | (at_mapUpdate
         (with_reducible refine Zy rfl (.tmp 49) (.tmp 50) _ rfl Zk underlying112 HT.out 3 rfl rfl HM4.out (by unfold maxLen;omega) rfl (.int .i64 (t:Int)) (.int .i64 ((n:Int)+1)) (.int .i64 (t:Int)) rfl rfl (Yi t (by omega)) ?_)
         intro w4 g4 r4 T4;simp only [List.set_cons_zero,List.set_cons_succ] at T4;have HT:=Vh T4;have HM5:=Vh r4;have HL5:=Vh (show q7 (qo1 (qo1 m2 (.int .i64 (t:Int)) (.int .i64 0)) (.int .i64 (t:Int)) (.int .i64 ((n:Int)+1))) (qgd (qgd f1 t 0) t (n+1)) from qas HL4.out t (n+1));clear T4 r4 p0 p3 p4 ltp;obtain ⟨p0,p3,p4⟩:=Ce3 (HT.out.cell 0 0 rfl) 0 3 4;have ltp:=HT.out.lt 0 0 rfl
         simp only [plB,GE3] at p0 p3 p4 ltp)
      | (at_lookup
         (with_reducible refine Zp rfl _ _ rfl Zk underlying112 (.int .i64 0) qbe HT.out 2 rfl HM2.out rfl (.int .i64 (t:Int)) (.int .i64 (t:Int)) rfl (Yi t (by omega)) ?_)
         rw [hlk.1,hlk.2]))
     have HR4:=Vh (show ∀ q,(Instr.lookup 112 (.map (some mb2)) (.int .i64 (t:Int)) false).run prog (World.drewN w3 q)=.ok (.int .i64 0) (World.drewN w3 q) from fun q=>by
      have:=(HT.out.drewN q).run_look 3 rfl HM4.out Zk underlying112 (.int .i64 0) qbe (Yi t (by omega));rw [(HL4.out.at (qya _ _ _)).1] at this
      exact this)
     have hr4:=HR4.out;have emx:max (lo:Int) 0=((max lo 0:Nat):Int):=by omega
     have fp3:=HT.out.free 0 0 rfl 3;refine Qc 11 (by kernel_rfl) (by kernel_rfl) ?_
     simp only [TD4]
     repeat (go_big_quiet_step ((fail)))
     refine wpQuiet_nil (QE fun nq=>?_)
     have HT:=Vh (HT.out.drewN nq);go_wp2_with fail
     refine ⟨rfl,?_⟩
     go_wp2
     have T5:=(HT.out.set 0 0 rfl 3 (.int .i64 (lo:Int))).eq (H':=[plB pb sb mb cli (steps+1) lo,gS1,g2,g3,gl]) rfl;go_roundw
     case rel=>exact ⟨k+1,_,_,_,g3,by omega,by go_num,HM4.out,by rw [HNX.out,HPP.out,HFN.out];exact HL4.out,by omega,by rw [HNX.out,HPP.out,HFN.out];exact T5⟩
     case measure=>simp [intOf];omega
   | some n =>
     have hlk:=HL2.out.at hw;have hnN:=hwle t n hw
     have hta:t≠a:=by
      intro e;unfold qor at hw;rw [if_pos e] at hw;cases hw
     have HFN:=Vh (show qek (qor ws a) (f1,lo) t=(qgd f1 t (n+1),max lo (n+1)) by unfold qek qqk;rw [hw]);clear hwle hw;have htb:((t:Int) != (a:Int))=true:=bne_iff_ne.2 (by omega)
     go_wp2_with (
      first
      | (at_mapUpdate
         (with_reducible refine Zy rfl (.tmp 32) (.tmp 33) _ rfl Zk underlying112 HT.out 3 rfl rfl HM3.out (by unfold maxLen;omega) rfl (.int .i64 (t:Int)) (.int .i64 0) (.int .i64 (t:Int)) rfl rfl (Yi t (by omega)) ?_)
         intro w3 g3 r3 T3;simp only [List.set_cons_zero,List.set_cons_succ] at T3;have HT:=Vh T3;have HM4:=Vh r3;have HL4:=Vh (show q7 (qo1 m2 (.int .i64 (t:Int)) (.int .i64 0)) (qgd f1 t 0) from qas HL3.out t 0);clear T3 r3;obtain ⟨p0,p3,p4⟩:=Ce3 (HT.out.cell 0 0 rfl) 0 3 4;have ltp:=HT.out.lt 0 0 rfl
         simp only [plB,GE3] at p0 p3 p4 ltp)
      | (at_mapUpdate
         (with_reducible refine Zy rfl (.tmp 49) (.tmp 50) _ rfl Zk underlying112 HT.out 3 rfl rfl HM4.out (by unfold maxLen;omega) rfl (.int .i64 (t:Int)) (.int .i64 ((n:Int)+1)) (.int .i64 (t:Int)) rfl rfl (Yi t (by omega)) ?_)
         intro w4 g4 r4 T4;simp only [List.set_cons_zero,List.set_cons_succ] at T4;have HT:=Vh T4;have HM5:=Vh r4;have HL5:=Vh (show q7 (qo1 (qo1 m2 (.int .i64 (t:Int)) (.int .i64 0)) (.int .i64 (t:Int)) (.int .i64 ((n:Int)+1))) (qgd (qgd f1 t 0) t (n+1)) from qas HL4.out t (n+1));clear T4 r4 p0 p3 p4 ltp;obtain ⟨p0,p3,p4⟩:=Ce3 (HT.out.cell 0 0 rfl) 0 3 4;have ltp:=HT.out.lt 0 0 rfl
         simp only [plB,GE3] at p0 p3 p4 ltp)
      | (at_lookup
         (with_reducible refine Zp rfl _ _ rfl Zk underlying112 (.int .i64 0) qbe HT.out 2 rfl HM2.out rfl (.int .i64 (t:Int)) (.int .i64 (t:Int)) rfl (Yi t (by omega)) ?_)
         rw [hlk.1,hlk.2]))
     have HR5:=Vh (show ∀ q,(Instr.lookup 112 (.map (some mb2)) (.int .i64 (t:Int)) false).run prog (World.drewN w4 q)=.ok (.int .i64 ((n:Int)+1)) (World.drewN w4 q) from fun q=>by
      have:=(HT.out.drewN q).run_look 3 rfl HM5.out Zk underlying112 (.int .i64 0) qbe (Yi t (by omega));rw [(HL5.out.at (qya _ _ _)).1] at this
      exact this)
     have hr5:=HR5.out;have emx:max (lo:Int) ((n:Int)+1)=((max lo (n+1):Nat):Int):=by omega
     simp only [Act.put];have fp3:=HT.out.free 0 0 rfl 3;refine Qc 11 (by kernel_rfl) (by kernel_rfl) ?_
     simp only [TD4]
     repeat (go_big_quiet_step ((fail)))
     refine wpQuiet_nil (QE fun nq=>?_)
     have HT:=Vh (HT.out.drewN nq);go_wp2_with fail
     refine ⟨rfl,?_⟩
     go_wp2
     have T5:=(HT.out.set 0 0 rfl 3 (.int .i64 ((max lo (n+1):Nat):Int))).eq (H':=[plB pb sb mb cli (steps+1) (max lo (n+1)),gS1,g2,g4,gl]) rfl;go_roundw
     case rel=>exact ⟨k+1,_,_,_,g4,by omega,by go_num,HM5.out,by rw [HNX.out,HPP.out,HFN.out,← q1l f1 t 0];exact HL5.out,by omega,by rw [HNX.out,HPP.out,HFN.out];exact T5⟩
     case measure=>simp [intOf];omega
  ·obtain rfl:k=M:=by omega
   have hend:Y7 PP a k=PP.S.mays.foldl (qek (qor PP.ws a)) (fun _=>none,PP.lon):=by
    unfold Y7;rw [List.take_of_length_le (by rw [HPP.out];exact Nat.le_of_eq HMM.out)]
   have hpn:=HP.out.made a;rw [← HPP.out] at hpn;have HPN:=Vh hpn;have HE:=Vh hend;have HT:=Vh T;have HX:=Vh (And.intro hm2 (And.intro hl2 hn2));clear T hm2 hl2 hend hpn;obtain ⟨p0,p3,p4⟩:=Ce3 (HT.out.cell 0 0 rfl) 0 3 4;have fp4:=HT.out.free 0 0 rfl 4;simp only [plB,GE3] at p0 p3 p4;have ltp:=HT.out.lt 0 0 rfl;simp only [] at ltp;go_wp2
   have hp4:PP.made a=⟨S,cli,steps+1,(Y7 PP a k).2,(Y7 PP a k).1⟩:=by
    rw [HE.out];unfold PlS.made;rw [HPP.out]
   rw [← HPP.out,hp4];exact bodyPost_end (results_none rfl _ _ _) rfl ⟨_,⟨mb2,gS1,gm,rfl,⟨HS1.out,⟨n2,m2,z2,HX.out.1,HX.out.2.1,by have:=HX.out.2.2;omega⟩,by rw [← hp4];exact HPN.out⟩,rfl⟩,((HT.out.set 0 0 rfl 4 (.map (some mb2))).pick [0,1,3] rfl).eq (H':=[plB pb sb mb2 cli (steps+1) (Y7 PP a k).2,gS1,gm]) rfl⟩
end
section
variable {N:Nat} {L:Lay} {pb sb mb:Nat} {P:PlS} {gS gM g:List Blk}
def zy (P:PlS) (k:Nat):Nat→Option Nat:=(P.S.mays.take k).foldl qgi P.ws
theorem qnd {P:PlS} {k t:Nat} (h:P.S.mays[k]?=some t):zy P (k+1)=qgi (zy P k) t:=by
 obtain ⟨h1,h2⟩:=List.getElem?_eq_some_iff.1 h;unfold zy;rw [List.take_succ_eq_append_getElem h1,h2,List.foldl_append];rfl
theorem q2u {K:Nat} (hK:K≤9000000000) (hs:isB N L sb P.S gS) (hmp:∃ n m z,qla prog 3 mb n m z gM∧q7 m P.ws∧n≤K) (hN:N<999998) :
 Qa prog 53 #[Qb pb] [plB pb sb mb P.cli P.steps P.lon,gS,gM] fun e gs =>
  ∃ gS' gM',e=.returned (.tuple #[])∧isB N L sb P.S gS'∧(∃ n m z,qla prog 3 mb n m z gM'∧q7 m P.look.ws∧n≤K+2000)∧gs=[plB pb sb mb P.cli P.steps P.lon,gS',gM']:=by
 obtain ⟨n,m,z,hm,hl,hn⟩:=hmp;have HMY:=Vh (q4k hs (by omega));obtain ⟨hml,hmt⟩:=qiv hs;have HM:=Vh hm;have HL:=Vh hl;obtain ⟨S,cli,steps,lon,ws⟩:=P;simp only at hml hmt HL HMY ⊢;refine GO fun w HT=>?_
 clear hs hm hl;obtain ⟨p0,p4⟩:=Ce2 (HT.out.cell 0 0 rfl) 0 4;simp only [plB,GE3] at p0 p4;have ltp:=HT.out.lt 0 0 rfl;simp only [] at ltp;go_enter func53,ntmps53
 go_wp2_with fail
 refine Qa.run (HMY.out) (HT.out) [1] ?_
 rintro e w1 gs ⟨v,gl,gS1,rfl,hrow,hs1,rfl⟩ HT;simp only [PU] at HT;obtain ⟨av,cap,hv⟩:=Qr.val hrow;subst hv;have HROW:=Vh hrow;have HS1:=Vh hs1;clear hrow hs1 p0 p4 ltp;obtain ⟨M,hM⟩:∃ M,S.mays.length=M:=⟨_,rfl⟩;have HMT:=Vh hmt;have HMM:=Vh hM;rw [hM] at hml;rw [HMM.out];clear hM hmt;go_wp2_with fail
 obtain ⟨PP,hPP⟩:∃ PP:PlS,PP=⟨S,cli,steps,lon,ws⟩:=⟨_,rfl⟩;have HPP:=Vh hPP;have T1:=HT.out
 go_loopw [12] (fun i wr=>∃ (k n2 z2:Nat) (m2:Lit→Option Value) (gm:List Blk),k≤M∧i=.int .i64 k∧qla prog 3 mb n2 m2 z2 gm∧q7 m2 (zy PP k)∧n2≤K+k∧TG [plB pb sb mb cli steps lon,gS,gM] w [plB pb sb mb cli steps lon,gS1,gm,gl] wr) (fun i _=>M+1 - (intOf i).toNat)
 case atStart=>exact ⟨0,n,z,m,gM,Nat.zero_le _,rfl,HM.out,by rw [hPP];exact HL.out,by omega,T1⟩
 case round =>
  obtain ⟨k,n2,z2,m2,gm,hk,rfl,hm2,hl2,hn2,T⟩:=hrel;clear T1 hPP;by_cases hlt:k<M
  ·obtain ⟨t,ht⟩:∃ t,S.mays[k]?=some t:=⟨_,List.getElem?_eq_getElem (by rw [HMM.out];exact hlt)⟩
   have ht6:=HMT.out t (List.mem_of_getElem? ht);have HNX:=Vh (qnd (P:=PP) (k:=k) (t:=t) (by rw [HPP.out];exact ht));obtain ⟨rb,cp,hv,hb⟩:=Jv HROW.out T 3 rfl (by simp) (k:=k) (x:=.int .i64 (t:Int)) (by unfold qd7;rw [List.getElem?_map,ht];rfl);rw [HMM.out] at hv;obtain ⟨rfl,rfl⟩:av=some ⟨rb,0,none⟩∧cap=cp:=by cases hv;exact ⟨rfl,rfl⟩
   have HT:=Vh T;have HM3:=Vh hm2;have HL3:=Vh hl2;clear T hm2 hl2 ht hv;obtain ⟨p0,p4⟩:=Ce2 (HT.out.cell 0 0 rfl) 0 4;have ltp:=HT.out.lt 0 0 rfl;simp only [plB,GE3] at p0 p4 ltp;cases hw:zy PP k t with
   | some x =>
     have hlk:=HL3.out.at hw;have HFN:=Vh (show qgi (zy PP k) t=zy PP k by unfold qgi;rw [hw]);clear hw;go_wp2_with (at_lookup;(with_reducible refine Zp rfl _ _ rfl Zk underlying112 (.int .i64 0) qbe HT.out 2 rfl HM3.out rfl (.int .i64 (t:Int)) (.int .i64 (t:Int)) rfl (Yi t (by omega)) ?_);rw [hlk.1,hlk.2])
     go_roundw
     case rel=>exact ⟨k+1,n2,z2,m2,gm,by omega,by go_num,HM3.out,by rw [HNX.out,HFN.out];exact HL3.out,by omega,HT.out⟩
     case measure=>simp [intOf];omega
   | none =>
     have hlk:=HL3.out.no hw;have HFN:=Vh (show qgi (zy PP k) t=qgd (zy PP k) t 0 by unfold qgi;rw [hw]);clear hw
     go_wp2_with (
      first
      | (at_lookup;(with_reducible refine Zp rfl _ _ rfl Zk underlying112 (.int .i64 0) qbe HT.out 2 rfl HM3.out rfl (.int .i64 (t:Int)) (.int .i64 (t:Int)) rfl (Yi t (by omega)) ?_);rw [hlk.1,hlk.2])
      | (at_mapUpdate
         (with_reducible refine Zy rfl (.tmp 30) (.tmp 31) _ rfl Zk underlying112 HT.out 2 rfl rfl HM3.out (by unfold maxLen;omega) rfl (.int .i64 (t:Int)) (.int .i64 0) (.int .i64 (t:Int)) rfl rfl (Yi t (by omega)) ?_)
         intro w3 g3 r3 T3;simp only [List.set_cons_zero,List.set_cons_succ] at T3;have HT:=Vh T3;have HM4:=Vh r3;have HL4:=Vh (show q7 (qo1 m2 (.int .i64 (t:Int)) (.int .i64 0)) (qgd (zy PP k) t 0) from qas HL3.out t 0)
         clear T3 r3))
     go_roundw
     case rel=>exact ⟨k+1,_,_,_,g3,by omega,by go_num,HM4.out,by rw [HNX.out,HFN.out];exact HL4.out,by omega,HT.out⟩
     case measure=>simp [intOf];omega
  ·obtain rfl:k=M:=by omega
   have hend:zy PP k=PP.S.mays.foldl qgi PP.ws:=by
    unfold zy;rw [List.take_of_length_le (by rw [HPP.out];exact Nat.le_of_eq HMM.out)]
   have HT:=Vh T;have HX:=Vh (And.intro hm2 (And.intro hl2 hn2));have HE:=Vh hend;clear T hm2 hl2 hend;go_wp2
   exact bodyPost_end (results_none rfl _ _ _) rfl ⟨_,⟨gS1,gm,rfl,HS1.out,⟨n2,m2,z2,HX.out.1,by have:=HX.out.2.1;rw [HE.out,HPP.out] at this;exact this,by have:=HX.out.2.2;omega⟩,rfl⟩,HT.out.pick [0,1,2] rfl⟩
theorem qx9 (h:Zl N L pb sb P g) (hN:N<999990) (a:Nat) (ha:a<1000000):Qa prog 51 #[Qb pb,.int .i64 a] [g] fun e gs =>
 ∃ g',e=.returned (.tuple #[])∧Zl (N+1) L pb sb (P.step a) g'∧gs=[g']:=by
 obtain ⟨mb,gS,gM,hi,rfl⟩:=h;have HST:=Vh (q4j hi.sv (by omega) (a:Int));have HI:=Vh hi;have hcell:=@PlS.step P a;refine GO fun w HT=>?_
 clear hi hcell;have HT:=Vh (HT.out.sum2 (H':=[plB pb sb mb P.cli P.steps P.lon,gS,gM]));have p0:=HT.out.cell 0 0 rfl 0;simp only [plB,GE3] at p0;have ltp:=HT.out.lt 0 0 rfl;simp only [] at ltp;by_cases hz:(P.S.stepS (a:Int)).2=0
 ·have HP:=Vh (show P.step a=({ P with S:=(P.S.stepS a).1 }:PlS).made a from if_pos hz)
  rw [hz] at HST;clear hz;go_enter func51,ntmps51
  go_wp2_with fail
  refine Qa.run (HST.out) (HT.out) [1] ?_
  rintro e w1 gs ⟨gS1,rfl,hs1,rfl⟩ HT;simp only [PU] at HT;have HMD:=Vh (qyu (pb:=pb) (P:={ P with S:=(P.S.stepS a).1 }) (mb:=mb) (gM:=gM) hs1 (by obtain ⟨n,m,z,h1,h2,h3⟩:=HI.out.mp;exact ⟨n,m,z,h1,h2,by omega⟩) (HI.out.pn.withS _) hN a ha);clear hs1;go_wp2_with fail
  refine Qa.run (HMD.out) (HT.out) [0,1,2] ?_
  rintro e w1 gs ⟨mb2,gS2,gM2,rfl,hi2,rfl⟩ HT;simp only [PU] at HT;have HI2:=Vh hi2;clear hi2;go_wp2
  exact bodyPost_end (results_none rfl _ _ _) rfl ⟨_,⟨_,rfl,by rw [HP.out];exact ⟨mb2,gS2,gM2,HI2.out,rfl⟩,rfl⟩,(HT.out.eq (H':=[plB pb sb mb2 (({ P with S:=(P.S.stepS a).1 }:PlS).made a).cli (({ P with S:=(P.S.stepS a).1 }:PlS).made a).steps (({ P with S:=(P.S.stepS a).1 }:PlS).made a).lon,gS2,gM2]) rfl).sum2⟩
 ·have HP:=Vh (show P.step a={ P with S:=(P.S.stepS a).1 } from if_neg hz)
  have hb:((P.S.stepS (a:Int)).2 == 0)=false:=beq_eq_false_iff_ne.2 hz;clear hz;go_enter func51,ntmps51
  go_wp2_with fail
  refine Qa.run (HST.out) (HT.out) [1] ?_
  rintro e w1 gs ⟨gS1,rfl,hs1,rfl⟩ HT;simp only [PU] at HT;have HS1:=Vh hs1;clear hs1;go_wp2
  exact bodyPost_end (results_none rfl _ _ _) rfl ⟨_,⟨_,rfl,by rw [HP.out];exact ⟨mb,gS1,gM,⟨HS1.out,(by obtain ⟨n,m,z,h1,h2,h3⟩:=HI.out.mp;exact ⟨n,m,z,h1,h2,by omega⟩),(HI.out.pn.withS _).mono (Nat.le_succ _)⟩,rfl⟩,rfl⟩,HT.out.sum2⟩
theorem qss (h:Zl N L pb sb P g) (hN:N<999990) (th:Int) (c:Qs) (hc:c.wf):Qa prog 27 #[Qb pb,.int .i64 th,.agg c.cells] [g] fun e gs =>
 ∃ g',e=.returned (.tuple #[.int .i64 (P.S.callNo th c),.int .i64 (P.S.callE th c)])∧Zl (N+1) L pb sb (P.call th c) g'∧gs=[g']:=by
 obtain ⟨mb,gS,gM,hi,rfl⟩:=h;have HCL:=Vh (q4o hi.sv (by omega) th c hc);have HI:=Vh hi;have HP:=Vh (show P.call th c=({ P with S:=P.S.callS 0 th c }:PlS).look from rfl);refine GO fun w HT=>?_
 clear hi hc;have HT:=Vh (HT.out.sum2 (H':=[plB pb sb mb P.cli P.steps P.lon,gS,gM]));have p0:=HT.out.cell 0 0 rfl 0;simp only [plB,GE3] at p0;have ltp:=HT.out.lt 0 0 rfl;simp only [] at ltp;simp only [Qs.cells] at HCL ⊢;go_enter func27,ntmps27
 go_wp2_with fail
 have HT:=Vh (HT.out.alloc (k:=w.heap.size) rfl 32 #[.int .i64 c.kind,.int .u64 c.id,.int .u64 c.dl,.int .u64 c.per]);obtain ⟨W0,hW0⟩:∃ W0,w.alloc (.cells #[.int .i64 c.kind,.int .u64 c.id,.int .u64 c.dl,.int .u64 c.per] 32)=W0:=⟨_,rfl⟩;rw [hW0] at HT ⊢;obtain ⟨bb,hbb⟩:∃ bb,w.heap.size=bb:=⟨_,rfl⟩;rw [hbb] at HT ⊢;clear p0 ltp hW0;have p0:=HT.out.cell 0 0 rfl 0;have ltp:=HT.out.lt 0 0 rfl;simp only [plB,GE3] at p0 ltp;obtain ⟨b0,b1,b2,b3⟩:=Ce4 (HT.out.cell 3 0 rfl) 0 1 2 3;simp only [GE4] at b0 b1 b2 b3;have ltb:=HT.out.lt 3 0 rfl;simp only [] at ltb;refine Qc 6 (by kernel_rfl) (by kernel_rfl) ?_
 simp only [TD4]
 repeat (go_big_quiet_step ((fail)))
 refine wpQuiet_nil (QE fun nq=>?_)
 have HT:=Vh (HT.out.drewN nq);go_wp2_with fail
 refine Qa.run (HCL.out) (HT.out) [1] ?_
 rintro e w1 gs ⟨gS1,rfl,hs1,rfl⟩ HT;simp only [PU] at HT;have HLK:=Vh (q2u (pb:=pb) (P:={ P with S:=P.S.callS 0 th c }) (mb:=mb) (gM:=gM) (K:=5000*(N+1)) (by omega) hs1 (by obtain ⟨n,m,z,h1,h2,h3⟩:=HI.out.mp;exact ⟨n,m,z,h1,h2,h3⟩) (by omega));clear hs1;go_wp2_with fail
 refine ⟨rfl,?_⟩
 go_wp2_with fail
 refine Qa.run (HLK.out) (HT.out) [0,1,2] ?_
 rintro e w1 gs ⟨gS2,gM2,rfl,hs2,hm2,rfl⟩ HT;simp only [PU] at HT;have HS2:=Vh (And.intro hs2 hm2);clear hs2 hm2;go_wp2
 go_ret2
 exact ⟨_,⟨_,rfl,by rw [HP.out];exact ⟨mb,gS2,gM2,⟨HS2.out.1,(by obtain ⟨n,m,z,h1,h2,h3⟩:=HS2.out.2;exact ⟨n,m,z,h1,h2,by omega⟩),((HI.out.pn.withS (P.S.callS 0 th c)).look).mono (Nat.le_succ _)⟩,rfl⟩,rfl⟩,((HT.out.pick [0,1,2] rfl).eq (H':=[plB pb sb mb (({ P with S:=P.S.callS 0 th c }:PlS).look).cli (({ P with S:=P.S.callS 0 th c }:PlS).look).steps (({ P with S:=P.S.callS 0 th c }:PlS).look).lon,gS2,gM2]) rfl).sum2⟩
end
end
end Go.Proofs.YtikpbibeagbccaaGreat
