import Derived.Test.YtcneeepdclgdcaaGreatSE35
import Derived.Test.YtcneeepdclgdcaaGreatSE25
import Derived.Test.YtcneeepdclgdcaaGreatSE12
set_option maxRecDepth 100000
set_option maxHeartbeats 4000000
namespace Go.Proofs.YtcneeepdclgdcaaGreat
open Go.Value renaming int->U1,tuple->U9,pointer->UH,nilIface->UQ,iface->UR
open Go.IntKind renaming i64->U2,u64->U3
open _root_.List renaming getD_eq_getElem?_getD->U4,mem_of_getElem?->U6,getElem?_map->U7,getElem?_eq_getElem->UA,replicate->UB,length_map->UC,getElem?_eq_some_iff->UF,eq_of_mem_replicate->UJ,eq_nil_of_length_eq_zero->UM,perm_iff_count->UN,flatten_append->UO,mem_cons_self->UT,flatten_cons->UU,count_append->UW,getElem?_append_left->UX,flatten_nil->UY,append_nil->UZ,map_append->V6,length_replicate->V7,mem_iff_getElem?->V8,mem_cons_of_mem->V9,map_set->Va,mem_map->Vb,length_set->Vf
open Go.Ending renaming returned->U5
open _root_.Int renaming toNat_natCast->U8,eq_ofNat_of_zero_le->UK,le_refl->US
open _root_.And renaming intro->UD
open _root_.Classical renaming byContradiction->UE
open _root_.Option renaming map_eq_some_iff->UG,isSome_iff_exists->UI,getD_some->Vd
open Go renaming wpQuiet_nil->UL
open _root_.Bool renaming and_eq_true->Ve
set_option linter.all false
open Go.Proofs.Tryz
section
open Go.RowKit Go.Shelf
section
variable {L:Lay} {sb:Nat} {S:SvS} {N:Nat} {vo va vc:Value} {go ga gc gJ gW gZ:List ak}
def zH (L:Lay) (sb:Nat) (S:SvS) (vo va vc:Value) (go:List ak) (th:Int) (c:Q0) (e:Ending) (gs:GH):Prop :=
 (∃ kb gN dP cu,S.cZ th c=0/\e=U5 (U9 #[.iface (Xw th (S.all.length+1) c).ty (Qb kb),U1 U2 0])/\oI L kb 0 (Xw th (S.all.length+1) c) gN/\Jb L S.all dP/\eZ L { S.z with x:=tQ (xn th (S.all.length+1) c) S.z.x } cu/\gs=[Xg sb L.fb vo va vc,go,dP,cu,gN]) \/
 (∃ v dP cu,S.cZ th c≠0/\e=U5 (U9 #[v,U1 U2 (S.cZ th c)])/\Jb L S.all dP/\eZ L S.z cu/\gs=[Xg sb L.fb vo va vc,go,dP,cu])
theorem AM {t:Nat} {c:Q0} (h1:t<S.own.length) (hd:decide ((t:Int)=(S.own.length:Int) - 1)=decide (c.kind=7)) (hb:S.bQ t=false) (hk:1<=c.kind/\c.kind<=7):S.cZ t c=0:=by
 unfold SvS.cZ;rw [if_neg (by omega),if_neg (by rw [hd];simp),if_neg (by rw [U8,hb];simp),if_neg (by omega)]
theorem q3o {t:Nat} {c:Q0} (h1:t<S.own.length) (hd:decide ((t:Int)=(S.own.length:Int) - 1)≠decide (c.kind=7)):S.cZ t c=1:=by
 unfold SvS.cZ;rw [if_neg (by omega),if_pos hd]
theorem KL {t:Nat} {c:Q0} (h1:t<S.own.length) (hd:decide ((t:Int)=(S.own.length:Int) - 1)=decide (c.kind=7)) (hb:S.bQ t=true) (hk:1<=c.kind/\c.kind<=7):S.cZ t c=10:=by
 unfold SvS.cZ;rw [if_neg (by omega),if_neg (by rw [hd];simp),if_pos ⟨by rw [U8];exact hb,hk⟩]
theorem qvg {t:Nat} {c:Q0} (h1:t<S.own.length) (hd:decide ((t:Int)=(S.own.length:Int) - 1)=decide (c.kind=7)) (hk:c.kind<1\/7<c.kind):S.cZ t c=1:=by
 unfold SvS.cZ;rw [if_neg (by omega),if_neg (by rw [hd];simp),if_neg (by omega),if_pos hk]
theorem q0b {th no:Int} {c:Q0} (h:c.kind=7):Xw th no c=.turn firstT (qC th no)/\xn th no c=ll (qC th no) { bL with kind:=1 }:=⟨if_pos h,if_pos h⟩
theorem q0a {th no:Int} {c:Q0} (h:c.kind=6):Xw th no c=.dM Gg (oM th no)/\xn th no c=pq (oM th no) { bL with kind:=1 }:=by
 have h7:¬ c.kind=7:=by omega
 exact ⟨(if_neg h7).trans (if_pos h),(if_neg h7).trans (if_pos h)⟩
theorem qz9 {th no:Int} {c:Q0} (h:c.kind<=5):Xw th no c=.call (Yp c.kind) (fP th no c)/\xn th no c=(fP th no c).ev { bL with kind:=1,id:=c.id,dl:=c.dl,per:=c.per }:=by
 have h7:¬ c.kind=7:=by omega
 have h6:¬ c.kind=6:=by omega
 exact ⟨(if_neg h7).trans (if_neg h6),(if_neg h7).trans (if_neg h6)⟩
theorem q6x (hz:eZ L S.z gZ) (hn:S.z.x.tr.length<=1000000) (th no:Int) (hth:0<=th):Qa prog 43 #[Qb L.fb,U1 U2 th,U1 U2 no] [gZ] fun en gs =>
 ∃ kb g cu,en=U5 (U9 #[Qb kb,U1 U2 0])/\oI L kb 0 (.turn firstT (qC th no)) g/\eZ L { S.z with x:=tQ (ll (qC th no) { bL with kind:=1 }) S.z.x } cu/\gs=[g,cu]:=by
 obtain ⟨gT,gL,h1,h2,rfl⟩:=hz;intro w hw;have h2':Yz ([gT]++[gL]) w:=hw.re (by simp);refine (qyf h1 hn th no hth w h2'.left).mono ?_
 rintro e w' ⟨gs,⟨kb,g,aJ,rfl,a,b,rfl⟩,T⟩;exact ⟨_,⟨kb,g,aJ++gL,rfl,a,⟨aJ,gL,b,h2,rfl⟩,rfl⟩,((T.frame h2').eq (by simp)).base (by simp)⟩
theorem q6w (hz:eZ L S.z gZ) (hn:S.z.x.tr.length<=1000000) (th no:Int):Qa prog 47 #[Qb L.fb,U1 U2 th,U1 U2 no] [gZ] fun en gs =>
 ∃ kb g cu,en=U5 (U9 #[Qb kb,U1 U2 0])/\oI L kb 0 (.dM Gg (oM th no)) g/\eZ L { S.z with x:=tQ (pq (oM th no) { bL with kind:=1 }) S.z.x } cu/\gs=[g,cu]:=by
 obtain ⟨gC,gW,gP,gL,h1,h2,h3,h4,rfl⟩:=Zs hz;intro w hw
 have h2':Yz ([gC++gP]++[gW++gL]) w:=hw.re (by
  classical
  refine UN.2 fun x=>?_
  simp only [UO,UU,UY,UZ,UW]
  omega)
 refine (qzq ⟨gC,gP,h1,h3,rfl⟩ hn th no w h2'.left).mono ?_
 rintro e w' ⟨gs,⟨kb,g,aJ,rfl,a,⟨jm,zZ,b1,b2,rfl⟩,rfl⟩,T⟩;refine ⟨_,⟨kb,g,_,rfl,a,zm (z:={ S.z with x:=tQ (pq (oM th no) { bL with kind:=1 }) S.z.x }) b1 h2 b2 h4,rfl⟩,((T.frame h2').re ?_).dO ?_⟩
 ·classical
  refine UN.2 fun x=>?_
  simp only [UO,UU,UY,UZ,UW];omega
 ·classical
  refine UN.2 fun x=>?_
  simp only [UO,UU,UY,UZ,UW];omega
theorem q6v (hz:eZ L S.z gZ) (hn:S.z.x.tr.length<=1000000) (th no:Int) (c:Q0) (h1:1<=c.kind) (h5:c.kind<=5):Qa prog 15 #[Qb L.fb,U1 U2 th,U1 U2 no,.agg c.cells] [gZ] fun en gs =>
 ∃ kb g cu,en=U5 (U9 #[Qb kb,U1 U2 0])/\oI L kb 0 (.call (Yp c.kind) (fP th no c)) g/\eZ L { S.z with x:=tQ ((fP th no c).ev { bL with kind:=1,id:=c.id,dl:=c.dl,per:=c.per }) S.z.x } cu/\gs=[g,cu]:=by
 obtain ⟨gC,gW,gP,gL,k1,k2,k3,k4,rfl⟩:=Zs hz;intro w hw;have h2':Yz ([gC]++[gW++(gP++gL)]) w:=hw.re (by simp);refine (qvf k1 hn th no c h1 h5 w h2'.left).mono ?_
 rintro e w' ⟨gs,⟨kb,g,jm,rfl,a,b,rfl⟩,T⟩;exact ⟨_,⟨kb,g,_,rfl,a,zm (z:={ S.z with x:=tQ ((fP th no c).ev { bL with kind:=1,id:=c.id,dl:=c.dl,per:=c.per }) S.z.x }) b k2 k3 k4,rfl⟩,((T.frame h2').eq (by simp)).base (by simp)⟩
theorem qzb (hz:eZ L S.z gZ) (th no:Int) (c:Q0) (h:c.kind<1\/5<c.kind):Qa prog 15 #[Qb L.fb,U1 U2 th,U1 U2 no,.agg c.cells] [gZ] fun en gs =>
 en=U5 (U9 #[UH none,U1 U2 1])/\gs=[gZ]:=by
 obtain ⟨gC,gW,gP,gL,k1,k2,k3,k4,rfl⟩:=Zs hz;intro w hw;have h2':Yz ([gC]++[gW++(gP++gL)]) w:=hw.re (by simp);refine (qjv k1 th no c h w h2'.left).mono ?_
 rintro e w' ⟨gs,⟨rfl,rfl⟩,T⟩;exact ⟨_,⟨rfl,rfl⟩,((T.frame h2').eq (by simp)).base (by simp)⟩
theorem qve (hn:dN N S) (hN:N<999998) (hr:Y6 L sb S vo va vc go ga gc) (hi:kI L S gJ gW gZ) {t:Nat} (ht:t<S.own.length) (c:Q0)
 (hd:decide ((t:Int)=(S.own.length:Int) - 1)≠decide (c.kind=7)):Qa prog 163 #[Qb sb,U1 U2 t,U1 U2 (S.all.length+1),.agg c.cells] [Xg sb L.fb vo va vc,go,gJ,gZ] (zH L sb S vo va vc go t c):=by
 have HE:=Vh (q3o ht hd);obtain ⟨iO,dG,rfl⟩:=Q3.val hr.o;have HJ:=Vh hi.j;have HZ:=Vh hi.z;have htr:S.z.x.tr.length<=1000000:=by have:=hn.eF.zn.core.tr;omega
 have hol:=hn.ol;have hno:((S.all.length:Int)+1)=((S.all.length:Int)+1):=rfl;obtain ⟨NO,gu⟩:∃ x,((S.all.length:Int)+1)=x:=⟨_,rfl⟩;have lS:=Vh hr.o;refine GO fun w HT=>?_
 obtain ⟨sv0,fZ⟩:=HT.c2 0 0 0 1;simp only [Xg,az] at sv0 fZ;have eO:=HT.l 0 0;simp only [] at eO;obtain ⟨o,ho⟩:∃ o,S.own[t]?=some o:=⟨_,UA ht⟩;obtain ⟨rb,cp,hv,hcell⟩:=z7 lS HT 1 rfl (by simp) (k:=t) (x:=kF (o.map fun a=>((S.af a).w,(S.af a).kb))) (by unfold SvS.os;rw [U7,U7,ho];rfl);obtain ⟨rfl,rfl⟩:iO=some ⟨rb,0,none⟩/\dG=cp:=by cases hv;exact ⟨rfl,rfl⟩
 have bM:rb<w.heap.size:=by
  obtain ⟨b',c',cur,hv',hg',_⟩:=lS.open (by omega);cases hv'
  have:=HT.lt 1 0 (p:=(rb,.cells cur 205)) (by show go[0]?=_;rw [hg'];rfl);exact this
 clear hv;obtain ⟨kd,id,dl,per⟩:=c;simp only at hd;have q1:((t:Int) == (S.own.length:Int) - 1)=decide ((t:Int)=(S.own.length:Int) - 1):=rfl;have q2:(kd == 7)=decide (kd=7):=rfl;cases b1:decide ((t:Int)=(S.own.length:Int) - 1) <;> cases b2:decide (kd=7) <;> rw [b1] at q1 hd <;> rw [b2] at q2 hd
 ·exact absurd rfl hd
 ·clear hr hi hn hd b1 b2
  simp only [Q0.cells];rw [gu];go_enter func163,ntmps163
  go_wp2
  go_ret2
  exact ⟨_,.inr ⟨.nilIface,gJ,gZ,by rw [HE.out];decide,by rw [HE.out];rfl,HJ,HZ,rfl⟩,HT.aT _⟩
 ·clear hr hi hn hd b1 b2
  simp only [Q0.cells];rw [gu];go_enter func163,ntmps163
  go_wp2
  go_ret2
  exact ⟨_,.inr ⟨.nilIface,gJ,gZ,by rw [HE.out];decide,by rw [HE.out];rfl,HJ,HZ,rfl⟩,HT.aT _⟩
 ·exact absurd rfl hd
end
section
variable {L:Lay} {sb:Nat} {S:SvS} {N:Nat} {vo va vc:Value} {go ga gc gJ gW gZ:List ak}
theorem qr3 (hn:dN N S) (hN:N<999998) (hr:Y6 L sb S vo va vc go ga gc) (hi:kI L S gJ gW gZ) {t:Nat} (ht:t<S.own.length) (id dl per:Int)
 (hd:(t:Int)=(S.own.length:Int) - 1):Qa prog 163 #[Qb sb,U1 U2 t,U1 U2 (S.all.length+1),.agg (Q0.cells ⟨7,id,dl,per⟩)] [Xg sb L.fb vo va vc,go,gJ,gZ] (zH L sb S vo va vc go t ⟨7,id,dl,per⟩):=by
 obtain ⟨iO,dG,rfl⟩:=Q3.val hr.o;have HJ:=Vh hi.j;have HZ:=Vh hi.z;have htr:S.z.x.tr.length<=1000000:=by have:=hn.eF.zn.core.tr;omega
 have hol:=hn.ol;obtain ⟨NO,gu⟩:∃ x,((S.all.length:Int)+1)=x:=⟨_,rfl⟩;have lS:=Vh hr.o;refine GO fun w HT=>?_
 obtain ⟨sv0,fZ⟩:=HT.c2 0 0 0 1;simp only [Xg,az] at sv0 fZ;have eO:=HT.l 0 0;simp only [] at eO;obtain ⟨o,ho⟩:∃ o,S.own[t]?=some o:=⟨_,UA ht⟩;obtain ⟨rb,cp,hv,hcell⟩:=z7 lS HT 1 rfl (by simp) (k:=t) (x:=kF (o.map fun a=>((S.af a).w,(S.af a).kb))) (by unfold SvS.os;rw [U7,U7,ho];rfl);obtain ⟨rfl,rfl⟩:iO=some ⟨rb,0,none⟩/\dG=cp:=by cases hv;exact ⟨rfl,rfl⟩
 have bM:rb<w.heap.size:=by
  obtain ⟨b',c',cur,hv',hg',_⟩:=lS.open (by omega);cases hv'
  have:=HT.lt 1 0 (p:=(rb,.cells cur 205)) (by show go[0]?=_;rw [hg'];rfl);exact this
 clear hv;have HF:=Vh (q0b (th:=(t:Int)) (no:=NO) (c:=⟨7,id,dl,per⟩) rfl);have jg:=Vh (q6x HZ htr (t:Int) ((S.all.length:Int)+1) (by omega));have q1:((t:Int) == (S.own.length:Int) - 1)=true:=by rw [hd];exact beq_self_eq_true _
 have hdd:decide ((t:Int)=(S.own.length:Int) - 1)=decide ((7:Int)=7):=by rw [decide_eq_true hd];rfl
 cases o with
 | none =>
   have hb:S.bQ t=false:=by unfold SvS.bQ;rw [U4,ho];rfl
   have hnq:=Az;change _=some UQ at hcell
   have iN:=HJ;have HE:=Vh (AM (c:=⟨7,id,dl,per⟩) ht hdd hb (show (1:Int)<=7/\(7:Int)<=7 by decide));clear hdd hd;clear hr hi hn ho;simp only [Q0.cells];rw [gu] at jg |-;have HT:=Vh (HT.out.a 38 #[U1 U2 7,U1 U3 id,U1 U3 dl,U1 U3 per]);obtain ⟨W0,hW0⟩:∃ W0,W0=w.alloc (.cells #[U1 U2 7,U1 U3 id,U1 U3 dl,U1 U3 per] 38):=⟨_,rfl⟩;go_enter func163,ntmps163
   go_wp2_with fail
   refine Qa.run jg HT [3] ?_
   rintro e w1 gs ⟨kb,gN,cu,rfl,hjn,hz',rfl⟩ HT;simp only [PU] at HT;have HX:=Vh (UD hjn hz');clear hjn hz';skip
   go_wp2
   go_ret2
   exact ⟨_,.inl ⟨kb,gN,_,cu,HE,by rw [gu,HF.out.1];rfl,by rw [gu,HF.out.1];exact HX.1,iN,by rw [gu,HF.out.2];exact HX.2,rfl⟩,HT.p [0,1,2,5,3]⟩
 | some a =>
   have hk:=Xd (hn.own a (U6 ho));have hbz:S.bQ t=!(S.af a).w.done:=by unfold SvS.bQ;rw [U4,ho];rfl
   have HD:=Vh (Dy hi.j hk);have hnq:=AU (S.af a).w (S.af a).kb;have hmt:=DC (S.af a).w;have hcl:=D9 (S.af a).w;change _=some (UR (S.af a).w.ty (Qb (S.af a).kb)) at hcell
   obtain ⟨d,hdn⟩:∃ d,(S.af a).w.done=d:=⟨_,rfl⟩;obtain ⟨zG,hty⟩:∃ y,(S.af a).w.ty=y:=⟨_,rfl⟩;obtain ⟨fV,fM⟩:∃ y,(S.af a).w.iD=y:=⟨_,rfl⟩;obtain ⟨bV,hbv⟩:∃ y,(S.af a).kb=y:=⟨_,rfl⟩;rw [hdn,fM,hbv] at HD;rw [hty,fM] at hmt;rw [hty,hbv] at hnq;rw [fM] at hcl;rw [hdn] at hbz;rw [hty,hbv] at hcell;clear hk hdn hty fM hbv;cases d with
   | true =>
     have HE:=Vh (AM (c:=⟨7,id,dl,per⟩) ht hdd hbz (show (1:Int)<=7/\(7:Int)<=7 by decide));clear hdd hd hbz;clear hr hi hn ho;simp only [Q0.cells];rw [gu] at jg |-;have HT:=Vh (HT.out.a 38 #[U1 U2 7,U1 U3 id,U1 U3 dl,U1 U3 per]);obtain ⟨W0,hW0⟩:∃ W0,W0=w.alloc (.cells #[U1 U2 7,U1 U3 id,U1 U3 dl,U1 U3 per] 38):=⟨_,rfl⟩;go_enter func163,ntmps163
     go_wp2_with fail
     refine Qa.run HD HT [2] ?_
     rintro e w1 gs ⟨dP,rfl,hj',rfl⟩ HT;simp only [PU] at HT;have iN:=Vh hj';clear hj' sv0 fZ hcell;have sv0:=HT.c 0 0 0;simp only [Xg,az] at sv0;have eO:=HT.l 0 0;simp only [] at eO;obtain ⟨b0,b1,b2,b3⟩:=HT.c4 4 0 0 1 2 3;simp only [aN] at b0 b1 b2 b3;have mI:=HT.l 4 0;simp only [] at mI;go_wp2_with fail
     refine Qa.run jg HT [3] ?_
     rintro e w1 gs ⟨kb,gN,cu,rfl,hjn,hz',rfl⟩ HT;simp only [PU] at HT;have HX:=Vh (UD hjn hz');clear hjn hz';skip
     go_wp2
     go_ret2
     exact ⟨_,.inl ⟨kb,gN,_,cu,HE,by rw [gu,HF.out.1];rfl,by rw [gu,HF.out.1];exact HX.1,iN,by rw [gu,HF.out.2];exact HX.2,rfl⟩,HT.p [0,1,2,5,3]⟩
   | false =>
     have HE:=Vh (KL (c:=⟨7,id,dl,per⟩) ht hdd hbz (show (1:Int)<=7/\(7:Int)<=7 by decide));clear hdd hd hbz;clear hr hi hn ho;simp only [Q0.cells];rw [gu] at jg |-;have HT:=Vh (HT.out.a 38 #[U1 U2 7,U1 U3 id,U1 U3 dl,U1 U3 per]);obtain ⟨W0,hW0⟩:∃ W0,W0=w.alloc (.cells #[U1 U2 7,U1 U3 id,U1 U3 dl,U1 U3 per] 38):=⟨_,rfl⟩;go_enter func163,ntmps163
     go_wp2_with fail
     refine Qa.run HD HT [2] ?_
     rintro e w1 gs ⟨dP,rfl,hj',rfl⟩ HT;simp only [PU] at HT;have iN:=Vh hj';clear hj' sv0 fZ hcell;have sv0:=HT.c 0 0 0;simp only [Xg,az] at sv0;have eO:=HT.l 0 0;simp only [] at eO;obtain ⟨b0,b1,b2,b3⟩:=HT.c4 4 0 0 1 2 3;simp only [aN] at b0 b1 b2 b3;have mI:=HT.l 4 0;simp only [] at mI;go_wp2
     go_ret2
     exact ⟨_,.inr ⟨.nilIface,_,gZ,by rw [HE.out];decide,by rw [HE.out];rfl,iN,HZ,rfl⟩,HT.p [0,1,2,3]⟩
theorem qr2 (hn:dN N S) (hN:N<999998) (hr:Y6 L sb S vo va vc go ga gc) (hi:kI L S gJ gW gZ) {t:Nat} (ht:t<S.own.length) (id dl per:Int)
 (hd:(t:Int)≠(S.own.length:Int) - 1):Qa prog 163 #[Qb sb,U1 U2 t,U1 U2 (S.all.length+1),.agg (Q0.cells ⟨6,id,dl,per⟩)] [Xg sb L.fb vo va vc,go,gJ,gZ] (zH L sb S vo va vc go t ⟨6,id,dl,per⟩):=by
 obtain ⟨iO,dG,rfl⟩:=Q3.val hr.o;have HJ:=Vh hi.j;have HZ:=Vh hi.z;have htr:S.z.x.tr.length<=1000000:=by have:=hn.eF.zn.core.tr;omega
 have hol:=hn.ol;obtain ⟨NO,gu⟩:∃ x,((S.all.length:Int)+1)=x:=⟨_,rfl⟩;have lS:=Vh hr.o;refine GO fun w HT=>?_
 obtain ⟨sv0,fZ⟩:=HT.c2 0 0 0 1;simp only [Xg,az] at sv0 fZ;have eO:=HT.l 0 0;simp only [] at eO;obtain ⟨o,ho⟩:∃ o,S.own[t]?=some o:=⟨_,UA ht⟩;obtain ⟨rb,cp,hv,hcell⟩:=z7 lS HT 1 rfl (by simp) (k:=t) (x:=kF (o.map fun a=>((S.af a).w,(S.af a).kb))) (by unfold SvS.os;rw [U7,U7,ho];rfl);obtain ⟨rfl,rfl⟩:iO=some ⟨rb,0,none⟩/\dG=cp:=by cases hv;exact ⟨rfl,rfl⟩
 have bM:rb<w.heap.size:=by
  obtain ⟨b',c',cur,hv',hg',_⟩:=lS.open (by omega);cases hv'
  have:=HT.lt 1 0 (p:=(rb,.cells cur 205)) (by show go[0]?=_;rw [hg'];rfl);exact this
 clear hv;have HF:=Vh (q0a (th:=(t:Int)) (no:=NO) (c:=⟨6,id,dl,per⟩) rfl);have jg:=Vh (q6w HZ htr (t:Int) ((S.all.length:Int)+1));have q1:((t:Int) == (S.own.length:Int) - 1)=false:=beq_eq_false_iff_ne.2 hd;have hdd:decide ((t:Int)=(S.own.length:Int) - 1)=decide ((6:Int)=7):=by rw [decide_eq_false hd];rfl
 cases o with
 | none =>
   have hb:S.bQ t=false:=by unfold SvS.bQ;rw [U4,ho];rfl
   have hnq:=Az;change _=some UQ at hcell
   have iN:=HJ;have HE:=Vh (AM (c:=⟨6,id,dl,per⟩) ht hdd hb (show (1:Int)<=6/\(6:Int)<=7 by decide));clear hdd hd;clear hr hi hn ho;simp only [Q0.cells];rw [gu] at jg |-;have HT:=Vh (HT.out.a 38 #[U1 U2 6,U1 U3 id,U1 U3 dl,U1 U3 per]);obtain ⟨W0,hW0⟩:∃ W0,W0=w.alloc (.cells #[U1 U2 6,U1 U3 id,U1 U3 dl,U1 U3 per] 38):=⟨_,rfl⟩;go_enter func163,ntmps163
   go_wp2_with fail
   refine Qa.run jg HT [3] ?_
   rintro e w1 gs ⟨kb,gN,cu,rfl,hjn,hz',rfl⟩ HT;simp only [PU] at HT;have HX:=Vh (UD hjn hz');clear hjn hz';skip
   go_wp2
   go_ret2
   exact ⟨_,.inl ⟨kb,gN,_,cu,HE,by rw [gu,HF.out.1];rfl,by rw [gu,HF.out.1];exact HX.1,iN,by rw [gu,HF.out.2];exact HX.2,rfl⟩,HT.p [0,1,2,5,3]⟩
 | some a =>
   have hk:=Xd (hn.own a (U6 ho));have hbz:S.bQ t=!(S.af a).w.done:=by unfold SvS.bQ;rw [U4,ho];rfl
   have HD:=Vh (Dy hi.j hk);have hnq:=AU (S.af a).w (S.af a).kb;have hmt:=DC (S.af a).w;have hcl:=D9 (S.af a).w;change _=some (UR (S.af a).w.ty (Qb (S.af a).kb)) at hcell
   obtain ⟨d,hdn⟩:∃ d,(S.af a).w.done=d:=⟨_,rfl⟩;obtain ⟨zG,hty⟩:∃ y,(S.af a).w.ty=y:=⟨_,rfl⟩;obtain ⟨fV,fM⟩:∃ y,(S.af a).w.iD=y:=⟨_,rfl⟩;obtain ⟨bV,hbv⟩:∃ y,(S.af a).kb=y:=⟨_,rfl⟩;rw [hdn,fM,hbv] at HD;rw [hty,fM] at hmt;rw [hty,hbv] at hnq;rw [fM] at hcl;rw [hdn] at hbz;rw [hty,hbv] at hcell;clear hk hdn hty fM hbv;cases d with
   | true =>
     have HE:=Vh (AM (c:=⟨6,id,dl,per⟩) ht hdd hbz (show (1:Int)<=6/\(6:Int)<=7 by decide));clear hdd hd hbz;clear hr hi hn ho;simp only [Q0.cells];rw [gu] at jg |-;have HT:=Vh (HT.out.a 38 #[U1 U2 6,U1 U3 id,U1 U3 dl,U1 U3 per]);obtain ⟨W0,hW0⟩:∃ W0,W0=w.alloc (.cells #[U1 U2 6,U1 U3 id,U1 U3 dl,U1 U3 per] 38):=⟨_,rfl⟩;go_enter func163,ntmps163
     go_wp2_with fail
     refine Qa.run HD HT [2] ?_
     rintro e w1 gs ⟨dP,rfl,hj',rfl⟩ HT;simp only [PU] at HT;have iN:=Vh hj';clear hj' sv0 fZ hcell;have sv0:=HT.c 0 0 0;simp only [Xg,az] at sv0;have eO:=HT.l 0 0;simp only [] at eO;obtain ⟨b0,b1,b2,b3⟩:=HT.c4 4 0 0 1 2 3;simp only [aN] at b0 b1 b2 b3;have mI:=HT.l 4 0;simp only [] at mI;go_wp2_with fail
     refine Qa.run jg HT [3] ?_
     rintro e w1 gs ⟨kb,gN,cu,rfl,hjn,hz',rfl⟩ HT;simp only [PU] at HT;have HX:=Vh (UD hjn hz');clear hjn hz';skip
     go_wp2
     go_ret2
     exact ⟨_,.inl ⟨kb,gN,_,cu,HE,by rw [gu,HF.out.1];rfl,by rw [gu,HF.out.1];exact HX.1,iN,by rw [gu,HF.out.2];exact HX.2,rfl⟩,HT.p [0,1,2,5,3]⟩
   | false =>
     have HE:=Vh (KL (c:=⟨6,id,dl,per⟩) ht hdd hbz (show (1:Int)<=6/\(6:Int)<=7 by decide));clear hdd hd hbz;clear hr hi hn ho;simp only [Q0.cells];rw [gu] at jg |-;have HT:=Vh (HT.out.a 38 #[U1 U2 6,U1 U3 id,U1 U3 dl,U1 U3 per]);obtain ⟨W0,hW0⟩:∃ W0,W0=w.alloc (.cells #[U1 U2 6,U1 U3 id,U1 U3 dl,U1 U3 per] 38):=⟨_,rfl⟩;go_enter func163,ntmps163
     go_wp2_with fail
     refine Qa.run HD HT [2] ?_
     rintro e w1 gs ⟨dP,rfl,hj',rfl⟩ HT;simp only [PU] at HT;have iN:=Vh hj';clear hj' sv0 fZ hcell;have sv0:=HT.c 0 0 0;simp only [Xg,az] at sv0;have eO:=HT.l 0 0;simp only [] at eO;obtain ⟨b0,b1,b2,b3⟩:=HT.c4 4 0 0 1 2 3;simp only [aN] at b0 b1 b2 b3;have mI:=HT.l 4 0;simp only [] at mI;go_wp2
     go_ret2
     exact ⟨_,.inr ⟨.nilIface,_,gZ,by rw [HE.out];decide,by rw [HE.out];rfl,iN,HZ,rfl⟩,HT.p [0,1,2,3]⟩
theorem qr0 (hn:dN N S) (hN:N<999998) (hr:Y6 L sb S vo va vc go ga gc) (hi:kI L S gJ gW gZ) {t:Nat} (ht:t<S.own.length) (kd id dl per:Int) (h1:1<=kd) (h5:kd<=5)
 (hd:(t:Int)≠(S.own.length:Int) - 1):Qa prog 163 #[Qb sb,U1 U2 t,U1 U2 (S.all.length+1),.agg (Q0.cells ⟨kd,id,dl,per⟩)] [Xg sb L.fb vo va vc,go,gJ,gZ] (zH L sb S vo va vc go t ⟨kd,id,dl,per⟩):=by
 obtain ⟨iO,dG,rfl⟩:=Q3.val hr.o;have HJ:=Vh hi.j;have HZ:=Vh hi.z;have htr:S.z.x.tr.length<=1000000:=by have:=hn.eF.zn.core.tr;omega
 have hol:=hn.ol;obtain ⟨NO,gu⟩:∃ x,((S.all.length:Int)+1)=x:=⟨_,rfl⟩;have lS:=Vh hr.o;refine GO fun w HT=>?_
 obtain ⟨sv0,fZ⟩:=HT.c2 0 0 0 1;simp only [Xg,az] at sv0 fZ;have eO:=HT.l 0 0;simp only [] at eO;obtain ⟨o,ho⟩:∃ o,S.own[t]?=some o:=⟨_,UA ht⟩;obtain ⟨rb,cp,hv,hcell⟩:=z7 lS HT 1 rfl (by simp) (k:=t) (x:=kF (o.map fun a=>((S.af a).w,(S.af a).kb))) (by unfold SvS.os;rw [U7,U7,ho];rfl);obtain ⟨rfl,rfl⟩:iO=some ⟨rb,0,none⟩/\dG=cp:=by cases hv;exact ⟨rfl,rfl⟩
 have bM:rb<w.heap.size:=by
  obtain ⟨b',c',cur,hv',hg',_⟩:=lS.open (by omega);cases hv'
  have:=HT.lt 1 0 (p:=(rb,.cells cur 205)) (by show go[0]?=_;rw [hg'];rfl);exact this
 clear hv;have HF:=Vh (qz9 (th:=(t:Int)) (no:=NO) (c:=⟨kd,id,dl,per⟩) h5);have jg:=Vh (q6v HZ htr (t:Int) ((S.all.length:Int)+1) ⟨kd,id,dl,per⟩ h1 h5);simp only [Q0.cells] at jg;have q1:((t:Int) == (S.own.length:Int) - 1)=false:=beq_eq_false_iff_ne.2 hd;have q2:(kd == 7)=false:=beq_eq_false_iff_ne.2 (by omega);have q3:(kd == 6)=false:=beq_eq_false_iff_ne.2 (by omega);have hdd:decide ((t:Int)=(S.own.length:Int) - 1)=decide (kd=7):=by rw [decide_eq_false hd,decide_eq_false (by omega)]
 cases o with
 | none =>
   have hb:S.bQ t=false:=by unfold SvS.bQ;rw [U4,ho];rfl
   have hnq:=Az;change _=some UQ at hcell
   have iN:=HJ;have HE:=Vh (AM (c:=⟨kd,id,dl,per⟩) ht hdd hb ⟨h1,by show kd<=7;omega⟩);clear hdd hd;clear hr hi hn ho;simp only [Q0.cells];rw [gu] at jg |-;have HT:=Vh (HT.out.a 38 #[U1 U2 kd,U1 U3 id,U1 U3 dl,U1 U3 per]);obtain ⟨W0,hW0⟩:∃ W0,W0=w.alloc (.cells #[U1 U2 kd,U1 U3 id,U1 U3 dl,U1 U3 per] 38):=⟨_,rfl⟩;go_enter func163,ntmps163
   go_wp2_with fail
   refine Mx 7 ?_
   simp only [bY]
   repeat (go_big_quiet_step ((fail)))
   refine UL (QT HT fun nq HT=>?_)
   go_wp2_with fail
   refine Qa.run jg HT [3] ?_
   rintro e w1 gs ⟨kb,gN,cu,rfl,hjn,hz',rfl⟩ HT;simp only [PU] at HT;have HX:=Vh (UD hjn hz');clear hjn hz';go_wp2_with fail
   refine ⟨rfl,?_⟩
   go_wp2
   go_ret2
   exact ⟨_,.inl ⟨kb,gN,_,cu,HE,by rw [gu,HF.out.1];rfl,by rw [gu,HF.out.1];exact HX.1,iN,by rw [gu,HF.out.2];exact HX.2,rfl⟩,HT.p [0,1,2,5,3]⟩
 | some a =>
   have hk:=Xd (hn.own a (U6 ho));have hbz:S.bQ t=!(S.af a).w.done:=by unfold SvS.bQ;rw [U4,ho];rfl
   have HD:=Vh (Dy hi.j hk);have hnq:=AU (S.af a).w (S.af a).kb;have hmt:=DC (S.af a).w;have hcl:=D9 (S.af a).w;change _=some (UR (S.af a).w.ty (Qb (S.af a).kb)) at hcell
   obtain ⟨d,hdn⟩:∃ d,(S.af a).w.done=d:=⟨_,rfl⟩;obtain ⟨zG,hty⟩:∃ y,(S.af a).w.ty=y:=⟨_,rfl⟩;obtain ⟨fV,fM⟩:∃ y,(S.af a).w.iD=y:=⟨_,rfl⟩;obtain ⟨bV,hbv⟩:∃ y,(S.af a).kb=y:=⟨_,rfl⟩;rw [hdn,fM,hbv] at HD;rw [hty,fM] at hmt;rw [hty,hbv] at hnq;rw [fM] at hcl;rw [hdn] at hbz;rw [hty,hbv] at hcell;clear hk hdn hty fM hbv;cases d with
   | true =>
     have HE:=Vh (AM (c:=⟨kd,id,dl,per⟩) ht hdd hbz ⟨h1,by show kd<=7;omega⟩);clear hdd hd hbz;clear hr hi hn ho;simp only [Q0.cells];rw [gu] at jg |-;have HT:=Vh (HT.out.a 38 #[U1 U2 kd,U1 U3 id,U1 U3 dl,U1 U3 per]);obtain ⟨W0,hW0⟩:∃ W0,W0=w.alloc (.cells #[U1 U2 kd,U1 U3 id,U1 U3 dl,U1 U3 per] 38):=⟨_,rfl⟩;go_enter func163,ntmps163
     go_wp2_with fail
     refine Qa.run HD HT [2] ?_
     rintro e w1 gs ⟨dP,rfl,hj',rfl⟩ HT;simp only [PU] at HT;have iN:=Vh hj';clear hj' sv0 fZ hcell;have sv0:=HT.c 0 0 0;simp only [Xg,az] at sv0;have eO:=HT.l 0 0;simp only [] at eO;obtain ⟨b0,b1,b2,b3⟩:=HT.c4 4 0 0 1 2 3;simp only [aN] at b0 b1 b2 b3;have mI:=HT.l 4 0;simp only [] at mI;go_wp2_with fail
     refine Mx 7 ?_
     simp only [bY]
     repeat (go_big_quiet_step ((fail)))
     refine UL (QT HT fun nq HT=>?_)
     go_wp2_with fail
     refine Qa.run jg HT [3] ?_
     rintro e w1 gs ⟨kb,gN,cu,rfl,hjn,hz',rfl⟩ HT;simp only [PU] at HT;have HX:=Vh (UD hjn hz');clear hjn hz';go_wp2_with fail
     refine ⟨rfl,?_⟩
     go_wp2
     go_ret2
     exact ⟨_,.inl ⟨kb,gN,_,cu,HE,by rw [gu,HF.out.1];rfl,by rw [gu,HF.out.1];exact HX.1,iN,by rw [gu,HF.out.2];exact HX.2,rfl⟩,HT.p [0,1,2,5,3]⟩
   | false =>
     have HE:=Vh (KL (c:=⟨kd,id,dl,per⟩) ht hdd hbz ⟨h1,by show kd<=7;omega⟩);clear hdd hd hbz;clear hr hi hn ho;simp only [Q0.cells];rw [gu] at jg |-;have HT:=Vh (HT.out.a 38 #[U1 U2 kd,U1 U3 id,U1 U3 dl,U1 U3 per]);obtain ⟨W0,hW0⟩:∃ W0,W0=w.alloc (.cells #[U1 U2 kd,U1 U3 id,U1 U3 dl,U1 U3 per] 38):=⟨_,rfl⟩;go_enter func163,ntmps163
     go_wp2_with fail
     refine Qa.run HD HT [2] ?_
     rintro e w1 gs ⟨dP,rfl,hj',rfl⟩ HT;simp only [PU] at HT;have iN:=Vh hj';clear hj' sv0 fZ hcell;have sv0:=HT.c 0 0 0;simp only [Xg,az] at sv0;have eO:=HT.l 0 0;simp only [] at eO;obtain ⟨b0,b1,b2,b3⟩:=HT.c4 4 0 0 1 2 3;simp only [aN] at b0 b1 b2 b3;have mI:=HT.l 4 0;simp only [] at mI;go_wp2
     go_ret2
     exact ⟨_,.inr ⟨.nilIface,_,gZ,by rw [HE.out];decide,by rw [HE.out];rfl,iN,HZ,rfl⟩,HT.p [0,1,2,3]⟩
theorem qr1 (hn:dN N S) (hN:N<999998) (hr:Y6 L sb S vo va vc go ga gc) (hi:kI L S gJ gW gZ) {t:Nat} (ht:t<S.own.length) (kd id dl per:Int) (h1:kd<1\/7<kd)
 (hd:(t:Int)≠(S.own.length:Int) - 1):Qa prog 163 #[Qb sb,U1 U2 t,U1 U2 (S.all.length+1),.agg (Q0.cells ⟨kd,id,dl,per⟩)] [Xg sb L.fb vo va vc,go,gJ,gZ] (zH L sb S vo va vc go t ⟨kd,id,dl,per⟩):=by
 obtain ⟨iO,dG,rfl⟩:=Q3.val hr.o;have HJ:=Vh hi.j;have HZ:=Vh hi.z;have htr:S.z.x.tr.length<=1000000:=by have:=hn.eF.zn.core.tr;omega
 have hol:=hn.ol;obtain ⟨NO,gu⟩:∃ x,((S.all.length:Int)+1)=x:=⟨_,rfl⟩;have lS:=Vh hr.o;refine GO fun w HT=>?_
 obtain ⟨sv0,fZ⟩:=HT.c2 0 0 0 1;simp only [Xg,az] at sv0 fZ;have eO:=HT.l 0 0;simp only [] at eO;obtain ⟨o,ho⟩:∃ o,S.own[t]?=some o:=⟨_,UA ht⟩;obtain ⟨rb,cp,hv,hcell⟩:=z7 lS HT 1 rfl (by simp) (k:=t) (x:=kF (o.map fun a=>((S.af a).w,(S.af a).kb))) (by unfold SvS.os;rw [U7,U7,ho];rfl);obtain ⟨rfl,rfl⟩:iO=some ⟨rb,0,none⟩/\dG=cp:=by cases hv;exact ⟨rfl,rfl⟩
 have bM:rb<w.heap.size:=by
  obtain ⟨b',c',cur,hv',hg',_⟩:=lS.open (by omega);cases hv'
  have:=HT.lt 1 0 (p:=(rb,.cells cur 205)) (by show go[0]?=_;rw [hg'];rfl);exact this
 clear hv;have jg:=Vh (qzb HZ (t:Int) ((S.all.length:Int)+1) ⟨kd,id,dl,per⟩ (by show kd<1\/5<kd;omega));simp only [Q0.cells] at jg;have q1:((t:Int) == (S.own.length:Int) - 1)=false:=beq_eq_false_iff_ne.2 hd;have q2:(kd == 7)=false:=beq_eq_false_iff_ne.2 (by omega);have q3:(kd == 6)=false:=beq_eq_false_iff_ne.2 (by omega);have hdd:decide ((t:Int)=(S.own.length:Int) - 1)=decide (kd=7):=by rw [decide_eq_false hd,decide_eq_false (by omega)]
 have HE:=Vh (qvg (c:=⟨kd,id,dl,per⟩) ht hdd h1);cases o with
 | none =>
   have hb:S.bQ t=false:=by unfold SvS.bQ;rw [U4,ho];rfl
   have hnq:=Az;change _=some UQ at hcell
   have iN:=HJ;clear hdd hd h1;clear hr hi hn ho;simp only [Q0.cells];rw [gu] at jg |-;have HT:=Vh (HT.out.a 38 #[U1 U2 kd,U1 U3 id,U1 U3 dl,U1 U3 per]);obtain ⟨W0,hW0⟩:∃ W0,W0=w.alloc (.cells #[U1 U2 kd,U1 U3 id,U1 U3 dl,U1 U3 per] 38):=⟨_,rfl⟩;go_enter func163,ntmps163
   go_wp2_with fail
   refine Mx 7 ?_
   simp only [bY]
   repeat (go_big_quiet_step ((fail)))
   refine UL (QT HT fun nq HT=>?_)
   go_wp2_with fail
   refine Qa.run jg HT [3] ?_
   rintro e w1 gs ⟨rfl,rfl⟩ HT;simp only [PU] at HT;go_wp2_with fail
   refine ⟨rfl,?_⟩
   go_wp2
   go_ret2
   exact ⟨_,.inr ⟨.iface 33 (UH none),_,gZ,by rw [HE.out];decide,by rw [HE.out];rfl,iN,HZ,rfl⟩,HT.p [0,1,2,3]⟩
 | some a =>
   have hk:=Xd (hn.own a (U6 ho));have hbz:S.bQ t=!(S.af a).w.done:=by unfold SvS.bQ;rw [U4,ho];rfl
   have HD:=Vh (Dy hi.j hk);have hnq:=AU (S.af a).w (S.af a).kb;have hmt:=DC (S.af a).w;have hcl:=D9 (S.af a).w;change _=some (UR (S.af a).w.ty (Qb (S.af a).kb)) at hcell
   obtain ⟨d,hdn⟩:∃ d,(S.af a).w.done=d:=⟨_,rfl⟩;obtain ⟨zG,hty⟩:∃ y,(S.af a).w.ty=y:=⟨_,rfl⟩;obtain ⟨fV,fM⟩:∃ y,(S.af a).w.iD=y:=⟨_,rfl⟩;obtain ⟨bV,hbv⟩:∃ y,(S.af a).kb=y:=⟨_,rfl⟩;rw [hdn,fM,hbv] at HD;rw [hty,fM] at hmt;rw [hty,hbv] at hnq;rw [fM] at hcl;rw [hdn] at hbz;rw [hty,hbv] at hcell;clear hk hdn hty fM hbv;cases d with
   | true =>
     clear hdd hd h1 hbz;clear hr hi hn ho;simp only [Q0.cells];rw [gu] at jg |-;have HT:=Vh (HT.out.a 38 #[U1 U2 kd,U1 U3 id,U1 U3 dl,U1 U3 per]);obtain ⟨W0,hW0⟩:∃ W0,W0=w.alloc (.cells #[U1 U2 kd,U1 U3 id,U1 U3 dl,U1 U3 per] 38):=⟨_,rfl⟩;go_enter func163,ntmps163
     go_wp2_with fail
     refine Qa.run HD HT [2] ?_
     rintro e w1 gs ⟨dP,rfl,hj',rfl⟩ HT;simp only [PU] at HT;have iN:=Vh hj';clear hj' sv0 fZ hcell;have sv0:=HT.c 0 0 0;simp only [Xg,az] at sv0;have eO:=HT.l 0 0;simp only [] at eO;obtain ⟨b0,b1,b2,b3⟩:=HT.c4 4 0 0 1 2 3;simp only [aN] at b0 b1 b2 b3;have mI:=HT.l 4 0;simp only [] at mI;go_wp2_with fail
     refine Mx 7 ?_
     simp only [bY]
     repeat (go_big_quiet_step ((fail)))
     refine UL (QT HT fun nq HT=>?_)
     go_wp2_with fail
     refine Qa.run jg HT [3] ?_
     rintro e w1 gs ⟨rfl,rfl⟩ HT;simp only [PU] at HT;go_wp2_with fail
     refine ⟨rfl,?_⟩
     go_wp2
     go_ret2
     exact ⟨_,.inr ⟨.iface 33 (UH none),_,gZ,by rw [HE.out];decide,by rw [HE.out];rfl,iN,HZ,rfl⟩,HT.p [0,1,2,3]⟩
   | false =>
     rcases h1 with h1 | h1
     ·clear hdd hd hbz
      clear hr hi hn ho;simp only [Q0.cells];rw [gu] at jg |-;have HT:=Vh (HT.out.a 38 #[U1 U2 kd,U1 U3 id,U1 U3 dl,U1 U3 per]);obtain ⟨W0,hW0⟩:∃ W0,W0=w.alloc (.cells #[U1 U2 kd,U1 U3 id,U1 U3 dl,U1 U3 per] 38):=⟨_,rfl⟩;go_enter func163,ntmps163
      go_wp2_with fail
      refine Qa.run HD HT [2] ?_
      rintro e w1 gs ⟨dP,rfl,hj',rfl⟩ HT;simp only [PU] at HT;have iN:=Vh hj';clear hj' sv0 fZ hcell;have sv0:=HT.c 0 0 0;simp only [Xg,az] at sv0;have eO:=HT.l 0 0;simp only [] at eO;obtain ⟨b0,b1,b2,b3⟩:=HT.c4 4 0 0 1 2 3;simp only [aN] at b0 b1 b2 b3;have mI:=HT.l 4 0;simp only [] at mI;go_wp2_with fail
      refine Mx 7 ?_
      simp only [bY]
      repeat (go_big_quiet_step ((fail)))
      refine UL (QT HT fun nq HT=>?_)
      go_wp2_with fail
      refine Qa.run jg HT [3] ?_
      rintro e w1 gs ⟨rfl,rfl⟩ HT;simp only [PU] at HT;go_wp2_with fail
      refine ⟨rfl,?_⟩
      go_wp2
      go_ret2
      exact ⟨_,.inr ⟨.iface 33 (UH none),_,gZ,by rw [HE.out];decide,by rw [HE.out];rfl,iN,HZ,rfl⟩,HT.p [0,1,2,3]⟩
     ·have q4:kd ≥ 1:=by omega
      clear hdd hd hbz;clear hr hi hn ho;simp only [Q0.cells];rw [gu] at jg |-;have HT:=Vh (HT.out.a 38 #[U1 U2 kd,U1 U3 id,U1 U3 dl,U1 U3 per]);obtain ⟨W0,hW0⟩:∃ W0,W0=w.alloc (.cells #[U1 U2 kd,U1 U3 id,U1 U3 dl,U1 U3 per] 38):=⟨_,rfl⟩;go_enter func163,ntmps163
      go_wp2_with fail
      refine Qa.run HD HT [2] ?_
      rintro e w1 gs ⟨dP,rfl,hj',rfl⟩ HT;simp only [PU] at HT;have iN:=Vh hj';clear hj' sv0 fZ hcell;have sv0:=HT.c 0 0 0;simp only [Xg,az] at sv0;have eO:=HT.l 0 0;simp only [] at eO;obtain ⟨b0,b1,b2,b3⟩:=HT.c4 4 0 0 1 2 3;simp only [aN] at b0 b1 b2 b3;have mI:=HT.l 4 0;simp only [] at mI;go_wp2_with fail
      refine Mx 7 ?_
      simp only [bY]
      repeat (go_big_quiet_step ((fail)))
      refine UL (QT HT fun nq HT=>?_)
      go_wp2_with fail
      refine Qa.run jg HT [3] ?_
      rintro e w1 gs ⟨rfl,rfl⟩ HT;simp only [PU] at HT;go_wp2_with fail
      refine ⟨rfl,?_⟩
      go_wp2
      go_ret2
      exact ⟨_,.inr ⟨.iface 33 (UH none),_,gZ,by rw [HE.out];decide,by rw [HE.out];rfl,iN,HZ,rfl⟩,HT.p [0,1,2,3]⟩
theorem q3n (hn:dN N S) (hN:N<999998) (hr:Y6 L sb S vo va vc go ga gc) (hi:kI L S gJ gW gZ) {t:Nat} (ht:t<S.own.length) (c:Q0) :
 Qa prog 163 #[Qb sb,U1 U2 t,U1 U2 (S.all.length+1),.agg c.cells] [Xg sb L.fb vo va vc,go,gJ,gZ] (zH L sb S vo va vc go t c):=by
 by_cases hd:decide ((t:Int)=(S.own.length:Int) - 1)=decide (c.kind=7)
 ·have hdi:=decide_eq_decide.1 hd
  obtain ⟨kd,id,dl,per⟩:=c;by_cases h7:kd=7
  ·subst h7
   exact qr3 hn hN hr hi ht id dl per (hdi.2 rfl)
  ·have hne:(t:Int)≠(S.own.length:Int) - 1:=fun e=>h7 (hdi.1 e)
   by_cases h6:kd=6
   ·subst h6
    exact qr2 hn hN hr hi ht id dl per hne
   ·by_cases h1:kd<1\/7<kd
    ·exact qr1 hn hN hr hi ht kd id dl per h1 hne
    ·exact qr0 hn hN hr hi ht kd id dl per (by omega) (by omega) hne
 ·exact qve hn hN hr hi ht c hd
end
theorem NK:(prog.info? 205).map (fun i=>(i.zero,i.size,i.bytes))=some (some .nilIface,1,16):=by kernel_rfl
section
variable {L:Lay} {sb:Nat} {S:SvS} {N:Nat} {g:List ak}
theorem Rt {th:Int} {c:Q0} (h:S.cZ th c≠0) (kb:Nat):S.dV kb th c=S/\S.fJ th c=0:=⟨if_neg h,if_neg h⟩
theorem PS {th:Int} {c:Q0} (h:S.cZ th c=0) (kb:Nat):S.dV kb th c=S.eD kb th c/\S.fJ th c=S.all.length+1:=⟨if_pos h,if_pos h⟩
theorem q3p {th:Int} {c:Q0} (h:th<0\/(S.own.length:Int)<=th):S.cZ th c=4:=if_pos h
theorem qzi {gJ gW gZ gN:List ak} {th:Int} {c:Q0} {kb:Nat} (hj:Jb L S.all gJ) (hw:kU L S.aP gW) (hz:eZ L { S.z with x:=tQ (xn th (S.all.length+1) c) S.z.x } gZ) (hn:oI L kb 0 (Xw th (S.all.length+1) c) gN) :
 kI L (S.eD kb th c) (gJ++gN) gW gZ:=⟨Yy.snoc hj hn,hw,hz⟩
theorem qr5 {vo va vc:Value} {go ga gc:List ak} {uV x:Value} {l6:List ak} {b t:Nat} {cur:Array Value} {c:Q0} {kb:Nat} (hn:dN N S) (hr:Y6 L sb S vo va vc go ga gc) (hgo:go=[cl b 205 cur])
 (hx:oN ⟨kb,0,Xw t (S.all.length+1) c⟩=x) (ha:Q3 205 1 uV (S.all.length+1) (S.all.map oN++[x]) l6) :
 Y6 L sb (S.eD kb t c) vo uV vc [cl b 205 (cur.setIfInBounds t x)] l6 gc:=by
 subst hx;refine ⟨?_,?_,hr.c⟩
 ·have h1:=hr.o.set hgo t (oN ⟨kb,0,Xw t (S.all.length+1) c⟩)
  rw [qzj hn]
  show Q3 _ 1 vo (S.own.set _ _).length ((S.os.set _ _).map kF) _
  rw [Vf,Va,U8];exact h1
 ·show Q3 _ 1 uV (S.all++[_]).length (List.map oN (S.all++[_])) _
  rw [List.length_append,V6];exact ha
def Oa (L:Lay) (sb:Nat) (S:SvS) (th:Int) (c:Q0) (e:Ending) (gs:GH):Prop :=
 ∃ kb g',e=U5 (U9 #[U1 U2 (S.fJ th c),U1 U2 (S.cZ th c)])/\jL L sb (S.dV kb th c) g'/\gs=[g']
theorem Su {vo va vc:Value} {go ga gc gJ gW gZ:List ak} {th:Int} {c:Q0} (h:th<0\/(S.own.length:Int)<=th) (hr:Y6 L sb S vo va vc go ga gc) (hi:kI L S gJ gW gZ) :
 Oa L sb S th c (U5 (U9 #[U1 U2 0,U1 U2 4])) [Xg sb L.fb vo va vc++(go++(ga++(gc++(gJ++(gW++gZ)))))]:=by
 have HE:=q3p (c:=c) h;obtain ⟨h1,h2⟩:=Rt (S:=S) (th:=th) (c:=c) (by rw [HE];decide) 0;exact ⟨0,_,by rw [h2,HE],by rw [h1];exact ⟨vo,va,vc,go,ga,gc,gJ,gW,gZ,hr,hi,rfl⟩,rfl⟩
theorem q8d (h:jL L sb S g) (hn:dN N S) (hN:N<999998) (th:Int) (c:Q0):Qa prog 115 #[Qb sb,U1 U2 th,.agg c.cells] [g] (Oa L sb S th c):=by
 by_cases h0:th<0
 ·have h4:th<0\/(S.own.length:Int)<=th:=.inl h0
  obtain ⟨vo,va,vc,go,ga,gc,gJ,gW,gZ,hr,hi,rfl⟩:=h;obtain ⟨iO,dG,rfl⟩:=Q3.val hr.o;obtain ⟨oZ,jl,rfl⟩:=Q3.val hr.a;refine GO fun w HT=>?_
  have HT:=Vh (HT.out.m [Xg sb L.fb (.slice iO S.own.length dG) (.slice oZ S.all.length jl) vc,go,ga,gc,gJ,gW,gZ]);obtain ⟨sv0,fZ,lN,lQ⟩:=HT.c4 0 0 0 1 2 3;simp only [Xg,az] at sv0 fZ lN lQ;have eO:=HT.l 0 0;simp only [] at eO;have HR:=Vh hr;have ji:=Vh hi;have hol:=hn.ol;have hal:=hn.al;clear hr hi hn;have Gu:=Vh h4;clear h4;obtain ⟨kd,id,dl,per⟩:=c;simp only [Q0.cells];go_enter func115,ntmps115
  go_wp2
  go_ret2
  exact ⟨_,Su Gu HR ji,(HT.aT _).sum⟩
 ·by_cases h1:(S.own.length:Int)<=th
  ·have h4:th<0\/(S.own.length:Int)<=th:=.inr h1
   obtain ⟨vo,va,vc,go,ga,gc,gJ,gW,gZ,hr,hi,rfl⟩:=h;obtain ⟨iO,dG,rfl⟩:=Q3.val hr.o;obtain ⟨oZ,jl,rfl⟩:=Q3.val hr.a;refine GO fun w HT=>?_
   have HT:=Vh (HT.out.m [Xg sb L.fb (.slice iO S.own.length dG) (.slice oZ S.all.length jl) vc,go,ga,gc,gJ,gW,gZ]);obtain ⟨sv0,fZ,lN,lQ⟩:=HT.c4 0 0 0 1 2 3;simp only [Xg,az] at sv0 fZ lN lQ;have eO:=HT.l 0 0;simp only [] at eO;have HR:=Vh hr;have ji:=Vh hi;have hol:=hn.ol;have hal:=hn.al;clear hr hi hn;have Gu:=Vh h4;clear h4;obtain ⟨kd,id,dl,per⟩:=c;simp only [Q0.cells];go_enter func115,ntmps115
   go_wp2
   go_ret2
   exact ⟨_,Su Gu HR ji,(HT.aT _).sum⟩
  ·obtain ⟨t,rfl⟩:∃ t:Nat,th=(t:Int):=⟨th.toNat,by omega⟩
   have ht:t<S.own.length:=by omega
   obtain ⟨vo,va,vc,go,ga,gc,gJ,gW,gZ,hr,hi,rfl⟩:=h;obtain ⟨iO,dG,rfl⟩:=Q3.val hr.o;obtain ⟨oZ,jl,rfl⟩:=Q3.val hr.a;refine GO fun w HT=>?_
   have HT:=Vh (HT.out.m [Xg sb L.fb (.slice iO S.own.length dG) (.slice oZ S.all.length jl) vc,go,ga,gc,gJ,gW,gZ]);obtain ⟨sv0,fZ,lN,lQ⟩:=HT.c4 0 0 0 1 2 3;simp only [Xg,az] at sv0 fZ lN lQ;have eO:=HT.l 0 0;simp only [] at eO;have HR:=Vh hr;have ji:=Vh hi;have hol:=hn.ol;have hal:=hn.al;have HB:=Vh (q3n hn hN hr hi ht c);obtain ⟨b0,c0,cur,hv',hg',hle,_,hsz,_⟩:=hr.o.open (by omega);have HGO:=Vh hg';obtain ⟨rfl,rfl⟩:iO=some ⟨b0,0,none⟩/\dG=c0:=by cases hv';exact ⟨rfl,rfl⟩
   subst hg';have HN:=Vh hn;clear hr hi hn hv';simp only [Q0.cells] at HB |-;go_enter func115,ntmps115
   go_wp2_with fail
   have HT:=Vh (HT.out.a 38 #[U1 U2 c.kind,U1 U3 c.id,U1 U3 c.dl,U1 U3 c.per]);refine (Qa.use HB HT [0,1,4,6] rfl rfl).mono ?_
   rintro e w1 ⟨gs,hB,Ta⟩;rcases hB with ⟨kb,gN,dP,cu,hE,rfl,hjn,hj',hz',rfl⟩ | ⟨v,dP,cu,hE,rfl,hj',hz',rfl⟩
   ·simp only [PU] at Ta
    have HJN:=Vh (qzi (th:=(t:Int)) (c:=c) hj' ji.w hz' hjn);have HT:=Vh (Ta.bW (H':=[Xg sb L.fb (.slice (some ⟨b0,0,none⟩) S.own.length dG) (.slice oZ S.all.length jl) vc,[cl b0 205 cur],ga,gc,dP++gN,gW,cu,[cl w.heap.size 38 #[U1 U2 c.kind,U1 U3 c.id,U1 U3 c.dl,U1 U3 c.per]]]));have HE:=Vh hE;obtain ⟨ty,hty⟩:∃ ty,(Xw (t:Int) (S.all.length+1) c).ty=ty:=⟨_,rfl⟩;have EE:=Vh (show oN ⟨kb,0,Xw (t:Int) (S.all.length+1) c⟩=.iface ty (Qb kb) by unfold oN;rw [hty]);rw [hty];have dQ:(cur[t]?).isSome=true:=by rw [Array.getElem?_eq_getElem (by omega)];rfl
    obtain ⟨ocv,hoc⟩:=UI.1 dQ;have kc:=HT.cell 1 0 rfl t;rw [hoc] at kc;have fkc:=HT.free 1 0 rfl t;have jw:=HT.l 1 0;have N7:=HT.ne 0 0 1 0 (by decide) rfl rfl;simp only [] at jw N7;have nek2:=Ne.symm N7;clear Ta hjn hj' hz' hty dQ hoc hE sv0 fZ lN lQ;obtain ⟨sv0,fZ,lN,lQ⟩:=HT.c4 0 0 0 1 2 3;have fsv2:=HT.f 0 0 2;simp only [Xg,az] at sv0 fZ lN lQ;have eO:=HT.l 0 0;simp only [] at eO;have HC:=Vh (show (S.all.length:Nat)<=N from hal);have hone:∀ u∈[UR ty (Qb kb)],u.oneCell'=true:=fun u hu=>by rw [List.mem_singleton.1 hu];rfl
    have hnews:=Zy (w1.setCell ⟨b0,t,none⟩ (.iface ty (Qb kb))) 205 [.iface ty (Qb kb)];rw [Zv] at hnews;have hnews:=Vh hnews
    go_wp2_with (
     at_builtin
     (with_reducible refine Z0 rfl (.tmp 54) (.tmp 56) 203 rfl 205 1 16 _ underlying203 NK rfl (by decide) ((HT.out.set 1 0 rfl t (.iface ty (Qb kb))).aT _) 2 rfl rfl HR.out.a rfl ⟨w1.heap.size,0,none⟩ 1 1 [.iface ty (Qb kb)] rfl rfl hnews.out hone (by unfold maxLen;omega) (by omega) ?_)
     intro v1 w2 g1 r1 T1;obtain ⟨a1,di,hv1⟩:=Q3.val r1;subst hv1;simp only [List.set_cons_zero,List.set_cons_succ] at T1;have T1:=Vh T1;have d2:=T1.c 0 0 2;have uB:=T1.f 0 0 2;have ltd:=T1.l 0 0;simp only [Xg,az] at d2 ltd
     have r1:=Vh r1)
    go_ret2
    exact ⟨_,⟨kb,_,by rw [(PS HE.out kb).2,HE.out];rfl,by rw [(PS HE.out kb).1];exact ⟨_,_,vc,_,g1,gc,_,gW,cu,qr5 HN HR rfl EE r1.out,HJN,rfl⟩,rfl⟩,((((T1.set 0 0 rfl 2 (.slice a1 (S.all.length+1) di)).p [0,1,2,3,4,5,6]).eq (H':=[Xg sb L.fb (.slice (some ⟨b0,0,none⟩) S.own.length dG) (.slice a1 (S.all.length+1) di) vc,[cl b0 205 (cur.setIfInBounds t (.iface ty (Qb kb)))],g1,gc,dP++gN,gW,cu]) rfl).bW)⟩
   ·simp only [PU] at Ta
    have hE2:(S.cZ (t:Int) c != 0)=true:=bne_iff_ne.2 hE;have M0:=Vh (Rt (S:=S) hE 0);have HI2:=Vh (show kI L S dP gW cu from ⟨hj',ji.w,hz'⟩);have HT:=Vh Ta;clear Ta hj' hz' hE;obtain ⟨E,Ig⟩:∃ E,S.cZ (t:Int) c=E:=⟨_,rfl⟩;rw [Ig] at hE2 |-;have rC:=Vh Ig;clear Ig;go_wp2
    go_ret2
    exact ⟨_,⟨0,_,by rw [M0.out.2,rC.out];rfl,by rw [M0.out.1];exact ⟨_,_,vc,_,ga,gc,dP,gW,cu,HR,HI2,rfl⟩,rfl⟩,((HT.p [0,1,2,3,4,5,6]).sum)⟩
end
def sI (n:Nat):Array Value:=madeCells #[.nilIface] (n*1)
theorem qtv (b n:Nat) (hn:n<=1000):Q3 205 1 (.slice (some ⟨b,0,none⟩) n n) n ((UB n (none:Option (Wk × Nat))).map kF) [cl b 205 (sI n)]:=by
 have hs:(sI n).size=n*1:=by unfold sI;simp [madeCells]
 have h:=Lg 205 1 b n n (sI n) (Nat.le_refl _) (by unfold maxLen;omega) hs
 have e:(sI n).toList.take (n*1)=(UB n (none:Option (Wk × Nat))).map kF:=by
  rw [List.map_replicate];apply List.ext_getElem?
  intro i;rw [List.getElem?_take,Array.getElem?_toList];split
  ·next hi =>
   have:=zo #[.nilIface] n 1 i 0 rfl (by omega) (by omega);rw [show i*1+0=i by omega] at this;unfold sI;rw [this,List.getElem?_replicate,if_pos (by omega)];rfl
  ·next hi=>rw [List.getElem?_replicate,if_neg (by omega)]
 rw [e] at h;exact h
theorem NW {L:Lay} {sb b m q:Nat} {c:Cfg} {ws:List dz} {vc:Value} {go gr ym gZ:List ak} (hc:c.jA=(m:Int)) (hl:ws.length=q) (ho:Q3 205 1 (.slice (some ⟨b,0,none⟩) (m+1) (m+1)) (m+1) ((UB (m+1) (none:Option (Wk × Nat))).map kF) go)
 (hr:Q3 269 1 vc q (tL ws) gr) (hw:kU L ws ym) (hz:eZ L (wM c) gZ):jL L sb (sv0 c ws) (Xg sb L.fb (.slice (some ⟨b,0,none⟩) (m+1) (m+1)) (.slice none 0 0) vc++(go++([]++(gr++([]++(ym++gZ)))))):=by
 refine ⟨_,_,vc,go,[],gr,[],ym,gZ,⟨?_,X7 _ _,?_⟩,⟨rfl,hw,hz⟩,rfl⟩
 ·show Q3 _ 1 _ (UB (c.jA.toNat+1) none).length (((UB (c.jA.toNat+1) (none:Option Nat)).map _).map kF) go
  rw [V7,List.map_replicate,hc,U8];exact ho
 ·show Q3 _ 1 vc ws.length _ gr
  rw [hl];have:(tL ws)=(sv0 c ws).ps.map Qb:=by show ws.map _=(ws.map _).map _;rw [List.map_map];rfl
  rw [<- this];exact hr
theorem q9t (c:Cfg) (hk:c.ok=true):Qa prog 114 #[.agg c.cells] [] fun e gs =>
 ∃ L sb ws g,e=U5 (U9 #[Qb sb,U1 U2 0])/\ws.length=c.wk.toNat/\(∀ z∈ws,Ba z)/\jL L sb (sv0 c ws) g/\gs=[g]:=by
 have hnf:=q4p c hk;have hbd:=Cfg.bd hk;obtain ⟨sh,cap,ring,room,wk,jA⟩:=c;simp only [Cfg.cells] at hnf |-;have HN:=Vh hnf;simp only at hbd;obtain ⟨m,hm⟩:∃ m:Nat,jA=(m:Int):=⟨jA.toNat,by omega⟩;obtain ⟨q,hq⟩:∃ q:Nat,wk=(q:Int):=⟨wk.toNat,by omega⟩;subst hm hq;have hmk:∀ w,(Instr.makeSlice 203 (U1 U2 ((m:Int)+1)) (U1 U2 ((m:Int)+1))).run prog w=.ok (.slice (some ⟨w.heap.size,0,none⟩) (m+1) (m+1)) (w.alloc (.cells (sI (m+1)) 205)):=Kl _ _ .nilIface 1 16 underlying203 NK (m+1) (by omega) (by omega);have hrw:=Vh (show ∀ b,_ from fun b=>qtv b (m+1) (by omega));have hwr:IntKind.i64.wrap ((m:Int)+1)=(m:Int)+1:=q5z _ (by omega) (by omega);refine GO fun w HT=>?_
 go_enter func114,ntmps114
 go_wp2_with fail
 have HT:=Vh (HT.out.a 30 #[U1 U2 sh,U1 U2 cap,U1 U2 ring,U1 U2 room,U1 U2 q,U1 U2 m]);go_wp2_with fail
 refine Qa.run HN HT [] ?_
 rintro e w1 gs ⟨L,g,rfl,hz,rfl⟩ HT;simp only [PU] at HT;obtain ⟨gC,gW,gP,gL,h1,h2,h3,h4,rfl⟩:=Zs hz;have HZ:=Vh (UD h1 (UD h2 (UD h3 h4)));have E5:=Vh (qz2 (n:=q) h1 rfl (by omega));clear hz hnf h1 h2 h3 h4;have HT:=Vh (HT.out.sum (H':=[[cl w.heap.size 30 #[U1 U2 sh,U1 U2 cap,U1 U2 ring,U1 U2 room,U1 U2 q,U1 U2 m]],gC,gW++(gP++gL)]));have a5:=HT.c 0 0 5;simp only [aN] at a5;have Iv:=HT.l 0 0;simp only [] at Iv;go_wp2_with fail
 go_region_with (
  go_at_call 162
  first
  | (refine (Qa.use E5 (HT.drew.put rfl (.cells (sI (m+1)) 205)) [1] rfl rfl).mono ?_
     rintro e w2 ⟨gs,⟨v,gr,ym,l,rfl,hl,hnw,hrr,hws,rfl⟩,Ta⟩;obtain ⟨av,rF,rfl⟩:=Q3.val hrr;have He:=Ta.c 0 0 5;simp only [az] at He;have bM:=Ta.l 0 0;simp only [] at bM;simp only [PU] at Ta;have HT1:=Vh Ta;have HX:=Vh (UD hl (UD hnw (UD hrr hws)))
     clear Ta hl hnw hrr hws)
  | (refine (Qa.use E5 HT.drew [1] rfl rfl).mono ?_
     rintro e w2 ⟨gs,⟨v,gr,ym,l,rfl,hl,hnw,hrr,hws,rfl⟩,Ta⟩;obtain ⟨av,rF,rfl⟩:=Q3.val hrr;have He:=Ta.c 0 0 5;simp only [az] at He;have bM:=Ta.l 0 0;simp only [] at bM;simp only [PU] at Ta;have HT1:=Vh Ta;have HX:=Vh (UD hl (UD hnw (UD hrr hws)))
     clear Ta hl hnw hrr hws))
 all_goals
  go_wp2
  go_ret2
  obtain ⟨hl,hnw,hrr,hws⟩:=HX.out;obtain ⟨h1,h2,h3,h4⟩:=HZ.out
  first
  | exact ⟨_,⟨L,w2.heap.size,l,_,rfl,by rw [hl];rfl,hnw,NW rfl hl (hrw.out w1.heap.size) hrr hws (zm h1 h2 h3 h4),rfl⟩,(((HT1.a 208 #[Qb L.fb,.slice (some ⟨w1.heap.size,0,none⟩) (m+1) (m+1),.slice none 0 0,.slice av q rF]).p [6,3,4,5,1,2]).eq (H':=[Xg w2.heap.size L.fb (.slice (some ⟨w1.heap.size,0,none⟩) (m+1) (m+1)) (.slice none 0 0) (.slice av q rF),[cl w1.heap.size 205 (sI (m+1))],gr,ym,gC,gW++(gP++gL)]) rfl).bW⟩
  | exact ⟨_,⟨L,w2.heap.size+1,l,_,rfl,by rw [hl];rfl,hnw,NW rfl hl (hrw.out w2.heap.size) hrr hws (zm h1 h2 h3 h4),rfl⟩,((((HT1.a 205 (sI (m+1))).alloc (k:=w2.heap.size+1) (by simp) 208 #[Qb L.fb,.slice (some ⟨w2.heap.size,0,none⟩) (m+1) (m+1),.slice none 0 0,.slice av q rF]).p [6,5,3,4,1,2]).eq (H':=[Xg (w2.heap.size+1) L.fb (.slice (some ⟨w2.heap.size,0,none⟩) (m+1) (m+1)) (.slice none 0 0) (.slice av q rF),[cl w2.heap.size 205 (sI (m+1))],gr,ym,gC,gW++(gP++gL)]) rfl).bW⟩
def Jw.bare (j:Jw):Jw:={ j with kb:=0 }
def dz.bare (c:dz):dz:={ c with wb:=0 }
def SvS.bare (S:SvS):SvS:={ S with all:=S.all.map Jw.bare,aP:=S.aP.map dz.bare }
section
variable (S:SvS)
theorem Di (a:Nat):S.bare.af a=(S.af a).bare:=by
 unfold SvS.af SvS.bare;simp only [U4,U7];cases S.all[a]? <;> rfl
theorem Pk (a:Nat):S.bare.aM a=(S.aM a).bare:=by
 unfold SvS.aM SvS.bare;simp only [U4,U7];cases S.aP[a]? <;> rfl
theorem Sd (f:dz->dz):∀ (l:List dz) (a i:Nat),ry a i (l.map f)=ry a i l
 | [],_,_=>rfl
 | c::l,a,i=>by
   show (a,Th.gY i)::ry (a+1) (i+1) (l.map f)=(a,Th.gY i)::ry (a+1) (i+1) l
   rw [Sd f l]
theorem Rj:S.bare.iH=S.iH:=by
 show vT 0 S.own++ry S.own.length 0 (S.aP.map _)=_
 rw [Sd];rfl
theorem Ri (t:Th):t.may S.bare=t.may S:=by
 cases t with
 | eY a=>show (S.bare.af a).w.may S.z=_;rw [Di];rfl
 | gY i=>show (S.bare.aM i).may S.z=_;rw [Pk];rfl
theorem qvc (t:Th):(t.step S).bare=t.step S.bare:=by
 cases t with
 | eY a =>
   show SvS.mk ((S.af a).w.step S.z).2 S.own ((S.all.set a _).map Jw.bare) (S.aP.map dz.bare)=SvS.mk ((S.bare.af a).w.step S.z).2 S.own ((S.all.map Jw.bare).set a ⟨(S.bare.af a).kb,(S.bare.af a).n+1,((S.bare.af a).w.step S.z).1⟩) (S.aP.map dz.bare)
   rw [Va,Di];rfl
 | gY i =>
   show SvS.mk ((S.aM i).step S.z).2 S.own (S.all.map Jw.bare) ((S.aP.set i _).map dz.bare)=SvS.mk ((S.bare.aM i).step S.z).2 S.own (S.all.map Jw.bare) ((S.aP.map dz.bare).set i ((S.bare.aM i).step S.z).1)
   rw [Va,Pk];rfl
theorem Kv:S.bare.bZ=S.bZ:=by
 unfold SvS.bZ;rw [Rj];simp only [Ri]
theorem qn7 (i:Int):S.bare.fA i=S.fA i:=by
 unfold SvS.fA;rw [Rj];simp only [Ri]
theorem Pj (i:Int):(S.stepS i).1.bare=(S.bare.stepS i).1/\(S.stepS i).2=(S.bare.stepS i).2:=by
 unfold SvS.stepS;rw [qn7]
 have e:(S.bare.own.length:Int)+S.bare.aP.length=(S.own.length:Int)+S.aP.length:=by
  show (S.own.length:Int)+(S.aP.map _).length=_
  rw [UC]
 rw [e];split
 ·exact ⟨rfl,rfl⟩
 ·split
  ·exact ⟨qvc S _,rfl⟩
  ·exact ⟨rfl,rfl⟩
theorem qn6 (k:Int):S.bare.cK k=S.cK k:=by unfold SvS.cK;rw [Kv]
theorem qrz (k:Int):(S.dm k).1.bare=(S.bare.dm k).1/\(S.dm k).2=(S.bare.dm k).2:=by
 unfold SvS.dm;rw [Kv,qn6];split
 ·exact ⟨rfl,rfl⟩
 ·obtain ⟨h1,h2⟩:=Pj S (S.cK k)
  exact ⟨h1,by rw [h2]⟩
theorem qn4 (i:Nat):S.bare.bQ i=S.bQ i:=by
 unfold SvS.bQ
 show (match S.own.getD i none with | some a=>!(S.bare.af a).w.done | none=>false)=_
 cases S.own.getD i none with
 | some a=>show (!(S.bare.af a).w.done)=_;rw [Di];rfl
 | none=>rfl
theorem JZ (th:Int) (c:Q0):S.bare.cZ th c=S.cZ th c:=by
 unfold SvS.cZ;rw [qn4];rfl
theorem qn5 (th:Int) (c:Q0):S.bare.fJ th c=S.fJ th c:=by
 unfold SvS.fJ;rw [JZ]
 show (if _ then ((S.all.map _).length:Int)+1 else 0)=_
 rw [UC]
theorem qry (kb:Nat) (th:Int) (c:Q0):(S.dV kb th c).bare=S.bare.dV 0 th c:=by
 unfold SvS.dV;rw [JZ];split
 ·have e:S.bare.all.length=S.all.length:=UC _
  unfold SvS.eD;rw [e]
  show SvS.mk _ _ ((S.all++[_]).map Jw.bare) _=SvS.mk _ _ ((S.all.map Jw.bare)++[_]) _
  rw [V6];rfl
 ·rfl
theorem qrx:S.bare.aZ=S.aZ:=by
 unfold SvS.aZ
 show S.own.any _=S.own.any _
 congr 1
 funext o
 cases o with
 | none=>rfl
 | some a=>show (!(S.bare.af a).w.done)=_;rw [Di];rfl
theorem qva (no:Int):S.bare.dw no=S.dw no:=by
 unfold SvS.dw;have e:S.bare.all.length=S.all.length:=UC _;rw [e,Di];rfl
theorem qvb:S.bare.idle=S.idle:=by
 unfold SvS.idle;rw [qrx]
 show (_ && Y8 (S.aP.map dz.bare) S.z.p)=_
 have:Zk (S.aP.map dz.bare)=Zk S.aP:=by
  unfold Zk;rw [List.all_map];rfl
 unfold Y8;rw [this]
end
def iF (N:Nat) (L:Lay) (sb:Nat) (B:SvS) (g:List ak):Prop:=∃ S,S.bare=B/\dN N S/\jL L sb S g
section
variable {N:Nat} {L:Lay} {sb:Nat} {B:SvS} {g:List ak}
theorem iF.mono {M:Nat} (h:iF N L sb B g) (hm:N<=M):iF M L sb B g:=by
 obtain ⟨S,h1,h2,h3⟩:=h;exact ⟨S,h1,h2.mono hm,h3⟩
theorem Hm (h:iF N L sb B g) (hN:N<999998):Qa prog 59 #[Qb sb] [g] fun e gs =>
 ∃ v gl g',e=U5 v/\Q3 3 1 v B.bZ.length (zC B.bZ) gl/\iF N L sb B g'/\gs=[g',gl]:=by
 obtain ⟨S,rfl,hn,hs⟩:=h;refine (Oz hs hn hN).mono ?_
 rintro e gs ⟨v,gl,g',rfl,h1,h2,rfl⟩;exact ⟨v,gl,g',rfl,by rw [Kv];exact h1,⟨S,rfl,hn,h2⟩,rfl⟩
theorem q86 (h:iF N L sb B g) (hN:N<999998) (i:Int):Qa prog 117 #[Qb sb,U1 U2 i] [g] fun e gs =>
 ∃ g',e=U5 (U1 U2 (B.stepS i).2)/\iF (N+1) L sb (B.stepS i).1 g'/\gs=[g']:=by
 obtain ⟨S,rfl,hn,hs⟩:=h;refine (q2z hs hn hN i).mono ?_
 rintro e gs ⟨g',rfl,h2,rfl⟩;obtain ⟨e1,e2⟩:=Pj S i;exact ⟨g',by rw [e2],⟨_,e1,Tg hn hN i,h2⟩,rfl⟩
theorem Gl (h:iF N L sb B g) (hN:N<999998) (k:Int):Qa prog 56 #[Qb sb,U1 U2 k] [g] fun e gs =>
 ∃ g',e=U5 (U9 #[U1 U2 (B.dm k).2.1,U1 U2 (B.dm k).2.2])/\iF (N+1) L sb (B.dm k).1 g'/\gs=[g']:=by
 obtain ⟨S,rfl,hn,hs⟩:=h;refine (q8h hs hn hN k).mono ?_
 rintro e gs ⟨g',rfl,h2,rfl⟩;obtain ⟨e1,e2⟩:=qrz S k;exact ⟨g',by rw [e2],⟨_,e1,q4w hn hN k,h2⟩,rfl⟩
theorem IE (h:iF N L sb B g) (hN:N<999998) (th:Int) (c:Q0) (hc:c.wf):Qa prog 115 #[Qb sb,U1 U2 th,.agg c.cells] [g] fun e gs =>
 ∃ g',e=U5 (U9 #[U1 U2 (B.fJ th c),U1 U2 (B.cZ th c)])/\iF (N+1) L sb (B.dV 0 th c) g'/\gs=[g']:=by
 obtain ⟨S,rfl,hn,hs⟩:=h;refine (q8d hs hn hN th c).mono ?_
 rintro e gs ⟨kb,g',rfl,h2,rfl⟩;exact ⟨g',by rw [qn5,JZ],⟨_,qry S kb th c,Sv hn hc kb th,h2⟩,rfl⟩
theorem q3l (h:iF N L sb B g) (hN:N<999998) (no:Int):Qa prog 58 #[Qb sb,U1 U2 no] [g] fun e gs =>
 ∃ v gv g',e=U5 (U9 #[.agg ((B.dw no).cells v),U1 U2 (B.dw no).code])/\Q3 36 1 v (B.dw no).left.length (kX (B.dw no).left) gv/\iF N L sb B g'/\gs=[g',gv]:=by
 obtain ⟨S,rfl,hn,hs⟩:=h;refine (q1m hs hn hN no).mono ?_
 rintro e gs ⟨v,gv,g',rfl,h1,h2,rfl⟩;rw [qva];exact ⟨v,gv,g',rfl,h1,⟨S,rfl,hn,h2⟩,rfl⟩
theorem Gj (h:iF N L sb B g) (hN:N<999998):Qa prog 55 #[Qb sb] [g] fun e gs=>∃ g',e=U5 (.bool B.idle)/\iF N L sb B g'/\gs=[g']:=by
 obtain ⟨S,rfl,hn,hs⟩:=h;refine (q8e hs hn hN).mono ?_
 rintro e gs ⟨g',rfl,h2,rfl⟩;exact ⟨g',by rw [qvb],⟨S,rfl,hn,h2⟩,rfl⟩
theorem q6s (h:iF N L sb B g):Qa prog 57 #[Qb sb] [g] fun e gs=>e=U5 (U1 U2 B.all.length)/\gs=[g]:=by
 obtain ⟨S,rfl,hn,hs⟩:=h;have e:S.bare.all.length=S.all.length:=UC _;rw [e];exact q5b hs
theorem NG (h:iF N L sb B g):Qa prog 60 #[Qb sb] [g] fun e gs=>e=U5 (Qb L.fb)/\gs=[g]:=by
 obtain ⟨S,rfl,hn,hs⟩:=h;exact SF hs
theorem Hl (h:iF N L sb B g) (hN:N<999998):Qa prog 116 #[Qb sb] [g] fun e gs=>∃ v gv g',e=U5 v/\Q3 63 4 v B.z.lg.length (fires B.z.lg) gv/\iF N L sb B g'/\gs=[g',gv]:=by
 obtain ⟨S,rfl,hn,hs⟩:=h;refine (q9s hs hn hN).mono ?_
 rintro e gs ⟨v,gv,g',rfl,h1,h2,rfl⟩;exact ⟨v,gv,g',rfl,h1,⟨S,rfl,hn,h2⟩,rfl⟩
def nk (c:Cfg):SvS:=⟨wM c,UB (c.jA.toNat+1) none,[],UB c.wk.toNat ⟨0,J2,0,tX⟩⟩
theorem BU (c:Cfg) (hk:c.ok=true):Qa prog 114 #[.agg c.cells] [] fun e gs =>
 ∃ L sb g,e=U5 (U9 #[Qb sb,U1 U2 0])/\iF 0 L sb (nk c) g/\gs=[g]:=by
 refine (q9t c hk).mono ?_
 rintro e gs ⟨L,sb,ws,g,rfl,hl,hw,hs,rfl⟩;refine ⟨L,sb,g,rfl,⟨_,?_,q9r c hk hl hw,hs⟩,rfl⟩
 show SvS.mk _ _ [] (ws.map dz.bare)=_
 have:ws.map dz.bare=UB c.wk.toNat ⟨0,J2,0,tX⟩:=by
  rw [List.eq_replicate_iff,UC];refine ⟨hl,fun b hb=>?_⟩
  obtain ⟨z,hz,rfl⟩:=Vb.1 hb;obtain ⟨a,b,d⟩:=hw z hz;obtain ⟨wb,s,n,k⟩:=z;simp only at a b d;subst a b d;rfl
 rw [this];rfl
end
section
variable {N:Nat} {S:SvS}
theorem DY {α:Type} {l:List α} {b:Nat} {x y:α} (h:(l++[x])[b]?=some y):(b<l.length/\l[b]?=some y)\/(b=l.length/\y=x):=by
 rcases Nat.lt_or_ge b l.length with hl | hl
 ·rw [UX hl] at h;exact .inl ⟨hl,h⟩
 ·rw [List.getElem?_append_right hl] at h
  have hb:b - l.length<1:=by have:=(UF.1 h).1;simpa using this
  have e:b - l.length=0:=by omega
  rw [e] at h;cases h
  exact .inr ⟨by omega,rfl⟩
theorem q0d (z:ZF) (th no:Int) (c:Q0) (h1:1<=c.kind) (h7:c.kind<=7):EO z (Xw th no c)/\kJ (Xw th no c)=0/\(Xw th no c).tk=none:=by
 have hfree:lX (fP th no c):=fun i t h=>by cases h
 unfold Xw;split
 ·exact ⟨trivial,rfl,rfl⟩
 ·split
  ·exact ⟨trivial,rfl,rfl⟩
  ·unfold Yp
   split
   ·exact ⟨⟨by show c.kind=1\/c.kind=2;assumption,hfree⟩,rfl,rfl⟩
   ·split
    ·exact ⟨⟨by show 1<=c.kind/\c.kind<=3;omega,hfree⟩,rfl,rfl⟩
    ·exact ⟨⟨by show 1<=c.kind/\c.kind<=5;omega,hfree⟩,by show (if c.kind<=3 then (1:Int) else 0)=0;rw [if_neg (by omega)],rfl⟩
theorem qzg (hn:dN N S) (h:qz S) {th:Int} {c:Q0} (ho:LK S th c) (kb:Nat):qz (S.eD kb th c):=by
 obtain ⟨g1,g2,g3⟩:=q0d (S.eD kb th c).z th (S.all.length+1) c ho.k1 ho.k7;have h0:=ho.Tq;have h1:=ho.Tt;refine ⟨fun a j ha=>?_,?_,?_,fun i hi=>?_,h.busy,fun a j ha hd=>?_,h.aP⟩
 ·rcases DY ha with ⟨_,ha⟩ | ⟨_,rfl⟩
  ·have:=h.go a j ha
   revert this
   cases j.w with
   | call s k=>exact id
   | turn s k=>exact fun e=>D7 (x:=S.z.x) (x':=tQ (xn th (S.all.length+1) c) S.z.x) (tq.same rfl) e
   | dM s k=>exact id
  ·exact g1
 ·show S.z.x.f.inside=Jq ((S.all++[_]).map fun j:Jw=>kJ j.w)
  rw [KY,<- h.ins]
  show _=_+kJ (Xw th (S.all.length+1) c)
  rw [g2];omega
 ·show jk ((S.all++[_]).map fun j:Jw=>j.w.tk) S.z.x.rg
  rw [V6]
  exact h.rg.snoc (fun i t e=>by
   have e:(Xw th (S.all.length+1) c).tk=some (i,t):=e
   rw [g3] at e;cases e)
 ·obtain ⟨a,j,s,k,a1,a2,a3,a4⟩:=h.who i hi
  exact ⟨a,j,s,k,by show (S.all++[_])[a]?=_;rw [UX (UF.1 a1).1];exact a1,a2,a3,a4⟩
 ·rcases DY ha with ⟨hl,ha⟩ | ⟨rfl,_⟩
  ·obtain ⟨i,hi⟩:=h.own a j ha hd
   refine ⟨i,vX hi (fun e=>?_)⟩
   subst e;have hb:=ho.busy;unfold SvS.bQ at hb;rw [U4,hi] at hb;simp only [Vd] at hb;have:S.af a=j:=by unfold SvS.af;rw [U4,ha];rfl
   rw [this,hd] at hb;cases hb
  ·exact ⟨th.toNat,by show (S.own.set th.toNat _)[th.toNat]?=_;rw [List.getElem?_set,if_pos rfl,if_pos (by omega)]⟩
theorem qwp {n:Nat} (h:1<=n):mY (Jj n):=by
 have hl:(Jj n).slots.length=n:=by simp [Jj]
 refine ⟨by rw [hl];exact h,US _,US _,by rw [hl];show (0:Int)<=0+n;omega,fun p a b=>?_⟩
 have a:0<=p:=a;have b:p<0+((Jj n).slots.length:Int):=b;rw [hl] at b;refine .inl ?_
 obtain ⟨k,rfl⟩:=UK a;have hk:k<n:=by omega
 have e:(Jj n).at k=k:=by
  unfold Qz.at;rw [hl,Int.emod_eq_of_lt (by omega) (by omega)];exact U8 k
 unfold Qz.slot;rw [e];unfold Jj;rw [U4,U7,List.getElem?_range hk];rfl
theorem q9g (c:Cfg) (hk:c.ok=true):qz (nk c):=by
 obtain ⟨b1,b2,b3,b4,b5,b6⟩:=Cfg.bd hk;have hsh:∀ i s,(nk c).z.x.au[i]?=some s->s=Qr c.ring.toNat:=fun i s h=>UJ (U6 h)
 refine ⟨fun a j ha=>(by cases ha),rfl,⟨fun i r hr=>?_,fun a i t r ha=>(by cases ha),fun a b i t u ha=>(by cases ha),fun i r p hr a1 a2=>?_⟩,fun i hi=>absurd ?_ hi,?_,fun a j ha=>(by cases ha),?_⟩
 ·obtain ⟨s,hs,rfl⟩:=UG.1 hr
  rw [hsh i s hs];exact qwp (by omega)
 ·obtain ⟨s,hs,rfl⟩:=UG.1 hr
  rw [hsh i s hs] at a1 a2;have a1:0<=p:=a1;have a2:p<0:=a2;omega
 ·show ((UB c.sh.toNat (Qr c.ring.toNat)).getD i (Qr 1)).who=0
  rw [U4];cases hh:(UB c.sh.toNat (Qr c.ring.toNat))[i]? with
  | none=>rfl
  | some s =>
    have:=UJ (U6 hh);subst this;rfl
 ·show (0:Int)=Jq ((UB c.wk.toNat (⟨0,J2,0,tX⟩:dz)).map fun c=>(c.k.holds.length:Int))
  rw [qa];intro x hx;rw [UJ hx];rfl
 ·show 1<=(UB _ _).length
  rw [V7];omega
theorem LF:∀ {l:List (Option Nat)} {a i k:Nat},l[i]?=some (some k)->(a+i,Th.eY k)∈vT a l
 | none::l,a,0,k,h=>by cases h
 | some b::l,a,0,k,h=>by cases h;exact UT
 | none::l,a,i+1,k,h=>by
   have:=LF (l:=l) (a:=a+1) (i:=i) (k:=k) h;rw [show a+1+i=a+(i+1) by omega] at this;exact this
 | some b::l,a,i+1,k,h=>by
   have:=LF (l:=l) (a:=a+1) (i:=i) (k:=k) h;rw [show a+1+i=a+(i+1) by omega] at this;exact V9 _ this
theorem Tj:∀ {l:List dz} {a i j:Nat},j<l.length->(a+j,Th.gY (i+j))∈ry a i l
 | c::l,a,i,0,h=>UT
 | c::l,a,i,j+1,h=>by
   have:=Tj (l:=l) (a:=a+1) (i:=i+1) (j:=j) (by simpa using h);rw [show a+1+j=a+(j+1) by omega,show i+1+j=i+(j+1) by omega] at this;exact V9 _ this
theorem qui {z:ZT} {X:ST} {i:Nat} (hX:kG X z.k z.x i):mM (.thn X (.ae i)) z=false->(∃ d,X=.at (some .lock) (.dH d))\/(∃ n d,X=.thn (.at (some (.ready i)) (.bI n)) (.ai d)):=by
 match X,hX with
 | .at (some .lock) (.dH d),_=>exact fun _=>.inl ⟨d,rfl⟩
 | .at none (.bX d),_=>intro hm;cases hm
 | .thn (.aj (.bG d)) (.aL e),_=>intro hm;cases hm
 | .thn (.at (some (.ready j)) (.bI n)) (.ai d),hX =>
   obtain ⟨_,_,rfl,_,_⟩:=hX;exact fun _=>.inr ⟨n,d,rfl⟩
 | .thn (.thn (.at none .bA) (.ax n)) (.ai d),_=>intro hm;cases hm
 | .thn (.thn (.at none .aI) (.ax n)) (.ai d),_=>intro hm;cases hm
 | .thn (.thn G (.aF d n)) .ay,hX =>
   obtain ⟨_,_,_,_,hG⟩:=hX;intro hm
   match G,hG,hm with
   | .at none .looks,_,hm=>cases hm
   | .at none .bE,_,hm=>cases hm
   | .thn (.aj (.put _)) .bD,_,hm=>cases hm
   | .at none .behind,_,hm=>cases hm
   | .at none (.aY next),_,hm=>cases hm
   | .at none .aQ,_,hm=>cases hm
   | .aO .rel .drop,_,hm=>cases hm
   | .aj .drop,_,hm=>cases hm
 | .aj .unlock,_=>intro hm;cases hm
theorem qyj {z:ZT} {s:ST} (hf:qT s z.k z.x) (hd:s≠.nil):mM s z=false->∃ X i,s=.thn X (.ae i)/\z.k.s=some i/\i<z.x.au.length/\((∃ d,X=.at (some .lock) (.dH d))\/(∃ n d,X=.thn (.at (some (.ready i)) (.bI n)) (.ai d))):=by
 match s,hf with
 | .nil,_=>exact absurd rfl hd
 | .at none .enter,_=>intro hm;cases hm
 | .at none .gate,_=>intro hm;cases hm
 | .at none .tick,_=>intro hm;cases hm
 | .aO .leave1 .answer,_=>intro hm;cases hm
 | .aj .answer,_=>intro hm;cases hm
 | .thn X (.ae i),hf =>
   obtain ⟨h1,h2,_,h4⟩:=hf;exact fun hm=>⟨X,i,rfl,h1,h2,qui h4 hm⟩
theorem qzr {z:ZS} {s:SS} (hf:xk s z.k) (hd:s≠.nil):sQ s z=false->s=.at (some .inside) .bO\/s=.at (some .idle) .cO:=by
 match s,hf with
 | .nil,_=>exact absurd rfl hd
 | .at none .shuts,_=>intro hm;cases hm
 | .at (some .inside) .bO,_=>exact fun _=>.inl rfl
 | .at (some .idle) .cO,_=>exact fun _=>.inr rfl
 | .aj .aS,_=>intro hm;cases hm
 | .thn (.aj .dC) .waits,_=>intro hm;cases hm
 | .thn (.at none (.bH i)) (.aA j),_=>intro hm;cases hm
 | .thn (.at none (.aC i)) (.aA j),_=>intro hm;cases hm
 | .thn (.aO (.release _) .drop) (.aA j),_=>intro hm;cases hm
 | .thn (.aj .drop) (.aA j),_=>intro hm;cases hm
theorem QG (hn:dN N S) (h:qz S) (hs:∀ t∈S.iH,t.2.may S=false):(∀ (a:Nat) (j:Jw),S.all[a]?=some j->j.w.done=true)/\(∀ c∈S.aP,c.k.holds=[])/\S.z.p.ch=[]/\S.z.p.sp=[]:=by
 have yz:∀ (a:Nat) (j:Jw),S.all[a]?=some j->j.w.done=false->j.w.may S.z=false:=fun a j ha hd=>by
  obtain ⟨i,hi⟩:=h.own a j ha hd;have:=hs _ (List.mem_append_left _ (LF (a:=0) hi));have e:S.af a=j:=by unfold SvS.af;rw [U4,ha];rfl
  rw [<- e];exact this
 have nO:∀ (a:Nat) (j:Jw) s k,S.all[a]?=some j->j.w=.call s k->s=.nil:=fun a j s k ha hj=>by
  refine UE fun hne=>?_
  have hd:s.isNil=false:=by cases s with
   | nil=>exact absurd rfl hne
   | _=>rfl
  have:=yz a j ha (by rw [hj];exact hd);rw [hj] at this;have:(!s.isNil)=false:=this;rw [hd] at this;cases this
 have hwk:∀ (i:Nat) (c:dz),S.aP[i]?=some c->c.may S.z=false:=fun i c hc=>by
  have hl:=(UF.1 hc).1;have:=hs _ (List.mem_append_right _ (Tj (a:=S.own.length) (i:=0) hl));have e:S.aM (0+i)=c:=by unfold SvS.aM;rw [Nat.zero_add,U4,hc];rfl
  rw [<- e];exact this
 have rR:∀ c∈S.aP,c.k.holds=[]/\¬ (0<(S.z.p.ch.length:Int)+S.z.p.sp.length):=fun c hc=>by
  obtain ⟨i,hi⟩:=V8.1 hc;have hm:=hwk i c hi;obtain ⟨wb,s,n,k⟩:=c;rcases (hn.aP _ hc).fit with ⟨h1,h2⟩ | ⟨h1,h2⟩
  ·obtain rfl:s=J2:=h1
   have hm:decide (0<(S.z.p.ch.length:Int)+S.z.p.sp.length)=false:=hm;exact ⟨h2,by simpa using hm⟩
  ·obtain rfl:s=.thn (.aj .jD) .takes:=h1
   cases hm
 obtain ⟨c0,hc0⟩:∃ c,c∈S.aP:=by
  have:=h.aP;cases hcr:S.aP with
  | nil=>rw [hcr] at this;simp at this
  | cons c l=>exact ⟨c,UT⟩
 have rT:=(rR c0 hc0).2;have hch:S.z.p.ch=[]:=UM (by omega);have hsp:S.z.p.sp=[]:=UM (by omega)
 have Cr:S.z.x.f.busy=0:=by
  rw [h.busy];exact qa (fun c hc=>by rw [(rR c hc).1];rfl)
 -- no turn waits
 have rY:∀ (a:Nat) (j:Jw) s k,S.all[a]?=some j->j.w=.turn s k->s=.nil:=fun a j s k ha hj=>by
  refine UE fun hne=>?_
  have hd:s.isNil=false:=by cases s with
   | nil=>exact absurd rfl hne
   | _=>rfl
  have hm:=yz a j ha (by rw [hj];exact hd);have hgo:=h.go a j ha;have hw:=Lc hn h ha hj hd;obtain ⟨hjn,_,_⟩:=hn.eT _ (U6 ha);rw [hj] at hm hgo hjn;have hf:=hjn.fit;have hth:=hjn.wk.th;have hm:mM s ⟨k,S.z.x,S.z.ws,S.z.p⟩=false:=hm;obtain ⟨X,i,rfl,hks,hil,hor⟩:=qyj (z:=⟨k,S.z.x,S.z.ws,S.z.p⟩) hf hne hm;rcases hor with ⟨d,rfl⟩ | ⟨n,d,rfl⟩
  ·have h0:∀ j,(S.z.x.au.getD j (Qr 1)).who=0:=fun j=>UE fun e=>(hw j e).1
   have hm:(decide (0<=k.th) && ((S.z.x.au.getD (k.s.getD 0) (Qr 1)).who == 0))=false:=hm;rw [h0] at hm;simp [hth] at hm
  ·have hil:i<S.z.x.au.length:=hil
   have hm:(S.z.x.au.getD i (Qr 1)).ring.ready=false:=hm;obtain ⟨hn1,hp⟩:=(show 1<=n/\qZ n i S.z.x from hgo);have hget:S.z.x.au[i]?=some (S.z.x.au[i]):=UA hil;have hrg:S.z.x.rg i=some (S.z.x.au[i]).ring:=by unfold Qi.rg;rw [hget];rfl
   rw [U4,hget] at hm;simp only [Vd] at hm;have aU:=hp _ hrg;rcases h.rg.uy i _ _ hrg (US _) (by omega) with e | ⟨b,t,hb,hc,_⟩
   ·have:((S.z.x.au[i]).ring.ready)=true:=by unfold Qz.ready;rw [e];simp
    rw [this] at hm;cases hm
   ·rw [U7] at hb
    obtain ⟨jb,hjb,htk⟩:=UG.1 hb;cases hwb:jb.w with
    | call s2 k2 =>
      rw [hwb] at htk;have htk:k2.tk=some (i,t):=htk;have hnil:=nO b jb s2 k2 hjb hwb;subst hnil;have hg2:=h.go b jb hjb;rw [hwb] at hg2;exact (show lX k2 from hg2.2) i t htk hc
    | turn s2 k2=>rw [hwb] at htk;cases htk
    | dM s2 k2=>rw [hwb] at htk;cases htk
 have hins:S.z.x.f.inside=0:=by
  rw [h.ins];refine qa (fun j hj=>?_)
  obtain ⟨a,ha⟩:=V8.1 hj;cases hw:j.w with
  | call s k=>rw [nO a j s k ha hw];rfl
  | turn s k=>rw [rY a j s k ha hw];rfl
  | dM s k=>rfl
 refine ⟨fun a j ha=>?_,fun c hc=>(rR c hc).1,hch,hsp⟩
 cases hw:j.w with
 | call s k=>rw [nO a j s k ha hw];rfl
 | turn s k=>rw [rY a j s k ha hw];rfl
 | dM s k =>
   refine UE fun hne=>?_
   have hne':¬ (s.isNil=true):=hne;have hd:s.isNil=false:=by simpa using hne'
   have hm:=yz a j ha (by rw [hw];exact hd);have hgo:=h.go a j ha;obtain ⟨hjn,_,_⟩:=hn.eT _ (U6 ha);rw [hw] at hm hgo hjn;have hm:sQ s ⟨k,S.z.x,S.z.p⟩=false:=hm;have hf:=hjn.fit;rcases qzr (z:=⟨k,S.z.x,S.z.p⟩) hf (fun e=>by rw [e] at hd;cases hd) hm with rfl | rfl
   ·have hm:(S.z.x.f.inside == 0)=false:=hm
    rw [hins] at hm;cases hm
   ·have hm:(S.z.p.shut && decide (S.z.p.ch=[]) && (S.z.x.f.busy == 0))=false:=hm
    have hgo:S.z.p.shut=true:=hgo;rw [hgo,hch,Cr] at hm;cases hm
theorem goes (hn:dN N S) (h:qz S):S.idle=decide (S.bZ.length=0):=by
 have hmem:S.bZ.length=0↔∀ t∈S.iH,t.2.may S=false:=by
  unfold SvS.bZ;rw [UC,List.length_eq_zero_iff,List.filter_eq_nil_iff];exact ⟨fun e t ht=>by simpa using e t ht,fun e t ht=>by simp [e t ht]⟩
 by_cases hs:∀ t∈S.iH,t.2.may S=false
 ·rw [decide_eq_true (hmem.2 hs)]
  obtain ⟨h1,h2,h3,h4⟩:=QG hn h hs
  have hb:S.aZ=false:=by
   unfold SvS.aZ;rw [List.any_eq_false];intro o ho;cases o with
   | none=>simp [wG]
   | some a =>
     have:=h1 a _ (Xd (hn.own a ho));simp [wG,this]
  unfold SvS.idle Y8 Zk;rw [hb,h3,h4];simp only [Bool.not_false,Bool.true_and,List.length_nil,Ve,decide_eq_true_eq];exact ⟨List.all_eq_true.2 fun c hc=>by rw [h2 c hc];rfl,by decide⟩
 ·have hne:¬ S.bZ.length=0:=fun e=>hs (hmem.1 e)
  rw [decide_eq_false hne];refine UE fun hi=>hs (fun t ht=>?_)
  have hi:S.idle=true:=by simpa using hi
  unfold SvS.idle Y8 at hi;simp only [Ve,Bool.not_eq_true',decide_eq_true_eq] at hi;obtain ⟨hb,hh,hp⟩:=hi;rcases List.mem_append.1 ht with ht | ht
  ·obtain ⟨k,e1,e2,_⟩:=Dt _ _ _ ht
   rw [e1]
   have hd:(S.af k).w.done=true:=by
    unfold SvS.aZ at hb;have:=List.any_eq_false.1 hb _ e2;simpa [wG] using this
   cases hm:Th.may S (.eY k) with
   | false=>rfl
   | true=>have:=Z3 (show (S.af k).w.may S.z=true from hm);rw [hd] at this;cases this
  ·obtain ⟨j,e1,_,e3⟩:=FL _ _ _ _ ht
   rw [e1];have hc:=Jo (S:=S) (a:=0+j) (by omega);have hcn:=hn.aP _ (U6 hc);have hho:=List.all_eq_true.1 hh _ (U6 hc)
   show (S.aM (0+j)).may S.z=false
   generalize S.aM (0+j)=c at hcn hho;obtain ⟨wb,s,n,k⟩:=c;rcases hcn.fit with ⟨h1,h2⟩ | ⟨h1,h2⟩
   ·obtain rfl:s=J2:=h1
    show decide (0<(S.z.p.ch.length:Int)+S.z.p.sp.length)=false
    simp only [decide_eq_false_iff_not];omega
   ·have h2:k.holds.length=1:=h2
    have hho:k.holds.isEmpty=true:=hho;rw [List.isEmpty_iff] at hho;rw [hho] at h2;cases h2
end
theorem q1n {N:Nat} {S:SvS} (hn:dN N S):dN N S.bare:=by
 refine ⟨hn.eF,fun j hj=>?_,fun c hc=>?_,fun k hk=>?_,hn.ol,?_,?_,fun a j ha ht hd=>?_⟩
 ·obtain ⟨j0,h0,rfl⟩:=Vb.1 hj
  exact hn.eT j0 h0
 ·obtain ⟨c0,h0,rfl⟩:=Vb.1 hc
  have:=hn.aP c0 h0;exact ⟨this.fit,this.worked,this.n⟩
 ·show k<(S.all.map Jw.bare).length
  rw [UC];exact hn.own k hk
 ·show (S.aP.map dz.bare).length<=1000
  rw [UC];exact hn.cl
 ·show (S.all.map Jw.bare).length<=N
  rw [UC];exact hn.al
 ·have ha:(S.all.map Jw.bare)[a]?=some j:=ha
  rw [U7] at ha;obtain ⟨j0,h0,rfl⟩:=UG.1 ha;exact hn.turn a j0 h0 ht hd
theorem q9e {N:Nat} {L:Lay} {sb:Nat} {B:SvS} {g:List ak} (h:iF N L sb B g):dN N B:=by
 obtain ⟨S,rfl,hn,_⟩:=h;exact q1n hn
section
variable {N:Nat} {B:SvS}
theorem qsx (hn:dN N B) (h:qz B) (kb:Nat) (th:Int) (c:Q0):qz (B.dV kb th c):=by
 unfold SvS.dV;split
 ·next e=>exact qzg hn h (KM e) kb
 ·exact h
end
abbrev nY:Type:=Option (Nat × Int)
structure rE (O:List nY) (rs:List Rec):Prop where
 own:∀ (a k:Nat) (e:Int),O[a]?=some (some (k,e))->(e=1\/e=5\/e=6)/\∃ r,rs[k]?=some r/\bB r.w=e
 uniq:∀ (a b k:Nat) (e f:Int),O[a]?=some (some (k,e))->O[b]?=some (some (k,f))->a=b
inductive Dc (o o':nY) (rs rs':List Rec):Prop where
 | calm (h:rs'=rs) (h2:o'=o\/o'=none):Dc o o' rs rs'
 | other (k:Nat) (r r':Rec) (hr:rs[k]?=some r) (hs:bB r.w≠1/\bB r.w≠5/\bB r.w≠6) (h:rs'=rs.set k r') (h1:o'=none\/∃ e,o'=some (k,e)/\bB r'.w=e/\(e=1\/e=5\/e=6)):Dc o o' rs rs'
 | mine (k:Nat) (e:Int) (r':Rec) (h0:o=some (k,e)) (h:rs'=rs.set k r') (h1:o'=none):Dc o o' rs rs'
theorem rE.uA {O:List nY} {rs rs':List Rec} {a:Nat} {o o':nY} (h:rE O rs) (ha:O[a]?=some o) (e:Dc o o' rs rs'):rE (O.set a o') rs':=by
 cases e with
 | calm hr h2 =>
   subst hr;refine ⟨fun b k e hb=>?_,fun b c k e f hb hc=>?_⟩
   ·rcases Jk hb with ⟨_,e1⟩ | ⟨_,hB⟩
    ·rcases h2 with h2 | h2
     ·rw [h2] at e1;exact h.own a k e (by rw [ha,e1])
     ·rw [h2] at e1;cases e1
    ·exact h.own b k e hB
   ·have hold:∀ d e,(O.set a o')[d]?=some (some (k,e))->O[d]?=some (some (k,e)):=fun d e hd=>by
     rcases Jk hd with ⟨rfl,e1⟩ | ⟨_,hD⟩
     ·rcases h2 with h2 | h2
      ·rw [h2] at e1;rw [ha,e1]
      ·rw [h2] at e1;cases e1
     ·exact hD
    exact h.uniq b c k e f (hold _ _ hb) (hold _ _ hc)
 | other k r r' hr hs hrs h1 =>
   have hfree:∀ d e,O[d]?=some (some (k,e))->False:=fun d e hd=>by
    obtain ⟨h5,r2,h6,h7⟩:=h.own d k e hd;rw [hr] at h6;cases h6;omega
   subst hrs;refine ⟨fun b k2 e hb=>?_,fun b c k2 e f hb hc=>?_⟩
   ·rcases Jk hb with ⟨_,e1⟩ | ⟨_,hB⟩
    ·rcases h1 with h1 | ⟨e2,h1,h3,h4⟩
     ·rw [h1] at e1;cases e1
     ·rw [h1] at e1;cases e1
      exact ⟨h4,r',get_set_same hr,h3⟩
    ·obtain ⟨h5,r2,h6,h7⟩:=h.own b k2 e hB
     exact ⟨h5,r2,vX h6 (fun e3=>by subst e3;exact hfree b e hB),h7⟩
   ·rcases Jk hb with ⟨rfl,e1⟩ | ⟨_,hB⟩
    ·rcases Jk hc with ⟨rfl,_⟩ | ⟨_,hC⟩
     ·rfl
     ·rcases h1 with h1 | ⟨e2,h1,_⟩
      ·rw [h1] at e1;cases e1
      ·rw [h1] at e1;cases e1
       exact (hfree c f hC).elim
    ·rcases Jk hc with ⟨rfl,e1⟩ | ⟨_,hC⟩
     ·rcases h1 with h1 | ⟨e2,h1,_⟩
      ·rw [h1] at e1;cases e1
      ·rw [h1] at e1;cases e1
       exact (hfree b e hB).elim
     ·exact h.uniq b c k2 e f hB hC
 | mine k e r' h0 hrs h1 =>
   subst h1 hrs h0;refine ⟨fun b k2 e2 hb=>?_,fun b c k2 e2 f hb hc=>?_⟩
   ·rcases Jk hb with ⟨_,e1⟩ | ⟨hne,hB⟩
    ·cases e1
    ·obtain ⟨h5,r2,h6,h7⟩:=h.own b k2 e2 hB
     exact ⟨h5,r2,vX h6 (fun e3=>hne (by subst e3;exact h.uniq b a k2 e2 e hB ha)),h7⟩
   ·rcases Jk hb with ⟨_,e1⟩ | ⟨_,hB⟩
    ·cases e1
    ·rcases Jk hc with ⟨_,e1⟩ | ⟨_,hC⟩
     ·cases e1
     ·exact h.uniq b c k2 e2 f hB hC
theorem rE.snoc {O:List nY} {rs:List Rec} (h:rE O rs):rE (O++[none]) rs:=by
 have hg:∀ (b:Nat) x,(O++[none])[b]?=some (some x)->O[b]?=some (some x):=fun b x hb=>by
  rcases DY hb with ⟨_,hb⟩ | ⟨_,e⟩
  ·exact hb
  ·cases e
 exact ⟨fun a k e ha=>h.own a k e (hg _ _ ha),fun a b k e f ha hb=>h.uniq a b k e f (hg _ _ ha) (hg _ _ hb)⟩
theorem Z7 {s:Qj} (hs:Xh s) (k old ev:Int):((s.try k old ev).2.2≠0/\(s.try k old ev).1=s) \/
 ((s.try k old ev).2.2=0/\∃ (j:Nat) (r:Rec) (w':Int),k=j/\s.recs[j]?=some r/\r.w=old/\nV r/\Xs r.w ev (decide (0<r.p))=(w',0)/\(s.try k old ev).1={ s with recs:=s.recs.set j { r with w:=w' } }/\(s.try k old ev).2.1=w'):=by
 unfold Qj.try;split
 ·next hh =>
  obtain ⟨j,rfl⟩:=Qj.eG hh;obtain ⟨r,h1,h2⟩:=Qj.fu hh;rw [h2];simp only [];split
  ·next hne=>exact .inl ⟨hne,rfl⟩
  ·next he =>
   split
   ·next hw =>
    refine .inr ⟨rfl,j,r,(Xs old ev (decide (0<r.p))).1,rfl,h1,hw,hs.recs r (U6 h1),?_,rfl,rfl⟩
    rw [hw];exact Prod.ext rfl (by simpa using he)
   ·exact .inl ⟨by show (10:Int)≠0;decide,rfl⟩
 ·exact .inl ⟨by show (4:Int)≠0;decide,rfl⟩
theorem AX {r:Rec} (hr:nV r) {ev w':Int} {p:Bool} (h:Xs r.w ev p=(w',0)):1<=ev/\ev<=10/\(toW (bB r.w) ev (p && !Xr r.w)).2.2=true/\bB w'=(toW (bB r.w) ev (p && !Xr r.w)).1:=by
 rcases Y1 r.w ev p hr.w0 hr.w1 hr.ok with ⟨_,h2⟩ | ⟨h1,h2,h3,h4,h5,h6,_⟩
 ·rw [h] at h2;simp only at h2;omega
 ·rw [h] at h6
  exact ⟨h2,h3,h4,h6⟩
theorem Dn {l:List Rec} {k:Nat} {x r:Rec} (h:l[k]?=some x) (hx:bB x.w≠0) (hr:bB r.w≠0):Ja (l.set k r)=Ja l:=by
 have:=Lh r h;rw [F4 hx,F4 hr] at this;simp at this
 omega
theorem KD {l:List Rec} {k:Nat} {x r:Rec} (h:l[k]?=some x) (hx:bB x.w≠0) (hr:bB r.w=0):(Ja (l.set k r):Int)=Ja l - 1:=by
 have:=Lh r h;rw [F4 hx,Pm hr] at this;simp at this
 omega
theorem qym {l:List Rec} {k:Nat} {x r:Rec} (h:l[k]?=some x) (hx:bB x.w=0) (hr:bB r.w≠0):(Ja (l.set k r):Int)=Ja l+1:=by
 have:=Lh r h;rw [Pm hx,F4 hr] at this;simp at this
 omega
theorem q5q {s ev:Int} {ag:Bool} (h0:0<=s) (h6:s<=6) (he:ev=6\/ev=7\/ev=8) (h:(toW s ev ag).2.2=true):(s=2\/s=3\/s=4)/\(toW s ev ag).1≠0/\(ev=6->(toW s ev ag).1=5):=by
 have hs:s=0\/s=1\/s=2\/s=3\/s=4\/s=5\/s=6:=by omega
 revert h
 rcases hs with rfl | rfl | rfl | rfl | rfl | rfl | rfl <;> rcases he with rfl | rfl | rfl <;> cases ag <;> decide
theorem FT {r:Rec} (hr:nV r) {ev w':Int} {p:Bool} (he:ev=6\/ev=7\/ev=8) (h:Xs r.w ev p=(w',0)):(bB r.w=2\/bB r.w=3\/bB r.w=4)/\bB w'≠0/\(ev=6->bB w'=5):=by
 obtain ⟨_,_,g3,g4⟩:=AX hr h;have hb:=sS r.w hr.w0 hr.ok;obtain ⟨a,b,c⟩:=q5q hb.1 hb.2.1 he g3;rw [g4];exact ⟨a,b,c⟩
def lC (M:Int) (rs:List Rec):Prop:=∀ r∈rs,Xv r.w<=M
theorem zk {rs:List Rec} {k:Nat} {r r':Rec} {ev:Int} {p:Bool} (hr:rs[k]?=some r) (ho:nV r) (hn:Xs r.w ev p=(r'.w,0)):∀ M,lC M rs->lC (M+1) (rs.set k r'):=by
 intro M h q hq;rcases List.mem_or_eq_of_mem_set hq with hq | rfl
 ·have:=h q hq;omega
 ·have h0:=h r (U6 hr)
  have hb:=sS r.w ho.w0 ho.ok;rcases Y1 r.w ev p ho.w0 ho.w1 ho.ok with ⟨_,h2⟩ | ⟨h1,h2,h3,h4,h5,h6,h7,_⟩
  ·rw [hn] at h2;simp only at h2;omega
  ·rw [hn] at h7
   have hf:=Du (bB r.w) ev (p && !Xr r.w) hb.1 hb.2.1;have:=hf.2.2.2;simp only at h7;omega
theorem Av {rs rs':List Rec} (h:rs'=rs):∀ M,lC M rs->lC (M+1) rs':=by
 intro M hM q hq;rw [h] at hq;have:=hM q hq;omega
structure kR (rs rs':List Rec):Prop where
 len:rs'.length=rs.length
 at_:∀ (k:Nat) (r':Rec),rs'[k]?=some r'->∃ r,rs[k]?=some r/\Xv r.w<=Xv r'.w/\(Xv r'.w=Xv r.w->r'.p=r.p)
theorem kR.refl (rs:List Rec):kR rs rs:=⟨rfl,fun k r h=>⟨r,h,US _,fun _=>rfl⟩⟩
theorem Dz {rs rs':List Rec} (h:rs'=rs):kR rs rs':=by rw [h];exact kR.refl rs
theorem zz {rs:List Rec} {k:Nat} {r r':Rec} {ev:Int} {p:Bool} (hr:rs[k]?=some r) (ho:nV r) (hn:Xs r.w ev p=(r'.w,0)) (hp:r'.p=r.p\/ev=1):kR rs (rs.set k r'):=by
 refine ⟨Vf,fun j q hq=>?_⟩
 rcases Jk hq with ⟨rfl,rfl⟩ | ⟨_,hQ⟩
 ·have hb:=sS r.w ho.w0 ho.ok
  rcases Y1 r.w ev p ho.w0 ho.w1 ho.ok with ⟨_,h2⟩ | ⟨h1,h2,h3,h4,h5,h6,h7,_⟩
  ·rw [hn] at h2;simp only at h2;omega
  ·rw [hn] at h7
   have hf:=Du (bB r.w) ev (p && !Xr r.w) hb.1 hb.2.1;have hf0:=hf.2.2.1;simp only at h7;refine ⟨r,hr,by omega,fun e=>?_⟩
   rcases hp with hp | rfl
   ·exact hp
   ·have:(toW (bB r.w) 1 (p && !Xr r.w)).2.1=1:=rfl
    omega
 ·exact ⟨q,hQ,US _,fun _=>rfl⟩
def tT:SC->Qv->nY
 | .at none .aX,k=>if k.kind=3 then none else some (k.slot.toNat,1)
 | .at none .bU,k=>some (k.slot.toNat,1)
 | .thn (.aO .eB .drop) .leaves,k=>some (k.slot.toNat,1)
 | .thn (.aO .bK .drop) .ends,k=>some (k.slot.toNat,5)
 | _,_=>none
def Bn:Option iC->Int
 | some q=>if q.next=2 then 1 else 0
 | none=>0
def z5:SC->Qv->Int
 | .at none .asks,k=>Bn k.rq
 | .thn (.aj .drop) _,_=>1
 | _,_=>0
structure Xf (o o':nY) (s s':Qj) (d:Int):Prop where
 cnt:s'.count - Ja s'.recs=s.count - Ja s.recs+d
 uA:Dc o o' s.recs s'.recs
 gen:∀ M,lC M s.recs->lC (M+1) s'.recs
 le:kR s.recs s'.recs
theorem Xf.same {o o':nY} {s s':Qj} {d:Int} (h:s'=s) (hd:d=0) (ho:o'=o\/o'=none):Xf o o' s s' d:=by
 subst h hd;exact ⟨by omega,.calm rfl ho,Av rfl,Dz rfl⟩
theorem LJ {s:Qj} {j:Nat} {r:Rec} (h:s.recs[j]?=some r):s.has (j:Int)/\s.word (j:Int)=r.w/\s.recs.getD (j:Int).toNat Rec.zero=r:=by
 have hl:=(UF.1 h).1;have hh:s.has (j:Int):=⟨by omega,by omega⟩;have hg:s.recs.getD (j:Int).toNat Rec.zero=r:=by rw [U8];exact D8 h
 refine ⟨hh,?_,hg⟩
 unfold Qj.word;rw [if_pos hh,hg]
theorem AL {s:Qj} {j:Nat} {r:Rec} (h:s.recs[j]?=some r) {ev w':Int} (hn:Xs r.w ev (decide (0<r.p))=(w',0)):(s.try j (s.word j) ev)=({ s with recs:=s.recs.set j { r with w:=w' } },w',0):=by
 obtain ⟨a,b,c⟩:=LJ h;unfold Qj.try;rw [if_pos a,b];simp only [c,hn];simp
theorem AV {r:Rec} (hr:nV r) {ev:Int} {p:Bool} (h1:1<=ev) (h2:ev<=10) (ht:(toW (bB r.w) ev (p && !Xr r.w)).2.2=true) (hg:(toW (bB r.w) ev (p && !Xr r.w)).2.1=0):∃ w',Xs r.w ev p=(w',0)/\bB w'=(toW (bB r.w) ev (p && !Xr r.w)).1:=by
 have hb:=sS r.w hr.w0 hr.ok;rcases Y1 r.w ev p hr.w0 hr.w1 hr.ok with ⟨h3,h4⟩ | ⟨h3,_,_,_,_,h6,_⟩
 ·exfalso
  unfold Xs at h4;simp only [hr.ok] at h4;rw [if_neg (by simp),if_neg (by omega)] at h4;simp only [ht,hg] at h4;rw [if_neg (by simp),if_neg (by omega)] at h4;simp at h4
 ·exact ⟨_,Prod.ext rfl h3,h6⟩
section
variable {N:Nat} {k:Qv} {x:Qi}
theorem KH (hs:Xh x.aa) (ev e:Int) {o:nY} {d:Int} (ho:o=some (k.slot.toNat,e)) (h0:0<=k.slot) {r:Rec} (hr:x.aa.recs[k.slot.toNat]?=some r) (he:bB r.w=e) (h1:1<=ev) (h2:ev<=10)
 (ht:∀ ag,(toW e ev ag).2.2=true/\(toW e ev ag).2.1=0) (hne:e≠0) (hd:∀ ag,d=if (toW e ev ag).1=0 then 1 else 0):Xf o none x.aa (qM k.slot ev x.aa).1 d:=by
 have hro:=hs.recs r (U6 hr);obtain ⟨j,hj⟩:=UK h0;rw [hj,U8] at hr ho;obtain ⟨w',hn,hst⟩:=AV (p:=decide (0<r.p)) hro h1 h2 (by rw [he];exact (ht _).1) (by rw [he];exact (ht _).2)
 have e1:(qM k.slot ev x.aa).1={ x.aa with recs:=x.aa.recs.set j { r with w:=w' } }:=by
  show (x.aa.try k.slot (x.aa.word k.slot) ev).1=_
  rw [hj,AL hr hn]
 rw [e1];rw [he] at hst;refine ⟨?_,.mine j e { r with w:=w' } ho rfl rfl,zk (r':={ r with w:=w' }) hr hro hn,zz (r':={ r with w:=w' }) hr hro hn (.inl rfl)⟩
 show x.aa.count - (Ja (x.aa.recs.set j { r with w:=w' }):Int)=_
 rw [hd (decide (0<r.p) && !Xr r.w)];split
 ·next hz=>rw [KD hr (by omega) (by show bB w'=0;omega)];omega
 ·next hz=>rw [Dn hr (by omega) (by show bB w'≠0;omega)];omega
theorem q7l (hc:Zi N x) (hk:Zn N k x) (m:MC) (hf:tN (.at none m) k) (h1:vR (.at none m) k) (hO:∀ j e,tT (.at none m) k=some (j,e)->∃ r,x.aa.recs[j]?=some r/\bB r.w=e) :
 Xf (tT (.at none m) k) (tT (J1 m (k,x)).1 (J1 m (k,x)).2.1) x.aa (J1 m (k,x)).2.2.aa (z5 (J1 m (k,x)).1 (J1 m (k,x)).2.1 - z5 (.at none m) k):=by
 have ja:∀ (k2:Qv),tT (X2 k) k2=none/\z5 (X2 k) k2=0:=fun k2=>by unfold X2;split <;> exact ⟨rfl,rfl⟩
 have hs:=hc.aa;cases m with
 | right =>
   show Xf none (tT (if mP k then ((.aj .aS,Ql 1 (k,x)):SC × ZC) else (.at none .enter,(k,x))).1 (if mP k then ((.aj .aS,Ql 1 (k,x)):SC × ZC) else (.at none .enter,(k,x))).2.1) _ (if mP k then ((.aj .aS,Ql 1 (k,x)):SC × ZC) else (.at none .enter,(k,x))).2.2.aa (z5 (if mP k then ((.aj .aS,Ql 1 (k,x)):SC × ZC) else (.at none .enter,(k,x))).1 (if mP k then ((.aj .aS,Ql 1 (k,x)):SC × ZC) else (.at none .enter,(k,x))).2.1 - 0)
   split <;> exact Xf.same rfl rfl (.inl rfl)
 | enter=>exact Xf.same rfl rfl (.inl rfl)
 | gate =>
   obtain ⟨r,hr⟩:∃ r,J1 .gate (k,x)=r:=⟨_,rfl⟩;have e:J1 .gate (k,x)=if x.f.closed=true then (X2 k,Ql 3 (k,x)) else if k.kind=1\/k.kind=2 then (.at none .asks,({ k with rq:=some ⟨k.period,0,0,0,0,0⟩ },x)) else (.at none .looks,(k,x)):=rfl
   rw [e];split
   ·exact Xf.same rfl (by show z5 (X2 k) _ - 0=0;rw [(ja _).2];rfl) (.inr (ja _).1)
   ·split <;> exact Xf.same rfl rfl (.inl rfl)
 | asks =>
   have hk3:k.kind≠3:=by have h1:k.kind=1\/k.kind=2:=h1;omega
   obtain ⟨q,hq⟩:=UI.1 hf.1;have hst:=hf.2 q hq;have hqo:=hk.rq q hq;have e:J1 .asks (k,x)=q7 (k,x) q:=by show (match k.rq with | none=>_ | some q=>_)=_;rw [hq]
   have hp:z5 (.at none .asks) k=if q.next=2 then 1 else 0:=by show Bn k.rq=_;rw [hq];rfl
   rw [e,hp]
   show Xf none _ _ _ _
   by_cases hn0:q.next=0
   ·have er:Za x.aa q=(x.aa,qO x.aa q):=by unfold Za;rw [if_neg (by omega),if_pos hn0]
    unfold q7;simp only [er];rw [if_neg (show ¬ q.next=2 by omega)];unfold qO;split
    ·exact Xf.same rfl rfl (.inl rfl)
    ·simp only [hst]
     exact Xf.same rfl rfl (.inl rfl)
   ·by_cases hn1:q.next=1
    ·have er:Za x.aa q=pY x.aa q:=by unfold Za;rw [if_neg (by omega),if_neg hn0,if_pos hn1]
     unfold q7;simp only [er];rw [if_neg (show ¬ q.next=2 by omega)];unfold pY;split
     ·simp only [hst]
      exact ⟨by show x.aa.count+1 - (Ja x.aa.recs:Int)=x.aa.count - Ja x.aa.recs+(1 - 0);omega,.calm rfl (.inl rfl),Av rfl,Dz rfl⟩
     ·simp only [hst]
      exact Xf.same rfl rfl (.inl rfl)
    ·have hn2:q.next=2:=by have:=hqo.next;omega
     have er:Za x.aa q=qc6 x.aa q:=by unfold Za;rw [if_neg (by omega),if_neg hn0,if_neg hn1]
     unfold q7;simp only [er];rw [if_pos hn2];obtain ⟨j,hj⟩:=UK hqo.ig;have hjl:j<x.aa.recs.length:=by have:=hqo.iG;omega
     have hr:=UA hjl;generalize x.aa.recs[j]=r at hr;have hro:=hs.recs r (U6 hr);have hn64:=hs.n1;have hgd:x.aa.recs.getD q.slot.toNat Rec.zero=r:=by rw [hj,U8];exact D8 hr
     unfold qc6;simp only [hgd];split
     ·next hz =>
      have hnx:Xs r.w 1 (decide (0<q.p))=((Xs r.w 1 (decide (0<q.p))).1,0):=Prod.ext rfl hz;obtain ⟨_,_,g3,g4⟩:=AX hro hnx;have g3:(bB r.w == 0)=true:=g3;have g4:bB (Xs r.w 1 (decide (0<q.p))).1=1:=g4;have hz0:bB r.w=0:=by simpa using g3
      generalize (Xs r.w 1 (decide (0<q.p))).1=w' at g4 hnx;have hid:((r.g+1)*64+q.slot) % 64=j:=by have:=hqo.ig;omega
      simp only [if_neg (show ¬ (2:Int)=1 by decide),if_pos (show (2:Int)=2 from rfl)];refine ⟨?_,.other j r ⟨w',r.g+1,q.p⟩ hr (by omega) (by rw [hj];rfl) (.inr ⟨1,?_,g4,.inl rfl⟩),?_,?_⟩
      ·show x.aa.count - (Ja (x.aa.recs.set q.slot.toNat ⟨w',r.g+1,q.p⟩):Int)=_
       rw [hj,U8,qym hr hz0 (by show bB w'≠0;omega)]
       show _=_+(0 - 1)
       omega
      ·show (if k.kind=3 then none else some ((((r.g+1)*64+q.slot) % 64).toNat,(1:Int)))=_
       rw [if_neg hk3,hid,U8]
      ·show ∀ M,lC M x.aa.recs->lC (M+1) (x.aa.recs.set q.slot.toNat ⟨w',r.g+1,q.p⟩)
       rw [hj,U8];exact zk (r':=⟨w',r.g+1,q.p⟩) hr hro hnx
      ·show kR x.aa.recs (x.aa.recs.set q.slot.toNat ⟨w',r.g+1,q.p⟩)
       rw [hj,U8];exact zz (r':=⟨w',r.g+1,q.p⟩) hr hro hnx (.inr rfl)
     ·simp only [hst]
      exact Xf.same rfl (by show Bn (some _) - 1=0;simp [Bn,hn2]) (.inl rfl)
 | aX =>
   obtain ⟨t,ht⟩:=UI.1 (show k.tk.isSome=true from hf);obtain ⟨i,t⟩:=t;have hi:=(hk.tk i t ht).2;have hsh:=UA hi
   have e:J1 .aX (k,x)=Ze (k,x) i t x.au[i]:=by
    show (match k.tk with | none=>_ | some (i,t)=>_)=_
    rw [ht];simp only [hsh]
   rw [e];unfold Ze;simp only [];split
   ·exact Xf.same rfl rfl (.inl rfl)
   ·split
    ·exact Xf.same rfl rfl (.inr rfl)
    ·split
     ·next hn1 h2 =>
      refine Xf.same rfl rfl (.inl ?_)
      show some (k.slot.toNat,(1:Int))=if k.kind=3 then none else some (k.slot.toNat,1)
      rw [if_neg (fun h=>hn1 ⟨h2,h⟩)]
     ·split
      ·exact Xf.same rfl rfl (.inr rfl)
      ·next h3 =>
       refine Xf.same rfl rfl (.inl ?_)
       show some (k.slot.toNat,(1:Int))=if k.kind=3 then none else some (k.slot.toNat,1)
       rw [if_neg h3]
 | bU =>
   obtain ⟨r,hr,he⟩:=hO _ _ rfl;exact KH hs 2 1 rfl hk.slot hr he (by decide) (by decide) (fun _=>⟨rfl,rfl⟩) (by decide) (fun _=>rfl)
 | fills =>
   have e:(J1 .fills (k,x)).2.2.aa=x.aa:=by
    show (Yo (qr (k,x)) (k,x)).2.aa=x.aa
    unfold Yo;split
    ·rfl
    ·split <;> rfl
   exact Xf.same e rfl (.inl rfl)
 | looks =>
   have e:J1 .looks (k,x)=(if (Q4 (k,x)).2=0 then (if k.kind=3 then (.at none .aX,({ (Q4 (k,x)).1.1 with tk:=some (qi (Q4 (k,x)).1.1.slot x,Xp) },x)) else (.at none .tries,(Q4 (k,x)).1)) else if (Q4 (k,x)).2=1 then (X2 k,Ql 1 (Q4 (k,x)).1) else (X2 k,Ql 0 (Q4 (k,x)).1)):=rfl;rw [e];split
   ·split
    ·next h3 =>
     refine Xf.same rfl rfl (.inl ?_)
     show (if (Q4 (k,x)).1.1.kind=3 then none else _)=none
     rw [if_pos ((q0x (k,x)).2.1.trans h3)]
    ·exact Xf.same rfl rfl (.inl rfl)
   ·split
    ·exact Xf.same rfl (by show z5 (X2 k) _ - 0=0;rw [(ja _).2];rfl) (.inr (ja _).1)
    ·exact Xf.same rfl (by show z5 (X2 k) _ - 0=0;rw [(ja _).2];rfl) (.inr (ja _).1)
 | again =>
   have e:J1 .again (k,x)=(if (Q4 (k,x)).2=0 then (.at none .tries,(Q4 (k,x)).1) else (.thn (.aj .bC) .leaves,Ql 0 (Q4 (k,x)).1)):=rfl;rw [e];split <;> exact Xf.same rfl rfl (.inl rfl)
 | tries =>
   have h1:3<=k.kind/\k.kind<=5:=h1
   have e:J1 .tries (k,x)=(if (Zr (k,x)).2≠0 then (if k.kind=3 then (.at none .again,(Zr (k,x)).1) else (.at none .looks,(Zr (k,x)).1)) else if k.kind=3 then (.at none .fills,qc { bL with kind:=6,id:=k.id,gen:=(Zr (k,x)).1.1.gen,dl:=k.jJ } (iQ (Zr (k,x)).1.1,(Zr (k,x)).1.2))
    else if k.kind=5 then (.aj .aS,qc { bL with kind:=8,id:=k.id,gen:=(Zr (k,x)).1.1.gen } (iQ (Zr (k,x)).1.1,(Zr (k,x)).1.2))
    else (.thn (.aO .bK .drop) .ends,qc { bL with kind:=7,id:=k.id,gen:=(Zr (k,x)).1.1.gen } (iQ (Zr (k,x)).1.1,(Zr (k,x)).1.2))):=rfl
   have hev:k.event=if k.kind=4 then 6 else if k.kind=5 then 7 else 8:=rfl
   rcases Z7 hs k.slot k.aB k.event with ⟨t1,t2⟩ | ⟨t1,j,r,w',t2,t3,t4,t5,t6,t7,t8⟩
   ·rw [e,if_pos (show (Zr (k,x)).2≠0 from t1)]
    split
    ·exact Xf.same t2 rfl (.inl rfl)
    ·exact Xf.same t2 rfl (.inl rfl)
   ·have hst:=FT t5 (show k.event=6\/k.event=7\/k.event=8 by rw [hev];split <;> first | exact .inl rfl | (split <;> first | exact .inr (.inl rfl) | exact .inr (.inr rfl))) t6
    have hsl:(Zr (k,x)).1.2.aa={ x.aa with recs:=x.aa.recs.set j { r with w:=w' } }:=t7
    have hcnt:∀ d:Int,d=0->({ x.aa with recs:=x.aa.recs.set j { r with w:=w' } }:Qj).count - Ja ({ x.aa with recs:=x.aa.recs.set j { r with w:=w' } }:Qj).recs=x.aa.count - Ja x.aa.recs+d:=fun d hd=>by
     show x.aa.count - (Ja (x.aa.recs.set j { r with w:=w' }):Int)=_
     rw [Dn t3 (by omega) (by show bB w'≠0;exact hst.2.1)];omega
    have hne:bB r.w≠1/\bB r.w≠5/\bB r.w≠6:=by omega
    rw [e,if_neg (show ¬ (Zr (k,x)).2≠0 from fun h=>h t1)]
    have fin:∀ (o':nY) (z:Qi),z.aa=(Zr (k,x)).1.2.aa->(o'=none\/∃ e,o'=some (j,e)/\bB w'=e/\(e=1\/e=5\/e=6))->Xf none o' x.aa z.aa 0:=fun o' z hz ho=>by
     rw [hz,hsl];exact ⟨hcnt 0 rfl,.other j r { r with w:=w' } t3 hne rfl ho,zk (r':={ r with w:=w' }) t3 t5 t6,zz (r':={ r with w:=w' }) t3 t5 t6 (.inl rfl)⟩
    split
    ·exact fin _ _ rfl (.inl rfl)
    ·split
     ·exact fin _ _ rfl (.inl rfl)
     ·next k3 k5 =>
      have k4:k.kind=4:=by omega
      refine fin _ _ rfl (.inr ⟨5,?_,hst.2.2 (by rw [hev,if_pos k4]),.inr (.inl rfl)⟩)
      show some (k.slot.toNat,(5:Int))=_
      rw [t2,U8]
 | ends=>exact hf.elim
 | leaves=>exact hf.elim
theorem NH {s:SC} (hj:JC N s (k,x)) (h1:vR s k) (hO:∀ j e,tT s k=some (j,e)->∃ r,x.aa.recs[j]?=some r/\bB r.w=e) (hp:z5 s k<=x.aa.count) :
 Xf (tT s k) (tT (J5 s (k,x)).1 (J5 s (k,x)).2.1) x.aa (J5 s (k,x)).2.2.aa (z5 (J5 s (k,x)).1 (J5 s (k,x)).2.1 - z5 s k):=by
 obtain ⟨hc,hk,hf⟩:=hj;simp only at hc hk hf;have hs:=hc.aa
 have hdrop:1<=x.aa.count->Xf none none x.aa x.aa.drop.1 (-1):=fun h=>by
  unfold Qj.drop;rw [if_pos (by omega)];exact ⟨by show x.aa.count - 1 - (Ja x.aa.recs:Int)=_;omega,.calm rfl (.inl rfl),Av rfl,Dz rfl⟩
 match s,hf,h1,hO,hp with
 | .nil,_,_,_,_=>exact Xf.same rfl rfl (.inl rfl)
 | .at none m,hf,h1,hO,_=>exact q7l hc hk m hf h1 hO
 | .aj .aS,_,_,_,_=>exact Xf.same rfl rfl (.inl rfl)
 | .thn (.aj .bJ) .ends,_,_,_,_=>exact Xf.same rfl rfl (.inl rfl)
 | .thn (.aO .eB .drop) .leaves,_,_,hO,_ =>
   obtain ⟨r,hr,he⟩:=hO _ _ rfl;exact KH hs 9 1 rfl hk.slot hr he (by decide) (by decide) (fun _=>⟨rfl,rfl⟩) (by decide) (fun _=>rfl)
 | .thn (.aj .drop) .leaves,_,_,_,hp=>exact hdrop hp
 | .thn (.aj .bC) .leaves,_,_,_,_ =>
   have e:(J5 (.thn (.aj .bC) .leaves) (k,x)).2.2.aa=x.aa:=by
    show (Yo _ (k,x)).2.aa=x.aa
    unfold Yo;split
    ·rfl
    ·split <;> rfl
   exact Xf.same e rfl (.inl rfl)
 | .thn (.aO .bK .drop) .ends,_,_,hO,_ =>
   obtain ⟨r,hr,he⟩:=hO _ _ rfl;exact KH hs 10 5 rfl hk.slot hr he (by decide) (by decide) (fun _=>⟨rfl,rfl⟩) (by decide) (fun _=>rfl)
 | .thn (.aj .drop) .ends,_,_,_,hp=>exact hdrop hp
end
end
end Go.Proofs.YtcneeepdclgdcaaGreat
