import Derived.Test.YtcneeepdclgdcaaGreatPF32
import Derived.Test.YtcneeepdclgdcaaGreatPF31
import Derived.Test.YtcneeepdclgdcaaGreatPF24
import Derived.Test.YtcneeepdclgdcaaGreatPF4
set_option maxRecDepth 100000
set_option maxHeartbeats 4000000
namespace Go.Proofs.YtcneeepdclgdcaaGreat
open Go.IntKind renaming i64->WK,u64->WN
open Go.Value renaming int->WL,tuple->WO,pointer->XF,iface->YC
open Go.Ending renaming returned->WM
open _root_.List renaming replicate->WQ,getD_eq_getElem?_getD->WR,getElem?_map->WT,length_replicate->WU,eq_of_mem_replicate->WV,set_cons_zero->WW,set_cons_succ->WX,getElem?_eq_getElem->WY,getElem?_eq_some_iff->XA,mem_of_getElem?->XB,take_succ_eq_append_getElem->XD,length_map->XE,perm_iff_count->XI,flatten_append->XJ,length_append->XK,getElem?_append_right->XL,flatten_cons->XM,count_append->XN,getElem?_append_left->XO,map_set->XP,flatten_nil->XQ,length_set->XV,append_nil->XW,take_of_length_le->XZ,mem_singleton->YA,mem_map->YB,length_cons->YD,mem_append->YE,length_nil->YF,map_append->YH,map_map->YJ
open _root_.And renaming intro->WS
open Go renaming wpQuiet_nil->WZ,bodyPost_end->XT,results_none->XU
open _root_.Nat renaming zero_le->XC,le_trans->XR,le_refl->XX,le_of_eq->YK
open _root_.Int renaming le_refl->XG,toNat_natCast->XH
open Go.World renaming drewN->XY
open _root_.Option.some renaming inj->YG
open _root_.Exists renaming intro->YI
set_option linter.all false
open Go.Proofs.Tryz
section
open Go.RowKit Go.Shelf
theorem Pm (w:Wk) (b:Nat) (W:World):(method 523 w.ty (Qb b) "Done").run prog W=.ok (w.jI,Qb b) W:=by cases w <;> kernel_rfl
theorem Vi (w:Wk) (args:Array Value) (W:World):(callFunc w.jI args).run prog W=.ok (.enter w.jI args) W:=by cases w <;> kernel_rfl
section
variable {L:Lay} {sb:Nat} {S:SvS} {N:Nat} {g gJ:List ak}
theorem Ud (hj:Jb L S.all gJ) {a:Nat} {j:J2} (hk:S.all[a]?=some j):Qa prog j.w.jI #[Qb j.kb] [gJ] fun e gs=>∃ eu,e=WM (.bool j.w.done)/\Jb L S.all eu/\gs=[eu]:=by
 refine (xm (rest:=[]) (R:=fun e a' bT=>a'=j/\e=WM (.bool j.w.done)/\bT=[]) hj hk (fun ga hga=>(q56 hga).does.mono ?_)).mono ?_
 ·rintro e gs ⟨rfl,rfl⟩
  exact ⟨j,ga,[],⟨rfl,rfl,rfl⟩,hga,rfl⟩
 ·rintro e gs ⟨a',g',bT,⟨rfl,rfl,rfl⟩,h3,rfl⟩
  rw [q9 hk] at h3;exact ⟨g',rfl,h3,rfl⟩
theorem qtn:Qa prog 119 #[.nilIface] [gJ] fun e gs=>e=WM (.bool false)/\gs=[gJ]:=by
 have hnq:=M9;refine GO fun w HT=>?_
 go_enter func119,ntmps119
 go_wp2
 all_goals (first | (go_ret;exact ⟨_,⟨rfl,rfl⟩,HT⟩) | (refine ⟨fun _ _=>trivial,?_⟩;go_wp2;go_ret;exact ⟨_,⟨rfl,rfl⟩,HT⟩))
theorem qto (hj:Jb L S.all gJ) {a:Nat} {j:J2} (hk:S.all[a]?=some j):Qa prog 119 #[.iface j.w.ty (Qb j.kb)] [gJ] fun e gs=>∃ eu,e=WM (.bool (!j.w.done))/\Jb L S.all eu/\gs=[eu]:=by
 have HD:=Vh (Ud hj hk);have hnq:=Ni j.w;have hmt:=Pm j.w;have hcl:=Vi j.w;obtain ⟨d,hd⟩:∃ d,j.w.done=d:=⟨_,rfl⟩;obtain ⟨H9,hty⟩:∃ y,j.w.ty=y:=⟨_,rfl⟩;obtain ⟨fV,jA⟩:∃ y,j.w.jI=y:=⟨_,rfl⟩;rw [hd,jA] at HD;rw [hty,jA] at hmt;rw [hty] at hnq;rw [jA] at hcl;rw [hd,hty];refine GO fun w HT=>?_
 clear hj hk hd hty jA;go_enter func119,ntmps119
 go_wp2_with fail
 refine Qa.run HD HT [0] ?_
 rintro e w1 gs ⟨eu,rfl,hj',rfl⟩ HT;simp only [PU] at HT;have lQ:=Vh hj';clear hj';go_wp2
 go_ret
 exact ⟨_,⟨eu,rfl,lQ,rfl⟩,HT⟩
def xA (S:SvS):Option Nat->Bool
 | none=>false
 | some a=>!(S.ah a).w.done
def SvS.aX (S:SvS):Bool:=S.own.any (xA S)
theorem Sn {S:SvS} {k:Nat} {o:Option Nat} (h:S.own[k]?=some o) (h1:(S.own.take k).any (xA S)=false) (h2:xA S o=false):(S.own.take (k+1)).any (xA S)=false:=by
 obtain ⟨a,b⟩:=XA.1 h;rw [XD a,List.any_append,h1,b];simp [h2]
theorem q0x {S:SvS} {k:Nat} {o:Option Nat} (h:S.own[k]?=some o) (h2:xA S o=true):S.aX=true:=List.any_eq_true.2 ⟨o,XB h,h2⟩
theorem q69 (hn:dV N S) (hj:Jb L S.all gJ) {vo:Value} {go:List ak} (hro:Q1 205 1 vo S.own.length (S.os.map lW) go):Qa prog 166 #[vo,.func (.func 119) #[] #[]] [gJ,go] fun e gs =>
 ∃ r eu,e=WM (WL WK r)/\decide (0<=r)=S.aX/\Jb L S.all eu/\gs=[eu,go]:=by
 obtain ⟨av,cap,rfl⟩:=Q1.val hro;have vZ:=Vh hn;have wu:=Vh hro;have HJ:=Vh hj;have hol:=hn.ol;refine GO fun w HT=>?_
 clear hn hj hro;go_enter func166,ntmps166
 go_wp2_with fail
 go_loopw [8] (fun i wr=>∃ (k:Nat) (iE:List ak),k<=S.own.length/\i=WL WK k/\Jb L S.all iE/\(S.own.take k).any (xA S)=false/\TG [gJ,go] w [iE,go] wr) (fun i _=>S.own.length+1 - (intOf i).toNat)
 case atStart=>exact ⟨0,gJ,by omega,rfl,HJ,rfl,HT⟩
 case round =>
  obtain ⟨k,iE,hk,rfl,hj1,hno,T⟩:=hrel;clear HJ;by_cases hkl:k<S.own.length
  ·obtain ⟨o,ho⟩:∃ o,S.own[k]?=some o:=⟨_,WY hkl⟩
   obtain ⟨b,cp,hv,hb⟩:=xu wu T 1 rfl (by simp) (k:=k) (x:=lW (o.map fun a=>((S.ah a).w,(S.ah a).kb))) (by unfold SvS.os;rw [WT,WT,ho];rfl);obtain ⟨rfl,rfl⟩:av=some ⟨b,0,none⟩/\cap=cp:=by cases hv;exact ⟨rfl,rfl⟩
   have HT:=Vh T;have HO:=Vh ho;have yI:=Vh hno;cases o with
   | none =>
     change _=some Value.nilIface at hb
     have HC:=Vh (qtn (gJ:=iE));have I1:=Vh hj1;clear hv T ho hno hj1;go_wp2_with fail
     refine Qa.run HC HT [0] ?_
     rintro e w1 gs ⟨rfl,rfl⟩ HT;simp only [PU] at HT;have yH:=Vh (Sn HO yI rfl);clear hb;go_wp2
     first | go_roundw | refine ⟨?rel,?measure⟩ | ((repeat apply YI);refine ⟨⟨?rel,rfl⟩,?measure⟩)
     case rel=>exact ⟨k+1,iE,by omega,by go_num,I1,yH,HT⟩
     case measure=>simp [intOf];omega
   | some a =>
     have hka:=Xj (vZ.own a (XB ho));change _=some (YC (S.ah a).w.ty (Qb (S.ah a).kb)) at hb
     have HC:=Vh (qto hj1 hka);cases hd:(S.ah a).w.done with
     | true =>
       rw [hd] at HC;have yH:=Vh (Sn HO yI (show (!(S.ah a).w.done)=false by rw [hd];rfl));clear hv T ho hno hj1 hka hd;go_wp2_with fail
       refine Qa.run HC HT [0] ?_
       rintro e w1 gs ⟨ko,rfl,hj2,rfl⟩ HT;simp only [PU] at HT;have HJ2:=Vh hj2;clear hb hj2;go_wp2
       first | go_roundw | refine ⟨?rel,?measure⟩ | ((repeat apply YI);refine ⟨⟨?rel,rfl⟩,?measure⟩)
       case rel=>exact ⟨k+1,ko,by omega,by go_num,HJ2,yH,HT⟩
       case measure=>simp [intOf];omega
     | false =>
       rw [hd] at HC;have HB:=Vh (q0x HO (show (!(S.ah a).w.done)=true by rw [hd];rfl));clear hv T ho hno hj1 hka hd;go_wp2_with fail
       refine Qa.run HC HT [0] ?_
       rintro e w1 gs ⟨ko,rfl,hj2,rfl⟩ HT;simp only [PU] at HT;have HJ2:=Vh hj2;clear hb hj2;go_wp2
       go_ret
       exact ⟨_,⟨_,ko,rfl,by rw [HB.out];exact decide_eq_true (by omega),HJ2,rfl⟩,HT⟩
  ·obtain rfl:k=S.own.length:=by omega
   rw [List.take_length] at hno;have HB:=Vh (show S.aX=false from hno);have I1:=Vh hj1;have HT:=Vh T;clear T hno hj1;go_wp2
   go_ret
   exact ⟨_,⟨_,iE,rfl,by rw [HB.out];rfl,I1,rfl⟩,HT⟩
theorem qu5 (hn:dV N S) (hj:Jb L S.all gJ) {vo:Value} {go:List ak} (hro:Q1 205 1 vo S.own.length (S.os.map lW) go):Qa prog 118 #[vo,.func (.func 119) #[] #[]] [gJ,go] fun e gs =>
 ∃ eu,e=WM (.bool S.aX)/\Jb L S.all eu/\gs=[eu,go]:=by
 have HI:=Vh (q69 hn hj hro);obtain ⟨av,cap,rfl⟩:=Q1.val hro;refine GO fun w HT=>?_
 clear hn hj hro;go_enter func118,ntmps118
 go_wp2_with fail
 refine Qa.run HI HT [0,1] ?_
 rintro e w1 gs ⟨r,eu,rfl,hb,hj',rfl⟩ HT;simp only [PU] at HT;have lQ:=Vh hj';by_cases hr:0<=r
 ·have HB:=Vh (show S.aX=true from hb.symm.trans (decide_eq_true hr))
  clear hb hj';go_wp2
  go_ret
  exact ⟨_,⟨eu,by rw [HB.out];rfl,lQ,rfl⟩,HT⟩
 ·have HB:=Vh (show S.aX=false from hb.symm.trans (decide_eq_false hr))
  clear hb hj';go_wp2
  go_ret
  exact ⟨_,⟨eu,by rw [HB.out];show WM (.bool (decide (0<=r)))=_;rw [decide_eq_false (show ¬ (0<=r) by omega)],lQ,rfl⟩,HT⟩
def SvS.idle (S:SvS):Bool:=!S.aX && Y6 S.aL S.z.p
theorem zae (h:kW L sb S g) (hn:dV N S) (hN:N<999998):Qa prog 55 #[Qb sb] [g] fun e gs=>∃ g',e=WM (.bool S.idle)/\kW L sb S g'/\gs=[g']:=by
 obtain ⟨vo,va,vc,go,ga,gc,gJ,gW,gZ,hr,hi,rfl⟩:=h;obtain ⟨gC,JZ,gP,gL,h1,h2,h3,h4,rfl⟩:=Z1 hi.z;have HC:=Vh (qu5 hn hi.j hr.o);have hcl:=hn.cl;have hrest:=hn.eY.zn.rest;have hroom:=hn.eY.room
 have HCI:=Vh (q1o h1 h3 (by have:=hrest.ch;omega) (by have:=hrest.sp;omega) (v:=vc) (n:=S.aL.length) (gr:=gc) (l:=S.aL) (gW:=gW) (by have:=hr.c;unfold SvS.ps at this;rw [YJ] at this;exact this) hi.w hcl (fun z hz=>by
  rcases (hn.aL z hz).fit with ⟨_,h⟩ | ⟨_,h⟩
  ·rw [h];exact XC _
  ·omega))
 have HR:=Vh hr;have HX:=Vh (WS h2 h4);have jf:=Vh hi;obtain ⟨j4,dW,rfl⟩:=Q1.val hr.o;obtain ⟨qY,jr,rfl⟩:=Q1.val hr.c;refine GO fun w HT=>?_
 have HT:=Vh (HT.out.m [X0 sb L.fb (.slice j4 S.own.length dW) va (.slice qY S.aL.length jr),go,ga,gc,gJ,gW,gC,gP,JZ,gL]);obtain ⟨sv0,jS,mX,mY⟩:=HT.c4 0 0 0 1 2 3;simp only [X0,aC] at sv0 jS mX mY;have jh:=HT.l 0 0;simp only [] at jh;clear hr hi h1 h2 h3 h4 hn hrest hroom;go_enter func55,ntmps55
 go_wp2_with fail
 refine Qa.run HC HT [4,1] ?_
 rintro e w1 gs ⟨ko,rfl,hj2,rfl⟩ HT;simp only [PU] at HT;have HJ2:=Vh hj2;clear hj2 sv0 jS mX mY jh;obtain ⟨sv0,jS,mX,mY⟩:=HT.c4 0 0 0 1 2 3;simp only [X0,aC] at sv0 jS mX mY;have jh:=HT.l 0 0;simp only [] at jh;cases hb:S.aX with
 | true =>
   have HB:=Vh (show S.idle=false from by unfold SvS.idle;rw [hb];rfl);clear hb;go_wp2_with fail
   go_quiet ((fail))
   have HT:=Vh (HT.out.drewN nq);go_wp2
   go_ret
   exact ⟨_,⟨_,by rw [HB.out];rfl,⟨_,_,_,go,ga,gc,ko,gW,_,HR,⟨HJ2,jf.w,jf.z⟩,rfl⟩,rfl⟩,HT.sum⟩
 | false =>
   have HB:=Vh (show S.idle=Y6 S.aL S.z.p from by unfold SvS.idle;rw [hb];rfl);clear hb;go_wp2_with fail
   refine Mx 11 ?_
   simp only [dx]
   repeat (go_big_quiet_step ((fail)))
   refine WZ (QT HT fun nq HT=>?_)
   go_wp2_with fail
   refine Qa.run HCI HT [5,3,6,7] ?_
   rintro e w1 gs ⟨l5,rfl,hw2,rfl⟩ HT;simp only [PU] at HT;have HW2:=Vh hw2;clear hw2;go_wp2_with fail
   refine ⟨rfl,?_⟩
   go_wp2
   go_ret
   exact ⟨_,⟨_,by rw [HB.out];rfl,⟨_,_,_,go,ga,gc,ko,l5,_,HR,⟨HJ2,HW2,jf.z⟩,rfl⟩,rfl⟩,HT.sum⟩
end
theorem Tn:Y2.lv=WQ 4 (WQ 64 []):=by rfl
theorem U9 (P:gI->Prop):fU P Y2:=by
 refine ⟨fun l hl s hs e he=>?_,fun e he=>by cases he⟩
 rw [Tn] at hl;rw [WV hl] at hs;rw [WV hs] at he;cases he
theorem q3p:ym 0 Y2:=⟨⟨by decide,fun l hl=>by
 rw [Tn] at hl
 rw [WV hl,WU]⟩,by decide,by decide,U9 _⟩
theorem zce (c:Cfg) (hk:c.ok=true):ZN 0 (xD c)/\K9 (xD c).ws/\(xD c).x.au.length<=4:=by
 obtain ⟨h1,h2,h3,h4,h5,h6⟩:=Cfg.bd hk;have hrep:∀ w∈(xD c).ws,w=Y2:=fun w hw=>WV hw
 have hsh:∀ s∈(xD c).x.au,s=Qp c.ring.toNat:=fun s hs=>WV hs
 refine ⟨⟨q5t hk,⟨⟨XG 0,XG 0⟩,⟨XG 0,XG 0⟩,?_,?_,fun w hw=>by rw [hrep w hw];exact q3p,fun s hs e he=>?_,fun s hs=>by rw [hsh s hs];exact ⟨XG 0,XG 0⟩,XC _,XC _⟩,XX _⟩,fun w hw=>by rw [hrep w hw];exact U9 _,?_⟩
 ·show c.cap=((WQ c.cap.toNat Rec.zero).length:Int)
  rw [WU];omega
 ·show (WQ _ _).length=(WQ _ _).length
  rw [WU,WU]
 ·rw [hsh s hs] at he
  simp [Qp,Jj] at he
  obtain ⟨i,_,rfl⟩:=he;exact KQ
 ·show (WQ _ _).length<=4
  rw [WU];omega
def sv0 (c:Cfg) (ws:List dz):SvS:=⟨xD c,WQ (c.cO.toNat+1) none,[],ws⟩
theorem zb1 (c:Cfg) (hk:c.ok=true) {ws:List dz} (hl:ws.length=c.wk.toNat) (hw:∀ z∈ws,BU z):dV 0 (sv0 c ws):=by
 obtain ⟨h1,h2,h3⟩:=zce c hk;obtain ⟨b1,b2,b3,b4,b5,b6⟩:=Cfg.bd hk;refine ⟨⟨h1,h2,h3,?_⟩,(fun j hj=>by cases hj),fun z hz=>mP.new (hw z hz),fun k hk'=>?_,?_,?_,XX _,(fun a j h=>by cases h)⟩
 ·show c.room.toNat<=1000
  omega
 ·have:=WV hk'
  cases this
 ·show 1<=(WQ _ _).length/\(WQ _ _).length<=1000
  rw [WU];omega
 ·show ws.length<=1000
  omega
def Xs (th no:Int) (c:Q4):Wk:=if c.kind=7 then .turn firstT (qQ th no) else if c.kind=6 then .dL H6 (oZ th no) else .call (q7 c.kind) (ku th no c)
def xW (th no:Int) (c:Q4):EvS:=if c.kind=7 then lq (qQ th no) { bO with kind:=1 } else if c.kind=6 then pM (oZ th no) { bO with kind:=1 } else (ku th no c).ev { bO with kind:=1,id:=c.id,dl:=c.dl,per:=c.per }
def qL (e:EvS) (x:Qi):Qi:={ x with tr:=x.tr++[e] }
def SvS.dA (S:SvS) (i:Nat):Bool:=match S.own.getD i none with
 | some a=>!(S.ah a).w.done
 | none=>false
def SvS.bZ (S:SvS) (th:Int) (c:Q4):Int :=
 if th<0\/(S.own.length:Int)<=th then 4
 else if decide (th=(S.own.length:Int) - 1)≠decide (c.kind=7) then 1
 else if S.dA th.toNat=true/\1<=c.kind/\c.kind<=7 then 10
 else if c.kind<1\/7<c.kind then 1 else 0
def SvS.dB (S:SvS) (kb:Nat) (th:Int) (c:Q4):SvS :=
 { S with own:=S.own.set th.toNat (some S.all.length),all:=S.all++[⟨kb,0,Xs th (S.all.length+1) c⟩],z:={ S.z with x:=qL (xW th (S.all.length+1) c) S.z.x } }
def SvS.cr (S:SvS) (kb:Nat) (th:Int) (c:Q4):SvS:=if S.bZ th c=0 then S.dB kb th c else S
def SvS.eB (S:SvS) (th:Int) (c:Q4):Int:=if S.bZ th c=0 then S.all.length+1 else 0
structure Nu (S:SvS) (th:Int) (c:Q4):Prop where
 Vx:0<=th
 Vy:th<S.own.length
 dr:(th=(S.own.length:Int) - 1)↔c.kind=7
 busy:S.dA th.toNat=false
 k1:1<=c.kind
 k7:c.kind<=7
theorem GL {S:SvS} {th:Int} {c:Q4} (h:S.bZ th c=0):Nu S th c:=by
 unfold SvS.bZ at h;split at h
 ·cases h
 ·next h1 =>
  split at h
  ·cases h
  ·next h2 =>
   split at h
   ·cases h
   ·next h3 =>
    split at h
    ·cases h
    ·next h4 =>
     refine ⟨by omega,by omega,?_,?_,by omega,by omega⟩
     ·have h2:=Decidable.not_not.1 h2
      exact decide_eq_decide.1 h2
     ·cases hb:S.dA th.toNat with
      | false=>rfl
      | true=>exact absurd ⟨hb,by omega,by omega⟩ h3
theorem Sj {S:SvS} {l:List J2} {a:Nat} (h:a<S.all.length):(S.all++l).getD a yc=S.ah a:=by
 unfold SvS.ah;rw [WR,XO h,<- WR]
theorem q1x {N:Nat} {th no:Int} {c:Q4} (hc:c.wf) {x:Qi} (h0:0<=th) (h1:th<=1000000):oV N (Xs th no c) x:=by
 unfold Xs;split
 ·refine ⟨⟨h0,⟨by show (0:Int)<=0;omega,by show (0:Int) < _;omega,by show okW 0=true;decide⟩,KQ,XC _,(fun t ht=>by cases ht),fun i hi=>by cases hi⟩,.inr h1,h1⟩
 ·split
  ·exact ⟨⟨by show (0:Int)<=0;omega,by show (0:Int) < _;omega,by show okW 0=true;decide⟩,XC _,rfl⟩
  ·exact ⟨q9h hc th no _,qw5 _ _,⟨by show (0:Int)<=0;omega,by show (0:Int)<=_;omega⟩⟩
theorem q8q {N:Nat} {z:ZF} (h:mh N z) (e:EvS):mh (N+1) { z with x:=qL e z.x }:=by
 have hr:=h.zn.rest.mono (M:=N+1) (by omega);exact ⟨⟨Gi h.zn.core _,⟨hr.now,hr.busy,hr.cap,hr.wl,hr.kE,hr.task,hr.turns,hr.ch,hr.sp⟩,by have:=h.zn.lg;show z.lg.length<=_;omega⟩,h.ws,h.iG,h.room⟩
theorem qpd (th no:Int) (c:Q4):(Xs th no c).isTurn=decide (c.kind=7):=by
 unfold Xs;split
 ·next h=>simp [h,Wk.isTurn]
 ·next h =>
  split <;> simp [h,Wk.isTurn]
theorem q5i {N:Nat} {S:SvS} {th:Int} {c:Q4} (hn:dV N S) (ho:Nu S th c) (hc:c.wf) (kb:Nat):dV (N+1) (S.dB kb th c):=by
 have hol:=hn.ol;have h0:=ho.Vx;have h1:=ho.Vy;obtain ⟨t,rfl⟩:∃ t:Nat,th=(t:Int):=⟨th.toNat,by omega⟩;have htn:((t:Int)).toNat=t:=by omega
 have hkg:Gf S.z.x (qL (xW t (S.all.length+1) c) S.z.x):=⟨rfl,rfl⟩;refine ⟨q8q hn.eY _,fun j hj=>?_,fun c hc=>(hn.aL c hc).mono (by omega),fun k hk=>?_,?_,hn.cl,?_,fun a j ha hj hd=>?_⟩
 ·rcases YE.1 hj with hj | hj
  ·obtain ⟨a1,a2,a3⟩:=hn.fe j hj
   exact ⟨(a1.mono (M:=N+1) (by omega)).frame hkg (fun _=>.inl fun _=>rfl),a2,by omega⟩
  ·rw [YA.1 hj]
   exact ⟨q1x hc h0 (by omega),XG _,by show (0:Int)<=_;omega⟩
 ·show k<(S.all++[_]).length
  rw [XK];simp only [YD,YF];rcases List.mem_or_eq_of_mem_set hk with hk | hk
  ·have:=hn.own k hk;omega
  ·cases hk;omega
 ·show 1<=(S.own.set _ _).length/\(S.own.set _ _).length<=1000
  rw [XV];exact hol
 ·show (S.all++[_]).length<=_
  have:=hn.al;rw [XK];simp only [YD,YF];omega
 ·have e1:(S.dB kb t c).own=S.own.set t (some S.all.length):=by
   show S.own.set ((t:Int)).toNat _=_
   rw [htn]
  rw [e1,XV,List.getElem?_set];have ha':(S.all++[⟨kb,0,Xs t (S.all.length+1) c⟩])[a]?=some j:=ha;rcases Nat.lt_or_ge a S.all.length with hlt | hge
  ·rw [XO hlt] at ha'
   have hown:=hn.turn a j ha' hj hd;split
   ·next heq =>
    exfalso
    have hb:=ho.busy;rw [htn] at hb;unfold SvS.dA at hb;rw [WR,heq,hown] at hb
    have hja:S.ah a=j:=by
     have:=Xj hlt;rw [ha'] at this;exact (YG this).symm
    simp only [Option.getD_some,hja,hd] at hb;cases hb
   ·exact hown
  ·rw [XL hge] at ha'
   obtain ⟨hz,rfl⟩:a - S.all.length=0/\j=⟨kb,0,Xs t (S.all.length+1) c⟩:=by
    cases h9:a - S.all.length with
    | zero=>rw [h9] at ha';exact ⟨rfl,(YG ha').symm⟩
    | succ m=>rw [h9] at ha';cases ha'
   have hk7:c.kind=7:=by
    have:(Xs (t:Int) (S.all.length+1) c).isTurn=true:=hj;rw [qpd] at this;exact of_decide_eq_true this
   have htl:=ho.dr.2 hk7;have e2:t=S.own.length - 1:=by omega
   have e3:a=S.all.length:=by omega
   rw [if_pos e2,if_pos (by omega),e3]
theorem UI {N:Nat} {S:SvS} (hn:dV N S) {c:Q4} (hc:c.wf) (kb:Nat) (th:Int):dV (N+1) (S.cr kb th c):=by
 unfold SvS.cr;split
 ·next h=>exact q5i hn (GL h) hc kb
 ·exact hn.mono (by omega)
theorem q04 {N:Nat} {S:SvS} {th:Int} {c:Q4} (hn:dV N S) (kb:Nat):(S.dB kb th c).os=S.os.set th.toNat (some (Xs th (S.all.length+1) c,kb)):=by
 show (S.own.set th.toNat (some S.all.length)).map _=(S.own.map _).set _ _
 rw [XP]
 have e1:(Option.map (fun a=>(((S.dB kb th c).ah a).w,((S.dB kb th c).ah a).kb)) (some S.all.length))=some (Xs th (S.all.length+1) c,kb):=by
  have:(S.dB kb th c).ah S.all.length=⟨kb,0,Xs th (S.all.length+1) c⟩:=by
   show (S.all++[_]).getD S.all.length yc=_
   rw [WR,XL (XX _),Nat.sub_self];rfl
  exact congrArg (fun j:J2=>some (j.w,j.kb)) this
 rw [e1];congr 1
 refine List.map_congr_left fun o ho=>?_
 cases o with
 | none=>rfl
 | some a =>
   have:(S.dB kb th c).ah a=S.ah a:=Sj (hn.own a ho);exact congrArg (fun j:J2=>some (j.w,j.kb)) this
section
variable {L:Lay} {sb:Nat} {S:SvS} {N:Nat} {vo va vc:Value} {go ga gc gJ gW gZ:List ak}
def Ih (L:Lay) (sb:Nat) (S:SvS) (vo va vc:Value) (go:List ak) (th:Int) (c:Q4) (e:Ending) (gs:GH):Prop :=
 (∃ kb gN eu cu,S.bZ th c=0/\e=WM (WO #[.iface (Xs th (S.all.length+1) c).ty (Qb kb),WL WK 0])/\oL L kb 0 (Xs th (S.all.length+1) c) gN/\Jb L S.all eu/\fu L { S.z with x:=qL (xW th (S.all.length+1) c) S.z.x } cu/\gs=[X0 sb L.fb vo va vc,go,eu,cu,gN]) \/
 (∃ v eu cu,S.bZ th c≠0/\e=WM (WO #[v,WL WK (S.bZ th c)])/\Jb L S.all eu/\fu L S.z cu/\gs=[X0 sb L.fb vo va vc,go,eu,cu])
theorem BK {t:Nat} {c:Q4} (h1:t<S.own.length) (hd:decide ((t:Int)=(S.own.length:Int) - 1)=decide (c.kind=7)) (hb:S.dA t=false) (hk:1<=c.kind/\c.kind<=7):S.bZ t c=0:=by
 unfold SvS.bZ;rw [if_neg (by omega),if_neg (by rw [hd];simp),if_neg (by rw [XH,hb];simp),if_neg (by omega)]
theorem q5e {t:Nat} {c:Q4} (h1:t<S.own.length) (hd:decide ((t:Int)=(S.own.length:Int) - 1)≠decide (c.kind=7)):S.bZ t c=1:=by
 unfold SvS.bZ;rw [if_neg (by omega),if_pos hd]
theorem q00 {t:Nat} {c:Q4} (h1:t<S.own.length) (hd:decide ((t:Int)=(S.own.length:Int) - 1)=decide (c.kind=7)) (hb:S.dA t=true) (hk:1<=c.kind/\c.kind<=7):S.bZ t c=10:=by
 unfold SvS.bZ;rw [if_neg (by omega),if_neg (by rw [hd];simp),if_pos ⟨by rw [XH];exact hb,hk⟩]
theorem G4 {t:Nat} {c:Q4} (h1:t<S.own.length) (hd:decide ((t:Int)=(S.own.length:Int) - 1)=decide (c.kind=7)) (hk:c.kind<1\/7<c.kind):S.bZ t c=1:=by
 unfold SvS.bZ;rw [if_neg (by omega),if_neg (by rw [hd];simp),if_neg (by omega),if_pos hk]
theorem TX {th no:Int} {c:Q4} (h:c.kind=7):Xs th no c=.turn firstT (qQ th no)/\xW th no c=lq (qQ th no) { bO with kind:=1 }:=⟨if_pos h,if_pos h⟩
theorem TW {th no:Int} {c:Q4} (h:c.kind=6):Xs th no c=.dL H6 (oZ th no)/\xW th no c=pM (oZ th no) { bO with kind:=1 }:=by
 have h7:¬ c.kind=7:=by omega
 exact ⟨(if_neg h7).trans (if_pos h),(if_neg h7).trans (if_pos h)⟩
theorem TV {th no:Int} {c:Q4} (h:c.kind<=5):Xs th no c=.call (q7 c.kind) (ku th no c)/\xW th no c=(ku th no c).ev { bO with kind:=1,id:=c.id,dl:=c.dl,per:=c.per }:=by
 have h7:¬ c.kind=7:=by omega
 have h6:¬ c.kind=6:=by omega
 exact ⟨(if_neg h7).trans (if_neg h6),(if_neg h7).trans (if_neg h6)⟩
theorem Po (hz:fu L S.z gZ) (hn:S.z.x.tr.length<=1000000) (th no:Int) (hth:0<=th):Qa prog 43 #[Qb L.fb,WL WK th,WL WK no] [gZ] fun en gs =>
 ∃ kb g cu,en=WM (WO #[Qb kb,WL WK 0])/\oL L kb 0 (.turn firstT (qQ th no)) g/\fu L { S.z with x:=qL (lq (qQ th no) { bO with kind:=1 }) S.z.x } cu/\gs=[g,cu]:=by
 obtain ⟨gT,gL,h1,h2,rfl⟩:=hz;intro w hw;have h2':Yc ([gT]++[gL]) w:=hw.re (by simp);refine (qzx h1 hn th no hth w h2'.left).mono ?_
 rintro e w' ⟨gs,⟨kb,g,aI,rfl,a,b,rfl⟩,T⟩;exact ⟨_,⟨kb,g,aI++gL,rfl,a,⟨aI,gL,b,h2,rfl⟩,rfl⟩,((T.frame h2').eq (by simp)).base (by simp)⟩
theorem q32 (hz:fu L S.z gZ) (hn:S.z.x.tr.length<=1000000) (th no:Int):Qa prog 47 #[Qb L.fb,WL WK th,WL WK no] [gZ] fun en gs =>
 ∃ kb g cu,en=WM (WO #[Qb kb,WL WK 0])/\oL L kb 0 (.dL H6 (oZ th no)) g/\fu L { S.z with x:=qL (pM (oZ th no) { bO with kind:=1 }) S.z.x } cu/\gs=[g,cu]:=by
 obtain ⟨gC,gW,gP,gL,h1,h2,h3,h4,rfl⟩:=Z1 hz;intro w hw
 have h2':Yc ([gC++gP]++[gW++gL]) w:=hw.re (by
  classical
  refine XI.2 fun x=>?_
  simp only [XJ,XM,XQ,XW,XN]
  omega)
 refine (q09 ⟨gC,gP,h1,h3,rfl⟩ hn th no w h2'.left).mono ?_
 rintro e w' ⟨gs,⟨kb,g,aI,rfl,a,⟨iZ,AX,b1,b2,rfl⟩,rfl⟩,T⟩;refine ⟨_,⟨kb,g,_,rfl,a,qD (z:={ S.z with x:=qL (pM (oZ th no) { bO with kind:=1 }) S.z.x }) b1 h2 b2 h4,rfl⟩,((T.frame h2').re ?_).dG ?_⟩
 ·classical
  refine XI.2 fun x=>?_
  simp only [XJ,XM,XQ,XW,XN];omega
 ·classical
  refine XI.2 fun x=>?_
  simp only [XJ,XM,XQ,XW,XN];omega
theorem Pn (hz:fu L S.z gZ) (hn:S.z.x.tr.length<=1000000) (th no:Int) (c:Q4) (h1:1<=c.kind) (h5:c.kind<=5):Qa prog 15 #[Qb L.fb,WL WK th,WL WK no,.agg c.cells] [gZ] fun en gs =>
 ∃ kb g cu,en=WM (WO #[Qb kb,WL WK 0])/\oL L kb 0 (.call (q7 c.kind) (ku th no c)) g/\fu L { S.z with x:=qL ((ku th no c).ev { bO with kind:=1,id:=c.id,dl:=c.dl,per:=c.per }) S.z.x } cu/\gs=[g,cu]:=by
 obtain ⟨gC,gW,gP,gL,k1,k2,k3,k4,rfl⟩:=Z1 hz;intro w hw;have h2':Yc ([gC]++[gW++(gP++gL)]) w:=hw.re (by simp);refine (qwg k1 hn th no c h1 h5 w h2'.left).mono ?_
 rintro e w' ⟨gs,⟨kb,g,iZ,rfl,a,b,rfl⟩,T⟩;exact ⟨_,⟨kb,g,_,rfl,a,qD (z:={ S.z with x:=qL ((ku th no c).ev { bO with kind:=1,id:=c.id,dl:=c.dl,per:=c.per }) S.z.x }) b k2 k3 k4,rfl⟩,((T.frame h2').eq (by simp)).base (by simp)⟩
theorem GK (hz:fu L S.z gZ) (th no:Int) (c:Q4) (h:c.kind<1\/5<c.kind):Qa prog 15 #[Qb L.fb,WL WK th,WL WK no,.agg c.cells] [gZ] fun en gs =>
 en=WM (WO #[XF none,WL WK 1])/\gs=[gZ]:=by
 obtain ⟨gC,gW,gP,gL,k1,k2,k3,k4,rfl⟩:=Z1 hz;intro w hw;have h2':Yc ([gC]++[gW++(gP++gL)]) w:=hw.re (by simp);refine (qko k1 th no c h w h2'.left).mono ?_
 rintro e w' ⟨gs,⟨rfl,rfl⟩,T⟩;exact ⟨_,⟨rfl,rfl⟩,((T.frame h2').eq (by simp)).base (by simp)⟩
theorem qwe (hn:dV N S) (hN:N<999998) (hr:zi L sb S vo va vc go ga gc) (hi:mr L S gJ gW gZ) {t:Nat} (ht:t<S.own.length) (c:Q4)
 (hd:decide ((t:Int)=(S.own.length:Int) - 1)≠decide (c.kind=7)):Qa prog 163 #[Qb sb,WL WK t,WL WK (S.all.length+1),.agg c.cells] [X0 sb L.fb vo va vc,go,gJ,gZ] (Ih L sb S vo va vc go t c):=by
 have HE:=Vh (q5e ht hd);obtain ⟨j4,dW,rfl⟩:=Q1.val hr.o;have HJ:=Vh hi.j;have HZ:=Vh hi.z;have htr:S.z.x.tr.length<=1000000:=by have:=hn.eY.zn.core.tr;omega
 have hol:=hn.ol;have hno:((S.all.length:Int)+1)=((S.all.length:Int)+1):=rfl;obtain ⟨NO,j6⟩:∃ x,((S.all.length:Int)+1)=x:=⟨_,rfl⟩;have wu:=Vh hr.o;refine GO fun w HT=>?_
 obtain ⟨sv0,jS⟩:=HT.c2 0 0 0 1;simp only [X0,aC] at sv0 jS;have jh:=HT.l 0 0;simp only [] at jh;obtain ⟨o,ho⟩:∃ o,S.own[t]?=some o:=⟨_,WY ht⟩;obtain ⟨rb,cp,hv,hcell⟩:=xu wu HT 1 rfl (by simp) (k:=t) (x:=lW (o.map fun a=>((S.ah a).w,(S.ah a).kb))) (by unfold SvS.os;rw [WT,WT,ho];rfl);obtain ⟨rfl,rfl⟩:j4=some ⟨rb,0,none⟩/\dW=cp:=by cases hv;exact ⟨rfl,rfl⟩
 have bI:rb<w.heap.size:=by
  obtain ⟨b',c',cur,hv',hg',_⟩:=wu.open (by omega);cases hv'
  have:=HT.lt 1 0 (p:=(rb,.cells cur 205)) (by show go[0]?=_;rw [hg'];rfl);exact this
 clear hv;obtain ⟨kd,id,dl,per⟩:=c;simp only at hd;have q1:((t:Int) == (S.own.length:Int) - 1)=decide ((t:Int)=(S.own.length:Int) - 1):=rfl;have q2:(kd == 7)=decide (kd=7):=rfl;cases b1:decide ((t:Int)=(S.own.length:Int) - 1) <;> cases b2:decide (kd=7) <;> rw [b1] at q1 hd <;> rw [b2] at q2 hd
 ·exact absurd rfl hd
 ·clear hr hi hn hd b1 b2
  simp only [Q4.cells];rw [j6];go_enter func163,ntmps163
  go_wp2
  go_ret2
  exact ⟨_,.inr ⟨.nilIface,gJ,gZ,by rw [HE.out];decide,by rw [HE.out];rfl,HJ,HZ,rfl⟩,HT.aN _⟩
 ·clear hr hi hn hd b1 b2
  simp only [Q4.cells];rw [j6];go_enter func163,ntmps163
  go_wp2
  go_ret2
  exact ⟨_,.inr ⟨.nilIface,gJ,gZ,by rw [HE.out];decide,by rw [HE.out];rfl,HJ,HZ,rfl⟩,HT.aN _⟩
 ·exact absurd rfl hd
end
section
variable {L:Lay} {sb:Nat} {S:SvS} {N:Nat} {vo va vc:Value} {go ga gc gJ gW gZ:List ak}
theorem q0v {t n kd:Int} (h:decide (t=n)=decide (kd=7)):((1<=kd/\kd<=7)/\(t == n)=true/\(kd == 7)=true)\/((t == n)=false/\(kd == 7)=false /\
 (((1<=kd/\kd<=7)/\(kd == 6)=true)\/((kd == 6)=false/\(((1<=kd/\kd<=7)/\kd<=5)\/kd<1\/(kd ≥ 1/\7<kd))))):=by
 have e:(t == n)=decide (t=n):=rfl;rw [e,h];by_cases h7:kd=7
 ·subst h7;exact .inl ⟨by decide,rfl,rfl⟩
 ·refine .inr ⟨decide_eq_false h7,beq_eq_false_iff_ne.2 h7,?_⟩
  by_cases h6:kd=6
  ·subst h6;exact .inl ⟨by decide,rfl⟩
  ·refine .inr ⟨beq_eq_false_iff_ne.2 h6,?_⟩
   omega
theorem q5d (hn:dV N S) (hN:N<999998) (hr:zi L sb S vo va vc go ga gc) (hi:mr L S gJ gW gZ) {t:Nat} (ht:t<S.own.length) (kd id dl per:Int)
 (hdd:decide ((t:Int)=(S.own.length:Int) - 1)=decide (kd=7)):Qa prog 163 #[Qb sb,WL WK t,WL WK (S.all.length+1),.agg (Q4.cells ⟨kd,id,dl,per⟩)] [X0 sb L.fb vo va vc,go,gJ,gZ] (Ih L sb S vo va vc go t ⟨kd,id,dl,per⟩):=by
 obtain ⟨j4,dW,rfl⟩:=Q1.val hr.o;have HJ:=Vh hi.j;have HZ:=Vh hi.z;have htr:S.z.x.tr.length<=1000000:=by have:=hn.eY.zn.core.tr;omega
 have hol:=hn.ol;obtain ⟨NO,j6⟩:∃ x,((S.all.length:Int)+1)=x:=⟨_,rfl⟩;have wu:=Vh hr.o;refine GO fun w HT=>?_
 obtain ⟨sv0,jS⟩:=HT.c2 0 0 0 1;simp only [X0,aC] at sv0 jS;have jh:=HT.l 0 0;simp only [] at jh;obtain ⟨o,ho⟩:∃ o,S.own[t]?=some o:=⟨_,WY ht⟩;obtain ⟨rb,cp,hv,hcell⟩:=xu wu HT 1 rfl (by simp) (k:=t) (x:=lW (o.map fun a=>((S.ah a).w,(S.ah a).kb))) (by unfold SvS.os;rw [WT,WT,ho];rfl);obtain ⟨rfl,rfl⟩:j4=some ⟨rb,0,none⟩/\dW=cp:=by cases hv;exact ⟨rfl,rfl⟩
 have bI:rb<w.heap.size:=by
  obtain ⟨b',c',cur,hv',hg',_⟩:=wu.open (by omega);cases hv'
  have:=HT.lt 1 0 (p:=(rb,.cells cur 205)) (by show go[0]?=_;rw [hg'];rfl);exact this
 clear hv;have sj:=Vh hdd;have hks:=q0v hdd;clear hdd;cases o with
 | none =>
   have hb:S.dA t=false:=by unfold SvS.dA;rw [WR,ho];rfl
   have hnq:=M9;change _=some Value.nilIface at hcell
   have lQ:=HJ;have vV:=Vh hb;clear hb;rcases hks with ⟨c17,q1,q2⟩ | ⟨q1,q2,⟨c17,q3⟩ | ⟨q3,⟨c17,h5⟩ | h1 | ⟨q4,h1⟩⟩⟩
   all_goals
    clear hr hi hn ho;simp only [Q4.cells];rw [j6];have HT:=Vh (HT.out.a 38 #[WL WK kd,WL WN id,WL WN dl,WL WN per]);obtain ⟨W0,hW0⟩:∃ W0,W0=w.alloc (.cells #[WL WK kd,WL WN id,WL WN dl,WL WN per] 38):=⟨_,rfl⟩;go_enter func163,ntmps163
   ·have h7:=eq_of_beq q2
    have HE:=Vh (BK (c:=⟨kd,id,dl,per⟩) ht sj vV c17);have HF:=Vh (TX (th:=(t:Int)) (no:=NO) (c:=⟨kd,id,dl,per⟩) h7);have jm:=Vh (Po HZ htr (t:Int) NO (by omega));clear h7 c17;go_wp2_with fail
    refine Qa.run jm HT [3] ?_
    rintro e w1 gs ⟨kb,gN,cu,rfl,hjn,hz',rfl⟩ HT;simp only [PU] at HT;have HX:=Vh (WS hjn hz');clear hjn hz';skip
    go_wp2
    go_ret2
    exact ⟨_,.inl ⟨kb,gN,_,cu,HE,by rw [j6,HF.out.1];rfl,by rw [j6,HF.out.1];exact HX.1,lQ,by rw [j6,HF.out.2];exact HX.2,rfl⟩,HT.p [0,1,2,5,3]⟩
   ·have h6:=eq_of_beq q3
    have HE:=Vh (BK (c:=⟨kd,id,dl,per⟩) ht sj vV c17);have HF:=Vh (TW (th:=(t:Int)) (no:=NO) (c:=⟨kd,id,dl,per⟩) h6);have jm:=Vh (q32 HZ htr (t:Int) NO);clear h6 c17;go_wp2_with fail
    refine Qa.run jm HT [3] ?_
    rintro e w1 gs ⟨kb,gN,cu,rfl,hjn,hz',rfl⟩ HT;simp only [PU] at HT;have HX:=Vh (WS hjn hz');clear hjn hz';skip
    go_wp2
    go_ret2
    exact ⟨_,.inl ⟨kb,gN,_,cu,HE,by rw [j6,HF.out.1];rfl,by rw [j6,HF.out.1];exact HX.1,lQ,by rw [j6,HF.out.2];exact HX.2,rfl⟩,HT.p [0,1,2,5,3]⟩
   ·have HE:=Vh (BK (c:=⟨kd,id,dl,per⟩) ht sj vV c17)
    have HF:=Vh (TV (th:=(t:Int)) (no:=NO) (c:=⟨kd,id,dl,per⟩) h5);have jm:=Vh (Pn HZ htr (t:Int) NO ⟨kd,id,dl,per⟩ c17.1 h5);simp only [Q4.cells] at jm;clear h5 c17;go_wp2_with fail
    refine Mx 7 ?_
    simp only [dx]
    repeat (go_big_quiet_step ((fail)))
    refine WZ (QT HT fun nq HT=>?_)
    go_wp2_with fail
    refine Qa.run jm HT [3] ?_
    rintro e w1 gs ⟨kb,gN,cu,rfl,hjn,hz',rfl⟩ HT;simp only [PU] at HT;have HX:=Vh (WS hjn hz');clear hjn hz';go_wp2_with fail
    refine ⟨rfl,?_⟩
    go_wp2
    go_ret2
    exact ⟨_,.inl ⟨kb,gN,_,cu,HE,by rw [j6,HF.out.1];rfl,by rw [j6,HF.out.1];exact HX.1,lQ,by rw [j6,HF.out.2];exact HX.2,rfl⟩,HT.p [0,1,2,5,3]⟩
   all_goals
    have HE:=Vh (G4 (c:=⟨kd,id,dl,per⟩) ht sj (show kd<1\/7<kd by omega));have jm:=Vh (GK HZ (t:Int) NO ⟨kd,id,dl,per⟩ (by show kd<1\/5<kd;omega));simp only [Q4.cells] at jm;go_wp2_with fail
    refine Mx 7 ?_
    simp only [dx]
    repeat (go_big_quiet_step ((fail)))
    refine WZ (QT HT fun nq HT=>?_)
    go_wp2_with fail
    refine Qa.run jm HT [3] ?_
    rintro e w1 gs ⟨rfl,rfl⟩ HT;simp only [PU] at HT;go_wp2_with fail
    refine ⟨rfl,?_⟩
    go_wp2
    go_ret2
    exact ⟨_,.inr ⟨.iface 33 (XF none),_,gZ,by rw [HE.out];decide,by rw [HE.out];rfl,lQ,HZ,rfl⟩,HT.p [0,1,2,3]⟩
 | some a =>
   have hk:=Xj (hn.own a (XB ho));have hbz:S.dA t=!(S.ah a).w.done:=by unfold SvS.dA;rw [WR,ho];rfl
   have HD:=Vh (Ud hi.j hk);have hnq:=Ni (S.ah a).w (S.ah a).kb;have hmt:=Pm (S.ah a).w;have hcl:=Vi (S.ah a).w;change _=some (YC (S.ah a).w.ty (Qb (S.ah a).kb)) at hcell
   obtain ⟨d,hdn⟩:∃ d,(S.ah a).w.done=d:=⟨_,rfl⟩;obtain ⟨H9,hty⟩:∃ y,(S.ah a).w.ty=y:=⟨_,rfl⟩;obtain ⟨fV,jA⟩:∃ y,(S.ah a).w.jI=y:=⟨_,rfl⟩;obtain ⟨bV,hbv⟩:∃ y,(S.ah a).kb=y:=⟨_,rfl⟩;rw [hdn,jA,hbv] at HD;rw [hty,jA] at hmt;rw [hty,hbv] at hnq;rw [jA] at hcl;rw [hdn] at hbz;rw [hty,hbv] at hcell;clear hk hdn hty jA hbv;cases d with
   | true =>
     have vV:=Vh (show S.dA t=false from hbz);clear hbz;rcases hks with ⟨c17,q1,q2⟩ | ⟨q1,q2,⟨c17,q3⟩ | ⟨q3,⟨c17,h5⟩ | h1 | ⟨q4,h1⟩⟩⟩
     all_goals
      clear hr hi hn ho;simp only [Q4.cells];rw [j6];have HT:=Vh (HT.out.a 38 #[WL WK kd,WL WN id,WL WN dl,WL WN per]);obtain ⟨W0,hW0⟩:∃ W0,W0=w.alloc (.cells #[WL WK kd,WL WN id,WL WN dl,WL WN per] 38):=⟨_,rfl⟩;go_enter func163,ntmps163
      go_wp2_with fail
      refine Qa.run HD HT [2] ?_
      rintro e w1 gs ⟨eu,rfl,hj',rfl⟩ HT;simp only [PU] at HT;have lQ:=Vh hj';clear hj' sv0 jS hcell;have sv0:=HT.c 0 0 0;simp only [X0,aC] at sv0;have jh:=HT.l 0 0;simp only [] at jh;obtain ⟨b0,b1,b2,b3⟩:=HT.c4 4 0 0 1 2 3;simp only [aT] at b0 b1 b2 b3;have vz:=HT.l 4 0;simp only [] at vz
     ·have h7:=eq_of_beq q2
      have HE:=Vh (BK (c:=⟨kd,id,dl,per⟩) ht sj vV c17);have HF:=Vh (TX (th:=(t:Int)) (no:=NO) (c:=⟨kd,id,dl,per⟩) h7);have jm:=Vh (Po HZ htr (t:Int) NO (by omega));clear h7 c17;go_wp2_with fail
      refine Qa.run jm HT [3] ?_
      rintro e w1 gs ⟨kb,gN,cu,rfl,hjn,hz',rfl⟩ HT;simp only [PU] at HT;have HX:=Vh (WS hjn hz');clear hjn hz';skip
      go_wp2
      go_ret2
      exact ⟨_,.inl ⟨kb,gN,_,cu,HE,by rw [j6,HF.out.1];rfl,by rw [j6,HF.out.1];exact HX.1,lQ,by rw [j6,HF.out.2];exact HX.2,rfl⟩,HT.p [0,1,2,5,3]⟩
     ·have h6:=eq_of_beq q3
      have HE:=Vh (BK (c:=⟨kd,id,dl,per⟩) ht sj vV c17);have HF:=Vh (TW (th:=(t:Int)) (no:=NO) (c:=⟨kd,id,dl,per⟩) h6);have jm:=Vh (q32 HZ htr (t:Int) NO);clear h6 c17;go_wp2_with fail
      refine Qa.run jm HT [3] ?_
      rintro e w1 gs ⟨kb,gN,cu,rfl,hjn,hz',rfl⟩ HT;simp only [PU] at HT;have HX:=Vh (WS hjn hz');clear hjn hz';skip
      go_wp2
      go_ret2
      exact ⟨_,.inl ⟨kb,gN,_,cu,HE,by rw [j6,HF.out.1];rfl,by rw [j6,HF.out.1];exact HX.1,lQ,by rw [j6,HF.out.2];exact HX.2,rfl⟩,HT.p [0,1,2,5,3]⟩
     ·have HE:=Vh (BK (c:=⟨kd,id,dl,per⟩) ht sj vV c17)
      have HF:=Vh (TV (th:=(t:Int)) (no:=NO) (c:=⟨kd,id,dl,per⟩) h5);have jm:=Vh (Pn HZ htr (t:Int) NO ⟨kd,id,dl,per⟩ c17.1 h5);simp only [Q4.cells] at jm;clear h5 c17;go_wp2_with fail
      refine Mx 7 ?_
      simp only [dx]
      repeat (go_big_quiet_step ((fail)))
      refine WZ (QT HT fun nq HT=>?_)
      go_wp2_with fail
      refine Qa.run jm HT [3] ?_
      rintro e w1 gs ⟨kb,gN,cu,rfl,hjn,hz',rfl⟩ HT;simp only [PU] at HT;have HX:=Vh (WS hjn hz');clear hjn hz';go_wp2_with fail
      refine ⟨rfl,?_⟩
      go_wp2
      go_ret2
      exact ⟨_,.inl ⟨kb,gN,_,cu,HE,by rw [j6,HF.out.1];rfl,by rw [j6,HF.out.1];exact HX.1,lQ,by rw [j6,HF.out.2];exact HX.2,rfl⟩,HT.p [0,1,2,5,3]⟩
     all_goals
      have HE:=Vh (G4 (c:=⟨kd,id,dl,per⟩) ht sj (show kd<1\/7<kd by omega));have jm:=Vh (GK HZ (t:Int) NO ⟨kd,id,dl,per⟩ (by show kd<1\/5<kd;omega));simp only [Q4.cells] at jm;go_wp2_with fail
      refine Mx 7 ?_
      simp only [dx]
      repeat (go_big_quiet_step ((fail)))
      refine WZ (QT HT fun nq HT=>?_)
      go_wp2_with fail
      refine Qa.run jm HT [3] ?_
      rintro e w1 gs ⟨rfl,rfl⟩ HT;simp only [PU] at HT;go_wp2_with fail
      refine ⟨rfl,?_⟩
      go_wp2
      go_ret2
      exact ⟨_,.inr ⟨.iface 33 (XF none),_,gZ,by rw [HE.out];decide,by rw [HE.out];rfl,lQ,HZ,rfl⟩,HT.p [0,1,2,3]⟩
   | false =>
     have vV:=Vh (show S.dA t=true from hbz);clear hbz;rcases hks with ⟨c17,q1,q2⟩ | ⟨q1,q2,⟨c17,q3⟩ | ⟨q3,⟨c17,h5⟩ | h1 | ⟨q4,h1⟩⟩⟩
     all_goals
      clear hr hi hn ho;simp only [Q4.cells];rw [j6];have HT:=Vh (HT.out.a 38 #[WL WK kd,WL WN id,WL WN dl,WL WN per]);obtain ⟨W0,hW0⟩:∃ W0,W0=w.alloc (.cells #[WL WK kd,WL WN id,WL WN dl,WL WN per] 38):=⟨_,rfl⟩;go_enter func163,ntmps163
      go_wp2_with fail
      refine Qa.run HD HT [2] ?_
      rintro e w1 gs ⟨eu,rfl,hj',rfl⟩ HT;simp only [PU] at HT;have lQ:=Vh hj';clear hj' sv0 jS hcell;have sv0:=HT.c 0 0 0;simp only [X0,aC] at sv0;have jh:=HT.l 0 0;simp only [] at jh;obtain ⟨b0,b1,b2,b3⟩:=HT.c4 4 0 0 1 2 3;simp only [aT] at b0 b1 b2 b3;have vz:=HT.l 4 0;simp only [] at vz
     rotate_left 3
     ·have HE:=Vh (G4 (c:=⟨kd,id,dl,per⟩) ht sj (show kd<1\/7<kd by omega))
      have jm:=Vh (GK HZ (t:Int) NO ⟨kd,id,dl,per⟩ (by show kd<1\/5<kd;omega));simp only [Q4.cells] at jm;go_wp2_with fail
      refine Mx 7 ?_
      simp only [dx]
      repeat (go_big_quiet_step ((fail)))
      refine WZ (QT HT fun nq HT=>?_)
      go_wp2_with fail
      refine Qa.run jm HT [3] ?_
      rintro e w1 gs ⟨rfl,rfl⟩ HT;simp only [PU] at HT;go_wp2_with fail
      refine ⟨rfl,?_⟩
      go_wp2
      go_ret2
      exact ⟨_,.inr ⟨.iface 33 (XF none),_,gZ,by rw [HE.out];decide,by rw [HE.out];rfl,lQ,HZ,rfl⟩,HT.p [0,1,2,3]⟩
     ·have HE:=Vh (G4 (c:=⟨kd,id,dl,per⟩) ht sj (show kd<1\/7<kd by omega))
      have jm:=Vh (GK HZ (t:Int) NO ⟨kd,id,dl,per⟩ (by show kd<1\/5<kd;omega));simp only [Q4.cells] at jm;go_wp2_with fail
      refine Mx 7 ?_
      simp only [dx]
      repeat (go_big_quiet_step ((fail)))
      refine WZ (QT HT fun nq HT=>?_)
      go_wp2_with fail
      refine Qa.run jm HT [3] ?_
      rintro e w1 gs ⟨rfl,rfl⟩ HT;simp only [PU] at HT;go_wp2_with fail
      refine ⟨rfl,?_⟩
      go_wp2
      go_ret2
      exact ⟨_,.inr ⟨.iface 33 (XF none),_,gZ,by rw [HE.out];decide,by rw [HE.out];rfl,lQ,HZ,rfl⟩,HT.p [0,1,2,3]⟩
     all_goals
      have HE:=Vh (q00 (c:=⟨kd,id,dl,per⟩) ht sj vV c17);obtain ⟨c1,c7⟩:=c17;go_wp2
      go_ret2
      exact ⟨_,.inr ⟨.nilIface,_,gZ,by rw [HE.out];decide,by rw [HE.out];rfl,lQ,HZ,rfl⟩,HT.p [0,1,2,3]⟩
theorem q5c (hn:dV N S) (hN:N<999998) (hr:zi L sb S vo va vc go ga gc) (hi:mr L S gJ gW gZ) {t:Nat} (ht:t<S.own.length) (c:Q4) :
 Qa prog 163 #[Qb sb,WL WK t,WL WK (S.all.length+1),.agg c.cells] [X0 sb L.fb vo va vc,go,gJ,gZ] (Ih L sb S vo va vc go t c):=by
 by_cases hd:decide ((t:Int)=(S.own.length:Int) - 1)=decide (c.kind=7)
 ·obtain ⟨kd,id,dl,per⟩:=c
  exact q5d hn hN hr hi ht kd id dl per hd
 ·exact qwe hn hN hr hi ht c hd
end
theorem Pv:(prog.info? 205).map (fun i=>(i.zero,i.size,i.bytes))=some (some .nilIface,1,16):=by kernel_rfl
section
variable {L:Lay} {sb:Nat} {S:SvS} {N:Nat} {g:List ak}
theorem Tu {th:Int} {c:Q4} (h:S.bZ th c≠0) (kb:Nat):S.cr kb th c=S/\S.eB th c=0:=⟨if_neg h,if_neg h⟩
theorem Sq {th:Int} {c:Q4} (h:S.bZ th c=0) (kb:Nat):S.cr kb th c=S.dB kb th c/\S.eB th c=S.all.length+1:=⟨if_pos h,if_pos h⟩
theorem q5f {th:Int} {c:Q4} (h:th<0\/(S.own.length:Int)<=th):S.bZ th c=4:=if_pos h
theorem q03 {gJ gW gZ gN:List ak} {th:Int} {c:Q4} {kb:Nat} (hj:Jb L S.all gJ) (hw:kX L S.aL gW) (hz:fu L { S.z with x:=qL (xW th (S.all.length+1) c) S.z.x } gZ) (hn:oL L kb 0 (Xs th (S.all.length+1) c) gN) :
 mr L (S.dB kb th c) (gJ++gN) gW gZ:=⟨Yx.snoc hj hn,hw,hz⟩
theorem qs5 {vo va vc:Value} {go ga gc:List ak} {vU x:Value} {l6:List ak} {b t:Nat} {cur:Array Value} {c:Q4} {kb:Nat} (hn:dV N S) (hr:zi L sb S vo va vc go ga gc) (hgo:go=[cl b 205 cur])
 (hx:oW ⟨kb,0,Xs t (S.all.length+1) c⟩=x) (ha:Q1 205 1 vU (S.all.length+1) (S.all.map oW++[x]) l6) :
 zi L sb (S.dB kb t c) vo vU vc [cl b 205 (cur.setIfInBounds t x)] l6 gc:=by
 subst hx;refine ⟨?_,?_,hr.c⟩
 ·have h1:=hr.o.set hgo t (oW ⟨kb,0,Xs t (S.all.length+1) c⟩)
  rw [q04 hn]
  show Q1 _ 1 vo (S.own.set _ _).length ((S.os.set _ _).map lW) _
  rw [XV,XP,XH];exact h1
 ·show Q1 _ 1 vU (S.all++[_]).length (List.map oW (S.all++[_])) _
  rw [XK,YH];exact ha
def PV (L:Lay) (sb:Nat) (S:SvS) (th:Int) (c:Q4) (e:Ending) (gs:GH):Prop :=
 ∃ kb g',e=WM (WO #[WL WK (S.eB th c),WL WK (S.bZ th c)])/\kW L sb (S.cr kb th c) g'/\gs=[g']
theorem UH {vo va vc:Value} {go ga gc gJ gW gZ:List ak} {th:Int} {c:Q4} (h:th<0\/(S.own.length:Int)<=th) (hr:zi L sb S vo va vc go ga gc) (hi:mr L S gJ gW gZ) :
 PV L sb S th c (WM (WO #[WL WK 0,WL WK 4])) [X0 sb L.fb vo va vc++(go++(ga++(gc++(gJ++(gW++gZ)))))]:=by
 have HE:=q5f (c:=c) h;obtain ⟨h1,h2⟩:=Tu (S:=S) (th:=th) (c:=c) (by rw [HE];decide) 0;exact ⟨0,_,by rw [h2,HE],by rw [h1];exact ⟨vo,va,vc,go,ga,gc,gJ,gW,gZ,hr,hi,rfl⟩,rfl⟩
theorem zad (h:kW L sb S g) (hn:dV N S) (hN:N<999998) (th:Int) (c:Q4):Qa prog 115 #[Qb sb,WL WK th,.agg c.cells] [g] (PV L sb S th c):=by
 by_cases h0:th<0
 ·have h4:th<0\/(S.own.length:Int)<=th:=.inl h0
  obtain ⟨vo,va,vc,go,ga,gc,gJ,gW,gZ,hr,hi,rfl⟩:=h;obtain ⟨j4,dW,rfl⟩:=Q1.val hr.o;obtain ⟨sJ,jG,rfl⟩:=Q1.val hr.a;refine GO fun w HT=>?_
  have HT:=Vh (HT.out.m [X0 sb L.fb (.slice j4 S.own.length dW) (.slice sJ S.all.length jG) vc,go,ga,gc,gJ,gW,gZ]);obtain ⟨sv0,jS,mX,mY⟩:=HT.c4 0 0 0 1 2 3;simp only [X0,aC] at sv0 jS mX mY;have jh:=HT.l 0 0;simp only [] at jh;have HR:=Vh hr;have jf:=Vh hi;have hol:=hn.ol;have hal:=hn.al;clear hr hi hn;have Iq:=Vh h4;clear h4;obtain ⟨kd,id,dl,per⟩:=c;simp only [Q4.cells];go_enter func115,ntmps115
  go_wp2
  go_ret2
  exact ⟨_,UH Iq HR jf,(HT.aN _).sum⟩
 ·by_cases h1:(S.own.length:Int)<=th
  ·have h4:th<0\/(S.own.length:Int)<=th:=.inr h1
   obtain ⟨vo,va,vc,go,ga,gc,gJ,gW,gZ,hr,hi,rfl⟩:=h;obtain ⟨j4,dW,rfl⟩:=Q1.val hr.o;obtain ⟨sJ,jG,rfl⟩:=Q1.val hr.a;refine GO fun w HT=>?_
   have HT:=Vh (HT.out.m [X0 sb L.fb (.slice j4 S.own.length dW) (.slice sJ S.all.length jG) vc,go,ga,gc,gJ,gW,gZ]);obtain ⟨sv0,jS,mX,mY⟩:=HT.c4 0 0 0 1 2 3;simp only [X0,aC] at sv0 jS mX mY;have jh:=HT.l 0 0;simp only [] at jh;have HR:=Vh hr;have jf:=Vh hi;have hol:=hn.ol;have hal:=hn.al;clear hr hi hn;have Iq:=Vh h4;clear h4;obtain ⟨kd,id,dl,per⟩:=c;simp only [Q4.cells];go_enter func115,ntmps115
   go_wp2
   go_ret2
   exact ⟨_,UH Iq HR jf,(HT.aN _).sum⟩
  ·obtain ⟨t,rfl⟩:∃ t:Nat,th=(t:Int):=⟨th.toNat,by omega⟩
   have ht:t<S.own.length:=by omega
   obtain ⟨vo,va,vc,go,ga,gc,gJ,gW,gZ,hr,hi,rfl⟩:=h;obtain ⟨j4,dW,rfl⟩:=Q1.val hr.o;obtain ⟨sJ,jG,rfl⟩:=Q1.val hr.a;refine GO fun w HT=>?_
   have HT:=Vh (HT.out.m [X0 sb L.fb (.slice j4 S.own.length dW) (.slice sJ S.all.length jG) vc,go,ga,gc,gJ,gW,gZ]);obtain ⟨sv0,jS,mX,mY⟩:=HT.c4 0 0 0 1 2 3;simp only [X0,aC] at sv0 jS mX mY;have jh:=HT.l 0 0;simp only [] at jh;have HR:=Vh hr;have jf:=Vh hi;have hol:=hn.ol;have hal:=hn.al;have HB:=Vh (q5c hn hN hr hi ht c);obtain ⟨b0,c0,cur,hv',hg',hle,_,hsz,_⟩:=hr.o.open (by omega);have HGO:=Vh hg';obtain ⟨rfl,rfl⟩:j4=some ⟨b0,0,none⟩/\dW=c0:=by cases hv';exact ⟨rfl,rfl⟩
   subst hg';have HN:=Vh hn;clear hr hi hn hv';simp only [Q4.cells] at HB |-;go_enter func115,ntmps115
   go_wp2_with fail
   have HT:=Vh (HT.out.a 38 #[WL WK c.kind,WL WN c.id,WL WN c.dl,WL WN c.per]);refine (Qa.use HB HT [0,1,4,6] rfl rfl).mono ?_
   rintro e w1 ⟨gs,hB,Ta⟩;rcases hB with ⟨kb,gN,eu,cu,hE,rfl,hjn,hj',hz',rfl⟩ | ⟨v,eu,cu,hE,rfl,hj',hz',rfl⟩
   ·simp only [PU] at Ta
    have HJN:=Vh (q03 (th:=(t:Int)) (c:=c) hj' jf.w hz' hjn);have HT:=Vh (Ta.bG (H':=[X0 sb L.fb (.slice (some ⟨b0,0,none⟩) S.own.length dW) (.slice sJ S.all.length jG) vc,[cl b0 205 cur],ga,gc,eu++gN,gW,cu,[cl w.heap.size 38 #[WL WK c.kind,WL WN c.id,WL WN c.dl,WL WN c.per]]]));have HE:=Vh hE;obtain ⟨ty,hty⟩:∃ ty,(Xs (t:Int) (S.all.length+1) c).ty=ty:=⟨_,rfl⟩;have FJ:=Vh (show oW ⟨kb,0,Xs (t:Int) (S.all.length+1) c⟩=.iface ty (Qb kb) by unfold oW;rw [hty]);rw [hty];have dN:(cur[t]?).isSome=true:=by rw [Array.getElem?_eq_getElem (by omega)];rfl
    obtain ⟨ocv,hoc⟩:=Option.isSome_iff_exists.1 dN;have kc:=HT.cell 1 0 rfl t;rw [hoc] at kc;have fkc:=HT.free 1 0 rfl t;have ji:=HT.l 1 0;have Pk:=HT.ne 0 0 1 0 (by decide) rfl rfl;simp only [] at ji Pk;have nek2:=Ne.symm Pk;clear Ta hjn hj' hz' hty dN hoc hE sv0 jS mX mY;obtain ⟨sv0,jS,mX,mY⟩:=HT.c4 0 0 0 1 2 3;have fsv2:=HT.f 0 0 2;simp only [X0,aC] at sv0 jS mX mY;have jh:=HT.l 0 0;simp only [] at jh;have HC:=Vh (show (S.all.length:Nat)<=N from hal);have hone:∀ u∈[YC ty (Qb kb)],u.oneCell'=true:=fun u hu=>by rw [YA.1 hu];rfl
    have hnews:=Za (w1.setCell ⟨b0,t,none⟩ (.iface ty (Qb kb))) 205 [.iface ty (Qb kb)];rw [Zs] at hnews;have hnews:=Vh hnews
    go_wp2_with (
     at_builtin
     (with_reducible refine X3 rfl (.tmp 54) (.tmp 56) 203 rfl 205 1 16 _ underlying203 Pv rfl (by decide) ((HT.out.set 1 0 rfl t (.iface ty (Qb kb))).aN _) 2 rfl rfl HR.out.a rfl ⟨w1.heap.size,0,none⟩ 1 1 [.iface ty (Qb kb)] rfl rfl hnews.out hone (by unfold maxLen;omega) (by omega) ?_)
     intro v1 w2 g1 r1 T1;obtain ⟨a1,di,hv1⟩:=Q1.val r1;subst hv1;simp only [WW,WX] at T1;have T1:=Vh T1;have d2:=T1.c 0 0 2;have vw:=T1.f 0 0 2;have ltd:=T1.l 0 0;simp only [X0,aC] at d2 ltd
     have r1:=Vh r1)
    go_ret2
    exact ⟨_,⟨kb,_,by rw [(Sq HE.out kb).2,HE.out];rfl,by rw [(Sq HE.out kb).1];exact ⟨_,_,vc,_,g1,gc,_,gW,cu,qs5 HN HR rfl FJ r1.out,HJN,rfl⟩,rfl⟩,((((T1.set 0 0 rfl 2 (.slice a1 (S.all.length+1) di)).p [0,1,2,3,4,5,6]).eq (H':=[X0 sb L.fb (.slice (some ⟨b0,0,none⟩) S.own.length dW) (.slice a1 (S.all.length+1) di) vc,[cl b0 205 (cur.setIfInBounds t (.iface ty (Qb kb)))],g1,gc,eu++gN,gW,cu]) rfl).bG)⟩
   ·simp only [PU] at Ta
    have hE2:(S.bZ (t:Int) c != 0)=true:=bne_iff_ne.2 hE;have FB:=Vh (Tu (S:=S) hE 0);have HI2:=Vh (show mr L S eu gW cu from ⟨hj',jf.w,hz'⟩);have HT:=Vh Ta;clear Ta hj' hz' hE;obtain ⟨E,Kc⟩:∃ E,S.bZ (t:Int) c=E:=⟨_,rfl⟩;rw [Kc] at hE2 |-;have su:=Vh Kc;clear Kc;go_wp2
    go_ret2
    exact ⟨_,⟨0,_,by rw [FB.out.2,su.out];rfl,by rw [FB.out.1];exact ⟨_,_,vc,_,ga,gc,eu,gW,cu,HR,HI2,rfl⟩,rfl⟩,((HT.p [0,1,2,3,4,5,6]).sum)⟩
end
def ug (n:Nat):Array Value:=madeCells #[.nilIface] (n*1)
theorem quu (b n:Nat) (hn:n<=1000):Q1 205 1 (.slice (some ⟨b,0,none⟩) n n) n ((WQ n (none:Option (Wk × Nat))).map lW) [cl b 205 (ug n)]:=by
 have hs:(ug n).size=n*1:=by unfold ug;simp [madeCells]
 have h:=Up 205 1 b n n (ug n) (XX _) (by unfold maxLen;omega) hs
 have e:(ug n).toList.take (n*1)=(WQ n (none:Option (Wk × Nat))).map lW:=by
  rw [List.map_replicate];apply List.ext_getElem?
  intro i;rw [List.getElem?_take,Array.getElem?_toList];split
  ·next hi =>
   have:=zq #[.nilIface] n 1 i 0 rfl (by omega) (by omega);rw [show i*1+0=i by omega] at this;unfold ug;rw [this,List.getElem?_replicate,if_pos (by omega)];rfl
  ·next hi=>rw [List.getElem?_replicate,if_neg (by omega)]
 rw [e] at h;exact h
theorem PN {L:Lay} {sb b m q:Nat} {c:Cfg} {ws:List dz} {vc:Value} {go gr yT gZ:List ak} (hc:c.cO=(m:Int)) (hl:ws.length=q) (ho:Q1 205 1 (.slice (some ⟨b,0,none⟩) (m+1) (m+1)) (m+1) ((WQ (m+1) (none:Option (Wk × Nat))).map lW) go)
 (hr:Q1 269 1 vc q (uD ws) gr) (hw:kX L ws yT) (hz:fu L (xD c) gZ):kW L sb (sv0 c ws) (X0 sb L.fb (.slice (some ⟨b,0,none⟩) (m+1) (m+1)) (.slice none 0 0) vc++(go++([]++(gr++([]++(yT++gZ)))))):=by
 refine ⟨_,_,vc,go,[],gr,[],yT,gZ,⟨?_,X5 _ _,?_⟩,⟨rfl,hw,hz⟩,rfl⟩
 ·show Q1 _ 1 _ (WQ (c.cO.toNat+1) none).length (((WQ (c.cO.toNat+1) (none:Option Nat)).map _).map lW) go
  rw [WU,List.map_replicate,hc,XH];exact ho
 ·show Q1 _ 1 vc ws.length _ gr
  rw [hl];have:(uD ws)=(sv0 c ws).ps.map Qb:=by show ws.map _=(ws.map _).map _;rw [YJ];rfl
  rw [<- this];exact hr
theorem zb4 (c:Cfg) (hk:c.ok=true):Qa prog 114 #[.agg c.cells] [] fun e gs =>
 ∃ L sb ws g,e=WM (WO #[Qb sb,WL WK 0])/\ws.length=c.wk.toNat/\(∀ z∈ws,BU z)/\kW L sb (sv0 c ws) g/\gs=[g]:=by
 have hnf:=q6l c hk;have hbd:=Cfg.bd hk;obtain ⟨sh,cap,ring,room,wk,cO⟩:=c;simp only [Cfg.cells] at hnf |-;have HN:=Vh hnf;simp only at hbd;obtain ⟨m,hm⟩:∃ m:Nat,cO=(m:Int):=⟨cO.toNat,by omega⟩;obtain ⟨q,hq⟩:∃ q:Nat,wk=(q:Int):=⟨wk.toNat,by omega⟩;subst hm hq;have hmk:∀ w,(Instr.makeSlice 203 (WL WK ((m:Int)+1)) (WL WK ((m:Int)+1))).run prog w=.ok (.slice (some ⟨w.heap.size,0,none⟩) (m+1) (m+1)) (w.alloc (.cells (ug (m+1)) 205)):=Lx _ _ .nilIface 1 16 underlying203 Pv (m+1) (by omega) (by omega);have hrw:=Vh (show ∀ b,_ from fun b=>quu b (m+1) (by omega));have hwr:IntKind.i64.wrap ((m:Int)+1)=(m:Int)+1:=KR _ (by omega) (by omega);refine GO fun w HT=>?_
 go_enter func114,ntmps114
 go_wp2_with fail
 have HT:=Vh (HT.out.a 30 #[WL WK sh,WL WK cap,WL WK ring,WL WK room,WL WK q,WL WK m]);go_wp2_with fail
 refine Qa.run HN HT [] ?_
 rintro e w1 gs ⟨L,g,rfl,hz,rfl⟩ HT;simp only [PU] at HT;obtain ⟨gC,gW,gP,gL,h1,h2,h3,h4,rfl⟩:=Z1 hz;have HZ:=Vh (WS h1 (WS h2 (WS h3 h4)));have FC:=Vh (q1n (n:=q) h1 rfl (by omega));clear hz hnf h1 h2 h3 h4;have HT:=Vh (HT.out.sum (H':=[[cl w.heap.size 30 #[WL WK sh,WL WK cap,WL WK ring,WL WK room,WL WK q,WL WK m]],gC,gW++(gP++gL)]));have a5:=HT.c 0 0 5;simp only [aT] at a5;have DU:=HT.l 0 0;simp only [] at DU;go_wp2_with fail
 go_region_with (
  go_at_call 162
  first
  | (refine (Qa.use FC (HT.drew.put rfl (.cells (ug (m+1)) 205)) [1] rfl rfl).mono ?_
     rintro e w2 ⟨gs,⟨v,gr,yT,l,rfl,hl,hnw,hrr,hws,rfl⟩,Ta⟩;obtain ⟨av,sK,rfl⟩:=Q1.val hrr;have IZ:=Ta.c 0 0 5;simp only [aC] at IZ;have bI:=Ta.l 0 0;simp only [] at bI;simp only [PU] at Ta;have HT1:=Vh Ta;have HX:=Vh (WS hl (WS hnw (WS hrr hws)))
     clear Ta hl hnw hrr hws)
  | (refine (Qa.use FC HT.drew [1] rfl rfl).mono ?_
     rintro e w2 ⟨gs,⟨v,gr,yT,l,rfl,hl,hnw,hrr,hws,rfl⟩,Ta⟩;obtain ⟨av,sK,rfl⟩:=Q1.val hrr;have IZ:=Ta.c 0 0 5;simp only [aC] at IZ;have bI:=Ta.l 0 0;simp only [] at bI;simp only [PU] at Ta;have HT1:=Vh Ta;have HX:=Vh (WS hl (WS hnw (WS hrr hws)))
     clear Ta hl hnw hrr hws))
 all_goals
  go_wp2
  go_ret2
  obtain ⟨hl,hnw,hrr,hws⟩:=HX.out;obtain ⟨h1,h2,h3,h4⟩:=HZ.out
  first
  | exact ⟨_,⟨L,w2.heap.size,l,_,rfl,by rw [hl];rfl,hnw,PN rfl hl (hrw.out w1.heap.size) hrr hws (qD h1 h2 h3 h4),rfl⟩,(((HT1.a 208 #[Qb L.fb,.slice (some ⟨w1.heap.size,0,none⟩) (m+1) (m+1),.slice none 0 0,.slice av q sK]).p [6,3,4,5,1,2]).eq (H':=[X0 w2.heap.size L.fb (.slice (some ⟨w1.heap.size,0,none⟩) (m+1) (m+1)) (.slice none 0 0) (.slice av q sK),[cl w1.heap.size 205 (ug (m+1))],gr,yT,gC,gW++(gP++gL)]) rfl).bG⟩
  | exact ⟨_,⟨L,w2.heap.size+1,l,_,rfl,by rw [hl];rfl,hnw,PN rfl hl (hrw.out w2.heap.size) hrr hws (qD h1 h2 h3 h4),rfl⟩,((((HT1.a 205 (ug (m+1))).alloc (k:=w2.heap.size+1) (by simp) 208 #[Qb L.fb,.slice (some ⟨w2.heap.size,0,none⟩) (m+1) (m+1),.slice none 0 0,.slice av q sK]).p [6,5,3,4,1,2]).eq (H':=[X0 (w2.heap.size+1) L.fb (.slice (some ⟨w2.heap.size,0,none⟩) (m+1) (m+1)) (.slice none 0 0) (.slice av q sK),[cl w2.heap.size 205 (ug (m+1))],gr,yT,gC,gW++(gP++gL)]) rfl).bG⟩
def J2.bare (j:J2):J2:={ j with kb:=0 }
def dz.bare (c:dz):dz:={ c with wb:=0 }
def SvS.bare (S:SvS):SvS:={ S with all:=S.all.map J2.bare,aL:=S.aL.map dz.bare }
section
variable (S:SvS)
theorem Ep (a:Nat):S.bare.ah a=(S.ah a).bare:=by
 unfold SvS.ah SvS.bare;simp only [WR,WT];cases S.all[a]? <;> rfl
theorem R9 (a:Nat):S.bare.aO a=(S.aO a).bare:=by
 unfold SvS.aO SvS.bare;simp only [WR,WT];cases S.aL[a]? <;> rfl
theorem U3 (f:dz->dz):∀ (l:List dz) (a i:Nat),pq a i (l.map f)=pq a i l
 | [],_,_=>rfl
 | c::l,a,i=>by
   show (a,Th.fQ i)::pq (a+1) (i+1) (l.map f)=(a,Th.fQ i)::pq (a+1) (i+1) l
   rw [U3 f l]
theorem Tq:S.bare.iH=S.iH:=by
 show rX 0 S.own++pq S.own.length 0 (S.aL.map _)=_
 rw [U3];rfl
theorem TF (t:Th):t.may S.bare=t.may S:=by
 cases t with
 | eH a=>show (S.bare.ah a).w.may S.z=_;rw [Ep];rfl
 | fQ i=>show (S.bare.aO i).may S.z=_;rw [R9];rfl
theorem qwd (t:Th):(t.step S).bare=t.step S.bare:=by
 cases t with
 | eH a =>
   show SvS.mk ((S.ah a).w.step S.z).2 S.own ((S.all.set a _).map J2.bare) (S.aL.map dz.bare)=SvS.mk ((S.bare.ah a).w.step S.z).2 S.own ((S.all.map J2.bare).set a ⟨(S.bare.ah a).kb,(S.bare.ah a).n+1,((S.bare.ah a).w.step S.z).1⟩) (S.aL.map dz.bare)
   rw [XP,Ep];rfl
 | fQ i =>
   show SvS.mk ((S.aO i).step S.z).2 S.own (S.all.map J2.bare) ((S.aL.set i _).map dz.bare)=SvS.mk ((S.bare.aO i).step S.z).2 S.own (S.all.map J2.bare) ((S.aL.map dz.bare).set i ((S.bare.aO i).step S.z).1)
   rw [XP,R9];rfl
theorem Sm:S.bare.bM=S.bM:=by
 unfold SvS.bM;rw [Tq];simp only [TF]
theorem qoz (i:Int):S.bare.fD i=S.fD i:=by
 unfold SvS.fD;rw [Tq];simp only [TF]
theorem qs2 (i:Int):(S.stepS i).1.bare=(S.bare.stepS i).1/\(S.stepS i).2=(S.bare.stepS i).2:=by
 unfold SvS.stepS;rw [qoz]
 have e:(S.bare.own.length:Int)+S.bare.aL.length=(S.own.length:Int)+S.aL.length:=by
  show (S.own.length:Int)+(S.aL.map _).length=_
  rw [XE]
 rw [e];split
 ·exact ⟨rfl,rfl⟩
 ·split
  ·exact ⟨qwd S _,rfl⟩
  ·exact ⟨rfl,rfl⟩
theorem qox (i:Nat):S.bare.dA i=S.dA i:=by
 unfold SvS.dA
 show (match S.own.getD i none with | some a=>!(S.bare.ah a).w.done | none=>false)=_
 cases S.own.getD i none with
 | some a=>show (!(S.bare.ah a).w.done)=_;rw [Ep];rfl
 | none=>rfl
theorem Lm (th:Int) (c:Q4):S.bare.bZ th c=S.bZ th c:=by
 unfold SvS.bZ;rw [qox];rfl
theorem qoy (th:Int) (c:Q4):S.bare.eB th c=S.eB th c:=by
 unfold SvS.eB;rw [Lm]
 show (if _ then ((S.all.map _).length:Int)+1 else 0)=_
 rw [XE]
theorem qs1 (kb:Nat) (th:Int) (c:Q4):(S.cr kb th c).bare=S.bare.cr 0 th c:=by
 unfold SvS.cr;rw [Lm];split
 ·have e:S.bare.all.length=S.all.length:=XE _
  unfold SvS.dB;rw [e]
  show SvS.mk _ _ ((S.all++[_]).map J2.bare) _=SvS.mk _ _ ((S.all.map J2.bare)++[_]) _
  rw [YH];rfl
 ·rfl
theorem qs0:S.bare.aX=S.aX:=by
 unfold SvS.aX
 show S.own.any _=S.own.any _
 congr 1
 funext o
 cases o with
 | none=>rfl
 | some a=>show (!(S.bare.ah a).w.done)=_;rw [Ep];rfl
theorem qwb (no:Int):S.bare.dh no=S.dh no:=by
 unfold SvS.dh;have e:S.bare.all.length=S.all.length:=XE _;rw [e,Ep];rfl
theorem qwc:S.bare.idle=S.idle:=by
 unfold SvS.idle;rw [qs0]
 show (_ && Y6 (S.aL.map dz.bare) S.z.p)=_
 have:Zj (S.aL.map dz.bare)=Zj S.aL:=by
  unfold Zj;rw [List.all_map];rfl
 unfold Y6;rw [this]
end
def jW (N:Nat) (L:Lay) (sb:Nat) (B:SvS) (g:List ak):Prop:=∃ S,S.bare=B/\dV N S/\kW L sb S g
section
variable {N:Nat} {L:Lay} {sb:Nat} {B:SvS} {g:List ak}
theorem jW.mono {M:Nat} (h:jW N L sb B g) (hm:N<=M):jW M L sb B g:=by
 obtain ⟨S,h1,h2,h3⟩:=h;exact ⟨S,h1,h2.mono hm,h3⟩
theorem Oa (h:jW N L sb B g) (hN:N<999998):Qa prog 59 #[Qb sb] [g] fun e gs =>
 ∃ v gl g',e=WM v/\Q1 3 1 v B.bM.length (vP B.bM) gl/\jW N L sb B g'/\gs=[g',gl]:=by
 obtain ⟨S,rfl,hn,hs⟩:=h;refine (zb3 hs hn hN).mono ?_
 rintro e gs ⟨v,gl,g',rfl,h1,h2,rfl⟩;exact ⟨v,gl,g',rfl,by rw [Sm];exact h1,⟨S,rfl,hn,h2⟩,rfl⟩
theorem zbc (h:jW N L sb B g) (hN:N<999998) (i:Int):Qa prog 117 #[Qb sb,WL WK i] [g] fun e gs =>
 ∃ g',e=WM (WL WK (B.stepS i).2)/\jW (N+1) L sb (B.stepS i).1 g'/\gs=[g']:=by
 obtain ⟨S,rfl,hn,hs⟩:=h;refine (zag hs hn hN i).mono ?_
 rintro e gs ⟨g',rfl,h2,rfl⟩;obtain ⟨e1,e2⟩:=qs2 S i;exact ⟨g',by rw [e2],⟨_,e1,q62 hn hN i,h2⟩,rfl⟩
theorem za9 (h:jW N L sb B g) (hN:N<999998) (th:Int) (c:Q4) (hc:c.wf):Qa prog 115 #[Qb sb,WL WK th,.agg c.cells] [g] fun e gs =>
 ∃ g',e=WM (WO #[WL WK (B.eB th c),WL WK (B.bZ th c)])/\jW (N+1) L sb (B.cr 0 th c) g'/\gs=[g']:=by
 obtain ⟨S,rfl,hn,hs⟩:=h;refine (zad hs hn hN th c).mono ?_
 rintro e gs ⟨kb,g',rfl,h2,rfl⟩;exact ⟨g',by rw [qoy,Lm],⟨_,qs1 S kb th c,UI hn hc kb th,h2⟩,rfl⟩
theorem q5b (h:jW N L sb B g) (hN:N<999998) (no:Int):Qa prog 58 #[Qb sb,WL WK no] [g] fun e gs =>
 ∃ v gv g',e=WM (WO #[.agg ((B.dh no).cells v),WL WK (B.dh no).code])/\Q1 36 1 v (B.dh no).left.length (kv (B.dh no).left) gv/\jW N L sb B g'/\gs=[g',gv]:=by
 obtain ⟨S,rfl,hn,hs⟩:=h;refine (q28 hs hn hN no).mono ?_
 rintro e gs ⟨v,gv,g',rfl,h1,h2,rfl⟩;rw [qwb];exact ⟨v,gv,g',rfl,h1,⟨S,rfl,hn,h2⟩,rfl⟩
theorem zba (h:jW N L sb B g) (hN:N<999998):Qa prog 55 #[Qb sb] [g] fun e gs=>∃ g',e=WM (.bool B.idle)/\jW N L sb B g'/\gs=[g']:=by
 obtain ⟨S,rfl,hn,hs⟩:=h;refine (zae hs hn hN).mono ?_
 rintro e gs ⟨g',rfl,h2,rfl⟩;exact ⟨g',by rw [qwc],⟨S,rfl,hn,h2⟩,rfl⟩
theorem JE (h:jW N L sb B g) (hN:N<999998):Qa prog 116 #[Qb sb] [g] fun e gs=>∃ v gv g',e=WM v/\Q1 63 4 v B.z.lg.length (fires B.z.lg) gv/\jW N L sb B g'/\gs=[g',gv]:=by
 obtain ⟨S,rfl,hn,hs⟩:=h;refine (zb2 hs hn hN).mono ?_
 rintro e gs ⟨v,gv,g',rfl,h1,h2,rfl⟩;exact ⟨v,gv,g',rfl,h1,⟨S,rfl,hn,h2⟩,rfl⟩
def uP (c:Cfg):SvS:=⟨xD c,WQ (c.cO.toNat+1) none,[],WQ c.wk.toNat ⟨0,Jy,0,rY⟩⟩
theorem JF (c:Cfg) (hk:c.ok=true):Qa prog 114 #[.agg c.cells] [] fun e gs =>
 ∃ L sb g,e=WM (WO #[Qb sb,WL WK 0])/\jW 0 L sb (uP c) g/\gs=[g]:=by
 refine (zb4 c hk).mono ?_
 rintro e gs ⟨L,sb,ws,g,rfl,hl,hw,hs,rfl⟩;refine ⟨L,sb,g,rfl,⟨_,?_,zb1 c hk hl hw,hs⟩,rfl⟩
 show SvS.mk _ _ [] (ws.map dz.bare)=_
 have:ws.map dz.bare=WQ c.wk.toNat ⟨0,Jy,0,rY⟩:=by
  rw [List.eq_replicate_iff,XE];refine ⟨hl,fun b hb=>?_⟩
  obtain ⟨z,hz,rfl⟩:=YB.1 hb;obtain ⟨a,b,d⟩:=hw z hz;obtain ⟨wb,s,n,k⟩:=z;simp only at a b d;subst a b d;rfl
 rw [this];rfl
end
def Yq (a b:Int):Cfg:=⟨1+max 0 a % 4,1+max 0 b % 12,1+max 0 b % 7,1+max 0 b % 3,1+max 0 b % 4,4⟩
theorem Mc (a b:Int):(Yq a b).ok=true:=by
 unfold Cfg.ok Yq;simp only [Cfg.fine,Cfg.pair,Bool.and_eq_true,decide_eq_true_eq];omega
theorem UZ (a b:Int) (ha:0<=a/\a<=1000000) (hb:0<=b/\b<=1000000):Qa prog 54 #[WL WK a,WL WK b] [] fun e gs=>e=WM (.agg (Yq a b).cells)/\gs=[]:=by
 have e1:max 0 a=a:=by omega
 have e2:max 0 b=b:=by omega
 unfold Yq;rw [e1,e2];simp only [Cfg.cells];have h1:0<=a % 4/\a % 4<4:=by omega
 have h2:0<=b % 12/\b % 12<12:=by omega
 have h3:0<=b % 7/\b % 7<7:=by omega
 have h4:0<=b % 3/\b % 3<3:=by omega
 have h5:0<=b % 4/\b % 4<4:=by omega
 refine GO fun w HT=>?_
 go_enter func54,ntmps54
 go_wp2_with fail
 have HT2:=Vh (HT.out.a 30 #[WL WK (1+a % 4),WL WK (1+b % 12),WL WK (1+b % 7),WL WK (1+b % 3),WL WK (1+b % 4),WL WK 4]);obtain ⟨r0,r1,r2,r3,r4,r5⟩:=HT2.c6 0 0 0 1 2 3 4 5;simp only [aT] at r0 r1 r2 r3 r4 r5;exact bodyPost_ret (v:=.agg #[WL WK (1+a % 4),WL WK (1+b % 12),WL WK (1+b % 7),WL WK (1+b % 3),WL WK (1+b % 4),WL WK 4]) (by simp [results,results54,go_sem,r0,r1,r2,r3,r4,r5]) rfl ⟨_,⟨rfl,rfl⟩,HT2.p []⟩
theorem Vt {S:SvS} {t:Nat × Th} (h:t∈S.iH):t.1<S.own.length+S.aL.length:=by
 rcases YE.1 h with h | h
 ·obtain ⟨k,_,_,_,h4⟩:=E5 _ _ _ h
  have:=(XA.1 h4).1;omega
 ·obtain ⟨j,_,h2,h3⟩:=Bu _ _ _ _ h
  omega
theorem Uw {S:SvS} {a:Nat} (h:a∈S.bM):(S.stepS a).2=0:=by
 obtain ⟨t,ht,rfl⟩:=YB.1 h;obtain ⟨h1,h2⟩:=List.mem_filter.1 ht;have h3:=Vt h1;unfold SvS.stepS;rw [if_neg (by omega)];cases hp:S.fD t.1 with
 | some u=>rfl
 | none =>
   have:=List.find?_eq_none.1 hp t h1;simp [h2] at this
end
section
open Go.RowKit Go.Shelf Go.Maps Go.ChangeMaps Go.MapKept
structure PlS where
 S:SvS
 cO:Int
 steps:Nat
 dJ:Nat
 ws:Nat->Option Nat
def jP (ws:Nat->Option Nat) (t n:Nat):Nat->Option Nat:=fun x=>if x=t then some n else ws x
def kV (ws:Nat->Option Nat) (t:Nat):Nat->Option Nat:=fun x=>if x=t then none else ws x
def oP (ws:Nat->Option Nat) (t:Nat):Nat:=match ws t with
 | some n=>n+1
 | none=>0
def qG (ws:Nat->Option Nat) (s:(Nat->Option Nat) × Nat) (t:Nat):(Nat->Option Nat) × Nat:=(jP s.1 t (oP ws t),max s.2 (oP ws t))
def rE (ws:Nat->Option Nat) (t:Nat):Nat->Option Nat:=match ws t with
 | some _=>ws
 | none=>jP ws t 0
def PlS.made (P:PlS) (at_:Nat):PlS :=
 { P with steps:=P.steps+1,ws:=(P.S.bM.foldl (qG (kV P.ws at_)) (fun _=>none,P.dJ)).1,dJ:=(P.S.bM.foldl (qG (kV P.ws at_)) (fun _=>none,P.dJ)).2 }
def PlS.look (P:PlS):PlS:={ P with ws:=P.S.bM.foldl rE P.ws }
def PlS.step (P:PlS) (at_:Nat):PlS:=if (P.S.stepS at_).2=0 then ({ P with S:=(P.S.stepS at_).1 }:PlS).made at_ else { P with S:=(P.S.stepS at_).1 }
def PlS.round (P:PlS):PlS:=P.S.bM.foldl PlS.step P
def PlS.rounds:Nat->PlS->PlS
 | 0,P=>P
 | n+1,P=>PlS.rounds n P.round
theorem PlS.gU:∀ (n:Nat) (P:PlS),PlS.rounds (n+1) P=(PlS.rounds n P).round
 | 0,_=>rfl
 | n+1,P=>by rw [PlS.rounds,PlS.gU n];rfl
def PlS.call (P:PlS) (th:Int) (c:Q4):PlS:=({ P with S:=P.S.cr 0 th c }:PlS).look
structure nH (N:Nat) (P:PlS):Prop where
 steps:P.steps<=N
 dJ:P.dJ<=N
 ws:∀ t n,P.ws t=some n->n<=N
theorem nH.mono {N M:Nat} {P:PlS} (h:nH N P) (hm:N<=M):nH M P:=⟨XR h.steps hm,XR h.dJ hm,fun t n e=>XR (h.ws t n e) hm⟩
theorem Ul {ws:Nat->Option Nat} {N:Nat} (h:∀ t n,ws t=some n->n<=N) (t:Nat):oP ws t<=N+1:=by
 unfold oP;cases hw:ws t with
 | none=>exact XC _
 | some n=>exact Nat.succ_le_succ (h t n hw)
theorem Nz {ws:Nat->Option Nat} {N a:Nat} (h:∀ t n,ws t=some n->n<=N):∀ t n,kV ws a t=some n->n<=N:=by
 intro t n e;unfold kV at e;split at e
 ·cases e
 ·exact h t n e
theorem P7 {ws:Nat->Option Nat} {N a x:Nat} (h:∀ t n,ws t=some n->n<=N) (hx:x<=N):∀ t n,jP ws a x t=some n->n<=N:=by
 intro t n e;unfold jP at e;split at e
 ·cases e;exact hx
 ·exact h t n e
theorem Ng {ws:Nat->Option Nat} {N:Nat} (h:∀ t n,ws t=some n->n<=N):∀ (l:List Nat) (s:(Nat->Option Nat) × Nat),(∀ t n,s.1 t=some n->n<=N+1)->s.2<=N+1 ->
 (∀ t n,(l.foldl (qG ws) s).1 t=some n->n<=N+1)/\(l.foldl (qG ws) s).2<=N+1
 | [],s,h1,h2=>⟨h1,h2⟩
 | t::l,s,h1,h2=>Ng h l _ (P7 h1 (Ul h t)) (Nat.max_le.2 ⟨h2,Ul h t⟩)
theorem nH.made {N:Nat} {P:PlS} (h:nH N P) (a:Nat):nH (N+1) (P.made a):=by
 obtain ⟨h1,h2⟩:=Ng (Nz (a:=a) h.ws) P.S.bM (fun _=>none,P.dJ) (fun t n e=>by cases e) (Nat.le_succ_of_le h.dJ);exact ⟨Nat.succ_le_succ h.steps,h2,h1⟩
theorem UO {N:Nat}:∀ (l:List Nat) (ws:Nat->Option Nat),(∀ t n,ws t=some n->n<=N)->∀ t n,(l.foldl rE ws) t=some n->n<=N
 | [],_,h=>h
 | t::l,ws,h=>UO l _ (by
   unfold rE;cases hw:ws t with
   | none=>exact P7 h (XC _)
   | some n=>exact h)
theorem nH.look {N:Nat} {P:PlS} (h:nH N P):nH N P.look:=⟨h.steps,h.dJ,UO _ _ h.ws⟩
theorem nH.uU {N:Nat} {P:PlS} (h:nH N P) (S:SvS):nH N { P with S:=S }:=⟨h.steps,h.dJ,h.ws⟩
def kR (m:Lit->Option Value) (ws:Nat->Option Nat):Prop:=∀ t:Nat,m (.int (WK) (t:Int))=(ws t).map fun n=>.int (WK) (n:Int)
theorem P4 {a b:Nat} (h:a≠b):(Lit.int (WK) (a:Int):Lit)≠.int (WK) (b:Int):=by intro x;injection x with _ x;omega
theorem Ex {m:Lit->Option Value} {ws:Nat->Option Nat} (h:kR m ws) (t n:Nat):kR (pg m (.int (WK) (t:Int)) (.int (WK) (n:Int))) (jP ws t n):=by
 intro x;unfold jP;by_cases e:x=t
 ·subst e;simp [pg]
 ·simp only [pg,if_neg (P4 e),if_neg e];exact h x
theorem qxm {m:Lit->Option Value} {ws:Nat->Option Nat} (h:kR m ws) (t:Nat):kR (q5z m (.int (WK) (t:Int))) (kV ws t):=by
 intro x;unfold kV;by_cases e:x=t
 ·subst e;simp [q5z]
 ·simp only [q5z,if_neg (P4 e),if_neg e];exact h x
theorem R4:kR Gc (fun _=>none):=fun _=>rfl
theorem qh (t:Nat) (h:t<9223372036854775808):keyOf prog 3 (.int (WK) (t:Int))=some (.int (WK) (t:Int)):=keyOf_int_mk underlying3 (WalkArith.wf_i64 ⟨by omega,by omega⟩)
theorem Z4:Keyed prog 3:=int_keyed underlying3
theorem qc2 (w:World):(zeroValue 3).run prog w=.ok (.int (WK) 0) w:=by kernel_rfl
section
variable {P:Program} {K T E:TypeId} {b n z:Nat} {m:Lit->Option Value} {g:List ak} {h H:GH} {w w1:World}
theorem TG.mV (TT:TG h w H w1) (i:Nat) (hi:H.getD i []=g) (r:nA P K b n m z g) (hK:Keyed P K) (ht:P.underlying T=some (.map K E)) (zero:Value) (hz:∀ w,(zeroValue E).run P w=.ok zero w) {key:Value} {kl:Lit} (hkey:keyOf P K key=some kl) :
 (Instr.lookup T (.map (some b)) key false).run P w1=.ok ((m kl).getD zero) w1:=by
 obtain ⟨D,hown,hv⟩:=TT.l9 i hi r;obtain ⟨v,ps,hrun,hR⟩:=hown.lookup hK ht (hz w1) (zd:=.held zero) (zp:=[]) rfl hkey
 have e:v=(m kl).getD zero:=by
  rw [(hv.2.2 kl (hK.key hkey)).2 zero] at hR;simp only [EP,Option.some.injEq,Prod.mk.injEq,DataW.held.injEq] at hR;exact hR.1
 subst e;exact hrun
end
def fE (pb sb mb:Nat) (cO:Int) (steps dJ:Nat):List ak:=[cl pb 218 #[Qb sb,.int (WK) cO,.int (WK) (steps:Int),.int (WK) (dJ:Int),.map (some mb)]]
structure Ei (N:Nat) (L:Lay) (sb mb:Nat) (P:PlS) (gS gM:List ak):Prop where
 sv:jW N L sb P.S gS
 mp:∃ n m z,nA prog 3 mb n m z gM/\kR m P.ws/\n<=5000*(N+1)
 pn:nH N P
def qc (N:Nat) (L:Lay) (pb sb:Nat) (P:PlS) (g:List ak):Prop:=∃ mb gS gM,Ei N L sb mb P gS gM/\g=fE pb sb mb P.cO P.steps P.dJ++(gS++gM)
theorem Ei.mono {N M:Nat} {L:Lay} {sb mb:Nat} {P:PlS} {gS gM:List ak} (h:Ei N L sb mb P gS gM) (hm:N<=M):Ei M L sb mb P gS gM:=by
 obtain ⟨n,m,z,h1,h2,h3⟩:=h.mp;exact ⟨h.sv.mono hm,⟨n,m,z,h1,h2,by omega⟩,h.pn.mono hm⟩
theorem qc.mono {N M:Nat} {L:Lay} {pb sb:Nat} {P:PlS} {g:List ak} (h:qc N L pb sb P g) (hm:N<=M):qc M L pb sb P g:=by
 obtain ⟨mb,gS,gM,h1,h2⟩:=h;exact ⟨mb,gS,gM,h1.mono hm,h2⟩
theorem Mo {N:Nat} {L:Lay} {sb:Nat} {B:SvS} {g:List ak} (h:jW N L sb B g):B.bM.length<=2000/\∀ t∈B.bM,t<1000000:=by
 obtain ⟨S,rfl,hn,_⟩:=h;rw [Sm];refine ⟨XR (by unfold SvS.bM;rw [XE];exact List.length_filter_le _ _) (Vs hn),fun t ht=>?_⟩
 obtain ⟨u,hu,rfl⟩:=YB.1 ht;have h1:=Vt (List.mem_filter.1 hu).1;have h2:=hn.ol;have h3:=hn.cl;omega
section
variable {N:Nat} {L:Lay} {pb sb mb:Nat} {P:PlS} {gS gM:List ak}
def zo (P:PlS) (a k:Nat):(Nat->Option Nat) × Nat:=(P.S.bM.take k).foldl (qG (kV P.ws a)) (fun _=>none,P.dJ)
theorem qpq {P:PlS} {a k t:Nat} (h:P.S.bM[k]?=some t):zo P a (k+1)=qG (kV P.ws a) (zo P a k) t:=by
 obtain ⟨h1,h2⟩:=XA.1 h;unfold zo;rw [XD h1,h2,List.foldl_append];rfl
theorem qxr {M:Nat} (hp:nH M P) (a k:Nat):(∀ t n,(zo P a k).1 t=some n->n<=M+1)/\(zo P a k).2<=M+1 :=
 Ng (Nz (a:=a) hp.ws) _ _ (fun t n e=>by cases e) (Nat.le_succ_of_le hp.dJ)
theorem q6w (f:Nat->Option Nat) (t x y:Nat):jP (jP f t x) t y=jP f t y:=by
 funext k
 unfold jP;split <;> rfl
theorem P6 (f:Nat->Option Nat) (t x:Nat):jP f t x t=some x:=if_pos rfl
theorem kR.at {m:Lit->Option Value} {ws:Nat->Option Nat} (h:kR m ws) {t n:Nat} (hw:ws t=some n):(m (.int (WK) (t:Int))).getD (.int (WK) 0)=.int (WK) (n:Int)/\(m (.int (WK) (t:Int))).isSome=true:=by rw [h t,hw];exact ⟨rfl,rfl⟩
theorem kR.no {m:Lit->Option Value} {ws:Nat->Option Nat} (h:kR m ws) {t:Nat} (hw:ws t=none):(m (.int (WK) (t:Int))).getD (.int (WK) 0)=.int (WK) 0/\(m (.int (WK) (t:Int))).isSome=false:=by rw [h t,hw];exact ⟨rfl,rfl⟩
theorem q9m (hs:jW (N+1) L sb P.S gS) (hmp:∃ n m z,nA prog 3 mb n m z gM/\kR m P.ws/\n<=5000*(N+2)) (hp:nH N P) (hN:N<999990) (a:Nat) (ha:a<1000000) :
 Qa prog 125 #[Qb pb,.int (WK) a] [fE pb sb mb P.cO P.steps P.dJ,gS,gM] fun e gs =>
  ∃ Pg sP Dm,e=WM (WO #[])/\Ei (N+1) L sb Pg (P.made a) sP Dm/\gs=[fE pb sb Pg P.cO (P.made a).steps (P.made a).dJ,sP,Dm]:=by
 obtain ⟨n,m,z,hm,hl,hn⟩:=hmp;have xH:=Vh (Oa hs (by omega));obtain ⟨wO,hmt⟩:=Mo hs;have h1:=hp.steps;have h2:=hp.dJ;have HS:=Vh hs;have HP:=Vh hp;have HM:=Vh hm;have HL:=Vh hl;have hmm:=@run_makeMap prog;obtain ⟨S,cO,steps,dJ,ws⟩:=P;simp only at h1 h2 wO hmt HL xH HS |-;refine GO fun w HT=>?_
 clear hs hp hm hl;obtain ⟨p0,p2,p3,p4⟩:=HT.c4 0 0 0 2 3 4;have fp2:=HT.f 0 0 2;simp only [fE,aC] at p0 p2 p3 p4;have eT:=HT.l 0 0;simp only [] at eT;go_enter func125,ntmps125
 go_wp2_with (
  at_delete
  (with_reducible refine qis rfl (.tmp 19) (.tmp 20) rfl Z4 underlying216 (HT.out.set 0 0 rfl 2 (.int (WK) ((steps:Int)+1))) 2 rfl rfl HM.out rfl (.int (WK) (a:Int)) (.int (WK) (a:Int)) rfl (qh a (by omega)) ?_)
  intro w2 g2 r2 T2;simp only [WW,WX] at T2;have HT:=Vh (T2.eq (H':=[fE pb sb mb cO (steps+1) dJ,gS,g2]) rfl);have Ov:=Vh r2;have HL2:=Vh (qxm HL a);clear T2 r2 p0 p2 fp2 p3 p4;obtain ⟨p0,p3,p4⟩:=HT.c3 0 0 0 3 4;simp only [fE,aC] at p0 p3 p4;have eT:=HT.l 0 0
  simp only [] at eT)
 obtain ⟨vC,zG⟩:∃ x,w2.heap.size=x:=⟨_,rfl⟩;have HT:=Vh (HT.out.put zG.symm (.map #[] 0));rw [zG];go_wp2_with fail
 refine Qa.run xH HT [1] ?_
 rintro e w1 gs ⟨v,gl,oF,rfl,hrow,hs1,rfl⟩ HT;simp only [PU] at HT;obtain ⟨av,cap,hv⟩:=Q1.val hrow;subst hv;have sH:=Vh hrow;have wB:=Vh hs1;clear hrow hs1 p0 p3 p4 eT zG;obtain ⟨M,hM⟩:∃ M,S.bM.length=M:=⟨_,rfl⟩;have Cv:=Vh hmt;have oz:=Vh hM;rw [hM] at wO;rw [oz.out];clear hM hmt;have HT:=Vh (HT.out.eq (H':=[fE pb sb mb cO (steps+1) dJ,oF,g2,[(vC,.map #[] 0)],gl]) rfl);go_wp2_with fail
 obtain ⟨PP,yX⟩:∃ PP:PlS,PP=⟨S,cO,steps,dJ,ws⟩:=⟨_,rfl⟩;have bD:=Vh yX;have T1:=HT.out
 go_loopw [28] (fun i wr=>∃ (k n2 z2:Nat) (m2:Lit->Option Value) (gm:List ak),k<=M/\i=.int (WK) k/\nA prog 3 vC n2 m2 z2 gm/\kR m2 (zo PP a k).1/\n2<=2*k/\TG [fE pb sb mb cO steps dJ,gS,gM] w [fE pb sb mb cO (steps+1) (zo PP a k).2,oF,g2,gm,gl] wr) (fun i _=>M+1 - (intOf i).toNat)
 case atStart=>exact ⟨0,0,0,Gc,_,XC _,rfl,Ui _ _ _,R4,by omega,by rw [yX];exact T1⟩
 case round =>
  obtain ⟨k,n2,z2,m2,gm,hk,rfl,hm2,hl2,hn2,T⟩:=hrel;clear T1 yX;by_cases hlt:k<M
  ·obtain ⟨t,ht⟩:∃ t,S.bM[k]?=some t:=⟨_,WY (by rw [oz.out];exact hlt)⟩
   have Ks:=Cv.out t (XB ht);have hnx:=qpq (P:=PP) (a:=a) (k:=k) (t:=t) (by rw [bD.out];exact ht);obtain ⟨rb,cp,hv,hb⟩:=xu sH T 4 rfl (by simp) (k:=k) (x:=.int (WK) (t:Int)) (by unfold vP;rw [WT,ht];rfl);rw [oz.out] at hv;obtain ⟨rfl,rfl⟩:av=some ⟨rb,0,none⟩/\cap=cp:=by cases hv;exact ⟨rfl,rfl⟩
   have hle:=qxr HP a k;have hle2:(zo PP a k).2<=N+1:=by rw [bD.out];exact hle.2
   have HT:=Vh T;have yF:=Vh hm2;have vX:=Vh hl2;have lS:=Vh hnx;obtain ⟨F,hF⟩:∃ F,zo PP a k=F:=⟨_,rfl⟩;rw [hF] at lS vX hle2 HT;obtain ⟨f1,lo⟩:=F;simp only at vX hle2 HT;have zO:∀ x n,kV ws a x=some n->n<=N:=Nz HP.ws;clear T hm2 hl2 hnx ht hv hle hF;cases hw:kV ws a t with
   | none =>
     have hlk:=HL2.no hw;have vW:=Vh (show qG (kV ws a) (f1,lo) t=(jP f1 t 0,lo) by unfold qG oP;rw [hw];simp);clear zO hw
     go_wp2_with (
      first
      | (at_mapUpdate
         (with_reducible refine Jq rfl (.tmp 32) (.tmp 33) _ rfl Z4 underlying216 HT.out 3 rfl rfl yF.out (by unfold maxLen;omega) rfl (.int (WK) (t:Int)) (.int (WK) 0) (.int (WK) (t:Int)) rfl rfl (qh t (by omega)) ?_)
         intro w3 g3 r3 T3;simp only [WW,WX] at T3;have HT:=Vh T3;have yG:=Vh r3;have uW:=Vh (show kR (pg m2 (.int (WK) (t:Int)) (.int (WK) 0)) (jP f1 t 0) from Ex vX t 0);clear T3 r3;obtain ⟨p0,p3,p4⟩:=HT.c3 0 0 0 3 4;have eT:=HT.l 0 0
         simp only [fE,aC] at p0 p3 p4 eT)
      | (at_mapUpdate
         (with_reducible refine Jq rfl (.tmp 49) (.tmp 50) _ rfl Z4 underlying216 HT.out 3 rfl rfl yG.out (by unfold maxLen;omega) rfl (.int (WK) (t:Int)) (.int (WK) ((n:Int)+1)) (.int (WK) (t:Int)) rfl rfl (qh t (by omega)) ?_)
         intro w4 g4 r4 T4;simp only [WW,WX] at T4;have HT:=Vh T4;have I5:=Vh r4;have I4:=Vh (show kR (pg (pg m2 (.int (WK) (t:Int)) (.int (WK) 0)) (.int (WK) (t:Int)) (.int (WK) ((n:Int)+1))) (jP (jP f1 t 0) t (n+1)) from Ex uW t (n+1));clear T4 r4 p0 p3 p4 eT;obtain ⟨p0,p3,p4⟩:=HT.c3 0 0 0 3 4;have eT:=HT.l 0 0
         simp only [fE,aC] at p0 p3 p4 eT)
      | (at_lookup
         (with_reducible refine Jd rfl _ _ rfl Z4 underlying216 (.int (WK) 0) qc2 HT.out 2 rfl Ov.out rfl (.int (WK) (t:Int)) (.int (WK) (t:Int)) rfl (qh t (by omega)) ?_)
         rw [hlk.1,hlk.2]))
     have HR4:=Vh (show ∀ q,(Instr.lookup 216 (.map (some vC)) (.int (WK) (t:Int)) false).run prog (XY w3 q)=.ok (.int (WK) 0) (XY w3 q) from fun q=>by
      have:=(HT.drewN q).mV 3 rfl yG Z4 underlying216 (.int (WK) 0) qc2 (qh t (by omega));rw [(uW.out.at (P6 _ _ _)).1] at this
      exact this)
     have hr4:=HR4.out;have emx:max (lo:Int) 0=((max lo 0:Nat):Int):=by omega
     have fp3:=HT.f 0 0 3;refine Mx 11 ?_
     simp only [dx]
     repeat (go_big_quiet_step ((fail)))
     refine WZ (QT HT fun nq HT=>?_)
     go_wp2_with fail
     refine ⟨rfl,?_⟩
     go_wp2
     have T5:=(HT.set 0 0 rfl 3 (.int (WK) (lo:Int))).eq (H':=[fE pb sb mb cO (steps+1) lo,oF,g2,g3,gl]) rfl;go_roundw
     case rel=>exact ⟨k+1,_,_,_,g3,by omega,by go_num,yG,by rw [lS.out,bD.out,vW.out];exact uW,by omega,by rw [lS.out,bD.out,vW.out];exact T5⟩
     case measure=>simp [intOf];omega
   | some n =>
     have hlk:=HL2.at hw;have hnN:=zO t n hw
     have pV:t≠a:=by
      intro e;unfold kV at hw;rw [if_pos e] at hw;cases hw
     have vW:=Vh (show qG (kV ws a) (f1,lo) t=(jP f1 t (n+1),max lo (n+1)) by unfold qG oP;rw [hw]);clear zO hw;have htb:((t:Int) != (a:Int))=true:=bne_iff_ne.2 (by omega)
     go_wp2_with (
      first
      | (at_mapUpdate
         (with_reducible refine Jq rfl (.tmp 32) (.tmp 33) _ rfl Z4 underlying216 HT.out 3 rfl rfl yF.out (by unfold maxLen;omega) rfl (.int (WK) (t:Int)) (.int (WK) 0) (.int (WK) (t:Int)) rfl rfl (qh t (by omega)) ?_)
         intro w3 g3 r3 T3;simp only [WW,WX] at T3;have HT:=Vh T3;have yG:=Vh r3;have uW:=Vh (show kR (pg m2 (.int (WK) (t:Int)) (.int (WK) 0)) (jP f1 t 0) from Ex vX t 0);clear T3 r3;obtain ⟨p0,p3,p4⟩:=HT.c3 0 0 0 3 4;have eT:=HT.l 0 0
         simp only [fE,aC] at p0 p3 p4 eT)
      | (at_mapUpdate
         (with_reducible refine Jq rfl (.tmp 49) (.tmp 50) _ rfl Z4 underlying216 HT.out 3 rfl rfl yG.out (by unfold maxLen;omega) rfl (.int (WK) (t:Int)) (.int (WK) ((n:Int)+1)) (.int (WK) (t:Int)) rfl rfl (qh t (by omega)) ?_)
         intro w4 g4 r4 T4;simp only [WW,WX] at T4;have HT:=Vh T4;have I5:=Vh r4;have I4:=Vh (show kR (pg (pg m2 (.int (WK) (t:Int)) (.int (WK) 0)) (.int (WK) (t:Int)) (.int (WK) ((n:Int)+1))) (jP (jP f1 t 0) t (n+1)) from Ex uW t (n+1));clear T4 r4 p0 p3 p4 eT;obtain ⟨p0,p3,p4⟩:=HT.c3 0 0 0 3 4;have eT:=HT.l 0 0
         simp only [fE,aC] at p0 p3 p4 eT)
      | (at_lookup
         (with_reducible refine Jd rfl _ _ rfl Z4 underlying216 (.int (WK) 0) qc2 HT.out 2 rfl Ov.out rfl (.int (WK) (t:Int)) (.int (WK) (t:Int)) rfl (qh t (by omega)) ?_)
         rw [hlk.1,hlk.2]))
     have I8:=Vh (show ∀ q,(Instr.lookup 216 (.map (some vC)) (.int (WK) (t:Int)) false).run prog (XY w4 q)=.ok (.int (WK) ((n:Int)+1)) (XY w4 q) from fun q=>by
      have:=(HT.drewN q).mV 3 rfl I5 Z4 underlying216 (.int (WK) 0) qc2 (qh t (by omega));rw [(I4.out.at (P6 _ _ _)).1] at this
      exact this)
     have hr5:=I8.out;have emx:max (lo:Int) ((n:Int)+1)=((max lo (n+1):Nat):Int):=by omega
     simp only [Act.put];have fp3:=HT.f 0 0 3;refine Mx 11 ?_
     simp only [dx]
     repeat (go_big_quiet_step ((fail)))
     refine WZ (QT HT fun nq HT=>?_)
     go_wp2_with fail
     refine ⟨rfl,?_⟩
     go_wp2
     have T5:=(HT.set 0 0 rfl 3 (.int (WK) ((max lo (n+1):Nat):Int))).eq (H':=[fE pb sb mb cO (steps+1) (max lo (n+1)),oF,g2,g4,gl]) rfl;go_roundw
     case rel=>exact ⟨k+1,_,_,_,g4,by omega,by go_num,I5,by rw [lS.out,bD.out,vW.out,<- q6w f1 t 0];exact I4,by omega,by rw [lS.out,bD.out,vW.out];exact T5⟩
     case measure=>simp [intOf];omega
  ·obtain rfl:k=M:=by omega
   have hend:zo PP a k=PP.S.bM.foldl (qG (kV PP.ws a)) (fun _=>none,PP.dJ):=by
    unfold zo;rw [XZ (by rw [bD.out];exact YK oz.out)]
   have hpn:=HP.made a;rw [<- bD.out] at hpn;have HPN:=Vh hpn;have HE:=Vh hend;have HT:=Vh T;have HX:=Vh (WS hm2 (WS hl2 hn2));clear T hm2 hl2 hend hpn;obtain ⟨p0,p3,p4⟩:=HT.c3 0 0 0 3 4;have fp4:=HT.f 0 0 4;simp only [fE,aC] at p0 p3 p4;have eT:=HT.l 0 0;simp only [] at eT;go_wp2
   have OV:PP.made a=⟨S,cO,steps+1,(zo PP a k).2,(zo PP a k).1⟩:=by
    rw [HE.out];unfold PlS.made;rw [bD.out]
   rw [<- bD.out,OV];exact XT (XU rfl _ _ _) rfl ⟨_,⟨vC,oF,gm,rfl,⟨wB,⟨n2,m2,z2,HX.1,HX.2.1,by have:=HX.2.2;omega⟩,by rw [<- OV];exact HPN⟩,rfl⟩,((HT.set 0 0 rfl 4 (.map (some vC))).p [0,1,3]).eq (H':=[fE pb sb vC cO (steps+1) (zo PP a k).2,oF,gm]) rfl⟩
end
section
variable {N:Nat} {L:Lay} {pb sb mb:Nat} {P:PlS} {gS gM g:List ak}
def rA (P:PlS) (k:Nat):Nat->Option Nat:=(P.S.bM.take k).foldl rE P.ws
theorem qpp {P:PlS} {k t:Nat} (h:P.S.bM[k]?=some t):rA P (k+1)=rE (rA P k) t:=by
 obtain ⟨h1,h2⟩:=XA.1 h;unfold rA;rw [XD h1,h2,List.foldl_append];rfl
theorem q9l {K:Nat} (hK:K<=9000000000) (hs:jW N L sb P.S gS) (hmp:∃ n m z,nA prog 3 mb n m z gM/\kR m P.ws/\n<=K) (hN:N<999998) :
 Qa prog 169 #[Qb pb] [fE pb sb mb P.cO P.steps P.dJ,gS,gM] fun e gs =>
  ∃ sP Dm,e=WM (WO #[])/\jW N L sb P.S sP/\(∃ n m z,nA prog 3 mb n m z Dm/\kR m P.look.ws/\n<=K+2000)/\gs=[fE pb sb mb P.cO P.steps P.dJ,sP,Dm]:=by
 obtain ⟨n,m,z,hm,hl,hn⟩:=hmp;have xH:=Vh (Oa hs (by omega));obtain ⟨wO,hmt⟩:=Mo hs;have HM:=Vh hm;have HL:=Vh hl;obtain ⟨S,cO,steps,dJ,ws⟩:=P;simp only at wO hmt HL xH |-;refine GO fun w HT=>?_
 clear hs hm hl;obtain ⟨p0,p4⟩:=HT.c2 0 0 0 4;simp only [fE,aC] at p0 p4;have eT:=HT.l 0 0;simp only [] at eT;go_enter func169,ntmps169
 go_wp2_with fail
 refine Qa.run xH HT [1] ?_
 rintro e w1 gs ⟨v,gl,oF,rfl,hrow,hs1,rfl⟩ HT;simp only [PU] at HT;obtain ⟨av,cap,hv⟩:=Q1.val hrow;subst hv;have sH:=Vh hrow;have wB:=Vh hs1;clear hrow hs1 p0 p4 eT;obtain ⟨M,hM⟩:∃ M,S.bM.length=M:=⟨_,rfl⟩;have Cv:=Vh hmt;have oz:=Vh hM;rw [hM] at wO;rw [oz.out];clear hM hmt;go_wp2_with fail
 obtain ⟨PP,yX⟩:∃ PP:PlS,PP=⟨S,cO,steps,dJ,ws⟩:=⟨_,rfl⟩;have bD:=Vh yX;have T1:=HT.out
 go_loopw [12] (fun i wr=>∃ (k n2 z2:Nat) (m2:Lit->Option Value) (gm:List ak),k<=M/\i=.int (WK) k/\nA prog 3 mb n2 m2 z2 gm/\kR m2 (rA PP k)/\n2<=K+k/\TG [fE pb sb mb cO steps dJ,gS,gM] w [fE pb sb mb cO steps dJ,oF,gm,gl] wr) (fun i _=>M+1 - (intOf i).toNat)
 case atStart=>exact ⟨0,n,z,m,gM,XC _,rfl,HM,by rw [yX];exact HL,by omega,T1⟩
 case round =>
  obtain ⟨k,n2,z2,m2,gm,hk,rfl,hm2,hl2,hn2,T⟩:=hrel;clear T1 yX;by_cases hlt:k<M
  ·obtain ⟨t,ht⟩:∃ t,S.bM[k]?=some t:=⟨_,WY (by rw [oz.out];exact hlt)⟩
   have Ks:=Cv.out t (XB ht);have lS:=Vh (qpp (P:=PP) (k:=k) (t:=t) (by rw [bD.out];exact ht));obtain ⟨rb,cp,hv,hb⟩:=xu sH T 3 rfl (by simp) (k:=k) (x:=.int (WK) (t:Int)) (by unfold vP;rw [WT,ht];rfl);rw [oz.out] at hv;obtain ⟨rfl,rfl⟩:av=some ⟨rb,0,none⟩/\cap=cp:=by cases hv;exact ⟨rfl,rfl⟩
   have HT:=Vh T;have yF:=Vh hm2;have vX:=Vh hl2;clear T hm2 hl2 ht hv;obtain ⟨p0,p4⟩:=HT.c2 0 0 0 4;have eT:=HT.l 0 0;simp only [fE,aC] at p0 p4 eT;cases hw:rA PP k t with
   | some x =>
     have hlk:=vX.at hw;have vW:=Vh (show rE (rA PP k) t=rA PP k by unfold rE;rw [hw]);clear hw;go_wp2_with (at_lookup;(with_reducible refine Jd rfl _ _ rfl Z4 underlying216 (.int (WK) 0) qc2 HT.out 2 rfl yF.out rfl (.int (WK) (t:Int)) (.int (WK) (t:Int)) rfl (qh t (by omega)) ?_);rw [hlk.1,hlk.2])
     go_roundw
     case rel=>exact ⟨k+1,n2,z2,m2,gm,by omega,by go_num,yF,by rw [lS.out,vW.out];exact vX,by omega,HT⟩
     case measure=>simp [intOf];omega
   | none =>
     have hlk:=vX.no hw;have vW:=Vh (show rE (rA PP k) t=jP (rA PP k) t 0 by unfold rE;rw [hw]);clear hw
     go_wp2_with (
      first
      | (at_lookup;(with_reducible refine Jd rfl _ _ rfl Z4 underlying216 (.int (WK) 0) qc2 HT.out 2 rfl yF.out rfl (.int (WK) (t:Int)) (.int (WK) (t:Int)) rfl (qh t (by omega)) ?_);rw [hlk.1,hlk.2])
      | (at_mapUpdate
         (with_reducible refine Jq rfl (.tmp 30) (.tmp 31) _ rfl Z4 underlying216 HT.out 2 rfl rfl yF.out (by unfold maxLen;omega) rfl (.int (WK) (t:Int)) (.int (WK) 0) (.int (WK) (t:Int)) rfl rfl (qh t (by omega)) ?_)
         intro w3 g3 r3 T3;simp only [WW,WX] at T3;have HT:=Vh T3;have yG:=Vh r3;have uW:=Vh (show kR (pg m2 (.int (WK) (t:Int)) (.int (WK) 0)) (jP (rA PP k) t 0) from Ex vX t 0)
         clear T3 r3))
     go_roundw
     case rel=>exact ⟨k+1,_,_,_,g3,by omega,by go_num,yG,by rw [lS.out,vW.out];exact uW,by omega,HT⟩
     case measure=>simp [intOf];omega
  ·obtain rfl:k=M:=by omega
   have hend:rA PP k=PP.S.bM.foldl rE PP.ws:=by
    unfold rA;rw [XZ (by rw [bD.out];exact YK oz.out)]
   have HT:=Vh T;have HX:=Vh (WS hm2 (WS hl2 hn2));have HE:=Vh hend;clear T hm2 hl2 hend;go_wp2
   exact XT (XU rfl _ _ _) rfl ⟨_,⟨oF,gm,rfl,wB,⟨n2,m2,z2,HX.1,by have:=HX.2.1;rw [HE.out,bD.out] at this;exact this,by have:=HX.2.2;omega⟩,rfl⟩,HT.p [0,1,2]⟩
theorem q9p (h:qc N L pb sb P g) (hN:N<999990) (a:Nat) (ha:a<1000000):Qa prog 126 #[Qb pb,.int (WK) a] [g] fun e gs =>
 ∃ g',e=WM (WO #[])/\qc (N+1) L pb sb (P.step a) g'/\gs=[g']:=by
 obtain ⟨mb,gS,gM,hi,rfl⟩:=h;have HST:=Vh (zbc hi.sv (by omega) (a:Int));have HI:=Vh hi;have hcell:=@PlS.step P a;refine GO fun w HT=>?_
 clear hi hcell;have HT:=Vh (HT.out.bG (H':=[fE pb sb mb P.cO P.steps P.dJ,gS,gM]));have p0:=HT.c 0 0 0;simp only [fE,aC] at p0;have eT:=HT.l 0 0;simp only [] at eT;by_cases hz:(P.S.stepS (a:Int)).2=0
 ·have HP:=Vh (show P.step a=({ P with S:=(P.S.stepS a).1 }:PlS).made a from if_pos hz)
  rw [hz] at HST;clear hz;go_enter func126,ntmps126
  go_wp2_with fail
  refine Qa.run HST HT [1] ?_
  rintro e w1 gs ⟨oF,rfl,hs1,rfl⟩ HT;simp only [PU] at HT;have HMD:=Vh (q9m (pb:=pb) (P:={ P with S:=(P.S.stepS a).1 }) (mb:=mb) (gM:=gM) hs1 (by obtain ⟨n,m,z,h1,h2,h3⟩:=HI.mp;exact ⟨n,m,z,h1,h2,by omega⟩) (HI.pn.uU _) hN a ha);clear hs1;go_wp2_with fail
  refine Qa.run HMD HT [0,1,2] ?_
  rintro e w1 gs ⟨vC,sQ,Dn,rfl,hi2,rfl⟩ HT;simp only [PU] at HT;have HI2:=Vh hi2;clear hi2;go_wp2
  exact XT (XU rfl _ _ _) rfl ⟨_,⟨_,rfl,by rw [HP.out];exact ⟨vC,sQ,Dn,HI2,rfl⟩,rfl⟩,(HT.eq (H':=[fE pb sb vC (({ P with S:=(P.S.stepS a).1 }:PlS).made a).cO (({ P with S:=(P.S.stepS a).1 }:PlS).made a).steps (({ P with S:=(P.S.stepS a).1 }:PlS).made a).dJ,sQ,Dn]) rfl).bG⟩
 ·have HP:=Vh (show P.step a={ P with S:=(P.S.stepS a).1 } from if_neg hz)
  have hb:((P.S.stepS (a:Int)).2 == 0)=false:=beq_eq_false_iff_ne.2 hz;clear hz;go_enter func126,ntmps126
  go_wp2_with fail
  refine Qa.run HST HT [1] ?_
  rintro e w1 gs ⟨oF,rfl,hs1,rfl⟩ HT;simp only [PU] at HT;have wB:=Vh hs1;clear hs1;go_wp2
  exact XT (XU rfl _ _ _) rfl ⟨_,⟨_,rfl,by rw [HP.out];exact ⟨mb,oF,gM,⟨wB,(by obtain ⟨n,m,z,h1,h2,h3⟩:=HI.mp;exact ⟨n,m,z,h1,h2,by omega⟩),(HI.pn.uU _).mono (Nat.le_succ _)⟩,rfl⟩,rfl⟩,HT.bG⟩
theorem N6 (h:qc N L pb sb P g) (hN:N<999990) (th:Int) (c:Q4) (hc:c.wf):Qa prog 122 #[Qb pb,.int (WK) th,.agg c.cells] [g] fun e gs =>
 ∃ g',e=WM (WO #[.int (WK) (P.S.eB th c),.int (WK) (P.S.bZ th c)])/\qc (N+1) L pb sb (P.call th c) g'/\gs=[g']:=by
 obtain ⟨mb,gS,gM,hi,rfl⟩:=h;have jU:=Vh (za9 hi.sv (by omega) th c hc);have HI:=Vh hi;have HP:=Vh (show P.call th c=({ P with S:=P.S.cr 0 th c }:PlS).look from rfl);refine GO fun w HT=>?_
 clear hi hc;have HT:=Vh (HT.out.bG (H':=[fE pb sb mb P.cO P.steps P.dJ,gS,gM]));have p0:=HT.c 0 0 0;simp only [fE,aC] at p0;have eT:=HT.l 0 0;simp only [] at eT;simp only [Q4.cells] at jU |-;go_enter func122,ntmps122
 go_wp2_with fail
 have HT:=Vh (HT.out.a 38 #[.int (WK) c.kind,.int (WN) c.id,.int (WN) c.dl,.int (WN) c.per]);obtain ⟨W0,hW0⟩:∃ W0,w.alloc (.cells #[.int (WK) c.kind,.int (WN) c.id,.int (WN) c.dl,.int (WN) c.per] 38)=W0:=⟨_,rfl⟩;rw [hW0] at HT |-;obtain ⟨bb,hbb⟩:∃ bb,w.heap.size=bb:=⟨_,rfl⟩;rw [hbb] at HT |-;clear p0 eT hW0;have p0:=HT.c 0 0 0;have eT:=HT.l 0 0;simp only [fE,aC] at p0 eT;obtain ⟨b0,b1,b2,b3⟩:=HT.c4 3 0 0 1 2 3;simp only [aT] at b0 b1 b2 b3;have bI:=HT.l 3 0;simp only [] at bI;refine Mx 6 ?_
 simp only [dx]
 repeat (go_big_quiet_step ((fail)))
 refine WZ (QT HT fun nq HT=>?_)
 go_wp2_with fail
 refine Qa.run jU HT [1] ?_
 rintro e w1 gs ⟨oF,rfl,hs1,rfl⟩ HT;simp only [PU] at HT;have iI:=Vh (q9l (pb:=pb) (P:={ P with S:=P.S.cr 0 th c }) (mb:=mb) (gM:=gM) (K:=5000*(N+1)) (by omega) hs1 (by obtain ⟨n,m,z,h1,h2,h3⟩:=HI.mp;exact ⟨n,m,z,h1,h2,h3⟩) (by omega));clear hs1;go_wp2_with fail
 refine ⟨rfl,?_⟩
 go_wp2_with fail
 refine Qa.run iI HT [0,1,2] ?_
 rintro e w1 gs ⟨sQ,Dn,rfl,hs2,hm2,rfl⟩ HT;simp only [PU] at HT;have HS2:=Vh (WS hs2 hm2);clear hs2 hm2;go_wp2
 go_ret2
 exact ⟨_,⟨_,rfl,by rw [HP.out];exact ⟨mb,sQ,Dn,⟨HS2.1,(by obtain ⟨n,m,z,h1,h2,h3⟩:=HS2.2;exact ⟨n,m,z,h1,h2,by omega⟩),((HI.pn.uU (P.S.cr 0 th c)).look).mono (Nat.le_succ _)⟩,rfl⟩,rfl⟩,((HT.p [0,1,2]).eq (H':=[fE pb sb mb (({ P with S:=P.S.cr 0 th c }:PlS).look).cO (({ P with S:=P.S.cr 0 th c }:PlS).look).steps (({ P with S:=P.S.cr 0 th c }:PlS).look).dJ,sQ,Dn]) rfl).bG⟩
end
end
end Go.Proofs.YtcneeepdclgdcaaGreat
