import Derived.Test.YtcneeepdclgdcaaGreatPF36
import Derived.Test.YtcneeepdclgdcaaGreatPF33
set_option maxRecDepth 100000
set_option maxHeartbeats 4000000
namespace Go.Proofs.YtcneeepdclgdcaaGreat
open _root_.Int renaming le_refl->WK
open _root_.List renaming mem_of_getElem?->WL,eq_of_mem_replicate->WM,getD_eq_getElem?_getD->WN,mem_iff_getElem?->WO,length_cons->WQ,replicate->WR,length_nil->WS,length_set->WT,length_singleton->WU,length_replicate->WV,mem_cons_of_mem->WW,length_append->WX,mem_cons_self->WY,nil_append->WZ
open _root_.Option.some renaming inj->XA
open _root_.Nat renaming zero_le->XB
set_option linter.all false
section
open Go.RowKit Go.Shelf
def oO:Wk->ZF->Int
 | .call s k,z=>J0 s k z.x
 | .turn s k,z=>Yf s ⟨k,z.x,z.ws,z.p⟩
 | .dL s k,z=>q6 s ⟨k,z.x,z.p⟩
def SvS.dU (S:SvS):Option Nat->Int
 | none=>0
 | some a=>oO (S.ah a).w S.z
def SvS.held (S:SvS):Int:=Jr (S.aL.map fun c=>(c.k.holds.length:Int))
def SvS.phi (S:SvS):Int:=Jr (S.own.map S.dU)+216*Y7 S.z.x+2*aF S.z.p+S.held
theorem qwu (s:SC) (k:Qt) (x:Qi) (hn:x.aa.recs.length<=12):0<=J0 s k x/\J0 s k x<=400:=by
 unfold J0;split
 case h_9=>have:=vM (Zk x.aa k.slot k.aA k.event);split <;> omega
 case h_12=>split <;> omega
 case h_13 =>
  unfold Aj;split
  ·omega
  ·split
   ·omega
   ·split <;> split <;> omega
 case h_14 =>
  unfold xB;split
  ·omega
  ·rename_i q _
   have:=zZ x.aa.recs x.aa.recs.length q.slot.toNat;split
   ·omega
   ·split
    ·split <;> omega
    ·omega
 all_goals omega
def lG (p:Qz):Prop:=1<=p.room/\(p.sp=[]\/p.ch.length=p.room)/\p.ch.length<=p.room
theorem lG.put {p:Qz} (h:lG p) (f:Xm):lG (p.put f).1:=by
 unfold Qz.put;split
 ·exact h
 ·split
  ·next h2=>exact ⟨h.1,.inl h2.1,by show (p.ch++[f]).length<=p.room;rw [WX];exact h2.2⟩
  ·next h1 h2 =>
   refine ⟨h.1,.inr ?_,h.2.2⟩
   show p.ch.length=p.room
   rcases h.2.1 with h3 | h3
   ·have:¬ p.ch.length<p.room:=fun h4=>h2 ⟨h3,h4⟩
    have:=h.2.2;omega
   ·exact h3
theorem lG.take {p:Qz} (h:lG p):lG p.take.1:=by
 unfold Qz.take;split
 ·exact h
 ·next f l h1 h2=>exact ⟨h.1,.inl h2,by have:=h.2.2;rw [h1] at this;simp only [WQ] at this;show l.length<=p.room;omega⟩
 ·next f l x sp h1 h2 =>
  suffices e:(l++[x]).length=p.room from ⟨h.1,.inr e,Nat.le_of_eq e⟩
  rcases h.2.1 with h3 | h3
  ·rw [h2] at h3;cases h3
  ·rw [h1] at h3
   rw [WX,<- h3];rfl
theorem SK {p:Qz} (h:lG p) (hp:0<(p.ch.length:Int)+p.sp.length):aF p.take.1+1=aF p:=by
 unfold Qz.take aF;split
 ·next h1 =>
  exfalso
  have h0:=h.1;rw [h1] at hp;rcases h.2.1 with h3 | h3
  ·rw [h3] at hp;simp at hp
  ·rw [h1] at h3;simp at h3;omega
 ·next f l h1 h2=>rw [h1,h2];simp
 ·next f l x sp h1 h2=>rw [h1,h2];simp;omega
theorem Nh (m:MT) (z:ZT):(runT m z).2.p=z.p:=by
 cases m with
 | enter=>rfl
 | gate =>
   show (if z.x.f.closed=true then Yr 3 z else (.at none .tick,z)).2.p=z.p
   split <;> rfl
 | tick=>exact (zt 0 _).2.2.1
 | ae i=>exact (zt _ z).2.2.1
 | dI d=>rfl
 | bX d=>dsimp only [runT];split <;> rfl
 | af d=>rfl
 | aM d =>
   dsimp only [runT]
   split
   ·rfl
   ·show (Qm d 0 z).2.p=z.p;unfold Qm;split <;> rfl
 | ay=>rfl
 | bK n=>dsimp only [runT];split <;> rfl
 | ax n=>rfl
 | bz=>dsimp only [runT];split <;> rfl
 | aH=>dsimp only [runT];split <;> rfl
 | aD d i=>show (Qm d (i+1) z).2.p=z.p;unfold Qm;split <;> rfl
 | looks=>dsimp only [runT];split <;> rfl
 | bE=>dsimp only [runT];split <;> rfl
 | bB=>rfl
 | behind =>
   dsimp only [runT]
   split
   ·rfl
   ·split <;> rfl
 | aV next=>dsimp only [runT];split <;> rfl
 | aS =>
   dsimp only [runT]
   split
   ·split <;> rfl
   ·rfl
theorem qz2 (s:ST) (z:ZT) (h:lG z.p):lG (Qw s z).2.p :=
 St.keep (R:=fun z z':ZT=>lG z.p->lG z'.p) (fun _ h=>h) (fun _ _ _ a b h=>b (a h)) (fun m z h=>by rw [Nh];exact h) (fun a z h=>by
  cases a with
  | put f=>exact h.put f
  | _=>exact h) s z h
theorem q1c (s:SS) (z:ZS) (h:lG z.p):lG (stepS s z).2.p :=
 St.keep (R:=fun z z':ZS=>lG z.p->lG z'.p) (runM:=Xu) (bP:=Ya) (fun _ h=>h) (fun _ _ _ a b h=>b (a h)) (fun m z h=>by
  have e:(Xu m z).2.p=z.p:=by
   cases m with
   | shuts=>dsimp only [Xu];split <;> rfl
   | bQ=>rfl
   | az i=>rfl
   | waits=>rfl
   | bJ i=>dsimp only [Xu];split <;> rfl
   | aB i=>dsimp only [Xu];split <;> rfl
   | cK=>rfl
  rw [e];exact h) (fun a z h=>by
  cases a with
  | dE=>exact h
  | _=>exact h) s z h
theorem qwr (s:SS) (z:ZS):aF (stepS s z).2.p<=aF z.p+1:=by
 have:=St.keep (R:=fun z z':ZS=>aF z'.p=aF z.p) (runM:=Xu) (bP:=Ya) (fun _=>rfl) (fun _ _ _ a b=>b.trans a) (fun m z=>by
  cases m with
  | shuts=>dsimp only [Xu];split <;> rfl
  | bQ=>rfl
  | az i=>rfl
  | waits=>rfl
  | bJ i=>dsimp only [Xu];split <;> rfl
  | aB i=>dsimp only [Xu];split <;> rfl
  | cK=>rfl) (fun a z=>by
  cases a with
  | dE=>rfl
  | _=>rfl) s z
 have this:aF (stepS s z).2.p=aF z.p:=this;omega
theorem qub {s:ST} (h:s≠.nil):s.isNil=false:=by cases s with
 | nil=>exact absurd rfl h
 | _=>rfl
theorem UA {N:Nat} {c:dz} {z:ZF} (hcn:mP N c) (hp:lG z.p) (hm:c.may z=true):(c.step z).2.x.aa=z.x.aa/\(c.step z).2.x.au=z.x.au/\(c.step z).2.ws=z.ws/\(c.step z).2.x.f.cfg=z.x.f.cfg /\
 2*aF (c.step z).2.p+((c.step z).1.k.holds.length:Int)+1<=2*aF z.p+(c.k.holds.length:Int):=by
 obtain ⟨wb,s,n,k⟩:=c;rcases hcn.fit with ⟨h1,h2⟩ | ⟨h1,h2⟩
 ·obtain rfl:s=Jy:=h1
  have h2:k.holds=[]:=h2;have hm:decide (0<(z.p.ch.length:Int)+z.p.sp.length)=true:=hm;have:=SK hp (by simpa using hm);refine ⟨rfl,rfl,rfl,rfl,?_⟩
  show 2*aF z.p.take.1+((k.holds++[z.p.take.2.1]).length:Int)+1<=2*aF z.p+(k.holds.length:Int)
  rw [h2];simp only [WZ,WU,WS];omega
 ·obtain rfl:s=.thn (.ai .jy) .takes:=h1
  have h2:k.holds.length=1:=h2;refine ⟨rfl,rfl,rfl,rfl,?_⟩
  show 2*aF z.p+(([]:List Xm).length:Int)+1<=2*aF z.p+(k.holds.length:Int)
  rw [h2];simp
structure IW (N:Nat) (S:SvS):Prop where
 n:dV N S
 live:qz S
 sl:pJ N S
 ti:TI S
 ol:S.own.length=5
 uq:∀ (i k a:Nat),S.own[i]?=some (some a)->S.own[k]?=some (some a)->i=k
 cap:S.z.x.aa.recs.length<=12
 pf:lG S.z.p
theorem NC {α:Type} {f g:α->Int} {c:Int}:∀ {l:List α},(∀ (k:Nat) y,l[k]?=some y->g y<=f y+c)->Jr (l.map g)<=Jr (l.map f)+c*(l.length:Int)
 | [],_=>by simp [Jr]
 | b::l,h=>by
   have h1:=NC (l:=l) (f:=f) (g:=g) (c:=c) (fun k y hk=>h (k+1) y (by simpa using hk));have h2:=h 0 b rfl
   show g b+Jr (l.map g)<=f b+Jr (l.map f)+c*((b::l).length:Int)
   rw [WQ,Int.natCast_add,Int.mul_add];have:c*((1:Nat):Int)=c:=Int.mul_one c;rw [this];omega
theorem U0 {α:Type} {f g:α->Int} {c d:Int}:∀ {l:List α} {i:Nat} {x:α},l[i]?=some x->g x+d<=f x->(∀ (k:Nat) y,k≠i->l[k]?=some y->g y<=f y+c)->Jr (l.map g)+d+c<=Jr (l.map f)+c*(l.length:Int)
 | b::l,0,x,h,h1,h2=>by
   simp only [List.getElem?_cons_zero,Option.some.injEq] at h;subst h;have h3:=NC (l:=l) (f:=f) (g:=g) (c:=c) (fun k y hk=>h2 (k+1) y (by omega) (by simpa using hk))
   show g b+Jr (l.map g)+d+c<=f b+Jr (l.map f)+c*((b::l).length:Int)
   rw [WQ,Int.natCast_add,Int.mul_add];have:c*((1:Nat):Int)=c:=Int.mul_one c;rw [this];omega
 | b::l,i+1,x,h,h1,h2=>by
   have h3:=U0 (l:=l) (f:=f) (g:=g) (c:=c) (d:=d) (i:=i) (x:=x) (by simpa using h) h1 (fun k y hk hy=>h2 (k+1) y (by omega) (by simpa using hy));have h4:=h2 0 b (by omega) rfl
   show g b+Jr (l.map g)+d+c<=f b+Jr (l.map f)+c*((b::l).length:Int)
   rw [WQ,Int.natCast_add,Int.mul_add];have:c*((1:Nat):Int)=c:=Int.mul_one c;rw [this];omega
theorem q12 {rs:List Rec} (h:Ja rs<rs.length):∃ r∈rs,aX r=false:=by
 refine Classical.byContradiction fun hc=>?_
 have:Ja rs=rs.length:=List.countP_eq_length.2 fun r hr=>by
  cases hb:aX r with
  | true=>rfl
  | false=>exact absurd ⟨r,hr,hb⟩ hc
 omega
section
variable {N:Nat} {S:SvS}
theorem LK {w:Wk} (h:w.done=true) (z:ZF):oO w z=0:=by
 cases w with
 | call s k=>cases s <;> first | rfl | cases h
 | turn s k=>cases s <;> first | rfl | cases h
 | dL s k=>cases s <;> first | rfl | cases h
theorem RG {z z':ZF} {c:Int} (h:kz z.x z'.x c) (hl:z'.x.au.length=z.x.au.length) (hcap:z.x.aa.recs.length<=12) (yZ:z'.x.f.cfg.cap=z.x.f.cfg.cap) (w:Wk) (hw:w.isTurn=true->w.done=false->z'.ws=z.ws):oO w z'<=oO w z+c:=by
 have hc0:0<=c:=(KH h hcap .nil (ku 0 0 ⟨0,0,0,0⟩)).2;cases hd:w.done with
 | true=>rw [LK hd,LK hd];omega
 | false =>
   cases w with
   | call s k=>exact (KH h hcap s k).1
   | turn s k=>exact (zb0 (z:=⟨k,z.x,z.ws,z.p⟩) (z':=⟨k,z'.x,z'.ws,z'.p⟩) h rfl (hw rfl hd) hl s).1
   | dL s k=>exact zbz (z:=⟨k,z.x,z.p⟩) (z':=⟨k,z'.x,z'.p⟩) h rfl yZ s
theorem q55 (h:IW N S) (hN:N<999998) {a:Nat} (ha:a<S.all.length) (hm:(S.ah a).w.may S.z=true) :
 ∃ c,kz S.z.x ((S.ah a).w.step S.z).2.x c/\oO ((S.ah a).w.step S.z).1 ((S.ah a).w.step S.z).2+1+4*c+216*(Y7 ((S.ah a).w.step S.z).2.x - Y7 S.z.x)+2*(aF ((S.ah a).w.step S.z).2.p - aF S.z.p)<=oO (S.ah a).w S.z/\((S.ah a).w.isTurn=false->((S.ah a).w.step S.z).2.ws=S.z.ws):=by
 have hn:=h.n;have ha:=Xj ha;obtain ⟨hjn,_,_⟩:=hn.fe _ (WL ha);have hO:∀ j e,uN (S.ah a).w=some (j,e)->∃ r,S.z.x.aa.recs[j]?=some r/\bA r.w=e:=fun j e hj=>(h.sl.own.own a j e (by rw [yj ha,hj])).2
 have hp:lI (S.ah a).w<=S.z.x.aa.count - Ja S.z.x.aa.recs:=by
  have:=z6 (f:=fun j:J2=>lI j.w) (fun x=>GX x.w) ha;have:=h.sl.cnt;omega
 have hfin:=h.sl.fin a _ ha;have hgo:=h.live.go a _ ha;have rf:=h.ti.eH a _ ha;have hsl:=hn.eY.zn.core.aa;have hd:=Zi hm
 have hR:∀ s∈S.z.x.au,qc3 s.ring:=fun s hs=>by
  obtain ⟨i,hi⟩:=WO.1 hs;exact h.live.rg.ring i s.ring (by unfold Qi.rg;rw [hi];rfl)
 have hM:(0:Int)<=N/\(N:Int)<4294967295:=⟨by omega,by omega⟩;generalize (S.ah a).w=w at *;cases w with
 | call s k =>
   have hs:s≠.nil:=fun e=>by subst e;cases hd
   have hjc:JC N s (k,S.z.x):=⟨hn.eY.zn.core,hjn.wk,hjn.fit⟩;obtain ⟨c,c1,c2⟩:=q0z (M:=N) hjc hgo.1 hgo.2 hs hO hR h.cap h.sl.gen hM.2 (by have hp:z8 s k<=_:=hp;omega) (fun _ h1=>q12 (by have:=hsl.c1;have hp:z8 s k<=_:=hp;omega));refine ⟨c,c1,?_,fun _=>rfl⟩
   show J0 (J5 s (k,S.z.x)).1 (J5 s (k,S.z.x)).2.1 (J5 s (k,S.z.x)).2.2+1+4*c+216*(Y7 (J5 s (k,S.z.x)).2.2 - Y7 S.z.x)+2*(aF S.z.p - aF S.z.p)<=J0 s k S.z.x
   omega
 | turn s k =>
   have hs:s≠.nil:=fun e=>by subst e;cases hd
   have hb:TB N ⟨k,S.z.x,S.z.ws,S.z.p⟩:=⟨hn.eY.zn.core,hn.eY.zn.rest,hjn.wk,hn.eY.ws,hn.eY.iG⟩;obtain ⟨⟨c,c1,c2⟩,_⟩:=U5 (M:=N) hb hjn.fit hm hs hO (by have hp:oQ s<=_:=hp;show oQ s<=S.z.x.aa.count;omega) rf.1 h.sl.gen hM;exact ⟨c,c1,c2,fun e=>by cases e⟩
 | dL s k =>
   have hs:s≠.nil:=fun e=>by subst e;cases hd
   obtain ⟨c1,c2,c,c3,c4⟩:=q5p (z:=⟨k,S.z.x,S.z.p⟩) (M:=N) hsl hjn.fit hs hfin hO h.sl.gen hM;refine ⟨c,c3,?_,fun _=>rfl⟩
   have e1:Y7 (stepS s ⟨k,S.z.x,S.z.p⟩).2.x=Y7 S.z.x:=zj c1;have c2:aF (stepS s ⟨k,S.z.x,S.z.p⟩).2.p=aF S.z.p:=c2
   show q6 (stepS s ⟨k,S.z.x,S.z.p⟩).1 _+1+4*c+216*(Y7 (stepS s ⟨k,S.z.x,S.z.p⟩).2.x - Y7 S.z.x)+2*(aF (stepS s ⟨k,S.z.x,S.z.p⟩).2.p - aF S.z.p)<=q6 s ⟨k,S.z.x,S.z.p⟩
   rw [e1,c2];have c4:q6 (stepS s ⟨k,S.z.x,S.z.p⟩).1 (stepS s ⟨k,S.z.x,S.z.p⟩).2+1+4*c<=q6 s ⟨k,S.z.x,S.z.p⟩:=c4
   show q6 (stepS s ⟨k,S.z.x,S.z.p⟩).1 (stepS s ⟨k,S.z.x,S.z.p⟩).2+1+4*c+216*(Y7 S.z.x - Y7 S.z.x)+2*(aF S.z.p - aF S.z.p)<=q6 s ⟨k,S.z.x,S.z.p⟩
   omega
theorem q2q (h:IW N S) (hN:N<999998) {t:Th} (ht:t.here S) (hm:t.may S=true):(t.step S).phi+1<=S.phi:=by
 have hn:=h.n;cases t with
 | eH a =>
   have ht:a<S.all.length:=ht;have ha:=Xj ht;have hm:(S.ah a).w.may S.z=true:=hm;have hd:=Zi hm;obtain ⟨c,c1,c2,c3⟩:=q55 h hN ht hm;obtain ⟨hjn,_,_⟩:=hn.fe _ (WL ha);obtain ⟨k1,_,k3,_,_⟩:=LX hn.eY hjn hm (by omega);have yZ:((S.ah a).w.step S.z).2.x.f.cfg.cap=S.z.x.f.cfg.cap:=by rw [k1.zn.rest.cap,hn.eY.zn.rest.cap,k3.recs]
   obtain ⟨i,hi⟩:=h.live.own a _ ha hd
   have key:=U0 (f:=S.dU) (g:=(Th.step S (.eH a)).dU) (c:=c) (d:=1+4*c+216*(Y7 ((S.ah a).w.step S.z).2.x - Y7 S.z.x)+2*(aF ((S.ah a).w.step S.z).2.p - aF S.z.p)) hi (by
    have e:(Th.step S (.eH a)).ah a=⟨(S.ah a).kb,(S.ah a).n+1,((S.ah a).w.step S.z).1⟩:=by
     show (S.all.set a _).getD a yc=_
     rw [WN,List.getElem?_set_self ht];rfl
    show oO ((Th.step S (.eH a)).ah a).w ((S.ah a).w.step S.z).2+_<=oO (S.ah a).w S.z
    rw [e]
    show oO ((S.ah a).w.step S.z).1 ((S.ah a).w.step S.z).2+_<=_
    omega) (fun k o hk ho=>by
    have hc0:0<=c:=(KH c1 h.cap .nil (ku 0 0 ⟨0,0,0,0⟩)).2;cases o with
    | none=>show (0:Int)<=0+c;omega
    | some b =>
      have hab:b≠a:=fun e=>by subst e;exact hk (h.uq k i b ho hi)
      have e:(Th.step S (.eH a)).ah b=S.ah b:=by
       show (S.all.set a _).getD b yc=S.all.getD b yc
       rw [WN,List.getElem?_set_ne (fun e=>hab e.symm),WN]
      show oO ((Th.step S (.eH a)).ah b).w ((S.ah a).w.step S.z).2<=oO (S.ah b).w S.z+c
      rw [e];refine RG c1 k3.len h.cap yZ _ (fun i1 i2=>?_)
      refine c3 ?_
      cases pV:(S.ah a).w.isTurn with
      | false=>rfl
      | true =>
        have hb:b<S.all.length:=hn.own b (WL ho);have e1:=hn.turn b _ (Xj hb) i1 i2;have e2:=hn.turn a _ ha pV hd;rw [e1] at e2
        exact absurd (XA (XA e2)) hab)
   have e5:(S.own.length:Int)=5:=by rw [h.ol];rfl
   rw [e5] at key
   show Jr (S.own.map (Th.step S (.eH a)).dU)+216*Y7 ((S.ah a).w.step S.z).2.x+2*aF ((S.ah a).w.step S.z).2.p+S.held+1<=Jr (S.own.map S.dU)+216*Y7 S.z.x+2*aF S.z.p+S.held
   omega
 | fQ i =>
   have hc:=Jp ht;have hcn:=hn.aL _ (WL hc);have hm:(S.aO i).may S.z=true:=hm;have e1:Jr ((S.aL.set i ((S.aO i).step S.z).1).map fun c=>(c.k.holds.length:Int))=S.held - ((S.aO i).k.holds.length:Int)+(((S.aO i).step S.z).1.k.holds.length:Int):=qp (f:=fun c:dz=>(c.k.holds.length:Int)) hc
   have key:((S.aO i).step S.z).2.x.aa=S.z.x.aa/\((S.aO i).step S.z).2.x.au=S.z.x.au/\((S.aO i).step S.z).2.ws=S.z.ws/\((S.aO i).step S.z).2.x.f.cfg=S.z.x.f.cfg /\
    2*aF ((S.aO i).step S.z).2.p+(((S.aO i).step S.z).1.k.holds.length:Int)+1<=2*aF S.z.p+((S.aO i).k.holds.length:Int):=by
    generalize S.aO i=c at hcn hm;exact UA hcn h.pf hm
   obtain ⟨k1,k2,k3,k4,k5⟩:=key;obtain ⟨st,hent⟩:=SF (x:=S.z.x) (x':=((S.aO i).step S.z).2.x) k1 k2
   have hsum:Jr (S.own.map (Th.step S (.fQ i)).dU)<=Jr (S.own.map S.dU)+0*(S.own.length:Int):=NC fun k o ho=>by
    cases o with
    | none=>show (0:Int)<=0+0;decide
    | some b=>exact RG (z:=S.z) (z':=((S.aO i).step S.z).2) st (by rw [k2]) h.cap (by rw [k4]) (S.ah b).w (fun _ _=>k3)
   show Jr (S.own.map (Th.step S (.fQ i)).dU)+216*Y7 ((S.aO i).step S.z).2.x+2*aF ((S.aO i).step S.z).2.p+Jr ((S.aL.set i ((S.aO i).step S.z).1).map fun c=>(c.k.holds.length:Int))+1<=S.phi
   rw [e1,hent];unfold SvS.phi;omega
end
def qc4:Wk->Int
 | .turn s k=>zy s k
 | _=>0
def uz (x:Qi):Prop:=∀ i r,x.rg i=some r->r.slots.length<=7
theorem uz.put {x x':Qi} (h:uz x) {i:Nat} {r:Qx} (e:x'.rg=lK x.rg i r) (hr:r.slots.length<=7):uz x':=fun n q hq=>by
 rw [e] at hq;rcases Y0 hq with ⟨_,rfl⟩ | ⟨_,hq⟩
 ·exact hr
 ·exact h n q hq
theorem uz.vk {f:Prop} {k k':Qt} {x x':Qi} (h:uz x) (e:wZ f k k' x x'):uz x':=by
 have hrg:∀ {i:Nat} {s:Qs},x.au[i]?=some s->x.rg i=some s.ring:=fun hs=>by unfold Qi.rg;rw [hs];rfl
 cases e with
 | none h1 _=>intro i r hr;rw [z9 h1] at hr;exact h i r hr
 | new h1 _ _ _ _=>intro i r hr;rw [z9 h1] at hr;exact h i r hr
 | step i t s _ _ _ hs h1 _=>exact h.put (Ah hs h1) (by rw [Rs];exact h i _ (hrg hs))
 | fill i t s v _ _ _ hs _ h1 _ =>
   refine h.put (Ah hs h1) ?_
   have:=h i _ (hrg hs);unfold Zn;split
   ·simp only [WT];exact this
   ·exact this
theorem uz.pop {x x':Qi} (h:uz x) (e:x'.rg=x.rg\/∃ i q,x.rg i=some q/\q.ready=true/\x'.rg=lK x.rg i (J4 q).1):uz x':=by
 rcases e with e | ⟨i,q,h1,h2,h3⟩
 ·intro n r hr;rw [e] at hr;exact h n r hr
 ·refine h.put h3 ?_
  unfold J4;rw [if_pos h2];simp only [WT];exact h i q h1
theorem TC (a:AT) (z:ZT):aF (Q3 a z).p<=aF z.p+1:=by
 cases a with
 | put f=>exact TJ z.p f
 | _=>show aF z.p<=_;omega
theorem Uq:∀ (s:ST) (z:ZT),aF (St.run runT Q3 s z).2.p<=aF z.p+1
 | .nil,z=>by show aF z.p<=_;omega
 | .at _ m,z=>by show aF (runT m z).2.p<=_;rw [Nh];omega
 | .ai a,z=>TC a z
 | .aP a _,z=>TC a z
 | .thn s m,z=>by
   have h:=Uq s z
   show aF (Qd runT (St.run runT Q3 s z).1 m (St.run runT Q3 s z).2).2.p<=_
   unfold Qd;split
   ·rw [Nh];exact h
   ·exact h
structure jE (N:Nat) (S:SvS):Prop where
 i:IW N S
 Db:3*dn S.z.ws+Jr (S.all.map fun j=>qc4 j.w)<=N
 Eb:aF S.z.p+S.held<=N
 rl:uz S.z.x
section
variable {N:Nat} {S:SvS}
theorem q97 (h:jE N S) {t:Th} (ht:t.here S) (hN:N<999998) (hm:t.may S=true):jE (N+1) (t.step S):=by
 have hi:=h.i;have hn:=hi.n;have hl:=hi.live;have h1:=QK hn ht hN hm;have h2:=q24 hn hl ht hN hm;have h3:=q99 hn hl hi.sl ht hm;have h4:=zaa hn hl hi.sl hi.ti ht hm;cases t with
 | eH a =>
   have ha:=Xj ht;have hm:(S.ah a).w.may S.z=true:=hm;have hd:=Zi hm;obtain ⟨hjn,_,_⟩:=hn.fe _ (WL ha);obtain ⟨_,_,k3,_,_⟩:=LX hn.eY hjn hm (by omega);have hgo:=hl.go a _ ha;have rf:=hi.ti.eH a _ ha;have jL:kC (S.ah a).w<=S.z.x.f.inside:=by rw [hl.ins];exact z6 (f:=fun j:J2=>kC j.w) (fun x=>Hm x.w) ha
   have hO:∀ j e,uN (S.ah a).w=some (j,e)->∃ r,S.z.x.aa.recs[j]?=some r/\bA r.w=e:=fun j e hj=>(hi.sl.own.own a j e (by rw [yj ha,hj])).2
   have hp:lI (S.ah a).w<=S.z.x.aa.count - Ja S.z.x.aa.recs:=by
    have:=z6 (f:=fun j:J2=>lI j.w) (fun x=>GX x.w) ha;have:=hi.sl.cnt;omega
   have key:lG ((S.ah a).w.step S.z).2.p/\uz ((S.ah a).w.step S.z).2.x/\aF ((S.ah a).w.step S.z).2.p<=aF S.z.p+1 /\
    3*dn ((S.ah a).w.step S.z).2.ws+qc4 ((S.ah a).w.step S.z).1<=3*dn S.z.ws+qc4 (S.ah a).w+1:=by
    have hwho:=fun s k hj=>M7 (s:=s) (k:=k) hn hl ha hj
    generalize (S.ah a).w=w at *;cases w with
    | call s k =>
      have hjc:JC N s (k,S.z.x):=⟨hn.eY.zn.core,hjn.wk,hjn.fit⟩;have g:=Nw hjc hgo.1 hgo.2 jL;exact ⟨hi.pf,h.rl.vk g.vk,by show aF S.z.p<=_;omega,by show 3*dn S.z.ws+0<=3*dn S.z.ws+0+1;omega⟩
    | turn s k =>
      have hs:s≠.nil:=fun e=>by subst e;cases hd
      have hb:TB N ⟨k,S.z.x,S.z.ws,S.z.p⟩:=⟨hn.eY.zn.core,hn.eY.zn.rest,hjn.wk,hn.eY.ws,hn.eY.iG⟩;have g:=PR (s:=s) hb hjn.fit hm hgo jL (hwho s k rfl (qub hs)) hl.rg.ring;obtain ⟨_,c2⟩:=U5 (M:=N) hb hjn.fit hm hs hO (by have hp:oQ s<=_:=hp;show oQ s<=S.z.x.aa.count;omega) rf.1 hi.sl.gen ⟨by omega,by omega⟩;exact ⟨qz2 s ⟨k,S.z.x,S.z.ws,S.z.p⟩ hi.pf,h.rl.pop g.rings,Uq s ⟨k,S.z.x,S.z.ws,S.z.p⟩,c2⟩
    | dL s k =>
      have c:=Hr s ⟨k,S.z.x,S.z.p⟩;have hs:s≠.nil:=fun e=>by subst e;cases hd
      have hfin:=hi.sl.fin a;refine ⟨q1c s ⟨k,S.z.x,S.z.p⟩ hi.pf,fun i r hr=>?_,?_,by show 3*dn S.z.ws+0<=3*dn S.z.ws+0+1;omega⟩
      ·have e:(stepS s ⟨k,S.z.x,S.z.p⟩).2.x.rg=S.z.x.rg:=z9 c.au
       have hr:(stepS s ⟨k,S.z.x,S.z.p⟩).2.x.rg i=some r:=hr;rw [e] at hr;exact h.rl i r hr
      ·exact qwr s ⟨k,S.z.x,S.z.p⟩
   obtain ⟨p1,p2,p3,p4⟩:=key;refine ⟨⟨h1,h2,h3,h4,hi.ol,hi.uq,?_,p1⟩,?_,?_,p2⟩
   ·show ((S.ah a).w.step S.z).2.x.aa.recs.length<=12
    rw [k3.recs];exact hi.cap
   ·show 3*dn ((S.ah a).w.step S.z).2.ws+Jr ((S.all.set a ⟨(S.ah a).kb,(S.ah a).n+1,((S.ah a).w.step S.z).1⟩).map fun j:J2=>qc4 j.w)<=((N+1:Nat):Int)
    rw [qp (f:=fun j:J2=>qc4 j.w) ha];have:=h.Db
    show _+(_ - qc4 (S.ah a).w+qc4 ((S.ah a).w.step S.z).1)<=_
    omega
   ·have:=h.Eb
    show aF ((S.ah a).w.step S.z).2.p+S.held<=((N+1:Nat):Int)
    omega
 | fQ i =>
   have hc:=Jp ht;have hcn:=hn.aL _ (WL hc);have hm:(S.aO i).may S.z=true:=hm;have e1:Jr ((S.aL.set i ((S.aO i).step S.z).1).map fun c=>(c.k.holds.length:Int))=S.held - ((S.aO i).k.holds.length:Int)+(((S.aO i).step S.z).1.k.holds.length:Int):=qp (f:=fun c:dz=>(c.k.holds.length:Int)) hc
   have key:((S.aO i).step S.z).2.x.aa=S.z.x.aa/\((S.aO i).step S.z).2.x.au=S.z.x.au/\((S.aO i).step S.z).2.ws=S.z.ws/\lG ((S.aO i).step S.z).2.p /\
    aF ((S.aO i).step S.z).2.p+(((S.aO i).step S.z).1.k.holds.length:Int)<=aF S.z.p+((S.aO i).k.holds.length:Int):=by
    generalize S.aO i=c at hcn hm;obtain ⟨k1,k2,k3,_,k5⟩:=UA hcn hi.pf hm;refine ⟨k1,k2,k3,?_⟩
    obtain ⟨wb,s,n,k⟩:=c;rcases hcn.fit with ⟨h1,h2⟩ | ⟨h1,h2⟩
    ·obtain rfl:s=Jy:=h1
     have h2:k.holds=[]:=h2;refine ⟨hi.pf.take,?_⟩
     have hm:decide (0<(S.z.p.ch.length:Int)+S.z.p.sp.length)=true:=hm;have:=SK hi.pf (by simpa using hm)
     show aF S.z.p.take.1+((k.holds++[S.z.p.take.2.1]).length:Int)<=aF S.z.p+(k.holds.length:Int)
     rw [h2];simp only [WZ,WU,WS];omega
    ·obtain rfl:s=.thn (.ai .jy) .takes:=h1
     refine ⟨hi.pf,?_⟩
     show aF S.z.p+(([]:List Xm).length:Int)<=aF S.z.p+(k.holds.length:Int)
     simp only [WS];omega
   obtain ⟨k1,k2,k3,k4,k5⟩:=key;refine ⟨⟨h1,h2,h3,h4,hi.ol,hi.uq,?_,k4⟩,?_,?_,fun n r hr=>?_⟩
   ·show ((S.aO i).step S.z).2.x.aa.recs.length<=12
    rw [k1];exact hi.cap
   ·have:=h.Db
    show 3*dn ((S.aO i).step S.z).2.ws+Jr (S.all.map fun j:J2=>qc4 j.w)<=((N+1:Nat):Int)
    rw [k3];omega
   ·have:=h.Eb
    show aF ((S.aO i).step S.z).2.p+Jr ((S.aL.set i ((S.aO i).step S.z).1).map fun c=>(c.k.holds.length:Int))<=((N+1:Nat):Int)
    rw [e1];omega
   ·have e:((S.aO i).step S.z).2.x.rg=S.z.x.rg:=z9 k2
    have hr:((S.aO i).step S.z).2.x.rg n=some r:=hr;rw [e] at hr;exact h.rl n r hr
theorem jE.mono {M:Nat} (h:jE N S) (hm:N<=M):jE M S :=
 ⟨⟨h.i.n.mono hm,h.i.live,h.i.sl.mono hm,h.i.ti,h.i.ol,h.i.uq,h.i.cap,h.i.pf⟩,by have:=h.Db;omega,by have:=h.Eb;omega,h.rl⟩
theorem jE.stepS (h:jE N S) (hN:N<999998) (i:Int):jE (N+1) (S.stepS i).1:=by
 unfold SvS.stepS;split
 ·exact h.mono (by omega)
 ·split
  ·next t ht =>
   have h1:=List.mem_of_find?_eq_some ht;have h2:=List.find?_some ht;simp only [Bool.and_eq_true] at h2;exact q97 h (Ab h.i.n h1) hN h2.2
  ·exact h.mono (by omega)
theorem jE.cr (h:jE N S) {c:Q4} (hc:c.wf) (kb:Nat) (th:Int):jE (N+1) (S.cr kb th c):=by
 have hi:=h.i;have h1:=UI hi.n hc kb th;have h2:=qtz hi.n hi.live kb th c;by_cases e:S.bZ th c=0
 ·have ho:=GL e
  have e1:S.cr kb th c=S.dB kb th c:=if_pos e;rw [e1] at h1 h2 |-
  have hcr:qc4 (Xs th (S.all.length+1) c)=0/\BX S.z.x.aa.recs (Xs th (S.all.length+1) c):=by
   unfold Xs;split
   ·exact ⟨rfl,xZ.zero hi.ti.all.g0,fun t ht=>(by cases ht),trivial⟩
   ·split
    ·exact ⟨rfl,trivial⟩
    ·refine ⟨rfl,?_⟩
     unfold q7;split
     ·trivial
     ·split <;> trivial
  refine ⟨⟨h1,h2,(q05 hi.sl th c kb).mono (by omega),⟨hi.ti.all,fun a j ha=>?_⟩,?_,fun i k a g1 g2=>?_,hi.cap,hi.pf⟩,?_,by have:=h.Eb;show aF S.z.p+S.held<=((N+1:Nat):Int);omega,h.rl⟩
  ·rcases EU ha with ⟨_,ha⟩ | ⟨_,rfl⟩
   ·exact hi.ti.eH a j ha
   ·exact hcr.2
  ·show (S.own.set _ _).length=5
   rw [WT];exact hi.ol
  ·have hlt:∀ (i a:Nat),S.own[i]?=some (some a)->a<S.all.length:=fun i a g=>hi.n.own a (WL g)
   rcases Jl g1 with ⟨e1,e2⟩ | ⟨_,g1⟩
   ·rcases Jl g2 with ⟨e3,e4⟩ | ⟨_,g2⟩
    ·omega
    ·have:=hlt k a g2;cases e2;omega
   ·rcases Jl g2 with ⟨e3,e4⟩ | ⟨_,g2⟩
    ·have:=hlt i a g1;cases e4;omega
    ·exact hi.uq i k a g1 g2
  ·have:=h.Db
   show 3*dn S.z.ws+Jr ((S.all++[_]).map fun j:J2=>qc4 j.w)<=((N+1:Nat):Int)
   rw [M5 (f:=fun j:J2=>qc4 j.w)]
   show _+(_+qc4 (Xs th (S.all.length+1) c))<=_
   rw [hcr.1];omega
 ·have e1:S.cr kb th c=S:=if_neg e
  rw [e1];exact h.mono (by omega)
theorem me0 (c:Cfg) (hk:c.ok=true) (h4:c.cO=4) (h12:c.cap<=12) (h7:c.ring<=7) {S:SvS} (hS:S=uP c) (hn:dV 0 S):jE 0 S:=by
 subst hS;obtain ⟨b1,b2,b3,b4,b5,b6⟩:=Cfg.bd hk;have hsh:∀ (i:Nat) s,(uP c).z.x.au[i]?=some s->s=Qp c.ring.toNat:=fun i s h=>WM (WL h)
 have hg0:xZ (uP c).z.x.aa.recs:=fun r hr=>by
  rw [WM (show r∈WR c.cap.toNat Rec.zero from hr)];exact ⟨by decide,fun _=>rfl⟩
 have hws:∀ w∈(uP c).z.ws,w=Y2:=fun w hw=>WM hw
 have hw0:zv Y2=0:=by decide
 have hwe:∀ P:gI->Prop,fU P Y2:=fun P=>by
  refine ⟨fun l hl s hs e he=>?_,fun e he=>(by cases he)⟩
  have:∀ l∈Y2.lv,∀ s∈l,s=[]:=by decide
  rw [this l hl s hs] at he;cases he
 refine ⟨⟨hn,zbp c hk,sl0 c hk,⟨⟨hg0,fun s hs e he=>?_,fun w hw=>?_⟩,fun a j ha=>(by cases ha)⟩,?_,fun i k a g1 g2=>?_,?_,?_⟩,?_,?_,fun i r hr=>?_⟩
 ·obtain ⟨i,hi⟩:=WO.1 hs
  rw [hsh i s hi] at he;obtain ⟨n,_,rfl⟩:=List.mem_map.1 he;exact hg0.zero
 ·rw [hws w hw];exact hwe _
 ·show (WR (c.cO.toNat+1) (none:Option Nat)).length=5
  rw [WV,h4];rfl
 ·have:=WM (show some a∈WR (c.cO.toNat+1) (none:Option Nat) from WL g1)
  cases this
 ·show (WR c.cap.toNat Rec.zero).length<=12
  rw [WV];omega
 ·exact ⟨by show 1<=c.room.toNat;omega,.inl rfl,XB _⟩
 ·have e:dn (uP c).z.ws=0:=Bp (f:=fun w:Qg=>(zv w:Int)) fun w hw=>by rw [hws w hw,hw0];rfl
  rw [e];exact WK _
 ·have e:(uP c).held=0:=Bp (f:=fun c:dz=>(c.k.holds.length:Int)) fun x hx=>by
   rw [WM (show x∈WR c.wk.toNat (⟨0,Jy,0,rY⟩:dz) from hx)];rfl
  rw [e];exact WK _
 ·obtain ⟨s,hs,rfl⟩:=Option.map_eq_some_iff.1 hr
  rw [hsh i s hs]
  show ((List.range _).map _).length<=7
  rw [List.length_map,List.length_range];omega
end
theorem Rt {α:Type} {f:α->Int} (hf:∀ x,0<=f x):∀ (l:List α) (j:Nat),Jr ((l.drop j).map f)<=Jr (l.map f)
 | [],j=>by rw [List.drop_nil];exact WK _
 | b::l,0=>WK _
 | b::l,j+1=>by
   have:=Rt hf l j;have:=hf b
   show Jr ((l.drop j).map f)<=f b+Jr (l.map f)
   omega
theorem SG {α:Type} {f:α->Int} {c:Int}:∀ {l:List α},(∀ x∈l,f x<=c)->Jr (l.map f)<=c*(l.length:Int)
 | [],_=>by simp [Jr]
 | b::l,h=>by
   have h1:=SG (l:=l) (f:=f) (c:=c) (fun x hx=>h x (WW _ hx));have h2:=h b WY
   show f b+Jr (l.map f)<=c*((b::l).length:Int)
   rw [WQ,Int.natCast_add,Int.mul_add];have:c*((1:Nat):Int)=c:=Int.mul_one c;rw [this];omega
theorem Af {α:Type} {f:α->Int}:∀ {l:List α},(∀ x∈l,0<=f x)->0<=Jr (l.map f)/\∀ x∈l,f x<=Jr (l.map f)
 | [],_=>⟨WK _,fun x hx=>by cases hx⟩
 | b::l,h=>by
   obtain ⟨h1,h3⟩:=Af (l:=l) (f:=f) (fun x hx=>h x (WW _ hx));have h2:=h b WY;refine ⟨by show 0<=f b+Jr (l.map f);omega,fun x hx=>?_⟩
   show f x<=f b+Jr (l.map f)
   rcases List.mem_cons.1 hx with rfl | hx
   ·omega
   ·have:=h3 x hx;omega
theorem Py (ws:List Qg):∀ n j:Nat,j+n=ws.length->vF ws n j=2+4*(n:Int)+41*Jr ((ws.drop j).map fun w=>(zv w:Int))
 | 0,j,h=>by
   rw [List.drop_eq_nil_of_le (by omega)];rfl
 | n+1,j,h=>by
   have hj:j<ws.length:=by omega
   have:=Py ws n (j+1) (by omega);rw [List.drop_eq_getElem_cons hj]
   show 4+41*Qu ws j+vF ws n (j+1)=2+4*((n+1:Nat):Int)+41*((zv ws[j]:Int)+Jr ((ws.drop (j+1)).map fun w=>(zv w:Int)))
   have e:Qu ws j=(zv ws[j]:Int):=by unfold Qu;rw [WN,List.getElem?_eq_getElem hj];rfl
   rw [this,e];omega
section
variable {z:ZT} {N:Nat}
theorem MZ (hb:TB N z) {j:Nat} (hj:j<=z.x.au.length):Qy z j<=18+41*dn z.ws:=by
 unfold Qy;rw [Py z.ws _ j (by rw [hb.rest.wl];omega)];have:=Rt (f:=fun w:Qg=>(zv w:Int)) (fun w=>by omega) z.ws j;have:=hb.iG;unfold dn;omega
theorem q1j (G:ST) (z:ZT):0<=kN G z/\kN G z<=42:=by
 have a4:=vM (fP z 4);have a5:=vM (fP z 5);have a9:=vM (fP z 9);unfold kN;split <;> omega
theorem q1k (P:ST) (z:ZT):0<=kP P z/\kP P z<=216:=by
 have a3:=vM (fP z 3);unfold kP;split <;> omega
theorem q1m (hb:TB N z) {s:ST} (hf:rM s z.k z.x):0<=Yf s z/\0<=zy s z.k/\3*Yf s z<=900+41*(3*dn z.ws+zy s z.k):=by
 have hw:0<=dn z.ws:=(Af (f:=fun w:Qg=>(zv w:Int)) (l:=z.ws) (fun w _=>by omega)).1;have r0:=MZ hb (j:=0) (XB _);have r2:=GD z 0
 match s,hf with
 | .nil,_=>exact ⟨WK _,WK _,by show 3*(0:Int)<=900+41*(3*dn z.ws+0);omega⟩
 | .at none .enter,_=>exact ⟨by show 0<=3+Qy z 0;omega,WK _,by show 3*(3+Qy z 0)<=900+41*(3*dn z.ws+0);omega⟩
 | .at none .gate,_=>exact ⟨by show 0<=2+Qy z 0;omega,WK _,by show 3*(2+Qy z 0)<=900+41*(3*dn z.ws+0);omega⟩
 | .at none .tick,_=>exact ⟨by show 0<=1+Qy z 0;omega,WK _,by show 3*(1+Qy z 0)<=900+41*(3*dn z.ws+0);omega⟩
 | .aP .leave1 .answer,_=>exact ⟨by show (0:Int)<=2;decide,WK _,by show 3*(2:Int)<=900+41*(3*dn z.ws+0);omega⟩
 | .ai .answer,_=>exact ⟨by show (0:Int)<=1;decide,WK _,by show 3*(1:Int)<=900+41*(3*dn z.ws+0);omega⟩
 | .thn X (.ae i),h =>
   obtain ⟨_,hi,_,hX⟩:=h;have ri:=MZ hb (j:=i) (by omega);have r1:=MZ hb (j:=i+1) (by omega);have ru:=Uo hi;have rt:=GD z (i+1);have hwn:=Mh z.ws i
   show 0<=Ca X z i+Qy z (i+1)/\0<=KF X z.k/\3*(Ca X z i+Qy z (i+1))<=900+41*(3*dn z.ws+KF X z.k)
   match X,hX with
   | .at (some .lock) (.dI d),_=>exact ⟨by show 0<=4+41*Qu z.ws i+Qy z (i+1);omega,WK _,by show 3*(4+41*Qu z.ws i+Qy z (i+1))<=900+41*(3*dn z.ws+0);omega⟩
   | .at none (.bX d),_=>exact ⟨by show 0<=3+41*Qu z.ws i+Qy z (i+1);omega,WK _,by show 3*(3+41*Qu z.ws i+Qy z (i+1))<=900+41*(3*dn z.ws+0);omega⟩
   | .thn (.ai (.bH d)) (.aM e),_=>exact ⟨by show 0<=2+41*Qu z.ws i+Qy z (i+1);omega,WK _,by show 3*(2+41*Qu z.ws i+Qy z (i+1))<=900+41*(3*dn z.ws+0);omega⟩
   | .thn (.at (some (.ready j)) (.bK n)) (.af d),_=>exact ⟨by show 0<=2+41*Qu z.ws i+Qy z (i+1);omega,WK _,by show 3*(2+41*Qu z.ws i+Qy z (i+1))<=900+41*(3*dn z.ws+0);omega⟩
   | .thn (.thn (.at none .bz) (.ax n)) (.af d),_=>exact ⟨by show 0<=2+41*Qu z.ws i+215+Qy z (i+1);omega,by show (0:Int)<=1;decide,by show 3*(2+41*Qu z.ws i+215+Qy z (i+1))<=900+41*(3*dn z.ws+1);omega⟩
   | .thn (.thn (.at none .aH) (.ax n)) (.af d),_ =>
     have:=q1k (.at none .aH) z;exact ⟨by show 0<=2+41*Qu z.ws i+kP (.at none .aH) z+Qy z (i+1);omega,by show (0:Int)<=2;decide,by show 3*(2+41*Qu z.ws i+kP (.at none .aH) z+Qy z (i+1))<=900+41*(3*dn z.ws+2);omega⟩
   | .thn (.thn G (.aD d n)) .ay,hX =>
     obtain ⟨_,_,_,hnl,_⟩:=hX;have:=q1j G z;exact ⟨by show 0<=kN G z+41*((z.k.due.length:Int) - (n+1))+1+Qy z (i+1);omega,by show 0<=3*((z.k.due.length:Int) - n);omega,by show 3*(kN G z+41*((z.k.due.length:Int) - (n+1))+1+Qy z (i+1))<=900+41*(3*dn z.ws+3*((z.k.due.length:Int) - n));omega⟩
   | .ai .unlock,_=>exact ⟨by show 0<=1+Qy z (i+1);omega,WK _,by show 3*(1+Qy z (i+1))<=900+41*(3*dn z.ws+0);omega⟩
end
theorem TP {cap:Int} (h0:0<=cap) (h:cap<=12) (i:Int) (hi:0<=i):3<=Zb cap i/\Zb cap i<=339:=by
 refine ⟨Ve cap i,?_⟩
 unfold Zb;split <;> omega
theorem q1l {s:SS} {z:ZS} (hf:xY s z.k) (h0:0<=z.x.f.cfg.cap) (h:z.x.f.cfg.cap<=12):0<=q6 s z/\q6 s z<=400:=by
 have r0:=TP h0 h 0 (WK _);have rj:∀ j:Int,0<=j->3<=Zb z.x.f.cfg.cap (j+1)/\Zb z.x.f.cfg.cap (j+1)<=339:=fun j hj=>TP h0 h (j+1) (by omega)
 match s,hf with
 | .nil,_=>exact ⟨WK _,by show (0:Int)<=400;decide⟩
 | .at none .shuts,_=>show 0<=Zb z.x.f.cfg.cap 0+2/\Zb z.x.f.cfg.cap 0+2<=400;omega
 | .at (some .inside) .bQ,_=>show 0<=Zb z.x.f.cfg.cap 0+1/\Zb z.x.f.cfg.cap 0+1<=400;omega
 | .at (some .idle) .cK,_=>show (0:Int)<=2/\(2:Int)<=400;decide
 | .ai .aR,_=>show (0:Int)<=1/\(1:Int)<=400;decide
 | .thn (.ai .dE) .waits,_=>show (0:Int)<=3/\(3:Int)<=400;decide
 | .thn (.at none (.bJ i)) (.az j),hf=>have:=rj j (by have:=hf.2;omega);show 0<=28+Zb z.x.f.cfg.cap (j+1)/\28+Zb z.x.f.cfg.cap (j+1)<=400;omega
 | .thn (.at none (.aB i)) (.az j),hf=>have:=rj j (by have:=hf.2;omega);have:=vM (Zk z.x.aa i z.k.aA 6);show 0<=27+st2 (Zk z.x.aa i z.k.aA 6)+Zb z.x.f.cfg.cap (j+1)/\27+st2 (Zk z.x.aa i z.k.aA 6)+Zb z.x.f.cfg.cap (j+1)<=400;omega
 | .thn (.aP (.release _) .drop) (.az j),hf=>have:=rj j hf.2.1;show 0<=18+Zb z.x.f.cfg.cap (j+1)/\18+Zb z.x.f.cfg.cap (j+1)<=400;omega
 | .thn (.ai .drop) (.az j),hf=>have:=rj j hf.2.1;show 0<=9+Zb z.x.f.cfg.cap (j+1)/\9+Zb z.x.f.cfg.cap (j+1)<=400;omega
section
variable {N:Nat} {S:SvS}
theorem Tz (h:jE N S) {a:Nat} {j:J2} (ha:S.all[a]?=some j):0<=oO j.w S.z/\0<=qc4 j.w/\(j.w.isTurn=false\/j.w.done=true->oO j.w S.z<=400)/\3*oO j.w S.z<=1200+41*(3*dn S.z.ws+qc4 j.w):=by
 have hw:0<=dn S.z.ws:=(Af (f:=fun w:Qg=>(zv w:Int)) (l:=S.z.ws) (fun w _=>by omega)).1;have hn:=h.i.n;obtain ⟨hjn,_,_⟩:=hn.fe _ (WL ha);have hcap:=hn.eY.zn.rest.cap;have hc12:=h.i.cap;generalize j.w=w at hjn;cases w with
 | call s k =>
   have:=qwu s k S.z.x h.i.cap;exact ⟨this.1,WK _,fun _=>this.2,by show 3*J0 s k S.z.x<=1200+41*(3*dn S.z.ws+0);omega⟩
 | turn s k =>
   have hb:TB N ⟨k,S.z.x,S.z.ws,S.z.p⟩:=⟨hn.eY.zn.core,hn.eY.zn.rest,hjn.wk,hn.eY.ws,hn.eY.iG⟩;obtain ⟨b1,b2,b3⟩:=q1m hb hjn.fit;refine ⟨b1,b2,fun e=>?_,by show 3*Yf s ⟨k,S.z.x,S.z.ws,S.z.p⟩<=1200+41*(3*dn S.z.ws+zy s k);have b3:3*Yf s ⟨k,S.z.x,S.z.ws,S.z.p⟩<=900+41*(3*dn S.z.ws+zy s k):=b3;omega⟩
   rcases e with e | e
   ·cases e
   ·rw [LK e];decide
 | dL s k =>
   have:=q1l (z:=⟨k,S.z.x,S.z.p⟩) hjn.fit (by show 0<=S.z.x.f.cfg.cap;omega) (by show S.z.x.f.cfg.cap<=12;omega);exact ⟨this.1,WK _,fun _=>this.2,by show 3*q6 s ⟨k,S.z.x,S.z.p⟩<=1200+41*(3*dn S.z.ws+0);have:=this.2;omega⟩
theorem five {α:Type} {l:List α} (h:l.length=5):∃ a b c d e,l=[a,b,c,d,e]:=by
 match l,h with
 | [a,b,c,d,e],_=>exact ⟨a,b,c,d,e,rfl⟩
theorem P5 (h:jE N S):0<=S.phi/\3*S.phi<=24144+47*N:=by
 have hn:=h.i.n;have hw:0<=dn S.z.ws:=(Af (f:=fun w:Qg=>(zv w:Int)) (l:=S.z.ws) (fun w _=>by omega)).1
 have Dr:∀ j∈S.all,0<=qc4 j.w:=fun j hj=>by
  obtain ⟨a,ha⟩:=WO.1 hj;exact (Tz h ha).2.1
 obtain ⟨hc0,hc1⟩:=Af (f:=fun j:J2=>qc4 j.w) Dr;have hcr:=h.Db
 have hO:∀ (k:Nat) o,S.own[k]?=some o->0<=S.dU o/\(k≠4->S.dU o<=400)/\3*S.dU o<=1200+41*N:=fun k o ho=>by
  cases o with
  | none=>exact ⟨WK _,fun _=>by show (0:Int)<=400;decide,by show 3*(0:Int)<=_;omega⟩
  | some a =>
    have hal:a<S.all.length:=hn.own a (WL ho);have ha:=Xj hal;obtain ⟨b1,b2,b3,b4⟩:=Tz h ha;refine ⟨b1,fun hk=>b3 ?_,?_⟩
    ·cases ht:(S.ah a).w.isTurn with
     | false=>exact .inl rfl
     | true =>
       cases hd:(S.ah a).w.done with
       | true=>exact .inr rfl
       | false =>
         have:=hn.turn a _ ha ht hd;rw [h.i.ol] at this;exact absurd (h.i.uq _ _ a ho this) hk
    ·have:=hc1 _ (WL ha)
     have b4:3*S.dU (some a)<=_:=b4;omega
 have hent:0<=Y7 S.z.x/\Y7 S.z.x<=28:=by
  have hr:∀ s∈S.z.x.au,0<=s.ring.tail - s.ring.head/\s.ring.tail - s.ring.head<=7:=fun s hs=>by
   obtain ⟨i,hi⟩:=WO.1 hs;have hg:S.z.x.rg i=some s.ring:=by unfold Qi.rg;rw [hi];rfl
   have h1:=h.i.live.rg.ring i s.ring hg;have h2:=h.rl i s.ring hg;have:=h1.ht;have:=h1.tn;omega
  refine ⟨(Af (f:=fun s:Qs=>s.ring.tail - s.ring.head) fun s hs=>(hr s hs).1).1,?_⟩
  have:=SG (f:=fun s:Qs=>s.ring.tail - s.ring.head) (c:=7) fun s hs=>(hr s hs).2
  have:=hn.eY.iG;unfold Y7;omega
 have hpip:=h.Eb;have hp0:0<=aF S.z.p:=by unfold aF;omega
 have hh0:0<=S.held:=(Af (f:=fun c:dz=>(c.k.holds.length:Int)) fun c _=>by omega).1;obtain ⟨o0,o1,o2,o3,o4,ho⟩:=five h.i.ol;have b0:=hO 0 o0 (by rw [ho];rfl);have b1:=hO 1 o1 (by rw [ho];rfl);have b2:=hO 2 o2 (by rw [ho];rfl);have b3:=hO 3 o3 (by rw [ho];rfl);have b4:=hO 4 o4 (by rw [ho];rfl);have e:Jr (S.own.map S.dU)=S.dU o0+(S.dU o1+(S.dU o2+(S.dU o3+(S.dU o4+0)))):=by rw [ho];rfl
 have c0:=b0.2.1 (by decide);have c1:=b1.2.1 (by decide);have c2:=b2.2.1 (by decide);have c3:=b3.2.1 (by decide);unfold SvS.phi;rw [e];exact ⟨by omega,by omega⟩
end
end
end Go.Proofs.YtcneeepdclgdcaaGreat
