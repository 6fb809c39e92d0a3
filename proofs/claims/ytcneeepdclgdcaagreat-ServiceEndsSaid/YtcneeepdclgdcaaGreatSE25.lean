import Derived.Test.YtcneeepdclgdcaaGreatSE24
import Derived.Test.YtcneeepdclgdcaaGreatSE23
import Derived.Test.YtcneeepdclgdcaaGreatSE21
set_option maxRecDepth 100000
set_option maxHeartbeats 4000000
namespace Go.Proofs.YtcneeepdclgdcaaGreat
set_option linter.all false
section
open Go.RowKit Go.Shelf
def xk:SS->Yw->Prop
 | .nil,_=>True
 | .at none .shuts,k=>k.fq=false
 | .at (some .inside) .bO,k=>k.fq=false
 | .at (some .idle) .cO,_=>True
 | .aj .aS,_=>True
 | .thn (.aj .dC) .waits,k=>k.fq=false
 | .thn (.at none (.bH i)) (.aA j),k=>k.fq=false/\i=j/\0<=i/\i<64
 | .thn (.at none (.aC i)) (.aA j),k=>k.fq=false/\i=j/\0<=i/\i<64
 | .thn (.aO (.release _) .drop) (.aA j),k=>k.fq=false/\0<=j/\j<64
 | .thn (.aj .drop) (.aA j),k=>k.fq=false/\0<=j/\j<64
 | _,_=>False
structure JB (N:Nat) (z:ZS):Prop where
 core:Zi N z.x
 cap:z.x.f.cfg.cap=z.x.aa.recs.length
 busy:0<=z.x.f.busy/\z.x.f.busy<=N
 aB:0<=z.k.aB/\z.k.aB<18446744073709551616/\okW z.k.aB=true
 left:z.k.left.length<=N
structure JS (N:Nat) (s:SS) (z:ZS):Prop where
 b:JB N z
 fit:xk s z.k
theorem JB.mono {N M:Nat} {z:ZS} (h:JB N z) (hm:N<=M):JB M z :=
 ⟨h.core.mono hm,h.cap,by have:=h.busy;omega,h.aB,by have:=h.left;omega⟩
theorem JB.ok {N:Nat} {z:ZS} (h:JB N z) (hN:N<=1000000):uE z :=
 ⟨h.core.ok hN,h.cap,by have:=h.busy;omega,h.aB,by have:=h.left;omega⟩
section
variable {N:Nat} {z:ZS}
theorem Fb {x:Qi} (h:Zi N x) (E:EvS):Zi (N+1) { x with tr:=x.tr++[E] } :=
 ⟨h.aa,h.i0,by have:=h.i1;show x.f.inside<=_;omega,by have:=h.tr;show (x.tr++[_]).length<=_;rw [List.length_append];simp;omega,h.sh,h.rings (by omega)⟩
theorem JB.note (h:JB N z) (E:EvS):JB (N+1) (z.note E) :=
 ⟨Fb h.core _,h.cap,by have:=h.busy;show 0<=z.x.f.busy/\z.x.f.busy<=_;omega,h.aB,by have:=h.left;show z.k.left.length<=_;omega⟩
theorem JB.aa (h:JB N z) {s:Qj} (hs:Xh s) (hl:s.recs.length=z.x.aa.recs.length):JB N { z with x:={ z.x with aa:=s } } :=
 ⟨Am h.core hs,by show z.x.f.cfg.cap=s.recs.length;rw [hl];exact h.cap,h.busy,h.aB,h.left⟩
theorem NC (h:JB N z) (a:AS):JB (N+1) (Yc a z):=by
 cases a with
 | aS=>exact h.note _
 | dC=>exact (⟨h.core,h.cap,h.busy,h.aB,h.left⟩:JB N { z with p:={ z.p with shut:=true } }).mono (by omega)
 | release i =>
   obtain ⟨a,b⟩:=sK h.core.aa i (z.x.aa.word i) 10;exact (h.aa a b).mono (by omega)
 | drop =>
   obtain ⟨a,b⟩:=D5 h.core.aa;exact (h.aa a b).mono (by omega)
theorem Kn {k:Yw} (h:k.fq=false) {i:Int} (h0:0<=i) (hc:z.x.f.cfg.cap<=64):xk (Zz i z) k:=by
 unfold Zz sP;split
 ·exact h
 ·exact ⟨h,rfl,h0,by omega⟩
theorem JB.c64 (h:JB N z):z.x.f.cfg.cap<=64:=by have:=h.cap;have:=h.core.aa.n1;omega
theorem JS.pre {s:SS} (h:JS N s z) (hN:N<1000000):Ou s z:=by
 obtain ⟨hb,hf⟩:=h;have ho:=hb.ok (by omega);have ha:=fun a=>(NC hb a).ok (by omega)
 match s,hf with
 | .nil,_=>trivial
 | .at none .shuts,hf=>exact ⟨ho,trivial⟩
 | .at (some .inside) .bO,_=>exact ⟨ho,trivial⟩
 | .at (some .idle) .cO,_=>exact ⟨ho,trivial⟩
 | .aj .aS,_=>exact ho
 | .thn (.aj .dC) .waits,_=>exact ⟨ho,fun _=>⟨ha .dC,trivial⟩⟩
 | .thn (.at none (.bH i)) (.aA j),hf =>
   obtain ⟨h1,rfl,h3,h4⟩:=hf;refine ⟨⟨ho,h3,by omega⟩,fun _=>?_⟩
   have e:(St.run Xy Yc (.at none (.bH i)) z).2=Yd i z:=by
    show (Xy (.bH i) z).2=_
    dsimp only [Xy]
    split <;> rfl
   rw [e];exact ⟨⟨ho.core,ho.cap,ho.busy,Y4 ho.core.aa i,ho.left⟩,h3,by omega⟩
 | .thn (.at none (.aC i)) (.aA j),hf =>
   obtain ⟨h1,rfl,h3,h4⟩:=hf;refine ⟨⟨ho,⟨h3,by omega⟩,h1⟩,fun hn=>?_⟩
   have:(St.run Xy Yc (.at none (.aC i)) z).1.isNil=true:=hn;change (Xy (.aC i) z).1.isNil=true at this
   dsimp only [Xy] at this
   split at this <;> cases this
 | .thn (.aO (.release i) .drop) (.aA j),hf=>exact ⟨ho,fun h=>by cases h⟩
 | .thn (.aj .drop) (.aA j),hf=>exact ⟨ho,fun _=>⟨ha .drop,hf.2.1,by have:=hf.2.2;omega⟩⟩
theorem JS.step {s:SS} (h:JS N s z):JS (N+1) (stepS s z).1 (stepS s z).2:=by
 obtain ⟨hb,hf⟩:=h;have ha:=fun a=>NC hb a
 have hc:=hb.c64
 match s,hf with
 | .nil,_=>exact ⟨hb.mono (by omega),trivial⟩
 | .at none .shuts,hf =>
   show JS (N+1) (Xy .shuts z).1 (Xy .shuts z).2
   dsimp only [Xy]
   split
   ·have:=hb.note { bL with kind:=9,err:=3 }
    exact ⟨⟨this.core,this.cap,this.busy,this.aB,this.left⟩,trivial⟩
   ·exact ⟨JB.note (z:={ z with x:={ z.x with f:={ z.x.f with closed:=true } } }) ⟨⟨hb.core.aa,hb.core.i0,hb.core.i1,hb.core.tr,hb.core.sh,hb.core.ring⟩,hb.cap,hb.busy,hb.aB,hb.left⟩ _,hf⟩
 | .at (some .inside) .bO,hf=>exact ⟨hb.mono (by omega),Kn hf (by decide) hc⟩
 | .at (some .idle) .cO,_ =>
   have:=hb.note { bL with kind:=13 };exact ⟨⟨this.core,this.cap,this.busy,this.aB,this.left⟩,trivial⟩
 | .aj .aS,_=>exact ⟨ha .aS,trivial⟩
 | .thn (.aj .dC) .waits,_=>exact ⟨ha .dC,trivial⟩
 | .thn (.at none (.bH i)) (.aA j),hf =>
   obtain ⟨h1,rfl,h3,h4⟩:=hf;have hw:JB N (Yd i z):=⟨hb.core,hb.cap,hb.busy,Y4 hb.core.aa i,hb.left⟩
   show JS (N+1) (Qe Xy (Xy (.bH i) z).1 (.aA i) (Xy (.bH i) z).2).1 (Qe Xy (Xy (.bH i) z).1 (.aA i) (Xy (.bH i) z).2).2
   dsimp only [Xy]
   split
   ·exact ⟨hw.mono (by omega),h1,rfl,h3,h4⟩
   ·exact ⟨hw.mono (by omega),Kn (z:=Yd i z) (k:=(Yd i z).k) (i:=i+1) h1 (by omega) hc⟩
 | .thn (.at none (.aC i)) (.aA j),hf =>
   obtain ⟨h1,rfl,h3,h4⟩:=hf;obtain ⟨a,b⟩:=sK hb.core.aa i z.k.aB 6;have hs:=hb.aa a b
   show JS (N+1) (Qe Xy (Xy (.aC i) z).1 (.aA i) (Xy (.aC i) z).2).1 (Qe Xy (Xy (.aC i) z).1 (.aA i) (Xy (.aC i) z).2).2
   dsimp only [Xy]
   split
   ·exact ⟨hs.mono (by omega),h1,rfl,h3,h4⟩
   ·have hn:=Fb hs.core (pq { z.k with left:=z.k.left++[(qF (z.x.aa.try i z.k.aB 6).1 i).1] } { bL with kind:=12,id:=(qF (z.x.aa.try i z.k.aB 6).1 i).1,gen:=Xv (z.x.aa.try i z.k.aB 6).2.1 })
    refine ⟨⟨hn,hs.cap,?_,hs.aB,?_⟩,h1,h3,h4⟩
    ·have:=hb.busy;exact ⟨this.1,by show z.x.f.busy<=_;omega⟩
    ·have:=hb.left;show (z.k.left++[_]).length<=_;rw [List.length_append];simp;omega
 | .thn (.aO (.release i) .drop) (.aA j),hf=>exact ⟨ha (.release i),hf⟩
 | .thn (.aj .drop) (.aA j),hf=>exact ⟨ha .drop,Kn (z:=Yc .drop z) (i:=j+1) hf.1 (by have:=hf.2.1;omega) hc⟩
end
theorem qwq {n:Nat} (h1:1<=n) (h2:n<=64):lG 0 (Jj n):=by
 refine ⟨?_,?_,Int.le_refl 0,Int.le_refl 0,Int.le_refl 0,Int.le_refl 0⟩ <;> simp [Jj] <;> omega
theorem q32 {c:Cfg} (h:c.ok=true):Zi 0 (NY c):=by
 obtain ⟨h1,h2,h3,_⟩:=Cfg.bd h;refine ⟨qs7 (by omega) (by omega),by show (0:Int)<=0;omega,by show (0:Int)<=0;omega,by show ([]:List EvS).length<=0;simp,?_,?_⟩
 ·show 1<=(List.replicate _ _).length
  rw [List.length_replicate];omega
 ·intro s hs
  obtain ⟨_,rfl⟩:=List.mem_replicate.1 hs;exact qwq (by omega) (by omega)
structure Q0.wf (c:Q0):Prop where
 id:0<=c.id/\c.id<18446744073709551616
 dl:0<=c.dl/\c.dl<18446744073709551616
 per:0<=c.per/\c.per<18446744073709551616
theorem q7n {N:Nat} {c:Q0} (h:c.wf) (th no:Int) (x:Qi):Zn N (fP th no c) x :=
 ⟨h.dl,h.per,h.id,by show (0:Int)<=0;omega,⟨by show (0:Int)<=0;omega,by show (0:Int) < _;omega,by show okW 0=true;decide⟩,fun q hq=>(by cases hq),fun i t ht=>(by cases ht)⟩
theorem qv1 (kd:Int) (k:Qv):tN (Yp kd) k:=by
 unfold Yp;split
 ·trivial
 ·split <;> trivial
end
end Go.Proofs.YtcneeepdclgdcaaGreat
