import Derived.Test.YtcneeepdclgdcaaGreatSE38
import Derived.Test.YtcneeepdclgdcaaGreatSE26
set_option maxRecDepth 100000
set_option maxHeartbeats 4000000
namespace Go.Proofs.YtcneeepdclgdcaaGreat
set_option linter.all false
open Go.Proofs.Tryz
section
open Go.RowKit Go.Shelf
theorem qsj (sa:Option Addr) (n cap:Nat) (h:n<=400):Qa prog 52 #[.slice sa n cap] [] fun e gs=>e=.returned (.int .i64 0)/\gs=[]:=by
 refine GO fun w HT=>?_
 go_enter func52,ntmps52
 go_wp2
 go_ret
 exact ⟨_,⟨rfl,rfl⟩,HT⟩
theorem qo1 (sa:Option Addr) (n cap:Nat) (h:400<n):Qa prog 52 #[.slice sa n cap] [] fun e gs=>e=.returned (.int .i64 1)/\gs=[]:=by
 refine GO fun w HT=>?_
 go_enter func52,ntmps52
 go_wp2
 go_ret
 exact ⟨_,⟨rfl,rfl⟩,HT⟩
theorem TG.vQ {H:GH} {w w':World} (T:TG [] w H w') {b:Nat} (hb:b<w.heap.size) (o:Nat):w'.cell? ⟨b,o,none⟩=w.cell? ⟨b,o,none⟩:=T.old (p:=⟨b,o,none⟩) hb
theorem DL.at {w:World} {sa:Option Addr} {es:List nW} (h:DL w sa es) {k:Nat} (hk:k<es.length):∃ b off e,sa=some ⟨b,off,none⟩/\b<w.heap.size/\es[k]?=some e/\∀ {H:GH} {w':World},TG [] w H w' ->
 w'.cell? ⟨b,off+k*6,none⟩=some (.int .i64 e.kind)/\w'.cell? ⟨b,off+k*6+1,none⟩=some (.int .i64 e.n)/\w'.cell? ⟨b,off+k*6+2,none⟩=some (.int .i64 e.c.kind)/\w'.cell? ⟨b,off+k*6+3,none⟩=some (.int .u64 e.c.id)/\w'.cell? ⟨b,off+k*6+4,none⟩=some (.int .u64 e.c.dl)/\w'.cell? ⟨b,off+k*6+5,none⟩=some (.int .u64 e.c.per):=by
 rcases h with rfl | ⟨b,off,rfl,hb,hc⟩
 ·simp at hk
 ·refine ⟨b,off,es.getD k nW.zero,rfl,hb,by rw [List.getD_eq_getElem?_getD,List.getElem?_eq_getElem hk];rfl,fun T=>?_⟩
  have q:=fun j (hj:j<6)=>(T.vQ hb (off+(k*6+j))).trans (hc k j hk hj)
  simp only [<- Nat.add_assoc] at q;exact ⟨q 0 (by omega),q 1 (by omega),q 2 (by omega),q 3 (by omega),q 4 (by omega),q 5 (by omega)⟩
section
variable {N:Nat} {L:Lay} {sb:Nat} {B:SvS} {g:List ak}
theorem Oh {F:FuncId} {args:Array Value} {v:Value} (h:iF N L sb B g) (hd:∀ gF,Qf L B.z.x gF->Qa prog F args [gF] fun e gs=>e=.returned v/\∃ g',Qf L B.z.x g'/\gs=[g']) :
 Qa prog F args [g] fun e gs=>e=.returned v/\∃ g',iF N L sb B g'/\gs=[g']:=by
 obtain ⟨S,rfl,hn,vo,va,vc,go,ga,gc,gJ,gW,gZ,hr,hi,rfl⟩:=h;obtain ⟨gC,Aa,gP,gL,h1,h2,h3,h4,rfl⟩:=Zs hi.z;intro w hw;have T:=(TG.refl hw).sum (H':=[Xg sb L.fb vo va vc++(go++(ga++(gc++(gJ++gW)))),gC,(Aa++gP)++gL]);refine (Qa.use (hd gC h1) T [1] rfl rfl).mono ?_
 rintro e w' ⟨gs,⟨he,g1,hn1,rfl⟩,T'⟩;exact ⟨_,⟨he,_,⟨S,rfl,hn,vo,va,vc,go,ga,gc,gJ,gW,_,hr,⟨hi.j,hi.w,zm hn1 h2 h3 h4⟩,rfl⟩,rfl⟩,TG.sum (H:=[Xg sb L.fb vo va vc++(go++(ga++(gc++(gJ++gW)))),g1,(Aa++gP)++gL]) T'⟩
end
theorem qy7 {S:SvS} (hd:∀ (a:Nat) (j:Jw),S.all[a]?=some j->j.w.done=true) {m:Nat} (h1:1<=m) (h2:m<=S.all.length):(S.dw m).code=0:=by
 unfold SvS.dw;rw [if_neg (by omega)];have ha:((m:Int) - 1).toNat<S.all.length:=by omega
 have:=hd _ _ (Xd ha);generalize (S.af ((m:Int) - 1).toNat).w=w at this;cases w with
 | call s k=>show (if s.isNil=true then (⟨k.err,k.ok,k.nI,k.iJ,[],0⟩:oK) else _).code=0;rw [if_pos (show s.isNil=true from this)]
 | turn s k=>show (if s.isNil=true then (⟨k.err,k.ok,0,0,[],0⟩:oK) else _).code=0;rw [if_pos (show s.isNil=true from this)]
 | dM s k=>show (if s.isNil=true then (⟨k.err,k.ok,0,0,k.told,0⟩:oK) else _).code=0;rw [if_pos (show s.isNil=true from this)]
theorem q9k (c:Cfg) (hk:c.ok=true) (h4:c.jA=4) (h12:c.cap<=12) (h7:c.ring<=7) (w w0:World) (sa:Option Addr) (cap:Nat) (es:List nW) (h:DL w sa es) (hw:∀ z∈es,z.c.wf) (hl:es.length<=400) (T0:TG [] w [] w0) :
 Calls prog 53 #[.agg c.cells,.slice sa es.length cap] w0 fun e w'=>∃ L sb B g,e=.returned (Qb sb)/\iF 400 L sb B g/\jO 400 B/\TG [] w [g] w':=by
 have HN:=Vh (BU c hk);have B6:=Vh (show ∀ L sb g,iF 0 L sb (nk c) g->jO 0 (nk c) from fun L sb g hb=>me0 c hk h4 h12 h7 rfl (q9e hb));have HA:=Vh h;have HW:=Vh hw;obtain ⟨n,hn⟩:∃ n,es.length=n:=⟨_,rfl⟩;have hn4:n<=400:=by omega
 rw [hn];have HNL:=Vh hn;obtain ⟨S0,hS0⟩:∃ S0,nk c=S0:=⟨_,rfl⟩;rw [hS0] at HN B6;clear h hw hn hk hl h4 h12 h7 hS0;have HT:=Vh T0;clear T0;obtain ⟨sh,cap_,ring,room,wk,jA⟩:=c;simp only [Cfg.cells] at HN |-;go_enter func53,ntmps53
 go_wp2_with fail
 refine Qa.run HN (HT.aT _) [] ?_
 rintro e w1 gs ⟨La,pa,ga,rfl,nM,rfl⟩ HT;simp only [PU] at HT;have HB0:=Vh nM;have wQ:=Vh (B6.out _ _ _ nM);clear nM;go_wp2_with fail
 have T1:=HT.out
 go_loopw [7] (fun i wr=>∃ (k:Nat) (B:SvS) (ga:List ak),k<=n/\i=.int .i64 k/\iF k La pa B ga/\jO k B/\TG [] w [ga] wr) (fun i _=>n+1 - (intOf i).toNat)
 case atStart=>exact ⟨0,_,ga,Nat.zero_le _,rfl,HB0,wQ,T1⟩
 case round =>
  obtain ⟨k,B,ga,hk,rfl,nM,hlv,T⟩:=hrel;clear T1 HB0 wQ;by_cases hlt:k<n
  ·obtain ⟨bs,off,e,rfl,hbs,Nl,hcells⟩:=HA.at (k:=k) (by rw [HNL.out];exact hlt)
   have hcw:=HW.out e (List.mem_of_getElem? Nl);obtain ⟨c0,c1,c2,c3,c4,c5⟩:=hcells T;have hbs2:bs<wr.heap.size:=Nat.lt_of_lt_of_le hbs T.bel.size;obtain ⟨kd,x,kc,id,dl,per⟩:=e;simp only at c0 c1 c2 c3 c4 c5 hcw;have HT:=Vh T;have uh:=Vh nM;have E7:=Vh hcw;have qH:=Vh hlv;clear T nM Nl hcw hlv;by_cases h0:kd=0
   ·subst h0
    have My:=Vh (IE uh (by omega) x ⟨kc,id,dl,per⟩ E7);simp only [Q0.cells] at My;have nC:=Vh (qH.out.dV E7 0 x);go_wp2_with fail
    refine Mx 11 ?_
    simp only [bY]
    repeat (go_big_quiet_step ((fail)))
    refine wpQuiet_nil (QT HT fun nq HT=>?_)
    go_wp2_with fail
    refine Qa.run My HT [0] ?_
    rintro e w1 gs ⟨yn,rfl,jU,rfl⟩ HT;simp only [PU] at HT;go_wp2_with fail
    refine ⟨rfl,?_⟩
    clear hcells;have HB1:=Vh jU;clear jU c0 c1 c2 c3 c4 c5;go_wp2
    first | go_roundw | refine ⟨?rel,?measure⟩ | ((repeat apply Exists.intro);refine ⟨⟨?rel,rfl⟩,?measure⟩)
    case rel=>exact ⟨k+1,_,yn,by omega,by go_num,HB1,nC,HT⟩
    case measure=>simp [intOf];omega
   ·have hq:(kd == 0)=false:=beq_eq_false_iff_ne.2 h0
    by_cases h1:kd=1
    ·subst h1
     have HST:=Vh (q86 uh (by omega) x);have nC:=Vh (qH.out.stepS (by omega) x);go_wp2_with fail
     refine Qa.run HST HT [0] ?_
     rintro e w1 gs ⟨yn,rfl,jU,rfl⟩ HT;simp only [PU] at HT;clear hcells;have HB1:=Vh jU;clear jU c0 c1 c2 c3 c4 c5;go_wp2
     first | go_roundw | refine ⟨?rel,?measure⟩ | ((repeat apply Exists.intro);refine ⟨⟨?rel,rfl⟩,?measure⟩)
     case rel=>exact ⟨k+1,_,yn,by omega,by go_num,HB1,nC,HT⟩
     case measure=>simp [intOf];omega
    ·have hq1:(kd == 1)=false:=beq_eq_false_iff_ne.2 h1
     have EC:=Vh (Gl uh (by omega) x);have nC:=Vh (qH.out.dm (by omega) x);go_wp2_with fail
     refine Qa.run EC HT [0] ?_
     rintro e w1 gs ⟨yn,rfl,jU,rfl⟩ HT;simp only [PU] at HT;clear hcells;have HB1:=Vh jU;clear jU c0 c1 c2 c3 c4 c5;go_wp2
     first | go_roundw | refine ⟨?rel,?measure⟩ | ((repeat apply Exists.intro);refine ⟨⟨?rel,rfl⟩,?measure⟩)
     case rel=>exact ⟨k+1,_,yn,by omega,by go_num,HB1,nC,HT⟩
     case measure=>simp [intOf];omega
  ·have HT:=Vh T
   have uh:=Vh (nM.mono (M:=400) (by omega));have qH:=Vh (hlv.mono (M:=400) (by omega));clear T nM hlv;go_wp2
   go_ret
   exact ⟨La,pa,B,ga,rfl,uh,qH,HT⟩
theorem serviceEnds_law (a b d:Int) (ha:0<=a/\a<=255) (hb:0<=b/\b<=255) (hd:0<=d/\d<=255) (sa:Option Addr) (cap:Nat) (es:List nW) (w:World) (h:DL w sa es) (h9:es.length<=9223372036854775807) (hw:∀ z∈es,z.c.wf) :
 Calls prog 9 #[.int .u8 a,.int .u8 b,.slice sa es.length cap,.int .u8 d] w fun e w'=>e=.returned (.bool true)/\Below w.heap.size w w':=by
 by_cases hbig:400<es.length
 ·have HG:=Vh (qo1 sa es.length cap hbig)
  have HT:=Vh (TG.N8 (w:=w));clear h hw;go_enter func9,ntmps9
  go_wp2_with fail
  refine Qa.run Sm HT [] ?_
  rintro e w1 gs ⟨rfl,rfl⟩ HT;simp only [PU] at HT;go_wp2_with fail
  refine Qa.run HG HT [] ?_
  rintro e w1 gs ⟨rfl,rfl⟩ HT;simp only [PU] at HT;go_wp2
  go_ret
  exact ⟨rfl,HT.bel⟩
 ·have HG:=Vh (qsj sa es.length cap (by omega))
  have uu:=Vh (q4x a b (by omega) (by omega));have GA:=Vh (show ∀ w0,TG [] w [] w0->_ from fun w0 T0=>q9k (DT a b) (qw1 a b) rfl (by show 1+max 0 b % 12<=12;omega) (by show 1+max 0 b % 7<=7;omega) w w0 sa cap es h hw (by omega) T0);have HT:=Vh (TG.N8 (w:=w));obtain ⟨n,hn⟩:∃ n,es.length=n:=⟨_,rfl⟩;rw [hn] at HG GA |-;clear h hw hn hbig h9;go_enter func9,ntmps9
  go_wp2_with fail
  refine Qa.run Sm HT [] ?_
  rintro e w1 gs ⟨rfl,rfl⟩ HT;simp only [PU] at HT;go_wp2_with fail
  refine Qa.run HG HT [] ?_
  rintro e w1 gs ⟨rfl,rfl⟩ HT;simp only [PU] at HT;go_wp2_with fail
  refine Qa.run uu HT [] ?_
  rintro e w1 gs ⟨rfl,rfl⟩ HT;simp only [PU] at HT;go_wp2_with fail
  refine (GA _ HT).mono ?_
  rintro e w1 ⟨La,pa,B0,ga,rfl,nM,hme,T0⟩;have HT:=Vh T0;have HB0:=Vh nM;have B6:=Vh hme;have xV:=Vh (show B0.phi<=19999 from (NM hme).2 (by omega));clear nM hme T0 GA uu HG;go_wp2_with fail
  have T1:=HT.out
  go_loopw [10] (fun i wr=>∃ (k:Nat) (B:SvS) (ga:List ak),k<=20000/\i=.int .i64 k/\iF (400+k) La pa B ga/\jO (400+k) B/\B.phi+k<=19999/\TG [] w [ga] wr) (fun i _=>20001 - (intOf i).toNat)
  case atStart=>exact ⟨0,_,ga,Nat.zero_le _,rfl,HB0,B6,by have:=xV.out;omega,T1⟩
  case round =>
   obtain ⟨k,B,ga,hk,rfl,nM,hme,Nr,T⟩:=hrel;clear T1 HB0 B6 xV
   have hlt:k<20000:=by
    have:=(NM hme).1;omega
   have HT:=Vh T;have uh:=Vh nM;have zK:=Vh hme;have xV:=Vh Nr;have HI:=Vh (Gj nM (by omega));clear T nM hme Nr;go_wp2_with fail
   refine Qa.run HI HT [0] ?_
   rintro e w1 gs ⟨ga2,rfl,Cq,rfl⟩ HT;simp only [PU] at HT;have uh:=Vh Cq;clear Cq HI;obtain ⟨I,hI⟩:∃ I,B.idle=I:=⟨_,rfl⟩;rw [hI];have HI:=Vh hI;clear hI;cases I with
   | false =>
     have hm:B.bZ.length≠0:=fun e=>by
      have:=goes zK.i.n zK.i.live;rw [HI.out,e] at this;cases this
     obtain ⟨K,hK⟩:∃ K:Int,(k:Int)+(k:Int) / (1+d % 7)=K:=⟨_,rfl⟩;have HK:=Vh hK;have hq0:0<=(k:Int) / (1+d % 7):=Int.ediv_nonneg (by omega) (by omega);have hq1:(k:Int) / (1+d % 7)<=k:=Int.ediv_le_self _ (by omega);clear hK;obtain ⟨p1,p2⟩:=qwx zK (by omega) hm K;have EC:=Vh (Gl uh (by omega) K);rw [p2] at EC;have nC:=Vh (zK.out.dm (by omega) K);have xV:=Vh (show (B.dm K).1.phi+((k+1:Nat):Int)<=19999 by have:=xV.out;omega);clear p1 p2 hm;go_wp2_with fail
     rw [HK.out];refine (Qa.use EC HT [0] rfl rfl).mono ?_
     rintro e w1 ⟨gs,⟨yn,rfl,jU,rfl⟩,Ta⟩;simp only [PU] at Ta;have HT:=Vh Ta;have HB1:=Vh jU;clear Ta jU hq0 hq1;go_wp2
     first | go_roundw | refine ⟨?rel,?measure⟩ | ((repeat apply Exists.intro);refine ⟨⟨?rel,rfl⟩,?measure⟩)
     case rel=>exact ⟨k+1,_,yn,by omega,by go_num,HB1,nC,xV,HT⟩
     case measure=>simp [intOf];omega
   | true =>
     obtain ⟨i1,i2,i3,i4⟩:=q0k zK HI;have HE1:=Vh i1;have HE2:=Vh i2;have HE3:=Vh i3;have HE4:=Vh i4;obtain ⟨nc,hnc⟩:∃ nc,B.all.length=nc:=⟨_,rfl⟩;have M9:=Vh hnc
     have hnc9:nc<=999999:=by
      have:=zK.i.n.al;omega
     clear i1 i2 i3 i4 hnc xV;go_wp2_with fail
     have T2:=HT.out
     go_loopw [13] (fun i wr=>∃ (m:Nat) (ga:List ak),1<=m/\m<=nc+1/\i=.int .i64 m/\iF (400+k) La pa B ga/\TG [] w [ga] wr) (fun i _=>nc+2 - (intOf i).toNat)
     case atStart=>exact ⟨1,ga2,Nat.le_refl _,by omega,rfl,uh,T2⟩
     case round =>
      obtain ⟨m,gb,hm1,hm2,rfl,hbb,T⟩:=hrel;have HT:=Vh T;have xN:=Vh hbb;have iB:=Vh (q6s hbb);clear T hbb T2 uh;rw [M9.out] at iB;by_cases hle:m<=nc
      ·go_wp2_with fail
       refine Qa.run iB HT [0] ?_
       rintro e w1 gs ⟨rfl,rfl⟩ HT;simp only [PU] at HT;have Bu:=q3l xN (by omega) m;rw [qy7 HE2.out hm1 (by rw [M9.out];exact hle)] at Bu;have Bu:=Vh Bu;go_wp2_with fail
       refine Qa.run Bu HT [0] ?_
       rintro e w1 gs ⟨v,gv,MV,rfl,hgv,rQ,rfl⟩ HT;simp only [PU] at HT;have xN:=Vh rQ;clear rQ Bu iB;obtain ⟨⟨f1,f2,f3,f4,f5,f6⟩,Nb⟩:∃ A,B.dw m=A:=⟨_,rfl⟩;rw [Nb] at hgv |-;simp only [oK.cells] at hgv |-;clear Nb;obtain ⟨av,cav,rfl⟩:=Q3.val hgv;clear hgv;go_wp2
       first | go_roundw | refine ⟨?rel,?measure⟩ | ((repeat apply Exists.intro);refine ⟨⟨?rel,rfl⟩,?measure⟩)
       case rel=>exact ⟨m+1,MV,by omega,by omega,by go_num,xN,(HT.aT _).p [0]⟩
       case measure=>simp [intOf];omega
      ·go_wp2_with fail
       refine Qa.run iB HT [0] ?_
       rintro e w1 gs ⟨rfl,rfl⟩ HT;simp only [PU] at HT;have HI2:=Gj xN (by omega);rw [HI.out] at HI2;have HI2:=Vh HI2;go_wp2_with fail
       refine Qa.run HI2 HT [0] ?_
       rintro e w1 gs ⟨MV,rfl,rQ,rfl⟩ HT;simp only [PU] at HT;have HM:=Vh (Hm rQ (by omega));clear rQ HI2 xN iB;go_wp2_with fail
       refine Qa.run HM HT [0] ?_
       rintro e w1 gs ⟨vl,gl,gb3,rfl,hl,vF,rfl⟩ HT;simp only [PU] at HT;obtain ⟨av,cpl,hvl⟩:=Q3.val hl;subst hvl;have HB3:=Vh vF;have HF:=Vh (NG vF);have G5:=Vh (Oh vF fun gF hx=>Ps hx);rw [HE3.out] at G5;clear hl vF HM;rw [HE1.out];go_wp2_with fail
       refine Qa.run HF HT [0] ?_
       rintro e w1 gs ⟨rfl,rfl⟩ HT;simp only [PU] at HT;go_wp2_with fail
       refine Qa.run G5 HT [0] ?_
       rintro e w1 gs ⟨rfl,gb4,yu,rfl⟩ HT;simp only [PU] at HT;have HF:=Vh (NG yu);have Mw:=Vh (Oh yu fun gF hx=>Rv hx);rw [HE4.out] at Mw;clear yu G5 HB3;go_wp2_with fail
       refine Qa.run HF HT [0] ?_
       rintro e w1 gs ⟨rfl,rfl⟩ HT;simp only [PU] at HT;go_wp2_with fail
       refine Qa.run Mw HT [0] ?_
       rintro e w1 gs ⟨rfl,gb5,hbb5,rfl⟩ HT;simp only [PU] at HT;go_wp2
       go_ret
       exact ⟨rfl,(HT.p []).bel⟩
end
end Go.Proofs.YtcneeepdclgdcaaGreat
