import Derived.Test.YtblhfbcodbjgcaaGreatSV34
import Derived.Test.YtblhfbcodbjgcaaGreatSV24
namespace Go.Proofs.YtblhfbcodbjgcaaGreat
set_option linter.unusedVariables false
set_option linter.unusedSimpArgs false
section
open Go.RowKit Go.Shelf
def firstN (th no:Int) (c:CallC):Wk:=if c.kind=7 then .turn firstT (newT th no) else if c.kind=6 then .clo firstS (newS th no) else .call (firstC c.kind) (newW th no c)
def begE (th no:Int) (c:CallC):EvS:=if c.kind=7 then evT (newT th no) { ev0 with kind:=1 } else if c.kind=6 then evS (newS th no) { ev0 with kind:=1 } else (newW th no c).ev { ev0 with kind:=1,id:=c.id,dl:=c.dl,per:=c.per }
def begX (e:EvS) (x:CoreS):CoreS:={ x with tr:=x.tr++[e] }
def SvS.busyAt (S:SvS) (i:Nat):Bool:=match S.own.getD i none with
 | some a=>!(S.jobAt a).w.done
 | none=>false
def SvS.callE (S:SvS) (th:Int) (c:CallC):Int :=
 if th<0∨(S.own.length:Int)≤th then 4
 else if decide (th=(S.own.length:Int) - 1)≠decide (c.kind=7) then 1
 else if S.busyAt th.toNat=true∧1≤c.kind∧c.kind≤7 then 10
 else if c.kind<1∨7<c.kind then 1 else 0
def SvS.callT (S:SvS) (kb:Nat) (th:Int) (c:CallC):SvS :=
 { S with own:=S.own.set th.toNat (some S.all.length),all:=S.all++[⟨kb,0,firstN th (S.all.length+1) c⟩],z:={ S.z with x:=begX (begE th (S.all.length+1) c) S.z.x } }
def SvS.callS (S:SvS) (kb:Nat) (th:Int) (c:CallC):SvS:=if S.callE th c=0 then S.callT kb th c else S
def SvS.callNo (S:SvS) (th:Int) (c:CallC):Int:=if S.callE th c=0 then S.all.length+1 else 0
structure CallOk (S:SvS) (th:Int) (c:CallC):Prop where
 th0:0≤th
 th1:th<S.own.length
 dr:(th=(S.own.length:Int) - 1)↔c.kind=7
 busy:S.busyAt th.toNat=false
 k1:1≤c.kind
 k7:c.kind≤7
theorem callE_ok {S:SvS} {th:Int} {c:CallC} (h:S.callE th c=0):CallOk S th c:=by
 unfold SvS.callE at h
 split at h
 ·cases h
 ·next h1 =>
  split at h
  ·cases h
  ·next h2 =>
   split at h
   ·cases h
   ·next h3 =>
    split at h
    ·cases h
    ·next h4 =>
     refine ⟨by omega,by omega,?_,?_,by omega,by omega⟩
     ·have h2:=Decidable.not_not.1 h2
      exact decide_eq_decide.1 h2
     ·cases hb:S.busyAt th.toNat with
      | false=>rfl
      | true=>exact absurd ⟨hb,by omega,by omega⟩ h3
theorem jobAt_app {S:SvS} {l:List JobS} {a:Nat} (h:a<S.all.length):(S.all++l).getD a job0=S.jobAt a:=by
 unfold SvS.jobAt
 rw [List.getD_eq_getElem?_getD,List.getElem?_append_left h,← List.getD_eq_getElem?_getD]
theorem firstN_n {N:Nat} {th no:Int} {c:CallC} (hc:c.wf) {x:CoreS} (h0:0≤th) (h1:th≤1000000):JobN N (firstN th no c) x:=by
 unfold firstN
 split
 ·refine ⟨⟨h0,⟨by show (0:Int)≤0;omega,by show (0:Int) < _;omega,by show okW 0=true;decide⟩,taskZ,Nat.zero_le _,(fun t ht=>by cases ht),fun i hi=>by cases hi⟩,.inr h1,h1⟩
 ·split
  ·exact ⟨⟨by show (0:Int)≤0;omega,by show (0:Int) < _;omega,by show okW 0=true;decide⟩,Nat.zero_le _,rfl⟩
  ·exact ⟨newW_n hc th no _,first_fit _ _,⟨by show (0:Int)≤0;omega,by show (0:Int)≤_;omega⟩⟩
theorem begX_n {N:Nat} {z:ZF} (h:GloN N z) (e:EvS):GloN (N+1) { z with x:=begX e z.x }:=by
 have hr:=h.zn.rest.mono (M:=N+1) (by omega)
 exact ⟨⟨noteN h.zn.core _,⟨hr.now,hr.busy,hr.cap,hr.wl,hr.wok,hr.task,hr.turns,hr.ch,hr.sp⟩,by have:=h.zn.lg;show z.lg.length≤_;omega⟩,h.ws,h.sh4,h.room⟩
theorem firstN_turn (th no:Int) (c:CallC):(firstN th no c).isTurn=decide (c.kind=7):=by
 unfold firstN
 split
 ·next h=>simp [h,Wk.isTurn]
 ·next h =>
  split <;> simp [h,Wk.isTurn]
theorem callT_n {N:Nat} {S:SvS} {th:Int} {c:CallC} (hn:SvN N S) (ho:CallOk S th c) (hc:c.wf) (kb:Nat):SvN (N+1) (S.callT kb th c):=by
 have hol:=hn.ol
 have h0:=ho.th0
 have h1:=ho.th1
 obtain ⟨t,rfl⟩:∃ t:Nat,th=(t:Int):=⟨th.toNat,by omega⟩
 have htn:((t:Int)).toNat=t:=by omega
 have hkg:KeepG S.z.x (begX (begE t (S.all.length+1) c) S.z.x):=⟨rfl,rfl⟩
 refine ⟨begX_n hn.glo _,fun j hj=>?_,fun c hc=>(hn.crew c hc).mono (by omega),fun k hk=>?_,?_,hn.cl,?_,fun a j ha hj hd=>?_⟩
 ·rcases List.mem_append.1 hj with hj | hj
  ·obtain ⟨a1,a2,a3⟩:=hn.jobs j hj
   exact ⟨(a1.mono (M:=N+1) (by omega)).frame hkg (fun _=>.inl fun _=>rfl),a2,by omega⟩
  ·rw [List.mem_singleton.1 hj]
   exact ⟨firstN_n hc h0 (by omega),Int.le_refl _,by show (0:Int)≤_;omega⟩
 ·show k<(S.all++[_]).length
  rw [List.length_append]
  simp only [List.length_cons,List.length_nil]
  rcases List.mem_or_eq_of_mem_set hk with hk | hk
  ·have:=hn.own k hk;omega
  ·cases hk;omega
 ·show 1≤(S.own.set _ _).length∧(S.own.set _ _).length≤1000
  rw [List.length_set];exact hol
 ·show (S.all++[_]).length≤_
  have:=hn.al
  rw [List.length_append]
  simp only [List.length_cons,List.length_nil];omega
 ·have e1:(S.callT kb t c).own=S.own.set t (some S.all.length):=by
   show S.own.set ((t:Int)).toNat _=_
   rw [htn]
  rw [e1,List.length_set,List.getElem?_set]
  have ha':(S.all++[⟨kb,0,firstN t (S.all.length+1) c⟩])[a]?=some j:=ha
  rcases Nat.lt_or_ge a S.all.length with hlt | hge
  ·rw [List.getElem?_append_left hlt] at ha'
   have hown:=hn.turn a j ha' hj hd
   split
   ·next heq =>
    exfalso
    have hb:=ho.busy
    rw [htn] at hb
    unfold SvS.busyAt at hb
    rw [List.getD_eq_getElem?_getD,heq,hown] at hb
    have hja:S.jobAt a=j:=by
     have:=jobAt_get hlt
     rw [ha'] at this
     exact (Option.some.inj this).symm
    simp only [Option.getD_some,hja,hd] at hb
    cases hb
   ·exact hown
  ·rw [List.getElem?_append_right hge] at ha'
   obtain ⟨hz,rfl⟩:a - S.all.length=0∧j=⟨kb,0,firstN t (S.all.length+1) c⟩:=by
    cases h9:a - S.all.length with
    | zero=>rw [h9] at ha';exact ⟨rfl,(Option.some.inj ha').symm⟩
    | succ m=>rw [h9] at ha';cases ha'
   have hk7:c.kind=7:=by
    have:(firstN (t:Int) (S.all.length+1) c).isTurn=true:=hj
    rw [firstN_turn] at this
    exact of_decide_eq_true this
   have htl:=ho.dr.2 hk7
   have e2:t=S.own.length - 1:=by omega
   have e3:a=S.all.length:=by omega
   rw [if_pos e2,if_pos (by omega),e3]
theorem callS_n {N:Nat} {S:SvS} (hn:SvN N S) {c:CallC} (hc:c.wf) (kb:Nat) (th:Int):SvN (N+1) (S.callS kb th c):=by
 unfold SvS.callS
 split
 ·next h=>exact callT_n hn (callE_ok h) hc kb
 ·exact hn.mono (by omega)
theorem callT_os {N:Nat} {S:SvS} {th:Int} {c:CallC} (hn:SvN N S) (kb:Nat):(S.callT kb th c).os=S.os.set th.toNat (some (firstN th (S.all.length+1) c,kb)):=by
 show (S.own.set th.toNat (some S.all.length)).map _=(S.own.map _).set _ _
 rw [List.map_set]
 have e1:(Option.map (fun a=>(((S.callT kb th c).jobAt a).w,((S.callT kb th c).jobAt a).kb)) (some S.all.length))=some (firstN th (S.all.length+1) c,kb):=by
  have:(S.callT kb th c).jobAt S.all.length=⟨kb,0,firstN th (S.all.length+1) c⟩:=by
   show (S.all++[_]).getD S.all.length job0=_
   rw [List.getD_eq_getElem?_getD,List.getElem?_append_right (Nat.le_refl _),Nat.sub_self]
   rfl
  exact congrArg (fun j:JobS=>some (j.w,j.kb)) this
 rw [e1]
 congr 1
 refine List.map_congr_left fun o ho=>?_
 cases o with
 | none=>rfl
 | some a =>
   have:(S.callT kb th c).jobAt a=S.jobAt a:=jobAt_app (hn.own a ho)
   exact congrArg (fun j:JobS=>some (j.w,j.kb)) this
end
section
open Go.RowKit Go.Shelf
section
variable {L:Lay} {sb:Nat} {S:SvS} {N:Nat} {vo va vc:Value} {go ga gc gJ gW gZ:List Blk}
def BgR (L:Lay) (sb:Nat) (S:SvS) (vo va vc:Value) (go:List Blk) (th:Int) (c:CallC) (e:Ending) (gs:GH):Prop :=
 (∃ kb gN gJ' gZ',S.callE th c=0∧e=.returned (.tuple #[.iface (firstN th (S.all.length+1) c).ty (ptr' kb),.int .i64 0])∧isJob L kb 0 (firstN th (S.all.length+1) c) gN∧isJobs L S.all gJ'∧isZ L { S.z with x:=begX (begE th (S.all.length+1) c) S.z.x } gZ'∧gs=[headB sb L.fb vo va vc,go,gJ',gZ',gN]) ∨
 (∃ v gJ' gZ',S.callE th c≠0∧e=.returned (.tuple #[v,.int .i64 (S.callE th c)])∧isJobs L S.all gJ'∧isZ L S.z gZ'∧gs=[headB sb L.fb vo va vc,go,gJ',gZ'])
theorem callE_0 {t:Nat} {c:CallC} (h1:t<S.own.length) (hd:decide ((t:Int)=(S.own.length:Int) - 1)=decide (c.kind=7)) (hb:S.busyAt t=false) (hk:1≤c.kind∧c.kind≤7):S.callE t c=0:=by
 unfold SvS.callE
 rw [if_neg (by omega),if_neg (by rw [hd];simp),if_neg (by rw [Int.toNat_natCast,hb];simp),if_neg (by omega)]
theorem callE_1 {t:Nat} {c:CallC} (h1:t<S.own.length) (hd:decide ((t:Int)=(S.own.length:Int) - 1)≠decide (c.kind=7)):S.callE t c=1:=by
 unfold SvS.callE
 rw [if_neg (by omega),if_pos hd]
theorem callE_10 {t:Nat} {c:CallC} (h1:t<S.own.length) (hd:decide ((t:Int)=(S.own.length:Int) - 1)=decide (c.kind=7)) (hb:S.busyAt t=true) (hk:1≤c.kind∧c.kind≤7):S.callE t c=10:=by
 unfold SvS.callE
 rw [if_neg (by omega),if_neg (by rw [hd];simp),if_pos ⟨by rw [Int.toNat_natCast];exact hb,hk⟩]
theorem callE_bad {t:Nat} {c:CallC} (h1:t<S.own.length) (hd:decide ((t:Int)=(S.own.length:Int) - 1)=decide (c.kind=7)) (hk:c.kind<1∨7<c.kind):S.callE t c=1:=by
 unfold SvS.callE
 rw [if_neg (by omega),if_neg (by rw [hd];simp),if_neg (by omega),if_pos hk]
theorem firstN_7 {th no:Int} {c:CallC} (h:c.kind=7):firstN th no c=.turn firstT (newT th no)∧begE th no c=evT (newT th no) { ev0 with kind:=1 }:=⟨if_pos h,if_pos h⟩
theorem firstN_6 {th no:Int} {c:CallC} (h:c.kind=6):firstN th no c=.clo firstS (newS th no)∧begE th no c=evS (newS th no) { ev0 with kind:=1 }:=by
 have h7:¬ c.kind=7:=by omega
 exact ⟨(if_neg h7).trans (if_pos h),(if_neg h7).trans (if_pos h)⟩
theorem firstN_5 {th no:Int} {c:CallC} (h:c.kind≤5):firstN th no c=.call (firstC c.kind) (newW th no c)∧begE th no c=(newW th no c).ev { ev0 with kind:=1,id:=c.id,dl:=c.dl,per:=c.per }:=by
 have h7:¬ c.kind=7:=by omega
 have h6:¬ c.kind=6:=by omega
 exact ⟨(if_neg h7).trans (if_neg h6),(if_neg h7).trans (if_neg h6)⟩
theorem beginT (hz:isZ L S.z gZ) (hn:S.z.x.tr.length≤1000000) (th no:Int) (hth:0≤th):DoesG Tryz.prog 29 #[ptr' L.fb,.int .i64 th,.int .i64 no] [gZ] fun en gs =>
 ∃ kb g gZ',en=.returned (.tuple #[ptr' kb,.int .i64 0])∧isJob L kb 0 (.turn firstT (newT th no)) g∧isZ L { S.z with x:=begX (evT (newT th no) { ev0 with kind:=1 }) S.z.x } gZ'∧gs=[g,gZ']:=by
 obtain ⟨gT,gL,h1,h2,rfl⟩:=hz
 intro w hw
 have h2':HasG ([gT]++[gL]) w:=hw.re (by simp)
 refine (turnBegin h1 hn th no hth w h2'.left).mono ?_
 rintro e w' ⟨gs,⟨kb,g,gF',rfl,a,b,rfl⟩,T⟩
 exact ⟨_,⟨kb,g,gF'++gL,rfl,a,⟨gF',gL,b,h2,rfl⟩,rfl⟩,((T.frame h2').eq (by simp)).base (by simp)⟩
theorem beginS (hz:isZ L S.z gZ) (hn:S.z.x.tr.length≤1000000) (th no:Int):DoesG Tryz.prog 149 #[ptr' L.fb,.int .i64 th,.int .i64 no] [gZ] fun en gs =>
 ∃ kb g gZ',en=.returned (.tuple #[ptr' kb,.int .i64 0])∧isJob L kb 0 (.clo firstS (newS th no)) g∧isZ L { S.z with x:=begX (evS (newS th no) { ev0 with kind:=1 }) S.z.x } gZ'∧gs=[g,gZ']:=by
 obtain ⟨gC,gW,gP,gL,h1,h2,h3,h4,rfl⟩:=isZ_open hz
 intro w hw
 have h2':HasG ([gC++gP]++[gW++gL]) w:=hw.re (by
  classical
  refine List.perm_iff_count.2 fun x=>?_
  simp only [List.flatten_append,List.flatten_cons,List.flatten_nil,List.append_nil,List.count_append]
  omega)
 refine (cloBegin ⟨gC,gP,h1,h3,rfl⟩ hn th no w h2'.left).mono ?_
 rintro e w' ⟨gs,⟨kb,g,gF',rfl,a,⟨gC',gP',b1,b2,rfl⟩,rfl⟩,T⟩
 refine ⟨_,⟨kb,g,_,rfl,a,isZ_mk (z:={ S.z with x:=begX (evS (newS th no) { ev0 with kind:=1 }) S.z.x }) b1 h2 b2 h4,rfl⟩,((T.frame h2').re ?_).basePerm ?_⟩
 ·classical
  refine List.perm_iff_count.2 fun x=>?_
  simp only [List.flatten_append,List.flatten_cons,List.flatten_nil,List.append_nil,List.count_append]
  omega
 ·classical
  refine List.perm_iff_count.2 fun x=>?_
  simp only [List.flatten_append,List.flatten_cons,List.flatten_nil,List.append_nil,List.count_append]
  omega
theorem beginC (hz:isZ L S.z gZ) (hn:S.z.x.tr.length≤1000000) (th no:Int) (c:CallC) (h1:1≤c.kind) (h5:c.kind≤5):DoesG Tryz.prog 18 #[ptr' L.fb,.int .i64 th,.int .i64 no,.agg c.cells] [gZ] fun en gs =>
 ∃ kb g gZ',en=.returned (.tuple #[ptr' kb,.int .i64 0])∧isJob L kb 0 (.call (firstC c.kind) (newW th no c)) g∧isZ L { S.z with x:=begX ((newW th no c).ev { ev0 with kind:=1,id:=c.id,dl:=c.dl,per:=c.per }) S.z.x } gZ'∧gs=[g,gZ']:=by
 obtain ⟨gC,gW,gP,gL,k1,k2,k3,k4,rfl⟩:=isZ_open hz
 intro w hw
 have h2':HasG ([gC]++[gW++(gP++gL)]) w:=hw.re (by simp)
 refine (callBegin k1 hn th no c h1 h5 w h2'.left).mono ?_
 rintro e w' ⟨gs,⟨kb,g,gC',rfl,a,b,rfl⟩,T⟩
 exact ⟨_,⟨kb,g,_,rfl,a,isZ_mk (z:={ S.z with x:=begX ((newW th no c).ev { ev0 with kind:=1,id:=c.id,dl:=c.dl,per:=c.per }) S.z.x }) b k2 k3 k4,rfl⟩,((T.frame h2').eq (by simp)).base (by simp)⟩
theorem beginBad (hz:isZ L S.z gZ) (th no:Int) (c:CallC) (h:c.kind<1∨5<c.kind):DoesG Tryz.prog 18 #[ptr' L.fb,.int .i64 th,.int .i64 no,.agg c.cells] [gZ] fun en gs =>
 en=.returned (.tuple #[.pointer none,.int .i64 1])∧gs=[gZ]:=by
 obtain ⟨gC,gW,gP,gL,k1,k2,k3,k4,rfl⟩:=isZ_open hz
 intro w hw
 have h2':HasG ([gC]++[gW++(gP++gL)]) w:=hw.re (by simp)
 refine (callBegin_bad k1 th no c h w h2'.left).mono ?_
 rintro e w' ⟨gs,⟨rfl,rfl⟩,T⟩
 exact ⟨_,⟨rfl,rfl⟩,((T.frame h2').eq (by simp)).base (by simp)⟩
set_option maxRecDepth 100000 in
set_option maxHeartbeats 4000000 in
theorem begin_bad (hn:SvN N S) (hN:N<999998) (hr:SvRows L sb S vo va vc go ga gc) (hi:SvIn L S gJ gW gZ) {t:Nat} (ht:t<S.own.length) (c:CallC)
 (hd:decide ((t:Int)=(S.own.length:Int) - 1)≠decide (c.kind=7)):DoesG Tryz.prog 113 #[ptr' sb,.int .i64 t,.int .i64 (S.all.length+1),.agg c.cells] [headB sb L.fb vo va vc,go,gJ,gZ] (BgR L sb S vo va vc go t c):=by
 have HE:=Lib.hid (callE_1 ht hd)
 obtain ⟨avo,capo,rfl⟩:=rowG.val hr.o
 have HJ:=Lib.hid hi.j
 have HZ:=Lib.hid hi.z
 have htr:S.z.x.tr.length≤1000000:=by have:=hn.glo.zn.core.tr;omega
 have hol:=hn.ol
 have hno:((S.all.length:Int)+1)=((S.all.length:Int)+1):=rfl
 obtain ⟨NO,hNO⟩:∃ x,((S.all.length:Int)+1)=x:=⟨_,rfl⟩
 have HRO:=Lib.hid hr.o
 intro w hw
 have T0:=TG.refl hw
 have HT:=Lib.hid T0
 clear hw T0
 have sv0:=HT.out.cell 0 0 rfl 0
 have sv1:=HT.out.cell 0 0 rfl 1
 simp only [headB,GE3] at sv0 sv1
 have lth:=HT.out.lt 0 0 rfl
 simp only [] at lth
 obtain ⟨o,ho⟩:∃ o,S.own[t]?=some o:=⟨_,List.getElem?_eq_getElem ht⟩
 obtain ⟨rb,cp,hv,hcell⟩:=rowV_at HRO.out HT.out 1 rfl (by simp) (k:=t) (x:=ifO (o.map fun a=>((S.jobAt a).w,(S.jobAt a).kb))) (by unfold SvS.os;rw [List.getElem?_map,List.getElem?_map,ho];rfl)
 obtain ⟨rfl,rfl⟩:avo=some ⟨rb,0,none⟩∧capo=cp:=by cases hv;exact ⟨rfl,rfl⟩
 have ltb:rb<w.heap.size:=by
  obtain ⟨b',c',cur,hv',hg',_⟩:=HRO.out.open (by omega)
  cases hv'
  have:=HT.out.lt 1 0 (p:=(rb,.cells cur 188)) (by show go[0]?=_;rw [hg'];rfl)
  exact this
 clear hv
 obtain ⟨kd,id,dl,per⟩:=c
 simp only at hd
 have q1:((t:Int) == (S.own.length:Int) - 1)=decide ((t:Int)=(S.own.length:Int) - 1):=rfl
 have q2:(kd == 7)=decide (kd=7):=rfl
 cases b1:decide ((t:Int)=(S.own.length:Int) - 1) <;> cases b2:decide (kd=7) <;> rw [b1] at q1 hd <;> rw [b2] at q2 hd
 ·exact absurd rfl hd
 ·clear hr hi hn hd b1 b2
  simp only [CallC.cells]
  rw [hNO]
  go_enter Tryz.func113,Tryz.ntmps113
  go_wp2
  go_ret2
  exact ⟨_,.inr ⟨.nilIface,gJ,gZ,by rw [HE.out];decide,by rw [HE.out];rfl,HJ.out,HZ.out,rfl⟩,HT.out.alloc0 _⟩
 ·clear hr hi hn hd b1 b2
  simp only [CallC.cells]
  rw [hNO]
  go_enter Tryz.func113,Tryz.ntmps113
  go_wp2
  go_ret2
  exact ⟨_,.inr ⟨.nilIface,gJ,gZ,by rw [HE.out];decide,by rw [HE.out];rfl,HJ.out,HZ.out,rfl⟩,HT.out.alloc0 _⟩
 ·exact absurd rfl hd
end
end
section
open Go.RowKit Go.Shelf
section
variable {L:Lay} {sb:Nat} {S:SvS} {N:Nat} {vo va vc:Value} {go ga gc gJ gW gZ:List Blk}
set_option maxRecDepth 100000 in
set_option maxHeartbeats 4000000 in
theorem begin_turn (hn:SvN N S) (hN:N<999998) (hr:SvRows L sb S vo va vc go ga gc) (hi:SvIn L S gJ gW gZ) {t:Nat} (ht:t<S.own.length) (id dl per:Int)
 (hd:(t:Int)=(S.own.length:Int) - 1):DoesG Tryz.prog 113 #[ptr' sb,.int .i64 t,.int .i64 (S.all.length+1),.agg (CallC.cells ⟨7,id,dl,per⟩)] [headB sb L.fb vo va vc,go,gJ,gZ] (BgR L sb S vo va vc go t ⟨7,id,dl,per⟩):=by
 obtain ⟨avo,capo,rfl⟩:=rowG.val hr.o
 have HJ:=Lib.hid hi.j
 have HZ:=Lib.hid hi.z
 have htr:S.z.x.tr.length≤1000000:=by have:=hn.glo.zn.core.tr;omega
 have hol:=hn.ol
 obtain ⟨NO,hNO⟩:∃ x,((S.all.length:Int)+1)=x:=⟨_,rfl⟩
 have HRO:=Lib.hid hr.o
 intro w hw
 have T0:=TG.refl hw
 have HT:=Lib.hid T0
 clear hw T0
 have sv0:=HT.out.cell 0 0 rfl 0
 have sv1:=HT.out.cell 0 0 rfl 1
 simp only [headB,GE3] at sv0 sv1
 have lth:=HT.out.lt 0 0 rfl
 simp only [] at lth
 obtain ⟨o,ho⟩:∃ o,S.own[t]?=some o:=⟨_,List.getElem?_eq_getElem ht⟩
 obtain ⟨rb,cp,hv,hcell⟩:=rowV_at HRO.out HT.out 1 rfl (by simp) (k:=t) (x:=ifO (o.map fun a=>((S.jobAt a).w,(S.jobAt a).kb))) (by unfold SvS.os;rw [List.getElem?_map,List.getElem?_map,ho];rfl)
 obtain ⟨rfl,rfl⟩:avo=some ⟨rb,0,none⟩∧capo=cp:=by cases hv;exact ⟨rfl,rfl⟩
 have ltb:rb<w.heap.size:=by
  obtain ⟨b',c',cur,hv',hg',_⟩:=HRO.out.open (by omega)
  cases hv'
  have:=HT.out.lt 1 0 (p:=(rb,.cells cur 188)) (by show go[0]?=_;rw [hg'];rfl)
  exact this
 clear hv
 have HF:=Lib.hid (firstN_7 (th:=(t:Int)) (no:=NO) (c:=⟨7,id,dl,per⟩) rfl)
 have HBE:=Lib.hid (beginT HZ.out htr (t:Int) ((S.all.length:Int)+1) (by omega))
 have q1:((t:Int) == (S.own.length:Int) - 1)=true:=by rw [hd];exact beq_self_eq_true _
 have hdd:decide ((t:Int)=(S.own.length:Int) - 1)=decide ((7:Int)=7):=by rw [decide_eq_true hd];rfl
 cases o with
 | none =>
   have hb:S.busyAt t=false:=by unfold SvS.busyAt;rw [List.getD_eq_getElem?_getD,ho];rfl
   have hnq:=neq_nilI
   change _=some Value.nilIface at hcell
   have HJ':=HJ
   have HE:=Lib.hid (callE_0 (c:=⟨7,id,dl,per⟩) ht hdd hb (show (1:Int)≤7∧(7:Int)≤7 by decide))
   clear hdd hd
   clear hr hi hn ho
   simp only [CallC.cells]
   rw [hNO] at HBE ⊢
   have HT:=Lib.hid (HT.out.alloc (k:=w.heap.size) rfl 38 #[.int .i64 7,.int .u64 id,.int .u64 dl,.int .u64 per])
   obtain ⟨W0,hW0⟩:∃ W0,W0=w.alloc (.cells #[.int .i64 7,.int .u64 id,.int .u64 dl,.int .u64 per] 38):=⟨_,rfl⟩
   go_enter Tryz.func113,Tryz.ntmps113
   go_wp2_with fail
   refine (DoesG.use (HBE.out) (HT.out) [3] rfl rfl).mono ?_
   rintro e w1 ⟨gs,⟨kb,gN,gZ',rfl,hjn,hz',rfl⟩,Ta⟩
   simp only [PU] at Ta
   have HT:=Lib.hid Ta
   clear Ta
   have HX:=Lib.hid (And.intro hjn hz')
   clear hjn hz'
   skip
   go_wp2
   go_ret2
   exact ⟨_,.inl ⟨kb,gN,_,gZ',HE.out,by rw [hNO,HF.out.1];rfl,by rw [hNO,HF.out.1];exact HX.out.1,HJ'.out,by rw [hNO,HF.out.2];exact HX.out.2,rfl⟩,HT.out.pick [0,1,2,5,3] rfl⟩
 | some a =>
   have hk:=jobAt_get (hn.own a (List.mem_of_getElem? ho))
   have hbz:S.busyAt t=!(S.jobAt a).w.done:=by unfold SvS.busyAt;rw [List.getD_eq_getElem?_getD,ho];rfl
   have HD:=Lib.hid (jobsDone hi.j hk)
   have hnq:=neq_ifI (S.jobAt a).w (S.jobAt a).kb
   have hmt:=w_mDone (S.jobAt a).w
   have hcl:=w_cDone (S.jobAt a).w
   change _=some (Value.iface (S.jobAt a).w.ty (ptr' (S.jobAt a).kb)) at hcell
   obtain ⟨d,hdn⟩:∃ d,(S.jobAt a).w.done=d:=⟨_,rfl⟩
   obtain ⟨tyV,hty⟩:∃ y,(S.jobAt a).w.ty=y:=⟨_,rfl⟩
   obtain ⟨fV,hfv⟩:∃ y,(S.jobAt a).w.fDone=y:=⟨_,rfl⟩
   obtain ⟨bV,hbv⟩:∃ y,(S.jobAt a).kb=y:=⟨_,rfl⟩
   rw [hdn,hfv,hbv] at HD
   rw [hty,hfv] at hmt
   rw [hty,hbv] at hnq
   rw [hfv] at hcl
   rw [hdn] at hbz
   rw [hty,hbv] at hcell
   clear hk hdn hty hfv hbv
   cases d with
   | true =>
     have HE:=Lib.hid (callE_0 (c:=⟨7,id,dl,per⟩) ht hdd hbz (show (1:Int)≤7∧(7:Int)≤7 by decide))
     clear hdd hd hbz
     clear hr hi hn ho
     simp only [CallC.cells]
     rw [hNO] at HBE ⊢
     have HT:=Lib.hid (HT.out.alloc (k:=w.heap.size) rfl 38 #[.int .i64 7,.int .u64 id,.int .u64 dl,.int .u64 per])
     obtain ⟨W0,hW0⟩:∃ W0,W0=w.alloc (.cells #[.int .i64 7,.int .u64 id,.int .u64 dl,.int .u64 per] 38):=⟨_,rfl⟩
     go_enter Tryz.func113,Tryz.ntmps113
     go_wp2_with fail
     go_wp2_with fail
     refine (DoesG.use (HD.out) (HT.out) [2] rfl rfl).mono ?_
     rintro e w1 ⟨gs,⟨gJ',rfl,hj',rfl⟩,Ta⟩
     simp only [PU] at Ta
     have HT:=Lib.hid Ta
     clear Ta
     have HJ':=Lib.hid hj'
     clear hj' sv0 sv1 hcell
     have sv0:=HT.out.cell 0 0 rfl 0
     simp only [headB,GE3] at sv0
     have lth:=HT.out.lt 0 0 rfl
     simp only [] at lth
     have b0:=HT.out.cell 4 0 rfl 0
     have b1:=HT.out.cell 4 0 rfl 1
     have b2:=HT.out.cell 4 0 rfl 2
     have b3:=HT.out.cell 4 0 rfl 3
     simp only [GE4] at b0 b1 b2 b3
     have ltq:=HT.out.lt 4 0 rfl
     simp only [] at ltq
     go_wp2_with fail
     refine (DoesG.use (HBE.out) (HT.out) [3] rfl rfl).mono ?_
     rintro e w1 ⟨gs,⟨kb,gN,gZ',rfl,hjn,hz',rfl⟩,Ta⟩
     simp only [PU] at Ta
     have HT:=Lib.hid Ta
     clear Ta
     have HX:=Lib.hid (And.intro hjn hz')
     clear hjn hz'
     skip
     go_wp2
     go_ret2
     exact ⟨_,.inl ⟨kb,gN,_,gZ',HE.out,by rw [hNO,HF.out.1];rfl,by rw [hNO,HF.out.1];exact HX.out.1,HJ'.out,by rw [hNO,HF.out.2];exact HX.out.2,rfl⟩,HT.out.pick [0,1,2,5,3] rfl⟩
   | false =>
     have HE:=Lib.hid (callE_10 (c:=⟨7,id,dl,per⟩) ht hdd hbz (show (1:Int)≤7∧(7:Int)≤7 by decide))
     clear hdd hd hbz
     clear hr hi hn ho
     simp only [CallC.cells]
     rw [hNO] at HBE ⊢
     have HT:=Lib.hid (HT.out.alloc (k:=w.heap.size) rfl 38 #[.int .i64 7,.int .u64 id,.int .u64 dl,.int .u64 per])
     obtain ⟨W0,hW0⟩:∃ W0,W0=w.alloc (.cells #[.int .i64 7,.int .u64 id,.int .u64 dl,.int .u64 per] 38):=⟨_,rfl⟩
     go_enter Tryz.func113,Tryz.ntmps113
     go_wp2_with fail
     go_wp2_with fail
     refine (DoesG.use (HD.out) (HT.out) [2] rfl rfl).mono ?_
     rintro e w1 ⟨gs,⟨gJ',rfl,hj',rfl⟩,Ta⟩
     simp only [PU] at Ta
     have HT:=Lib.hid Ta
     clear Ta
     have HJ':=Lib.hid hj'
     clear hj' sv0 sv1 hcell
     have sv0:=HT.out.cell 0 0 rfl 0
     simp only [headB,GE3] at sv0
     have lth:=HT.out.lt 0 0 rfl
     simp only [] at lth
     have b0:=HT.out.cell 4 0 rfl 0
     have b1:=HT.out.cell 4 0 rfl 1
     have b2:=HT.out.cell 4 0 rfl 2
     have b3:=HT.out.cell 4 0 rfl 3
     simp only [GE4] at b0 b1 b2 b3
     have ltq:=HT.out.lt 4 0 rfl
     simp only [] at ltq
     go_wp2
     go_ret2
     exact ⟨_,.inr ⟨.nilIface,_,gZ,by rw [HE.out];decide,by rw [HE.out];rfl,HJ'.out,HZ.out,rfl⟩,HT.out.pick [0,1,2,3] rfl⟩
set_option maxRecDepth 100000 in
set_option maxHeartbeats 4000000 in
theorem begin_shut (hn:SvN N S) (hN:N<999998) (hr:SvRows L sb S vo va vc go ga gc) (hi:SvIn L S gJ gW gZ) {t:Nat} (ht:t<S.own.length) (id dl per:Int)
 (hd:(t:Int)≠(S.own.length:Int) - 1):DoesG Tryz.prog 113 #[ptr' sb,.int .i64 t,.int .i64 (S.all.length+1),.agg (CallC.cells ⟨6,id,dl,per⟩)] [headB sb L.fb vo va vc,go,gJ,gZ] (BgR L sb S vo va vc go t ⟨6,id,dl,per⟩):=by
 obtain ⟨avo,capo,rfl⟩:=rowG.val hr.o
 have HJ:=Lib.hid hi.j
 have HZ:=Lib.hid hi.z
 have htr:S.z.x.tr.length≤1000000:=by have:=hn.glo.zn.core.tr;omega
 have hol:=hn.ol
 obtain ⟨NO,hNO⟩:∃ x,((S.all.length:Int)+1)=x:=⟨_,rfl⟩
 have HRO:=Lib.hid hr.o
 intro w hw
 have T0:=TG.refl hw
 have HT:=Lib.hid T0
 clear hw T0
 have sv0:=HT.out.cell 0 0 rfl 0
 have sv1:=HT.out.cell 0 0 rfl 1
 simp only [headB,GE3] at sv0 sv1
 have lth:=HT.out.lt 0 0 rfl
 simp only [] at lth
 obtain ⟨o,ho⟩:∃ o,S.own[t]?=some o:=⟨_,List.getElem?_eq_getElem ht⟩
 obtain ⟨rb,cp,hv,hcell⟩:=rowV_at HRO.out HT.out 1 rfl (by simp) (k:=t) (x:=ifO (o.map fun a=>((S.jobAt a).w,(S.jobAt a).kb))) (by unfold SvS.os;rw [List.getElem?_map,List.getElem?_map,ho];rfl)
 obtain ⟨rfl,rfl⟩:avo=some ⟨rb,0,none⟩∧capo=cp:=by cases hv;exact ⟨rfl,rfl⟩
 have ltb:rb<w.heap.size:=by
  obtain ⟨b',c',cur,hv',hg',_⟩:=HRO.out.open (by omega)
  cases hv'
  have:=HT.out.lt 1 0 (p:=(rb,.cells cur 188)) (by show go[0]?=_;rw [hg'];rfl)
  exact this
 clear hv
 have HF:=Lib.hid (firstN_6 (th:=(t:Int)) (no:=NO) (c:=⟨6,id,dl,per⟩) rfl)
 have HBE:=Lib.hid (beginS HZ.out htr (t:Int) ((S.all.length:Int)+1))
 have q1:((t:Int) == (S.own.length:Int) - 1)=false:=beq_eq_false_iff_ne.2 hd
 have hdd:decide ((t:Int)=(S.own.length:Int) - 1)=decide ((6:Int)=7):=by rw [decide_eq_false hd];rfl
 cases o with
 | none =>
   have hb:S.busyAt t=false:=by unfold SvS.busyAt;rw [List.getD_eq_getElem?_getD,ho];rfl
   have hnq:=neq_nilI
   change _=some Value.nilIface at hcell
   have HJ':=HJ
   have HE:=Lib.hid (callE_0 (c:=⟨6,id,dl,per⟩) ht hdd hb (show (1:Int)≤6∧(6:Int)≤7 by decide))
   clear hdd hd
   clear hr hi hn ho
   simp only [CallC.cells]
   rw [hNO] at HBE ⊢
   have HT:=Lib.hid (HT.out.alloc (k:=w.heap.size) rfl 38 #[.int .i64 6,.int .u64 id,.int .u64 dl,.int .u64 per])
   obtain ⟨W0,hW0⟩:∃ W0,W0=w.alloc (.cells #[.int .i64 6,.int .u64 id,.int .u64 dl,.int .u64 per] 38):=⟨_,rfl⟩
   go_enter Tryz.func113,Tryz.ntmps113
   go_wp2_with fail
   refine (DoesG.use (HBE.out) (HT.out) [3] rfl rfl).mono ?_
   rintro e w1 ⟨gs,⟨kb,gN,gZ',rfl,hjn,hz',rfl⟩,Ta⟩
   simp only [PU] at Ta
   have HT:=Lib.hid Ta
   clear Ta
   have HX:=Lib.hid (And.intro hjn hz')
   clear hjn hz'
   skip
   go_wp2
   go_ret2
   exact ⟨_,.inl ⟨kb,gN,_,gZ',HE.out,by rw [hNO,HF.out.1];rfl,by rw [hNO,HF.out.1];exact HX.out.1,HJ'.out,by rw [hNO,HF.out.2];exact HX.out.2,rfl⟩,HT.out.pick [0,1,2,5,3] rfl⟩
 | some a =>
   have hk:=jobAt_get (hn.own a (List.mem_of_getElem? ho))
   have hbz:S.busyAt t=!(S.jobAt a).w.done:=by unfold SvS.busyAt;rw [List.getD_eq_getElem?_getD,ho];rfl
   have HD:=Lib.hid (jobsDone hi.j hk)
   have hnq:=neq_ifI (S.jobAt a).w (S.jobAt a).kb
   have hmt:=w_mDone (S.jobAt a).w
   have hcl:=w_cDone (S.jobAt a).w
   change _=some (Value.iface (S.jobAt a).w.ty (ptr' (S.jobAt a).kb)) at hcell
   obtain ⟨d,hdn⟩:∃ d,(S.jobAt a).w.done=d:=⟨_,rfl⟩
   obtain ⟨tyV,hty⟩:∃ y,(S.jobAt a).w.ty=y:=⟨_,rfl⟩
   obtain ⟨fV,hfv⟩:∃ y,(S.jobAt a).w.fDone=y:=⟨_,rfl⟩
   obtain ⟨bV,hbv⟩:∃ y,(S.jobAt a).kb=y:=⟨_,rfl⟩
   rw [hdn,hfv,hbv] at HD
   rw [hty,hfv] at hmt
   rw [hty,hbv] at hnq
   rw [hfv] at hcl
   rw [hdn] at hbz
   rw [hty,hbv] at hcell
   clear hk hdn hty hfv hbv
   cases d with
   | true =>
     have HE:=Lib.hid (callE_0 (c:=⟨6,id,dl,per⟩) ht hdd hbz (show (1:Int)≤6∧(6:Int)≤7 by decide))
     clear hdd hd hbz
     clear hr hi hn ho
     simp only [CallC.cells]
     rw [hNO] at HBE ⊢
     have HT:=Lib.hid (HT.out.alloc (k:=w.heap.size) rfl 38 #[.int .i64 6,.int .u64 id,.int .u64 dl,.int .u64 per])
     obtain ⟨W0,hW0⟩:∃ W0,W0=w.alloc (.cells #[.int .i64 6,.int .u64 id,.int .u64 dl,.int .u64 per] 38):=⟨_,rfl⟩
     go_enter Tryz.func113,Tryz.ntmps113
     go_wp2_with fail
     go_wp2_with fail
     refine (DoesG.use (HD.out) (HT.out) [2] rfl rfl).mono ?_
     rintro e w1 ⟨gs,⟨gJ',rfl,hj',rfl⟩,Ta⟩
     simp only [PU] at Ta
     have HT:=Lib.hid Ta
     clear Ta
     have HJ':=Lib.hid hj'
     clear hj' sv0 sv1 hcell
     have sv0:=HT.out.cell 0 0 rfl 0
     simp only [headB,GE3] at sv0
     have lth:=HT.out.lt 0 0 rfl
     simp only [] at lth
     have b0:=HT.out.cell 4 0 rfl 0
     have b1:=HT.out.cell 4 0 rfl 1
     have b2:=HT.out.cell 4 0 rfl 2
     have b3:=HT.out.cell 4 0 rfl 3
     simp only [GE4] at b0 b1 b2 b3
     have ltq:=HT.out.lt 4 0 rfl
     simp only [] at ltq
     go_wp2_with fail
     refine (DoesG.use (HBE.out) (HT.out) [3] rfl rfl).mono ?_
     rintro e w1 ⟨gs,⟨kb,gN,gZ',rfl,hjn,hz',rfl⟩,Ta⟩
     simp only [PU] at Ta
     have HT:=Lib.hid Ta
     clear Ta
     have HX:=Lib.hid (And.intro hjn hz')
     clear hjn hz'
     skip
     go_wp2
     go_ret2
     exact ⟨_,.inl ⟨kb,gN,_,gZ',HE.out,by rw [hNO,HF.out.1];rfl,by rw [hNO,HF.out.1];exact HX.out.1,HJ'.out,by rw [hNO,HF.out.2];exact HX.out.2,rfl⟩,HT.out.pick [0,1,2,5,3] rfl⟩
   | false =>
     have HE:=Lib.hid (callE_10 (c:=⟨6,id,dl,per⟩) ht hdd hbz (show (1:Int)≤6∧(6:Int)≤7 by decide))
     clear hdd hd hbz
     clear hr hi hn ho
     simp only [CallC.cells]
     rw [hNO] at HBE ⊢
     have HT:=Lib.hid (HT.out.alloc (k:=w.heap.size) rfl 38 #[.int .i64 6,.int .u64 id,.int .u64 dl,.int .u64 per])
     obtain ⟨W0,hW0⟩:∃ W0,W0=w.alloc (.cells #[.int .i64 6,.int .u64 id,.int .u64 dl,.int .u64 per] 38):=⟨_,rfl⟩
     go_enter Tryz.func113,Tryz.ntmps113
     go_wp2_with fail
     go_wp2_with fail
     refine (DoesG.use (HD.out) (HT.out) [2] rfl rfl).mono ?_
     rintro e w1 ⟨gs,⟨gJ',rfl,hj',rfl⟩,Ta⟩
     simp only [PU] at Ta
     have HT:=Lib.hid Ta
     clear Ta
     have HJ':=Lib.hid hj'
     clear hj' sv0 sv1 hcell
     have sv0:=HT.out.cell 0 0 rfl 0
     simp only [headB,GE3] at sv0
     have lth:=HT.out.lt 0 0 rfl
     simp only [] at lth
     have b0:=HT.out.cell 4 0 rfl 0
     have b1:=HT.out.cell 4 0 rfl 1
     have b2:=HT.out.cell 4 0 rfl 2
     have b3:=HT.out.cell 4 0 rfl 3
     simp only [GE4] at b0 b1 b2 b3
     have ltq:=HT.out.lt 4 0 rfl
     simp only [] at ltq
     go_wp2
     go_ret2
     exact ⟨_,.inr ⟨.nilIface,_,gZ,by rw [HE.out];decide,by rw [HE.out];rfl,HJ'.out,HZ.out,rfl⟩,HT.out.pick [0,1,2,3] rfl⟩
set_option maxRecDepth 100000 in
set_option maxHeartbeats 4000000 in
theorem begin_call (hn:SvN N S) (hN:N<999998) (hr:SvRows L sb S vo va vc go ga gc) (hi:SvIn L S gJ gW gZ) {t:Nat} (ht:t<S.own.length) (kd id dl per:Int) (h1:1≤kd) (h5:kd≤5)
 (hd:(t:Int)≠(S.own.length:Int) - 1):DoesG Tryz.prog 113 #[ptr' sb,.int .i64 t,.int .i64 (S.all.length+1),.agg (CallC.cells ⟨kd,id,dl,per⟩)] [headB sb L.fb vo va vc,go,gJ,gZ] (BgR L sb S vo va vc go t ⟨kd,id,dl,per⟩):=by
 obtain ⟨avo,capo,rfl⟩:=rowG.val hr.o
 have HJ:=Lib.hid hi.j
 have HZ:=Lib.hid hi.z
 have htr:S.z.x.tr.length≤1000000:=by have:=hn.glo.zn.core.tr;omega
 have hol:=hn.ol
 obtain ⟨NO,hNO⟩:∃ x,((S.all.length:Int)+1)=x:=⟨_,rfl⟩
 have HRO:=Lib.hid hr.o
 intro w hw
 have T0:=TG.refl hw
 have HT:=Lib.hid T0
 clear hw T0
 have sv0:=HT.out.cell 0 0 rfl 0
 have sv1:=HT.out.cell 0 0 rfl 1
 simp only [headB,GE3] at sv0 sv1
 have lth:=HT.out.lt 0 0 rfl
 simp only [] at lth
 obtain ⟨o,ho⟩:∃ o,S.own[t]?=some o:=⟨_,List.getElem?_eq_getElem ht⟩
 obtain ⟨rb,cp,hv,hcell⟩:=rowV_at HRO.out HT.out 1 rfl (by simp) (k:=t) (x:=ifO (o.map fun a=>((S.jobAt a).w,(S.jobAt a).kb))) (by unfold SvS.os;rw [List.getElem?_map,List.getElem?_map,ho];rfl)
 obtain ⟨rfl,rfl⟩:avo=some ⟨rb,0,none⟩∧capo=cp:=by cases hv;exact ⟨rfl,rfl⟩
 have ltb:rb<w.heap.size:=by
  obtain ⟨b',c',cur,hv',hg',_⟩:=HRO.out.open (by omega)
  cases hv'
  have:=HT.out.lt 1 0 (p:=(rb,.cells cur 188)) (by show go[0]?=_;rw [hg'];rfl)
  exact this
 clear hv
 have HF:=Lib.hid (firstN_5 (th:=(t:Int)) (no:=NO) (c:=⟨kd,id,dl,per⟩) h5)
 have HBE:=Lib.hid (beginC HZ.out htr (t:Int) ((S.all.length:Int)+1) ⟨kd,id,dl,per⟩ h1 h5)
 simp only [CallC.cells] at HBE
 have q1:((t:Int) == (S.own.length:Int) - 1)=false:=beq_eq_false_iff_ne.2 hd
 have q2:(kd == 7)=false:=beq_eq_false_iff_ne.2 (by omega)
 have q3:(kd == 6)=false:=beq_eq_false_iff_ne.2 (by omega)
 have hdd:decide ((t:Int)=(S.own.length:Int) - 1)=decide (kd=7):=by rw [decide_eq_false hd,decide_eq_false (by omega)]
 cases o with
 | none =>
   have hb:S.busyAt t=false:=by unfold SvS.busyAt;rw [List.getD_eq_getElem?_getD,ho];rfl
   have hnq:=neq_nilI
   change _=some Value.nilIface at hcell
   have HJ':=HJ
   have HE:=Lib.hid (callE_0 (c:=⟨kd,id,dl,per⟩) ht hdd hb ⟨h1,by show kd≤7;omega⟩)
   clear hdd hd
   clear hr hi hn ho
   simp only [CallC.cells]
   rw [hNO] at HBE ⊢
   have HT:=Lib.hid (HT.out.alloc (k:=w.heap.size) rfl 38 #[.int .i64 kd,.int .u64 id,.int .u64 dl,.int .u64 per])
   obtain ⟨W0,hW0⟩:∃ W0,W0=w.alloc (.cells #[.int .i64 kd,.int .u64 id,.int .u64 dl,.int .u64 per] 38):=⟨_,rfl⟩
   go_enter Tryz.func113,Tryz.ntmps113
   go_wp2_with fail
   refine wp_region_mix1 7 (by kernel_rfl) (by kernel_rfl) ?_
   simp only [TD4]
   repeat (go_big_quiet_step ((fail)))
   refine wpQuiet_nil ?_
   intro _ hw'
   obtain ⟨nq,hw''⟩:=hw'
   subst hw''
   have HT:=Lib.hid (HT.out.drewN nq)
   go_wp2_with fail
   refine (DoesG.use (HBE.out) (HT.out) [3] rfl rfl).mono ?_
   rintro e w1 ⟨gs,⟨kb,gN,gZ',rfl,hjn,hz',rfl⟩,Ta⟩
   simp only [PU] at Ta
   have HT:=Lib.hid Ta
   clear Ta
   have HX:=Lib.hid (And.intro hjn hz')
   clear hjn hz'
   go_wp2_with fail
   refine ⟨rfl,?_⟩
   go_wp2
   go_ret2
   exact ⟨_,.inl ⟨kb,gN,_,gZ',HE.out,by rw [hNO,HF.out.1];rfl,by rw [hNO,HF.out.1];exact HX.out.1,HJ'.out,by rw [hNO,HF.out.2];exact HX.out.2,rfl⟩,HT.out.pick [0,1,2,5,3] rfl⟩
 | some a =>
   have hk:=jobAt_get (hn.own a (List.mem_of_getElem? ho))
   have hbz:S.busyAt t=!(S.jobAt a).w.done:=by unfold SvS.busyAt;rw [List.getD_eq_getElem?_getD,ho];rfl
   have HD:=Lib.hid (jobsDone hi.j hk)
   have hnq:=neq_ifI (S.jobAt a).w (S.jobAt a).kb
   have hmt:=w_mDone (S.jobAt a).w
   have hcl:=w_cDone (S.jobAt a).w
   change _=some (Value.iface (S.jobAt a).w.ty (ptr' (S.jobAt a).kb)) at hcell
   obtain ⟨d,hdn⟩:∃ d,(S.jobAt a).w.done=d:=⟨_,rfl⟩
   obtain ⟨tyV,hty⟩:∃ y,(S.jobAt a).w.ty=y:=⟨_,rfl⟩
   obtain ⟨fV,hfv⟩:∃ y,(S.jobAt a).w.fDone=y:=⟨_,rfl⟩
   obtain ⟨bV,hbv⟩:∃ y,(S.jobAt a).kb=y:=⟨_,rfl⟩
   rw [hdn,hfv,hbv] at HD
   rw [hty,hfv] at hmt
   rw [hty,hbv] at hnq
   rw [hfv] at hcl
   rw [hdn] at hbz
   rw [hty,hbv] at hcell
   clear hk hdn hty hfv hbv
   cases d with
   | true =>
     have HE:=Lib.hid (callE_0 (c:=⟨kd,id,dl,per⟩) ht hdd hbz ⟨h1,by show kd≤7;omega⟩)
     clear hdd hd hbz
     clear hr hi hn ho
     simp only [CallC.cells]
     rw [hNO] at HBE ⊢
     have HT:=Lib.hid (HT.out.alloc (k:=w.heap.size) rfl 38 #[.int .i64 kd,.int .u64 id,.int .u64 dl,.int .u64 per])
     obtain ⟨W0,hW0⟩:∃ W0,W0=w.alloc (.cells #[.int .i64 kd,.int .u64 id,.int .u64 dl,.int .u64 per] 38):=⟨_,rfl⟩
     go_enter Tryz.func113,Tryz.ntmps113
     go_wp2_with fail
     go_wp2_with fail
     refine (DoesG.use (HD.out) (HT.out) [2] rfl rfl).mono ?_
     rintro e w1 ⟨gs,⟨gJ',rfl,hj',rfl⟩,Ta⟩
     simp only [PU] at Ta
     have HT:=Lib.hid Ta
     clear Ta
     have HJ':=Lib.hid hj'
     clear hj' sv0 sv1 hcell
     have sv0:=HT.out.cell 0 0 rfl 0
     simp only [headB,GE3] at sv0
     have lth:=HT.out.lt 0 0 rfl
     simp only [] at lth
     have b0:=HT.out.cell 4 0 rfl 0
     have b1:=HT.out.cell 4 0 rfl 1
     have b2:=HT.out.cell 4 0 rfl 2
     have b3:=HT.out.cell 4 0 rfl 3
     simp only [GE4] at b0 b1 b2 b3
     have ltq:=HT.out.lt 4 0 rfl
     simp only [] at ltq
     go_wp2_with fail
     refine wp_region_mix1 7 (by kernel_rfl) (by kernel_rfl) ?_
     simp only [TD4]
     repeat (go_big_quiet_step ((fail)))
     refine wpQuiet_nil ?_
     intro _ hw'
     obtain ⟨nq,hw''⟩:=hw'
     subst hw''
     have HT:=Lib.hid (HT.out.drewN nq)
     go_wp2_with fail
     refine (DoesG.use (HBE.out) (HT.out) [3] rfl rfl).mono ?_
     rintro e w1 ⟨gs,⟨kb,gN,gZ',rfl,hjn,hz',rfl⟩,Ta⟩
     simp only [PU] at Ta
     have HT:=Lib.hid Ta
     clear Ta
     have HX:=Lib.hid (And.intro hjn hz')
     clear hjn hz'
     go_wp2_with fail
     refine ⟨rfl,?_⟩
     go_wp2
     go_ret2
     exact ⟨_,.inl ⟨kb,gN,_,gZ',HE.out,by rw [hNO,HF.out.1];rfl,by rw [hNO,HF.out.1];exact HX.out.1,HJ'.out,by rw [hNO,HF.out.2];exact HX.out.2,rfl⟩,HT.out.pick [0,1,2,5,3] rfl⟩
   | false =>
     have HE:=Lib.hid (callE_10 (c:=⟨kd,id,dl,per⟩) ht hdd hbz ⟨h1,by show kd≤7;omega⟩)
     clear hdd hd hbz
     clear hr hi hn ho
     simp only [CallC.cells]
     rw [hNO] at HBE ⊢
     have HT:=Lib.hid (HT.out.alloc (k:=w.heap.size) rfl 38 #[.int .i64 kd,.int .u64 id,.int .u64 dl,.int .u64 per])
     obtain ⟨W0,hW0⟩:∃ W0,W0=w.alloc (.cells #[.int .i64 kd,.int .u64 id,.int .u64 dl,.int .u64 per] 38):=⟨_,rfl⟩
     go_enter Tryz.func113,Tryz.ntmps113
     go_wp2_with fail
     go_wp2_with fail
     refine (DoesG.use (HD.out) (HT.out) [2] rfl rfl).mono ?_
     rintro e w1 ⟨gs,⟨gJ',rfl,hj',rfl⟩,Ta⟩
     simp only [PU] at Ta
     have HT:=Lib.hid Ta
     clear Ta
     have HJ':=Lib.hid hj'
     clear hj' sv0 sv1 hcell
     have sv0:=HT.out.cell 0 0 rfl 0
     simp only [headB,GE3] at sv0
     have lth:=HT.out.lt 0 0 rfl
     simp only [] at lth
     have b0:=HT.out.cell 4 0 rfl 0
     have b1:=HT.out.cell 4 0 rfl 1
     have b2:=HT.out.cell 4 0 rfl 2
     have b3:=HT.out.cell 4 0 rfl 3
     simp only [GE4] at b0 b1 b2 b3
     have ltq:=HT.out.lt 4 0 rfl
     simp only [] at ltq
     go_wp2
     go_ret2
     exact ⟨_,.inr ⟨.nilIface,_,gZ,by rw [HE.out];decide,by rw [HE.out];rfl,HJ'.out,HZ.out,rfl⟩,HT.out.pick [0,1,2,3] rfl⟩
set_option maxRecDepth 100000 in
set_option maxHeartbeats 4000000 in
theorem begin_none (hn:SvN N S) (hN:N<999998) (hr:SvRows L sb S vo va vc go ga gc) (hi:SvIn L S gJ gW gZ) {t:Nat} (ht:t<S.own.length) (kd id dl per:Int) (h1:kd<1∨7<kd)
 (hd:(t:Int)≠(S.own.length:Int) - 1):DoesG Tryz.prog 113 #[ptr' sb,.int .i64 t,.int .i64 (S.all.length+1),.agg (CallC.cells ⟨kd,id,dl,per⟩)] [headB sb L.fb vo va vc,go,gJ,gZ] (BgR L sb S vo va vc go t ⟨kd,id,dl,per⟩):=by
 obtain ⟨avo,capo,rfl⟩:=rowG.val hr.o
 have HJ:=Lib.hid hi.j
 have HZ:=Lib.hid hi.z
 have htr:S.z.x.tr.length≤1000000:=by have:=hn.glo.zn.core.tr;omega
 have hol:=hn.ol
 obtain ⟨NO,hNO⟩:∃ x,((S.all.length:Int)+1)=x:=⟨_,rfl⟩
 have HRO:=Lib.hid hr.o
 intro w hw
 have T0:=TG.refl hw
 have HT:=Lib.hid T0
 clear hw T0
 have sv0:=HT.out.cell 0 0 rfl 0
 have sv1:=HT.out.cell 0 0 rfl 1
 simp only [headB,GE3] at sv0 sv1
 have lth:=HT.out.lt 0 0 rfl
 simp only [] at lth
 obtain ⟨o,ho⟩:∃ o,S.own[t]?=some o:=⟨_,List.getElem?_eq_getElem ht⟩
 obtain ⟨rb,cp,hv,hcell⟩:=rowV_at HRO.out HT.out 1 rfl (by simp) (k:=t) (x:=ifO (o.map fun a=>((S.jobAt a).w,(S.jobAt a).kb))) (by unfold SvS.os;rw [List.getElem?_map,List.getElem?_map,ho];rfl)
 obtain ⟨rfl,rfl⟩:avo=some ⟨rb,0,none⟩∧capo=cp:=by cases hv;exact ⟨rfl,rfl⟩
 have ltb:rb<w.heap.size:=by
  obtain ⟨b',c',cur,hv',hg',_⟩:=HRO.out.open (by omega)
  cases hv'
  have:=HT.out.lt 1 0 (p:=(rb,.cells cur 188)) (by show go[0]?=_;rw [hg'];rfl)
  exact this
 clear hv
 have HBE:=Lib.hid (beginBad HZ.out (t:Int) ((S.all.length:Int)+1) ⟨kd,id,dl,per⟩ (by show kd<1∨5<kd;omega))
 simp only [CallC.cells] at HBE
 have q1:((t:Int) == (S.own.length:Int) - 1)=false:=beq_eq_false_iff_ne.2 hd
 have q2:(kd == 7)=false:=beq_eq_false_iff_ne.2 (by omega)
 have q3:(kd == 6)=false:=beq_eq_false_iff_ne.2 (by omega)
 have hdd:decide ((t:Int)=(S.own.length:Int) - 1)=decide (kd=7):=by rw [decide_eq_false hd,decide_eq_false (by omega)]
 have HE:=Lib.hid (callE_bad (c:=⟨kd,id,dl,per⟩) ht hdd h1)
 cases o with
 | none =>
   have hb:S.busyAt t=false:=by unfold SvS.busyAt;rw [List.getD_eq_getElem?_getD,ho];rfl
   have hnq:=neq_nilI
   change _=some Value.nilIface at hcell
   have HJ':=HJ
   clear hdd hd h1
   clear hr hi hn ho
   simp only [CallC.cells]
   rw [hNO] at HBE ⊢
   have HT:=Lib.hid (HT.out.alloc (k:=w.heap.size) rfl 38 #[.int .i64 kd,.int .u64 id,.int .u64 dl,.int .u64 per])
   obtain ⟨W0,hW0⟩:∃ W0,W0=w.alloc (.cells #[.int .i64 kd,.int .u64 id,.int .u64 dl,.int .u64 per] 38):=⟨_,rfl⟩
   go_enter Tryz.func113,Tryz.ntmps113
   go_wp2_with fail
   refine wp_region_mix1 7 (by kernel_rfl) (by kernel_rfl) ?_
   simp only [TD4]
   repeat (go_big_quiet_step ((fail)))
   refine wpQuiet_nil ?_
   intro _ hw'
   obtain ⟨nq,hw''⟩:=hw'
   subst hw''
   have HT:=Lib.hid (HT.out.drewN nq)
   go_wp2_with fail
   refine (DoesG.use (HBE.out) (HT.out) [3] rfl rfl).mono ?_
   rintro e w1 ⟨gs,⟨rfl,rfl⟩,Ta⟩
   simp only [PU] at Ta
   have HT:=Lib.hid Ta
   clear Ta
   go_wp2_with fail
   refine ⟨rfl,?_⟩
   go_wp2
   go_ret2
   exact ⟨_,.inr ⟨.iface 33 (.pointer none),_,gZ,by rw [HE.out];decide,by rw [HE.out];rfl,HJ'.out,HZ.out,rfl⟩,HT.out.pick [0,1,2,3] rfl⟩
 | some a =>
   have hk:=jobAt_get (hn.own a (List.mem_of_getElem? ho))
   have hbz:S.busyAt t=!(S.jobAt a).w.done:=by unfold SvS.busyAt;rw [List.getD_eq_getElem?_getD,ho];rfl
   have HD:=Lib.hid (jobsDone hi.j hk)
   have hnq:=neq_ifI (S.jobAt a).w (S.jobAt a).kb
   have hmt:=w_mDone (S.jobAt a).w
   have hcl:=w_cDone (S.jobAt a).w
   change _=some (Value.iface (S.jobAt a).w.ty (ptr' (S.jobAt a).kb)) at hcell
   obtain ⟨d,hdn⟩:∃ d,(S.jobAt a).w.done=d:=⟨_,rfl⟩
   obtain ⟨tyV,hty⟩:∃ y,(S.jobAt a).w.ty=y:=⟨_,rfl⟩
   obtain ⟨fV,hfv⟩:∃ y,(S.jobAt a).w.fDone=y:=⟨_,rfl⟩
   obtain ⟨bV,hbv⟩:∃ y,(S.jobAt a).kb=y:=⟨_,rfl⟩
   rw [hdn,hfv,hbv] at HD
   rw [hty,hfv] at hmt
   rw [hty,hbv] at hnq
   rw [hfv] at hcl
   rw [hdn] at hbz
   rw [hty,hbv] at hcell
   clear hk hdn hty hfv hbv
   cases d with
   | true =>
     clear hdd hd h1 hbz
     clear hr hi hn ho
     simp only [CallC.cells]
     rw [hNO] at HBE ⊢
     have HT:=Lib.hid (HT.out.alloc (k:=w.heap.size) rfl 38 #[.int .i64 kd,.int .u64 id,.int .u64 dl,.int .u64 per])
     obtain ⟨W0,hW0⟩:∃ W0,W0=w.alloc (.cells #[.int .i64 kd,.int .u64 id,.int .u64 dl,.int .u64 per] 38):=⟨_,rfl⟩
     go_enter Tryz.func113,Tryz.ntmps113
     go_wp2_with fail
     go_wp2_with fail
     refine (DoesG.use (HD.out) (HT.out) [2] rfl rfl).mono ?_
     rintro e w1 ⟨gs,⟨gJ',rfl,hj',rfl⟩,Ta⟩
     simp only [PU] at Ta
     have HT:=Lib.hid Ta
     clear Ta
     have HJ':=Lib.hid hj'
     clear hj' sv0 sv1 hcell
     have sv0:=HT.out.cell 0 0 rfl 0
     simp only [headB,GE3] at sv0
     have lth:=HT.out.lt 0 0 rfl
     simp only [] at lth
     have b0:=HT.out.cell 4 0 rfl 0
     have b1:=HT.out.cell 4 0 rfl 1
     have b2:=HT.out.cell 4 0 rfl 2
     have b3:=HT.out.cell 4 0 rfl 3
     simp only [GE4] at b0 b1 b2 b3
     have ltq:=HT.out.lt 4 0 rfl
     simp only [] at ltq
     go_wp2_with fail
     refine wp_region_mix1 7 (by kernel_rfl) (by kernel_rfl) ?_
     simp only [TD4]
     repeat (go_big_quiet_step ((fail)))
     refine wpQuiet_nil ?_
     intro _ hw'
     obtain ⟨nq,hw''⟩:=hw'
     subst hw''
     have HT:=Lib.hid (HT.out.drewN nq)
     go_wp2_with fail
     refine (DoesG.use (HBE.out) (HT.out) [3] rfl rfl).mono ?_
     rintro e w1 ⟨gs,⟨rfl,rfl⟩,Ta⟩
     simp only [PU] at Ta
     have HT:=Lib.hid Ta
     clear Ta
     go_wp2_with fail
     refine ⟨rfl,?_⟩
     go_wp2
     go_ret2
     exact ⟨_,.inr ⟨.iface 33 (.pointer none),_,gZ,by rw [HE.out];decide,by rw [HE.out];rfl,HJ'.out,HZ.out,rfl⟩,HT.out.pick [0,1,2,3] rfl⟩
   | false =>
     rcases h1 with h1 | h1
     ·clear hdd hd hbz
      clear hr hi hn ho
      simp only [CallC.cells]
      rw [hNO] at HBE ⊢
      have HT:=Lib.hid (HT.out.alloc (k:=w.heap.size) rfl 38 #[.int .i64 kd,.int .u64 id,.int .u64 dl,.int .u64 per])
      obtain ⟨W0,hW0⟩:∃ W0,W0=w.alloc (.cells #[.int .i64 kd,.int .u64 id,.int .u64 dl,.int .u64 per] 38):=⟨_,rfl⟩
      go_enter Tryz.func113,Tryz.ntmps113
      go_wp2_with fail
      go_wp2_with fail
      refine (DoesG.use (HD.out) (HT.out) [2] rfl rfl).mono ?_
      rintro e w1 ⟨gs,⟨gJ',rfl,hj',rfl⟩,Ta⟩
      simp only [PU] at Ta
      have HT:=Lib.hid Ta
      clear Ta
      have HJ':=Lib.hid hj'
      clear hj' sv0 sv1 hcell
      have sv0:=HT.out.cell 0 0 rfl 0
      simp only [headB,GE3] at sv0
      have lth:=HT.out.lt 0 0 rfl
      simp only [] at lth
      have b0:=HT.out.cell 4 0 rfl 0
      have b1:=HT.out.cell 4 0 rfl 1
      have b2:=HT.out.cell 4 0 rfl 2
      have b3:=HT.out.cell 4 0 rfl 3
      simp only [GE4] at b0 b1 b2 b3
      have ltq:=HT.out.lt 4 0 rfl
      simp only [] at ltq
      go_wp2_with fail
      refine wp_region_mix1 7 (by kernel_rfl) (by kernel_rfl) ?_
      simp only [TD4]
      repeat (go_big_quiet_step ((fail)))
      refine wpQuiet_nil ?_
      intro _ hw'
      obtain ⟨nq,hw''⟩:=hw'
      subst hw''
      have HT:=Lib.hid (HT.out.drewN nq)
      go_wp2_with fail
      refine (DoesG.use (HBE.out) (HT.out) [3] rfl rfl).mono ?_
      rintro e w1 ⟨gs,⟨rfl,rfl⟩,Ta⟩
      simp only [PU] at Ta
      have HT:=Lib.hid Ta
      clear Ta
      go_wp2_with fail
      refine ⟨rfl,?_⟩
      go_wp2
      go_ret2
      exact ⟨_,.inr ⟨.iface 33 (.pointer none),_,gZ,by rw [HE.out];decide,by rw [HE.out];rfl,HJ'.out,HZ.out,rfl⟩,HT.out.pick [0,1,2,3] rfl⟩
     ·have q4:kd ≥ 1:=by omega
      clear hdd hd hbz
      clear hr hi hn ho
      simp only [CallC.cells]
      rw [hNO] at HBE ⊢
      have HT:=Lib.hid (HT.out.alloc (k:=w.heap.size) rfl 38 #[.int .i64 kd,.int .u64 id,.int .u64 dl,.int .u64 per])
      obtain ⟨W0,hW0⟩:∃ W0,W0=w.alloc (.cells #[.int .i64 kd,.int .u64 id,.int .u64 dl,.int .u64 per] 38):=⟨_,rfl⟩
      go_enter Tryz.func113,Tryz.ntmps113
      go_wp2_with fail
      go_wp2_with fail
      refine (DoesG.use (HD.out) (HT.out) [2] rfl rfl).mono ?_
      rintro e w1 ⟨gs,⟨gJ',rfl,hj',rfl⟩,Ta⟩
      simp only [PU] at Ta
      have HT:=Lib.hid Ta
      clear Ta
      have HJ':=Lib.hid hj'
      clear hj' sv0 sv1 hcell
      have sv0:=HT.out.cell 0 0 rfl 0
      simp only [headB,GE3] at sv0
      have lth:=HT.out.lt 0 0 rfl
      simp only [] at lth
      have b0:=HT.out.cell 4 0 rfl 0
      have b1:=HT.out.cell 4 0 rfl 1
      have b2:=HT.out.cell 4 0 rfl 2
      have b3:=HT.out.cell 4 0 rfl 3
      simp only [GE4] at b0 b1 b2 b3
      have ltq:=HT.out.lt 4 0 rfl
      simp only [] at ltq
      go_wp2_with fail
      refine wp_region_mix1 7 (by kernel_rfl) (by kernel_rfl) ?_
      simp only [TD4]
      repeat (go_big_quiet_step ((fail)))
      refine wpQuiet_nil ?_
      intro _ hw'
      obtain ⟨nq,hw''⟩:=hw'
      subst hw''
      have HT:=Lib.hid (HT.out.drewN nq)
      go_wp2_with fail
      refine (DoesG.use (HBE.out) (HT.out) [3] rfl rfl).mono ?_
      rintro e w1 ⟨gs,⟨rfl,rfl⟩,Ta⟩
      simp only [PU] at Ta
      have HT:=Lib.hid Ta
      clear Ta
      go_wp2_with fail
      refine ⟨rfl,?_⟩
      go_wp2
      go_ret2
      exact ⟨_,.inr ⟨.iface 33 (.pointer none),_,gZ,by rw [HE.out];decide,by rw [HE.out];rfl,HJ'.out,HZ.out,rfl⟩,HT.out.pick [0,1,2,3] rfl⟩
theorem begin_g (hn:SvN N S) (hN:N<999998) (hr:SvRows L sb S vo va vc go ga gc) (hi:SvIn L S gJ gW gZ) {t:Nat} (ht:t<S.own.length) (c:CallC) :
 DoesG Tryz.prog 113 #[ptr' sb,.int .i64 t,.int .i64 (S.all.length+1),.agg c.cells] [headB sb L.fb vo va vc,go,gJ,gZ] (BgR L sb S vo va vc go t c):=by
 by_cases hd:decide ((t:Int)=(S.own.length:Int) - 1)=decide (c.kind=7)
 ·have hdi:=decide_eq_decide.1 hd
  obtain ⟨kd,id,dl,per⟩:=c
  by_cases h7:kd=7
  ·subst h7
   exact begin_turn hn hN hr hi ht id dl per (hdi.2 rfl)
  ·have hne:(t:Int)≠(S.own.length:Int) - 1:=fun e=>h7 (hdi.1 e)
   by_cases h6:kd=6
   ·subst h6
    exact begin_shut hn hN hr hi ht id dl per hne
   ·by_cases h1:kd<1∨7<kd
    ·exact begin_none hn hN hr hi ht kd id dl per h1 hne
    ·exact begin_call hn hN hr hi ht kd id dl per (by omega) (by omega) hne
 ·exact begin_bad hn hN hr hi ht c hd
end
end
section
open Go.RowKit Go.Shelf
theorem infoWk:(Tryz.prog.info? 188).map (fun i=>(i.zero,i.size,i.bytes))=some (some .nilIface,1,16):=by kernel_rfl
section
variable {L:Lay} {sb:Nat} {S:SvS} {N:Nat} {g:List Blk}
theorem callS_no {th:Int} {c:CallC} (h:S.callE th c≠0) (kb:Nat):S.callS kb th c=S∧S.callNo th c=0:=⟨if_neg h,if_neg h⟩
theorem callS_yes {th:Int} {c:CallC} (h:S.callE th c=0) (kb:Nat):S.callS kb th c=S.callT kb th c∧S.callNo th c=S.all.length+1:=⟨if_pos h,if_pos h⟩
theorem callE_4 {th:Int} {c:CallC} (h:th<0∨(S.own.length:Int)≤th):S.callE th c=4:=if_pos h
theorem callT_in {gJ gW gZ gN:List Blk} {th:Int} {c:CallC} {kb:Nat} (hj:isJobs L S.all gJ) (hw:isWs L S.crew gW) (hz:isZ L { S.z with x:=begX (begE th (S.all.length+1) c) S.z.x } gZ) (hn:isJob L kb 0 (firstN th (S.all.length+1) c) gN) :
 SvIn L (S.callT kb th c) (gJ++gN) gW gZ:=⟨FamP.snoc hj hn,hw,hz⟩
theorem callT_rows {vo va vc:Value} {go ga gc:List Blk} {va' x:Value} {ga':List Blk} {b t:Nat} {cur:Array Value} {c:CallC} {kb:Nat} (hn:SvN N S) (hr:SvRows L sb S vo va vc go ga gc) (hgo:go=[cl b 188 cur])
 (hx:jobV ⟨kb,0,firstN t (S.all.length+1) c⟩=x) (ha:rowG 188 1 va' (S.all.length+1) (S.all.map jobV++[x]) ga') :
 SvRows L sb (S.callT kb t c) vo va' vc [cl b 188 (cur.setIfInBounds t x)] ga' gc:=by
 subst hx
 refine ⟨?_,?_,hr.c⟩
 ·have h1:=hr.o.set hgo t (jobV ⟨kb,0,firstN t (S.all.length+1) c⟩)
  rw [callT_os hn]
  show rowG _ 1 vo (S.own.set _ _).length ((S.os.set _ _).map ifO) _
  rw [List.length_set,List.map_set,Int.toNat_natCast]
  exact h1
 ·show rowG _ 1 va' (S.all++[_]).length (List.map jobV (S.all++[_])) _
  rw [List.length_append,List.map_append]
  exact ha
def CallR (L:Lay) (sb:Nat) (S:SvS) (th:Int) (c:CallC) (e:Ending) (gs:GH):Prop :=
 ∃ kb g',e=.returned (.tuple #[.int .i64 (S.callNo th c),.int .i64 (S.callE th c)])∧isSv L sb (S.callS kb th c) g'∧gs=[g']
theorem callR_4 {vo va vc:Value} {go ga gc gJ gW gZ:List Blk} {th:Int} {c:CallC} (h:th<0∨(S.own.length:Int)≤th) (hr:SvRows L sb S vo va vc go ga gc) (hi:SvIn L S gJ gW gZ) :
 CallR L sb S th c (.returned (.tuple #[.int .i64 0,.int .i64 4])) [headB sb L.fb vo va vc++(go++(ga++(gc++(gJ++(gW++gZ)))))]:=by
 have HE:=callE_4 (c:=c) h
 obtain ⟨h1,h2⟩:=callS_no (S:=S) (th:=th) (c:=c) (by rw [HE];decide) 0
 exact ⟨0,_,by rw [h2,HE],by rw [h1];exact ⟨vo,va,vc,go,ga,gc,gJ,gW,gZ,hr,hi,rfl⟩,rfl⟩
set_option maxRecDepth 100000 in
set_option maxHeartbeats 4000000 in
theorem svCall (h:isSv L sb S g) (hn:SvN N S) (hN:N<999998) (th:Int) (c:CallC):DoesG Tryz.prog 49 #[ptr' sb,.int .i64 th,.agg c.cells] [g] (CallR L sb S th c):=by
 by_cases h0:th<0
 ·have h4:th<0∨(S.own.length:Int)≤th:=.inl h0
  obtain ⟨vo,va,vc,go,ga,gc,gJ,gW,gZ,hr,hi,rfl⟩:=h
  obtain ⟨avo,capo,rfl⟩:=rowG.val hr.o
  obtain ⟨ava,capa,rfl⟩:=rowG.val hr.a
  intro w hw
  have T0:=TG.refl hw
  have HT:=Lib.hid T0
  clear hw T0
  have HT:=Lib.hid (HT.out.sum (H':=[headB sb L.fb (.slice avo S.own.length capo) (.slice ava S.all.length capa) vc,go,ga,gc,gJ,gW,gZ]))
  have sv0:=HT.out.cell 0 0 rfl 0
  have sv1:=HT.out.cell 0 0 rfl 1
  have sv2:=HT.out.cell 0 0 rfl 2
  have sv3:=HT.out.cell 0 0 rfl 3
  simp only [headB,GE3] at sv0 sv1 sv2 sv3
  have lth:=HT.out.lt 0 0 rfl
  simp only [] at lth
  have HR:=Lib.hid hr
  have HSI:=Lib.hid hi
  have hol:=hn.ol
  have hal:=hn.al
  clear hr hi hn
  have HC4:=Lib.hid h4
  clear h4
  obtain ⟨kd,id,dl,per⟩:=c
  simp only [CallC.cells]
  go_enter Tryz.func49,Tryz.ntmps49
  go_wp2
  go_ret2
  exact ⟨_,callR_4 HC4.out HR.out HSI.out,(HT.out.alloc0 _).sum⟩
 ·by_cases h1:(S.own.length:Int)≤th
  ·have h4:th<0∨(S.own.length:Int)≤th:=.inr h1
   obtain ⟨vo,va,vc,go,ga,gc,gJ,gW,gZ,hr,hi,rfl⟩:=h
   obtain ⟨avo,capo,rfl⟩:=rowG.val hr.o
   obtain ⟨ava,capa,rfl⟩:=rowG.val hr.a
   intro w hw
   have T0:=TG.refl hw
   have HT:=Lib.hid T0
   clear hw T0
   have HT:=Lib.hid (HT.out.sum (H':=[headB sb L.fb (.slice avo S.own.length capo) (.slice ava S.all.length capa) vc,go,ga,gc,gJ,gW,gZ]))
   have sv0:=HT.out.cell 0 0 rfl 0
   have sv1:=HT.out.cell 0 0 rfl 1
   have sv2:=HT.out.cell 0 0 rfl 2
   have sv3:=HT.out.cell 0 0 rfl 3
   simp only [headB,GE3] at sv0 sv1 sv2 sv3
   have lth:=HT.out.lt 0 0 rfl
   simp only [] at lth
   have HR:=Lib.hid hr
   have HSI:=Lib.hid hi
   have hol:=hn.ol
   have hal:=hn.al
   clear hr hi hn
   have HC4:=Lib.hid h4
   clear h4
   obtain ⟨kd,id,dl,per⟩:=c
   simp only [CallC.cells]
   go_enter Tryz.func49,Tryz.ntmps49
   go_wp2
   go_ret2
   exact ⟨_,callR_4 HC4.out HR.out HSI.out,(HT.out.alloc0 _).sum⟩
  ·obtain ⟨t,rfl⟩:∃ t:Nat,th=(t:Int):=⟨th.toNat,by omega⟩
   have ht:t<S.own.length:=by omega
   obtain ⟨vo,va,vc,go,ga,gc,gJ,gW,gZ,hr,hi,rfl⟩:=h
   obtain ⟨avo,capo,rfl⟩:=rowG.val hr.o
   obtain ⟨ava,capa,rfl⟩:=rowG.val hr.a
   intro w hw
   have T0:=TG.refl hw
   have HT:=Lib.hid T0
   clear hw T0
   have HT:=Lib.hid (HT.out.sum (H':=[headB sb L.fb (.slice avo S.own.length capo) (.slice ava S.all.length capa) vc,go,ga,gc,gJ,gW,gZ]))
   have sv0:=HT.out.cell 0 0 rfl 0
   have sv1:=HT.out.cell 0 0 rfl 1
   have sv2:=HT.out.cell 0 0 rfl 2
   have sv3:=HT.out.cell 0 0 rfl 3
   simp only [headB,GE3] at sv0 sv1 sv2 sv3
   have lth:=HT.out.lt 0 0 rfl
   simp only [] at lth
   have HR:=Lib.hid hr
   have HSI:=Lib.hid hi
   have hol:=hn.ol
   have hal:=hn.al
   have HB:=Lib.hid (begin_g hn hN hr hi ht c)
   obtain ⟨b0,c0,cur,hv',hg',hle,_,hsz,_⟩:=hr.o.open (by omega)
   have HGO:=Lib.hid hg'
   obtain ⟨rfl,rfl⟩:avo=some ⟨b0,0,none⟩∧capo=c0:=by cases hv';exact ⟨rfl,rfl⟩
   subst hg'
   have HN:=Lib.hid hn
   clear hr hi hn hv'
   simp only [CallC.cells] at HB ⊢
   go_enter Tryz.func49,Tryz.ntmps49
   go_wp2_with fail
   have HT:=Lib.hid (HT.out.alloc (k:=w.heap.size) rfl 38 #[.int .i64 c.kind,.int .u64 c.id,.int .u64 c.dl,.int .u64 c.per])
   refine (DoesG.use HB.out HT.out [0,1,4,6] rfl rfl).mono ?_
   rintro e w1 ⟨gs,hB,Ta⟩
   rcases hB with ⟨kb,gN,gJ',gZ',hE,rfl,hjn,hj',hz',rfl⟩ | ⟨v,gJ',gZ',hE,rfl,hj',hz',rfl⟩
   ·simp only [PU] at Ta
    have HJN:=Lib.hid (callT_in (th:=(t:Int)) (c:=c) hj' HSI.out.w hz' hjn)
    have HT:=Lib.hid (Ta.sum2 (H':=[headB sb L.fb (.slice (some ⟨b0,0,none⟩) S.own.length capo) (.slice ava S.all.length capa) vc,[cl b0 188 cur],ga,gc,gJ'++gN,gW,gZ',[cl w.heap.size 38 #[.int .i64 c.kind,.int .u64 c.id,.int .u64 c.dl,.int .u64 c.per]]]))
    have HE:=Lib.hid hE
    obtain ⟨ty,hty⟩:∃ ty,(firstN (t:Int) (S.all.length+1) c).ty=ty:=⟨_,rfl⟩
    have HTY:=Lib.hid (show jobV ⟨kb,0,firstN (t:Int) (S.all.length+1) c⟩=.iface ty (ptr' kb) by unfold jobV;rw [hty])
    rw [hty]
    have hcur:(cur[t]?).isSome=true:=by rw [Array.getElem?_eq_getElem (by omega)];rfl
    obtain ⟨ocv,hoc⟩:=Option.isSome_iff_exists.1 hcur
    have kc:=HT.out.cell 1 0 rfl t
    rw [hoc] at kc
    have fkc:=HT.out.free 1 0 rfl t
    have ltk:=HT.out.lt 1 0 rfl
    have nek:=HT.out.ne 0 0 1 0 (by decide) rfl rfl
    simp only [] at ltk nek
    have nek2:=Ne.symm nek
    clear Ta hjn hj' hz' hty hcur hoc hE sv0 sv1 sv2 sv3
    have sv0:=HT.out.cell 0 0 rfl 0
    have sv1:=HT.out.cell 0 0 rfl 1
    have sv2:=HT.out.cell 0 0 rfl 2
    have fsv2:=HT.out.free 0 0 rfl 2
    have sv3:=HT.out.cell 0 0 rfl 3
    simp only [headB,GE3] at sv0 sv1 sv2 sv3
    have lth:=HT.out.lt 0 0 rfl
    simp only [] at lth
    have HC:=Lib.hid (show (S.all.length:Nat)≤N from hal)
    have hone:∀ u∈[Value.iface ty (ptr' kb)],u.oneCell'=true:=fun u hu=>by rw [List.mem_singleton.1 hu];rfl
    have hnews:=news_alloc (w1.setCell ⟨b0,t,none⟩ (.iface ty (ptr' kb))) 188 [.iface ty (ptr' kb)]
    rw [heap_size_setCell] at hnews
    have hnews:=Lib.hid hnews
    go_wp2_with (
     at_builtin
     (with_reducible refine wpList_append_G rfl (.tmp 54) (.tmp 56) 183 rfl 188 1 16 _ Tryz.underlying183 infoWk rfl (by decide) ((HT.out.set 1 0 rfl t (.iface ty (ptr' kb))).alloc0 _) 2 rfl rfl HR.out.a rfl ⟨w1.heap.size,0,none⟩ 1 1 [.iface ty (ptr' kb)] rfl rfl hnews.out hone (by unfold maxLen;omega) (by omega) ?_)
     intro v1 w2 g1 r1 T1
     obtain ⟨a1,cap1,hv1⟩:=rowG.val r1
     subst hv1
     simp only [List.set_cons_zero,List.set_cons_succ] at T1
     have T1:=Lib.hid T1
     have d2:=T1.out.cell 0 0 rfl 2
     have fd2:=T1.out.free 0 0 rfl 2
     have ltd:=T1.out.lt 0 0 rfl
     simp only [headB,GE3] at d2 ltd
     have r1:=Lib.hid r1)
    go_ret2
    exact ⟨_,⟨kb,_,by rw [(callS_yes HE.out kb).2,HE.out];rfl,by rw [(callS_yes HE.out kb).1];exact ⟨_,_,vc,_,g1,gc,_,gW,gZ',callT_rows HN.out HR.out rfl HTY.out r1.out,HJN.out,rfl⟩,rfl⟩,((((T1.out.set 0 0 rfl 2 (.slice a1 (S.all.length+1) cap1)).pick [0,1,2,3,4,5,6] rfl).eq (H':=[headB sb L.fb (.slice (some ⟨b0,0,none⟩) S.own.length capo) (.slice a1 (S.all.length+1) cap1) vc,[cl b0 188 (cur.setIfInBounds t (.iface ty (ptr' kb)))],g1,gc,gJ'++gN,gW,gZ']) rfl).sum2)⟩
   ·simp only [PU] at Ta
    have hE2:(S.callE (t:Int) c != 0)=true:=bne_iff_ne.2 hE
    have HCN:=Lib.hid (callS_no (S:=S) hE 0)
    have HI2:=Lib.hid (show SvIn L S gJ' gW gZ' from ⟨hj',HSI.out.w,hz'⟩)
    have HT:=Lib.hid Ta
    clear Ta hj' hz' hE
    obtain ⟨E,hEE⟩:∃ E,S.callE (t:Int) c=E:=⟨_,rfl⟩
    rw [hEE] at hE2 ⊢
    have HEE:=Lib.hid hEE
    clear hEE
    go_wp2
    go_ret2
    exact ⟨_,⟨0,_,by rw [HCN.out.2,HEE.out];rfl,by rw [HCN.out.1];exact ⟨_,_,vc,_,ga,gc,gJ',gW,gZ',HR.out,HI2.out,rfl⟩,rfl⟩,((HT.out.pick [0,1,2,3,4,5,6] rfl).sum)⟩
end
end
section
open Go.RowKit Go.Shelf
def rowNew (n:Nat):Array Value:=madeCells #[.nilIface] (n*1)
theorem rowNew_row (b n:Nat) (hn:n≤1000):rowG 188 1 (.slice (some ⟨b,0,none⟩) n n) n ((List.replicate n (none:Option (Wk × Nat))).map ifO) [cl b 188 (rowNew n)]:=by
 have hs:(rowNew n).size=n*1:=by unfold rowNew;simp [madeCells]
 have h:=rowG_lit 188 1 b n n (rowNew n) (Nat.le_refl _) (by unfold maxLen;omega) hs
 have e:(rowNew n).toList.take (n*1)=(List.replicate n (none:Option (Wk × Nat))).map ifO:=by
  rw [List.map_replicate]
  apply List.ext_getElem?
  intro i
  rw [List.getElem?_take,Array.getElem?_toList]
  split
  ·next hi =>
   have:=made_get #[.nilIface] n 1 i 0 rfl (by omega) (by omega)
   rw [show i*1+0=i by omega] at this
   unfold rowNew
   rw [this,List.getElem?_replicate,if_pos (by omega)]
   rfl
  ·next hi=>rw [List.getElem?_replicate,if_neg (by omega)]
 rw [e] at h
 exact h
theorem sv0_is {L:Lay} {sb b m q:Nat} {c:Cfg} {ws:List WkN} {vc:Value} {go gr gWk gZ:List Blk} (hc:c.cli=(m:Int)) (hl:ws.length=q) (ho:rowG 188 1 (.slice (some ⟨b,0,none⟩) (m+1) (m+1)) (m+1) ((List.replicate (m+1) (none:Option (Wk × Nat))).map ifO) go)
 (hr:rowG 255 1 vc q (ptrsW ws) gr) (hw:isWs L ws gWk) (hz:isZ L (zf0 c) gZ):isSv L sb (sv0 c ws) (headB sb L.fb (.slice (some ⟨b,0,none⟩) (m+1) (m+1)) (.slice none 0 0) vc++(go++([]++(gr++([]++(gWk++gZ)))))):=by
 refine ⟨_,_,vc,go,[],gr,[],gWk,gZ,⟨?_,rowG_nil _ _,?_⟩,⟨rfl,hw,hz⟩,rfl⟩
 ·show rowG _ 1 _ (List.replicate (c.cli.toNat+1) none).length (((List.replicate (c.cli.toNat+1) (none:Option Nat)).map _).map ifO) go
  rw [List.length_replicate,List.map_replicate,hc,Int.toNat_natCast]
  exact ho
 ·show rowG _ 1 vc ws.length _ gr
  rw [hl]
  have:(ptrsW ws)=(sv0 c ws).ps.map ptr':=by show ws.map _=(ws.map _).map _;rw [List.map_map];rfl
  rw [← this]
  exact hr
set_option maxRecDepth 100000 in
set_option maxHeartbeats 4000000 in
theorem svNew (c:Cfg) (hk:c.ok=true):DoesG Tryz.prog 112 #[.agg c.cells] [] fun e gs =>
 ∃ L sb ws g,e=.returned (.tuple #[ptr' sb,.int .i64 0])∧ws.length=c.wk.toNat∧(∀ z∈ws,isNewW z)∧isSv L sb (sv0 c ws) g∧gs=[g]:=by
 have hnf:=newFull c hk
 have hbd:=Cfg.bd hk
 obtain ⟨sh,cap,ring,room,wk,cli⟩:=c
 simp only [Cfg.cells] at hnf ⊢
 have HN:=Lib.hid hnf
 simp only at hbd
 obtain ⟨m,hm⟩:∃ m:Nat,cli=(m:Int):=⟨cli.toNat,by omega⟩
 obtain ⟨q,hq⟩:∃ q:Nat,wk=(q:Int):=⟨wk.toNat,by omega⟩
 subst hm hq
 have hmk:∀ w,(Instr.makeSlice 183 (.int .i64 ((m:Int)+1)) (.int .i64 ((m:Int)+1))).run Tryz.prog w=.ok (.slice (some ⟨w.heap.size,0,none⟩) (m+1) (m+1)) (w.alloc (.cells (rowNew (m+1)) 188)):=run_make_n _ _ .nilIface 1 16 Tryz.underlying183 infoWk (m+1) (by omega) (by omega)
 have hrw:=Lib.hid (show ∀ b,_ from fun b=>rowNew_row b (m+1) (by omega))
 have hwr:IntKind.i64.wrap ((m:Int)+1)=(m:Int)+1:=wrapI _ (by omega) (by omega)
 intro w hw
 have T0:=TG.refl hw
 have HT:=Lib.hid T0
 clear hw T0
 go_enter Tryz.func112,Tryz.ntmps112
 go_wp2_with fail
 have HT:=Lib.hid (HT.out.alloc (k:=w.heap.size) rfl 30 #[.int .i64 sh,.int .i64 cap,.int .i64 ring,.int .i64 room,.int .i64 q,.int .i64 m])
 go_wp2_with fail
 refine (DoesG.use (HN.out) (HT.out) [] rfl rfl).mono ?_
 rintro e w1 ⟨gs,⟨L,g,rfl,hz,rfl⟩,Ta⟩
 simp only [PU] at Ta
 have HT:=Lib.hid Ta
 clear Ta
 obtain ⟨gC,gW,gP,gL,h1,h2,h3,h4,rfl⟩:=isZ_open hz
 have HZ:=Lib.hid (And.intro h1 (And.intro h2 (And.intro h3 h4)))
 have HCR:=Lib.hid (crewCrew (n:=q) h1 rfl (by omega))
 clear hz hnf h1 h2 h3 h4
 have HT:=Lib.hid (HT.out.sum (H':=[[cl w.heap.size 30 #[.int .i64 sh,.int .i64 cap,.int .i64 ring,.int .i64 room,.int .i64 q,.int .i64 m]],gC,gW++(gP++gL)]))
 have a5:=HT.out.cell 0 0 rfl 5
 simp only [GE4] at a5
 have lta:=HT.out.lt 0 0 rfl
 simp only [] at lta
 go_wp2_with fail
 go_region_with (
  go_at_call 148
  first
  | (refine (DoesG.use HCR.out (HT.out.drew.put rfl (.cells (rowNew (m+1)) 188)) [1] rfl rfl).mono ?_
     rintro e w2 ⟨gs,⟨v,gr,gWk,l,rfl,hl,hnw,hrr,hws,rfl⟩,Ta⟩
     obtain ⟨av,capv,rfl⟩:=rowG.val hrr
     have a5b:=Ta.cell 0 0 rfl 5
     simp only [GE3] at a5b
     have ltb:=Ta.lt 0 0 rfl
     simp only [] at ltb
     simp only [PU] at Ta
     have HT1:=Lib.hid Ta
     have HX:=Lib.hid (And.intro hl (And.intro hnw (And.intro hrr hws)))
     clear Ta hl hnw hrr hws)
  | (refine (DoesG.use HCR.out HT.out.drew [1] rfl rfl).mono ?_
     rintro e w2 ⟨gs,⟨v,gr,gWk,l,rfl,hl,hnw,hrr,hws,rfl⟩,Ta⟩
     obtain ⟨av,capv,rfl⟩:=rowG.val hrr
     have a5b:=Ta.cell 0 0 rfl 5
     simp only [GE3] at a5b
     have ltb:=Ta.lt 0 0 rfl
     simp only [] at ltb
     simp only [PU] at Ta
     have HT1:=Lib.hid Ta
     have HX:=Lib.hid (And.intro hl (And.intro hnw (And.intro hrr hws)))
     clear Ta hl hnw hrr hws))
 all_goals
  go_wp2
  go_ret2
  obtain ⟨hl,hnw,hrr,hws⟩:=HX.out
  obtain ⟨h1,h2,h3,h4⟩:=HZ.out
  first
  | exact ⟨_,⟨L,w2.heap.size,l,_,rfl,by rw [hl];rfl,hnw,sv0_is rfl hl (hrw.out w1.heap.size) hrr hws (isZ_mk h1 h2 h3 h4),rfl⟩,(((HT1.out.alloc (k:=w2.heap.size) rfl 186 #[ptr' L.fb,.slice (some ⟨w1.heap.size,0,none⟩) (m+1) (m+1),.slice none 0 0,.slice av q capv]).pick [6,3,4,5,1,2] rfl).eq (H':=[headB w2.heap.size L.fb (.slice (some ⟨w1.heap.size,0,none⟩) (m+1) (m+1)) (.slice none 0 0) (.slice av q capv),[cl w1.heap.size 188 (rowNew (m+1))],gr,gWk,gC,gW++(gP++gL)]) rfl).sum2⟩
  | exact ⟨_,⟨L,w2.heap.size+1,l,_,rfl,by rw [hl];rfl,hnw,sv0_is rfl hl (hrw.out w2.heap.size) hrr hws (isZ_mk h1 h2 h3 h4),rfl⟩,((((HT1.out.alloc (k:=w2.heap.size) rfl 188 (rowNew (m+1))).alloc (k:=w2.heap.size+1) (by simp) 186 #[ptr' L.fb,.slice (some ⟨w2.heap.size,0,none⟩) (m+1) (m+1),.slice none 0 0,.slice av q capv]).pick [6,5,3,4,1,2] rfl).eq (H':=[headB (w2.heap.size+1) L.fb (.slice (some ⟨w2.heap.size,0,none⟩) (m+1) (m+1)) (.slice none 0 0) (.slice av q capv),[cl w2.heap.size 188 (rowNew (m+1))],gr,gWk,gC,gW++(gP++gL)]) rfl).sum2⟩
end
section
open Go.RowKit Go.Shelf
def JobS.bare (j:JobS):JobS:={ j with kb:=0 }
def WkN.bare (c:WkN):WkN:={ c with wb:=0 }
def SvS.bare (S:SvS):SvS:={ S with all:=S.all.map JobS.bare,crew:=S.crew.map WkN.bare }
section
variable (S:SvS)
theorem bare_jobAt (a:Nat):S.bare.jobAt a=(S.jobAt a).bare:=by
 unfold SvS.jobAt SvS.bare
 simp only [List.getD_eq_getElem?_getD,List.getElem?_map]
 cases S.all[a]? <;> rfl
theorem bare_wkrAt (a:Nat):S.bare.wkrAt a=(S.wkrAt a).bare:=by
 unfold SvS.wkrAt SvS.bare
 simp only [List.getD_eq_getElem?_getD,List.getElem?_map]
 cases S.crew[a]? <;> rfl
theorem ths2_map (f:WkN→WkN):∀ (l:List WkN) (a i:Nat),ths2 a i (l.map f)=ths2 a i l
 | [],_,_=>rfl
 | c::l,a,i=>by
   show (a,Th.wkr i)::ths2 (a+1) (i+1) (l.map f)=(a,Th.wkr i)::ths2 (a+1) (i+1) l
   rw [ths2_map f l]
theorem bare_ths:S.bare.ths=S.ths:=by
 show ths1 0 S.own++ths2 S.own.length 0 (S.crew.map _)=_
 rw [ths2_map]
 rfl
theorem bare_may (t:Th):t.may S.bare=t.may S:=by
 cases t with
 | job a=>show (S.bare.jobAt a).w.may S.z=_;rw [bare_jobAt];rfl
 | wkr i=>show (S.bare.wkrAt i).may S.z=_;rw [bare_wkrAt];rfl
theorem bare_step (t:Th):(t.step S).bare=t.step S.bare:=by
 cases t with
 | job a =>
   show SvS.mk ((S.jobAt a).w.step S.z).2 S.own ((S.all.set a _).map JobS.bare) (S.crew.map WkN.bare)=SvS.mk ((S.bare.jobAt a).w.step S.z).2 S.own ((S.all.map JobS.bare).set a ⟨(S.bare.jobAt a).kb,(S.bare.jobAt a).n+1,((S.bare.jobAt a).w.step S.z).1⟩) (S.crew.map WkN.bare)
   rw [List.map_set,bare_jobAt]
   rfl
 | wkr i =>
   show SvS.mk ((S.wkrAt i).step S.z).2 S.own (S.all.map JobS.bare) ((S.crew.set i _).map WkN.bare)=SvS.mk ((S.bare.wkrAt i).step S.z).2 S.own (S.all.map JobS.bare) ((S.crew.map WkN.bare).set i ((S.bare.wkrAt i).step S.z).1)
   rw [List.map_set,bare_wkrAt]
   rfl
theorem bare_mays:S.bare.mays=S.mays:=by
 unfold SvS.mays
 rw [bare_ths]
 simp only [bare_may]
theorem bare_pickTh (i:Int):S.bare.pickTh i=S.pickTh i:=by
 unfold SvS.pickTh
 rw [bare_ths]
 simp only [bare_may]
theorem bare_stepS (i:Int):(S.stepS i).1.bare=(S.bare.stepS i).1∧(S.stepS i).2=(S.bare.stepS i).2:=by
 unfold SvS.stepS
 rw [bare_pickTh]
 have e:(S.bare.own.length:Int)+S.bare.crew.length=(S.own.length:Int)+S.crew.length:=by
  show (S.own.length:Int)+(S.crew.map _).length=_
  rw [List.length_map]
 rw [e]
 split
 ·exact ⟨rfl,rfl⟩
 ·split
  ·exact ⟨bare_step S _,rfl⟩
  ·exact ⟨rfl,rfl⟩
theorem bare_pickAt (k:Int):S.bare.pickAt k=S.pickAt k:=by unfold SvS.pickAt;rw [bare_mays]
theorem bare_pickS (k:Int):(S.pickS k).1.bare=(S.bare.pickS k).1∧(S.pickS k).2=(S.bare.pickS k).2:=by
 unfold SvS.pickS
 rw [bare_mays,bare_pickAt]
 split
 ·exact ⟨rfl,rfl⟩
 ·obtain ⟨h1,h2⟩:=bare_stepS S (S.pickAt k)
  exact ⟨h1,by rw [h2]⟩
theorem bare_busyAt (i:Nat):S.bare.busyAt i=S.busyAt i:=by
 unfold SvS.busyAt
 show (match S.own.getD i none with | some a=>!(S.bare.jobAt a).w.done | none=>false)=_
 cases S.own.getD i none with
 | some a=>show (!(S.bare.jobAt a).w.done)=_;rw [bare_jobAt];rfl
 | none=>rfl
theorem bare_callE (th:Int) (c:CallC):S.bare.callE th c=S.callE th c:=by
 unfold SvS.callE
 rw [bare_busyAt]
 rfl
theorem bare_callNo (th:Int) (c:CallC):S.bare.callNo th c=S.callNo th c:=by
 unfold SvS.callNo
 rw [bare_callE]
 show (if _ then ((S.all.map _).length:Int)+1 else 0)=_
 rw [List.length_map]
theorem bare_callS (kb:Nat) (th:Int) (c:CallC):(S.callS kb th c).bare=S.bare.callS 0 th c:=by
 unfold SvS.callS
 rw [bare_callE]
 split
 ·have e:S.bare.all.length=S.all.length:=List.length_map _
  unfold SvS.callT
  rw [e]
  show SvS.mk _ _ ((S.all++[_]).map JobS.bare) _=SvS.mk _ _ ((S.all.map JobS.bare)++[_]) _
  rw [List.map_append]
  rfl
 ·rfl
theorem bare_busyB:S.bare.busyB=S.busyB:=by
 unfold SvS.busyB
 show S.own.any _=S.own.any _
 congr 1
 funext o
 cases o with
 | none=>rfl
 | some a=>show (!(S.bare.jobAt a).w.done)=_;rw [bare_jobAt];rfl
theorem bare_idle:S.bare.idle=S.idle:=by
 unfold SvS.idle
 rw [bare_busyB]
 show (_ && crewIdleB (S.crew.map WkN.bare) S.z.p)=_
 have:noneHolds (S.crew.map WkN.bare)=noneHolds S.crew:=by
  unfold noneHolds
  rw [List.all_map]
  rfl
 unfold crewIdleB
 rw [this]
end
def isB (N:Nat) (L:Lay) (sb:Nat) (B:SvS) (g:List Blk):Prop:=∃ S,S.bare=B∧SvN N S∧isSv L sb S g
section
variable {N:Nat} {L:Lay} {sb:Nat} {B:SvS} {g:List Blk}
theorem isB.mono {M:Nat} (h:isB N L sb B g) (hm:N≤M):isB M L sb B g:=by
 obtain ⟨S,h1,h2,h3⟩:=h
 exact ⟨S,h1,h2.mono hm,h3⟩
theorem bMay (h:isB N L sb B g) (hN:N<999998):DoesG Tryz.prog 53 #[ptr' sb] [g] fun e gs =>
 ∃ v gl g',e=.returned v∧rowG 3 1 v B.mays.length (intsV B.mays) gl∧isB N L sb B g'∧gs=[g',gl]:=by
 obtain ⟨S,rfl,hn,hs⟩:=h
 refine (svMay hs hn hN).mono ?_
 rintro e gs ⟨v,gl,g',rfl,h1,h2,rfl⟩
 exact ⟨v,gl,g',rfl,by rw [bare_mays];exact h1,⟨S,rfl,hn,h2⟩,rfl⟩
theorem bStep (h:isB N L sb B g) (hN:N<999998) (i:Int):DoesG Tryz.prog 52 #[ptr' sb,.int .i64 i] [g] fun e gs =>
 ∃ g',e=.returned (.int .i64 (B.stepS i).2)∧isB (N+1) L sb (B.stepS i).1 g'∧gs=[g']:=by
 obtain ⟨S,rfl,hn,hs⟩:=h
 refine (svStep hs hn hN i).mono ?_
 rintro e gs ⟨g',rfl,h2,rfl⟩
 obtain ⟨e1,e2⟩:=bare_stepS S i
 exact ⟨g',by rw [e2],⟨_,e1,stepS_n hn hN i,h2⟩,rfl⟩
theorem bPick (h:isB N L sb B g) (hN:N<999998) (k:Int):DoesG Tryz.prog 50 #[ptr' sb,.int .i64 k] [g] fun e gs =>
 ∃ g',e=.returned (.tuple #[.int .i64 (B.pickS k).2.1,.int .i64 (B.pickS k).2.2])∧isB (N+1) L sb (B.pickS k).1 g'∧gs=[g']:=by
 obtain ⟨S,rfl,hn,hs⟩:=h
 refine (svPick hs hn hN k).mono ?_
 rintro e gs ⟨g',rfl,h2,rfl⟩
 obtain ⟨e1,e2⟩:=bare_pickS S k
 exact ⟨g',by rw [e2],⟨_,e1,pickS_n hn hN k,h2⟩,rfl⟩
theorem bCall (h:isB N L sb B g) (hN:N<999998) (th:Int) (c:CallC) (hc:c.wf):DoesG Tryz.prog 49 #[ptr' sb,.int .i64 th,.agg c.cells] [g] fun e gs =>
 ∃ g',e=.returned (.tuple #[.int .i64 (B.callNo th c),.int .i64 (B.callE th c)])∧isB (N+1) L sb (B.callS 0 th c) g'∧gs=[g']:=by
 obtain ⟨S,rfl,hn,hs⟩:=h
 refine (svCall hs hn hN th c).mono ?_
 rintro e gs ⟨kb,g',rfl,h2,rfl⟩
 exact ⟨g',by rw [bare_callNo,bare_callE],⟨_,bare_callS S kb th c,callS_n hn hc kb th,h2⟩,rfl⟩
theorem bIdle (h:isB N L sb B g) (hN:N<999998):DoesG Tryz.prog 57 #[ptr' sb] [g] fun e gs=>∃ g',e=.returned (.bool B.idle)∧isB N L sb B g'∧gs=[g']:=by
 obtain ⟨S,rfl,hn,hs⟩:=h
 refine (svIdle hs hn hN).mono ?_
 rintro e gs ⟨g',rfl,h2,rfl⟩
 exact ⟨g',by rw [bare_idle],⟨S,rfl,hn,h2⟩,rfl⟩
theorem bLog (h:isB N L sb B g) (hN:N<999998):DoesG Tryz.prog 56 #[ptr' sb] [g] fun e gs=>∃ v gv g',e=.returned v∧rowG 69 4 v B.z.lg.length (fires B.z.lg) gv∧isB N L sb B g'∧gs=[g',gv]:=by
 obtain ⟨S,rfl,hn,hs⟩:=h
 refine (svLog hs hn hN).mono ?_
 rintro e gs ⟨v,gv,g',rfl,h1,h2,rfl⟩
 exact ⟨v,gv,g',rfl,h1,⟨S,rfl,hn,h2⟩,rfl⟩
theorem bTrace (h:isB N L sb B g) (hN:N<999998):DoesG Tryz.prog 55 #[ptr' sb] [g] fun e gs=>∃ v gv g',e=.returned v∧trG v B.z.x.tr gv∧isB N L sb B g'∧gs=[g',gv]:=by
 obtain ⟨S,rfl,hn,hs⟩:=h
 have HF:=Lib.hid (svFloor hs)
 have htr:S.z.x.tr.length≤1000000:=by have:=hn.glo.zn.core.tr;omega
 obtain ⟨vo,va,vc,go,ga,gc,gJ,gW,gZ,hr,hi,rfl⟩:=hs
 obtain ⟨gC,gWh,gP,gL,h1,h2,h3,h4,rfl⟩:=isZ_open hi.z
 have HR:=Lib.hid hr
 have HSI:=Lib.hid hi
 have HNN:=Lib.hid hn
 have HX:=Lib.hid (coreTrace h1 htr)
 have HZZ:=Lib.hid (And.intro h2 (And.intro h3 h4))
 show DoesG _ _ _ _ fun e gs=>∃ v gv g',e=.returned v∧trG v S.z.x.tr gv∧isB N L sb S.bare g'∧gs=[g',gv]
 intro w hw
 have T0:=TG.refl hw
 have HT:=Lib.hid T0
 clear hw T0
 clear hr hi h1 h2 h3 h4 hn
 go_enter Tryz.func55,Tryz.ntmps55
 go_wp2_with fail
 refine (DoesG.use (HF.out) (HT.out) [0] rfl rfl).mono ?_
 rintro e w1 ⟨gs,⟨rfl,rfl⟩,Ta⟩
 simp only [PU] at Ta
 have HT:=Lib.hid Ta
 clear Ta
 have HT:=Lib.hid (HT.out.sum2 (H':=[headB sb L.fb vo va vc++(go++(ga++(gc++(gJ++gW)))),gC,gWh++(gP++gL)]))
 go_wp2_with fail
 refine (DoesG.use (HX.out) (HT.out) [1] rfl rfl).mono ?_
 rintro e w1 ⟨gs,⟨v,gC',gv,rfl,hx',hv,rfl⟩,Ta⟩
 simp only [PU] at Ta
 have HT:=Lib.hid Ta
 clear Ta
 obtain ⟨av,cap,rfl⟩:=rowG.val hv
 have HV:=Lib.hid (And.intro hx' hv)
 clear hv hx'
 go_wp2
 go_ret
 obtain ⟨h2,h3,h4⟩:=HZZ.out
 exact ⟨_,⟨_,gv,_,rfl,HV.out.2,⟨S,rfl,HNN.out,⟨vo,va,vc,go,ga,gc,gJ,gW,_,HR.out,⟨HSI.out.j,HSI.out.w,isZ_mk HV.out.1 h2 h3 h4⟩,rfl⟩⟩,rfl⟩,HT.out.sum2⟩
def svB0 (c:Cfg):SvS:=⟨zf0 c,List.replicate (c.cli.toNat+1) none,[],List.replicate c.wk.toNat ⟨0,firstW,0,wkr0⟩⟩
theorem bNew (c:Cfg) (hk:c.ok=true):DoesG Tryz.prog 112 #[.agg c.cells] [] fun e gs =>
 ∃ L sb g,e=.returned (.tuple #[ptr' sb,.int .i64 0])∧isB 0 L sb (svB0 c) g∧gs=[g]:=by
 refine (svNew c hk).mono ?_
 rintro e gs ⟨L,sb,ws,g,rfl,hl,hw,hs,rfl⟩
 refine ⟨L,sb,g,rfl,⟨_,?_,sv0_n c hk hl hw,hs⟩,rfl⟩
 show SvS.mk _ _ [] (ws.map WkN.bare)=_
 have:ws.map WkN.bare=List.replicate c.wk.toNat ⟨0,firstW,0,wkr0⟩:=by
  rw [List.eq_replicate_iff,List.length_map]
  refine ⟨hl,fun b hb=>?_⟩
  obtain ⟨z,hz,rfl⟩:=List.mem_map.1 hb
  obtain ⟨a,b,d⟩:=hw z hz
  obtain ⟨wb,s,n,k⟩:=z
  simp only at a b d
  subst a b d
  rfl
 rw [this]
 rfl
end
end
section
open Go.RowKit Go.Shelf
def itP:Nat→SvS→SvS
 | 0,S=>S
 | n+1,S=>itP n (S.pickS 0).1
theorem itP_next:∀ (j:Nat) (S:SvS),itP (j+1) S=((itP j S).pickS 0).1
 | 0,_=>rfl
 | j+1,S=>by rw [itP,itP_next j];rfl
def runsP:Nat→SvS→Bool
 | 0,S=>S.idle
 | n+1,S=>!S.idle && runsP n (S.pickS 0).1
theorem runsP_at:∀ {n:Nat} {S:SvS},runsP n S=true→(∀ j,j<n→(itP j S).idle=false)∧(itP n S).idle=true
 | 0,S,h=>⟨fun j hj=>by omega,h⟩
 | n+1,S,h=>by
   simp only [runsP,Bool.and_eq_true,Bool.not_eq_true'] at h
   obtain ⟨h1,h2⟩:=runsP_at h.2
   refine ⟨fun j hj=>?_,h2⟩
   cases j with
   | zero=>exact h.1
   | succ j=>exact h1 j (by omega)
def cfg20:Cfg:=⟨1,1,1,1,1,1⟩
def exA:SvS:=(svB0 cfg20).callS 0 0 ⟨1,0,1,0⟩
def exB:SvS:=itP 13 exA
def exC:SvS:=exB.callS 0 1 ⟨7,0,0,0⟩
def exD:SvS:=itP 21 exC
theorem ex_call1:(svB0 cfg20).callE 0 ⟨1,0,1,0⟩=0∧(svB0 cfg20).callNo 0 ⟨1,0,1,0⟩=1:=⟨by kernel_rfl,by kernel_rfl⟩
theorem ex_runs1:runsP 13 exA=true:=by kernel_rfl
theorem ex_call2:exB.callE 1 ⟨7,0,0,0⟩=0∧exB.callNo 1 ⟨7,0,0,0⟩=2:=⟨by kernel_rfl,by kernel_rfl⟩
theorem ex_runs2:runsP 21 exC=true:=by kernel_rfl
theorem ex_log:exD.z.lg=[⟨64,1,1,1⟩]:=by kernel_rfl
set_option maxRecDepth 100000 in
set_option maxHeartbeats 4000000 in
theorem alive20:DoesG Tryz.prog 48 #[] [] fun e gs=>e=.returned (.bool true)∧gs=[]:=by
 have HN:=Lib.hid (bNew cfg20 (by decide))
 obtain ⟨hr1,hr1'⟩:=runsP_at ex_runs1
 obtain ⟨hr2,hr2'⟩:=runsP_at ex_runs2
 have HR1:=Lib.hid (And.intro hr1 hr1')
 have HR2:=Lib.hid (And.intro hr2 hr2')
 clear hr1 hr2 hr1' hr2'
 intro w hw
 have T0:=TG.refl hw
 have HT:=Lib.hid T0
 clear hw T0
 go_enter Tryz.func48,Tryz.ntmps48
 go_wp2_with fail
 refine (DoesG.use (HN.out) (HT.out) [] rfl rfl).mono ?_
 rintro e w1 ⟨gs,⟨L,sb,g,rfl,hb,rfl⟩,Ta⟩
 simp only [PU] at Ta
 have HT:=Lib.hid Ta
 clear Ta
 have hc:=bCall hb (by decide) 0 ⟨1,0,1,0⟩ ⟨by decide,by decide,by decide⟩
 rw [ex_call1.1,ex_call1.2] at hc
 have HC:=Lib.hid hc
 clear hb hc
 go_wp2_with fail
 refine (DoesG.use (HC.out) (HT.out) [0] rfl rfl).mono ?_
 rintro e w1 ⟨gs,⟨g1,rfl,hb,rfl⟩,Ta⟩
 simp only [PU] at Ta
 have HT:=Lib.hid Ta
 clear Ta
 have HB:=Lib.hid (show isB 1 L sb exA g1 from hb)
 clear hb
 go_wp2_with fail
 go_loopw [5] (fun i wr=>∃ (j:Nat) (g2:List Blk),j≤13∧i=.int .i64 j∧isB (1+j) L sb (itP j exA) g2∧TG [] w [g2] wr) (fun i _=>100 - (intOf i).toNat)
 case atStart=>exact ⟨0,g1,Nat.zero_le _,rfl,HB.out,HT.out⟩
 case round =>
  obtain ⟨j,g2,hj,rfl,hb,T⟩:=hrel
  clear HB
  have HT:=Lib.hid T
  have hid:=bIdle hb (by omega)
  clear T
  by_cases hlt:j<13
  ·rw [HR1.out.1 j hlt] at hid
   have HI:=Lib.hid hid
   clear hid hb
   go_wp2_with fail
   refine (DoesG.use (HI.out) (HT.out) [0] rfl rfl).mono ?_
   rintro e w1 ⟨gs,⟨g3,rfl,hb,rfl⟩,Ta⟩
   simp only [PU] at Ta
   have HT:=Lib.hid Ta
   clear Ta
   have hpk:=bPick hb (by omega) 0
   rw [← itP_next] at hpk
   have HP:=Lib.hid hpk
   clear hpk hb
   go_wp2_with fail
   refine (DoesG.use (HP.out) (HT.out) [0] rfl rfl).mono ?_
   rintro e w1 ⟨gs,⟨g4,rfl,hb,rfl⟩,Ta⟩
   simp only [PU] at Ta
   have HT:=Lib.hid Ta
   clear Ta
   have HB:=Lib.hid hb
   clear hb
   go_wp2
   first
   | (go_roundw
      case rel=>exact ⟨j+1,g4,by omega,by go_num,HB.out,HT.out⟩
      case measure=>simp [intOf];omega)
   | exact ⟨⟨j+1,g4,by omega,by go_num,HB.out,HT.out⟩,by simp [intOf];omega⟩
   | ((repeat apply Exists.intro);exact ⟨⟨⟨j+1,g4,by omega,by go_num,HB.out,HT.out⟩,rfl⟩,by simp [intOf];omega⟩)
  ·obtain rfl:j=13:=by omega
   rw [HR1.out.2] at hid
   have HI:=Lib.hid hid
   clear hid hb
   go_wp2_with fail
   refine (DoesG.use (HI.out) (HT.out) [0] rfl rfl).mono ?_
   rintro e w1 ⟨gs,⟨g3,rfl,hb,rfl⟩,Ta⟩
   simp only [PU] at Ta
   have HT:=Lib.hid Ta
   clear Ta
   have hc:=bCall (B:=exB) hb (by omega) 1 ⟨7,0,0,0⟩ ⟨by decide,by decide,by decide⟩
   rw [ex_call2.1,ex_call2.2] at hc
   have HC:=Lib.hid hc
   clear hb hc
   go_wp2_with fail
   refine (DoesG.use (HC.out) (HT.out) [0] rfl rfl).mono ?_
   rintro e w1 ⟨gs,⟨g1,rfl,hb,rfl⟩,Ta⟩
   simp only [PU] at Ta
   have HT:=Lib.hid Ta
   clear Ta
   have HB:=Lib.hid (show isB 15 L sb exC g1 from hb)
   clear hb
   go_wp2_with fail
   go_loopw [8] (fun i wr=>∃ (j:Nat) (g2:List Blk),j≤21∧i=.int .i64 j∧isB (15+j) L sb (itP j exC) g2∧TG [] w [g2] wr) (fun i _=>100 - (intOf i).toNat)
   case atStart=>exact ⟨0,g1,Nat.zero_le _,rfl,HB.out,HT.out⟩
   case round =>
    obtain ⟨j,g2,hj,rfl,hb,T⟩:=hrel
    clear HB
    have HT:=Lib.hid T
    have hid:=bIdle hb (by omega)
    clear T
    by_cases hlt:j<21
    ·rw [HR2.out.1 j hlt] at hid
     have HI:=Lib.hid hid
     clear hid hb
     go_wp2_with fail
     refine (DoesG.use (HI.out) (HT.out) [0] rfl rfl).mono ?_
     rintro e w1 ⟨gs,⟨g3,rfl,hb,rfl⟩,Ta⟩
     simp only [PU] at Ta
     have HT:=Lib.hid Ta
     clear Ta
     have hpk:=bPick hb (by omega) 0
     rw [← itP_next] at hpk
     have HP:=Lib.hid hpk
     clear hpk hb
     go_wp2_with fail
     refine (DoesG.use (HP.out) (HT.out) [0] rfl rfl).mono ?_
     rintro e w1 ⟨gs,⟨g4,rfl,hb,rfl⟩,Ta⟩
     simp only [PU] at Ta
     have HT:=Lib.hid Ta
     clear Ta
     have HB:=Lib.hid hb
     clear hb
     go_wp2
     first
     | (go_roundw
        case rel=>exact ⟨j+1,g4,by omega,by go_num,HB.out,HT.out⟩
        case measure=>simp [intOf];omega)
     | exact ⟨⟨j+1,g4,by omega,by go_num,HB.out,HT.out⟩,by simp [intOf];omega⟩
     | ((repeat apply Exists.intro);exact ⟨⟨⟨j+1,g4,by omega,by go_num,HB.out,HT.out⟩,rfl⟩,by simp [intOf];omega⟩)
    ·obtain rfl:j=21:=by omega
     rw [HR2.out.2] at hid
     have HI:=Lib.hid hid
     clear hid hb
     go_wp2_with fail
     refine (DoesG.use (HI.out) (HT.out) [0] rfl rfl).mono ?_
     rintro e w1 ⟨gs,⟨g3,rfl,hb,rfl⟩,Ta⟩
     simp only [PU] at Ta
     have HT:=Lib.hid Ta
     clear Ta
     have hl:=bLog (B:=exD) hb (by omega)
     rw [ex_log] at hl
     have HL:=Lib.hid hl
     clear hb hl
     go_wp2_with fail
     refine (DoesG.use (HL.out) (HT.out) [0] rfl rfl).mono ?_
     rintro e w1 ⟨gs,⟨v,gv,g5,rfl,hr,hb,rfl⟩,Ta⟩
     simp only [PU] at Ta
     have HT:=Lib.hid Ta
     clear Ta
     obtain ⟨av,cap,hv⟩:=rowG.val hr
     subst hv
     have HR:=Lib.hid hr
     clear hr hb
     generalize w1=wb at HT ⊢
     have HT:=Lib.hid (HT.out.alloc (k:=wb.heap.size) rfl 69 #[.int .u64 64,.int .u64 1,.int .u64 1,.int .u64 1])
     have HLIT:=Lib.hid (rowG_lit 69 4 wb.heap.size 1 1 #[.int .u64 64,.int .u64 1,.int .u64 1,.int .u64 1] (Nat.le_refl _) (by decide) rfl)
     go_wp2_with fail
     refine (ReadsG.use (sameF_r (l:=[⟨64,1,1,1⟩]) HR.out HLIT.out (by decide)) HT.out [1,2] rfl rfl).mono ?_
     rintro e w2 ⟨rfl,mq2,rfl⟩
     have HT:=Lib.hid (HT.out.drewN mq2)
     generalize World.drewN _ _=wc at HT ⊢
     go_wp2
     go_ret
     exact ⟨[],⟨rfl,rfl⟩,HT.out.pick [] rfl⟩
end
end Go.Proofs.YtblhfbcodbjgcaaGreat
