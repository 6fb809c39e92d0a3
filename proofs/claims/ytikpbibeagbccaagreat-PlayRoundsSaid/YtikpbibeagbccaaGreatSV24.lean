import Derived.Test.YtikpbibeagbccaaGreatSV22
import Derived.Deep.DeepCutAuto
import Derived.Deep.CutBlock
import Derived.WalkSpells
set_option maxRecDepth 100000
set_option maxHeartbeats 4000000
namespace Go.Proofs.YtikpbibeagbccaaGreat
set_option linter.unusedVariables false
set_option linter.unusedSimpArgs false
open Go.Proofs.Tryz
section
open Go.RowKit Go.Shelf
def Ym (l:List EvS):List Value:=l.flatMap fun e=>e.cells.toList
def EvS.zero:EvS:=⟨0,0,0,0,0,0,0,0,0,0⟩
theorem qkv (e:EvS) (l:List EvS):Ym (e::l)=e.cells.toList++Ym l:=rfl
theorem qi6 (l:List EvS) (e:EvS):Ym (l++[e])=Ym l++e.cells.toList:=by simp [Ym]
theorem qm5 (l:List EvS):∀ u∈Ym l,u.oneCell'=true:=by
 intro u hu;obtain ⟨e,_,h⟩:=List.mem_flatMap.1 hu;simp [EvS.cells] at h
 rcases h with rfl | rfl | rfl | rfl | rfl | rfl | rfl | rfl | rfl | rfl <;> rfl
theorem qq2 (l:List EvS) (i j:Nat) (hi:i<l.length) (hj:j<10):(Ym l)[i*10+j]?=(l.getD i EvS.zero).cells[j]?:=by
 induction l generalizing i with
 | nil=>simp at hi
 | cons e l ih =>
   have he:e.cells.toList.length=10:=rfl;rw [qkv];cases i with
   | zero =>
     rw [show 0*10+j=j by omega,List.getElem?_append_left (by omega),Array.getElem?_toList];rfl
   | succ i =>
     rw [List.getElem?_append_right (by omega),show (i+1)*10+j - e.cells.toList.length=i*10+j by omega,ih i (by simpa using hi)];rfl
def trG (tr:Value) (l:List EvS) (g:List Blk):Prop:=Qr 123 10 tr l.length (Ym l) g
theorem trG.put {tr:Value} {l:List EvS} {e:EvS} {g:List Blk} (h:Qr 123 10 tr (l.length+1) (Ym l++e.cells.toList) g):trG tr (l++[e]) g:=by
 unfold trG;rw [qi6,List.length_append];exact h
theorem qsw:trG (.slice none 0 0) [] []:=Xp _ _
theorem q1a {tr:Value} {l:List EvS} {gT:List Blk} (hr:trG tr l gT) (hn:l.length≤1000000000) :
 Qa prog 76 #[tr] [gT] fun e gs=>∃ v g',e=.returned v∧trG v l g'∧gs=[gT,g']:=by
 have hr':Qr 123 10 tr l.length (Ym l) gT:=hr;obtain ⟨hl,(⟨rfl,h0,rfl⟩ | ⟨b,cap,cur,rfl,rfl,h1,h2,h3,h4⟩)⟩:=hr
 ·have he:l=[]:=List.eq_nil_of_length_eq_zero h0
  subst he;clear hr' h0 hl hn;refine GO fun w HT=>?_
  have hn:=fun (w:World)=>Lib.run_eql_slice_nil (P:=prog) w 64 123 none 0 0 0 0 underlying64
  go_enter func76,ntmps76
  go_wp2
  go_ret
  exact ⟨[[],[]],⟨_,[],rfl,qsw,rfl⟩,HT.out.eq (by simp)⟩
 ·refine GO fun w HT=>?_
  have HN:=Vh (show ∀ j u,(Ym l)[j]?=some u→(w.alloc (.cells #[] 123)).cell? ((⟨b,0,none⟩:Addr).add j)=some u from ((HT.out.alloc (k:=w.heap.size) rfl 123 #[]).owns 0 rfl hr').cells (g:=b) rfl);have HL:=Vh hl;have HC:=Vh (qm5 l);clear hr' hl h4 h3;have hn:=fun (w:World)=>Lib.run_eql_slice_nil (P:=prog) w 64 123 (some ⟨b,0,none⟩) l.length cap 0 0 underlying64
  go_enter func76,ntmps76
  go_wp2_with (
   at_builtin
   (with_reducible refine Xj rfl (.tmp 5) (.tmp 6) 64 rfl 123 10 80 _ underlying64 Tryz.infoEvent rfl (by decide) (HT.out.alloc rfl _ _) 1 rfl rfl (qea _ 10 _ 0 0 #[] (Nat.le_refl _) (by decide) rfl) rfl ⟨b,0,none⟩ l.length cap (Ym l) rfl HL.out HN.out HC.out (by unfold maxLen;omega) (by omega) ?_)
   intro v w2 g2 r T;simp only [List.set_cons_zero,List.set_cons_succ,List.cons_append,List.nil_append] at T;have T:=Vh T
   have r:=Vh r)
  go_ret
  have hv:trG v l g2:=by simpa [trG] using r.out
  exact ⟨_,⟨_,rfl,_,hv,rfl⟩,T.out⟩
theorem qkt {fb:Nat} {p:qcu} {f:X5} {tr:Value} {g gT:List Blk} {l:List EvS} (hg:Xf fb p f tr g) (hr:trG tr l gT) (hn:l.length≤1000000000) :
 Qa prog 56 #[Qb fb] [g,gT] fun e gs=>∃ v g',e=.returned v∧trG v l g'∧gs=[g,gT,g']:=by
 obtain ⟨C,rfl,hc⟩:=hg;obtain ⟨a,cap,rfl⟩:=Qr.val hr;refine GO fun w HT=>?_
 have c0:=(HT.out.cell 0 0 rfl 26).trans hc.tr;have HR:=Vh hr;have HN:=Vh hn;clear hc hr hn;go_enter func56,ntmps56
 go_wp2_with fail
 refine Qa.run (q1a HR.out HN.out) (HT.out) [1] ?_
 rintro e w1 gs ⟨v,g',rfl,hv,rfl⟩ HT;simp only [PU] at HT;have HV:=Vh hv;clear hv;go_wp2
 go_ret
 exact ⟨_,⟨_,_,rfl,HV.out,rfl⟩,HT.out⟩
theorem trG.cells {h H:GH} {w w':World} (T:TG h w H w') (i:Nat) {tr:Value} {l:List EvS} {g:List Blk} (hi:H.getD i []=g) (r:trG tr l g) {k:Nat} (hk:k<l.length) :
 ∃ b cap,tr=.slice (some ⟨b,0,none⟩) l.length cap∧l.length≤cap∧cap≤maxLen∧∃ e,l.getD k EvS.zero=e ∧
 w'.cell? ⟨b,k*10,none⟩=some (.int .i64 e.kind)∧w'.cell? ⟨b,k*10+1,none⟩=some (.int .i64 e.thread)∧w'.cell? ⟨b,k*10+2,none⟩=some (.int .i64 e.call)∧w'.cell? ⟨b,k*10+3,none⟩=some (.int .i64 e.what) ∧
 w'.cell? ⟨b,k*10+4,none⟩=some (.int .u64 e.id)∧w'.cell? ⟨b,k*10+5,none⟩=some (.int .u64 e.gen)∧w'.cell? ⟨b,k*10+6,none⟩=some (.int .u64 e.dl)∧w'.cell? ⟨b,k*10+7,none⟩=some (.int .u64 e.per)∧w'.cell? ⟨b,k*10+8,none⟩=some (.int .u64 e.tick)∧w'.cell? ⟨b,k*10+9,none⟩=some (.int .i64 e.err):=by
 obtain ⟨b,cap,cur,rfl,rfl,h1,h2,h3,h4⟩:=Qr.open r (by omega);refine ⟨b,cap,rfl,h1,h2,_,rfl,?_⟩
 have hh:=fun j (hj:j<10)=>(T.cell (b:=b) i 0 (by rw [hi];rfl) (k*10+j)).trans ((h4 (k*10+j) (by omega)).trans (qq2 l k j hk hj))
 exact ⟨hh 0 (by omega),hh 1 (by omega),hh 2 (by omega),hh 3 (by omega),hh 4 (by omega),hh 5 (by omega),hh 6 (by omega),hh 7 (by omega),hh 8 (by omega),hh 9 (by omega)⟩
theorem qhm {a b:Value} {l:List EvS} {gA gB:List Blk} (ha:trG a l gA) (hb:trG b l gB) (hn:l.length≤1000000000):Qe prog 37 #[a,b] [gA,gB] (.bool true):=by
 obtain ⟨xa,ca,rfl⟩:=Qr.val ha;obtain ⟨xb,cb,rfl⟩:=Qr.val hb;intro w hw;have HT:=Vh (TG.refl hw);have HA:=Vh ha;have HB:=Vh hb;generalize hll:l.length=n at *;have HL:=Vh hll;clear hw ha hb hll;go_enter func37,ntmps37
 go_wp2
 go_loopw [5] (fun i wr=>∃ k m:Nat,k≤n∧i=.int .i64 k∧wr=w.drewN m) (fun i _=>n - (intOf i).toNat)
 case atStart=>exact ⟨0,0,Nat.zero_le _,rfl,rfl⟩
 case round =>
  obtain ⟨k,m,hk,rfl,rfl⟩:=hrel;by_cases hlt:k<n
  ·obtain ⟨ba,da,ea,a1,a2,e,he,c0,c1,c2,c3,c4,c5,c6,c7,c8,c9⟩:=trG.cells HT.out 0 rfl HA.out (k:=k) (by rw [HL.out];exact hlt)
   obtain ⟨bb,db,eb,b1,b2,e',he',d0,d1,d2,d3,d4,d5,d6,d7,d8,d9⟩:=trG.cells HT.out 1 rfl HB.out (k:=k) (by rw [HL.out];exact hlt);rw [he] at he';subst he';cases ea
   cases eb
   clear he;go_wp2
   go_quiet (fail)
   go_wp2
   go_roundw
   case rel=>exact ⟨k+1,_,by omega,by go_num,rfl⟩
   case measure=>simp [intOf];omega
  ·go_wp2
   go_ret
   exact ⟨rfl,m,rfl⟩
end
end Go.Proofs.YtikpbibeagbccaaGreat
