import Derived.Test.YtcneeepdclgdcaaGreatPF18
import Derived.Deep.RegionLaw
set_option maxRecDepth 100000
set_option maxHeartbeats 4000000
namespace Go.Proofs.YtcneeepdclgdcaaGreat
open Go.Value renaming int->WK
open Go.IntKind renaming i64->WL,u64->WM
open Go.Region renaming wanted->WN
set_option linter.all false
open Go.Proofs.Tryz
section
open Go.RowKit Go.Shelf
theorem Tryz.pW:(prog.info? 73).map (fun i=>(i.zero,i.size,i.bytes))=some (some (.agg #[WK WL 0,WK WL 0,WK WL 0,WK WL 0,WK WM 0,WK WM 0,WK WM 0,WK WM 0,WK WM 0,WK WL 0]),10,80):=by kernel_rfl
theorem Zh.Fa {p:jc} {f:Zp} {tr:Value} {C:Array Value} (h:Zh p f tr C) (v:Value):Zh p f v (C.setIfInBounds 26 v):=by
 have hs:=h.size;have ne:∀ i,i<26->(C.setIfInBounds 26 v)[i]?=C[i]?:=fun i hi=>Qc (by omega)
 have ce:∀ {o:Nat} {x:Value},o+4<=26->cellAt C o x->cellAt (C.setIfInBounds 26 v) o x:=by
  rintro o x ho ⟨h0,l,t,u,h1,h2,h3⟩;exact ⟨(ne _ (by omega)).trans h0,l,t,u,(ne _ (by omega)).trans h1,(ne _ (by omega)).trans h2,(ne _ (by omega)).trans h3⟩
 exact ⟨by simpa using hs,fun i hi=>(ne i (by omega)).trans (h.cfg i hi),(ne _ (by omega)).trans h.aa,(ne _ (by omega)).trans h.sh,(ne _ (by omega)).trans h.pipe,(ne _ (by omega)).trans h.log,
  ce (by omega) h.closed,ce (by omega) h.inside,ce (by omega) h.busy,ce (by omega) h.now,Xa h.tr⟩
theorem KV {P:Program} {ops:Array Oper} {o:Oper} {a:Act} {w':World} {K:Act->World->Prop} {Q:Exit->Act->World->Prop} {Eg:Prop} {e:TypeId} {v:Value} {n:Nat} {xs:List Value} {g:List ak} {h H:GH} {w:World}
 (hgd:o.guard=none) (s x:Operand) (t:TypeId) (ho:o.op=.call { callee:=.builtin .append,args:=#[s,x],argTypes:=#[t,t] })
 (size bytes:Nat) (z:Value) (ht:P.underlying t=some (.slice e)) (hinfo:(P.info? e).map (fun i=>(i.zero,i.size,i.bytes))=some (some z,size,bytes)) (hzs:z.cells.size=size) (hsz:0<size)
 (T:TG h w H w') (k:Nat) (hk:decide (k<H.length)=true) (hg:H.getD k []=g) (r:Q1 e size v n xs g) (hs:a.eval s=v)
 (ad:Addr) (m c:Nat) (news:List Value) (hx:a.eval x=.slice (some ad) m c) (hl:news.length=m*size) (hnews:∀ j u,news[j]?=some u->w'.cell? (ad.add j)=some u) (h1:∀ u∈news,u.oneCell'=true)
 (h63:n+m<=maxLen) (hbytes:(n+m)*bytes<=140737488355328)
 (hK:∀ v' w'' g',Q1 e size v' (n+m) (xs++news) g'->TG h w (H.set k g') w''->K (a.put o.dst v') w'') :
 if WN o (yielded ops a.tmps)=true then Oper.wp P o a w' K Q else Eg:=by
 have hw:WN o (yielded ops a.tmps)=true:=by simp [WN,hgd]
 rw [if_pos hw];obtain ⟨i,hi,hz,hsize,hby⟩:=info_parts hinfo;obtain ⟨v',w'',g',hr,h2,h3⟩:=KS (P:=P) t o.type e i z size bytes ht hi hz hsize hby hzs hsz T k (of_decide_eq_true hk) hg r ad m c news hl hnews h1 h63 hbytes;unfold Oper.wp;simp [execOp,ho,resolve,invoke,builtin,hs,hx,hr,Result.andThen]
 exact hK v' w'' g' h2 h3
theorem qk2 {fb:Nat} {p:jc} {f:Zp} {tr:Value} {g gT:List ak} {n:Nat} {xs:List Value} (E:EvS) (hg:X1 fb p f tr g) (hr:Q1 73 10 tr n xs gT) (hn:n<=1000000000) :
 Qa prog 145 #[Qb fb,.agg E.cells] [g,gT] fun e gs =>
  e=.returned (.tuple #[])/\∃ VC g' OB,X1 fb p f VC g'/\Q1 73 10 VC (n+1) (xs++E.cells.toList) OB/\gs=[g',OB]:=by
 obtain ⟨C,rfl,hc⟩:=hg;obtain ⟨a,cap,rfl⟩:=hr.val;refine GO fun w HT=>?_
 simp only [EvS.cells];have HC:=Vh hc;have HR:=Vh hr;have htr:=hc.tr;clear hc hr;go_enter func145,ntmps145
 go_wp2
 have HT:=Vh (HT.out.a 73 #[WK WL E.kind,WK WL E.thread,WK WL E.call,WK WL E.what,WK WM E.id,WK WM E.gen,WK WM E.dl,WK WM E.per,WK WM E.tick,WK WL E.err]);have c0:=(HT.c 0 0 26).trans htr;have q:=HT.cell 2 0 rfl;clear q c0;generalize w.alloc _=w1 at HT |-;simp only [List.cons_append,List.nil_append] at HT;have c0:=(HT.c 0 0 26).trans htr;have q:=HT.cell 2 0 rfl;have HT:=Vh HT.out.drew;have f0:=HT.free 0 0 rfl;have hl0:=HT.l 0 0;have hl1:=HT.l 2 0;simp only [World.drew] at hl0 hl1
 go_region_law (
  refine KV rfl (.tmp 10) (.tmp 12) 60 rfl 10 80 _ underlying60 Tryz.pW rfl (by decide) (HT.aN _) 1 rfl rfl HR rfl ⟨w1.heap.size,0,none⟩ 1 1 [WK WL E.kind,WK WL E.thread,WK WL E.call,WK WL E.what,WK WM E.id,WK WM E.gen,WK WM E.dl,WK WM E.per,WK WM E.tick,WK WL E.err] rfl rfl (Za _ _ _) (by simp [Value.oneCell']) (by unfold maxLen;omega) (by omega) ?_
  intro v w3 JY r T;simp only [List.set_cons_zero,List.set_cons_succ] at T;obtain ⟨a1,di,rfl⟩:=r.val;have f1:=T.f 0 0 26;have c1:=(T.c 0 0 26).trans htr;have T:=Vh T
  have r:=Vh r)
 all_goals go_wp2
 all_goals exact bodyPost_end (results_none rfl _ _ _) rfl ⟨_,⟨rfl,_,_,_,⟨_,rfl,HC.Fa _⟩,r.out,rfl⟩,(T.set 0 0 rfl 26 _).p [0,1]⟩
end
end Go.Proofs.YtcneeepdclgdcaaGreat
