import Derived.Test.YtcneeepdclgdcaaGreatCO22
import Derived.Test.YtcneeepdclgdcaaGreatCO14
import Derived.Test.YtcneeepdclgdcaaGreatCO21
import Derived.Test.YtcneeepdclgdcaaGreatCO17
import Derived.Test.YtcneeepdclgdcaaGreatCO13
import Derived.Test.YtcneeepdclgdcaaGreatCO20
import Derived.Test.YtcneeepdclgdcaaGreatCO12
set_option maxRecDepth 100000
set_option maxHeartbeats 4000000
namespace Go.Proofs.YtcneeepdclgdcaaGreat
set_option linter.unusedVariables false
set_option linter.unusedSimpArgs false
open Go.Proofs.Tryz
section
open Go.RowKit Go.Shelf
section
variable {L:Lay} {x:Qk} {gF:List Blk}
def Jb (L:Lay) (x:Qk) (th no:Int) (c:Q9) (e:Ending) (gs:GH):Prop :=
 ∃ kb g gF',e=.returned (.tuple #[Qd kb,.int .i64 0])∧Ya L kb (Qu c.kind) 0 (Zj th no c) g∧Qh L (Yj (Zj th no c) { ev0 with kind:=1,id:=c.id,dl:=c.dl,per:=c.per } x) gF'∧gs=[g,gF']
theorem qdz (hx:Qh L x gF) (hn:x.tr.length≤1000000) (th no:Int) (c:Q9):Qa prog 15 #[Qd L.fb,.int .i64 th,.int .i64 no,.agg { c with kind:=1 }.cells] [gF] (Jb L x th no { c with kind:=1 }):=by
 unfold Jb;have HS:=Vh (show ∀ kb pv,(qdc L kb pv).SV (.at none .right) .nilFunc (.func (.func 81) #[Qd kb] #[]) [] from fun kb pv=>⟨rfl,rfl,rfl⟩);have HNW:=Vh (show ∀ kb,_ from fun kb=>Cli.prog_new (Jp L kb (.pointer none)) (HS.out kb (.pointer none)));have HF1:=Vh (show Qu 1=.at none .right from by simp [Qu]);refine GO fun w HT=>?_
 have HX:=Vh hx;have HLN:=Vh hn;clear hx hn;simp only [Q9.cells];go_enter func15,ntmps15
 go_wp2_with fail
 have HT:=Vh ((HT.out.alloc (k:=w.heap.size) rfl 38 #[.int .i64 1,.int .u64 c.id,.int .u64 c.dl,.int .u64 c.per]).alloc (k:=w.heap.size+1) (by simp) 149 (Qj L.fb (.pointer none) (.pointer none) (.pointer none) (Zj th no { c with kind:=1 })));simp only [List.cons_append,List.nil_append] at HT;refine (Qa.use Q7 HT.out [] rfl rfl).mono ?_
 rintro e w1 ⟨gs,⟨rfl,rfl⟩,Ta⟩;simp only [PU] at Ta;have HT:=Vh (Ta.sum (H':=[gF,[cl w.heap.size 38 #[.int .i64 1,.int .u64 c.id,.int .u64 c.dl,.int .u64 c.per]],Qm (w.heap.size+1) L.fb (.pointer none) (.pointer none) (.pointer none) (Zj th no { c with kind:=1 }),[]]));clear Ta;go_wp2_with fail
 refine Qa.run (HNW.out _) (HT.out) [3] ?_
 rintro e w1 gs ⟨pb,rfl,rfl⟩ HT;simp only [PU] at HT;have k12:=HT.out.cell 2 0 rfl 12;have fk12:=HT.out.free 2 0 rfl 12;simp only [Qj,GE3] at k12;obtain ⟨b0,b1,b2,b3⟩:=Ce4 (HT.out.cell 1 0 rfl) 0 1 2 3;simp only [GE4] at b0 b1 b2 b3;go_wp2_with fail
 have HT:=Vh ((HT.out.set 2 0 rfl 12 (Qd pb)).eq (H':=[gF,[cl w.heap.size 38 #[.int .i64 1,.int .u64 c.id,.int .u64 c.dl,.int .u64 c.per]],Qm (w.heap.size+1) L.fb (Qd pb) (.pointer none) (.pointer none) (Zj th no { c with kind:=1 }),[],Cli.progB pb .nilFunc (.func (.func 81) #[Qd (w.heap.size+1)] #[]) 0]) rfl);go_wp2_with fail
 refine (Qa.use (X7 HX.out { ev0 with kind:=1,id:=c.id,dl:=c.dl,per:=c.per } HLN.out) (HT.out) [2,0] rfl rfl).mono ?_
 rintro e w1 ⟨gs,⟨rfl,g1,hx1,rfl⟩,Ta⟩;simp only [PU] at Ta;have HX:=Vh hx1;clear hx1 k12 fk12 b0 b1 b2 b3;have HT:=Vh Ta;clear Ta;go_wp2
 go_ret2
 exact ⟨_,⟨_,_,g1,rfl,by rw [HF1.out];exact ⟨pb,_,_,[],_,HS.out _ _,⟨_,_,[],[],⟨rfl,rfl⟩,⟨rfl,rfl⟩,rfl⟩,rfl⟩,HX.out,rfl⟩,((HT.out.pick [2,0,4] rfl).eq (H':=[[cl (w.heap.size+1) 149 (Qj L.fb (Qd pb) (.pointer none) (.pointer none) (Zj th no { c with kind:=1 }))],g1,Cli.progB pb .nilFunc (.func (.func 81) #[Qd (w.heap.size+1)] #[]) 0]) rfl).sum (H':=[Cli.progB pb .nilFunc (.func (.func 81) #[Qd (w.heap.size+1)] #[]) 0++([]++([cl (w.heap.size+1) 149 (Qj L.fb (Qd pb) (.pointer none) (.pointer none) (Zj th no { c with kind:=1 }))]++([]++[]))),g1])⟩
theorem qd9 (hx:Qh L x gF) (hn:x.tr.length≤1000000) (th no:Int) (c:Q9):Qa prog 15 #[Qd L.fb,.int .i64 th,.int .i64 no,.agg { c with kind:=2 }.cells] [gF] (Jb L x th no { c with kind:=2 }):=by
 unfold Jb;have HS:=Vh (show ∀ kb pv,(qdc L kb pv).SV (.at none .right) .nilFunc (.func (.func 81) #[Qd kb] #[]) [] from fun kb pv=>⟨rfl,rfl,rfl⟩);have HNW:=Vh (show ∀ kb,_ from fun kb=>Cli.prog_new (Jp L kb (.pointer none)) (HS.out kb (.pointer none)));have HF1:=Vh (show Qu 2=.at none .right from by simp [Qu]);refine GO fun w HT=>?_
 have HX:=Vh hx;have HLN:=Vh hn;clear hx hn;simp only [Q9.cells];go_enter func15,ntmps15
 go_wp2_with fail
 have HT:=Vh ((HT.out.alloc (k:=w.heap.size) rfl 38 #[.int .i64 2,.int .u64 c.id,.int .u64 c.dl,.int .u64 c.per]).alloc (k:=w.heap.size+1) (by simp) 149 (Qj L.fb (.pointer none) (.pointer none) (.pointer none) (Zj th no { c with kind:=2 })));simp only [List.cons_append,List.nil_append] at HT;refine (Qa.use Q7 HT.out [] rfl rfl).mono ?_
 rintro e w1 ⟨gs,⟨rfl,rfl⟩,Ta⟩;simp only [PU] at Ta;have HT:=Vh (Ta.sum (H':=[gF,[cl w.heap.size 38 #[.int .i64 2,.int .u64 c.id,.int .u64 c.dl,.int .u64 c.per]],Qm (w.heap.size+1) L.fb (.pointer none) (.pointer none) (.pointer none) (Zj th no { c with kind:=2 }),[]]));clear Ta;go_wp2_with fail
 refine Qa.run (HNW.out _) (HT.out) [3] ?_
 rintro e w1 gs ⟨pb,rfl,rfl⟩ HT;simp only [PU] at HT;have k12:=HT.out.cell 2 0 rfl 12;have fk12:=HT.out.free 2 0 rfl 12;simp only [Qj,GE3] at k12;obtain ⟨b0,b1,b2,b3⟩:=Ce4 (HT.out.cell 1 0 rfl) 0 1 2 3;simp only [GE4] at b0 b1 b2 b3;go_wp2_with fail
 have HT:=Vh ((HT.out.set 2 0 rfl 12 (Qd pb)).eq (H':=[gF,[cl w.heap.size 38 #[.int .i64 2,.int .u64 c.id,.int .u64 c.dl,.int .u64 c.per]],Qm (w.heap.size+1) L.fb (Qd pb) (.pointer none) (.pointer none) (Zj th no { c with kind:=2 }),[],Cli.progB pb .nilFunc (.func (.func 81) #[Qd (w.heap.size+1)] #[]) 0]) rfl);go_wp2_with fail
 refine (Qa.use (X7 HX.out { ev0 with kind:=1,id:=c.id,dl:=c.dl,per:=c.per } HLN.out) (HT.out) [2,0] rfl rfl).mono ?_
 rintro e w1 ⟨gs,⟨rfl,g1,hx1,rfl⟩,Ta⟩;simp only [PU] at Ta;have HX:=Vh hx1;clear hx1 k12 fk12 b0 b1 b2 b3;have HT:=Vh Ta;clear Ta;go_wp2
 go_ret2
 exact ⟨_,⟨_,_,g1,rfl,by rw [HF1.out];exact ⟨pb,_,_,[],_,HS.out _ _,⟨_,_,[],[],⟨rfl,rfl⟩,⟨rfl,rfl⟩,rfl⟩,rfl⟩,HX.out,rfl⟩,((HT.out.pick [2,0,4] rfl).eq (H':=[[cl (w.heap.size+1) 149 (Qj L.fb (Qd pb) (.pointer none) (.pointer none) (Zj th no { c with kind:=2 }))],g1,Cli.progB pb .nilFunc (.func (.func 81) #[Qd (w.heap.size+1)] #[]) 0]) rfl).sum (H':=[Cli.progB pb .nilFunc (.func (.func 81) #[Qd (w.heap.size+1)] #[]) 0++([]++([cl (w.heap.size+1) 149 (Qj L.fb (Qd pb) (.pointer none) (.pointer none) (Zj th no { c with kind:=2 }))]++([]++[]))),g1])⟩
theorem qeh (hx:Qh L x gF) (hn:x.tr.length≤1000000) (th no:Int) (c:Q9):Qa prog 15 #[Qd L.fb,.int .i64 th,.int .i64 no,.agg { c with kind:=3 }.cells] [gF] (Jb L x th no { c with kind:=3 }):=by
 unfold Jb;have HS:=Vh (show ∀ kb pv,(qdc L kb pv).SV (.at none .enter) .nilFunc (.func (.func 82) #[Qd kb] #[]) [] from fun kb pv=>⟨rfl,rfl,rfl⟩);have HNW:=Vh (show ∀ kb,_ from fun kb=>Cli.prog_new (Jp L kb (.pointer none)) (HS.out kb (.pointer none)));have HF1:=Vh (show Qu 3=.at none .enter from by simp [Qu]);refine GO fun w HT=>?_
 have HX:=Vh hx;have HLN:=Vh hn;clear hx hn;simp only [Q9.cells];go_enter func15,ntmps15
 go_wp2_with fail
 have HT:=Vh ((HT.out.alloc (k:=w.heap.size) rfl 38 #[.int .i64 3,.int .u64 c.id,.int .u64 c.dl,.int .u64 c.per]).alloc (k:=w.heap.size+1) (by simp) 149 (Qj L.fb (.pointer none) (.pointer none) (.pointer none) (Zj th no { c with kind:=3 })));simp only [List.cons_append,List.nil_append] at HT;refine (Qa.use Q7 HT.out [] rfl rfl).mono ?_
 rintro e w1 ⟨gs,⟨rfl,rfl⟩,Ta⟩;simp only [PU] at Ta;have HT:=Vh (Ta.sum (H':=[gF,[cl w.heap.size 38 #[.int .i64 3,.int .u64 c.id,.int .u64 c.dl,.int .u64 c.per]],Qm (w.heap.size+1) L.fb (.pointer none) (.pointer none) (.pointer none) (Zj th no { c with kind:=3 }),[]]));clear Ta;go_wp2_with fail
 refine Qa.run (HNW.out _) (HT.out) [3] ?_
 rintro e w1 gs ⟨pb,rfl,rfl⟩ HT;simp only [PU] at HT;have k12:=HT.out.cell 2 0 rfl 12;have fk12:=HT.out.free 2 0 rfl 12;simp only [Qj,GE3] at k12;obtain ⟨b0,b1,b2,b3⟩:=Ce4 (HT.out.cell 1 0 rfl) 0 1 2 3;simp only [GE4] at b0 b1 b2 b3;go_wp2_with fail
 have HT:=Vh ((HT.out.set 2 0 rfl 12 (Qd pb)).eq (H':=[gF,[cl w.heap.size 38 #[.int .i64 3,.int .u64 c.id,.int .u64 c.dl,.int .u64 c.per]],Qm (w.heap.size+1) L.fb (Qd pb) (.pointer none) (.pointer none) (Zj th no { c with kind:=3 }),[],Cli.progB pb .nilFunc (.func (.func 82) #[Qd (w.heap.size+1)] #[]) 0]) rfl);go_wp2_with fail
 refine (Qa.use (X7 HX.out { ev0 with kind:=1,id:=c.id,dl:=c.dl,per:=c.per } HLN.out) (HT.out) [2,0] rfl rfl).mono ?_
 rintro e w1 ⟨gs,⟨rfl,g1,hx1,rfl⟩,Ta⟩;simp only [PU] at Ta;have HX:=Vh hx1;clear hx1 k12 fk12 b0 b1 b2 b3;have HT:=Vh Ta;clear Ta;go_wp2
 go_ret2
 exact ⟨_,⟨_,_,g1,rfl,by rw [HF1.out];exact ⟨pb,_,_,[],_,HS.out _ _,⟨_,_,[],[],⟨rfl,rfl⟩,⟨rfl,rfl⟩,rfl⟩,rfl⟩,HX.out,rfl⟩,((HT.out.pick [2,0,4] rfl).eq (H':=[[cl (w.heap.size+1) 149 (Qj L.fb (Qd pb) (.pointer none) (.pointer none) (Zj th no { c with kind:=3 }))],g1,Cli.progB pb .nilFunc (.func (.func 82) #[Qd (w.heap.size+1)] #[]) 0]) rfl).sum (H':=[Cli.progB pb .nilFunc (.func (.func 82) #[Qd (w.heap.size+1)] #[]) 0++([]++([cl (w.heap.size+1) 149 (Qj L.fb (Qd pb) (.pointer none) (.pointer none) (Zj th no { c with kind:=3 }))]++([]++[]))),g1])⟩
theorem qed (hx:Qh L x gF) (hn:x.tr.length≤1000000) (th no:Int) (c:Q9):Qa prog 15 #[Qd L.fb,.int .i64 th,.int .i64 no,.agg { c with kind:=4 }.cells] [gF] (Jb L x th no { c with kind:=4 }):=by
 unfold Jb;have HS:=Vh (show ∀ kb pv,(qdc L kb pv).SV (.at none .gate) .nilFunc (.func (.func 83) #[Qd kb] #[]) [] from fun kb pv=>⟨rfl,rfl,rfl⟩);have HNW:=Vh (show ∀ kb,_ from fun kb=>Cli.prog_new (Jp L kb (.pointer none)) (HS.out kb (.pointer none)));have HF1:=Vh (show Qu 4=.at none .gate from by simp [Qu]);refine GO fun w HT=>?_
 have HX:=Vh hx;have HLN:=Vh hn;clear hx hn;simp only [Q9.cells];go_enter func15,ntmps15
 go_wp2_with fail
 have HT:=Vh ((HT.out.alloc (k:=w.heap.size) rfl 38 #[.int .i64 4,.int .u64 c.id,.int .u64 c.dl,.int .u64 c.per]).alloc (k:=w.heap.size+1) (by simp) 149 (Qj L.fb (.pointer none) (.pointer none) (.pointer none) (Zj th no { c with kind:=4 })));simp only [List.cons_append,List.nil_append] at HT;refine (Qa.use Q7 HT.out [] rfl rfl).mono ?_
 rintro e w1 ⟨gs,⟨rfl,rfl⟩,Ta⟩;simp only [PU] at Ta;have HT:=Vh (Ta.sum (H':=[gF,[cl w.heap.size 38 #[.int .i64 4,.int .u64 c.id,.int .u64 c.dl,.int .u64 c.per]],Qm (w.heap.size+1) L.fb (.pointer none) (.pointer none) (.pointer none) (Zj th no { c with kind:=4 }),[]]));clear Ta;go_wp2_with fail
 refine Qa.run (HNW.out _) (HT.out) [3] ?_
 rintro e w1 gs ⟨pb,rfl,rfl⟩ HT;simp only [PU] at HT;have k12:=HT.out.cell 2 0 rfl 12;have fk12:=HT.out.free 2 0 rfl 12;simp only [Qj,GE3] at k12;obtain ⟨b0,b1,b2,b3⟩:=Ce4 (HT.out.cell 1 0 rfl) 0 1 2 3;simp only [GE4] at b0 b1 b2 b3;go_wp2_with fail
 have HT:=Vh ((HT.out.set 2 0 rfl 12 (Qd pb)).eq (H':=[gF,[cl w.heap.size 38 #[.int .i64 4,.int .u64 c.id,.int .u64 c.dl,.int .u64 c.per]],Qm (w.heap.size+1) L.fb (Qd pb) (.pointer none) (.pointer none) (Zj th no { c with kind:=4 }),[],Cli.progB pb .nilFunc (.func (.func 83) #[Qd (w.heap.size+1)] #[]) 0]) rfl);go_wp2_with fail
 refine (Qa.use (X7 HX.out { ev0 with kind:=1,id:=c.id,dl:=c.dl,per:=c.per } HLN.out) (HT.out) [2,0] rfl rfl).mono ?_
 rintro e w1 ⟨gs,⟨rfl,g1,hx1,rfl⟩,Ta⟩;simp only [PU] at Ta;have HX:=Vh hx1;clear hx1 k12 fk12 b0 b1 b2 b3;have HT:=Vh Ta;clear Ta;go_wp2
 go_ret2
 exact ⟨_,⟨_,_,g1,rfl,by rw [HF1.out];exact ⟨pb,_,_,[],_,HS.out _ _,⟨_,_,[],[],⟨rfl,rfl⟩,⟨rfl,rfl⟩,rfl⟩,rfl⟩,HX.out,rfl⟩,((HT.out.pick [2,0,4] rfl).eq (H':=[[cl (w.heap.size+1) 149 (Qj L.fb (Qd pb) (.pointer none) (.pointer none) (Zj th no { c with kind:=4 }))],g1,Cli.progB pb .nilFunc (.func (.func 83) #[Qd (w.heap.size+1)] #[]) 0]) rfl).sum (H':=[Cli.progB pb .nilFunc (.func (.func 83) #[Qd (w.heap.size+1)] #[]) 0++([]++([cl (w.heap.size+1) 149 (Qj L.fb (Qd pb) (.pointer none) (.pointer none) (Zj th no { c with kind:=4 }))]++([]++[]))),g1])⟩
theorem qdx (hx:Qh L x gF) (hn:x.tr.length≤1000000) (th no:Int) (c:Q9):Qa prog 15 #[Qd L.fb,.int .i64 th,.int .i64 no,.agg { c with kind:=5 }.cells] [gF] (Jb L x th no { c with kind:=5 }):=by
 unfold Jb;have HS:=Vh (show ∀ kb pv,(qdc L kb pv).SV (.at none .gate) .nilFunc (.func (.func 83) #[Qd kb] #[]) [] from fun kb pv=>⟨rfl,rfl,rfl⟩);have HNW:=Vh (show ∀ kb,_ from fun kb=>Cli.prog_new (Jp L kb (.pointer none)) (HS.out kb (.pointer none)));have HF1:=Vh (show Qu 5=.at none .gate from by simp [Qu]);refine GO fun w HT=>?_
 have HX:=Vh hx;have HLN:=Vh hn;clear hx hn;simp only [Q9.cells];go_enter func15,ntmps15
 go_wp2_with fail
 have HT:=Vh ((HT.out.alloc (k:=w.heap.size) rfl 38 #[.int .i64 5,.int .u64 c.id,.int .u64 c.dl,.int .u64 c.per]).alloc (k:=w.heap.size+1) (by simp) 149 (Qj L.fb (.pointer none) (.pointer none) (.pointer none) (Zj th no { c with kind:=5 })));simp only [List.cons_append,List.nil_append] at HT;refine (Qa.use Q7 HT.out [] rfl rfl).mono ?_
 rintro e w1 ⟨gs,⟨rfl,rfl⟩,Ta⟩;simp only [PU] at Ta;have HT:=Vh (Ta.sum (H':=[gF,[cl w.heap.size 38 #[.int .i64 5,.int .u64 c.id,.int .u64 c.dl,.int .u64 c.per]],Qm (w.heap.size+1) L.fb (.pointer none) (.pointer none) (.pointer none) (Zj th no { c with kind:=5 }),[]]));clear Ta;go_wp2_with fail
 refine Qa.run (HNW.out _) (HT.out) [3] ?_
 rintro e w1 gs ⟨pb,rfl,rfl⟩ HT;simp only [PU] at HT;have k12:=HT.out.cell 2 0 rfl 12;have fk12:=HT.out.free 2 0 rfl 12;simp only [Qj,GE3] at k12;obtain ⟨b0,b1,b2,b3⟩:=Ce4 (HT.out.cell 1 0 rfl) 0 1 2 3;simp only [GE4] at b0 b1 b2 b3;go_wp2_with fail
 have HT:=Vh ((HT.out.set 2 0 rfl 12 (Qd pb)).eq (H':=[gF,[cl w.heap.size 38 #[.int .i64 5,.int .u64 c.id,.int .u64 c.dl,.int .u64 c.per]],Qm (w.heap.size+1) L.fb (Qd pb) (.pointer none) (.pointer none) (Zj th no { c with kind:=5 }),[],Cli.progB pb .nilFunc (.func (.func 83) #[Qd (w.heap.size+1)] #[]) 0]) rfl);go_wp2_with fail
 refine (Qa.use (X7 HX.out { ev0 with kind:=1,id:=c.id,dl:=c.dl,per:=c.per } HLN.out) (HT.out) [2,0] rfl rfl).mono ?_
 rintro e w1 ⟨gs,⟨rfl,g1,hx1,rfl⟩,Ta⟩;simp only [PU] at Ta;have HX:=Vh hx1;clear hx1 k12 fk12 b0 b1 b2 b3;have HT:=Vh Ta;clear Ta;go_wp2
 go_ret2
 exact ⟨_,⟨_,_,g1,rfl,by rw [HF1.out];exact ⟨pb,_,_,[],_,HS.out _ _,⟨_,_,[],[],⟨rfl,rfl⟩,⟨rfl,rfl⟩,rfl⟩,rfl⟩,HX.out,rfl⟩,((HT.out.pick [2,0,4] rfl).eq (H':=[[cl (w.heap.size+1) 149 (Qj L.fb (Qd pb) (.pointer none) (.pointer none) (Zj th no { c with kind:=5 }))],g1,Cli.progB pb .nilFunc (.func (.func 83) #[Qd (w.heap.size+1)] #[]) 0]) rfl).sum (H':=[Cli.progB pb .nilFunc (.func (.func 83) #[Qd (w.heap.size+1)] #[]) 0++([]++([cl (w.heap.size+1) 149 (Qj L.fb (Qd pb) (.pointer none) (.pointer none) (Zj th no { c with kind:=5 }))]++([]++[]))),g1])⟩
theorem qcf (hx:Qh L x gF) (hn:x.tr.length≤1000000) (th no:Int) (c:Q9) (h1:1≤c.kind) (h5:c.kind≤5):Qa prog 15 #[Qd L.fb,.int .i64 th,.int .i64 no,.agg c.cells] [gF] (Jb L x th no c):=by
 obtain ⟨kd,id,dl,per⟩:=c;simp only at h1 h5;have h:kd=1∨kd=2∨kd=3∨kd=4∨kd=5:=by omega
 rcases h with rfl | rfl | rfl | rfl | rfl
 ·exact qdz hx hn th no ⟨1,id,dl,per⟩
 ·exact qd9 hx hn th no ⟨2,id,dl,per⟩
 ·exact qeh hx hn th no ⟨3,id,dl,per⟩
 ·exact qed hx hn th no ⟨4,id,dl,per⟩
 ·exact qdx hx hn th no ⟨5,id,dl,per⟩
theorem qb6 (hx:Qh L x gF) (th no:Int) (c:Q9) (h:c.kind<1∨5<c.kind):Qa prog 15 #[Qd L.fb,.int .i64 th,.int .i64 no,.agg c.cells] [gF] fun e gs=>e=.returned (.tuple #[.pointer none,.int .i64 1])∧gs=[gF]:=by
 refine GO fun w HT=>?_
 have b1:(c.kind == 1)=false:=beq_eq_false_iff_ne.2 (by omega);have b2:(c.kind == 2)=false:=beq_eq_false_iff_ne.2 (by omega);have b3:(c.kind == 3)=false:=beq_eq_false_iff_ne.2 (by omega);have b4:(c.kind == 4)=false:=beq_eq_false_iff_ne.2 (by omega);have b5:(c.kind == 5)=false:=beq_eq_false_iff_ne.2 (by omega);clear h hx;simp only [Q9.cells];go_enter func15,ntmps15
 go_wp2
 go_ret2
 exact ⟨_,⟨rfl,rfl⟩,(HT.out.alloc0 _).alloc0 _⟩
end
theorem qf2 {b:Nat} {s:Qy} {g:List Blk} (h:qbz b s g):∃ q:ShP,q.b=b∧qkd q s g:=by
 obtain ⟨rb,lb,wb,gr,gl,h1,h2,rfl⟩:=h;exact ⟨⟨b,rb,lb,wb⟩,rfl,gr,gl,h1,h2,by simp [X4]⟩
theorem qer:∀ {l:List (Nat × Qy)} {g:List Blk},qcg (fun (x:Nat × Qy)=>qbz x.1 x.2) l g→∃ qs:List ShP,qs.map ShP.b=l.map Prod.fst∧qcg (fun (z:ShP × Qy)=>qkd z.1 z.2) (qs.zip (l.map Prod.snd)) g
 | [],_,h=>⟨[],rfl,h⟩
 | a::l,_,h=>by
   obtain ⟨u,v,hu,hv,rfl⟩:=h;obtain ⟨q,hq,hs⟩:=qf2 hu;obtain ⟨qs,h1,h2⟩:=qer hv;exact ⟨q::qs,by simp [hq,h1],u,v,hs,h2,rfl⟩
def qfr (c:Cfg):Qk:=⟨⟨c,false,0,0,0⟩,Xa c.cap.toNat,[],List.replicate c.sh.toNat (Xd c.ring.toNat)⟩
theorem qg2 (c:Cfg) (hk:c.ok=true):Qa prog 13 #[.agg c.cells] [] fun e gs =>
 ∃ L gF gP gL,e=.returned (.tuple #[Qd L.fb,.int .i64 0])∧Qh L (qfr c) gF∧q8 L.p.pb gP∧gL=[cl L.p.lb 232 #[.slice none 0 0]]∧gs=[gF,gP,gL]:=by
 refine (qge c hk).post ?_
 rintro e gs ⟨fb,p,shs,gF,gS,gR,gH,gP,gL,he,ha,hlen,hall,rfl⟩;obtain ⟨qs,h1,h2⟩:=qer ha.shards
 have hsn:shs.map Prod.snd=List.replicate c.sh.toNat (Xd c.ring.toNat):=by
  rw [List.eq_replicate_iff];refine ⟨by simp;omega,fun b hb=>?_⟩
  obtain ⟨a,ha',rfl⟩:=List.mem_map.1 hb;exact hall a ha'
 refine ⟨[gF++(gS++(gR++(gH++[]))),gP,gL],⟨⟨fb,p,qs⟩,_,gP,gL,he,⟨_,gF,gS,gR,gH,[],ha.floor,ha.slab,?_,?_,?_,qku,rfl⟩,ha.pipe,ha.log,rfl⟩,by simp⟩
 ·show J5 _ 1 p.sh (qs.map ShP.b).length ((qs.map ShP.b).map fun b=>Qd b) gR
  rw [h1];exact ha.row'
 ·have:=congrArg List.length h1
  have:=congrArg List.length hsn;simp only [List.length_map] at *
  show qs.length=(List.replicate _ _).length
  omega
 ·show qcg _ (qs.zip (List.replicate _ _)) gH
  rw [← hsn];exact h2
def Runs (n:Nat) (s:SC) (z:ZC):Prop:=(∀ j,j<n→(itC j s z).1.isNil=false)∧(itC n s z).1.isNil=true
theorem qfa:∀ (j:Nat) (s:SC) (z:ZC),itC (j+1) s z=Xn (itC j s z).1 (itC j s z).2
 | 0,_,_=>rfl
 | j+1,s,z=>by rw [itC,qfa j];rfl
section
variable {L:Lay} {x:Qk} {gF:List Blk}
theorem qlu (hx:Qh L x gF) (c:Q9) (h1:1≤c.kind) (h5:c.kind≤5) (n N:Nat) (s0:SC) (z0:ZC) (hs0:s0=Qu c.kind) (hz0:z0=(Zj 0 1 c,Yj (Zj 0 1 c) { ev0 with kind:=1,id:=c.id,dl:=c.dl,per:=c.per } x))
 (hJ:JC N s0 z0) (hN:N+n<1000000) (hn:n≤499) (hr:Runs n s0 z0) :
 Qa prog 73 #[Qd L.fb,.agg c.cells] [gF] fun e gs =>
  e=.returned (.tuple #[.agg (qfq (itC n s0 z0).2.1.err (itC n s0 z0).2.1.ok (itC n s0 z0).2.1.aid (itC n s0 z0).2.1.agen),.int .i64 n,.bool true])∧∃ gF',Qh L (itC n s0 z0).2.2 gF'∧gs=[gF']:=by
 have hb:=qcf hx (by have:=hJ.core.tr;rw [hz0] at this;simp only [Yj] at this;rw [List.length_append] at this;simp at this;omega) 0 1 c h1 h5;unfold Jb at hb;rw [← hs0] at hb;have HB:=Vh hb;have HJ:=Vh hJ;have HRN:=Vh hr;have HZ:=Vh hz0;refine GO fun w HT=>?_
 clear hx hJ hr hz0 hs0 h1 h5 hb;simp only [Q9.cells] at HB ⊢;go_enter func73,ntmps73
 go_wp2_with fail
 have HT:=Vh ((HT.out.alloc (k:=w.heap.size) rfl 38 #[.int .i64 c.kind,.int .u64 c.id,.int .u64 c.dl,.int .u64 c.per]).alloc (k:=w.heap.size+1) (by simp) 51 #[.int .i64 0,.bool false,.int .u64 0,.int .u64 0,.slice none 0 0]);go_wp2_with fail
 refine Qa.run (HB.out) (HT.out) [0] ?_
 rintro e w1 gs ⟨kb,g,gF1,rfl,hc,hx1,rfl⟩ HT;simp only [PU] at HT;have HT:=Vh (HT.out.pick [3,2,0] rfl);go_wp2
 have T1:=HT.out;have HC:=Vh hc;have HX1:=Vh hx1;clear hc hx1
 go_loopw [9] (fun i wr=>∃ j:Nat,j≤n∧i=.int .i64 j∧∃ g gF2,Ya L kb (itC j s0 z0).1 j (itC j s0 z0).2.1 g∧Qh L (itC j s0 z0).2.2 gF2∧TG [gF] w [gF2,[cl (w.heap.size+1) 51 #[.int .i64 0,.bool false,.int .u64 0,.int .u64 0,.slice none 0 0]],g] wr) (fun i _=>500 - (intOf i).toNat)
 case atStart=>exact ⟨0,Nat.zero_le _,rfl,g,gF1,by rw [HZ.out];exact HC.out,by rw [HZ.out];exact HX1.out,T1⟩
 case round =>
  obtain ⟨j,hj,rfl,g2,gF2,hc2,hx2,T2⟩:=hrel;have HC2:=Vh hc2;have HX2:=Vh hx2;have HT:=Vh T2;have hjb:j≤499:=by omega
  clear T1 T2 hc2 hx2;by_cases hlt:j<n
  ·have hni:=HRN.out.1 j hlt
   have hpre:=(HJ.out.it (N:=N) j).pre (by omega);have hst:=qek HC2.out HX2.out hpre hni ⟨by omega,by omega⟩;rw [← qfa] at hst;have HST:=Vh hst;clear hst hpre hni;go_wp2_with fail
   refine (Qa.use HST.out HT.out [2,0] rfl rfl).mono ?_
   rintro e w4 ⟨gs,⟨g3,gF3,rfl,hc3,hx3,rfl⟩,Ta⟩;simp only [PU] at Ta;have HC3:=Vh hc3;have HX3:=Vh hx3;have HT:=Vh Ta;clear Ta hc3 hx3;go_wp2
   first
   | (go_roundw
      case rel=>exact ⟨j+1,by omega,by go_num,g3,gF3,by have:=HC3.out;rwa [show ((j:Int)+1)=((j+1:Nat):Int) by omega] at this,HX3.out,HT.out⟩
      case measure=>simp [intOf];omega)
   | exact ⟨⟨j+1,by omega,by go_num,g3,gF3,by have:=HC3.out;rwa [show ((j:Int)+1)=((j+1:Nat):Int) by omega] at this,HX3.out,HT.out⟩,by simp [intOf];omega⟩
   | ((repeat apply Exists.intro);exact ⟨⟨⟨j+1,by omega,by go_num,g3,gF3,by have:=HC3.out;rwa [show ((j:Int)+1)=((j+1:Nat):Int) by omega] at this,HX3.out,HT.out⟩,rfl⟩,by simp [intOf];omega⟩)
  ·have hjn:j=n:=by omega
   subst hjn;have hnil:=HRN.out.2
   have hs:(itC j s0 z0).1=.nil:=by
    revert hnil
    cases (itC j s0 z0).1 <;> intro h <;> first | rfl | cases h
   have hc4:=HC2.out;rw [hs] at hc4;have hst:=qh hc4 HX2.out;have HST:=Vh hst;clear hst hnil hs hc4;go_wp2_with fail
   refine (Qa.use HST.out HT.out [2,0] rfl rfl).mono ?_
   rintro e w4 ⟨gs,⟨rfl,g3,gF3,hc3,hx3,rfl⟩,Ta⟩;simp only [PU] at Ta;have HD:=Vh (show Qi prog 89 #[Qd kb] [g3] (.bool true) from qeo hc3);have hA:=qaz hc3 rfl;obtain ⟨k2,hk2⟩:∃ k2,(itC j s0 z0).2.1=k2:=⟨_,rfl⟩;rw [hk2] at hA;have HA:=Vh hA;have HK:=Vh hk2;clear hA hk2;have HX3:=Vh hx3;have HT:=Vh Ta;clear Ta hc3 hx3;go_wp2_with fail
   refine Qa.run (HA.out) (HT.out) [2] ?_
   rintro e w1 gs ⟨rfl,rfl⟩ HT;simp only [PU] at HT;obtain ⟨e0,e1,e2,e3,e4⟩:=Ce5 (HT.out.cell 1 0 rfl) 0 1 2 3 4;obtain ⟨fe0,fe1,fe2,fe3,fe4⟩:=Ce5 (HT.out.free 1 0 rfl) 0 1 2 3 4;simp only [GE4] at e0 e1 e2 e3 e4;have lte:=HT.out.lt 1 0 rfl;simp only [] at lte;simp only [qfq];go_wp2_with fail
   have HT:=Vh (HT.out.alloc (k:=w1.heap.size) rfl 51 (qfq k2.err k2.ok k2.aid k2.agen));simp only [List.cons_append,List.nil_append,qfq] at HT;generalize World.alloc _ _=w5 at HT ⊢;clear e0 e1 e2 e3 e4 fe0 fe1 fe2 fe3 fe4;obtain ⟨e0,e1,e2,e3,e4⟩:=Ce5 (HT.out.cell 1 0 rfl) 0 1 2 3 4;obtain ⟨fe0,fe1,fe2,fe3,fe4⟩:=Ce5 (HT.out.free 1 0 rfl) 0 1 2 3 4;simp only [GE4] at e0 e1 e2 e3 e4;obtain ⟨a0,a1,a2,a3,a4⟩:=Ce5 (HT.out.cell 3 0 rfl) 0 1 2 3 4;simp only [GE4] at a0 a1 a2 a3 a4;refine Qc 12 (by kernel_rfl) (by kernel_rfl) ?_
   simp only [TD4]
   repeat (go_big_quiet_step ((first | (go_at_call 89;with_reducible exact Qi.quiet (HD.out) HT.out _ [2] rfl rfl))))
   refine wpQuiet_nil (QE fun nq=>?_)
   have HT:=Vh (HT.out.drewN nq);go_wp2_with fail
   refine ⟨rfl,?_⟩
   go_wp2
   exact bodyPost_ret (v:=.tuple #[.agg (qfq k2.err k2.ok k2.aid k2.agen),.int .i64 j,.bool true]) (by simp [results,results73,go_sem,e0,e1,e2,e3,e4,qfq]) rfl ⟨_,⟨by rw [HK.out],gF3,HX3.out,rfl⟩,((((((HT.out.set 1 0 rfl 0 _).set 1 0 rfl 1 _).set 1 0 rfl 2 _).set 1 0 rfl 3 _).set 1 0 rfl 4 _).pick [0] rfl)⟩
end
structure qgv where
 id:Int
 gen:Int
 dl:Int
 tick:Int
structure qj9 where
 room:Nat
 ch:List qgv
 sp:List qgv
 most:Int
 shut:Bool
def qk2 (n:Nat):qj9:=⟨n,[],[],0,false⟩
section
variable {q:ShP} {s:Qy} {g:List Blk}
theorem qf8 (hg:qkd q s g) (hr:Yp s.ring):Qa prog 18 #[Qd q.b] [g] fun e gs =>
 e=.returned (.tuple #[.agg (J0 s.ring).2.1.cells,.int .i64 (J0 s.ring).2.2])∧∃ g',qkd q { s with ring:=(J0 s.ring).1 } g'∧gs=[g']:=by
 obtain ⟨gr,gl,h1,h2,rfl⟩:=hg;have hp:=qic h1 hr;generalize J0 s.ring=p at *;refine GO fun w HT=>?_
 have HT:=Vh (HT.out.sum (H':=[X4 q.b q.rb q.lb q.wb,gr,gl]));have HP:=Vh hp;have HL:=Vh h2;clear h1 h2 hp hr;go_enter func18,ntmps18
 go_wp2_with fail
 refine Qa.run (qj q.b q.rb q.lb q.wb) (HT.out.alloc (k:=w.heap.size) rfl 40 Qn.zero.cells) [0] ?_
 rintro e w1 gs ⟨rfl,rfl⟩ HT;simp only [PU] at HT;have hf:=fun w=>(zn (Qd q.rb) (Qd q.lb) (Qd q.wb) w).1
 go_wp2_with fail
 refine (Qa.use (HP.out) (HT.out) [1] rfl rfl).mono ?_
 rintro e w1 ⟨gs,⟨rfl,g1,hg1,rfl⟩,Ta⟩;simp only [PU] at Ta;have HG:=Vh hg1;clear hg1;have HT:=Vh Ta;clear Ta;obtain ⟨a0,a1,a2,a3,a4⟩:=Ce5 (HT.out.cell 3 0 rfl) 0 1 2 3 4;obtain ⟨fa0,fa1,fa2,fa3,fa4⟩:=Ce5 (HT.out.free 3 0 rfl) 0 1 2 3 4;simp only [Qn.cells,Qn.zero,GE3] at a0 a1 a2 a3 a4;simp only [Qn.cells];go_wp2
 exact bodyPost_ret (v:=.tuple #[.agg p.2.1.cells,.int .i64 p.2.2]) (by simp [results,results18,go_sem,a0,a1,a2,a3,a4,Qn.cells]) rfl ⟨_,⟨rfl,_,⟨g1,gl,HG.out,HL.out,rfl⟩,rfl⟩,((((((HT.out.set 3 0 rfl 0 _).set 3 0 rfl 1 _).set 3 0 rfl 2 _).set 3 0 rfl 3 _).set 3 0 rfl 4 _).pick [0,1,2] rfl).sum⟩
end
section
variable {L:Lay} {x:Qk} {g:List Blk}
theorem qh9 {F:Nat} {args:Array Value} {i:Nat} {q:ShP} {s s':Qy} {v:Value} (hx:Qh L x g) (hq:L.qs[i]?=some q) (hs:x.shs[i]?=some s)
 (hd:∀ g,qkd q s g→Qa prog F args [g] fun e gs=>e=.returned v∧∃ g',qkd q s' g'∧gs=[g']) :
 Qa prog F args [g] fun e gs=>e=.returned v∧∃ g',Qh L { x with shs:=x.shs.set i s' } g'∧gs=[g']:=by
 obtain ⟨tr,gF,gS,gR,gH,gT,h1,h2,h3,h4,h5,h6,rfl⟩:=hx;have hz:(L.qs.zip x.shs)[i]?=some (q,s):=qex hq hs;obtain ⟨u,y,hu,hp,hback⟩:=h5.out hz;intro w hw;have T:=(((TG.refl hw).sum (H':=[gF++(gS++(gR++gT)),gH])).permAt 1 rfl hp).sum (H':=[gF++(gS++(gR++gT)),u,y]);refine (Qa.use (hd u hu) T [1] rfl rfl).mono ?_
 rintro e w' ⟨gs,⟨he,g1,hn1,rfl⟩,T'⟩;obtain ⟨gH',hf,hp'⟩:=hback (q,s') g1 hn1;rw [qbh i hq] at hf;refine ⟨_,⟨he,_,⟨tr,gF,gS,gR,gH',gT,h1,h2,h3,by simpa using h4,hf,h6,rfl⟩,rfl⟩,?_⟩
 exact ((TG.sum (H:=[gF++(gS++(gR++gT)),g1,y]) (H':=[gF++(gS++(gR++gT)),g1++y]) T').permAt 1 rfl hp').sum
theorem qkx (hx:Qh L x g) {i:Nat} {q:ShP} {s:Qy} (hq:L.qs[i]?=some q) (hs:x.shs[i]?=some s) (hr:Yp s.ring):Qa prog 18 #[Qd q.b] [g] fun e gs =>
 e=.returned (.tuple #[.agg (J0 s.ring).2.1.cells,.int .i64 (J0 s.ring).2.2])∧∃ g',Qh L { x with shs:=x.shs.set i { s with ring:=(J0 s.ring).1 } } g'∧gs=[g'] :=
 qh9 hx hq hs fun g hg=>qf8 hg hr
theorem qbf (hx:Qh L x g) (i:Int):Qi prog 17 #[Qd L.fb,.int .i64 i] [g] (Yo (L.qs.map ShP.b) i):=by
 obtain ⟨tr,gF,gS,gR,gH,gT,h1,h2,h3,h4,h5,h6,rfl⟩:=hx;intro w hw;have T:=(TG.refl hw).sum (H':=[gF,gS,gR,gH,gT]);exact (ql h1 h3 i).use T [0,2] rfl rfl
end
theorem qlm {L:Lay} {x:Qk} {g:List Blk} (hx:Qh L x g) {i:Nat} (hi:i<x.shs.length):∃ q,L.qs[i]?=some q∧Yo (L.qs.map ShP.b) i=Qd q.b:=by
 obtain ⟨tr,gF,gS,gR,gH,gT,h1,h2,h3,h4,h5,h6,rfl⟩:=hx;have hl:i<L.qs.length:=by omega
 refine ⟨L.qs[i],List.getElem?_eq_getElem hl,?_⟩
 unfold Yo;rw [if_pos (by simp;omega)];simp [hl]
structure qlz where
 th:Int
 no:Int
 err:Int
 ok:Bool
 aset:Bool
 left:List Int
 saw:Int
inductive MS where
 | shuts | slots0 | slots2 (i:Int) | waits | looks1 (i:Int) | leaves0 (i:Int) | waits2
inductive AS where
 | ends1 | pshut | release (i:Int) | drop
inductive YS where
 | inside | idle
abbrev SS:Type:=St MS AS YS
def Y2 (room ring:Int):Cfg:=⟨2,room,ring,4,1,8⟩
theorem qg1 (room ring:Int):Qa prog 14 #[.int .i64 room,.int .i64 ring] [] fun e gs=>e=.returned (.agg (Y2 room ring).cells)∧gs=[]:=by
 refine GO fun w HT=>?_
 go_enter func14,ntmps14
 go_wp2
 exact bodyPost_ret (v:=.agg (Y2 room ring).cells) (by simp [results,results14,go_sem,Y2,Cfg.cells]) rfl ⟨_,⟨rfl,rfl⟩,HT.out.alloc0 _⟩
theorem qio {n:Nat} (h1:1≤n) (h2:n≤64):J4 0 (X5 n):=by
 refine ⟨?_,?_,Int.le_refl 0,Int.le_refl 0,Int.le_refl 0,Int.le_refl 0⟩ <;> simp [X5] <;> omega
theorem qho {c:Cfg} (h:c.ok=true):Xo 0 (qfr c):=by
 obtain ⟨h1,h2,h3,_⟩:=Cfg.bd h;refine ⟨qfp (by omega) (by omega),by show (0:Int)≤0;omega,by show (0:Int)≤0;omega,by show ([]:List EvS).length≤0;simp,?_,?_⟩
 ·show 1≤(List.replicate _ _).length
  rw [List.length_replicate];omega
 ·intro s hs
  obtain ⟨_,rfl⟩:=List.mem_replicate.1 hs;exact qio (by omega) (by omega)
structure Q9.wf (c:Q9):Prop where
 id:0≤c.id∧c.id<18446744073709551616
 dl:0≤c.dl∧c.dl<18446744073709551616
 per:0≤c.per∧c.per<18446744073709551616
theorem ql2 {N:Nat} {c:Q9} (h:c.wf) (th no:Int) (x:Qk):Xk N (Zj th no c) x :=
 ⟨h.dl,h.per,h.id,by show (0:Int)≤0;omega,⟨by show (0:Int)≤0;omega,by show (0:Int) < _;omega,by show okW 0=true;decide⟩,fun q hq=>(by cases hq),fun i t ht=>(by cases ht)⟩
theorem qg7 (kd:Int) (k:Ql):qgp (Qu kd) k:=by
 unfold Qu;split
 ·trivial
 ·split <;> trivial
theorem JC.first {N:Nat} {x:Qk} (hc:Xo N x) {c:Q9} (h:c.wf) (th no:Int) :
 JC (N+1) (Qu c.kind) (Zj th no c,Yj (Zj th no c) { ev0 with kind:=1,id:=c.id,dl:=c.dl,per:=c.per } x) :=
 ⟨Zg hc _,ql2 h th no _,qg7 _ _⟩
def qmb:Cfg:=⟨1,1,1,1,1,1⟩
def qei:Q9:=⟨1,0,5,0⟩
def z5:ZC:=(Zj 0 1 qei,Yj (Zj 0 1 qei) { ev0 with kind:=1,id:=qei.id,dl:=qei.dl,per:=qei.per } (qfr qmb))
theorem qmf:Runs 13 (Qu 1) z5:=by
 refine ⟨fun j hj=>?_,by decide⟩
 have:j=0∨j=1∨j=2∨j=3∨j=4∨j=5∨j=6∨j=7∨j=8∨j=9∨j=10∨j=11∨j=12:=by omega
 rcases this with rfl | rfl | rfl | rfl | rfl | rfl | rfl | rfl | rfl | rfl | rfl | rfl | rfl <;> decide
theorem qmd:(itC 13 (Qu 1) z5).2.1.ok=true∧(itC 13 (Qu 1) z5).2.1.aid=64∧(itC 13 (Qu 1) z5).2.1.agen=1∧(itC 13 (Qu 1) z5).2.1.err=0:=by decide
theorem qjd:qei.wf:=⟨⟨by decide,by decide⟩,⟨by decide,by decide⟩,⟨by decide,by decide⟩⟩
theorem qgs:qmb.ok=true:=by decide
theorem qab:Qa prog 12 #[] [] fun e gs=>e=.returned (.bool true)∧gs=[]:=by
 have hrun:∀ (L:Lay) (gF:List Blk),Qh L (qfr qmb) gF→Qa prog 73 #[Qd L.fb,.agg #[.int .i64 1,.int .u64 0,.int .u64 5,.int .u64 0]] [gF] fun e gs =>
  e=.returned (.tuple #[.agg #[.int .i64 0,.bool true,.int .u64 64,.int .u64 1,.slice none 0 0],.int .i64 13,.bool true])∧∃ gF',Qh L (itC 13 (Qu 1) z5).2.2 gF'∧gs=[gF']:=by
  intro L gF hx;have h:=qlu hx qei (by decide) (by decide) 13 1 (Qu 1) z5 rfl rfl (JC.first (qho qgs) qjd 0 1) (by decide) (by decide) qmf;rw [qmd.1,qmd.2.1,qmd.2.2.1,qmd.2.2.2] at h;exact h
 have HR:=Vh hrun;have HN:=Vh (qg2 qmb qgs);clear hrun;refine GO fun w HT=>?_
 go_enter func12,ntmps12
 go_wp2_with fail
 refine (Qa.use (HN.out) (HT.out) [] rfl rfl).mono ?_
 rintro e w1 ⟨gs,⟨L,gF,gP,gL,rfl,hx,hp,rfl,rfl⟩,Ta⟩;simp only [PU] at Ta;have HX:=Vh hx;clear hx hp;have HT:=Vh Ta;clear Ta;go_wp2_with fail
 refine (Qa.use (HR.out _ _ HX.out) (HT.out) [0] rfl rfl).mono ?_
 rintro e w1 ⟨gs,⟨rfl,gF',hx',rfl⟩,Ta⟩;simp only [PU] at Ta;clear hx';have HT:=Vh Ta;clear Ta;go_wp2
 go_ret
 exact ⟨[],⟨rfl,rfl⟩,(HT.out.alloc0 _).pick [] rfl⟩
end
section
end
section
open Go.RowKit Go.Shelf
theorem qct {room ring:Int} (h1:1≤room) (h2:room≤64) (h3:1≤ring) (h4:ring≤64):(Y2 room ring).ok=true:=by
 simp [Y2,Cfg.ok,Cfg.fine,Cfg.pair];omega
end
section
end
section
open Go.RowKit Go.Shelf
def Q9.zero:Q9:=⟨0,0,0,0⟩
def qbq (w:World) (a:Option Addr) (zs:List Q9):Prop :=
 zs=[]∨∃ b off,a=some ⟨b,off,none⟩∧b<w.heap.size∧∀ i j,i<zs.length→j<4→w.cell? ⟨b,off+(i*4+j),none⟩=(zs.getD i Q9.zero).cells[j]?
theorem qbq.cells {w:World} {a:Option Addr} {zs:List Q9} (h:qbq w a zs) {k:Nat} (hk:k<zs.length) {H:GH} {w':World} (T:TG [] w H w') :
 ∃ b off,a=some ⟨b,off,none⟩∧b<w.heap.size∧∃ z,zs.getD k Q9.zero=z∧z∈zs ∧
 w'.cell? ⟨b,off+k*4,none⟩=some (.int .i64 z.kind)∧w'.cell? ⟨b,off+k*4+1,none⟩=some (.int .u64 z.id)∧w'.cell? ⟨b,off+k*4+2,none⟩=some (.int .u64 z.dl)∧w'.cell? ⟨b,off+k*4+3,none⟩=some (.int .u64 z.per):=by
 rcases h with rfl | ⟨b,off,h1,h2,h3⟩
 ·simp at hk
 ·have hh:=fun j (hj:j<4)=>(T.old (p:=⟨b,off+(k*4+j),none⟩) h2).trans (h3 k j hk hj)
  simp only [← Nat.add_assoc] at hh;exact ⟨b,off,h1,h2,zs.getD k Q9.zero,rfl,by rw [List.getD_eq_getElem?_getD,List.getElem?_eq_getElem hk];exact List.getElem_mem hk,hh 0 (by omega),hh 1 (by omega),hh 2 (by omega),hh 3 (by omega)⟩
end
end Go.Proofs.YtcneeepdclgdcaaGreat
