import Derived.Test.YtikpbibeagbccaaGreatGV23
import Derived.Test.YtikpbibeagbccaaGreatGV14
import Derived.Test.YtikpbibeagbccaaGreatGV22
import Derived.Test.YtikpbibeagbccaaGreatGV18
import Derived.Test.YtikpbibeagbccaaGreatGV13
set_option maxRecDepth 100000
set_option maxHeartbeats 4000000
namespace Go.Proofs.YtikpbibeagbccaaGreat
set_option linter.unusedVariables false
set_option linter.unusedSimpArgs false
open Go.Proofs.Tryz
section
open Go.RowKit Go.Shelf
section
variable {L:Lay} {x:Qj} {gF:List Blk}
def qab (L:Lay) (x:Qj) (th no:Int) (c:Qr) (e:Ending) (gs:GH):Prop :=
 ∃ kb g gF',e=.returned (.tuple #[Qb kb,.int .i64 0])∧zo L kb (J9 c.kind) 0 (zu th no c) g∧Qf L (qi8 (zu th no c) { ev0 with kind:=1,id:=c.id,dl:=c.dl,per:=c.per } x) gF'∧gs=[g,gF']
theorem qlr (hx:Qf L x gF) (hn:x.tr.length≤1000000) (th no:Int) (c:Qr):Qa prog 66 #[Qb L.fb,.int .i64 th,.int .i64 no,.agg { c with kind:=1 }.cells] [gF] (qab L x th no { c with kind:=1 }):=by
 unfold qab;have HS:=Vh (show ∀ kb pv,(qfe L kb pv).SV (.at none .right) .nilFunc (.func (.func 93) #[Qb kb] #[]) [] from fun kb pv=>⟨rfl,rfl,rfl⟩);have HNW:=Vh (show ∀ kb,_ from fun kb=>Cli.prog_new (qy L kb (.pointer none)) (HS.out kb (.pointer none)));have HF1:=Vh (show J9 1=.at none .right from by simp [J9]);refine GO fun w HT=>?_
 have HX:=Vh hx;have HLN:=Vh hn;clear hx hn;simp only [Qr.cells];go_enter func66,ntmps66
 go_wp2_with fail
 have HT:=Vh ((HT.out.alloc (k:=w.heap.size) rfl 32 #[.int .i64 1,.int .u64 c.id,.int .u64 c.dl,.int .u64 c.per]).alloc (k:=w.heap.size+1) (by simp) 188 (Qo L.fb (.pointer none) (.pointer none) (.pointer none) (zu th no { c with kind:=1 })));simp only [List.cons_append,List.nil_append] at HT;refine (Qa.use Xr HT.out [] rfl rfl).mono ?_
 rintro e w1 ⟨gs,⟨rfl,rfl⟩,Ta⟩;simp only [PU] at Ta;have HT:=Vh (Ta.sum (H':=[gF,[cl w.heap.size 32 #[.int .i64 1,.int .u64 c.id,.int .u64 c.dl,.int .u64 c.per]],Qq (w.heap.size+1) L.fb (.pointer none) (.pointer none) (.pointer none) (zu th no { c with kind:=1 }),[]]));clear Ta;go_wp2_with fail
 refine Qa.run (HNW.out _) (HT.out) [3] ?_
 rintro e w1 gs ⟨pb,rfl,rfl⟩ HT;simp only [PU] at HT;have k12:=HT.out.cell 2 0 rfl 12;have fk12:=HT.out.free 2 0 rfl 12;simp only [Qo,GE3] at k12;obtain ⟨b0,b1,b2,b3⟩:=Ce4 (HT.out.cell 1 0 rfl) 0 1 2 3;simp only [GE4] at b0 b1 b2 b3;go_wp2_with fail
 have HT:=Vh ((HT.out.set 2 0 rfl 12 (Qb pb)).eq (H':=[gF,[cl w.heap.size 32 #[.int .i64 1,.int .u64 c.id,.int .u64 c.dl,.int .u64 c.per]],Qq (w.heap.size+1) L.fb (Qb pb) (.pointer none) (.pointer none) (zu th no { c with kind:=1 }),[],Cli.progB pb .nilFunc (.func (.func 93) #[Qb (w.heap.size+1)] #[]) 0]) rfl);go_wp2_with fail
 refine (Qa.use (Js HX.out { ev0 with kind:=1,id:=c.id,dl:=c.dl,per:=c.per } HLN.out) (HT.out) [2,0] rfl rfl).mono ?_
 rintro e w1 ⟨gs,⟨rfl,g1,hx1,rfl⟩,Ta⟩;simp only [PU] at Ta;have HX:=Vh hx1;clear hx1 k12 fk12 b0 b1 b2 b3;have HT:=Vh Ta;clear Ta;go_wp2
 go_ret2
 exact ⟨_,⟨_,_,g1,rfl,by rw [HF1.out];exact ⟨pb,_,_,[],_,HS.out _ _,⟨_,_,[],[],⟨rfl,rfl⟩,⟨rfl,rfl⟩,rfl⟩,rfl⟩,HX.out,rfl⟩,((HT.out.pick [2,0,4] rfl).eq (H':=[[cl (w.heap.size+1) 188 (Qo L.fb (Qb pb) (.pointer none) (.pointer none) (zu th no { c with kind:=1 }))],g1,Cli.progB pb .nilFunc (.func (.func 93) #[Qb (w.heap.size+1)] #[]) 0]) rfl).sum (H':=[Cli.progB pb .nilFunc (.func (.func 93) #[Qb (w.heap.size+1)] #[]) 0++([]++([cl (w.heap.size+1) 188 (Qo L.fb (Qb pb) (.pointer none) (.pointer none) (zu th no { c with kind:=1 }))]++([]++[]))),g1])⟩
theorem ql4 (hx:Qf L x gF) (hn:x.tr.length≤1000000) (th no:Int) (c:Qr):Qa prog 66 #[Qb L.fb,.int .i64 th,.int .i64 no,.agg { c with kind:=2 }.cells] [gF] (qab L x th no { c with kind:=2 }):=by
 unfold qab;have HS:=Vh (show ∀ kb pv,(qfe L kb pv).SV (.at none .right) .nilFunc (.func (.func 93) #[Qb kb] #[]) [] from fun kb pv=>⟨rfl,rfl,rfl⟩);have HNW:=Vh (show ∀ kb,_ from fun kb=>Cli.prog_new (qy L kb (.pointer none)) (HS.out kb (.pointer none)));have HF1:=Vh (show J9 2=.at none .right from by simp [J9]);refine GO fun w HT=>?_
 have HX:=Vh hx;have HLN:=Vh hn;clear hx hn;simp only [Qr.cells];go_enter func66,ntmps66
 go_wp2_with fail
 have HT:=Vh ((HT.out.alloc (k:=w.heap.size) rfl 32 #[.int .i64 2,.int .u64 c.id,.int .u64 c.dl,.int .u64 c.per]).alloc (k:=w.heap.size+1) (by simp) 188 (Qo L.fb (.pointer none) (.pointer none) (.pointer none) (zu th no { c with kind:=2 })));simp only [List.cons_append,List.nil_append] at HT;refine (Qa.use Xr HT.out [] rfl rfl).mono ?_
 rintro e w1 ⟨gs,⟨rfl,rfl⟩,Ta⟩;simp only [PU] at Ta;have HT:=Vh (Ta.sum (H':=[gF,[cl w.heap.size 32 #[.int .i64 2,.int .u64 c.id,.int .u64 c.dl,.int .u64 c.per]],Qq (w.heap.size+1) L.fb (.pointer none) (.pointer none) (.pointer none) (zu th no { c with kind:=2 }),[]]));clear Ta;go_wp2_with fail
 refine Qa.run (HNW.out _) (HT.out) [3] ?_
 rintro e w1 gs ⟨pb,rfl,rfl⟩ HT;simp only [PU] at HT;have k12:=HT.out.cell 2 0 rfl 12;have fk12:=HT.out.free 2 0 rfl 12;simp only [Qo,GE3] at k12;obtain ⟨b0,b1,b2,b3⟩:=Ce4 (HT.out.cell 1 0 rfl) 0 1 2 3;simp only [GE4] at b0 b1 b2 b3;go_wp2_with fail
 have HT:=Vh ((HT.out.set 2 0 rfl 12 (Qb pb)).eq (H':=[gF,[cl w.heap.size 32 #[.int .i64 2,.int .u64 c.id,.int .u64 c.dl,.int .u64 c.per]],Qq (w.heap.size+1) L.fb (Qb pb) (.pointer none) (.pointer none) (zu th no { c with kind:=2 }),[],Cli.progB pb .nilFunc (.func (.func 93) #[Qb (w.heap.size+1)] #[]) 0]) rfl);go_wp2_with fail
 refine (Qa.use (Js HX.out { ev0 with kind:=1,id:=c.id,dl:=c.dl,per:=c.per } HLN.out) (HT.out) [2,0] rfl rfl).mono ?_
 rintro e w1 ⟨gs,⟨rfl,g1,hx1,rfl⟩,Ta⟩;simp only [PU] at Ta;have HX:=Vh hx1;clear hx1 k12 fk12 b0 b1 b2 b3;have HT:=Vh Ta;clear Ta;go_wp2
 go_ret2
 exact ⟨_,⟨_,_,g1,rfl,by rw [HF1.out];exact ⟨pb,_,_,[],_,HS.out _ _,⟨_,_,[],[],⟨rfl,rfl⟩,⟨rfl,rfl⟩,rfl⟩,rfl⟩,HX.out,rfl⟩,((HT.out.pick [2,0,4] rfl).eq (H':=[[cl (w.heap.size+1) 188 (Qo L.fb (Qb pb) (.pointer none) (.pointer none) (zu th no { c with kind:=2 }))],g1,Cli.progB pb .nilFunc (.func (.func 93) #[Qb (w.heap.size+1)] #[]) 0]) rfl).sum (H':=[Cli.progB pb .nilFunc (.func (.func 93) #[Qb (w.heap.size+1)] #[]) 0++([]++([cl (w.heap.size+1) 188 (Qo L.fb (Qb pb) (.pointer none) (.pointer none) (zu th no { c with kind:=2 }))]++([]++[]))),g1])⟩
theorem qlb (hx:Qf L x gF) (hn:x.tr.length≤1000000) (th no:Int) (c:Qr):Qa prog 66 #[Qb L.fb,.int .i64 th,.int .i64 no,.agg { c with kind:=3 }.cells] [gF] (qab L x th no { c with kind:=3 }):=by
 unfold qab;have HS:=Vh (show ∀ kb pv,(qfe L kb pv).SV (.at none .enter) .nilFunc (.func (.func 94) #[Qb kb] #[]) [] from fun kb pv=>⟨rfl,rfl,rfl⟩);have HNW:=Vh (show ∀ kb,_ from fun kb=>Cli.prog_new (qy L kb (.pointer none)) (HS.out kb (.pointer none)));have HF1:=Vh (show J9 3=.at none .enter from by simp [J9]);refine GO fun w HT=>?_
 have HX:=Vh hx;have HLN:=Vh hn;clear hx hn;simp only [Qr.cells];go_enter func66,ntmps66
 go_wp2_with fail
 have HT:=Vh ((HT.out.alloc (k:=w.heap.size) rfl 32 #[.int .i64 3,.int .u64 c.id,.int .u64 c.dl,.int .u64 c.per]).alloc (k:=w.heap.size+1) (by simp) 188 (Qo L.fb (.pointer none) (.pointer none) (.pointer none) (zu th no { c with kind:=3 })));simp only [List.cons_append,List.nil_append] at HT;refine (Qa.use Xr HT.out [] rfl rfl).mono ?_
 rintro e w1 ⟨gs,⟨rfl,rfl⟩,Ta⟩;simp only [PU] at Ta;have HT:=Vh (Ta.sum (H':=[gF,[cl w.heap.size 32 #[.int .i64 3,.int .u64 c.id,.int .u64 c.dl,.int .u64 c.per]],Qq (w.heap.size+1) L.fb (.pointer none) (.pointer none) (.pointer none) (zu th no { c with kind:=3 }),[]]));clear Ta;go_wp2_with fail
 refine Qa.run (HNW.out _) (HT.out) [3] ?_
 rintro e w1 gs ⟨pb,rfl,rfl⟩ HT;simp only [PU] at HT;have k12:=HT.out.cell 2 0 rfl 12;have fk12:=HT.out.free 2 0 rfl 12;simp only [Qo,GE3] at k12;obtain ⟨b0,b1,b2,b3⟩:=Ce4 (HT.out.cell 1 0 rfl) 0 1 2 3;simp only [GE4] at b0 b1 b2 b3;go_wp2_with fail
 have HT:=Vh ((HT.out.set 2 0 rfl 12 (Qb pb)).eq (H':=[gF,[cl w.heap.size 32 #[.int .i64 3,.int .u64 c.id,.int .u64 c.dl,.int .u64 c.per]],Qq (w.heap.size+1) L.fb (Qb pb) (.pointer none) (.pointer none) (zu th no { c with kind:=3 }),[],Cli.progB pb .nilFunc (.func (.func 94) #[Qb (w.heap.size+1)] #[]) 0]) rfl);go_wp2_with fail
 refine (Qa.use (Js HX.out { ev0 with kind:=1,id:=c.id,dl:=c.dl,per:=c.per } HLN.out) (HT.out) [2,0] rfl rfl).mono ?_
 rintro e w1 ⟨gs,⟨rfl,g1,hx1,rfl⟩,Ta⟩;simp only [PU] at Ta;have HX:=Vh hx1;clear hx1 k12 fk12 b0 b1 b2 b3;have HT:=Vh Ta;clear Ta;go_wp2
 go_ret2
 exact ⟨_,⟨_,_,g1,rfl,by rw [HF1.out];exact ⟨pb,_,_,[],_,HS.out _ _,⟨_,_,[],[],⟨rfl,rfl⟩,⟨rfl,rfl⟩,rfl⟩,rfl⟩,HX.out,rfl⟩,((HT.out.pick [2,0,4] rfl).eq (H':=[[cl (w.heap.size+1) 188 (Qo L.fb (Qb pb) (.pointer none) (.pointer none) (zu th no { c with kind:=3 }))],g1,Cli.progB pb .nilFunc (.func (.func 94) #[Qb (w.heap.size+1)] #[]) 0]) rfl).sum (H':=[Cli.progB pb .nilFunc (.func (.func 94) #[Qb (w.heap.size+1)] #[]) 0++([]++([cl (w.heap.size+1) 188 (Qo L.fb (Qb pb) (.pointer none) (.pointer none) (zu th no { c with kind:=3 }))]++([]++[]))),g1])⟩
theorem qki (hx:Qf L x gF) (hn:x.tr.length≤1000000) (th no:Int) (c:Qr):Qa prog 66 #[Qb L.fb,.int .i64 th,.int .i64 no,.agg { c with kind:=4 }.cells] [gF] (qab L x th no { c with kind:=4 }):=by
 unfold qab;have HS:=Vh (show ∀ kb pv,(qfe L kb pv).SV (.at none .gate) .nilFunc (.func (.func 95) #[Qb kb] #[]) [] from fun kb pv=>⟨rfl,rfl,rfl⟩);have HNW:=Vh (show ∀ kb,_ from fun kb=>Cli.prog_new (qy L kb (.pointer none)) (HS.out kb (.pointer none)));have HF1:=Vh (show J9 4=.at none .gate from by simp [J9]);refine GO fun w HT=>?_
 have HX:=Vh hx;have HLN:=Vh hn;clear hx hn;simp only [Qr.cells];go_enter func66,ntmps66
 go_wp2_with fail
 have HT:=Vh ((HT.out.alloc (k:=w.heap.size) rfl 32 #[.int .i64 4,.int .u64 c.id,.int .u64 c.dl,.int .u64 c.per]).alloc (k:=w.heap.size+1) (by simp) 188 (Qo L.fb (.pointer none) (.pointer none) (.pointer none) (zu th no { c with kind:=4 })));simp only [List.cons_append,List.nil_append] at HT;refine (Qa.use Xr HT.out [] rfl rfl).mono ?_
 rintro e w1 ⟨gs,⟨rfl,rfl⟩,Ta⟩;simp only [PU] at Ta;have HT:=Vh (Ta.sum (H':=[gF,[cl w.heap.size 32 #[.int .i64 4,.int .u64 c.id,.int .u64 c.dl,.int .u64 c.per]],Qq (w.heap.size+1) L.fb (.pointer none) (.pointer none) (.pointer none) (zu th no { c with kind:=4 }),[]]));clear Ta;go_wp2_with fail
 refine Qa.run (HNW.out _) (HT.out) [3] ?_
 rintro e w1 gs ⟨pb,rfl,rfl⟩ HT;simp only [PU] at HT;have k12:=HT.out.cell 2 0 rfl 12;have fk12:=HT.out.free 2 0 rfl 12;simp only [Qo,GE3] at k12;obtain ⟨b0,b1,b2,b3⟩:=Ce4 (HT.out.cell 1 0 rfl) 0 1 2 3;simp only [GE4] at b0 b1 b2 b3;go_wp2_with fail
 have HT:=Vh ((HT.out.set 2 0 rfl 12 (Qb pb)).eq (H':=[gF,[cl w.heap.size 32 #[.int .i64 4,.int .u64 c.id,.int .u64 c.dl,.int .u64 c.per]],Qq (w.heap.size+1) L.fb (Qb pb) (.pointer none) (.pointer none) (zu th no { c with kind:=4 }),[],Cli.progB pb .nilFunc (.func (.func 95) #[Qb (w.heap.size+1)] #[]) 0]) rfl);go_wp2_with fail
 refine (Qa.use (Js HX.out { ev0 with kind:=1,id:=c.id,dl:=c.dl,per:=c.per } HLN.out) (HT.out) [2,0] rfl rfl).mono ?_
 rintro e w1 ⟨gs,⟨rfl,g1,hx1,rfl⟩,Ta⟩;simp only [PU] at Ta;have HX:=Vh hx1;clear hx1 k12 fk12 b0 b1 b2 b3;have HT:=Vh Ta;clear Ta;go_wp2
 go_ret2
 exact ⟨_,⟨_,_,g1,rfl,by rw [HF1.out];exact ⟨pb,_,_,[],_,HS.out _ _,⟨_,_,[],[],⟨rfl,rfl⟩,⟨rfl,rfl⟩,rfl⟩,rfl⟩,HX.out,rfl⟩,((HT.out.pick [2,0,4] rfl).eq (H':=[[cl (w.heap.size+1) 188 (Qo L.fb (Qb pb) (.pointer none) (.pointer none) (zu th no { c with kind:=4 }))],g1,Cli.progB pb .nilFunc (.func (.func 95) #[Qb (w.heap.size+1)] #[]) 0]) rfl).sum (H':=[Cli.progB pb .nilFunc (.func (.func 95) #[Qb (w.heap.size+1)] #[]) 0++([]++([cl (w.heap.size+1) 188 (Qo L.fb (Qb pb) (.pointer none) (.pointer none) (zu th no { c with kind:=4 }))]++([]++[]))),g1])⟩
theorem qls (hx:Qf L x gF) (hn:x.tr.length≤1000000) (th no:Int) (c:Qr):Qa prog 66 #[Qb L.fb,.int .i64 th,.int .i64 no,.agg { c with kind:=5 }.cells] [gF] (qab L x th no { c with kind:=5 }):=by
 unfold qab;have HS:=Vh (show ∀ kb pv,(qfe L kb pv).SV (.at none .gate) .nilFunc (.func (.func 95) #[Qb kb] #[]) [] from fun kb pv=>⟨rfl,rfl,rfl⟩);have HNW:=Vh (show ∀ kb,_ from fun kb=>Cli.prog_new (qy L kb (.pointer none)) (HS.out kb (.pointer none)));have HF1:=Vh (show J9 5=.at none .gate from by simp [J9]);refine GO fun w HT=>?_
 have HX:=Vh hx;have HLN:=Vh hn;clear hx hn;simp only [Qr.cells];go_enter func66,ntmps66
 go_wp2_with fail
 have HT:=Vh ((HT.out.alloc (k:=w.heap.size) rfl 32 #[.int .i64 5,.int .u64 c.id,.int .u64 c.dl,.int .u64 c.per]).alloc (k:=w.heap.size+1) (by simp) 188 (Qo L.fb (.pointer none) (.pointer none) (.pointer none) (zu th no { c with kind:=5 })));simp only [List.cons_append,List.nil_append] at HT;refine (Qa.use Xr HT.out [] rfl rfl).mono ?_
 rintro e w1 ⟨gs,⟨rfl,rfl⟩,Ta⟩;simp only [PU] at Ta;have HT:=Vh (Ta.sum (H':=[gF,[cl w.heap.size 32 #[.int .i64 5,.int .u64 c.id,.int .u64 c.dl,.int .u64 c.per]],Qq (w.heap.size+1) L.fb (.pointer none) (.pointer none) (.pointer none) (zu th no { c with kind:=5 }),[]]));clear Ta;go_wp2_with fail
 refine Qa.run (HNW.out _) (HT.out) [3] ?_
 rintro e w1 gs ⟨pb,rfl,rfl⟩ HT;simp only [PU] at HT;have k12:=HT.out.cell 2 0 rfl 12;have fk12:=HT.out.free 2 0 rfl 12;simp only [Qo,GE3] at k12;obtain ⟨b0,b1,b2,b3⟩:=Ce4 (HT.out.cell 1 0 rfl) 0 1 2 3;simp only [GE4] at b0 b1 b2 b3;go_wp2_with fail
 have HT:=Vh ((HT.out.set 2 0 rfl 12 (Qb pb)).eq (H':=[gF,[cl w.heap.size 32 #[.int .i64 5,.int .u64 c.id,.int .u64 c.dl,.int .u64 c.per]],Qq (w.heap.size+1) L.fb (Qb pb) (.pointer none) (.pointer none) (zu th no { c with kind:=5 }),[],Cli.progB pb .nilFunc (.func (.func 95) #[Qb (w.heap.size+1)] #[]) 0]) rfl);go_wp2_with fail
 refine (Qa.use (Js HX.out { ev0 with kind:=1,id:=c.id,dl:=c.dl,per:=c.per } HLN.out) (HT.out) [2,0] rfl rfl).mono ?_
 rintro e w1 ⟨gs,⟨rfl,g1,hx1,rfl⟩,Ta⟩;simp only [PU] at Ta;have HX:=Vh hx1;clear hx1 k12 fk12 b0 b1 b2 b3;have HT:=Vh Ta;clear Ta;go_wp2
 go_ret2
 exact ⟨_,⟨_,_,g1,rfl,by rw [HF1.out];exact ⟨pb,_,_,[],_,HS.out _ _,⟨_,_,[],[],⟨rfl,rfl⟩,⟨rfl,rfl⟩,rfl⟩,rfl⟩,HX.out,rfl⟩,((HT.out.pick [2,0,4] rfl).eq (H':=[[cl (w.heap.size+1) 188 (Qo L.fb (Qb pb) (.pointer none) (.pointer none) (zu th no { c with kind:=5 }))],g1,Cli.progB pb .nilFunc (.func (.func 95) #[Qb (w.heap.size+1)] #[]) 0]) rfl).sum (H':=[Cli.progB pb .nilFunc (.func (.func 95) #[Qb (w.heap.size+1)] #[]) 0++([]++([cl (w.heap.size+1) 188 (Qo L.fb (Qb pb) (.pointer none) (.pointer none) (zu th no { c with kind:=5 }))]++([]++[]))),g1])⟩
theorem qqx (hx:Qf L x gF) (hn:x.tr.length≤1000000) (th no:Int) (c:Qr) (h1:1≤c.kind) (h5:c.kind≤5):Qa prog 66 #[Qb L.fb,.int .i64 th,.int .i64 no,.agg c.cells] [gF] (qab L x th no c):=by
 obtain ⟨kd,id,dl,per⟩:=c;simp only at h1 h5;have h:kd=1∨kd=2∨kd=3∨kd=4∨kd=5:=by omega
 rcases h with rfl | rfl | rfl | rfl | rfl
 ·exact qlr hx hn th no ⟨1,id,dl,per⟩
 ·exact ql4 hx hn th no ⟨2,id,dl,per⟩
 ·exact qlb hx hn th no ⟨3,id,dl,per⟩
 ·exact qki hx hn th no ⟨4,id,dl,per⟩
 ·exact qls hx hn th no ⟨5,id,dl,per⟩
theorem qha (hx:Qf L x gF) (th no:Int) (c:Qr) (h:c.kind<1∨5<c.kind):Qa prog 66 #[Qb L.fb,.int .i64 th,.int .i64 no,.agg c.cells] [gF] fun e gs=>e=.returned (.tuple #[.pointer none,.int .i64 1])∧gs=[gF]:=by
 refine GO fun w HT=>?_
 have b1:(c.kind == 1)=false:=beq_eq_false_iff_ne.2 (by omega);have b2:(c.kind == 2)=false:=beq_eq_false_iff_ne.2 (by omega);have b3:(c.kind == 3)=false:=beq_eq_false_iff_ne.2 (by omega);have b4:(c.kind == 4)=false:=beq_eq_false_iff_ne.2 (by omega);have b5:(c.kind == 5)=false:=beq_eq_false_iff_ne.2 (by omega);clear h hx;simp only [Qr.cells];go_enter func66,ntmps66
 go_wp2
 go_ret2
 exact ⟨_,⟨rfl,rfl⟩,(HT.out.alloc0 _).alloc0 _⟩
end
def q0n (c:Cfg):Qj:=⟨⟨c,false,0,0,0⟩,X6 c.cap.toNat,[],List.replicate c.sh.toNat (Qp c.ring.toNat)⟩
structure Q7 where
 id:Int
 gen:Int
 dl:Int
 tick:Int
def Q7.vals (f:Q7):List Value:=[.int .u64 f.id,.int .u64 f.gen,.int .u64 f.dl,.int .u64 f.tick]
structure Qy where
 room:Nat
 ch:List Q7
 sp:List Q7
 most:Int
 shut:Bool
def qkw (n:Nat):Qy:=⟨n,[],[],0,false⟩
abbrev Xn (pb cb lb:Nat) (p:Qy):List Blk:=[cl pb 194 #[.chan (some cb),Qb lb,.int .i64 p.most,.bool p.shut]]
def Xs (pb:Nat) (p:Qy) (g:List Blk):Prop:=∃ (cb lb hb a b:Nat) (l:List Nd) (gl:List Blk),Jw lb hb l gl∧l.map Nd.v=p.sp.map Q7.vals ∧
 g=Xn pb cb lb p++([(cb,.chan p.room (p.ch.map fun f=>Value.agg f.vals.toArray).toArray false a b false)]++gl)
theorem qmp (cb n:Nat) (buf:Array Value) (cz:Bool) (a b:Nat) (w:World) (h:w.heap[cb]?=some (.chan n buf cz a b false)) :
 (Builtin.len_ #[191] 3 #[.chan (some cb)]).run prog w=.ok (.int .i64 buf.size) w:=by
 have hg:(getObj cb).run prog w=.ok (.chan n buf cz a b false) w:=by simp [getObj,Sem.run,h]
 simp [Builtin.len_,run_underlying underlying191,hg,goInt]
def Qy.shutE (p:Qy):Int:=if p.shut then 3 else 0
section
variable {pb:Nat} {p:Qy} {g:List Blk}
theorem qpi (hg:Xs pb p g):Qa prog 142 #[Qb pb] [g] fun e gs=>e=.returned (.int .i64 p.shutE)∧∃ g',Xs pb { p with shut:=true } g'∧gs=[g']:=by
 obtain ⟨cb,lb,hb,a,b,l,gl,h1,h2,rfl⟩:=hg;cases hs:p.shut with
 | false =>
   have HE:=Vh (show p.shutE=0 from by unfold Qy.shutE;rw [hs];rfl);rw [HE.out];refine GO fun w HT=>?_
   have HT:=Vh (HT.out.sum (H':=[Xn pb cb lb p,[(cb,.chan p.room (p.ch.map fun f=>Value.agg f.vals.toArray).toArray false a b false)]++gl]));have H1:=Vh h1;have H2:=Vh h2;have c3:=HT.out.cell 0 0 rfl 3;have fc3:=HT.out.free 0 0 rfl 3;simp only [hs,GE3] at c3;clear h1 h2 hs;go_enter func142,ntmps142
   go_wp2
   go_ret
   exact ⟨_,⟨rfl,_,⟨cb,lb,hb,a,b,l,gl,H1.out,H2.out,rfl⟩,rfl⟩,((HT.out.set 0 0 rfl 3 _).eq (H':=[Xn pb cb lb { p with shut:=true },[(cb,.chan p.room (p.ch.map fun f=>Value.agg f.vals.toArray).toArray false a b false)]++gl]) rfl).sum⟩
 | true =>
   have hsame:({ p with shut:=true }:Qy)=p:=by rw [← hs]
   rw [hsame];have HE:=Vh (show p.shutE=3 from by unfold Qy.shutE;rw [hs];rfl);rw [HE.out];refine GO fun w HT=>?_
   have HT:=Vh (HT.out.sum (H':=[Xn pb cb lb p,[(cb,.chan p.room (p.ch.map fun f=>Value.agg f.vals.toArray).toArray false a b false)]++gl]));have H1:=Vh h1;have H2:=Vh h2;have c3:=HT.out.cell 0 0 rfl 3;simp only [hs,GE3] at c3;clear h1 h2 hs;go_enter func142,ntmps142
   go_wp2
   go_ret
   exact ⟨_,⟨rfl,_,⟨cb,lb,hb,a,b,l,gl,H1.out,H2.out,rfl⟩,rfl⟩,HT.out.sum⟩
theorem qi3 (hg:Xs pb p g):Qe prog 169 #[Qb pb] [g] (.bool (p.shut && decide (p.ch=[]))):=by
 obtain ⟨cb,lb,hb,a,b,l,gl,h1,h2,rfl⟩:=hg;refine GO fun w HT=>?_
 have HT:=Vh (HT.out.sum (H':=[Xn pb cb lb p,[(cb,.chan p.room (p.ch.map fun f=>Value.agg f.vals.toArray).toArray false a b false)]++gl]));have b1:=HT.out.obj 1 0 rfl;simp only [] at b1;have hlc:=qmp cb p.room _ false a b w b1;simp only [List.size_toArray,List.length_map] at hlc;have hz:((p.ch.length:Int) == 0)=decide (p.ch=[]):=by cases p.ch <;> simp <;> omega
 clear h1 h2;generalize p.ch.length=n at *;generalize decide (p.ch=[])=e at *;cases hs:p.shut with
 | false =>
   obtain ⟨c0,c3⟩:=Ce2 (HT.out.cell 0 0 rfl) 0 3;simp only [hs,Xn,GE3] at c0 c3;go_enter func169,ntmps169
   go_wp2
   go_ret
   exact ⟨rfl,0,rfl⟩
 | true =>
   obtain ⟨c0,c3⟩:=Ce2 (HT.out.cell 0 0 rfl) 0 3;simp only [hs,Xn,GE3] at c0 c3;go_enter func169,ntmps169
   go_wp2
   go_ret
   exact ⟨rfl,0,rfl⟩
end
section
variable {q:ShP} {s:Q0} {g:List Blk}
theorem qpo (hg:qr1 q s g) (hr:qd s.ring):Qa prog 251 #[Qb q.b] [g] fun e gs =>
 e=.returned (.tuple #[.agg (Y5 s.ring).2.1.cells,.int .i64 (Y5 s.ring).2.2])∧∃ g',qr1 q { s with ring:=(Y5 s.ring).1 } g'∧gs=[g']:=by
 obtain ⟨gr,gl,h1,h2,rfl⟩:=hg;have hp:=qs3 h1 hr;generalize Y5 s.ring=p at *;refine GO fun w HT=>?_
 have HT:=Vh (HT.out.sum (H':=[Xb q.b q.rb q.lb q.wb,gr,gl]));have HP:=Vh hp;have HL:=Vh h2;clear h1 h2 hp hr;go_enter func251,ntmps251
 go_wp2_with fail
 refine Qa.run (Zy q.b q.rb q.lb q.wb) (HT.out.alloc (k:=w.heap.size) rfl 173 Qm.zero.cells) [0] ?_
 rintro e w1 gs ⟨rfl,rfl⟩ HT;simp only [PU] at HT;have hf:=fun w=>(Jj (Qb q.rb) (Qb q.lb) (Qb q.wb) w).1
 go_wp2_with fail
 refine (Qa.use (HP.out) (HT.out) [1] rfl rfl).mono ?_
 rintro e w1 ⟨gs,⟨rfl,g1,hg1,rfl⟩,Ta⟩;simp only [PU] at Ta;have HG:=Vh hg1;clear hg1;have HT:=Vh Ta;clear Ta;obtain ⟨a0,a1,a2,a3,a4⟩:=Ce5 (HT.out.cell 3 0 rfl) 0 1 2 3 4;obtain ⟨fa0,fa1,fa2,fa3,fa4⟩:=Ce5 (HT.out.free 3 0 rfl) 0 1 2 3 4;simp only [Qm.cells,Qm.zero,GE3] at a0 a1 a2 a3 a4;simp only [Qm.cells];go_wp2
 exact bodyPost_ret (v:=.tuple #[.agg p.2.1.cells,.int .i64 p.2.2]) (by simp [results,results251,go_sem,a0,a1,a2,a3,a4,Qm.cells]) rfl ⟨_,⟨rfl,_,⟨g1,gl,HG.out,HL.out,rfl⟩,rfl⟩,((((((HT.out.set 3 0 rfl 0 _).set 3 0 rfl 1 _).set 3 0 rfl 2 _).set 3 0 rfl 3 _).set 3 0 rfl 4 _).pick [0,1,2] rfl).sum⟩
theorem qfj (hg:qr1 q s g) (hr:qd s.ring):Qa prog 235 #[Qb q.b] [g] fun e gs=>e=.returned (.int .i64 (s.ring.tail - s.ring.head))∧∃ g',qr1 q s g'∧gs=[g']:=by
 obtain ⟨gr,gl,h1,h2,rfl⟩:=hg;have hp:=qq8 h1 hr;refine GO fun w HT=>?_
 have HT:=Vh (HT.out.sum (H':=[Xb q.b q.rb q.lb q.wb,gr,gl]));have HP:=Vh hp;have HL:=Vh h2;clear h1 h2 hp hr;go_enter func235,ntmps235
 go_wp2_with fail
 refine Qa.run (Zy q.b q.rb q.lb q.wb) (HT.out) [0] ?_
 rintro e w1 gs ⟨rfl,rfl⟩ HT;simp only [PU] at HT;have hf:=fun w=>(Jj (Qb q.rb) (Qb q.lb) (Qb q.wb) w).1
 go_wp2_with fail
 refine (Qa.use (HP.out) (HT.out) [1] rfl rfl).mono ?_
 rintro e w1 ⟨gs,⟨rfl,g1,hg1,rfl⟩,Ta⟩;simp only [PU] at Ta;have HG:=Vh hg1;clear hg1;have HT:=Vh Ta;clear Ta;go_wp2
 go_ret
 exact ⟨_,⟨rfl,_,⟨g1,gl,HG.out,HL.out,rfl⟩,rfl⟩,HT.out.sum⟩
theorem qjk (hg:qr1 q s g) (hr:qd s.ring):Qa prog 249 #[Qb q.b] [g] fun e gs=>e=.returned (.bool s.ring.ready)∧∃ g',qr1 q s g'∧gs=[g']:=by
 obtain ⟨gr,gl,h1,h2,rfl⟩:=hg;have hp:=qez h1 hr;refine GO fun w HT=>?_
 have HT:=Vh (HT.out.sum (H':=[Xb q.b q.rb q.lb q.wb,gr,gl]));have HP:=Vh hp;have HL:=Vh h2;clear h1 h2 hp hr;go_enter func249,ntmps249
 go_wp2_with fail
 refine Qa.run (Zy q.b q.rb q.lb q.wb) (HT.out) [0] ?_
 rintro e w1 gs ⟨rfl,rfl⟩ HT;simp only [PU] at HT;have hf:=fun w=>(Jj (Qb q.rb) (Qb q.lb) (Qb q.wb) w).1
 go_wp2_with fail
 refine (Qa.use (HP.out) (HT.out) [1] rfl rfl).mono ?_
 rintro e w1 ⟨gs,⟨rfl,g1,hg1,rfl⟩,Ta⟩;simp only [PU] at Ta;have HG:=Vh hg1;clear hg1;have HT:=Vh Ta;clear Ta;go_wp2
 go_ret
 exact ⟨_,⟨rfl,_,⟨g1,gl,HG.out,HL.out,rfl⟩,rfl⟩,HT.out.sum⟩
end
section
variable {L:Lay} {x:Qj} {g:List Blk}
theorem z6 {F:Nat} {args:Array Value} {i:Nat} {q:ShP} {s s':Q0} {v:Value} (hx:Qf L x g) (hq:L.qs[i]?=some q) (hs:x.shs[i]?=some s)
 (hd:∀ g,qr1 q s g→Qa prog F args [g] fun e gs=>e=.returned v∧∃ g',qr1 q s' g'∧gs=[g']) :
 Qa prog F args [g] fun e gs=>e=.returned v∧∃ g',Qf L { x with shs:=x.shs.set i s' } g'∧gs=[g']:=by
 obtain ⟨tr,gF,gS,gR,gH,gT,h1,h2,h3,h4,h5,h6,rfl⟩:=hx;have hz:(L.qs.zip x.shs)[i]?=some (q,s):=qam hq hs;obtain ⟨u,y,hu,hp,hback⟩:=h5.out hz;intro w hw;have T:=(((TG.refl hw).sum (H':=[gF++(gS++(gR++gT)),gH])).permAt 1 rfl hp).sum (H':=[gF++(gS++(gR++gT)),u,y]);refine (Qa.use (hd u hu) T [1] rfl rfl).mono ?_
 rintro e w' ⟨gs,⟨he,g1,hn1,rfl⟩,T'⟩;obtain ⟨gH',hf,hp'⟩:=hback (q,s') g1 hn1;rw [Ju i hq] at hf;refine ⟨_,⟨he,_,⟨tr,gF,gS,gR,gH',gT,h1,h2,h3,by simpa using h4,hf,h6,rfl⟩,rfl⟩,?_⟩
 exact ((TG.sum (H:=[gF++(gS++(gR++gT)),g1,y]) (H':=[gF++(gS++(gR++gT)),g1++y]) T').permAt 1 rfl hp').sum
theorem Yp {x:Qj} {i:Nat} {s:Q0} (hs:x.shs[i]?=some s):({ x with shs:=x.shs.set i s }:Qj)=x:=by
 have:x.shs.set i s=x.shs:=Jq hs;rw [this]
theorem qxv (hx:Qf L x g) {i:Nat} {q:ShP} {s:Q0} (hq:L.qs[i]?=some q) (hs:x.shs[i]?=some s) (hr:qd s.ring):Qa prog 251 #[Qb q.b] [g] fun e gs =>
 e=.returned (.tuple #[.agg (Y5 s.ring).2.1.cells,.int .i64 (Y5 s.ring).2.2])∧∃ g',Qf L { x with shs:=x.shs.set i { s with ring:=(Y5 s.ring).1 } } g'∧gs=[g'] :=
 z6 hx hq hs fun g hg=>qpo hg hr
theorem qkq (hx:Qf L x g) {i:Nat} {q:ShP} {s:Q0} (hq:L.qs[i]?=some q) (hs:x.shs[i]?=some s) (hr:qd s.ring):Qa prog 235 #[Qb q.b] [g] fun e gs =>
 e=.returned (.int .i64 (s.ring.tail - s.ring.head))∧∃ g',Qf L x g'∧gs=[g']:=by
 have:=z6 hx hq hs fun g hg=>qfj hg hr
 rwa [Yp hs] at this
theorem qto (hx:Qf L x g) {i:Nat} {q:ShP} {s:Q0} (hq:L.qs[i]?=some q) (hs:x.shs[i]?=some s) (hr:qd s.ring):Qa prog 249 #[Qb q.b] [g] fun e gs =>
 e=.returned (.bool s.ring.ready)∧∃ g',Qf L x g'∧gs=[g']:=by
 have:=z6 hx hq hs fun g hg=>qjk hg hr
 rwa [Yp hs] at this
theorem qh1 (hx:Qf L x g) (i:Int):Qe prog 181 #[Qb L.fb,.int .i64 i] [g] (qah (L.qs.map ShP.b) i):=by
 obtain ⟨tr,gF,gS,gR,gH,gT,h1,h2,h3,h4,h5,h6,rfl⟩:=hx;intro w hw;have T:=(TG.refl hw).sum (H':=[gF,gS,gR,gH,gT]);exact (qdc h1 h3 i).use T [0,2] rfl rfl
end
theorem qwr {L:Lay} {x:Qj} {g:List Blk} (hx:Qf L x g) {i:Nat} (hi:i<x.shs.length):∃ q,L.qs[i]?=some q∧qah (L.qs.map ShP.b) i=Qb q.b:=by
 obtain ⟨tr,gF,gS,gR,gH,gT,h1,h2,h3,h4,h5,h6,rfl⟩:=hx;have hl:i<L.qs.length:=by omega
 refine ⟨L.qs[i],List.getElem?_eq_getElem hl,?_⟩
 unfold qah;rw [if_pos (by simp;omega)];simp [hl]
section
variable {L:Lay} {x:Qj} {g:List Blk}
theorem qvd (hx:Qf L x g):Qa prog 23 #[Qb L.fb] [g] fun e gs=>e=.returned (.int .i64 x.f.busy)∧∃ g',Qf L x g'∧gs=[g']:=by
 obtain ⟨tr,gF,gS,gR,gH,gT,h1,h2,h3,h4,h5,h6,rfl⟩:=hx;intro w hw;have T:=(TG.refl hw).sum (H':=[gF,gS,gR,gH,gT]);refine (Qa.use (qmf h1) T [0] rfl rfl).mono ?_
 rintro e w' ⟨gs,⟨he,g1,hn1,rfl⟩,T'⟩;exact ⟨_,⟨he,_,⟨tr,g1,gS,gR,gH,gT,hn1,h2,h3,h4,h5,h6,rfl⟩,rfl⟩,TG.sum (H:=[g1,gS,gR,gH,gT]) T'⟩
theorem qu7 (hx:Qf L x g) (h:0≤x.f.busy∧x.f.busy≤1000000):Qa prog 159 #[Qb L.fb,.bool true] [g] fun e gs=>e=.returned (.int .i64 0)∧∃ g',Qf L { x with f:={ x.f with busy:=x.f.busy+1 } } g'∧gs=[g']:=by
 obtain ⟨tr,gF,gS,gR,gH,gT,h1,h2,h3,h4,h5,h6,rfl⟩:=hx;intro w hw;have T:=(TG.refl hw).sum (H':=[gF,gS,gR,gH,gT]);refine (Qa.use (qma h1 h) T [0] rfl rfl).mono ?_
 rintro e w' ⟨gs,⟨he,g1,hn1,rfl⟩,T'⟩;exact ⟨_,⟨he,_,⟨tr,g1,gS,gR,gH,gT,hn1,h2,h3,h4,h5,h6,rfl⟩,rfl⟩,TG.sum (H:=[g1,gS,gR,gH,gT]) T'⟩
theorem qve (hx:Qf L x g) (h:0≤x.f.busy∧x.f.busy≤1000000):Qa prog 159 #[Qb L.fb,.bool false] [g] fun e gs=>e=.returned (.int .i64 (qjf x.f.busy))∧∃ g',Qf L { x with f:={ x.f with busy:=Zf x.f.busy } } g'∧gs=[g']:=by
 obtain ⟨tr,gF,gS,gR,gH,gT,h1,h2,h3,h4,h5,h6,rfl⟩:=hx;intro w hw;have T:=(TG.refl hw).sum (H':=[gF,gS,gR,gH,gT]);refine (Qa.use (qkx h1 h) T [0] rfl rfl).mono ?_
 rintro e w' ⟨gs,⟨he,g1,hn1,rfl⟩,T'⟩;exact ⟨_,⟨he,_,⟨tr,g1,gS,gR,gH,gT,hn1,h2,h3,h4,h5,h6,rfl⟩,rfl⟩,TG.sum (H:=[g1,gS,gR,gH,gT]) T'⟩
theorem qvz (hx:Qf L x g) (h:0≤x.f.now∧x.f.now<9223372036854775807):Qa prog 164 #[Qb L.fb] [g] fun e gs=>e=.returned (.tuple #[.int .u64 (x.f.now+1),.int .i64 0])∧∃ g',Qf L { x with f:={ x.f with now:=x.f.now+1 } } g'∧gs=[g']:=by
 obtain ⟨tr,gF,gS,gR,gH,gT,h1,h2,h3,h4,h5,h6,rfl⟩:=hx;intro w hw;have T:=(TG.refl hw).sum (H':=[gF,gS,gR,gH,gT]);refine (Qa.use (qkj h1 h) T [0] rfl rfl).mono ?_
 rintro e w' ⟨gs,⟨he,g1,hn1,rfl⟩,T'⟩;exact ⟨_,⟨he,_,⟨tr,g1,gS,gR,gH,gT,hn1,h2,h3,h4,h5,h6,rfl⟩,rfl⟩,TG.sum (H:=[g1,gS,gR,gH,gT]) T'⟩
theorem Jr (hx:Qf L x g):Qe prog 70 #[Qb L.fb] [g] (Qb L.p.pb):=by
 obtain ⟨tr,gF,gS,gR,gH,gT,⟨C,rfl,hc⟩,h2,h3,h4,h5,h6,rfl⟩:=hx;refine GO fun w HT=>?_
 have c0:=((HT.out.sum (H':=[[cl L.fb 111 C],gS,gR,gH,gT])).cell 0 0 rfl 8).trans hc.pipe;clear hc h2 h3 h4 h5 h6;go_enter func70,ntmps70
 go_wp2
 go_ret
 exact ⟨rfl,0,rfl⟩
theorem qiz (hx:Qf L x g):Qe prog 57 #[Qb L.fb] [g] (Qb L.p.lb):=by
 obtain ⟨tr,gF,gS,gR,gH,gT,⟨C,rfl,hc⟩,h2,h3,h4,h5,h6,rfl⟩:=hx;refine GO fun w HT=>?_
 have c0:=((HT.out.sum (H':=[[cl L.fb 111 C],gS,gR,gH,gT])).cell 0 0 rfl 9).trans hc.log;clear hc h2 h3 h4 h5 h6;go_enter func57,ntmps57
 go_wp2
 go_ret
 exact ⟨rfl,0,rfl⟩
theorem qgn (hx:Qf L x g):Qa prog 109 #[Qb L.fb] [g] fun e gs=>e=.returned (.agg x.f.cfg.cells)∧gs=[g]:=by
 obtain ⟨tr,gF,gS,gR,gH,gT,⟨C,rfl,hc⟩,h2,h3,h4,h5,h6,rfl⟩:=hx;have hcf:=hc.cfg;refine GO fun w HT=>?_
 have HT1:=Vh (HT.out.sum (H':=[[cl L.fb 111 C],gS,gR,gH,gT]));have k0:=(HT1.out.cell 0 0 rfl 0).trans (hcf 0 (by decide));have k1:=(HT1.out.cell 0 0 rfl 1).trans (hcf 1 (by decide));have k2:=(HT1.out.cell 0 0 rfl 2).trans (hcf 2 (by decide));have k3:=(HT1.out.cell 0 0 rfl 3).trans (hcf 3 (by decide));have k4:=(HT1.out.cell 0 0 rfl 4).trans (hcf 4 (by decide));have k5:=(HT1.out.cell 0 0 rfl 5).trans (hcf 5 (by decide));simp only [Cfg.cells,GE3] at k0 k1 k2 k3 k4 k5;have hlt:=HT1.out.lt 0 0 rfl;simp only [] at hlt;clear hcf hc h2 h3 h4 h5 h6 HT1;go_enter func109,ntmps109
 go_wp2
 exact bodyPost_ret (v:=.agg x.f.cfg.cells) (by simp [results,results109,go_sem,Cfg.cells]) rfl ⟨_,⟨rfl,rfl⟩,HT.out.alloc0 _⟩
theorem qp2 (hx:Qf L x g) (hc:x.f.cfg.cap=x.slab.recs.length) (hs:Zm x.slab) (i:Int):Qa prog 212 #[Qb L.fb,.int .i64 i] [g] fun e gs=>e=.returned (.tuple #[.int .u64 (qpv x.slab i).1,.int .i64 (qpv x.slab i).2])∧∃ g',Qf L x g'∧gs=[g']:=by
 obtain ⟨tr,gF,gS,gR,gH,gT,h1,h2,h3,h4,h5,h6,rfl⟩:=hx;intro w hw;have T:=(TG.refl hw).sum (H':=[gF,gS,gR,gH,gT])
 refine (Qa.use (qg3 h1 h2 hc hs.n1 (fun r hr=>⟨(hs.recs r hr).g0,by
  have h:=(hs.recs r hr).g1;unfold Zp at h;split at h
  ·next ho =>
   unfold okW at ho;simp only [Bool.and_eq_true,decide_eq_true_eq] at ho;omega
  ·omega⟩) i) T [0,1] rfl rfl).mono ?_
 rintro e w' ⟨gs,⟨he,g1,hn1,rfl⟩,T'⟩;exact ⟨_,⟨he,_,⟨tr,gF,g1,gR,gH,gT,h1,hn1,h3,h4,h5,h6,rfl⟩,rfl⟩,TG.sum (H:=[gF,g1,gR,gH,gT]) T'⟩
end
theorem TG.mem_at {h H:GH} {w w':World} (T:TG h w H w') (i:Nat) {p:Blk} (hm:p∈H.getD i []):w'.heap[p.1]?=some p.2:=by
 obtain ⟨j,hj⟩:=List.mem_iff_getElem?.1 hm;exact T.obj i j hj
theorem TG.mem_cell {h H:GH} {w w':World} (T:TG h w H w') (i:Nat) {b:Nat} {t:TypeId} {C:Array Value} (hm:cl b t C∈H.getD i []) (o:Nat):w'.cell? ⟨b,o,none⟩=C[o]?:=Qv (T.mem_at i hm) o
theorem TG.mem_lt {h H:GH} {w w':World} (T:TG h w H w') (i:Nat) {p:Blk} (hm:p∈H.getD i []):p.1<w'.heap.size:=(Array.getElem?_eq_some_iff.1 (T.mem_at i hm)).1
structure Yl where
 th:Int
 no:Int
 err:Int
 ok:Bool
 aset:Bool
 left:List Int
 saw:Int
inductive MS where
 | shuts | slots0 | slots2 (i:Int) | waits | looks1 (i:Int) | leaves0 (i:Int) | waits2
inductive AS where
 | ends1 | pshut | release (i:Int) | drop
inductive YS where
 | inside | idle
abbrev SS:Type:=St MS AS YS
structure ZS where
 k:Yl
 x:Qj
 p:Qy
def evS (k:Yl) (E:EvS):EvS:={ E with thread:=k.th,call:=k.no,what:=6 }
def ZS.note (E:EvS) (z:ZS):ZS:={ z with x:={ z.x with tr:=z.x.tr++[evS z.k E] } }
def qfw (i:Int):SS:=.at none (.looks1 i)
def qbw (i:Int) (z:ZS):SS:=if z.x.f.cfg.cap≤i then .thn (.row1 .pshut) .waits else .thn (qfw i) (.slots2 i)
def qk5 (i:Int) (z:ZS):ZS:={ z with k:={ z.k with saw:=z.x.slab.word i } }
def Zn:MS→ZS→SS × ZS
 | .shuts,z=>if z.x.f.closed=true then (.row1 .ends1,{ (z.note { ev0 with kind:=9,err:=3 }) with k:={ z.k with err:=3,ok:=false,aset:=false } })
    else (.at (some .inside) .slots0,({ z with x:={ z.x with f:={ z.x.f with closed:=true } } }:ZS).note { ev0 with kind:=10 })
 | .slots0,z=>(qbw 0 z,z)
 | .slots2 i,z=>(qbw (i+1) z,z)
 | .waits,z=>(.at (some .idle) .waits2,z)
 | .looks1 i,z=>if stW (z.x.slab.word i)=2∨stW (z.x.slab.word i)=3 then (.at none (.leaves0 i),qk5 i z) else (.nil,qk5 i z)
 | .leaves0 i,z =>
   let r:=z.x.slab.try i z.k.saw 6
   if r.2.2≠0 then (qfw i,{ z with x:={ z.x with slab:=r.1 } })
   else (.row2 (.release i) .drop,({ z with x:={ z.x with slab:=r.1 },k:={ z.k with left:=z.k.left++[(qpv r.1 i).1] } }:ZS).note { ev0 with kind:=12,id:=(qpv r.1 i).1,gen:=Zp r.2.1 })
 | .waits2,z=>(.row1 .ends1,{ (z.note { ev0 with kind:=13 }) with k:={ z.k with err:=0,ok:=true,aset:=true } })
def Y3:AS→ZS→ZS
 | .ends1,z=>z.note { ev0 with kind:=2,err:=z.k.err }
 | .pshut,z=>{ z with p:={ z.p with shut:=true } }
 | .release i,z=>{ z with x:={ z.x with slab:=(z.x.slab.try i (z.x.slab.word i) 10).1 } }
 | .drop,z=>{ z with x:={ z.x with slab:=z.x.slab.drop.1 } }
def qz4:YS→ZS→Bool
 | .inside,z=>z.x.f.inside == 0
 | .idle,z=>z.p.shut && decide (z.p.ch=[]) && (z.x.f.busy == 0)
structure qba (z:ZS):Prop where
 core:qo z.x
 cap:z.x.f.cfg.cap=z.x.slab.recs.length
 busy:0≤z.x.f.busy∧z.x.f.busy≤1000000
 saw:0≤z.k.saw∧z.k.saw<18446744073709551616∧okW z.k.saw=true
 left:z.k.left.length≤1000000
def MS.fit:MS→ZS→Prop
 | .slots2 i,_=>0≤i∧i≤64
 | .looks1 i,_=>0≤i∧i≤64
 | .leaves0 i,z=>(0≤i∧i≤64)∧z.k.aset=false
 | _,_=>True
def qxd (f:MS) (z:ZS):Prop:=qba z∧f.fit z
def qn5 (_:AS) (z:ZS):Prop:=qba z
def X1 (fb:Nat) (pv vl al:Value) (k:Yl):Array Value:=#[Qb fb,.int .i64 k.th,.int .i64 k.no,.int .i64 k.err,.bool k.ok,.int .u64 0,.int .u64 0,al,pv,vl,.int .u64 k.saw]
abbrev Q1 (kb fb:Nat) (pv vl al:Value) (k:Yl):List Blk:=[cl kb 184 (X1 fb pv vl al k)]
def qz2 (l:List Int):List Value:=l.map fun n=>.int .u64 n
def qwu (k:Yl) (vl al:Value) (g:List Blk):Prop:=Qu 30 1 vl k.left.length (qz2 k.left) g∧(if k.aset then al=vl else al=.slice none 0 0)
def qg1 (L:Lay) (kb:Nat) (pv:Value) (e:List Blk) (z:ZS) (gK gF:List Blk):Prop :=
 ∃ vl al gl gC gP,qwu z.k vl al gl∧Qf L z.x gC∧Xs L.p.pb z.p gP∧gK=Q1 kb L.fb pv vl al z.k++(gl++e)∧gF=gC++gP
def qj4 (kb:Nat) (e:List Blk) (fn:FuncId) (v:Value):Prop:=∃ bk,v=.func (.func fn) #[] #[Qb bk]∧cl bk 132 #[Qb kb]∈e
def qqc (kb:Nat) (e:List Blk) (fn:FuncId) (i:Int) (v:Value):Prop:=∃ bk bi,v=.func (.func fn) #[] #[Qb bk,Qb bi]∧cl bk 132 #[Qb kb]∈e∧cl bi 3 #[.int .i64 i]∈e
def VMS (kb:Nat) (e:List Blk) (f:MS) (v:Value) (g:List Blk):Prop:=g=[]∧match f with
 | .shuts=>v=.func (.func 90) #[Qb kb] #[]
 | .slots0=>qj4 kb e 118 v
 | .slots2 i=>qqc kb e 145 i v
 | .waits=>v=.func (.func 143) #[Qb kb] #[]
 | .looks1 i=>qqc kb e 171 i v
 | .leaves0 i=>qqc kb e 174 i v
 | .waits2=>qj4 kb e 170 v
def VAS (kb:Nat) (e:List Blk) (f:AS) (v:Value) (g:List Blk):Prop:=g=[]∧match f with
 | .ends1=>qj4 kb e 139 v
 | .pshut=>qj4 kb e 141 v
 | .release i=>qqc kb e 213 i v
 | .drop=>qj4 kb e 214 v
def VYS (kb:Nat) (e:List Blk) (f:YS) (v:Value) (g:List Blk):Prop:=g=[]∧match f with
 | .inside=>qj4 kb e 117 v
 | .idle=>qj4 kb e 168 v
def leE (e e':List Blk):Prop:=∀ b∈e,b∈e'
def qu1 (L:Lay) (kb:Nat) (pv:Value):qgl :=
 ⟨MS,AS,YS,ZS,List Blk,leE,qg1 L kb pv,VMS kb,VAS kb,VYS kb,Zn,Y3,qz4,qxd,qn5,fun _ z=>qba z⟩
theorem qj4.le {kb:Nat} {e e':List Blk} {fn:FuncId} {v:Value} (h:qj4 kb e fn v) (hl:leE e e'):qj4 kb e' fn v:=by
 obtain ⟨bk,h1,h2⟩:=h;exact ⟨bk,h1,hl _ h2⟩
theorem qqc.le {kb:Nat} {e e':List Blk} {fn:FuncId} {i:Int} {v:Value} (h:qqc kb e fn i v) (hl:leE e e'):qqc kb e' fn i v:=by
 obtain ⟨bk,bi,h1,h2,h3⟩:=h;exact ⟨bk,bi,h1,hl _ h2,hl _ h3⟩
theorem qj4.is {kb:Nat} {e:List Blk} {fn:FuncId} {v:Value} (h:qj4 kb e fn v):∃ fn first caps,v=.func (.func fn) first caps:=by
 obtain ⟨bk,h1,h2⟩:=h;exact ⟨_,_,_,h1⟩
theorem qqc.is {kb:Nat} {e:List Blk} {fn:FuncId} {i:Int} {v:Value} (h:qqc kb e fn i v):∃ fn first caps,v=.func (.func fn) first caps:=by
 obtain ⟨bk,bi,h1,h2,h3⟩:=h;exact ⟨_,_,_,h1⟩
theorem VMS.le {kb:Nat} {e e':List Blk} {f:MS} {v:Value} {g:List Blk} (hl:leE e e') (h:VMS kb e f v g):VMS kb e' f v g:=by
 refine ⟨h.1,?_⟩
 have:=h.2;cases f <;> first | exact this | exact qj4.le this hl | exact qqc.le this hl
theorem VAS.le {kb:Nat} {e e':List Blk} {f:AS} {v:Value} {g:List Blk} (hl:leE e e') (h:VAS kb e f v g):VAS kb e' f v g:=by
 refine ⟨h.1,?_⟩
 have:=h.2;cases f <;> first | exact qj4.le this hl | exact qqc.le this hl
theorem Z5 (L:Lay) (kb:Nat) (pv:Value) (e:List Blk):((qu1 L kb pv).on e).Vals where
 vm {f v g} h:=by
  have:=h.2;cases f <;> first | exact ⟨_,_,_,this⟩ | exact qj4.is this | exact qqc.is this
 va {f v g} h:=by
  have:=h.2;cases f <;> first | exact qj4.is this | exact qqc.is this
 vy {f v g} h:=by
  have:=h.2;cases f <;> exact qj4.is this
theorem leE.refl (e:List Blk):leE e e:=fun _ h=>h
theorem leE.app (e l:List Blk):leE e (e++l):=fun _ h=>List.mem_append_left _ h
def MRS (L:Lay) (kb:Nat) (pv:Value) (e:List Blk) (s:SS) (z:ZS) (en:Ending) (gs:GH):Prop :=
 ∃ e',leE e e'∧∃ m d g' gK' gF',en=.returned (.agg #[m,d])∧(qu1 L kb pv).SV e' s m d g'∧qg1 L kb pv e' z gK' gF'∧gs=[g',gK',gF']
def ARS (L:Lay) (kb:Nat) (pv:Value) (e:List Blk) (z:ZS) (en:Ending) (gs:GH):Prop :=
 ∃ e',leE e e'∧∃ gK' gF',en=.returned (.tuple #[])∧qg1 L kb pv e' z gK' gF'∧gs=[[],gK',gF']
def SRS (L:Lay) (kb:Nat) (pv:Value) (s:SS) (en:Ending) (g' l:List Blk):Prop :=
 ∃ m d,en=.returned (.agg #[m,d])∧∀ e,leE l e→(qu1 L kb pv).SV e s m d g'
theorem qd5 (f1 f2:FuncId) (a1 a2 c1 c2:Array Value):Qa prog 116 #[.func (.func f1) a1 c1,.func (.func f2) a2 c2] [] fun en gs=>en=.returned (.agg #[.func (.func f1) a1 c1,.func (.func f2) a2 c2])∧gs=[]:=by
 refine GO fun w HT=>?_
 go_enter func116,ntmps116
 go_wp2
 exact bodyPost_ret (v:=.agg #[_,_]) (by simp [results,results116,go_sem]) rfl ⟨_,⟨rfl,rfl⟩,HT.out.alloc0 _⟩
section
variable {L:Lay} {x:Qj} {g gK gF:List Blk} {kb:Nat} {pv vl al:Value} {k:Yl}
theorem qa1 (hx:Qf L x g) (E:EvS) (hn:x.tr.length≤1000000):Qa prog 91 #[Qb kb,.agg E.cells] [Q1 kb L.fb pv vl al k,g] fun e gs =>
 e=.returned (.tuple #[])∧∃ g',Qf L { x with tr:=x.tr++[evS k E] } g'∧gs=[Q1 kb L.fb pv vl al k,g']:=by
 refine GO fun w HT=>?_
 have HN:=Vh (qhr hx (evS k E) hn);have lt:=HT.out.lt 0 0 rfl;simp only [] at lt;obtain ⟨k0,k1,k2⟩:=Ce3 (HT.out.cell 0 0 rfl) 0 1 2;simp only [X1,GE3] at k0 k1 k2;clear hx hn;simp only [EvS.cells];go_enter func91,ntmps91
 go_wp2
 go_region
 go_wp2
 have HT:=Vh (HT.out.alloc (k:=w.heap.size) rfl 123 (evS k E).cells).drew;simp only [List.cons_append,List.nil_append] at HT;simp only [EvS.cells,evS] at HT;clear lt k1 k2 k0;generalize World.drew _=w1 at HT ⊢;have k0:=HT.out.cell 0 0 rfl 0;simp only [X1,GE3] at k0;obtain ⟨b0,b1,b2,b3,b4,b5,b6,b7⟩:=Ce8 (HT.out.cell 2 0 rfl) 0 1 2 3 4 5 6 7;obtain ⟨b8,b9⟩:=Ce2 (HT.out.cell 2 0 rfl) 8 9;simp only [GE4] at b0 b1 b2 b3 b4 b5 b6 b7 b8 b9;refine Qc 5 (by kernel_rfl) (by kernel_rfl) ?_
 simp only [TD4]
 repeat (go_big_quiet_step ((fail)))
 refine wpQuiet_nil (QE fun nq=>?_)
 have HT:=Vh (HT.out.drewN nq);go_wp2_with fail
 refine (Qa.use (HN.out) (HT.out) [1] rfl rfl).mono ?_
 rintro e w1 ⟨gs,⟨rfl,g',hx',rfl⟩,Ta⟩;simp only [PU] at Ta;have HX:=Vh hx';clear hx';have HT:=Vh Ta;clear Ta;go_wp2_with fail
 refine ⟨rfl,?_⟩
 go_wp2
 exact bodyPost_end (results_none rfl _ _ _) rfl ⟨_,⟨rfl,g',HX.out,rfl⟩,HT.out.pick [0,1] rfl⟩
theorem qws (L:Lay) (kb:Nat) (pv:Value):Qa prog 115 #[Qb kb] [] fun en gs=>∃ g' l,SRS L kb pv (.row1 .ends1) en g' l∧gs=[g',l]:=by
 refine GO fun w HT=>?_
 go_enter func115,ntmps115
 go_wp2_with fail
 refine Qa.run (Cli.row_1 (b:=w.heap.size+1+1) (o:=0) (D:=#[.func (.func 139) #[] #[Qb w.heap.size]]) rfl 1 (.inl rfl)) (((HT.out.alloc (k:=w.heap.size) rfl _ _).alloc (k:=w.heap.size+1) (by simp) _ _).alloc (k:=w.heap.size+1+1) (by simp) _ _) [2] ?_
 rintro e w1 gs ⟨bf,bl,bi,rfl,rfl⟩ HT;simp only [PU] at HT;obtain ⟨e0,e1⟩:=Ce2 (HT.out.cell 1 0 rfl) 0 1;obtain ⟨fe0,fe1⟩:=Ce2 (HT.out.free 1 0 rfl) 0 1;simp only [GE4] at e0 e1;go_wp2
 exact bodyPost_ret (v:=.agg #[.nilFunc,_]) (by simp [results,results115,go_sem,e0,e1]) rfl ⟨_,⟨_,[cl w.heap.size 132 #[Qb kb]],⟨_,_,rfl,fun e he=>⟨rfl,bf,bl,bi,w.heap.size+1+1,0,#[.func (.func 139) #[] #[Qb w.heap.size]],_,[],rfl,⟨rfl,w.heap.size,rfl,he _ (by simp)⟩,rfl,rfl⟩⟩,rfl⟩,(((HT.out.set 1 0 rfl 0 _).set 1 0 rfl 1 _).pick [2,3,4,5,0] rfl).sum⟩
theorem qq5 (L:Lay) (kb:Nat) (pv:Value) (i:Int):Qa prog 144 #[Qb kb,.int .i64 i] [] fun en gs=>∃ g' l,SRS L kb pv (qfw i) en g' l∧gs=[g',l]:=by
 refine GO fun w HT=>?_
 go_enter func144,ntmps144
 go_wp2
 exact bodyPost_ret (v:=.agg #[.nilFunc,_]) (by simp [results,results144,go_sem]) rfl ⟨_,⟨[],[cl w.heap.size 132 #[Qb kb],cl (w.heap.size+1) 3 #[.int .i64 i]],⟨_,_,rfl,fun e he=>⟨rfl,rfl,w.heap.size,w.heap.size+1,rfl,he _ (by simp),he _ (by simp)⟩⟩,rfl⟩,(((HT.out.alloc (k:=w.heap.size) rfl _ _).alloc (k:=w.heap.size+1) (by simp) _ _).alloc0 _).sum⟩
end
section
variable {L:Lay} {x:Qj} {p:Qy} {e gK gF:List Blk} {kb:Nat} {pv:Value} {k:Yl}
theorem q1g (hz:qg1 L kb pv e ⟨k,x,p⟩ gK gF) (hp:qxd .shuts ⟨k,x,p⟩):Qa prog 90 #[Qb kb] [gK,gF] (MRS L kb pv e (Zn .shuts ⟨k,x,p⟩).1 (Zn .shuts ⟨k,x,p⟩).2):=by
 have HLN:=Vh hp.1.core.tr;simp only at HLN;cases hc:x.f.closed with
 | true =>
   have he:Zn .shuts ⟨k,x,p⟩=(.row1 .ends1,⟨{ k with err:=3,ok:=false,aset:=false },{ x with tr:=x.tr++[evS k { ev0 with kind:=9,err:=3 }] },p⟩):=by
    unfold Zn ZS.note;simp only [hc,if_true]
   rw [he];clear he hp;unfold MRS;have hsame:({ x with f:={ x.f with closed:=true } }:Qj)=x:=by rw [← hc]
   obtain ⟨vl,al,gl,gC,gP,hl,hx,hpp,rfl,rfl⟩:=hz;refine GO fun w HT=>?_
   have HT:=Vh (HT.out.sum (H':=[Q1 kb L.fb pv vl al k,gl,e,gC,gP]));have HX:=Vh hx;have HL:=Vh hl;have HPP:=Vh hpp;clear hx hl hpp;have hsh:=qm8 HX.out;rw [hsame,hc] at hsh;have HSH:=Vh hsh;clear hsh hsame hc;have k0:=HT.out.cell 0 0 rfl 0;simp only [X1,GE3] at k0;have lt:=HT.out.lt 0 0 rfl;simp only [] at lt;go_enter func90,ntmps90
   go_wp2_with fail
   refine (Qa.use (HSH.out) ((HT.out.alloc (k:=w.heap.size) rfl _ _).alloc (k:=w.heap.size+1) (by simp) _ _) [3] rfl rfl).mono ?_
   rintro e w1 ⟨gs,⟨rfl,g1,hx1,rfl⟩,Ta⟩;simp only [PU] at Ta;have HX:=Vh hx1;have b0:=Ta.cell 5 0 rfl 0;clear hx1;have HT:=Vh Ta;clear Ta;simp only [GE2] at b0;go_wp2_with fail
   refine (Qa.use (qa1 HX.out { ev0 with kind:=9,err:=3 } HLN.out) (HT.out) [0,3] rfl rfl).mono ?_
   rintro e w1 ⟨gs,⟨rfl,g3,hx3,rfl⟩,Ta⟩;simp only [PU] at Ta;have HX:=Vh hx3;have b0:=Ta.cell 5 0 rfl 0;clear hx3 k0;have HT:=Vh Ta;clear Ta;obtain ⟨k3,k4,k5,k6,k7⟩:=Ce5 (HT.out.cell 0 0 rfl) 3 4 5 6 7;obtain ⟨fk3,fk4,fk5,fk6,fk7⟩:=Ce5 (HT.out.free 0 0 rfl) 3 4 5 6 7;simp only [X1,GE3] at k3 k4 k5 k6 k7;simp only [GE2] at b0;go_wp2_with fail
   refine Qa.run (qws L kb pv) (((((((HT.out.set 0 0 rfl 3 _).set 0 0 rfl 4 _).set 0 0 rfl 5 _).set 0 0 rfl 6 _).set 0 0 rfl 7 _).eq (H':=[Q1 kb L.fb pv vl (.slice none 0 0) { k with err:=3,ok:=false,aset:=false },gl,e,g3,gP,[cl w.heap.size 132 #[Qb kb]],[cl (w.heap.size+1) 180 #[.nilFunc,.nilFunc]]]) rfl)) [] ?_
   rintro e w1 gs ⟨g2,l2,⟨m2,d2,rfl,hs2⟩,rfl⟩ HT;simp only [PU] at HT;obtain ⟨r0,r1⟩:=Ce2 (HT.out.cell 6 0 rfl) 0 1;obtain ⟨fr0,fr1⟩:=Ce2 (HT.out.free 6 0 rfl) 0 1;simp only [GE4] at r0 r1;have hv2:=(Z5 L kb pv l2).vals (hs2 l2 (leE.refl _));obtain ⟨st1,st2⟩:=Cli.store_fv2 (P:=prog) hv2.1 hv2.2 r0 fr0 r1 fr1;have HS:=Vh hs2;clear hv2 hs2;go_wp2
   exact bodyPost_ret (v:=.agg #[_,_]) (by simp [results,results90,go_sem,r0,r1]) rfl ⟨_,⟨e++l2,leE.app _ _,m2,d2,g2,_,_,rfl,HS.out _ (fun b hb=>List.mem_append_right _ hb),⟨vl,(.slice none 0 0),gl,_,gP,⟨HL.out.1,rfl⟩,HX.out,HPP.out,rfl,rfl⟩,rfl⟩,(((HT.out.set 6 0 rfl 0 _).set 6 0 rfl 1 _).pick [7,0,1,2,8,3,4] rfl).sum⟩
 | false =>
   have he:Zn .shuts ⟨k,x,p⟩=(.at (some .inside) .slots0,⟨k,{ x with f:={ x.f with closed:=true },tr:=x.tr++[evS k { ev0 with kind:=10 }] },p⟩):=by
    unfold Zn ZS.note;simp [hc]
   rw [he];clear he hp;unfold MRS;obtain ⟨vl,al,gl,gC,gP,hl,hx,hpp,rfl,rfl⟩:=hz;refine GO fun w HT=>?_
   have HT:=Vh (HT.out.sum (H':=[Q1 kb L.fb pv vl al k,gl,e,gC,gP]));have HX:=Vh hx;have HL:=Vh hl;have HPP:=Vh hpp;clear hx hl hpp;have hsh:=qm8 HX.out;rw [hc] at hsh;have HSH:=Vh hsh;clear hsh hc;have k0:=HT.out.cell 0 0 rfl 0;simp only [X1,GE3] at k0;have lt:=HT.out.lt 0 0 rfl;simp only [] at lt;go_enter func90,ntmps90
   go_wp2_with fail
   refine (Qa.use (HSH.out) ((HT.out.alloc (k:=w.heap.size) rfl _ _).alloc (k:=w.heap.size+1) (by simp) _ _) [3] rfl rfl).mono ?_
   rintro e w1 ⟨gs,⟨rfl,g1,hx1,rfl⟩,Ta⟩;simp only [PU] at Ta;have HX:=Vh hx1;have b0:=Ta.cell 5 0 rfl 0;clear hx1;have HT:=Vh Ta;clear Ta;simp only [GE2] at b0;go_wp2_with fail
   refine (Qa.use (qa1 HX.out { ev0 with kind:=10 } HLN.out) (HT.out) [0,3] rfl rfl).mono ?_
   rintro e w1 ⟨gs,⟨rfl,g3,hx3,rfl⟩,Ta⟩;simp only [PU] at Ta;have HX:=Vh hx3;have b0:=Ta.cell 5 0 rfl 0;clear hx3 k0;have HT:=Vh Ta;clear Ta;simp only [GE2] at b0;go_wp2_with fail
   refine Qa.run (qd5 _ _ _ _ _ _) (HT.out) [] ?_
   rintro e w1 gs ⟨rfl,rfl⟩ HT;simp only [PU] at HT;obtain ⟨r0,r1⟩:=Ce2 (HT.out.cell 6 0 rfl) 0 1;obtain ⟨fr0,fr1⟩:=Ce2 (HT.out.free 6 0 rfl) 0 1;simp only [GE4] at r0 r1;go_wp2
   exact bodyPost_ret (v:=.agg #[_,_]) (by simp [results,results90,go_sem,r0,r1]) rfl ⟨_,⟨e++[cl w.heap.size 132 #[Qb kb]],leE.app _ _,_,_,[],_,_,rfl,⟨[],[],⟨rfl,w.heap.size,rfl,by simp⟩,⟨rfl,w.heap.size,rfl,by simp⟩,rfl⟩,⟨vl,al,gl,_,gP,HL.out,HX.out,HPP.out,rfl,rfl⟩,rfl⟩,(((HT.out.set 6 0 rfl 0 _).set 6 0 rfl 1 _).pick [0,1,2,5,3,4] rfl).sum⟩
end
theorem qjg (a b c d e f:Value) (w:World):(Instr.field 28 (.agg #[a,b,c,d,e,f]) 1).run prog w=.ok b w:=by kernel_rfl
section
variable {L:Lay} {x:Qj} {p:Qy} {e g gC gK gF:List Blk} {kb:Nat} {pv vl al:Value} {k:Yl}
theorem qw9 (hx:Qf L x gC) (ix:Int) (h0:0≤ix∧ix≤65):Qa prog 119 #[Qb kb,.int .i64 ix] [Q1 kb L.fb pv vl al k,gC] fun en gs =>
 ∃ g' l,SRS L kb pv (qbw ix ⟨k,x,p⟩) en g' l∧gs=[g',l,Q1 kb L.fb pv vl al k,gC]:=by
 have hcf:=qgn hx;simp only [Cfg.cells] at hcf;by_cases hi:x.f.cfg.cap≤ix
 ·have he:qbw ix ⟨k,x,p⟩=.thn (.row1 .pshut) .waits:=if_pos hi
  rw [he]
  have hrow:∀ (bk b bf bl bi:Nat),(qu1 L kb pv).SV [cl bk 132 #[Qb kb]] (.row1 .pshut) .nilFunc (.func (.func 166) #[] #[Qb bf,Qb bl,Qb bi])
   ([cl bf 1 #[.func (.func 141) #[] #[Qb bk]],cl bl 282 #[.slice (some ⟨b,0,none⟩) 1 1],cl bi 3 #[.int .i64 0],cl b 1 #[.func (.func 141) #[] #[Qb bk]]]++[]) :=
   fun bk b bf bl bi=>⟨rfl,bf,bl,bi,b,0,_,_,_,rfl,⟨rfl,bk,rfl,by simp⟩,rfl,rfl⟩
  have hthen:∀ (bk b bf bl bi:Nat),_:=fun bk b bf bl bi=>Cli.prog_then_x (c:=(qu1 L kb pv).on [cl bk 132 #[Qb kb]]) (f:=MS.waits) (v:=.func (.func 143) #[Qb kb] #[]) (gm:=[]) (Z5 L kb pv _) rfl (hrow bk b bf bl bi) ⟨rfl,rfl⟩
  have hfc:=fun w=>qjg (.int .i64 x.f.cfg.sh) (.int .i64 x.f.cfg.cap) (.int .i64 x.f.cfg.ring) (.int .i64 x.f.cfg.room) (.int .i64 x.f.cfg.wk) (.int .i64 x.f.cfg.cli) w
  refine GO fun w HT=>?_
  have HTH:=Vh hthen;have HCF:=Vh hcf;have k0:=HT.out.cell 0 0 rfl 0;simp only [X1,GE3] at k0;clear hrow hthen hcf hx he h0;go_enter func119,ntmps119
  go_wp2
  have HT:=Vh (((HT.out.alloc (k:=w.heap.size) rfl 132 #[Qb kb]).alloc (k:=w.heap.size+1) (by simp) 3 #[.int .i64 ix]).alloc (k:=w.heap.size+1+1) (by simp) 180 #[.nilFunc,.nilFunc]);clear k0;generalize World.alloc (World.alloc (World.alloc w _) _) _=w1 at HT ⊢;obtain ⟨ι,W,hW0,hend,hin⟩:∃ (ι:Type) (W:ι→World),(∃ i,World.drew w1=W i)∧(∀ i,∃ u:Unit,True∧TG [Q1 kb L.fb pv vl al k,gC] w [Q1 kb L.fb pv vl al k,gC,[cl w.heap.size 132 #[Qb kb]],[cl (w.heap.size+1) 3 #[.int .i64 ix]],[cl (w.heap.size+1+1) 180 #[.nilFunc,.nilFunc]]] (W i))∧(∀ w',(∃ u:Unit,True∧TG [Q1 kb L.fb pv vl al k,gC] w [Q1 kb L.fb pv vl al k,gC,[cl w.heap.size 132 #[Qb kb]],[cl (w.heap.size+1) 3 #[.int .i64 ix]],[cl (w.heap.size+1+1) 180 #[.nilFunc,.nilFunc]]] w')→∃ i,w'=W i):=⟨{w' // ∃ u:Unit,True∧TG [Q1 kb L.fb pv vl al k,gC] w [Q1 kb L.fb pv vl al k,gC,[cl w.heap.size 132 #[Qb kb]],[cl (w.heap.size+1) 3 #[.int .i64 ix]],[cl (w.heap.size+1+1) 180 #[.nilFunc,.nilFunc]]] w'},Subtype.val,⟨⟨_,(),trivial,HT.out.drew⟩,rfl⟩,fun i=>i.2,fun w' h=>⟨⟨w',h⟩,rfl⟩⟩;have hne:Nonempty ι:=hW0.elim fun i _=>⟨i⟩
  have k0:∀ i,(W i).cell? ⟨kb,0,none⟩=some (Qb L.fb):=fun i=>by obtain ⟨_,_,T⟩:=hend i;exact T.cell 0 0 rfl 0
  have a0:∀ i,(W i).cell? ⟨w.heap.size,0,none⟩=some (Qb kb):=fun i=>by obtain ⟨_,_,T⟩:=hend i;exact T.cell 2 0 rfl 0
  have b0:∀ i,(W i).cell? ⟨w.heap.size+1,0,none⟩=some (.int .i64 ix):=fun i=>by obtain ⟨_,_,T⟩:=hend i;exact T.cell 3 0 rfl 0
  have m1:∀ i,Calls prog 109 #[Qb L.fb] (W i) fun e w2=>e=.returned (.agg #[.int .i64 x.f.cfg.sh,.int .i64 x.f.cfg.cap,.int .i64 x.f.cfg.ring,.int .i64 x.f.cfg.room,.int .i64 x.f.cfg.wk,.int .i64 x.f.cfg.cli])∧∃ j,w2=W j:=fun i=>by
   obtain ⟨_,_,T⟩:=hend i;refine (Qa.use (HCF.out) T [1] rfl rfl).mono ?_
   rintro e w2 ⟨gs,⟨rfl,rfl⟩,T2⟩;exact ⟨rfl,hin _ ⟨(),trivial,T2⟩⟩
  refine Z9 W (by kernel_rfl) (by kernel_rfl) hW0 ?_
  repeat (go_big_quiet_step ((first | (go_at_call 109;with_reducible exact m1 _))))
  refine wpQuiet_nil ?_
  intro _ hw;obtain ⟨iq,hw2⟩:=hw;subst hw2;obtain ⟨_,_,T⟩:=hend iq;have HT:=Vh T;generalize W iq=w1 at HT ⊢;clear T hend hin hW0 hne;clear k0 a0 b0 m1;go_wp2_with fail
  have lt1:=HT.out.lt 2 0 rfl;have lt2:=HT.out.lt 4 0 rfl;simp only [] at lt1 lt2;have bb0:=HT.out.cell 2 0 rfl 0;simp only [GE4] at bb0
  go_region_with (first
   | (go_at_call 138
      refine (Qa.use (Cli.row_1 (b:=w1.heap.size) (o:=0) (D:=#[.func (.func 141) #[] #[Qb w.heap.size]]) rfl 1 (.inl rfl)) (HT.out.drew.alloc (k:=w1.heap.size) (by simp) _ _) [5] rfl rfl).mono ?_
      rintro e w2 ⟨gs,⟨bf,bl,bi,rfl,rfl⟩,Ta⟩;simp only [PU] at Ta;have b0:=Ta.cell 2 0 rfl 0;simp only [GE2] at b0;have HT1:=Vh (Ta.sum (H':=[[cl bf 1 #[.func (.func 141) #[] #[Qb w.heap.size]],cl bl 282 #[.slice (some ⟨w1.heap.size,0,none⟩) 1 1],cl bi 3 #[.int .i64 0],cl w1.heap.size 1 #[.func (.func 141) #[] #[Qb w.heap.size]]]++[],[],[cl w.heap.size 132 #[Qb kb]],Q1 kb L.fb pv vl al k,gC,[cl (w.heap.size+1+1) 180 #[.nilFunc,.nilFunc]],[cl (w.heap.size+1) 3 #[.int .i64 ix]]]))
      clear Ta)
   | (go_at_call 140
      refine (Qa.use (HTH.out w.heap.size w1.heap.size bf bl bi) HT1.out [0,1] rfl rfl).mono ?_
      rintro e w3 ⟨gs,⟨bs,br,rfl,rfl⟩,Ta⟩;simp only [PU] at Ta;obtain ⟨e0,e1⟩:=Ce2 (Ta.cell 5 0 rfl) 0 1;obtain ⟨f0,f1⟩:=Ce2 (Ta.free 5 0 rfl) 0 1;have HT2:=Vh Ta
      clear Ta))
  all_goals
   go_wp2
   exact bodyPost_ret (v:=.agg #[_,_]) (by simp [results,results119,go_sem,e0,e1]) rfl ⟨_,⟨_,[cl w.heap.size 132 #[Qb kb]],⟨_,_,rfl,fun e he=>⟨bs,br,_,_,_,[],rfl,rfl,⟨rfl,bf,bl,bi,w1.heap.size,0,#[.func (.func 141) #[] #[Qb w.heap.size]],_,[],rfl,⟨rfl,w.heap.size,rfl,he _ (by simp)⟩,rfl,rfl⟩,⟨rfl,rfl⟩,rfl⟩⟩,rfl⟩,(((HT2.out.set 5 0 rfl 0 _).set 5 0 rfl 1 _).pick [0,2,3,4] rfl).sum⟩
 ·have he:qbw ix ⟨k,x,p⟩=.thn (qfw ix) (.slots2 ix):=if_neg hi
  rw [he];have hi2:ix<x.f.cfg.cap:=by omega
  have hfc:=fun w=>qjg (.int .i64 x.f.cfg.sh) (.int .i64 x.f.cfg.cap) (.int .i64 x.f.cfg.ring) (.int .i64 x.f.cfg.room) (.int .i64 x.f.cfg.wk) (.int .i64 x.f.cfg.cli) w
  refine GO fun w HT=>?_
  have HCF:=Vh hcf;have k0:=HT.out.cell 0 0 rfl 0;simp only [X1,GE3] at k0;clear hcf hx he h0;go_enter func119,ntmps119
  go_wp2
  have HT:=Vh (((HT.out.alloc (k:=w.heap.size) rfl 132 #[Qb kb]).alloc (k:=w.heap.size+1) (by simp) 3 #[.int .i64 ix]).alloc (k:=w.heap.size+1+1) (by simp) 180 #[.nilFunc,.nilFunc]);clear k0;generalize World.alloc (World.alloc (World.alloc w _) _) _=w1 at HT ⊢;obtain ⟨ι,W,hW0,hend,hin⟩:∃ (ι:Type) (W:ι→World),(∃ i,World.drew w1=W i)∧(∀ i,∃ u:Unit,True∧TG [Q1 kb L.fb pv vl al k,gC] w [Q1 kb L.fb pv vl al k,gC,[cl w.heap.size 132 #[Qb kb]],[cl (w.heap.size+1) 3 #[.int .i64 ix]],[cl (w.heap.size+1+1) 180 #[.nilFunc,.nilFunc]]] (W i))∧(∀ w',(∃ u:Unit,True∧TG [Q1 kb L.fb pv vl al k,gC] w [Q1 kb L.fb pv vl al k,gC,[cl w.heap.size 132 #[Qb kb]],[cl (w.heap.size+1) 3 #[.int .i64 ix]],[cl (w.heap.size+1+1) 180 #[.nilFunc,.nilFunc]]] w')→∃ i,w'=W i):=⟨{w' // ∃ u:Unit,True∧TG [Q1 kb L.fb pv vl al k,gC] w [Q1 kb L.fb pv vl al k,gC,[cl w.heap.size 132 #[Qb kb]],[cl (w.heap.size+1) 3 #[.int .i64 ix]],[cl (w.heap.size+1+1) 180 #[.nilFunc,.nilFunc]]] w'},Subtype.val,⟨⟨_,(),trivial,HT.out.drew⟩,rfl⟩,fun i=>i.2,fun w' h=>⟨⟨w',h⟩,rfl⟩⟩;have hne:Nonempty ι:=hW0.elim fun i _=>⟨i⟩
  have k0:∀ i,(W i).cell? ⟨kb,0,none⟩=some (Qb L.fb):=fun i=>by obtain ⟨_,_,T⟩:=hend i;exact T.cell 0 0 rfl 0
  have a0:∀ i,(W i).cell? ⟨w.heap.size,0,none⟩=some (Qb kb):=fun i=>by obtain ⟨_,_,T⟩:=hend i;exact T.cell 2 0 rfl 0
  have b0:∀ i,(W i).cell? ⟨w.heap.size+1,0,none⟩=some (.int .i64 ix):=fun i=>by obtain ⟨_,_,T⟩:=hend i;exact T.cell 3 0 rfl 0
  have m1:∀ i,Calls prog 109 #[Qb L.fb] (W i) fun e w2=>e=.returned (.agg #[.int .i64 x.f.cfg.sh,.int .i64 x.f.cfg.cap,.int .i64 x.f.cfg.ring,.int .i64 x.f.cfg.room,.int .i64 x.f.cfg.wk,.int .i64 x.f.cfg.cli])∧∃ j,w2=W j:=fun i=>by
   obtain ⟨_,_,T⟩:=hend i;refine (Qa.use (HCF.out) T [1] rfl rfl).mono ?_
   rintro e w2 ⟨gs,⟨rfl,rfl⟩,T2⟩;exact ⟨rfl,hin _ ⟨(),trivial,T2⟩⟩
  refine Z9 W (by kernel_rfl) (by kernel_rfl) hW0 ?_
  repeat (go_big_quiet_step ((first | (go_at_call 109;with_reducible exact m1 _))))
  refine wpQuiet_nil ?_
  intro _ hw;obtain ⟨iq,hw2⟩:=hw;subst hw2;obtain ⟨_,_,T⟩:=hend iq;have HT:=Vh T;generalize W iq=w1 at HT ⊢;clear T hend hin hW0 hne;clear k0 a0 b0 m1
  all_goals
   skip
   have a0:=HT.out.cell 2 0 rfl 0;simp only [GE4] at a0;have b0:=HT.out.cell 3 0 rfl 0;simp only [GE4] at b0;go_wp2_with fail
   refine (Qa.use (qq5 L kb pv ix) (HT.out) [] rfl rfl).mono ?_
   rintro e w1 ⟨gs,⟨g2,l2,⟨m2,d2,rfl,hs2⟩,rfl⟩,Ta⟩;simp only [PU] at Ta;have HS2:=Vh hs2;clear hs2 a0 b0;have HT:=Vh Ta;clear Ta;go_wp2_with fail
   refine Qa.run (Cli.prog_then_x (c:=(qu1 L kb pv).on (l2++[cl w.heap.size 132 #[Qb kb],cl (w.heap.size+1) 3 #[.int .i64 ix]])) (f:=MS.slots2 ix) (v:=.func (.func 145) #[] #[Qb w.heap.size,Qb (w.heap.size+1)]) (gm:=[]) (Z5 L kb pv _) rfl (HS2.out _ (fun b hb=>List.mem_append_left _ hb)) ⟨rfl,w.heap.size,w.heap.size+1,rfl,by simp,by simp⟩) (HT.out.sum (H':=[Q1 kb L.fb pv vl al k,gC,[cl w.heap.size 132 #[Qb kb]],[cl (w.heap.size+1) 3 #[.int .i64 ix]],[cl (w.heap.size+1+1) 180 #[.nilFunc,.nilFunc]],g2,l2,[]])) [5,7] ?_
   rintro e w1 gs ⟨bs,br,rfl,rfl⟩ HT;simp only [PU] at HT;obtain ⟨r0,r1⟩:=Ce2 (HT.out.cell 4 0 rfl) 0 1;obtain ⟨fr0,fr1⟩:=Ce2 (HT.out.free 4 0 rfl) 0 1;simp only [GE4] at r0 r1;have hv2:=(Z5 L kb pv l2).vals (HS2.out l2 (leE.refl _));obtain ⟨st1,st2⟩:=Cli.store_fv2 (P:=prog) hv2.1 (.inr ⟨_,_,_,rfl⟩:Cli.isFv (.func (.func 167) #[] #[Qb bs,Qb br])) r0 fr0 r1 fr1;clear hv2;go_wp2
   exact bodyPost_ret (v:=.agg #[_,_]) (by simp [results,results119,go_sem,r0,r1]) rfl ⟨_,⟨_,l2++[cl w.heap.size 132 #[Qb kb],cl (w.heap.size+1) 3 #[.int .i64 ix]],⟨_,_,rfl,fun e he=>⟨bs,br,d2,_,g2,[],rfl,rfl,HS2.out _ (fun b hb=>he _ (List.mem_append_left _ hb)),⟨rfl,w.heap.size,w.heap.size+1,rfl,he _ (by simp),he _ (by simp)⟩,rfl⟩⟩,rfl⟩,(((HT.out.set 4 0 rfl 0 _).set 4 0 rfl 1 _).pick [5,6,2,3,0,1] rfl).sum⟩
end
section
variable {L:Lay} {x:Qj} {p:Qy} {e gK gF:List Blk} {kb:Nat} {pv:Value} {k:Yl}
theorem qzh (hz:qg1 L kb pv e ⟨k,x,p⟩ gK gF) (hp:qxd .slots0 ⟨k,x,p⟩) (bk:Nat) (hb:cl bk 132 #[Qb kb]∈e):Qa prog 118 #[Qb bk] [gK,gF] (MRS L kb pv e (Zn .slots0 ⟨k,x,p⟩).1 (Zn .slots0 ⟨k,x,p⟩).2):=by
 clear hp;unfold MRS;dsimp only [Zn]
 obtain ⟨vl,al,gl,gC,gP,hl,hx,hpp,rfl,rfl⟩:=hz;refine GO fun w HT=>?_
 have HT:=Vh (HT.out.sum (H':=[Q1 kb L.fb pv vl al k,gl,e,gC,gP]));have HX:=Vh hx;have HL:=Vh hl;have HPP:=Vh hpp;clear hx hl hpp;have ltb:=HT.out.mem_lt 2 hb;simp only [] at ltb;have b0:=HT.out.mem_cell 2 hb 0;simp only [GE2] at b0;have HSL:=Vh (qw9 (p:=p) (kb:=kb) (pv:=pv) (vl:=vl) (al:=al) (k:=k) HX.out 0 (by decide));clear hb;go_enter func118,ntmps118
 go_wp2_with fail
 refine (Qa.use (HSL.out) (HT.out.alloc (k:=w.heap.size) rfl _ _) [0,3] rfl rfl).mono ?_
 rintro e w1 ⟨gs,⟨g2,l2,⟨m2,d2,rfl,hs2⟩,rfl⟩,Ta⟩;simp only [PU] at Ta;clear b0;have HT:=Vh Ta;clear Ta;obtain ⟨r0,r1⟩:=Ce2 (HT.out.cell 5 0 rfl) 0 1;obtain ⟨fr0,fr1⟩:=Ce2 (HT.out.free 5 0 rfl) 0 1;simp only [GE4] at r0 r1;have hv2:=(Z5 L kb pv l2).vals (hs2 l2 (leE.refl _));obtain ⟨st1,st2⟩:=Cli.store_fv2 (P:=prog) hv2.1 hv2.2 r0 fr0 r1 fr1;have HS:=Vh hs2;clear hv2 hs2;go_wp2
 exact bodyPost_ret (v:=.agg #[_,_]) (by simp [results,results118,go_sem,r0,r1]) rfl ⟨_,⟨e++l2,leE.app _ _,m2,d2,g2,_,_,rfl,HS.out _ (fun b hb=>List.mem_append_right _ hb),⟨vl,al,gl,gC,gP,HL.out,HX.out,HPP.out,rfl,rfl⟩,rfl⟩,(((HT.out.set 5 0 rfl 0 _).set 5 0 rfl 1 _).pick [0,6,1,2,7,3,4] rfl).sum⟩
theorem qze (i:Int) (hz:qg1 L kb pv e ⟨k,x,p⟩ gK gF) (hp:qxd (.slots2 i) ⟨k,x,p⟩) (bk bi:Nat) (hb:cl bk 132 #[Qb kb]∈e) (hbi:cl bi 3 #[.int .i64 i]∈e):Qa prog 145 #[Qb bk,Qb bi] [gK,gF] (MRS L kb pv e (Zn (.slots2 i) ⟨k,x,p⟩).1 (Zn (.slots2 i) ⟨k,x,p⟩).2):=by
 obtain ⟨_,hi0,hi1⟩:=hp;unfold MRS;dsimp only [Zn]
 obtain ⟨vl,al,gl,gC,gP,hl,hx,hpp,rfl,rfl⟩:=hz;refine GO fun w HT=>?_
 have HT:=Vh (HT.out.sum (H':=[Q1 kb L.fb pv vl al k,gl,e,gC,gP]));have HX:=Vh hx;have HL:=Vh hl;have HPP:=Vh hpp;clear hx hl hpp;have ltb:=HT.out.mem_lt 2 hb;have lti:=HT.out.mem_lt 2 hbi;simp only [] at ltb lti;have b0:=HT.out.mem_cell 2 hb 0;have i0:=HT.out.mem_cell 2 hbi 0;simp only [GE2] at b0 i0;have HSL:=Vh (qw9 (p:=p) (kb:=kb) (pv:=pv) (vl:=vl) (al:=al) (k:=k) HX.out (i+1) (by omega));clear hb hbi;go_enter func145,ntmps145
 go_wp2_with fail
 refine (Qa.use (HSL.out) (HT.out.alloc (k:=w.heap.size) rfl _ _) [0,3] rfl rfl).mono ?_
 rintro e w1 ⟨gs,⟨g2,l2,⟨m2,d2,rfl,hs2⟩,rfl⟩,Ta⟩;simp only [PU] at Ta;clear b0 i0;have HT:=Vh Ta;clear Ta;obtain ⟨r0,r1⟩:=Ce2 (HT.out.cell 5 0 rfl) 0 1;obtain ⟨fr0,fr1⟩:=Ce2 (HT.out.free 5 0 rfl) 0 1;simp only [GE4] at r0 r1;have hv2:=(Z5 L kb pv l2).vals (hs2 l2 (leE.refl _));obtain ⟨st1,st2⟩:=Cli.store_fv2 (P:=prog) hv2.1 hv2.2 r0 fr0 r1 fr1;have HS:=Vh hs2;clear hv2 hs2;go_wp2
 exact bodyPost_ret (v:=.agg #[_,_]) (by simp [results,results145,go_sem,r0,r1]) rfl ⟨_,⟨e++l2,leE.app _ _,m2,d2,g2,_,_,rfl,HS.out _ (fun b hb=>List.mem_append_right _ hb),⟨vl,al,gl,gC,gP,HL.out,HX.out,HPP.out,rfl,rfl⟩,rfl⟩,(((HT.out.set 5 0 rfl 0 _).set 5 0 rfl 1 _).pick [0,6,1,2,7,3,4] rfl).sum⟩
theorem q1l (hz:qg1 L kb pv e ⟨k,x,p⟩ gK gF):Qa prog 143 #[Qb kb] [gK,gF] (MRS L kb pv e (Zn .waits ⟨k,x,p⟩).1 (Zn .waits ⟨k,x,p⟩).2):=by
 unfold MRS;dsimp only [Zn]
 obtain ⟨vl,al,gl,gC,gP,hl,hx,hpp,rfl,rfl⟩:=hz;refine GO fun w HT=>?_
 have HT:=Vh (HT.out.sum (H':=[Q1 kb L.fb pv vl al k,gl,e,gC,gP]));have HX:=Vh hx;have HL:=Vh hl;have HPP:=Vh hpp;clear hx hl hpp;go_enter func143,ntmps143
 go_wp2_with fail
 refine Qa.run (qd5 _ _ _ _ _ _) ((HT.out.alloc (k:=w.heap.size) rfl _ _).alloc (k:=w.heap.size+1) (by simp) _ _) [] ?_
 rintro e w1 gs ⟨rfl,rfl⟩ HT;simp only [PU] at HT;obtain ⟨r0,r1⟩:=Ce2 (HT.out.cell 6 0 rfl) 0 1;obtain ⟨fr0,fr1⟩:=Ce2 (HT.out.free 6 0 rfl) 0 1;simp only [GE4] at r0 r1;go_wp2
 exact bodyPost_ret (v:=.agg #[_,_]) (by simp [results,results143,go_sem,r0,r1]) rfl ⟨_,⟨e++[cl w.heap.size 132 #[Qb kb]],leE.app _ _,_,_,[],_,_,rfl,⟨[],[],⟨rfl,w.heap.size,rfl,by simp⟩,⟨rfl,w.heap.size,rfl,by simp⟩,rfl⟩,⟨vl,al,gl,_,gP,HL.out,HX.out,HPP.out,rfl,rfl⟩,rfl⟩,(((HT.out.set 6 0 rfl 0 _).set 6 0 rfl 1 _).pick [0,1,2,5,3,4] rfl).sum⟩
theorem qyx (hz:qg1 L kb pv e ⟨k,x,p⟩ gK gF) (hp:qxd .waits2 ⟨k,x,p⟩) (bk:Nat) (hb:cl bk 132 #[Qb kb]∈e):Qa prog 170 #[Qb bk] [gK,gF] (MRS L kb pv e (Zn .waits2 ⟨k,x,p⟩).1 (Zn .waits2 ⟨k,x,p⟩).2):=by
 have HLN:=Vh hp.1.core.tr;simp only at HLN;clear hp;unfold MRS;dsimp only [Zn,ZS.note]
 obtain ⟨vl,al,gl,gC,gP,hl,hx,hpp,rfl,rfl⟩:=hz;refine GO fun w HT=>?_
 have HT:=Vh (HT.out.sum (H':=[Q1 kb L.fb pv vl al k,gl,e,gC,gP]));have HX:=Vh hx;have HL:=Vh hl;have HPP:=Vh hpp;clear hx hl hpp;have ltb:=HT.out.mem_lt 2 hb;simp only [] at ltb;have b0:=HT.out.mem_cell 2 hb 0;simp only [GE2] at b0;have HB:=Vh hb;clear hb;obtain ⟨av,cap,hvl⟩:=Qu.val HL.out.1;subst hvl;go_enter func170,ntmps170
 go_wp2_with fail
 refine (Qa.use (qa1 HX.out { ev0 with kind:=13 } HLN.out) (HT.out.alloc (k:=w.heap.size) rfl _ _) [0,3] rfl rfl).mono ?_
 rintro e w1 ⟨gs,⟨rfl,g3,hx3,rfl⟩,Ta⟩;simp only [PU] at Ta;have HX:=Vh hx3;clear hx3 b0;have HT:=Vh Ta;clear Ta;have b0:=HT.out.mem_cell 2 HB.out 0;simp only [GE2] at b0;obtain ⟨k3,k4,k5,k6,k7,k9⟩:=Ce6 (HT.out.cell 0 0 rfl) 3 4 5 6 7 9;obtain ⟨fk3,fk4,fk5,fk6,fk7⟩:=Ce5 (HT.out.free 0 0 rfl) 3 4 5 6 7;simp only [X1,GE3] at k3 k4 k5 k6 k7 k9;go_wp2
 go_region
 go_wp2_with fail
 refine (Qa.use (qws L kb pv) (((((((HT.out.set 0 0 rfl 3 (.int .i64 0)).set 0 0 rfl 4 (.bool true)).set 0 0 rfl 5 (.int .u64 0)).set 0 0 rfl 6 (.int .u64 0)).set 0 0 rfl 7 (.slice av k.left.length cap)).eq (H':=[Q1 kb L.fb pv (.slice av k.left.length cap) (.slice av k.left.length cap) { k with err:=0,ok:=true,aset:=true },gl,e,g3,gP,[cl w.heap.size 180 #[.nilFunc,.nilFunc]]]) rfl).drew) [] rfl rfl).mono ?_
 rintro e w1 ⟨gs,⟨g2,l2,⟨m2,d2,rfl,hs2⟩,rfl⟩,Ta⟩;simp only [PU] at Ta;clear b0 k3 fk3 k4 fk4 k5 fk5 k6 fk6 k7 fk7 k9;have HT:=Vh Ta;clear Ta;obtain ⟨r0,r1⟩:=Ce2 (HT.out.cell 5 0 rfl) 0 1;obtain ⟨fr0,fr1⟩:=Ce2 (HT.out.free 5 0 rfl) 0 1;simp only [GE4] at r0 r1;have hv2:=(Z5 L kb pv l2).vals (hs2 l2 (leE.refl _));obtain ⟨st1,st2⟩:=Cli.store_fv2 (P:=prog) hv2.1 hv2.2 r0 fr0 r1 fr1;have HS:=Vh hs2;clear hv2 hs2;go_wp2
 exact bodyPost_ret (v:=.agg #[_,_]) (by simp [results,results170,go_sem,r0,r1]) rfl ⟨_,⟨e++l2,leE.app _ _,m2,d2,g2,_,_,rfl,HS.out _ (fun b hb=>List.mem_append_right _ hb),⟨.slice av k.left.length cap,.slice av k.left.length cap,gl,g3,gP,⟨HL.out.1,rfl⟩,HX.out,HPP.out,rfl,rfl⟩,rfl⟩,(((HT.out.set 5 0 rfl 0 _).set 5 0 rfl 1 _).pick [6,0,1,2,7,3,4] rfl).sum⟩
end
theorem Tryz.infoU64:(prog.info? 30).map (fun i=>(i.zero,i.size,i.bytes))=some (some (.int .u64 0),1,8):=by kernel_rfl
section
variable {L:Lay} {x:Qj} {p:Qy} {e gl gC gK gF:List Blk} {kb:Nat} {pv vl al:Value} {k:Yl}
theorem qyn (ix:Int) (hz:qg1 L kb pv e ⟨k,x,p⟩ gK gF) (hp:qxd (.looks1 ix) ⟨k,x,p⟩) (bk bi:Nat) (hb:cl bk 132 #[Qb kb]∈e) (hbi:cl bi 3 #[.int .i64 ix]∈e):Qa prog 171 #[Qb bk,Qb bi] [gK,gF] (MRS L kb pv e (Zn (.looks1 ix) ⟨k,x,p⟩).1 (Zn (.looks1 ix) ⟨k,x,p⟩).2):=by
 have hok:=hp.1.core;simp only at hok;have HWB:=Vh (J5 hok.slab ix);have HWD:=Vh (show ∀ g',Qf L x g'→_ from fun g' hx'=>q8 (g:=g') hx' hok.slab.n1 ix);unfold MRS;dsimp only [Zn,qk5]
 obtain ⟨wd,hwd⟩:∃ wd,wd=x.slab.word ix:=⟨_,rfl⟩;rw [← hwd] at HWB HWD ⊢;clear hok hp hwd;obtain ⟨st,hst⟩:∃ st,st=stW wd:=⟨_,rfl⟩;have HST:=Vh hst;rw [← hst];clear hst;by_cases h23:st=2∨st=3
 ·rw [if_pos h23]
  dsimp only
  rcases h23 with rfl | rfl
  ·obtain ⟨vl,al,gl,gC,gP,hl,hx,hpp,rfl,rfl⟩:=hz
   refine GO fun w HT=>?_
   have HT:=Vh (HT.out.sum (H':=[Q1 kb L.fb pv vl al k,gl,e,gC,gP]));have HX:=Vh hx;have HL:=Vh hl;have HPP:=Vh hpp;clear hx hl hpp;have HB:=Vh hb;have HBI:=Vh hbi;clear hb hbi;have b0:=HT.out.mem_cell 2 HB.out 0;have i0:=HT.out.mem_cell 2 HBI.out 0;simp only [GE2] at b0 i0;have k0:=HT.out.cell 0 0 rfl 0;simp only [X1,GE3] at k0;go_enter func171,ntmps171
   go_wp2_with fail
   have HT:=Vh (HT.out.alloc (k:=w.heap.size) rfl 180 #[.nilFunc,.nilFunc]);clear k0 b0 i0;generalize w.alloc _=w1 at HT ⊢;have b0:=HT.out.mem_cell 2 HB.out 0;have i0:=HT.out.mem_cell 2 HBI.out 0;simp only [GE2] at b0 i0;have k0:=HT.out.cell 0 0 rfl 0;simp only [X1,GE3] at k0;clear b0 i0 k0;obtain ⟨ι,W,hW0,hend,hin⟩:∃ (ι:Type) (W:ι→World),(∃ i,World.drew w1=W i)∧(∀ i,∃ gx,Qf L x gx∧TG [Q1 kb L.fb pv vl al k++(gl++e),gC++gP] w [Q1 kb L.fb pv vl al k,gl,e,gx,gP,[cl w.heap.size 180 #[.nilFunc,.nilFunc]]] (W i))∧(∀ w',(∃ gx,Qf L x gx∧TG [Q1 kb L.fb pv vl al k++(gl++e),gC++gP] w [Q1 kb L.fb pv vl al k,gl,e,gx,gP,[cl w.heap.size 180 #[.nilFunc,.nilFunc]]] w')→∃ i,w'=W i):=⟨{w' // ∃ gx,Qf L x gx∧TG [Q1 kb L.fb pv vl al k++(gl++e),gC++gP] w [Q1 kb L.fb pv vl al k,gl,e,gx,gP,[cl w.heap.size 180 #[.nilFunc,.nilFunc]]] w'},Subtype.val,⟨⟨_,gC,HX.out,HT.out.drew⟩,rfl⟩,fun i=>i.2,fun w' h=>⟨⟨w',h⟩,rfl⟩⟩;have hne:Nonempty ι:=hW0.elim fun i _=>⟨i⟩
   have k0:∀ i,(W i).cell? ⟨kb,0,none⟩=some (Qb L.fb):=fun i=>by obtain ⟨_,_,T⟩:=hend i;exact T.cell 0 0 rfl 0
   have b0:∀ i,(W i).cell? ⟨bk,0,none⟩=some (Qb kb):=fun i=>by obtain ⟨_,_,T⟩:=hend i;exact T.mem_cell 2 HB.out 0
   have i0:∀ i,(W i).cell? ⟨bi,0,none⟩=some (.int .i64 ix):=fun i=>by obtain ⟨_,_,T⟩:=hend i;exact T.mem_cell 2 HBI.out 0
   have m1:∀ i,Calls prog 124 #[Qb L.fb] (W i) fun e w2=>e=.returned (Qb L.p.sb)∧∃ j,w2=W j:=fun i=>by
    obtain ⟨_,hg,T⟩:=hend i;refine (Qa.use ((Qk hg).does) T [3] rfl rfl).mono ?_
    rintro e w2 ⟨gs,⟨rfl,rfl⟩,T2⟩;exact ⟨rfl,hin _ ⟨_,hg,T2⟩⟩
   have m2:∀ i,Calls prog 172 #[Qb L.p.sb,.int .i64 ix] (W i) fun e w2=>e=.returned (.tuple #[.int .u64 wd,.int .i64 (x.slab.werr ix)])∧∃ j,w2=W j:=fun i=>by
    obtain ⟨_,hg,T⟩:=hend i;refine (Qa.use (HWD.out _ hg) T [3] rfl rfl).mono ?_
    rintro e w2 ⟨gs,⟨rfl,g3,hg3,rfl⟩,T2⟩;exact ⟨rfl,hin _ ⟨g3,hg3,T2⟩⟩
   refine Zk (fun w'=>∃ i,w'=W i) 13 (by kernel_rfl) (by kernel_rfl) hW0 ?_
   simp only [TD4]
   repeat (go_big_quiet_step ((first | (go_at_call 124;with_reducible exact m1 _) | (go_at_call 172;with_reducible exact m2 _))))
   refine wpQuiet_nil ?_
   intro _ hw';obtain ⟨iq,hw''⟩:=hw';subst hw'';obtain ⟨g1,hx1,T⟩:=hend iq;have HT:=Vh T;generalize W iq=w1 at HT ⊢;clear T hend hin hW0 hne;have HX1:=Vh hx1;clear hx1 k0 b0 i0 m1 m2;have k10:=HT.out.cell 0 0 rfl 10;have fk10:=HT.out.free 0 0 rfl 10;simp only [X1,GE3] at k10;go_wp2_with fail
   refine ⟨rfl,?_⟩
   have HT:=Vh ((HT.out.set 0 0 rfl 10 (.int .u64 wd)).eq (H':=[Q1 kb L.fb pv vl al { k with saw:=wd },gl,e,g1,gP,[cl w.heap.size 180 #[.nilFunc,.nilFunc]]]) rfl);clear k10 fk10;generalize World.setCell _ _ _=w5 at HT ⊢;have b0:=HT.out.mem_cell 2 HB.out 0;have i0:=HT.out.mem_cell 2 HBI.out 0;simp only [GE2] at b0 i0;have k10:=HT.out.cell 0 0 rfl 10;simp only [X1,GE3] at k10;obtain ⟨r0,r1⟩:=Ce2 (HT.out.cell 5 0 rfl) 0 1;obtain ⟨fr0,fr1⟩:=Ce2 (HT.out.free 5 0 rfl) 0 1;simp only [GE4] at r0 r1;go_wp2_with (go_at_call 173;refine (Yv _ _ HWB.out.1 HWB.out.2.1).mono ?_;rw [← HST.out];rintro en w' ⟨rfl,rfl⟩)
   exact bodyPost_ret (v:=.agg #[.nilFunc,.func (.func 174) #[] #[Qb bk,Qb bi]]) (by simp [results,results171,go_sem,r0,r1]) rfl ⟨_,⟨e,leE.refl _,_,_,[],_,_,rfl,⟨rfl,rfl,bk,bi,rfl,HB.out,HBI.out⟩,⟨vl,al,gl,g1,gP,HL.out,HX1.out,HPP.out,rfl,rfl⟩,rfl⟩,(((HT.out.set 5 0 rfl 0 _).set 5 0 rfl 1 _).pick [0,1,2,3,4] rfl).sum⟩
  ·obtain ⟨vl,al,gl,gC,gP,hl,hx,hpp,rfl,rfl⟩:=hz
   refine GO fun w HT=>?_
   have HT:=Vh (HT.out.sum (H':=[Q1 kb L.fb pv vl al k,gl,e,gC,gP]));have HX:=Vh hx;have HL:=Vh hl;have HPP:=Vh hpp;clear hx hl hpp;have HB:=Vh hb;have HBI:=Vh hbi;clear hb hbi;have b0:=HT.out.mem_cell 2 HB.out 0;have i0:=HT.out.mem_cell 2 HBI.out 0;simp only [GE2] at b0 i0;have k0:=HT.out.cell 0 0 rfl 0;simp only [X1,GE3] at k0;go_enter func171,ntmps171
   go_wp2_with fail
   have HT:=Vh (HT.out.alloc (k:=w.heap.size) rfl 180 #[.nilFunc,.nilFunc]);clear k0 b0 i0;generalize w.alloc _=w1 at HT ⊢;have b0:=HT.out.mem_cell 2 HB.out 0;have i0:=HT.out.mem_cell 2 HBI.out 0;simp only [GE2] at b0 i0;have k0:=HT.out.cell 0 0 rfl 0;simp only [X1,GE3] at k0;clear b0 i0 k0;obtain ⟨ι,W,hW0,hend,hin⟩:∃ (ι:Type) (W:ι→World),(∃ i,World.drew w1=W i)∧(∀ i,∃ gx,Qf L x gx∧TG [Q1 kb L.fb pv vl al k++(gl++e),gC++gP] w [Q1 kb L.fb pv vl al k,gl,e,gx,gP,[cl w.heap.size 180 #[.nilFunc,.nilFunc]]] (W i))∧(∀ w',(∃ gx,Qf L x gx∧TG [Q1 kb L.fb pv vl al k++(gl++e),gC++gP] w [Q1 kb L.fb pv vl al k,gl,e,gx,gP,[cl w.heap.size 180 #[.nilFunc,.nilFunc]]] w')→∃ i,w'=W i):=⟨{w' // ∃ gx,Qf L x gx∧TG [Q1 kb L.fb pv vl al k++(gl++e),gC++gP] w [Q1 kb L.fb pv vl al k,gl,e,gx,gP,[cl w.heap.size 180 #[.nilFunc,.nilFunc]]] w'},Subtype.val,⟨⟨_,gC,HX.out,HT.out.drew⟩,rfl⟩,fun i=>i.2,fun w' h=>⟨⟨w',h⟩,rfl⟩⟩;have hne:Nonempty ι:=hW0.elim fun i _=>⟨i⟩
   have k0:∀ i,(W i).cell? ⟨kb,0,none⟩=some (Qb L.fb):=fun i=>by obtain ⟨_,_,T⟩:=hend i;exact T.cell 0 0 rfl 0
   have b0:∀ i,(W i).cell? ⟨bk,0,none⟩=some (Qb kb):=fun i=>by obtain ⟨_,_,T⟩:=hend i;exact T.mem_cell 2 HB.out 0
   have i0:∀ i,(W i).cell? ⟨bi,0,none⟩=some (.int .i64 ix):=fun i=>by obtain ⟨_,_,T⟩:=hend i;exact T.mem_cell 2 HBI.out 0
   have m1:∀ i,Calls prog 124 #[Qb L.fb] (W i) fun e w2=>e=.returned (Qb L.p.sb)∧∃ j,w2=W j:=fun i=>by
    obtain ⟨_,hg,T⟩:=hend i;refine (Qa.use ((Qk hg).does) T [3] rfl rfl).mono ?_
    rintro e w2 ⟨gs,⟨rfl,rfl⟩,T2⟩;exact ⟨rfl,hin _ ⟨_,hg,T2⟩⟩
   have m2:∀ i,Calls prog 172 #[Qb L.p.sb,.int .i64 ix] (W i) fun e w2=>e=.returned (.tuple #[.int .u64 wd,.int .i64 (x.slab.werr ix)])∧∃ j,w2=W j:=fun i=>by
    obtain ⟨_,hg,T⟩:=hend i;refine (Qa.use (HWD.out _ hg) T [3] rfl rfl).mono ?_
    rintro e w2 ⟨gs,⟨rfl,g3,hg3,rfl⟩,T2⟩;exact ⟨rfl,hin _ ⟨g3,hg3,T2⟩⟩
   refine Zk (fun w'=>∃ i,w'=W i) 13 (by kernel_rfl) (by kernel_rfl) hW0 ?_
   simp only [TD4]
   repeat (go_big_quiet_step ((first | (go_at_call 124;with_reducible exact m1 _) | (go_at_call 172;with_reducible exact m2 _))))
   refine wpQuiet_nil ?_
   intro _ hw';obtain ⟨iq,hw''⟩:=hw';subst hw'';obtain ⟨g1,hx1,T⟩:=hend iq;have HT:=Vh T;generalize W iq=w1 at HT ⊢;clear T hend hin hW0 hne;have HX1:=Vh hx1;clear hx1 k0 b0 i0 m1 m2;have k10:=HT.out.cell 0 0 rfl 10;have fk10:=HT.out.free 0 0 rfl 10;simp only [X1,GE3] at k10;go_wp2_with fail
   refine ⟨rfl,?_⟩
   have HT:=Vh ((HT.out.set 0 0 rfl 10 (.int .u64 wd)).eq (H':=[Q1 kb L.fb pv vl al { k with saw:=wd },gl,e,g1,gP,[cl w.heap.size 180 #[.nilFunc,.nilFunc]]]) rfl);clear k10 fk10;generalize World.setCell _ _ _=w5 at HT ⊢;have b0:=HT.out.mem_cell 2 HB.out 0;have i0:=HT.out.mem_cell 2 HBI.out 0;simp only [GE2] at b0 i0;have k10:=HT.out.cell 0 0 rfl 10;simp only [X1,GE3] at k10;obtain ⟨r0,r1⟩:=Ce2 (HT.out.cell 5 0 rfl) 0 1;obtain ⟨fr0,fr1⟩:=Ce2 (HT.out.free 5 0 rfl) 0 1;simp only [GE4] at r0 r1;go_wp2_with (go_at_call 173;refine (Yv _ _ HWB.out.1 HWB.out.2.1).mono ?_;rw [← HST.out];rintro en w' ⟨rfl,rfl⟩)
   exact bodyPost_ret (v:=.agg #[.nilFunc,.func (.func 174) #[] #[Qb bk,Qb bi]]) (by simp [results,results171,go_sem,r0,r1]) rfl ⟨_,⟨e,leE.refl _,_,_,[],_,_,rfl,⟨rfl,rfl,bk,bi,rfl,HB.out,HBI.out⟩,⟨vl,al,gl,g1,gP,HL.out,HX1.out,HPP.out,rfl,rfl⟩,rfl⟩,(((HT.out.set 5 0 rfl 0 _).set 5 0 rfl 1 _).pick [0,1,2,3,4] rfl).sum⟩
 ·rw [if_neg h23]
  dsimp only
  have hb2:(st == 2)=false:=beq_eq_false_iff_ne.2 (fun h=>h23 (.inl h));have hb3:(st == 3)=false:=beq_eq_false_iff_ne.2 (fun h=>h23 (.inr h));clear h23;obtain ⟨vl,al,gl,gC,gP,hl,hx,hpp,rfl,rfl⟩:=hz;refine GO fun w HT=>?_
  have HT:=Vh (HT.out.sum (H':=[Q1 kb L.fb pv vl al k,gl,e,gC,gP]));have HX:=Vh hx;have HL:=Vh hl;have HPP:=Vh hpp;clear hx hl hpp;have HB:=Vh hb;have HBI:=Vh hbi;clear hb hbi;have b0:=HT.out.mem_cell 2 HB.out 0;have i0:=HT.out.mem_cell 2 HBI.out 0;simp only [GE2] at b0 i0;have k0:=HT.out.cell 0 0 rfl 0;simp only [X1,GE3] at k0;go_enter func171,ntmps171
  go_wp2_with fail
  have HT:=Vh (HT.out.alloc (k:=w.heap.size) rfl 180 #[.nilFunc,.nilFunc]);clear k0 b0 i0;generalize w.alloc _=w1 at HT ⊢;have b0:=HT.out.mem_cell 2 HB.out 0;have i0:=HT.out.mem_cell 2 HBI.out 0;simp only [GE2] at b0 i0;have k0:=HT.out.cell 0 0 rfl 0;simp only [X1,GE3] at k0;clear b0 i0 k0;obtain ⟨ι,W,hW0,hend,hin⟩:∃ (ι:Type) (W:ι→World),(∃ i,World.drew w1=W i)∧(∀ i,∃ gx,Qf L x gx∧TG [Q1 kb L.fb pv vl al k++(gl++e),gC++gP] w [Q1 kb L.fb pv vl al k,gl,e,gx,gP,[cl w.heap.size 180 #[.nilFunc,.nilFunc]]] (W i))∧(∀ w',(∃ gx,Qf L x gx∧TG [Q1 kb L.fb pv vl al k++(gl++e),gC++gP] w [Q1 kb L.fb pv vl al k,gl,e,gx,gP,[cl w.heap.size 180 #[.nilFunc,.nilFunc]]] w')→∃ i,w'=W i):=⟨{w' // ∃ gx,Qf L x gx∧TG [Q1 kb L.fb pv vl al k++(gl++e),gC++gP] w [Q1 kb L.fb pv vl al k,gl,e,gx,gP,[cl w.heap.size 180 #[.nilFunc,.nilFunc]]] w'},Subtype.val,⟨⟨_,gC,HX.out,HT.out.drew⟩,rfl⟩,fun i=>i.2,fun w' h=>⟨⟨w',h⟩,rfl⟩⟩;have hne:Nonempty ι:=hW0.elim fun i _=>⟨i⟩
  have k0:∀ i,(W i).cell? ⟨kb,0,none⟩=some (Qb L.fb):=fun i=>by obtain ⟨_,_,T⟩:=hend i;exact T.cell 0 0 rfl 0
  have b0:∀ i,(W i).cell? ⟨bk,0,none⟩=some (Qb kb):=fun i=>by obtain ⟨_,_,T⟩:=hend i;exact T.mem_cell 2 HB.out 0
  have i0:∀ i,(W i).cell? ⟨bi,0,none⟩=some (.int .i64 ix):=fun i=>by obtain ⟨_,_,T⟩:=hend i;exact T.mem_cell 2 HBI.out 0
  have m1:∀ i,Calls prog 124 #[Qb L.fb] (W i) fun e w2=>e=.returned (Qb L.p.sb)∧∃ j,w2=W j:=fun i=>by
   obtain ⟨_,hg,T⟩:=hend i;refine (Qa.use ((Qk hg).does) T [3] rfl rfl).mono ?_
   rintro e w2 ⟨gs,⟨rfl,rfl⟩,T2⟩;exact ⟨rfl,hin _ ⟨_,hg,T2⟩⟩
  have m2:∀ i,Calls prog 172 #[Qb L.p.sb,.int .i64 ix] (W i) fun e w2=>e=.returned (.tuple #[.int .u64 wd,.int .i64 (x.slab.werr ix)])∧∃ j,w2=W j:=fun i=>by
   obtain ⟨_,hg,T⟩:=hend i;refine (Qa.use (HWD.out _ hg) T [3] rfl rfl).mono ?_
   rintro e w2 ⟨gs,⟨rfl,g3,hg3,rfl⟩,T2⟩;exact ⟨rfl,hin _ ⟨g3,hg3,T2⟩⟩
  refine Zk (fun w'=>∃ i,w'=W i) 13 (by kernel_rfl) (by kernel_rfl) hW0 ?_
  simp only [TD4]
  repeat (go_big_quiet_step ((first | (go_at_call 124;with_reducible exact m1 _) | (go_at_call 172;with_reducible exact m2 _))))
  refine wpQuiet_nil ?_
  intro _ hw';obtain ⟨iq,hw''⟩:=hw';subst hw'';obtain ⟨g1,hx1,T⟩:=hend iq;have HT:=Vh T;generalize W iq=w1 at HT ⊢;clear T hend hin hW0 hne;have HX1:=Vh hx1;clear hx1 k0 b0 i0 m1 m2;have k10:=HT.out.cell 0 0 rfl 10;have fk10:=HT.out.free 0 0 rfl 10;simp only [X1,GE3] at k10;go_wp2_with fail
  refine ⟨rfl,?_⟩
  have HT:=Vh ((HT.out.set 0 0 rfl 10 (.int .u64 wd)).eq (H':=[Q1 kb L.fb pv vl al { k with saw:=wd },gl,e,g1,gP,[cl w.heap.size 180 #[.nilFunc,.nilFunc]]]) rfl);clear k10 fk10;generalize World.setCell _ _ _=w5 at HT ⊢;have b0:=HT.out.mem_cell 2 HB.out 0;have i0:=HT.out.mem_cell 2 HBI.out 0;simp only [GE2] at b0 i0;have k10:=HT.out.cell 0 0 rfl 10;simp only [X1,GE3] at k10;obtain ⟨r0,r1⟩:=Ce2 (HT.out.cell 5 0 rfl) 0 1;obtain ⟨fr0,fr1⟩:=Ce2 (HT.out.free 5 0 rfl) 0 1;simp only [GE4] at r0 r1;go_wp2_with (go_at_call 173;refine (Yv _ _ HWB.out.1 HWB.out.2.1).mono ?_;rw [← HST.out];rintro en w' ⟨rfl,rfl⟩)
  exact bodyPost_ret (v:=.agg #[.nilFunc,.nilFunc]) (by simp [results,results171,go_sem,r0,r1]) rfl ⟨_,⟨e,leE.refl _,_,_,[],_,_,rfl,⟨rfl,rfl,rfl⟩,⟨vl,al,gl,g1,gP,HL.out,HX1.out,HPP.out,rfl,rfl⟩,rfl⟩,(((HT.out.set 5 0 rfl 0 _).set 5 0 rfl 1 _).pick [0,1,2,3,4] rfl).sum⟩
end
section
variable {L:Lay} {x:Qj} {p:Qy} {e gK gF:List Blk} {kb:Nat} {pv:Value} {k:Yl}
theorem q12 (hz:qg1 L kb pv e ⟨k,x,p⟩ gK gF) (hp:qn5 .ends1 ⟨k,x,p⟩) (bk:Nat) (hb:cl bk 132 #[Qb kb]∈e):Qa prog 139 #[Qb bk] [gK,gF] (ARS L kb pv e (Y3 .ends1 ⟨k,x,p⟩)):=by
 have HLN:=Vh hp.core.tr;simp only at HLN;clear hp;unfold ARS;dsimp only [Y3,ZS.note]
 obtain ⟨vl,al,gl,gC,gP,hl,hx,hpp,rfl,rfl⟩:=hz;refine GO fun w HT=>?_
 have HT:=Vh (HT.out.sum (H':=[Q1 kb L.fb pv vl al k,gl,e,gC,gP]));have HX:=Vh hx;have HL:=Vh hl;have HPP:=Vh hpp;clear hx hl hpp;have b0:=HT.out.mem_cell 2 hb 0;simp only [GE2] at b0;have HB:=Vh hb;clear hb;have k3:=HT.out.cell 0 0 rfl 3;simp only [X1,GE3] at k3;go_enter func139,ntmps139
 go_wp2_with fail
 refine Qc 7 (by kernel_rfl) (by kernel_rfl) ?_
 simp only [TD4]
 repeat (go_big_quiet_step ((fail)))
 refine wpQuiet_nil (QE fun nq=>?_)
 have HT:=Vh (HT.out.drewN nq);go_wp2_with fail
 refine (Qa.use (qa1 HX.out { ev0 with kind:=2,err:=k.err } HLN.out) (HT.out) [0,3] rfl rfl).mono ?_
 rintro e w1 ⟨gs,⟨rfl,g2,hx2,rfl⟩,Ta⟩;simp only [PU] at Ta;have HX:=Vh hx2;clear hx2 k3 b0;have HT:=Vh Ta;clear Ta;go_wp2_with fail
 refine ⟨rfl,?_⟩
 go_wp2
 exact bodyPost_end (results_none rfl _ _ _) rfl ⟨_,⟨e,leE.refl _,_,_,rfl,⟨vl,al,gl,g2,gP,HL.out,HX.out,HPP.out,rfl,rfl⟩,rfl⟩,(HT.out.pick [0,1,2,3,4] rfl).sum⟩
theorem q1w (hz:qg1 L kb pv e ⟨k,x,p⟩ gK gF) (hp:qn5 .pshut ⟨k,x,p⟩) (bk:Nat) (hb:cl bk 132 #[Qb kb]∈e):Qa prog 141 #[Qb bk] [gK,gF] (ARS L kb pv e (Y3 .pshut ⟨k,x,p⟩)):=by
 clear hp;unfold ARS;dsimp only [Y3]
 obtain ⟨vl,al,gl,gC,gP,hl,hx,hpp,rfl,rfl⟩:=hz;refine GO fun w HT=>?_
 have HT:=Vh (HT.out.sum (H':=[Q1 kb L.fb pv vl al k,gl,e,gC,gP]));have HX:=Vh hx;have HL:=Vh hl;have HPP:=Vh hpp;clear hx hl hpp;have b0:=HT.out.mem_cell 2 hb 0;simp only [GE2] at b0;have HB:=Vh hb;clear hb;have k0:=HT.out.cell 0 0 rfl 0;simp only [X1,GE3] at k0;go_enter func141,ntmps141
 go_wp2_with fail
 refine (Qe.use (Jr HX.out) (HT.out) [3] rfl rfl).mono ?_
 rintro e w1 ⟨rfl,mq,rfl⟩;have HT:=Vh (HT.out.drewN mq);generalize World.drewN _ _=wq at HT ⊢;go_wp2_with fail
 refine (Qa.use (qpi HPP.out) (HT.out) [4] rfl rfl).mono ?_
 rintro e w1 ⟨gs,⟨rfl,g2,hp2,rfl⟩,Ta⟩;simp only [PU] at Ta;have HPP:=Vh hp2;clear hp2 k0 b0;have HT:=Vh Ta;clear Ta;go_wp2
 exact bodyPost_end (results_none rfl _ _ _) rfl ⟨_,⟨e,leE.refl _,_,_,rfl,⟨vl,al,gl,gC,g2,HL.out,HX.out,HPP.out,rfl,rfl⟩,rfl⟩,(HT.out.pick [0,1,2,3,4] rfl).sum⟩
theorem q1u (hz:qg1 L kb pv e ⟨k,x,p⟩ gK gF) (hp:qn5 .drop ⟨k,x,p⟩) (bk:Nat) (hb:cl bk 132 #[Qb kb]∈e):Qa prog 214 #[Qb bk] [gK,gF] (ARS L kb pv e (Y3 .drop ⟨k,x,p⟩)):=by
 have HC:=Vh (And.intro hp.core.slab.c0 (show x.slab.count≤64 by have:=hp.core.slab.c1;have:=hp.core.slab.n1;simp only at *;omega));simp only at HC;clear hp;unfold ARS;dsimp only [Y3]
 obtain ⟨vl,al,gl,gC,gP,hl,hx,hpp,rfl,rfl⟩:=hz;refine GO fun w HT=>?_
 have HT:=Vh (HT.out.sum (H':=[Q1 kb L.fb pv vl al k,gl,e,gC,gP]));have HX:=Vh hx;have HL:=Vh hl;have HPP:=Vh hpp;clear hx hl hpp;have b0:=HT.out.mem_cell 2 hb 0;simp only [GE2] at b0;have HB:=Vh hb;clear hb;have k0:=HT.out.cell 0 0 rfl 0;simp only [X1,GE3] at k0;go_enter func214,ntmps214
 go_wp2_with fail
 refine (Qe.use (Qk HX.out) (HT.out) [3] rfl rfl).mono ?_
 rintro e w1 ⟨rfl,mq,rfl⟩;have HT:=Vh (HT.out.drewN mq);generalize World.drewN _ _=wq at HT ⊢;go_wp2_with fail
 refine (Qa.use (qh4 HX.out HC.out.1 HC.out.2) (HT.out) [3] rfl rfl).mono ?_
 rintro e w1 ⟨gs,⟨rfl,g2,hx2,rfl⟩,Ta⟩;simp only [PU] at Ta;have HX:=Vh hx2;clear hx2 k0 b0;have HT:=Vh Ta;clear Ta;go_wp2
 exact bodyPost_end (results_none rfl _ _ _) rfl ⟨_,⟨e,leE.refl _,_,_,rfl,⟨vl,al,gl,g2,gP,HL.out,HX.out,HPP.out,rfl,rfl⟩,rfl⟩,(HT.out.pick [0,1,2,3,4] rfl).sum⟩
theorem qr0 (i:Int) (hz:qg1 L kb pv e ⟨k,x,p⟩ gK gF) (hp:qn5 (.release i) ⟨k,x,p⟩) (bk bi:Nat) (hb:cl bk 132 #[Qb kb]∈e) (hbi:cl bi 3 #[.int .i64 i]∈e):Qa prog 213 #[Qb bk,Qb bi] [gK,gF] (ARS L kb pv e (Y3 (.release i) ⟨k,x,p⟩)):=by
 have hok:=hp.core;simp only at hok;obtain ⟨w0,w1,w2⟩:=J5 hok.slab i;unfold ARS;dsimp only [Y3]
 have HY:=Vh (show ∀ g',Qf L x g'→_ from fun g' hx'=>qch (g:=g') hx' hok.slab.n1 i (x.slab.word i) 10 w0 w1);have HWD:=Vh (show ∀ g',Qf L x g'→_ from fun g' hx'=>q8 (g:=g') hx' hok.slab.n1 i);clear w0 w1 w2 hok hp;obtain ⟨vl,al,gl,gC,gP,hl,hx,hpp,rfl,rfl⟩:=hz;refine GO fun w HT=>?_
 have HT:=Vh (HT.out.sum (H':=[Q1 kb L.fb pv vl al k,gl,e,gC,gP]));have HX:=Vh hx;have HL:=Vh hl;have HPP:=Vh hpp;clear hx hl hpp;have b0:=HT.out.mem_cell 2 hb 0;simp only [GE2] at b0;have HB:=Vh hb;clear hb;have i0:=HT.out.mem_cell 2 hbi 0;simp only [GE2] at i0;have HBI:=Vh hbi;clear hbi;have k0:=HT.out.cell 0 0 rfl 0;simp only [X1,GE3] at k0;go_enter func213,ntmps213
 go_wp2_with fail
 refine Qc 6 (by kernel_rfl) (by kernel_rfl) ?_
 simp only [TD4]
 repeat (go_big_quiet_step ((first | (go_at_call 124;with_reducible exact Qe.quiet (Qk HX.out) HT.out _ [3] rfl rfl))))
 refine wpQuiet_nil (QE fun nq=>?_)
 have HT:=Vh (HT.out.drewN nq);go_wp2_with fail
 refine (Qa.use (HWD.out _ HX.out) (HT.out) [3] rfl rfl).mono ?_
 rintro e w1 ⟨gs,⟨rfl,g1,hx1,rfl⟩,Ta⟩;simp only [PU] at Ta;have HX:=Vh hx1;clear hx1 k0 b0 i0;have HT:=Vh Ta;clear Ta;go_wp2_with fail
 refine ⟨rfl,?_⟩
 have hb:=HB.out;have hbi:=HBI.out;have b0:=HT.out.mem_cell 2 hb 0;simp only [GE2] at b0;have HB:=Vh hb;clear hb;have i0:=HT.out.mem_cell 2 hbi 0;simp only [GE2] at i0;have HBI:=Vh hbi;clear hbi;have k0:=HT.out.cell 0 0 rfl 0;simp only [X1,GE3] at k0;go_wp2_with fail
 refine Qc 7 (by kernel_rfl) (by kernel_rfl) ?_
 simp only [TD4]
 repeat (go_big_quiet_step ((first | (go_at_call 124;with_reducible exact Qe.quiet (Qk HX.out) HT.out _ [3] rfl rfl))))
 refine wpQuiet_nil (QE fun nq=>?_)
 have HT:=Vh (HT.out.drewN nq);go_wp2_with fail
 refine (Qa.use (HY.out _ HX.out) (HT.out) [3] rfl rfl).mono ?_
 rintro e w1 ⟨gs,⟨rfl,g2,hx2,rfl⟩,Ta⟩;simp only [PU] at Ta;have HX2:=Vh hx2;clear hx2 k0 b0 i0;have HT:=Vh Ta;clear Ta;go_wp2_with fail
 refine ⟨rfl,?_⟩
 go_wp2
 exact bodyPost_end (results_none rfl _ _ _) rfl ⟨_,⟨e,leE.refl _,_,_,rfl,⟨vl,al,gl,g2,gP,HL.out,HX2.out,HPP.out,rfl,rfl⟩,rfl⟩,(HT.out.pick [0,1,2,3,4] rfl).sum⟩
def YRS (L:Lay) (kb:Nat) (pv:Value) (e:List Blk) (v:Bool) (z:ZS) (en:Ending) (gs:GH):Prop:=∃ gK' gF',en=.returned (.bool v)∧qg1 L kb pv e z gK' gF'∧gs=[gK',gF']
theorem qxy (hz:qg1 L kb pv e ⟨k,x,p⟩ gK gF) (bk:Nat) (hb:cl bk 132 #[Qb kb]∈e):Qa prog 117 #[Qb bk] [gK,gF] (YRS L kb pv e (qz4 .inside ⟨k,x,p⟩) ⟨k,x,p⟩):=by
 unfold YRS;dsimp only [qz4]
 obtain ⟨vl,al,gl,gC,gP,hl,hx,hpp,rfl,rfl⟩:=hz;refine GO fun w HT=>?_
 have HT:=Vh (HT.out.sum (H':=[Q1 kb L.fb pv vl al k,gl,e,gC,gP]));have HX:=Vh hx;have HL:=Vh hl;have HPP:=Vh hpp;clear hx hl hpp;have b0:=HT.out.mem_cell 2 hb 0;simp only [GE2] at b0;have HB:=Vh hb;clear hb;have k0:=HT.out.cell 0 0 rfl 0;simp only [X1,GE3] at k0;go_enter func117,ntmps117
 go_wp2_with fail
 refine (Qa.use (qpq HX.out) (HT.out) [3] rfl rfl).mono ?_
 rintro e w1 ⟨gs,⟨rfl,g2,hx2,rfl⟩,Ta⟩;simp only [PU] at Ta;have HX:=Vh hx2;clear hx2 k0 b0;have HT:=Vh Ta;clear Ta;go_wp2
 go_ret
 exact ⟨_,⟨_,_,rfl,⟨vl,al,gl,g2,gP,HL.out,HX.out,HPP.out,rfl,rfl⟩,rfl⟩,(HT.out.pick [0,1,2,3,4] rfl).sum⟩
theorem q2y (hz:qg1 L kb pv e ⟨k,x,p⟩ gK gF) (bk:Nat) (hb:cl bk 132 #[Qb kb]∈e):Qa prog 168 #[Qb bk] [gK,gF] (YRS L kb pv e (qz4 .idle ⟨k,x,p⟩) ⟨k,x,p⟩):=by
 unfold YRS;dsimp only [qz4]
 obtain ⟨vl,al,gl,gC,gP,hl,hx,hpp,rfl,rfl⟩:=hz;refine GO fun w HT=>?_
 have HT:=Vh (HT.out.sum (H':=[Q1 kb L.fb pv vl al k,gl,e,gC,gP]));have HX:=Vh hx;have HL:=Vh hl;have HPP:=Vh hpp;clear hx hl hpp;have b0:=HT.out.mem_cell 2 hb 0;simp only [GE2] at b0;have HB:=Vh hb;clear hb;have k0:=HT.out.cell 0 0 rfl 0;simp only [X1,GE3] at k0;have hcl:=qi3 HPP.out;cases hq:(p.shut && decide (p.ch=[])) with
 | false =>
   rw [hq] at hcl;have HCL:=Vh hcl;clear hcl hq;go_enter func168,ntmps168
   go_wp2_with fail
   refine (Qe.use (Jr HX.out) (HT.out) [3] rfl rfl).mono ?_
   rintro e w1 ⟨rfl,mq,rfl⟩;have HT:=Vh (HT.out.drewN mq);generalize World.drewN _ _=wq at HT ⊢;go_wp2_with fail
   refine (Qe.use (HCL.out) (HT.out) [4] rfl rfl).mono ?_
   rintro e w1 ⟨rfl,mq,rfl⟩;have HT:=Vh (HT.out.drewN mq);generalize World.drewN _ _=wq at HT ⊢;go_wp2
   go_ret
   exact ⟨_,⟨_,_,rfl,⟨vl,al,gl,gC,gP,HL.out,HX.out,HPP.out,rfl,rfl⟩,rfl⟩,(HT.out.pick [0,1,2,3,4] rfl).sum⟩
 | true =>
   rw [hq] at hcl;have HCL:=Vh hcl;clear hcl hq;go_enter func168,ntmps168
   go_wp2_with fail
   refine (Qe.use (Jr HX.out) (HT.out) [3] rfl rfl).mono ?_
   rintro e w1 ⟨rfl,mq,rfl⟩;have HT:=Vh (HT.out.drewN mq);generalize World.drewN _ _=wq at HT ⊢;go_wp2_with fail
   refine (Qe.use (HCL.out) (HT.out) [4] rfl rfl).mono ?_
   rintro e w1 ⟨rfl,mq,rfl⟩;have HT:=Vh (HT.out.drewN mq);generalize World.drewN _ _=wq at HT ⊢;clear k0 b0;have hb:=HB.out;have b0:=HT.out.mem_cell 2 hb 0;simp only [GE2] at b0;have HB:=Vh hb;clear hb;have k0:=HT.out.cell 0 0 rfl 0;simp only [X1,GE3] at k0;go_wp2_with fail
   refine (Qa.use (qvd HX.out) (HT.out) [3] rfl rfl).mono ?_
   rintro e w1 ⟨gs,⟨rfl,g2,hx2,rfl⟩,Ta⟩;simp only [PU] at Ta;have HX:=Vh hx2;clear hx2 k0 b0;have HT:=Vh Ta;clear Ta;go_wp2
   go_ret
   exact ⟨_,⟨_,_,rfl,⟨vl,al,gl,g2,gP,HL.out,HX.out,HPP.out,rfl,rfl⟩,rfl⟩,(HT.out.pick [0,1,2,3,4] rfl).sum⟩
end
end
end Go.Proofs.YtikpbibeagbccaaGreat
