import Derived.Test.YtblhfbcodbjgcaaGreatSV35
namespace Go.Proofs.YtblhfbcodbjgcaaGreat
set_option linter.unusedVariables false
set_option linter.unusedSimpArgs false
section
open Go.RowKit Go.Shelf
set_option maxRecDepth 100000 in
set_option maxHeartbeats 4000000 in
theorem serviceNone_law (n k id dl per:Int):DoesG Tryz.prog 7 #[.int .i64 n,.agg #[.int .i64 k,.int .u64 id,.int .u64 dl,.int .u64 per]] [] fun e gs=>e=.returned (.bool true)∧gs=[]:=by
 intro w hw
 have T0:=TG.refl hw
 have HT:=Lib.hid T0
 clear hw T0
 go_enter Tryz.func7,Tryz.ntmps7
 go_wp2_with fail
 refine (DoesG.use (alive20) (HT.out.alloc (k:=w.heap.size) rfl 38 #[.int .i64 k,.int .u64 id,.int .u64 dl,.int .u64 per]) [] rfl rfl).mono ?_
 rintro e w1 ⟨gs,⟨rfl,rfl⟩,Ta⟩
 simp only [PU] at Ta
 have HT:=Lib.hid Ta
 clear Ta
 have b0:=HT.out.cell 0 0 rfl 0
 have b1:=HT.out.cell 0 0 rfl 1
 have b2:=HT.out.cell 0 0 rfl 2
 have b3:=HT.out.cell 0 0 rfl 3
 simp only [GE4] at b0 b1 b2 b3
 go_wp2_with fail
 refine (DoesG.use (svCall_nil _ _) (HT.out) [] rfl rfl).mono ?_
 rintro e w1 ⟨gs,⟨rfl,rfl⟩,Ta⟩
 simp only [PU] at Ta
 have HT:=Lib.hid Ta
 clear Ta
 go_wp2_with fail
 refine (DoesG.use (svPick_nil _) (HT.out) [] rfl rfl).mono ?_
 rintro e w1 ⟨gs,⟨rfl,rfl⟩,Ta⟩
 simp only [PU] at Ta
 have HT:=Lib.hid Ta
 clear Ta
 go_wp2_with fail
 refine (DoesG.use (svAnswer_nil _) (HT.out) [] rfl rfl).mono ?_
 rintro e w1 ⟨gs,⟨rfl,rfl⟩,Ta⟩
 simp only [PU] at Ta
 have HT:=Lib.hid Ta
 clear Ta
 go_wp2_with fail
 refine (DoesG.use (svStep_nil _) (HT.out.alloc0 _) [] rfl rfl).mono ?_
 rintro e w1 ⟨gs,⟨rfl,rfl⟩,Ta⟩
 simp only [PU] at Ta
 have HT:=Lib.hid Ta
 clear Ta
 go_wp2_with fail
 refine (DoesG.use (svMay_nil) (HT.out) [] rfl rfl).mono ?_
 rintro e w1 ⟨gs,⟨rfl,rfl⟩,Ta⟩
 simp only [PU] at Ta
 have HT:=Lib.hid Ta
 clear Ta
 go_wp2_with fail
 refine (DoesG.use (svCalls_nil) (HT.out) [] rfl rfl).mono ?_
 rintro e w1 ⟨gs,⟨rfl,rfl⟩,Ta⟩
 simp only [PU] at Ta
 have HT:=Lib.hid Ta
 clear Ta
 go_wp2_with fail
 refine (DoesG.use (svTrace_nil) (HT.out) [] rfl rfl).mono ?_
 rintro e w1 ⟨gs,⟨rfl,rfl⟩,Ta⟩
 simp only [PU] at Ta
 have HT:=Lib.hid Ta
 clear Ta
 go_wp2_with fail
 refine (DoesG.use (svLog_nil) (HT.out) [] rfl rfl).mono ?_
 rintro e w1 ⟨gs,⟨v,gv,rfl,hv,rfl⟩,Ta⟩
 simp only [PU] at Ta
 have HT:=Lib.hid Ta
 clear Ta
 obtain ⟨av,cap,hv2⟩:=rowG.val hv
 subst hv2
 clear hv
 go_wp2_with fail
 refine (DoesG.use (svIdle_nil) (HT.out) [] rfl rfl).mono ?_
 rintro e w1 ⟨gs,⟨rfl,rfl⟩,Ta⟩
 simp only [PU] at Ta
 have HT:=Lib.hid Ta
 clear Ta
 go_wp2_with fail
 refine (DoesG.use (svFloor_nil) (HT.out) [] rfl rfl).mono ?_
 rintro e w1 ⟨gs,⟨rfl,rfl⟩,Ta⟩
 simp only [PU] at Ta
 have HT:=Lib.hid Ta
 clear Ta
 go_wp2
 go_ret
 exact ⟨[],⟨rfl,rfl⟩,HT.out.pick [] rfl⟩
end
end Go.Proofs.YtblhfbcodbjgcaaGreat
