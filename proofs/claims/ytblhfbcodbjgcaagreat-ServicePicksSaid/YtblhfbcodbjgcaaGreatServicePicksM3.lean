import Derived.Test.YtblhfbcodbjgcaaGreatSV35
namespace Go.Proofs.YtblhfbcodbjgcaaGreat
set_option linter.unusedVariables false
set_option linter.unusedSimpArgs false
section
open Go.RowKit Go.Shelf
def plainC (a b:Int):Cfg:=⟨1+max 0 a % 4,1+max 0 b % 12,1+max 0 b % 7,1+max 0 b % 3,1+max 0 b % 4,4⟩
theorem plainC_ok (a b:Int):(plainC a b).ok=true:=by
 unfold Cfg.ok plainC
 simp only [Cfg.fine,Cfg.pair,Bool.and_eq_true,decide_eq_true_eq]
 omega
set_option maxRecDepth 100000 in
theorem plain20 (a b:Int) (ha:0≤a∧a≤1000000) (hb:0≤b∧b≤1000000):DoesG Tryz.prog 61 #[.int .i64 a,.int .i64 b] [] fun e gs=>e=.returned (.agg (plainC a b).cells)∧gs=[]:=by
 have e1:max 0 a=a:=by omega
 have e2:max 0 b=b:=by omega
 unfold plainC
 rw [e1,e2]
 simp only [Cfg.cells]
 have h1:0≤a % 4∧a % 4<4:=by omega
 have h2:0≤b % 12∧b % 12<12:=by omega
 have h3:0≤b % 7∧b % 7<7:=by omega
 have h4:0≤b % 3∧b % 3<3:=by omega
 have h5:0≤b % 4∧b % 4<4:=by omega
 intro w hw
 have T0:=TG.refl hw
 have HT:=Lib.hid T0
 clear hw T0
 go_enter Tryz.func61,Tryz.ntmps61
 go_wp2_with fail
 have HT2:=Lib.hid (HT.out.alloc (k:=w.heap.size) rfl 30 #[.int .i64 (1+a % 4),.int .i64 (1+b % 12),.int .i64 (1+b % 7),.int .i64 (1+b % 3),.int .i64 (1+b % 4),.int .i64 4])
 have r0:=HT2.out.cell 0 0 rfl 0
 have r1:=HT2.out.cell 0 0 rfl 1
 have r2:=HT2.out.cell 0 0 rfl 2
 have r3:=HT2.out.cell 0 0 rfl 3
 have r4:=HT2.out.cell 0 0 rfl 4
 have r5:=HT2.out.cell 0 0 rfl 5
 simp only [GE4] at r0 r1 r2 r3 r4 r5
 exact bodyPost_ret (v:=.agg #[.int .i64 (1+a % 4),.int .i64 (1+b % 12),.int .i64 (1+b % 7),.int .i64 (1+b % 3),.int .i64 (1+b % 4),.int .i64 4]) (by simp [results,Tryz.results61,go_sem,r0,r1,r2,r3,r4,r5]) rfl ⟨_,⟨rfl,rfl⟩,HT2.out.pick [] rfl⟩
set_option maxRecDepth 100000 in
set_option maxHeartbeats 4000000 in
theorem play20 (c:Cfg) (hk:c.ok=true):DoesG Tryz.prog 60 #[.agg c.cells,.slice none 0 0] [] fun e gs =>
 ∃ L sb g,e=.returned (ptr' sb)∧isB 0 L sb (svB0 c) g∧gs=[g]:=by
 have HN:=Lib.hid (bNew c hk)
 obtain ⟨sh,cap,ring,room,wk,cli⟩:=c
 intro w hw
 have T0:=TG.refl hw
 have HT:=Lib.hid T0
 clear hw T0
 clear hk
 simp only [Cfg.cells] at HN ⊢
 go_enter Tryz.func60,Tryz.ntmps60
 go_wp2_with fail
 refine (DoesG.use (HN.out) (HT.out.alloc0 _) [] rfl rfl).mono ?_
 rintro e w1 ⟨gs,⟨L,sb,g,rfl,hb,rfl⟩,Ta⟩
 simp only [PU] at Ta
 have HT:=Lib.hid Ta
 clear Ta
 have HB:=Lib.hid hb
 clear hb
 go_wp2_with fail
 have T1:=HT.out
 go_loopw [7] (fun i wr=>i=.int .i64 0∧TG [] w [g] wr) (fun i _=>1)
 case atStart=>exact ⟨rfl,T1⟩
 case round =>
  obtain ⟨rfl,T⟩:=hrel
  have HT:=Lib.hid T
  clear T T1
  go_wp2
  go_ret
  exact ⟨_,⟨L,sb,g,rfl,HB.out,rfl⟩,HT.out⟩
theorem ths_num {S:SvS} {t:Nat × Th} (h:t∈S.ths):t.1<S.own.length+S.crew.length:=by
 rcases List.mem_append.1 h with h | h
 ·obtain ⟨k,_,_,_,h4⟩:=ths1_mem _ _ _ h
  have:=(List.getElem?_eq_some_iff.1 h4).1
  omega
 ·obtain ⟨j,_,h2,h3⟩:=ths2_mem _ _ _ _ h
  omega
theorem step_may {S:SvS} {a:Nat} (h:a∈S.mays):(S.stepS a).2=0:=by
 obtain ⟨t,ht,rfl⟩:=List.mem_map.1 h
 obtain ⟨h1,h2⟩:=List.mem_filter.1 ht
 have h3:=ths_num h1
 unfold SvS.stepS
 rw [if_neg (by omega)]
 cases hp:S.pickTh t.1 with
 | some u=>rfl
 | none =>
   have:=List.find?_eq_none.1 hp t h1
   simp [h2] at this
theorem pickAt_mem {S:SvS} (h:S.mays.length≠0) (k:Int):S.pickAt k∈S.mays:=by
 unfold SvS.pickAt
 have h1:((max 0 k) % (S.mays.length:Int)).toNat<S.mays.length:=by
  have:=Int.emod_lt_of_pos (max 0 k) (show (0:Int)<S.mays.length by omega)
  have:=Int.emod_nonneg (max 0 k) (show (S.mays.length:Int)≠0 by omega)
  omega
 rw [List.getD_eq_getElem?_getD,List.getElem?_eq_getElem h1]
 exact List.getElem_mem h1
theorem pick_yes {S:SvS} (h:S.mays.length≠0) (k:Int):S.pickS k=((S.stepS (S.pickAt k)).1,((S.pickAt k:Nat):Int),0):=by
 unfold SvS.pickS
 rw [if_neg h,step_may (pickAt_mem h k)]
theorem pick_no {S:SvS} (h:S.mays.length=0) (k:Int):S.pickS k=(S,0,6):=if_pos h
end
end Go.Proofs.YtblhfbcodbjgcaaGreat
