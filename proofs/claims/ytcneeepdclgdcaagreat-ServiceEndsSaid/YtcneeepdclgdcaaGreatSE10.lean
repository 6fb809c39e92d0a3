import Derived.Test.YtcneeepdclgdcaaGreatSE1
import Derived.Test.YtcneeepdclgdcaaGreatChecked
import Derived.WalkKit
import Derived.WalkSpells
import Derived.WalkLawsBesides
import Derived.Lib.Hide
import Derived.Deep.Light
set_option maxRecDepth 100000
set_option maxHeartbeats 4000000
namespace Go.Proofs.YtcneeepdclgdcaaGreat
open Go.Value renaming int->U1
open Go.Ending renaming returned->U2
open Go.IntKind renaming u64->U3,i64->U4
open Go.Lib renaming hid->U5
set_option linter.all false
open Go.Proofs.Tryz
section
open Go.RowKit
theorem RN {a b:Bool} (h:a=b):U2 (.bool a)=U2 (.bool b):=by rw [h]
theorem Ga {k:IntKind} {a b:Int} (h:a=b):U2 (.int k a)=U2 (.int k b):=by rw [h]
theorem yQ (n:Int) (w:World) (h0:0<=n) (h1:n<18446744073709551616):
 Calls prog 101 #[U1 U3 n] w fun e w'=>e=U2 (.bool (okW n))/\w=w':=by
 have hk:=q7p n h0 h1;have hb:=JI n h0 h1;have hw:wrap64 (bits BinOp.and IntKind.u64 n 7)=bits BinOp.and IntKind.u64 n 7:=by rw [hb];unfold wrap64;omega
 have H:=U5 hk;clear hk;clear hb;go_enter func101,ntmps101
 go_wp2
 all_goals go_ret
 all_goals refine ⟨RN ?_,rfl⟩
 ·rename_i h
  rw [Bool.eq_iff_iff,H.out,decide_eq_true_eq];exact ⟨fun x=>⟨h,x⟩,fun x=>x.2⟩
 ·rename_i h
  rw [Bool.eq_iff_iff,H.out];exact ⟨fun x=>by simp at x,fun x=>absurd x.1 h⟩
theorem zc (n:Int) (w:World) (h0:0<=n) (h1:n<18446744073709551616):
 Calls prog 39 #[U1 U3 n] w fun e w'=>e=U2 (U1 U4 (bB n))/\w=w':=by
 have hb:=JI n h0 h1;have hw:wrap64 (n % 8)=n % 8:=by unfold wrap64;omega
 cases hk:okW n
 all_goals
  have H:=U5 hk;clear hk;go_enter func39,ntmps39
  go_wp2_with (go_at_call 101;refine (yQ _ _ h0 h1).mono ?_;rw [H.out];rintro e w' ⟨rfl,rfl⟩)
  go_ret
  exact ⟨Ga (by simp [bB,H.out]),rfl⟩
theorem F9 (n:Int) (w:World) (h0:0<=n) (h1:n<18446744073709551616):
 Calls prog 229 #[U1 U3 n] w fun e w'=>e=U2 (U1 U3 (Xv n))/\w=w':=by
 cases hk:okW n
 all_goals
  have H:=U5 hk;clear hk;go_enter func229,ntmps229
  go_wp2_with (go_at_call 101;refine (yQ _ _ h0 h1).mono ?_;rw [H.out];rintro e w' ⟨rfl,rfl⟩)
  go_ret
  exact ⟨Ga (by simp [Xv,H.out]),rfl⟩
theorem Pv (n:Int) (w:World) (h0:0<=n) (h1:n<18446744073709551616):
 Calls prog 258 #[U1 U3 n] w fun e w'=>e=U2 (.bool (Xr n))/\w=w':=by
 have hb:=qyl n h0 h1;cases hk:okW n
 all_goals
  have H:=U5 hk;clear hk;go_enter func258,ntmps258
  go_wp2_with (go_at_call 101;refine (yQ _ _ h0 h1).mono ?_;rw [H.out];rintro e w' ⟨rfl,rfl⟩)
  go_ret
  exact ⟨RN (by simp only [Xr,H.out];rw [Bool.eq_iff_iff];simp;try omega),rfl⟩
theorem qtc (s g:Int) (l:Bool) (w:World) (h0:0<=s) (h1:s<=6) (h2:0<=g) (h3:g<=4294967295) :
 Calls prog 259 #[U1 U4 s,U1 U3 g,.bool l] w fun e w'=>e=U2 (U1 U3 (pZ s g l))/\w=w':=by
 have ha:=q4r s g h0 (by omega) h2 h3;have hb:=Iz s g h0 (by omega) h2 h3;have H:=U5 (And.intro ha hb);clear ha hb;go_enter func259,ntmps259
 go_wp2
 all_goals go_ret
 all_goals rw [H.out.1]
 ·rw [H.out.2];rename_i h;exact ⟨Ga (by simp [pZ,h]),rfl⟩
 ·rename_i h;exact ⟨Ga (by simp [pZ,h]),rfl⟩
theorem qsy (s e:Int) (again:Bool) (w:World) :
 Calls prog 271 #[U1 U4 s,U1 U4 e,.bool again] w fun r w'=>r=U2 (.tuple #[U1 U4 (Bl s e again).1,U1 U3 (Bl s e again).2.1,.bool (Bl s e again).2.2])/\w=w':=by
 go_enter func271,ntmps271
 go_wp2
 all_goals go_ret3
 all_goals refine ⟨?_,rfl⟩
 all_goals go_light
 all_goals simp_all [Bl]
theorem q1x (s e:Int) (again:Bool) (w:World) :
 Calls prog 257 #[U1 U4 s,U1 U4 e,.bool again] w fun r w'=>r=U2 (.tuple #[U1 U4 (toW s e again).1,U1 U3 (toW s e again).2.1,.bool (toW s e again).2.2])/\w=w':=by
 go_enter func257,ntmps257
 go_wp2_with (go_at_call 271;refine (qsy _ _ _ _).mono ?_;rintro e w' ⟨rfl,rfl⟩)
 all_goals go_ret3
 all_goals refine ⟨?_,rfl⟩
 all_goals go_light
 all_goals simp_all [toW]
theorem Fx (n e:Int) (p:Bool) (w:World) (h0:0<=n) (h1:n<18446744073709551616) :
 Calls prog 225 #[U1 U3 n,U1 U4 e,.bool p] w fun r w'=>r=U2 (.tuple #[U1 U3 (Xs n e p).1,U1 U4 (Xs n e p).2])/\w=w':=by
 cases hk:okW n
 ·have H:=U5 hk;clear hk
  go_enter func225,ntmps225
  go_wp2_with (go_at_call 101;refine (yQ _ _ h0 h1).mono ?_;rw [H.out];rintro e w' ⟨rfl,rfl⟩)
  go_ret2
  exact ⟨by simp [Xs,H.out],rfl⟩
 ·by_cases he:e<1\/10<e
  ·have hfin:Xs n e p=(n,1):=by simp [Xs,hk,he]
   have H:=U5 hk;clear hk;have HF:=U5 hfin;clear hfin;by_cases he1:e<1
   ·clear he
    go_enter func225,ntmps225
    go_wp2_with (go_at_call 101;refine (yQ _ _ h0 h1).mono ?_;rw [H.out];rintro e w' ⟨rfl,rfl⟩)
    go_ret2
    exact ⟨by rw [HF.out];rfl,rfl⟩
   ·have he2:10<e:=by omega
    clear he;go_enter func225,ntmps225
    go_wp2_with (go_at_call 101;refine (yQ _ _ h0 h1).mono ?_;rw [H.out];rintro e w' ⟨rfl,rfl⟩)
    go_ret2
    exact ⟨by rw [HF.out];rfl,rfl⟩
  ·have hb:=sS n h0 hk
   have hf:=Du (bB n) e (p && !Xr n) hb.1 hb.2.1;have hT:=q1x (bB n) e (p && !Xr n);have hfin:Xs n e p=Xs n e p:=rfl;conv at hfin=>rhs;unfold Xs
   rw [hk,if_neg (by simp),if_neg he] at hfin;generalize toW (bB n) e (p && !Xr n)=t at hT hf hfin;obtain ⟨s',g',m⟩:=t;simp only [yY] at hf hT hfin;generalize hg:Xv n=g at *;generalize hs:bB n=s at *;generalize hl:Xr n=l at *;have H:=U5 hk;clear hk;have HF:=U5 hfin;clear hfin;have HT:=U5 hT;clear hT;have HG:=U5 hg;clear hg;have HS:=U5 hs;clear hs;have HL:=U5 hl;clear hl;obtain ⟨b1,b2,b3,b4⟩:=hb;obtain ⟨c1,c2,c3,c4⟩:=hf;have he1:¬ e<1:=by omega
   have he2:¬ 10<e:=by omega
   clear he;cases p
   all_goals
    go_enter func225,ntmps225
    go_wp2_with (first
     | (go_at_call 101;refine (yQ _ _ h0 h1).mono ?_;rw [H.out];rintro e w' ⟨rfl,rfl⟩)
     | (go_at_call 39;refine (zc _ _ h0 h1).mono ?_;rw [HS.out];rintro e w' ⟨rfl,rfl⟩)
     | (go_at_call 229;refine (F9 _ _ h0 h1).mono ?_;rw [HG.out];rintro e w' ⟨rfl,rfl⟩)
     | (go_at_call 258;refine (Pv _ _ h0 h1).mono ?_;rw [HL.out];rintro e w' ⟨rfl,rfl⟩)
     | (go_at_call 257;refine (HT.out _).mono ?_;rintro e w' ⟨rfl,rfl⟩)
     | (go_at_call 259;refine (qtc _ _ _ _ (by omega) (by omega) (by omega) (by omega)).mono ?_;rintro e w' ⟨rfl,rfl⟩))
    all_goals go_ret2
    all_goals refine ⟨?_,rfl⟩
    all_goals rw [HF.out]
    all_goals clear H HF HT HG HS HL
    all_goals go_light
    all_goals simp_all
    all_goals (rw [if_neg (by omega)];simp)
end
end Go.Proofs.YtcneeepdclgdcaaGreat
