import Derived.Test.YtcneeepdclgdcaaGreatCO1
import Derived.Test.YtcneeepdclgdcaaGreatChecked
import Derived.WalkKit
import Derived.WalkSpells
import Derived.WalkLawsBesides
import Derived.Lib.Hide
import Derived.Deep.Light
set_option maxRecDepth 100000
set_option maxHeartbeats 4000000
namespace Go.Proofs.YtcneeepdclgdcaaGreat
set_option linter.unusedVariables false
set_option linter.unusedSimpArgs false
open Go.Proofs.Tryz
section
open Go.RowKit
theorem qes {a b:Bool} (h:a=b):Ending.returned (.bool a)=.returned (.bool b):=by rw [h]
theorem qbj {k:IntKind} {a b:Int} (h:a=b):Ending.returned (.int k a)=.returned (.int k b):=by rw [h]
theorem Z7 (n:Int) (w:World) (h0:0≤n) (h1:n<18446744073709551616):
 Calls prog 101 #[.int .u64 n] w fun e w'=>e=.returned (.bool (okW n))∧w=w':=by
 have hk:=qls n h0 h1;have hb:=Jf n h0 h1;have hw:wrap64 (bits BinOp.and IntKind.u64 n 7)=bits BinOp.and IntKind.u64 n 7:=by rw [hb];unfold wrap64;omega
 have H:=Lib.hid hk;clear hk;clear hb;go_enter func101,ntmps101
 go_wp2
 all_goals go_ret
 all_goals refine ⟨qes ?_,rfl⟩
 ·rename_i h
  rw [Bool.eq_iff_iff,H.out,decide_eq_true_eq];exact ⟨fun x=>⟨h,x⟩,fun x=>x.2⟩
 ·rename_i h
  rw [Bool.eq_iff_iff,H.out];exact ⟨fun x=>by simp at x,fun x=>absurd x.1 h⟩
theorem qdu (n:Int) (w:World) (h0:0≤n) (h1:n<18446744073709551616):
 Calls prog 39 #[.int .u64 n] w fun e w'=>e=.returned (.int .i64 (stW n))∧w=w':=by
 have hb:=Jf n h0 h1;have hw:wrap64 (n % 8)=n % 8:=by unfold wrap64;omega
 cases hk:okW n
 all_goals
  have H:=Lib.hid hk;clear hk;go_enter func39,ntmps39
  go_wp2_with (go_at_call 101;refine (Z7 _ _ h0 h1).mono ?_;rw [H.out];rintro e w' ⟨rfl,rfl⟩)
  go_ret
  exact ⟨qbj (by simp [stW,H.out]),rfl⟩
theorem zq (n:Int) (w:World) (h0:0≤n) (h1:n<18446744073709551616):
 Calls prog 229 #[.int .u64 n] w fun e w'=>e=.returned (.int .u64 (X0 n))∧w=w':=by
 cases hk:okW n
 all_goals
  have H:=Lib.hid hk;clear hk;go_enter func229,ntmps229
  go_wp2_with (go_at_call 101;refine (Z7 _ _ h0 h1).mono ?_;rw [H.out];rintro e w' ⟨rfl,rfl⟩)
  go_ret
  exact ⟨qbj (by simp [X0,H.out]),rfl⟩
theorem qfy (n:Int) (w:World) (h0:0≤n) (h1:n<18446744073709551616):
 Calls prog 258 #[.int .u64 n] w fun e w'=>e=.returned (.bool (Xl n))∧w=w':=by
 have hb:=qgu n h0 h1;cases hk:okW n
 all_goals
  have H:=Lib.hid hk;clear hk;go_enter func258,ntmps258
  go_wp2_with (go_at_call 101;refine (Z7 _ _ h0 h1).mono ?_;rw [H.out];rintro e w' ⟨rfl,rfl⟩)
  go_ret
  exact ⟨qes (by simp only [Xl,H.out];rw [Bool.eq_iff_iff];simp;try omega),rfl⟩
theorem qf1 (s g:Int) (l:Bool) (w:World) (h0:0≤s) (h1:s≤6) (h2:0≤g) (h3:g≤4294967295) :
 Calls prog 259 #[.int .i64 s,.int .u64 g,.bool l] w fun e w'=>e=.returned (.int .u64 (Y6 s g l))∧w=w':=by
 have ha:=qk0 s g h0 (by omega) h2 h3;have hb:=or_8 s g h0 (by omega) h2 h3;have H:=Lib.hid (And.intro ha hb);clear ha hb;go_enter func259,ntmps259
 go_wp2
 all_goals go_ret
 all_goals rw [H.out.1]
 ·rw [H.out.2];rename_i h;exact ⟨qbj (by simp [Y6,h]),rfl⟩
 ·rename_i h;exact ⟨qbj (by simp [Y6,h]),rfl⟩
theorem qfk (s e:Int) (again:Bool) (w:World) :
 Calls prog 271 #[.int .i64 s,.int .i64 e,.bool again] w fun r w'=>r=.returned (.tuple #[.int .i64 (qdf s e again).1,.int .u64 (qdf s e again).2.1,.bool (qdf s e again).2.2])∧w=w':=by
 go_enter func271,ntmps271
 go_wp2
 all_goals go_ret3
 all_goals refine ⟨?_,rfl⟩
 all_goals go_light
 all_goals simp_all [qdf]
theorem qjj (s e:Int) (again:Bool) (w:World) :
 Calls prog 257 #[.int .i64 s,.int .i64 e,.bool again] w fun r w'=>r=.returned (.tuple #[.int .i64 (toW s e again).1,.int .u64 (toW s e again).2.1,.bool (toW s e again).2.2])∧w=w':=by
 go_enter func257,ntmps257
 go_wp2_with (go_at_call 271;refine (qfk _ _ _ _).mono ?_;rintro e w' ⟨rfl,rfl⟩)
 all_goals go_ret3
 all_goals refine ⟨?_,rfl⟩
 all_goals go_light
 all_goals simp_all [toW]
theorem Js (n e:Int) (p:Bool) (w:World) (h0:0≤n) (h1:n<18446744073709551616) :
 Calls prog 225 #[.int .u64 n,.int .i64 e,.bool p] w fun r w'=>r=.returned (.tuple #[.int .u64 (Qs n e p).1,.int .i64 (Qs n e p).2])∧w=w':=by
 cases hk:okW n
 ·have H:=Lib.hid hk;clear hk
  go_enter func225,ntmps225
  go_wp2_with (go_at_call 101;refine (Z7 _ _ h0 h1).mono ?_;rw [H.out];rintro e w' ⟨rfl,rfl⟩)
  go_ret2
  exact ⟨by simp [Qs,H.out],rfl⟩
 ·by_cases he:e<1∨10<e
  ·have hfin:Qs n e p=(n,1):=by simp [Qs,hk,he]
   have H:=Lib.hid hk;clear hk;have HF:=Lib.hid hfin;clear hfin;by_cases he1:e<1
   ·clear he
    go_enter func225,ntmps225
    go_wp2_with (go_at_call 101;refine (Z7 _ _ h0 h1).mono ?_;rw [H.out];rintro e w' ⟨rfl,rfl⟩)
    go_ret2
    exact ⟨by rw [HF.out];rfl,rfl⟩
   ·have he2:10<e:=by omega
    clear he;go_enter func225,ntmps225
    go_wp2_with (go_at_call 101;refine (Z7 _ _ h0 h1).mono ?_;rw [H.out];rintro e w' ⟨rfl,rfl⟩)
    go_ret2
    exact ⟨by rw [HF.out];rfl,rfl⟩
  ·have hb:=qap n h0 hk
   have hf:=Yh (stW n) e (p && !Xl n) hb.1 hb.2.1;have hT:=qjj (stW n) e (p && !Xl n);have hfin:Qs n e p=Qs n e p:=rfl;conv at hfin=>rhs;unfold Qs
   rw [hk,if_neg (by simp),if_neg he] at hfin;generalize toW (stW n) e (p && !Xl n)=t at hT hf hfin;obtain ⟨s',g',m⟩:=t;simp only [qef] at hf hT hfin;generalize hg:X0 n=g at *;generalize hs:stW n=s at *;generalize hl:Xl n=l at *;have H:=Lib.hid hk;clear hk;have HF:=Lib.hid hfin;clear hfin;have HT:=Lib.hid hT;clear hT;have HG:=Lib.hid hg;clear hg;have HS:=Lib.hid hs;clear hs;have HL:=Lib.hid hl;clear hl;obtain ⟨b1,b2,b3,b4⟩:=hb;obtain ⟨c1,c2,c3,c4⟩:=hf;have he1:¬ e<1:=by omega
   have he2:¬ 10<e:=by omega
   clear he;cases p
   all_goals
    go_enter func225,ntmps225
    go_wp2_with (first
     | (go_at_call 101;refine (Z7 _ _ h0 h1).mono ?_;rw [H.out];rintro e w' ⟨rfl,rfl⟩)
     | (go_at_call 39;refine (qdu _ _ h0 h1).mono ?_;rw [HS.out];rintro e w' ⟨rfl,rfl⟩)
     | (go_at_call 229;refine (zq _ _ h0 h1).mono ?_;rw [HG.out];rintro e w' ⟨rfl,rfl⟩)
     | (go_at_call 258;refine (qfy _ _ h0 h1).mono ?_;rw [HL.out];rintro e w' ⟨rfl,rfl⟩)
     | (go_at_call 257;refine (HT.out _).mono ?_;rintro e w' ⟨rfl,rfl⟩)
     | (go_at_call 259;refine (qf1 _ _ _ _ (by omega) (by omega) (by omega) (by omega)).mono ?_;rintro e w' ⟨rfl,rfl⟩))
    all_goals go_ret2
    all_goals refine ⟨?_,rfl⟩
    all_goals rw [HF.out]
    all_goals clear H HF HT HG HS HL
    all_goals go_light
    all_goals simp_all
    all_goals (rw [if_neg (by omega)];simp)
end
end Go.Proofs.YtcneeepdclgdcaaGreat
