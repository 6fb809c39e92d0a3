import Derived.Test.YtikpbibeagbccaaGreatGV1
import Derived.Test.YtikpbibeagbccaaGreatChecked
import Derived.WalkKit
import Derived.WalkSpells
import Derived.WalkLawsBesides
import Derived.Lib.Hide
import Derived.Deep.Light
set_option maxRecDepth 100000
set_option maxHeartbeats 4000000
namespace Go.Proofs.YtikpbibeagbccaaGreat
set_option linter.unusedVariables false
set_option linter.unusedSimpArgs false
open Go.Proofs.Tryz
section
open Go.RowKit
theorem qmu {a b:Bool} (h:a=b):Ending.returned (.bool a)=.returned (.bool b):=by rw [h]
theorem qhg {k:IntKind} {a b:Int} (h:a=b):Ending.returned (.int k a)=.returned (.int k b):=by rw [h]
theorem zk (n:Int) (w:World) (h0:0≤n) (h1:n<18446744073709551616):
 Calls prog 211 #[.int .u64 n] w fun e w'=>e=.returned (.bool (okW n))∧w=w':=by
 have hk:=q0j n h0 h1;have hb:=z9 n h0 h1;have hw:wrap64 (bits BinOp.and IntKind.u64 n 7)=bits BinOp.and IntKind.u64 n 7:=by rw [hb];unfold wrap64;omega
 have H:=Lib.hid hk;clear hk;clear hb;go_enter func211,ntmps211
 go_wp2
 all_goals go_ret
 all_goals refine ⟨qmu ?_,rfl⟩
 ·rename_i h
  rw [Bool.eq_iff_iff,H.out,decide_eq_true_eq];exact ⟨fun x=>⟨h,x⟩,fun x=>x.2⟩
 ·rename_i h
  rw [Bool.eq_iff_iff,H.out];exact ⟨fun x=>by simp at x,fun x=>absurd x.1 h⟩
theorem Yv (n:Int) (w:World) (h0:0≤n) (h1:n<18446744073709551616):
 Calls prog 173 #[.int .u64 n] w fun e w'=>e=.returned (.int .i64 (stW n))∧w=w':=by
 have hb:=z9 n h0 h1;have hw:wrap64 (n % 8)=n % 8:=by unfold wrap64;omega
 cases hk:okW n
 all_goals
  have H:=Lib.hid hk;clear hk;go_enter func173,ntmps173
  go_wp2_with (go_at_call 211;refine (zk _ _ h0 h1).mono ?_;rw [H.out];rintro e w' ⟨rfl,rfl⟩)
  go_ret
  exact ⟨qhg (by simp [stW,H.out]),rfl⟩
theorem qbo (n:Int) (w:World) (h0:0≤n) (h1:n<18446744073709551616):
 Calls prog 195 #[.int .u64 n] w fun e w'=>e=.returned (.int .u64 (Zp n))∧w=w':=by
 cases hk:okW n
 all_goals
  have H:=Lib.hid hk;clear hk;go_enter func195,ntmps195
  go_wp2_with (go_at_call 211;refine (zk _ _ h0 h1).mono ?_;rw [H.out];rintro e w' ⟨rfl,rfl⟩)
  go_ret
  exact ⟨qhg (by simp [Zp,H.out]),rfl⟩
theorem qgs (n:Int) (w:World) (h0:0≤n) (h1:n<18446744073709551616):
 Calls prog 224 #[.int .u64 n] w fun e w'=>e=.returned (.bool (Jd n))∧w=w':=by
 have hb:=qr8 n h0 h1;cases hk:okW n
 all_goals
  have H:=Lib.hid hk;clear hk;go_enter func224,ntmps224
  go_wp2_with (go_at_call 211;refine (zk _ _ h0 h1).mono ?_;rw [H.out];rintro e w' ⟨rfl,rfl⟩)
  go_ret
  exact ⟨qmu (by simp only [Jd,H.out];rw [Bool.eq_iff_iff];simp;try omega),rfl⟩
theorem qps (s g:Int) (l:Bool) (w:World) (h0:0≤s) (h1:s≤6) (h2:0≤g) (h3:g≤4294967295) :
 Calls prog 225 #[.int .i64 s,.int .u64 g,.bool l] w fun e w'=>e=.returned (.int .u64 (qc3 s g l))∧w=w':=by
 have ha:=qx5 s g h0 (by omega) h2 h3;have hb:=or_8 s g h0 (by omega) h2 h3;have H:=Lib.hid (And.intro ha hb);clear ha hb;go_enter func225,ntmps225
 go_wp2
 all_goals go_ret
 all_goals rw [H.out.1]
 ·rw [H.out.2];rename_i h;exact ⟨qhg (by simp [qc3,h]),rfl⟩
 ·rename_i h;exact ⟨qhg (by simp [qc3,h]),rfl⟩
theorem qqe (s e:Int) (again:Bool) (w:World) :
 Calls prog 246 #[.int .i64 s,.int .i64 e,.bool again] w fun r w'=>r=.returned (.tuple #[.int .i64 (qn8 s e again).1,.int .u64 (qn8 s e again).2.1,.bool (qn8 s e again).2.2])∧w=w':=by
 go_enter func246,ntmps246
 go_wp2
 all_goals go_ret3
 all_goals refine ⟨?_,rfl⟩
 all_goals go_light
 all_goals simp_all [qn8]
theorem qv4 (s e:Int) (again:Bool) (w:World) :
 Calls prog 223 #[.int .i64 s,.int .i64 e,.bool again] w fun r w'=>r=.returned (.tuple #[.int .i64 (toW s e again).1,.int .u64 (toW s e again).2.1,.bool (toW s e again).2.2])∧w=w':=by
 go_enter func223,ntmps223
 go_wp2_with (go_at_call 246;refine (qqe _ _ _ _).mono ?_;rintro e w' ⟨rfl,rfl⟩)
 all_goals go_ret3
 all_goals refine ⟨?_,rfl⟩
 all_goals go_light
 all_goals simp_all [toW]
theorem qaw (n e:Int) (p:Bool) (w:World) (h0:0≤n) (h1:n<18446744073709551616) :
 Calls prog 191 #[.int .u64 n,.int .i64 e,.bool p] w fun r w'=>r=.returned (.tuple #[.int .u64 (Za n e p).1,.int .i64 (Za n e p).2])∧w=w':=by
 cases hk:okW n
 ·have H:=Lib.hid hk;clear hk
  go_enter func191,ntmps191
  go_wp2_with (go_at_call 211;refine (zk _ _ h0 h1).mono ?_;rw [H.out];rintro e w' ⟨rfl,rfl⟩)
  go_ret2
  exact ⟨by simp [Za,H.out],rfl⟩
 ·by_cases he:e<1∨10<e
  ·have hfin:Za n e p=(n,1):=by simp [Za,hk,he]
   have H:=Lib.hid hk;clear hk;have HF:=Lib.hid hfin;clear hfin;by_cases he1:e<1
   ·clear he
    go_enter func191,ntmps191
    go_wp2_with (go_at_call 211;refine (zk _ _ h0 h1).mono ?_;rw [H.out];rintro e w' ⟨rfl,rfl⟩)
    go_ret2
    exact ⟨by rw [HF.out];rfl,rfl⟩
   ·have he2:10<e:=by omega
    clear he;go_enter func191,ntmps191
    go_wp2_with (go_at_call 211;refine (zk _ _ h0 h1).mono ?_;rw [H.out];rintro e w' ⟨rfl,rfl⟩)
    go_ret2
    exact ⟨by rw [HF.out];rfl,rfl⟩
  ·have hb:=qsk n h0 hk
   have hf:=qhj (stW n) e (p && !Jd n) hb.1 hb.2.1;have hT:=qv4 (stW n) e (p && !Jd n);have hfin:Za n e p=Za n e p:=rfl;conv at hfin=>rhs;unfold Za
   rw [hk,if_neg (by simp),if_neg he] at hfin;generalize toW (stW n) e (p && !Jd n)=t at hT hf hfin;obtain ⟨s',g',m⟩:=t;simp only [qlf] at hf hT hfin;generalize hg:Zp n=g at *;generalize hs:stW n=s at *;generalize hl:Jd n=l at *;have H:=Lib.hid hk;clear hk;have HF:=Lib.hid hfin;clear hfin;have HT:=Lib.hid hT;clear hT;have HG:=Lib.hid hg;clear hg;have HS:=Lib.hid hs;clear hs;have HL:=Lib.hid hl;clear hl;obtain ⟨b1,b2,b3,b4⟩:=hb;obtain ⟨c1,c2,c3,c4⟩:=hf;have he1:¬ e<1:=by omega
   have he2:¬ 10<e:=by omega
   clear he;cases p
   all_goals
    go_enter func191,ntmps191
    go_wp2_with (first
     | (go_at_call 211;refine (zk _ _ h0 h1).mono ?_;rw [H.out];rintro e w' ⟨rfl,rfl⟩)
     | (go_at_call 173;refine (Yv _ _ h0 h1).mono ?_;rw [HS.out];rintro e w' ⟨rfl,rfl⟩)
     | (go_at_call 195;refine (qbo _ _ h0 h1).mono ?_;rw [HG.out];rintro e w' ⟨rfl,rfl⟩)
     | (go_at_call 224;refine (qgs _ _ h0 h1).mono ?_;rw [HL.out];rintro e w' ⟨rfl,rfl⟩)
     | (go_at_call 223;refine (HT.out _).mono ?_;rintro e w' ⟨rfl,rfl⟩)
     | (go_at_call 225;refine (qps _ _ _ _ (by omega) (by omega) (by omega) (by omega)).mono ?_;rintro e w' ⟨rfl,rfl⟩))
    all_goals go_ret2
    all_goals refine ⟨?_,rfl⟩
    all_goals rw [HF.out]
    all_goals clear H HF HT HG HS HL
    all_goals go_light
    all_goals simp_all
    all_goals (rw [if_neg (by omega)];simp)
end
end Go.Proofs.YtikpbibeagbccaaGreat
