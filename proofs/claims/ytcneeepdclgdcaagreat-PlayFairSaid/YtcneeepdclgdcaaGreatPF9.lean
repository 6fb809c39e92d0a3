import Derived.Test.YtcneeepdclgdcaaGreatPF1
import Derived.Test.YtcneeepdclgdcaaGreatChecked
import Derived.WalkKit
import Derived.WalkSpells
import Derived.WalkLawsBesides
import Derived.Lib.Hide
import Derived.Deep.Light
set_option maxRecDepth 100000
set_option maxHeartbeats 4000000
namespace Go.Proofs.YtcneeepdclgdcaaGreat
open Go.Value renaming int->WK
open Go.Ending renaming returned->WL
open Go.IntKind renaming u64->WM,i64->WN
open Go.Lib renaming hid->WO
set_option linter.all false
open Go.Proofs.Tryz
section
open Go.RowKit
theorem GZ {a b:Bool} (h:a=b):WL (.bool a)=WL (.bool b):=by rw [h]
theorem EB {k:IntKind} {a b:Int} (h:a=b):WL (.int k a)=WL (.int k b):=by rw [h]
theorem Aa (n:Int) (w:World) (h0:0<=n) (h1:n<18446744073709551616):
 Calls prog 101 #[WK WM n] w fun e w'=>e=WL (.bool (okW n))/\w=w':=by
 have hk:=q9j n h0 h1;have hb:=KY n h0 h1;have hw:wrap64 (bits BinOp.and IntKind.u64 n 7)=bits BinOp.and IntKind.u64 n 7:=by rw [hb];unfold wrap64;omega
 have H:=WO hk;clear hk;clear hb;go_enter func101,ntmps101
 go_wp2
 all_goals go_ret
 all_goals refine ⟨GZ ?_,rfl⟩
 ·rename_i h
  rw [Bool.eq_iff_iff,H.out,decide_eq_true_eq];exact ⟨fun x=>⟨h,x⟩,fun x=>x.2⟩
 ·rename_i h
  rw [Bool.eq_iff_iff,H.out];exact ⟨fun x=>by simp at x,fun x=>absurd x.1 h⟩
theorem Ld (n:Int) (w:World) (h0:0<=n) (h1:n<18446744073709551616):
 Calls prog 39 #[WK WM n] w fun e w'=>e=WL (WK WN (bA n))/\w=w':=by
 have hb:=KY n h0 h1;have hw:wrap64 (n % 8)=n % 8:=by unfold wrap64;omega
 cases hk:okW n
 all_goals
  have H:=WO hk;clear hk;go_enter func39,ntmps39
  go_wp2_with (go_at_call 101;refine (Aa _ _ h0 h1).mono ?_;rw [H.out];rintro e w' ⟨rfl,rfl⟩)
  go_ret
  exact ⟨EB (by simp [bA,H.out]),rfl⟩
theorem Gx (n:Int) (w:World) (h0:0<=n) (h1:n<18446744073709551616):
 Calls prog 229 #[WK WM n] w fun e w'=>e=WL (WK WM (X7 n))/\w=w':=by
 cases hk:okW n
 all_goals
  have H:=WO hk;clear hk;go_enter func229,ntmps229
  go_wp2_with (go_at_call 101;refine (Aa _ _ h0 h1).mono ?_;rw [H.out];rintro e w' ⟨rfl,rfl⟩)
  go_ret
  exact ⟨EB (by simp [X7,H.out]),rfl⟩
theorem RQ (n:Int) (w:World) (h0:0<=n) (h1:n<18446744073709551616):
 Calls prog 258 #[WK WM n] w fun e w'=>e=WL (.bool (Xk n))/\w=w':=by
 have hb:=qz3 n h0 h1;cases hk:okW n
 all_goals
  have H:=WO hk;clear hk;go_enter func258,ntmps258
  go_wp2_with (go_at_call 101;refine (Aa _ _ h0 h1).mono ?_;rw [H.out];rintro e w' ⟨rfl,rfl⟩)
  go_ret
  exact ⟨GZ (by simp only [Xk,H.out];rw [Bool.eq_iff_iff];simp;try omega),rfl⟩
theorem que (s g:Int) (l:Bool) (w:World) (h0:0<=s) (h1:s<=6) (h2:0<=g) (h3:g<=4294967295) :
 Calls prog 259 #[WK WN s,WK WM g,.bool l] w fun e w'=>e=WL (WK WM (qJ s g l))/\w=w':=by
 have ha:=q6o s g h0 (by omega) h2 h3;have hb:=Kz s g h0 (by omega) h2 h3;have H:=WO (And.intro ha hb);clear ha hb;go_enter func259,ntmps259
 go_wp2
 all_goals go_ret
 all_goals rw [H.out.1]
 ·rw [H.out.2];rename_i h;exact ⟨EB (by simp [qJ,h]),rfl⟩
 ·rename_i h;exact ⟨EB (by simp [qJ,h]),rfl⟩
theorem qt0 (s e:Int) (again:Bool) (w:World) :
 Calls prog 271 #[WK WN s,WK WN e,.bool again] w fun r w'=>r=WL (.tuple #[WK WN (Cc s e again).1,WK WM (Cc s e again).2.1,.bool (Cc s e again).2.2])/\w=w':=by
 go_enter func271,ntmps271
 go_wp2
 all_goals go_ret3
 all_goals refine ⟨?_,rfl⟩
 all_goals go_light
 all_goals simp_all [Cc]
theorem q3j (s e:Int) (again:Bool) (w:World) :
 Calls prog 257 #[WK WN s,WK WN e,.bool again] w fun r w'=>r=WL (.tuple #[WK WN (toW s e again).1,WK WM (toW s e again).2.1,.bool (toW s e again).2.2])/\w=w':=by
 go_enter func257,ntmps257
 go_wp2_with (go_at_call 271;refine (qt0 _ _ _ _).mono ?_;rintro e w' ⟨rfl,rfl⟩)
 all_goals go_ret3
 all_goals refine ⟨?_,rfl⟩
 all_goals go_light
 all_goals simp_all [toW]
theorem Gs (n e:Int) (p:Bool) (w:World) (h0:0<=n) (h1:n<18446744073709551616) :
 Calls prog 225 #[WK WM n,WK WN e,.bool p] w fun r w'=>r=WL (.tuple #[WK WM (Xo n e p).1,WK WN (Xo n e p).2])/\w=w':=by
 cases hk:okW n
 ·have H:=WO hk;clear hk
  go_enter func225,ntmps225
  go_wp2_with (go_at_call 101;refine (Aa _ _ h0 h1).mono ?_;rw [H.out];rintro e w' ⟨rfl,rfl⟩)
  go_ret2
  exact ⟨by simp [Xo,H.out],rfl⟩
 ·by_cases he:e<1\/10<e
  ·have hfin:Xo n e p=(n,1):=by simp [Xo,hk,he]
   have H:=WO hk;clear hk;have HF:=WO hfin;clear hfin;by_cases he1:e<1
   ·clear he
    go_enter func225,ntmps225
    go_wp2_with (go_at_call 101;refine (Aa _ _ h0 h1).mono ?_;rw [H.out];rintro e w' ⟨rfl,rfl⟩)
    go_ret2
    exact ⟨by rw [HF.out];rfl,rfl⟩
   ·have he2:10<e:=by omega
    clear he;go_enter func225,ntmps225
    go_wp2_with (go_at_call 101;refine (Aa _ _ h0 h1).mono ?_;rw [H.out];rintro e w' ⟨rfl,rfl⟩)
    go_ret2
    exact ⟨by rw [HF.out];rfl,rfl⟩
  ·have hb:=uH n h0 hk
   have hf:=E6 (bA n) e (p && !Xk n) hb.1 hb.2.1;have hT:=q3j (bA n) e (p && !Xk n);have hfin:Xo n e p=Xo n e p:=rfl;conv at hfin=>rhs;unfold Xo
   rw [hk,if_neg (by simp),if_neg he] at hfin;generalize toW (bA n) e (p && !Xk n)=t at hT hf hfin;obtain ⟨s',g',m⟩:=t;simp only [Al] at hf hT hfin;generalize hg:X7 n=g at *;generalize hs:bA n=s at *;generalize hl:Xk n=l at *;have H:=WO hk;clear hk;have HF:=WO hfin;clear hfin;have HT:=WO hT;clear hT;have HG:=WO hg;clear hg;have HS:=WO hs;clear hs;have HL:=WO hl;clear hl;obtain ⟨b1,b2,b3,b4⟩:=hb;obtain ⟨c1,c2,c3,c4⟩:=hf;have he1:¬ e<1:=by omega
   have he2:¬ 10<e:=by omega
   clear he;cases p
   all_goals
    go_enter func225,ntmps225
    go_wp2_with (first
     | (go_at_call 101;refine (Aa _ _ h0 h1).mono ?_;rw [H.out];rintro e w' ⟨rfl,rfl⟩)
     | (go_at_call 39;refine (Ld _ _ h0 h1).mono ?_;rw [HS.out];rintro e w' ⟨rfl,rfl⟩)
     | (go_at_call 229;refine (Gx _ _ h0 h1).mono ?_;rw [HG.out];rintro e w' ⟨rfl,rfl⟩)
     | (go_at_call 258;refine (RQ _ _ h0 h1).mono ?_;rw [HL.out];rintro e w' ⟨rfl,rfl⟩)
     | (go_at_call 257;refine (HT.out _).mono ?_;rintro e w' ⟨rfl,rfl⟩)
     | (go_at_call 259;refine (que _ _ _ _ (by omega) (by omega) (by omega) (by omega)).mono ?_;rintro e w' ⟨rfl,rfl⟩))
    all_goals go_ret2
    all_goals refine ⟨?_,rfl⟩
    all_goals rw [HF.out]
    all_goals clear H HF HT HG HS HL
    all_goals go_light
    all_goals simp_all
    all_goals (rw [if_neg (by omega)];simp)
end
end Go.Proofs.YtcneeepdclgdcaaGreat
