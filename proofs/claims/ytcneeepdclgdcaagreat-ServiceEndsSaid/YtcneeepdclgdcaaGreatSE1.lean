import Derived.Laws.BitsAllLaws
import Derived.Laws.Bits64b
set_option maxRecDepth 100000
set_option maxHeartbeats 4000000
namespace Go.Proofs.YtcneeepdclgdcaaGreat
open _root_.Int renaming eq_ofNat_of_zero_le->U1
open _root_.Nat renaming two_pow_add_eq_or_of_lt->U2,and_two_pow_sub_one_eq_mod->U3
open Go.IntKind renaming u64->U4
open _root_.Bool renaming and_eq_true->U5
set_option linter.all false
section
def okW (n:Int):Bool:=decide (n % 8<=6) && decide (n / 16 % 16=0) && decide (n / 256<4294967296)
def bB (n:Int):Int:=if okW n=true then n % 8 else 0
def Xv (n:Int):Int:=if okW n=true then n / 256 else 0
def Xr (n:Int):Bool:=okW n && decide (n / 8 % 2=1)
def pZ (s g:Int) (l:Bool):Int:=s+256*g+(if l=true then 8 else 0)
def Bl (s e:Int) (again:Bool):Int × Int × Bool :=
 if s=4 then
  if again=true then
   if e=6 then (5,1,true) else if e=8 then (2,1,true) else (s,0,again)
  else (s,0,false)
 else if s=2\/s=3 then
  if e=6 then (5,0,true) else if e=8 then (2,1,true) else (s,0,again)
 else (s,0,false)
def toW (s e:Int) (again:Bool):Int × Int × Bool :=
 if e=1 then (1,1,(s == 0))
 else if e=2 then (2,0,(s == 1))
 else if e=3 then (3,0,(s == 2))
 else if e=4 then (4,0,(s == 3))
 else if e=5 then (3,1,(s == 4) && again)
 else if e=9 then (if s=1 then (0,0,true) else (6,0,(s == 4)))
 else if e=10 then (0,0,(s == 5) || (s == 6))
 else Bl s e again
def Xs (n e:Int) (p:Bool):Int × Int :=
 if okW n=false then (n,5)
 else if e<1\/10<e then (n,1)
 else
  let t:=toW (bB n) e (p && !Xr n)
  if t.2.2=false then (n,7)
  else if 4294967295<Xv n+t.2.1 then (n,9)
  else (pZ t.1 (Xv n+t.2.1) (if e=7 then true else if e=1\/e=10 then false else Xr n),0)
theorem Li (n k i:Nat):n &&& (k <<< i)=((n >>> i) &&& k) <<< i:=by
 apply Nat.eq_of_testBit_eq
 intro j;simp only [Nat.testBit_and,Nat.testBit_shiftLeft,Nat.testBit_shiftRight];by_cases h:i<=j
 ·simp [h,show i+(j - i)=j from by omega]
 ·simp [h]
theorem q00 (n:Nat):(n &&& (18446744073709551615 - 1099511627535))=(n / 16 % 16)*16+(n / 1099511627776 % 16777216)*1099511627776:=by
 have e:(18446744073709551615 - 1099511627535:Nat)=(15 <<< 4) ||| ((2^24-1) <<< 40):=by decide
 rw [e,Nat.and_or_distrib_left,Li,Li];rw [show (15:Nat)=2^4 - 1 from rfl,U3,U3];simp only [Nat.shiftRight_eq_div_pow]
 have h2:(n / 2^4 % 2^4) <<< 4<2^40:=by
  rw [Nat.shiftLeft_eq];omega
 rw [Nat.or_comm,Nat.shiftLeft_eq _ 40,Nat.mul_comm,<- U2 h2,Nat.shiftLeft_eq];omega
theorem JI (n:Int) (h0:0<=n) (h1:n<18446744073709551616):bits .and U4 n 7=n % 8:=by
 obtain ⟨k,rfl⟩:=U1 h0;rw [show (7:Int)=((7:Nat):Int) from rfl,u64_and_nat k 7 (by omega) (by omega)];rw [show (7:Nat)=2 ^ 3 - 1 from rfl,U3];omega
theorem qy5 (k:Nat):k &&& 8=k / 8 % 2*8:=by
 have h:=Li k (2 ^ 1 - 1) 3;rw [U3,Nat.shiftRight_eq_div_pow] at h;rw [show (8:Nat)=(2 ^ 1 - 1) <<< 3 from rfl,h,Nat.shiftLeft_eq];rfl
theorem qyl (n:Int) (h0:0<=n) (h1:n<18446744073709551616):bits .and U4 n 8=(n / 8 % 2)*8:=by
 obtain ⟨k,rfl⟩:=U1 h0;rw [show (8:Int)=((8:Nat):Int) from rfl,u64_and_nat k 8 (by omega) (by omega),qy5];omega
theorem qhx (n:Int) (h0:0<=n) (h1:n<18446744073709551616) :
 bits .andNot U4 n 1099511627535=(n / 16 % 16)*16+(n / 1099511627776 % 16777216)*1099511627776:=by
 obtain ⟨k,rfl⟩:=U1 h0;rw [show (1099511627535:Int)=((1099511627535:Nat):Int) from rfl,u64_andNot_nat k _ (by omega) (by omega),q00];omega
theorem q7p (n:Int) (h0:0<=n) (h1:n<18446744073709551616) :
 okW n=true↔bits .andNot U4 n 1099511627535=0/\bits .and U4 n 7<=6:=by
 rw [qhx n h0 h1,JI n h0 h1];simp only [okW,U5,decide_eq_true_eq];omega
theorem sS (n:Int) (h0:0<=n) (h:okW n=true):0<=bB n/\bB n<=6/\0<=Xv n/\Xv n<=4294967295:=by
 have h':=h;simp only [okW,U5,decide_eq_true_eq] at h';rw [bB,Xv,if_pos h,if_pos h];omega
theorem q4r (x y:Int) (hx0:0<=x) (hx:x<256) (hy0:0<=y) (hy:y<=4294967295) :
 bits .or U4 x (y*256)=x+256*y:=by
 obtain ⟨a,rfl⟩:=U1 hx0;obtain ⟨b,rfl⟩:=U1 hy0;rw [show ((b:Int)*256)=((b*256:Nat):Int) from by omega,u64_or_nat a (b*256) (by omega) (by omega)];rw [show b*256=2 ^ 8*b from by omega,Nat.or_comm,<- U2 (by omega)];omega
theorem q4q (a b:Nat) (ha:a<8):(2 ^ 8*b+a) ||| 8=2 ^ 8*b+(a+8):=by
 have e:a ||| 8=2 ^ 3*1+a:=by rw [U2 ha,Nat.or_comm]
 rw [U2 (show a<2 ^ 8 by omega),Nat.or_assoc,e,<- U2 (by omega)];omega
theorem Iz (x y:Int) (hx0:0<=x) (hx:x<8) (hy0:0<=y) (hy:y<=4294967295) :
 bits .or U4 (x+256*y) 8=x+256*y+8:=by
 obtain ⟨a,rfl⟩:=U1 hx0;obtain ⟨b,rfl⟩:=U1 hy0
 rw [show ((a:Int)+256*(b:Int))=((2 ^ 8*b+a:Nat):Int) from by omega,show (8:Int)=((8:Nat):Int) from rfl,u64_or_nat _ 8 (by omega) (by omega),
  q4q a b (by omega)]
 omega
def yY (t:Int × Int × Bool):Prop:=0<=t.1/\t.1<=6/\0<=t.2.1/\t.2.1<=1
theorem q0p {c:Prop} [Decidable c] {a b:Int × Int × Bool} (ha:yY a) (hb:yY b):yY (if c then a else b):=by
 split <;> assumption
theorem Du (s e:Int) (again:Bool) (h0:0<=s) (h1:s<=6):yY (toW s e again):=by
 unfold toW Bl
 repeat' (refine q0p ?_ ?_)
 all_goals (simp only [yY];omega)
theorem qo8 (s g:Int) (l:Bool) (h0:0<=s) (h1:s<=6) (h2:0<=g) (h3:g<=4294967295) :
 okW (pZ s g l)=true/\bB (pZ s g l)=s/\Xv (pZ s g l)=g/\Xr (pZ s g l)=l/\0<=pZ s g l/\pZ s g l<18446744073709551616:=by
 have hk:okW (pZ s g l)=true:=by
  simp only [okW,U5,decide_eq_true_eq];cases l <;> simp [pZ] <;> omega
 rw [bB,Xv,Xr,if_pos hk,if_pos hk,hk];cases l <;> simp [pZ] <;> omega
theorem Y1 (n e:Int) (p:Bool) (h0:0<=n) (h1:n<18446744073709551616) (hk:okW n=true) :
 ((Xs n e p).1=n/\((Xs n e p).2=1/\(e<1\/10<e)\/(Xs n e p).2=7\/(Xs n e p).2=9)) \/
 ((Xs n e p).2=0/\1<=e/\e<=10/\(toW (bB n) e (p && !Xr n)).2.2=true/\okW (Xs n e p).1=true /\
   bB (Xs n e p).1=(toW (bB n) e (p && !Xr n)).1/\Xv (Xs n e p).1=Xv n+(toW (bB n) e (p && !Xr n)).2.1 /\
   Xr (Xs n e p).1=(if e=7 then true else if e=1\/e=10 then false else Xr n)/\0<=(Xs n e p).1/\(Xs n e p).1<18446744073709551616):=by
 have hb:=sS n h0 hk;have hf:=Du (bB n) e (p && !Xr n) hb.1 hb.2.1;unfold Xs;rw [hk,if_neg (by simp)];by_cases he:e<1\/10<e
 ·rw [if_pos he];exact .inl ⟨rfl,.inl ⟨rfl,he⟩⟩
 ·rw [if_neg he]
  simp only;generalize toW (bB n) e (p && !Xr n)=t at *;simp only [yY] at hf;cases hm:t.2.2
  ·rw [if_pos rfl];exact .inl ⟨rfl,.inr (.inl rfl)⟩
  ·rw [if_neg (by simp)]
   by_cases ho:4294967295<Xv n+t.2.1
   ·rw [if_pos ho];exact .inl ⟨rfl,.inr (.inr rfl)⟩
   ·rw [if_neg ho]
    have hp:=qo8 t.1 (Xv n+t.2.1) (if e=7 then true else if e=1\/e=10 then false else Xr n) hf.1 hf.2.1 (by omega) (by omega);exact .inr ⟨rfl,by omega,by omega,rfl,hp.1,hp.2.1,hp.2.2.1,hp.2.2.2.1,hp.2.2.2.2.1,hp.2.2.2.2.2⟩
end
end Go.Proofs.YtcneeepdclgdcaaGreat
