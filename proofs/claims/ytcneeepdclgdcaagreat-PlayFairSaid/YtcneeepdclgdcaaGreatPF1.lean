import Derived.Laws.BitsAllLaws
import Derived.Laws.Bits64b
set_option maxRecDepth 100000
set_option maxHeartbeats 4000000
namespace Go.Proofs.YtcneeepdclgdcaaGreat
open _root_.Int renaming eq_ofNat_of_zero_le->WK
open _root_.Nat renaming two_pow_add_eq_or_of_lt->WL,and_two_pow_sub_one_eq_mod->WM
open Go.IntKind renaming u64->WN
open _root_.Bool renaming and_eq_true->WO
set_option linter.all false
section
def okW (n:Int):Bool:=decide (n % 8<=6) && decide (n / 16 % 16=0) && decide (n / 256<4294967296)
def bA (n:Int):Int:=if okW n=true then n % 8 else 0
def X7 (n:Int):Int:=if okW n=true then n / 256 else 0
def Xk (n:Int):Bool:=okW n && decide (n / 8 % 2=1)
def qJ (s g:Int) (l:Bool):Int:=s+256*g+(if l=true then 8 else 0)
def Cc (s e:Int) (again:Bool):Int × Int × Bool :=
 if s=4 then
  if again=true then
   if e=6 then (5,1,true) else if e=8 then (2,1,true) else (s,0,again)
  else (s,0,false)
 else if s=2\/s=3 then
  if e=6 then (5,0,true) else if e=8 then (2,1,true) else (s,0,again)
 else (s,0,false)
def toW (s e:Int) (again:Bool):Int × Int × Bool :=
 if e=1 then (1,1,(s == 0))
 else if e=2 then (2,0,(s == 1))
 else if e=3 then (3,0,(s == 2))
 else if e=4 then (4,0,(s == 3))
 else if e=5 then (3,1,(s == 4) && again)
 else if e=9 then (if s=1 then (0,0,true) else (6,0,(s == 4)))
 else if e=10 then (0,0,(s == 5) || (s == 6))
 else Cc s e again
def Xo (n e:Int) (p:Bool):Int × Int :=
 if okW n=false then (n,5)
 else if e<1\/10<e then (n,1)
 else
  let t:=toW (bA n) e (p && !Xk n)
  if t.2.2=false then (n,7)
  else if 4294967295<X7 n+t.2.1 then (n,9)
  else (qJ t.1 (X7 n+t.2.1) (if e=7 then true else if e=1\/e=10 then false else Xk n),0)
theorem MQ (n k i:Nat):n &&& (k <<< i)=((n >>> i) &&& k) <<< i:=by
 apply Nat.eq_of_testBit_eq
 intro j;simp only [Nat.testBit_and,Nat.testBit_shiftLeft,Nat.testBit_shiftRight];by_cases h:i<=j
 ·simp [h,show i+(j - i)=j from by omega]
 ·simp [h]
theorem q2k (n:Nat):(n &&& (18446744073709551615 - 1099511627535))=(n / 16 % 16)*16+(n / 1099511627776 % 16777216)*1099511627776:=by
 have e:(18446744073709551615 - 1099511627535:Nat)=(15 <<< 4) ||| ((2^24-1) <<< 40):=by decide
 rw [e,Nat.and_or_distrib_left,MQ,MQ];rw [show (15:Nat)=2^4 - 1 from rfl,WM,WM];simp only [Nat.shiftRight_eq_div_pow]
 have h2:(n / 2^4 % 2^4) <<< 4<2^40:=by
  rw [Nat.shiftLeft_eq];omega
 rw [Nat.or_comm,Nat.shiftLeft_eq _ 40,Nat.mul_comm,<- WL h2,Nat.shiftLeft_eq];omega
theorem KY (n:Int) (h0:0<=n) (h1:n<18446744073709551616):bits .and WN n 7=n % 8:=by
 obtain ⟨k,rfl⟩:=WK h0;rw [show (7:Int)=((7:Nat):Int) from rfl,u64_and_nat k 7 (by omega) (by omega)];rw [show (7:Nat)=2 ^ 3 - 1 from rfl,WM];omega
theorem q0r (k:Nat):k &&& 8=k / 8 % 2*8:=by
 have h:=MQ k (2 ^ 1 - 1) 3;rw [WM,Nat.shiftRight_eq_div_pow] at h;rw [show (8:Nat)=(2 ^ 1 - 1) <<< 3 from rfl,h,Nat.shiftLeft_eq];rfl
theorem qz3 (n:Int) (h0:0<=n) (h1:n<18446744073709551616):bits .and WN n 8=(n / 8 % 2)*8:=by
 obtain ⟨k,rfl⟩:=WK h0;rw [show (8:Int)=((8:Nat):Int) from rfl,u64_and_nat k 8 (by omega) (by omega),q0r];omega
theorem qim (n:Int) (h0:0<=n) (h1:n<18446744073709551616) :
 bits .andNot WN n 1099511627535=(n / 16 % 16)*16+(n / 1099511627776 % 16777216)*1099511627776:=by
 obtain ⟨k,rfl⟩:=WK h0;rw [show (1099511627535:Int)=((1099511627535:Nat):Int) from rfl,u64_andNot_nat k _ (by omega) (by omega),q2k];omega
theorem q9j (n:Int) (h0:0<=n) (h1:n<18446744073709551616) :
 okW n=true↔bits .andNot WN n 1099511627535=0/\bits .and WN n 7<=6:=by
 rw [qim n h0 h1,KY n h0 h1];simp only [okW,WO,decide_eq_true_eq];omega
theorem uH (n:Int) (h0:0<=n) (h:okW n=true):0<=bA n/\bA n<=6/\0<=X7 n/\X7 n<=4294967295:=by
 have h':=h;simp only [okW,WO,decide_eq_true_eq] at h';rw [bA,X7,if_pos h,if_pos h];omega
theorem q6o (x y:Int) (hx0:0<=x) (hx:x<256) (hy0:0<=y) (hy:y<=4294967295) :
 bits .or WN x (y*256)=x+256*y:=by
 obtain ⟨a,rfl⟩:=WK hx0;obtain ⟨b,rfl⟩:=WK hy0;rw [show ((b:Int)*256)=((b*256:Nat):Int) from by omega,u64_or_nat a (b*256) (by omega) (by omega)];rw [show b*256=2 ^ 8*b from by omega,Nat.or_comm,<- WL (by omega)];omega
theorem q6n (a b:Nat) (ha:a<8):(2 ^ 8*b+a) ||| 8=2 ^ 8*b+(a+8):=by
 have e:a ||| 8=2 ^ 3*1+a:=by rw [WL ha,Nat.or_comm]
 rw [WL (show a<2 ^ 8 by omega),Nat.or_assoc,e,<- WL (by omega)];omega
theorem Kz (x y:Int) (hx0:0<=x) (hx:x<8) (hy0:0<=y) (hy:y<=4294967295) :
 bits .or WN (x+256*y) 8=x+256*y+8:=by
 obtain ⟨a,rfl⟩:=WK hx0;obtain ⟨b,rfl⟩:=WK hy0
 rw [show ((a:Int)+256*(b:Int))=((2 ^ 8*b+a:Nat):Int) from by omega,show (8:Int)=((8:Nat):Int) from rfl,u64_or_nat _ 8 (by omega) (by omega),
  q6n a b (by omega)]
 omega
def Al (t:Int × Int × Bool):Prop:=0<=t.1/\t.1<=6/\0<=t.2.1/\t.2.1<=1
theorem q19 {c:Prop} [Decidable c] {a b:Int × Int × Bool} (ha:Al a) (hb:Al b):Al (if c then a else b):=by
 split <;> assumption
theorem E6 (s e:Int) (again:Bool) (h0:0<=s) (h1:s<=6):Al (toW s e again):=by
 unfold toW Cc
 repeat' (refine q19 ?_ ?_)
 all_goals (simp only [Al];omega)
theorem qpw (s g:Int) (l:Bool) (h0:0<=s) (h1:s<=6) (h2:0<=g) (h3:g<=4294967295) :
 okW (qJ s g l)=true/\bA (qJ s g l)=s/\X7 (qJ s g l)=g/\Xk (qJ s g l)=l/\0<=qJ s g l/\qJ s g l<18446744073709551616:=by
 have hk:okW (qJ s g l)=true:=by
  simp only [okW,WO,decide_eq_true_eq];cases l <;> simp [qJ] <;> omega
 rw [bA,X7,Xk,if_pos hk,if_pos hk,hk];cases l <;> simp [qJ] <;> omega
theorem Yz (n e:Int) (p:Bool) (h0:0<=n) (h1:n<18446744073709551616) (hk:okW n=true) :
 ((Xo n e p).1=n/\((Xo n e p).2=1/\(e<1\/10<e)\/(Xo n e p).2=7\/(Xo n e p).2=9)) \/
 ((Xo n e p).2=0/\1<=e/\e<=10/\(toW (bA n) e (p && !Xk n)).2.2=true/\okW (Xo n e p).1=true /\
   bA (Xo n e p).1=(toW (bA n) e (p && !Xk n)).1/\X7 (Xo n e p).1=X7 n+(toW (bA n) e (p && !Xk n)).2.1 /\
   Xk (Xo n e p).1=(if e=7 then true else if e=1\/e=10 then false else Xk n)/\0<=(Xo n e p).1/\(Xo n e p).1<18446744073709551616):=by
 have hb:=uH n h0 hk;have hf:=E6 (bA n) e (p && !Xk n) hb.1 hb.2.1;unfold Xo;rw [hk,if_neg (by simp)];by_cases he:e<1\/10<e
 ·rw [if_pos he];exact .inl ⟨rfl,.inl ⟨rfl,he⟩⟩
 ·rw [if_neg he]
  simp only;generalize toW (bA n) e (p && !Xk n)=t at *;simp only [Al] at hf;cases hm:t.2.2
  ·rw [if_pos rfl];exact .inl ⟨rfl,.inr (.inl rfl)⟩
  ·rw [if_neg (by simp)]
   by_cases ho:4294967295<X7 n+t.2.1
   ·rw [if_pos ho];exact .inl ⟨rfl,.inr (.inr rfl)⟩
   ·rw [if_neg ho]
    have hp:=qpw t.1 (X7 n+t.2.1) (if e=7 then true else if e=1\/e=10 then false else Xk n) hf.1 hf.2.1 (by omega) (by omega);exact .inr ⟨rfl,by omega,by omega,rfl,hp.1,hp.2.1,hp.2.2.1,hp.2.2.2.1,hp.2.2.2.2.1,hp.2.2.2.2.2⟩
end
end Go.Proofs.YtcneeepdclgdcaaGreat
