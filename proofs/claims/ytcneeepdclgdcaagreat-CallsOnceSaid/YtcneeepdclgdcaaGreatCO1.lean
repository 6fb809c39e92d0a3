import Derived.Laws.BitsAllLaws
import Derived.Laws.Bits64b
set_option maxRecDepth 100000
set_option maxHeartbeats 4000000
namespace Go.Proofs.YtcneeepdclgdcaaGreat
set_option linter.unusedVariables false
set_option linter.unusedSimpArgs false
section
def okW (n:Int):Bool:=decide (n % 8≤6) && decide (n / 16 % 16=0) && decide (n / 256<4294967296)
def stW (n:Int):Int:=if okW n=true then n % 8 else 0
def X0 (n:Int):Int:=if okW n=true then n / 256 else 0
def Xl (n:Int):Bool:=okW n && decide (n / 8 % 2=1)
def Y6 (s g:Int) (l:Bool):Int:=s+256*g+(if l=true then 8 else 0)
def qdf (s e:Int) (again:Bool):Int × Int × Bool :=
 if s=4 then
  if again=true then
   if e=6 then (5,1,true) else if e=8 then (2,1,true) else (s,0,again)
  else (s,0,false)
 else if s=2∨s=3 then
  if e=6 then (5,0,true) else if e=8 then (2,1,true) else (s,0,again)
 else (s,0,false)
def toW (s e:Int) (again:Bool):Int × Int × Bool :=
 if e=1 then (1,1,(s == 0))
 else if e=2 then (2,0,(s == 1))
 else if e=3 then (3,0,(s == 2))
 else if e=4 then (4,0,(s == 3))
 else if e=5 then (3,1,(s == 4) && again)
 else if e=9 then (if s=1 then (0,0,true) else (6,0,(s == 4)))
 else if e=10 then (0,0,(s == 5) || (s == 6))
 else qdf s e again
def Qs (n e:Int) (p:Bool):Int × Int :=
 if okW n=false then (n,5)
 else if e<1∨10<e then (n,1)
 else
  let t:=toW (stW n) e (p && !Xl n)
  if t.2.2=false then (n,7)
  else if 4294967295<X0 n+t.2.1 then (n,9)
  else (Y6 t.1 (X0 n+t.2.1) (if e=7 then true else if e=1∨e=10 then false else Xl n),0)
theorem qd2 (n k i:Nat):n &&& (k <<< i)=((n >>> i) &&& k) <<< i:=by
 apply Nat.eq_of_testBit_eq
 intro j;simp only [Nat.testBit_and,Nat.testBit_shiftLeft,Nat.testBit_shiftRight];by_cases h:i≤j
 ·simp [h,show i+(j - i)=j from by omega]
 ·simp [h]
theorem qjq (n:Nat):(n &&& (18446744073709551615 - 1099511627535))=(n / 16 % 16)*16+(n / 1099511627776 % 16777216)*1099511627776:=by
 have e:(18446744073709551615 - 1099511627535:Nat)=(15 <<< 4) ||| ((2^24-1) <<< 40):=by decide
 rw [e,Nat.and_or_distrib_left,qd2,qd2];rw [show (15:Nat)=2^4 - 1 from rfl,Nat.and_two_pow_sub_one_eq_mod,Nat.and_two_pow_sub_one_eq_mod];simp only [Nat.shiftRight_eq_div_pow]
 have h2:(n / 2^4 % 2^4) <<< 4<2^40:=by
  rw [Nat.shiftLeft_eq];omega
 rw [Nat.or_comm,Nat.shiftLeft_eq _ 40,Nat.mul_comm,← Nat.two_pow_add_eq_or_of_lt h2,Nat.shiftLeft_eq];omega
theorem Jf (n:Int) (h0:0≤n) (h1:n<18446744073709551616):bits .and .u64 n 7=n % 8:=by
 obtain ⟨k,rfl⟩:=Int.eq_ofNat_of_zero_le h0;rw [show (7:Int)=((7:Nat):Int) from rfl,u64_and_nat k 7 (by omega) (by omega)];rw [show (7:Nat)=2 ^ 3 - 1 from rfl,Nat.and_two_pow_sub_one_eq_mod];omega
theorem qiy (k:Nat):k &&& 8=k / 8 % 2*8:=by
 have h:=qd2 k (2 ^ 1 - 1) 3;rw [Nat.and_two_pow_sub_one_eq_mod,Nat.shiftRight_eq_div_pow] at h;rw [show (8:Nat)=(2 ^ 1 - 1) <<< 3 from rfl,h,Nat.shiftLeft_eq];rfl
theorem qgu (n:Int) (h0:0≤n) (h1:n<18446744073709551616):bits .and .u64 n 8=(n / 8 % 2)*8:=by
 obtain ⟨k,rfl⟩:=Int.eq_ofNat_of_zero_le h0;rw [show (8:Int)=((8:Nat):Int) from rfl,u64_and_nat k 8 (by omega) (by omega),qiy];omega
theorem z6 (n:Int) (h0:0≤n) (h1:n<18446744073709551616) :
 bits .andNot .u64 n 1099511627535=(n / 16 % 16)*16+(n / 1099511627776 % 16777216)*1099511627776:=by
 obtain ⟨k,rfl⟩:=Int.eq_ofNat_of_zero_le h0;rw [show (1099511627535:Int)=((1099511627535:Nat):Int) from rfl,u64_andNot_nat k _ (by omega) (by omega),qjq];omega
theorem qls (n:Int) (h0:0≤n) (h1:n<18446744073709551616) :
 okW n=true↔bits .andNot .u64 n 1099511627535=0∧bits .and .u64 n 7≤6:=by
 rw [z6 n h0 h1,Jf n h0 h1];simp only [okW,Bool.and_eq_true,decide_eq_true_eq];omega
theorem qap (n:Int) (h0:0≤n) (h:okW n=true):0≤stW n∧stW n≤6∧0≤X0 n∧X0 n≤4294967295:=by
 have h':=h;simp only [okW,Bool.and_eq_true,decide_eq_true_eq] at h';rw [stW,X0,if_pos h,if_pos h];omega
theorem qk0 (x y:Int) (hx0:0≤x) (hx:x<256) (hy0:0≤y) (hy:y≤4294967295) :
 bits .or .u64 x (y*256)=x+256*y:=by
 obtain ⟨a,rfl⟩:=Int.eq_ofNat_of_zero_le hx0;obtain ⟨b,rfl⟩:=Int.eq_ofNat_of_zero_le hy0;rw [show ((b:Int)*256)=((b*256:Nat):Int) from by omega,u64_or_nat a (b*256) (by omega) (by omega)];rw [show b*256=2 ^ 8*b from by omega,Nat.or_comm,← Nat.two_pow_add_eq_or_of_lt (by omega)];omega
theorem qj8 (a b:Nat) (ha:a<8):(2 ^ 8*b+a) ||| 8=2 ^ 8*b+(a+8):=by
 have e:a ||| 8=2 ^ 3*1+a:=by rw [Nat.two_pow_add_eq_or_of_lt ha,Nat.or_comm]
 rw [Nat.two_pow_add_eq_or_of_lt (show a<2 ^ 8 by omega),Nat.or_assoc,e,← Nat.two_pow_add_eq_or_of_lt (by omega)];omega
theorem or_8 (x y:Int) (hx0:0≤x) (hx:x<8) (hy0:0≤y) (hy:y≤4294967295) :
 bits .or .u64 (x+256*y) 8=x+256*y+8:=by
 obtain ⟨a,rfl⟩:=Int.eq_ofNat_of_zero_le hx0;obtain ⟨b,rfl⟩:=Int.eq_ofNat_of_zero_le hy0
 rw [show ((a:Int)+256*(b:Int))=((2 ^ 8*b+a:Nat):Int) from by omega,show (8:Int)=((8:Nat):Int) from rfl,u64_or_nat _ 8 (by omega) (by omega),
  qj8 a b (by omega)]
 omega
def qef (t:Int × Int × Bool):Prop:=0≤t.1∧t.1≤6∧0≤t.2.1∧t.2.1≤1
theorem qi4 {c:Prop} [Decidable c] {a b:Int × Int × Bool} (ha:qef a) (hb:qef b):qef (if c then a else b):=by
 split <;> assumption
theorem Yh (s e:Int) (again:Bool) (h0:0≤s) (h1:s≤6):qef (toW s e again):=by
 unfold toW qdf
 repeat' (refine qi4 ?_ ?_)
 all_goals (simp only [qef];omega)
theorem qdj (s g:Int) (l:Bool) (h0:0≤s) (h1:s≤6) (h2:0≤g) (h3:g≤4294967295) :
 okW (Y6 s g l)=true∧stW (Y6 s g l)=s∧X0 (Y6 s g l)=g∧Xl (Y6 s g l)=l∧0≤Y6 s g l∧Y6 s g l<18446744073709551616:=by
 have hk:okW (Y6 s g l)=true:=by
  simp only [okW,Bool.and_eq_true,decide_eq_true_eq];cases l <;> simp [Y6] <;> omega
 rw [stW,X0,Xl,if_pos hk,if_pos hk,hk];cases l <;> simp [Y6] <;> omega
theorem Zf (n e:Int) (p:Bool) (h0:0≤n) (h1:n<18446744073709551616) (hk:okW n=true) :
 ((Qs n e p).1=n∧((Qs n e p).2=1∧(e<1∨10<e)∨(Qs n e p).2=7∨(Qs n e p).2=9)) ∨
 ((Qs n e p).2=0∧1≤e∧e≤10∧(toW (stW n) e (p && !Xl n)).2.2=true∧okW (Qs n e p).1=true ∧
   stW (Qs n e p).1=(toW (stW n) e (p && !Xl n)).1∧X0 (Qs n e p).1=X0 n+(toW (stW n) e (p && !Xl n)).2.1 ∧
   Xl (Qs n e p).1=(if e=7 then true else if e=1∨e=10 then false else Xl n)∧0≤(Qs n e p).1∧(Qs n e p).1<18446744073709551616):=by
 have hb:=qap n h0 hk;have hf:=Yh (stW n) e (p && !Xl n) hb.1 hb.2.1;unfold Qs;rw [hk,if_neg (by simp)];by_cases he:e<1∨10<e
 ·rw [if_pos he];exact .inl ⟨rfl,.inl ⟨rfl,he⟩⟩
 ·rw [if_neg he]
  simp only;generalize toW (stW n) e (p && !Xl n)=t at *;simp only [qef] at hf;cases hm:t.2.2
  ·rw [if_pos rfl];exact .inl ⟨rfl,.inr (.inl rfl)⟩
  ·rw [if_neg (by simp)]
   by_cases ho:4294967295<X0 n+t.2.1
   ·rw [if_pos ho];exact .inl ⟨rfl,.inr (.inr rfl)⟩
   ·rw [if_neg ho]
    have hp:=qdj t.1 (X0 n+t.2.1) (if e=7 then true else if e=1∨e=10 then false else Xl n) hf.1 hf.2.1 (by omega) (by omega);exact .inr ⟨rfl,by omega,by omega,rfl,hp.1,hp.2.1,hp.2.2.1,hp.2.2.2.1,hp.2.2.2.2.1,hp.2.2.2.2.2⟩
end
end Go.Proofs.YtcneeepdclgdcaaGreat
