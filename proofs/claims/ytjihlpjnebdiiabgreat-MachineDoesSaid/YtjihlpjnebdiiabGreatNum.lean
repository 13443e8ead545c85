/- Powers of two, sizes. -/
import Derived.Test.YtjihlpjnebdiiabGreatSx
set_option linter.unusedVariables false
set_option linter.unusedSectionVars false
set_option linter.unusedSimpArgs false
namespace Go.Sx
open Go
def dZ (n:Int):Prop:= -9223372036854775808≤n∧n≤9223372036854775807
instance (n:Int):Decidable (dZ n):=by unfold dZ;infer_instance
theorem BU {n:Nat} (h0:1≤n) (h:n&&& (n-1)=0):n=2^n.log2:=by
  have kz:n≠0:=by omega
  have h1:2^n.log2≤n:=Nat.log2_self_le kz;have h2:n<2^(n.log2+1):=Nat.lt_log2_self;rcases Nat.lt_or_ge (2^n.log2) n with bB|Uo
  ·exfalso;have a:n.testBit n.log2=true:=Nat.testBit_of_two_pow_le_and_two_pow_add_one_gt h1 h2;have b:(n-1).testBit n.log2=true:=Nat.testBit_of_two_pow_le_and_two_pow_add_one_gt (om) (om);have c:(n&&& (n-1)).testBit n.log2=true:=by rw [Nat.testBit_and,a,b];rfl
   rw [h] at c;simp at c
  ·omega
theorem BV (k:Nat):2^k&&& (2^k-1)=0:=by
  rw [Nat.and_two_pow_sub_one_eq_mod];simp
theorem Nc {n:Nat} (h:n<9223372036854775808):IntKind.i64.wrap (n:Int)=n:=k9 (om) (om)
theorem AH {a b:Int} (ha:0≤a) (Ej:a<9223372036854775808) (hb:0≤b) (OR:b<9223372036854775808):bK .i64 a b=((a.toNat&&& b.toNat:Nat):Int):=by
  obtain ⟨m,rfl⟩:=Int.eq_ofNat_of_zero_le ha;obtain ⟨n,rfl⟩:=Int.eq_ofNat_of_zero_le hb;unfold bK;have e:(BitVec.ofInt IntKind.i64.bits (m:Int)&&& BitVec.ofInt IntKind.i64.bits (n:Int)).toNat=m&&& n:=by
    have h1:(BitVec.ofInt 64 (m:Int)).toNat=m:=by
      simp;omega
    have h2:(BitVec.ofInt 64 (n:Int)).toNat=n:=by
      simp;omega
    show (BitVec.ofInt 64 (m:Int)&&& BitVec.ofInt 64 (n:Int)).toNat=_;rw [BitVec.toNat_and,h1,h2]
  rw [e,Int.toNat_natCast,Int.toNat_natCast];refine Nc ?_;have:=Nat.and_le_left (n:=m) (m:=n);omega
def oW (n:Int):Option Nat:=(List.range 63).find? fun k=>decide ((2:Int)^k=n)
theorem qd {n:Int} {k:Nat} (h:oW n=some k):k<63∧n=2^k:=by
  unfold oW at h;have h1:=List.find?_some h;have h2:=List.mem_of_find?_eq_some h;exact ⟨by simpa using h2,by simpa using (Eq.symm (by simpa using h1))⟩
theorem PV {a b:Nat} (h:(2:Int)^a=2^b):a=b:=by
  have:(2:Nat)^a=2^b:=by exact_mod_cast h
  exact (Nat.pow_right_inj (om)).1 this
theorem vl {k:Nat} (h:k<63):oW (2^k)=some k:=by
  cases e:oW (2^k) with
  |none=>
   unfold oW at e;rw [List.find?_eq_none] at e;have:=e k (by simpa using h);simp at this
  |some j=>
   obtain ⟨_,h2⟩:=qd e;rw [PV h2]
theorem HM {n:Int} (h:oW n=none) (k:Nat) (hk:k<63):n≠2^k:=fun e=>by
  rw [e,vl hk] at h;cases h
theorem AI {k:Nat} (h:k<63):(2:Int)^k<9223372036854775808:=by
  have:(2:Nat)^k<2^63:=Nat.pow_lt_pow_right (om) h;have:((2:Nat)^k:Int)<(2^63:Nat):=by exact_mod_cast this
  simpa using this
theorem Nd {k:Nat} (h:k<63):bK .i64 (2^k) (2^k-1)=0:=by
  have h0:(1:Int)≤2^k:=Int.pow_pos (om);have:=AI h;rw [AH (om) (om) (om) (om)];have e:((2:Int)^k)=((2^k:Nat):Int):=by simp
  have e2:((2:Int)^k-1).toNat=2^k-1:=by rw [e];omega
  rw [e2,e,Int.toNat_natCast,BV];rfl
theorem HN {n:Int} (h0:1≤n) (h1:n≤9223372036854775807) (h:oW n=none):bK .i64 n (n-1)≠0:=by
  rw [AH (om) (om) (om) (om)];intro e;have e':n.toNat&&& (n-1).toNat=0:=by exact_mod_cast e
  have e2:(n-1).toNat=n.toNat-1:=by omega
  rw [e2] at e';have:=BU (om) e';have hk:n.toNat.log2<63:=by
    rcases Nat.lt_or_ge n.toNat.log2 63 with h|h
    ·exact h
    ·have:2^63≤2^n.toNat.log2:=Nat.pow_le_pow_right (om) h;omega
  refine HM h _ hk ?_;have:(n.toNat:Int)=((2^n.toNat.log2:Nat):Int):=by exact_mod_cast this
  rw [Int.toNat_of_nonneg (om)] at this;simpa using this
theorem Nf {m k:Nat} (hk:k≤m):((2:Int)^m).fdiv (2^k)=2^(m-k):=by
  have e:(2:Int)^m=2^(m-k)*2^k:=by rw [←Int.pow_add];congr 1;omega
  rw [e,Int.mul_fdiv_cancel _ (by have:(0:Int)<2^k:=Int.pow_pos (om);omega)]
def ua (n:Int):Int:=(((oW n).getD 0:Nat):Int)
def q8 (n:Int):Bool:=(oW n).isSome
structure au where
  ax:Int
  bY:Int
  cl:Int
  al:Int
  ag:Int
  aZ:Int
  ef:Int
  aS:Int
  aQ:Int
  aw:Int
  r0:Int
  r1:Int
  r2:Int
abbrev au.cells (c:au):List Value:=[.int .i64 c.ax,.int .i64 c.bY,.int .i64 c.cl,.int .i64 c.al,.int .i64 c.ag,.int .i64 c.aZ,.int .i64 c.ef,.int .i64 c.aS,
  .int .i64 c.aQ,.int .i64 c.aw,.int .i64 c.r0,.int .i64 c.r1,.int .i64 c.r2]
abbrev au.val (c:au):Value:= .agg c.cells.toArray
def au.wf (c:au):Prop:=dZ c.ax∧dZ c.bY∧dZ c.cl∧dZ c.al∧dZ c.ag∧dZ c.aZ∧dZ c.ef∧dZ c.aS∧dZ c.aQ∧dZ c.aw∧dZ c.r0∧dZ c.r1∧dZ c.r2
instance (c:au):Decidable c.wf:=by unfold au.wf;infer_instance
def eJ (n l m:Int) (p:Bool):Bool:=(!p|| q8 n)&& decide (l≤n)&& decide (n≤m)
def aB (c:au):Bool:=
  eJ c.ax 1 64 false&& eJ c.bY 1 16 true&& eJ c.cl 1 64 true&& eJ c.ag 1 8 true&& eJ c.aZ 1 1024 true&& eJ c.al 1 8 false&&
  eJ c.ef 0 8 false&& eJ c.aS 1 8 false&& eJ c.aQ 1 16 false&& eJ c.aw 1 8 false&& eJ c.r0 1 64 false&& eJ c.r1 1 64 false&& eJ c.r2 1 64 false
def cF (c:au):Int:=if aB c then 0 else 1
def eh (c:au):Int:=if aB c then c.ag*c.aZ else 0
end Go.Sx
