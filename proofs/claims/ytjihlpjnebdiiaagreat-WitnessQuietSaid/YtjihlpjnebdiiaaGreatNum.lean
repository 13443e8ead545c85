/- Powers of two, sizes. -/
import Derived.Test.YtjihlpjnebdiiaaGreatZr
import Derived.Test.YtjihlpjnebdiiaaGreatSx
set_option linter.unusedVariables false
set_option linter.unusedSectionVars false
set_option linter.unusedSimpArgs false
namespace Go.Sx
open Go
def I64 (n:Int):Prop:= -9223372036854775808≤n∧n≤9223372036854775807
instance (n:Int):Decidable (I64 n):=by unfold I64;infer_instance
theorem nat_pow_of_and {n:Nat} (h0:1≤n) (h:n&&& (n-1)=0):n=2^n.log2:=by
  have hne:n≠0:=by omega
  have h1:2^n.log2≤n:=Nat.log2_self_le hne
  have h2:n<2^(n.log2+1):=Nat.lt_log2_self
  rcases Nat.lt_or_ge (2^n.log2) n with hlt|hge
  · exfalso
    have a:n.testBit n.log2=true:=Nat.testBit_of_two_pow_le_and_two_pow_add_one_gt h1 h2
    have b:(n-1).testBit n.log2=true:=Nat.testBit_of_two_pow_le_and_two_pow_add_one_gt (by omega) (by omega)
    have c:(n&&& (n-1)).testBit n.log2=true:=by rw [Nat.testBit_and,a,b];rfl
    rw [h] at c
    simp at c
  · omega
theorem nat_and_of_pow (k:Nat):2^k&&& (2^k-1)=0:=by
  rw [Nat.and_two_pow_sub_one_eq_mod];simp
theorem wrap_nat {n:Nat} (h:n<9223372036854775808):IntKind.i64.wrap (n:Int)=n:=wrap_id (by omega) (by omega)
theorem band_nat {a b:Int} (ha:0≤a) (ha':a<9223372036854775808) (hb:0≤b) (hb':b<9223372036854775808):band .i64 a b=((a.toNat&&& b.toNat:Nat):Int):=by
  obtain ⟨m,rfl⟩:=Int.eq_ofNat_of_zero_le ha
  obtain ⟨n,rfl⟩:=Int.eq_ofNat_of_zero_le hb
  unfold band
  have e:(BitVec.ofInt IntKind.i64.bits (m:Int)&&& BitVec.ofInt IntKind.i64.bits (n:Int)).toNat=m&&& n:=by
    have h1:(BitVec.ofInt 64 (m:Int)).toNat=m:=by
      simp;omega
    have h2:(BitVec.ofInt 64 (n:Int)).toNat=n:=by
      simp;omega
    show (BitVec.ofInt 64 (m:Int)&&& BitVec.ofInt 64 (n:Int)).toNat=_
    rw [BitVec.toNat_and,h1,h2]
  rw [e,Int.toNat_natCast,Int.toNat_natCast]
  refine wrap_nat ?_
  have:=Nat.and_le_left (n:=m) (m:=n)
  omega
def powOf (n:Int):Option Nat:=(List.range 63).find? fun k=>decide ((2:Int)^k=n)
theorem powOf_some {n:Int} {k:Nat} (h:powOf n=some k):k<63∧n=2^k:=by
  unfold powOf at h
  have h1:=List.find?_some h
  have h2:=List.mem_of_find?_eq_some h
  exact ⟨by simpa using h2,by simpa using (Eq.symm (by simpa using h1))⟩
theorem pow_inj {a b:Nat} (h:(2:Int)^a=2^b):a=b:=by
  have:(2:Nat)^a=2^b:=by exact_mod_cast h
  exact (Nat.pow_right_inj (by omega)).1 this
theorem powOf_pow {k:Nat} (h:k<63):powOf (2^k)=some k:=by
  cases e:powOf (2^k) with
  |none=>
   unfold powOf at e
   rw [List.find?_eq_none] at e
   have:=e k (by simpa using h)
   simp at this
  |some j=>
   obtain ⟨_,h2⟩:=powOf_some e
   rw [pow_inj h2]
theorem powOf_none {n:Int} (h:powOf n=none) (k:Nat) (hk:k<63):n≠2^k:=fun e=>by
  rw [e,powOf_pow hk] at h;cases h
theorem pow_lt63 {k:Nat} (h:k<63):(2:Int)^k<9223372036854775808:=by
  have:(2:Nat)^k<2^63:=Nat.pow_lt_pow_right (by omega) h
  have:((2:Nat)^k:Int)<(2^63:Nat):=by exact_mod_cast this
  simpa using this
theorem band_pow {k:Nat} (h:k<63):band .i64 (2^k) (2^k-1)=0:=by
  have h0:(1:Int)≤2^k:=Int.pow_pos (by omega)
  have:=pow_lt63 h
  rw [band_nat (by omega) (by omega) (by omega) (by omega)]
  have e:((2:Int)^k)=((2^k:Nat):Int):=by simp
  have e2:((2:Int)^k-1).toNat=2^k-1:=by rw [e];omega
  rw [e2,e,Int.toNat_natCast,nat_and_of_pow];rfl
theorem band_nopow {n:Int} (h0:1≤n) (h1:n≤9223372036854775807) (h:powOf n=none):band .i64 n (n-1)≠0:=by
  rw [band_nat (by omega) (by omega) (by omega) (by omega)]
  intro e
  have e':n.toNat&&& (n-1).toNat=0:=by exact_mod_cast e
  have e2:(n-1).toNat=n.toNat-1:=by omega
  rw [e2] at e'
  have:=nat_pow_of_and (by omega) e'
  have hk:n.toNat.log2<63:=by
    rcases Nat.lt_or_ge n.toNat.log2 63 with h|h
    · exact h
    · have:2^63≤2^n.toNat.log2:=Nat.pow_le_pow_right (by omega) h
      omega
  refine powOf_none h _ hk ?_
  have:(n.toNat:Int)=((2^n.toNat.log2:Nat):Int):=by exact_mod_cast this
  rw [Int.toNat_of_nonneg (by omega)] at this
  simpa using this
theorem fdiv_pow {m k:Nat} (hk:k≤m):((2:Int)^m).fdiv (2^k)=2^(m-k):=by
  have e:(2:Int)^m=2^(m-k)*2^k:=by rw [←Int.pow_add];congr 1;omega
  rw [e,Int.mul_fdiv_cancel _ (by have:(0:Int)<2^k:=Int.pow_pos (by omega);omega)]
def powK (n:Int):Int:=(((powOf n).getD 0:Nat):Int)
def powB (n:Int):Bool:=(powOf n).isSome
structure Cfg where
  cores:Int
  homes:Int
  sets:Int
  ways:Int
  words:Int
  lines:Int
  pointers:Int
  mshrs:Int
  buffer:Int
  writebacks:Int
  r0:Int
  r1:Int
  r2:Int
abbrev Cfg.cells (c:Cfg):List Value:=[.int .i64 c.cores,.int .i64 c.homes,.int .i64 c.sets,.int .i64 c.ways,.int .i64 c.words,.int .i64 c.lines,.int .i64 c.pointers,.int .i64 c.mshrs,
  .int .i64 c.buffer,.int .i64 c.writebacks,.int .i64 c.r0,.int .i64 c.r1,.int .i64 c.r2]
abbrev Cfg.val (c:Cfg):Value:= .agg c.cells.toArray
def Cfg.wf (c:Cfg):Prop:=I64 c.cores∧I64 c.homes∧I64 c.sets∧I64 c.ways∧I64 c.words∧I64 c.lines∧I64 c.pointers∧I64 c.mshrs∧I64 c.buffer∧I64 c.writebacks∧I64 c.r0∧I64 c.r1∧I64 c.r2
instance (c:Cfg):Decidable c.wf:=by unfold Cfg.wf;infer_instance
def fitsB (n l m:Int) (p:Bool):Bool:=(!p|| powB n)&& decide (l≤n)&& decide (n≤m)
def checkB (c:Cfg):Bool:=
  fitsB c.cores 1 64 false&& fitsB c.homes 1 16 true&& fitsB c.sets 1 64 true&& fitsB c.words 1 8 true&& fitsB c.lines 1 1024 true&& fitsB c.ways 1 8 false&&
  fitsB c.pointers 0 8 false&& fitsB c.mshrs 1 8 false&& fitsB c.buffer 1 16 false&& fitsB c.writebacks 1 8 false&& fitsB c.r0 1 64 false&& fitsB c.r1 1 64 false&& fitsB c.r2 1 64 false
def checkE (c:Cfg):Int:=if checkB c then 0 else 1
def sizeOf' (c:Cfg):Int:=if checkB c then c.words*c.lines else 0
end Go.Sx
