/- Powers of two, sizes. -/
import Derived.Test.YtjihlpjnebdiiaaGreatSx
set_option linter.unusedVariables false
set_option linter.unusedSectionVars false
set_option linter.unusedSimpArgs false
namespace Go.Sx
open Go
def nA (n:Int):Prop:= -9223372036854775808≤n∧n≤9223372036854775807
instance (n:Int):Decidable (nA n):=by unfold nA;infer_instance
theorem a6j {n:Nat} (h0:1≤n) (h:n&&& (n-1)=0):n=2^n.log2:=by
  have hne:n≠0:=by omega
  have h1:2^n.log2≤n:=Nat.log2_self_le hne
  have h2:n<2^(n.log2+1):=Nat.lt_log2_self
  rcases Nat.lt_or_ge (2^n.log2) n with hlt|hge
  · exfalso
    have a:n.testBit n.log2=true:=Nat.testBit_of_two_pow_le_and_two_pow_add_one_gt h1 h2
    have b:(n-1).testBit n.log2=true:=Nat.testBit_of_two_pow_le_and_two_pow_add_one_gt (om) (om)
    have c:(n&&& (n-1)).testBit n.log2=true:=by rw [Nat.testBit_and,a,b];rfl
    rw [h] at c
    simp at c
  · omega
theorem a6k (k:Nat):2^k&&& (2^k-1)=0:=by
  rw [Nat.and_two_pow_sub_one_eq_mod];simp
theorem d7m {n:Nat} (h:n<9223372036854775808):IntKind.i64.wrap (n:Int)=n:=y6 (om) (om)
theorem b1c {a b:Int} (ha:0≤a) (ha':a<9223372036854775808) (hb:0≤b) (hb':b<9223372036854775808):eI .i64 a b=((a.toNat&&& b.toNat:Nat):Int):=by
  obtain ⟨m,rfl⟩:=Int.eq_ofNat_of_zero_le ha
  obtain ⟨n,rfl⟩:=Int.eq_ofNat_of_zero_le hb
  unfold eI
  have e:(BitVec.ofInt IntKind.i64.bits (m:Int)&&& BitVec.ofInt IntKind.i64.bits (n:Int)).toNat=m&&& n:=by
    have h1:(BitVec.ofInt 64 (m:Int)).toNat=m:=by
      simp;omega
    have h2:(BitVec.ofInt 64 (n:Int)).toNat=n:=by
      simp;omega
    show (BitVec.ofInt 64 (m:Int)&&& BitVec.ofInt 64 (n:Int)).toNat=_
    rw [BitVec.toNat_and,h1,h2]
  rw [e,Int.toNat_natCast,Int.toNat_natCast]
  refine d7m ?_
  have:=Nat.and_le_left (n:=m) (m:=n)
  omega
def vN (n:Int):Option Nat:=(List.range 63).find? fun k=>decide ((2:Int)^k=n)
theorem uR {n:Int} {k:Nat} (h:vN n=some k):k<63∧n=2^k:=by
  unfold vN at h
  have h1:=List.find?_some h
  have h2:=List.mem_of_find?_eq_some h
  exact ⟨by simpa using h2,by simpa using (Eq.symm (by simpa using h1))⟩
theorem e6k {a b:Nat} (h:(2:Int)^a=2^b):a=b:=by
  have:(2:Nat)^a=2^b:=by exact_mod_cast h
  exact (Nat.pow_right_inj (om)).1 this
theorem b4f {k:Nat} (h:k<63):vN (2^k)=some k:=by
  cases e:vN (2^k) with
  |none=>
   unfold vN at e
   rw [List.find?_eq_none] at e
   have:=e k (by simpa using h)
   simp at this
  |some j=>
   obtain ⟨_,h2⟩:=uR e
   rw [e6k h2]
theorem c4q {n:Int} (h:vN n=none) (k:Nat) (hk:k<63):n≠2^k:=fun e=>by
  rw [e,b4f hk] at h;cases h
theorem c1s {k:Nat} (h:k<63):(2:Int)^k<9223372036854775808:=by
  have:(2:Nat)^k<2^63:=Nat.pow_lt_pow_right (om) h
  have:((2:Nat)^k:Int)<(2^63:Nat):=by exact_mod_cast this
  simpa using this
theorem d7n {k:Nat} (h:k<63):eI .i64 (2^k) (2^k-1)=0:=by
  have h0:(1:Int)≤2^k:=Int.pow_pos (om)
  have:=c1s h
  rw [b1c (om) (om) (om) (om)]
  have e:((2:Int)^k)=((2^k:Nat):Int):=by simp
  have e2:((2:Int)^k-1).toNat=2^k-1:=by rw [e];omega
  rw [e2,e,Int.toNat_natCast,a6k];rfl
theorem c4r {n:Int} (h0:1≤n) (h1:n≤9223372036854775807) (h:vN n=none):eI .i64 n (n-1)≠0:=by
  rw [b1c (om) (om) (om) (om)]
  intro e
  have e':n.toNat&&& (n-1).toNat=0:=by exact_mod_cast e
  have e2:(n-1).toNat=n.toNat-1:=by omega
  rw [e2] at e'
  have:=a6j (om) e'
  have hk:n.toNat.log2<63:=by
    rcases Nat.lt_or_ge n.toNat.log2 63 with h|h
    · exact h
    · have:2^63≤2^n.toNat.log2:=Nat.pow_le_pow_right (om) h
      omega
  refine c4q h _ hk ?_
  have:(n.toNat:Int)=((2^n.toNat.log2:Nat):Int):=by exact_mod_cast this
  rw [Int.toNat_of_nonneg (om)] at this
  simpa using this
theorem d7o {m k:Nat} (hk:k≤m):((2:Int)^m).fdiv (2^k)=2^(m-k):=by
  have e:(2:Int)^m=2^(m-k)*2^k:=by rw [←Int.pow_add];congr 1;omega
  rw [e,Int.mul_fdiv_cancel _ (by have:(0:Int)<2^k:=Int.pow_pos (om);omega)]
def c1t (n:Int):Int:=(((vN n).getD 0:Nat):Int)
def b4g (n:Int):Bool:=(vN n).isSome
structure Cfg where
  cores:Int
  homes:Int
  sets:Int
  ways:Int
  words:Int
  lines:Int
  pointers:Int
  mshrs:Int
  buffer:Int
  writebacks:Int
  r0:Int
  r1:Int
  r2:Int
abbrev Cfg.cells (c:Cfg):List Value:=[.int .i64 c.cores,.int .i64 c.homes,.int .i64 c.sets,.int .i64 c.ways,.int .i64 c.words,.int .i64 c.lines,.int .i64 c.pointers,.int .i64 c.mshrs,
  .int .i64 c.buffer,.int .i64 c.writebacks,.int .i64 c.r0,.int .i64 c.r1,.int .i64 c.r2]
abbrev Cfg.val (c:Cfg):Value:= .agg c.cells.toArray
def Cfg.wf (c:Cfg):Prop:=nA c.cores∧nA c.homes∧nA c.sets∧nA c.ways∧nA c.words∧nA c.lines∧nA c.pointers∧nA c.mshrs∧nA c.buffer∧nA c.writebacks∧nA c.r0∧nA c.r1∧nA c.r2
instance (c:Cfg):Decidable c.wf:=by unfold Cfg.wf;infer_instance
def gI (n l m:Int) (p:Bool):Bool:=(!p|| b4g n)&& decide (l≤n)&& decide (n≤m)
def aF (c:Cfg):Bool:=
  gI c.cores 1 64 false&& gI c.homes 1 16 true&& gI c.sets 1 64 true&& gI c.words 1 8 true&& gI c.lines 1 1024 true&& gI c.ways 1 8 false&&
  gI c.pointers 0 8 false&& gI c.mshrs 1 8 false&& gI c.buffer 1 16 false&& gI c.writebacks 1 8 false&& gI c.r0 1 64 false&& gI c.r1 1 64 false&& gI c.r2 1 64 false
def eD (c:Cfg):Int:=if aF c then 0 else 1
def fO (c:Cfg):Int:=if aF c then c.words*c.lines else 0
end Go.Sx
