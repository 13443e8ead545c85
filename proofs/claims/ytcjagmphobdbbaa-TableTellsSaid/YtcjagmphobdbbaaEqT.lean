/- The structs and arrays that this seat's program compares. Written by a program of mine (tools/eqs.lean). -/
import Derived.Test.YtcjagmphobdbbaaEq
import Derived.Test.YtcjagmphobdbbaaTy
namespace Go.Sx
open Go Go.Proofs
instance : EqC Try.prog 37 [.i .i64, .i .i64, .i .i64, .i .i64, .i .i64, .i .i64, .i .i64, .i .i64, .i .i64, .i .i64, .i .i64, .i .i64, .i .i64, .i .i64, .i .i64] := ⟨⟨5, by decide, eqTy_ok 5 _ _ _ (by kernel_rfl)⟩, by kernel_rfl⟩
instance : EqC Try.prog 100 [.i .i64, .i .i64, .i .i64, .i .i64, .i .i64, .i .i64, .i .i64, .i .i64, .i .i64, .i .i64, .b] := ⟨⟨5, by decide, eqTy_ok 5 _ _ _ (by kernel_rfl)⟩, by kernel_rfl⟩
instance : EqC Try.prog 97 [.i .i64, .i .i64, .i .i64, .i .i64, .i .i64, .i .i64, .i .i64, .i .i64, .i .i64, .i .i64, .b] := ⟨⟨5, by decide, eqTy_ok 5 _ _ _ (by kernel_rfl)⟩, by kernel_rfl⟩
instance : EqC Try.prog 126 [.i .i64, .i .i64, .i .i64] := ⟨⟨5, by decide, eqTy_ok 5 _ _ _ (by kernel_rfl)⟩, by kernel_rfl⟩
instance : EqC Try.prog 35 [.i .i64, .i .i64, .i .i64, .i .i64, .i .i64, .i .i64, .i .i64, .i .i64] := ⟨⟨5, by decide, eqTy_ok 5 _ _ _ (by kernel_rfl)⟩, by kernel_rfl⟩
end Go.Sx
