/- The structs and arrays that this seat's program compares. Written by a program of mine (tools/eqs.lean). -/
import Derived.Test.YtadedfcjakhfbaaEq
import Derived.Test.YtadedfcjakhfbaaTy
namespace Go.Sx
open Go Go.Proofs
instance : EqC Try.prog 50 [.i .i64, .i .i64, .i .i64, .i .i64, .i .i64, .i .i64, .i .i64, .i .i64] := ⟨⟨5, by decide, eqTy_ok 5 _ _ _ (by kernel_rfl)⟩, by kernel_rfl⟩
instance : EqC Try.prog 79 [.i .i64, .i .i64, .i .i64, .i .i64, .i .i64, .i .i64, .i .i64, .i .i64, .i .i64, .b] := ⟨⟨5, by decide, eqTy_ok 5 _ _ _ (by kernel_rfl)⟩, by kernel_rfl⟩
instance : EqC Try.prog 80 [.i .i64, .i .i64, .i .i64, .i .i64, .i .i64, .i .i64, .i .i64, .i .i64, .i .i64, .b] := ⟨⟨5, by decide, eqTy_ok 5 _ _ _ (by kernel_rfl)⟩, by kernel_rfl⟩
instance : EqC Try.prog 52 [.i .i64, .i .i64, .i .i64, .i .i64, .i .i64, .i .i64, .i .i64, .i .i64, .i .i64, .i .i64, .i .i64, .i .i64, .i .i64, .i .i64, .i .i64] := ⟨⟨5, by decide, eqTy_ok 5 _ _ _ (by kernel_rfl)⟩, by kernel_rfl⟩
instance : EqC Try.prog 132 [.i .i64, .i .i64, .i .i64] := ⟨⟨5, by decide, eqTy_ok 5 _ _ _ (by kernel_rfl)⟩, by kernel_rfl⟩
end Go.Sx
