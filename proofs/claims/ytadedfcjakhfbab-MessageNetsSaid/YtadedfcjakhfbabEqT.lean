/- The structs and arrays that this seat's program compares. Written by a program of mine (tools/eqs.lean). -/
import Derived.Test.YtadedfcjakhfbabEq
import Derived.Test.YtadedfcjakhfbabTy
namespace Go.Sx
open Go Go.Proofs
instance : EqC Try.prog 64 [.i .i64, .i .i64, .i .i64, .i .i64, .i .i64, .i .i64, .i .i64, .i .i64, .i .i64, .i .i64, .i .i64, .i .i64, .i .i64, .i .i64, .i .i64] := ⟨⟨5, by decide, eqTy_ok 5 _ _ _ (by kernel_rfl)⟩, by kernel_rfl⟩
instance : EqC Try.prog 62 [.i .i64, .i .i64, .i .i64, .i .i64, .i .i64, .i .i64, .i .i64, .i .i64] := ⟨⟨5, by decide, eqTy_ok 5 _ _ _ (by kernel_rfl)⟩, by kernel_rfl⟩
end Go.Sx
