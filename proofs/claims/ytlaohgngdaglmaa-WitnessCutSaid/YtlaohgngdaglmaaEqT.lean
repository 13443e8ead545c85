/- The structs and arrays that this seat's program compares. Written by a program of mine (tools/eqs.lean). -/
import Derived.Test.YtlaohgngdaglmaaEq
import Derived.Test.YtlaohgngdaglmaaTy
namespace Go.Sx
open Go Go.Proofs
instance : EqC Try.prog 56 [.i .i64, .i .i64, .i .i64, .i .i64, .i .i64, .i .i64, .i .i64, .i .i64] := ⟨⟨5, by decide, eqTy_ok 5 _ _ _ (by kernel_rfl)⟩, by kernel_rfl⟩
instance : EqC Try.prog 59 [.i .i64, .i .i64, .i .i64, .i .i64, .i .i64, .i .i64, .i .i64, .i .i64, .i .i64, .i .i64, .i .i64, .i .i64, .i .i64, .i .i64, .i .i64] := ⟨⟨5, by decide, eqTy_ok 5 _ _ _ (by kernel_rfl)⟩, by kernel_rfl⟩
instance : EqC Try.prog 39 [.i .i64, .i .i64, .i .i64] := ⟨⟨5, by decide, eqTy_ok 5 _ _ _ (by kernel_rfl)⟩, by kernel_rfl⟩
end Go.Sx
