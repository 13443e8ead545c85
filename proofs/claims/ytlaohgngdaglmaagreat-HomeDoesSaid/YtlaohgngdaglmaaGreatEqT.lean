/- The structs and arrays that this seat's program compares. Written by a program of mine (tools/eqs.lean). -/
import Derived.Test.YtlaohgngdaglmaaGreatEq
import Derived.Test.YtlaohgngdaglmaaGreatTy
namespace Go.Sx
open Go Go.Proofs
instance : EqC Tryz.prog 40 [.i .i64, .i .i64, .i .i64, .i .i64, .i .i64, .i .i64, .i .i64, .i .i64, .i .i64, .i .i64, .i .i64, .i .i64, .i .i64, .i .i64, .i .i64, .b, .i .i64, .i .i64] := ⟨⟨5, by decide, eqTy_ok 5 _ _ _ (by kernel_rfl)⟩, by kernel_rfl⟩
instance : EqC Tryz.prog 69 [.i .i64, .i .i64, .i .i64, .i .i64, .i .i64, .i .i64, .i .i64, .i .i64, .i .i64, .i .i64, .b] := ⟨⟨5, by decide, eqTy_ok 5 _ _ _ (by kernel_rfl)⟩, by kernel_rfl⟩
instance : EqC Tryz.prog 38 [.i .i64, .i .i64, .i .i64, .i .i64, .i .i64, .i .i64, .i .i64, .i .i64, .i .i64, .i .i64, .i .i64, .i .i64, .i .i64, .i .i64, .i .i64] := ⟨⟨5, by decide, eqTy_ok 5 _ _ _ (by kernel_rfl)⟩, by kernel_rfl⟩
instance : EqC Tryz.prog 36 [.i .i64, .i .i64, .i .i64, .i .i64, .i .i64, .i .i64, .i .i64, .i .i64] := ⟨⟨5, by decide, eqTy_ok 5 _ _ _ (by kernel_rfl)⟩, by kernel_rfl⟩
instance : EqC Tryz.prog 103 [.i .i64, .i .i64, .i .i64, .i .i64, .i .i64, .i .i64, .i .i64, .i .i64, .i .i64, .i .i64, .i .i64, .i .i64, .i .i64, .i .i64, .i .i64, .b, .b, .i .i64] := ⟨⟨5, by decide, eqTy_ok 5 _ _ _ (by kernel_rfl)⟩, by kernel_rfl⟩
instance : EqC Tryz.prog 75 [.i .i64, .i .i64, .i .i64, .i .i64, .i .i64, .i .i64, .i .i64, .i .i64, .i .i64, .i .i64, .i .i64, .i .i64, .i .i64, .b, .b] := ⟨⟨5, by decide, eqTy_ok 5 _ _ _ (by kernel_rfl)⟩, by kernel_rfl⟩
instance : EqC Tryz.prog 77 [.i .i64, .i .i64, .i .i64, .i .i64, .i .i64, .i .i64, .i .i64, .i .i64, .i .i64, .b] := ⟨⟨5, by decide, eqTy_ok 5 _ _ _ (by kernel_rfl)⟩, by kernel_rfl⟩
end Go.Sx
