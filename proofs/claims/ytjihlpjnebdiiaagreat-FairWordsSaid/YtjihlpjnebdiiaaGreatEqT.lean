/- The structs and arrays that this seat's program compares. Written by a program of mine (tools/eqs.lean). -/
import Derived.Test.YtjihlpjnebdiiaaGreatEq
import Derived.Test.YtjihlpjnebdiiaaGreatTy
set_option linter.unusedVariables false
set_option linter.unusedSectionVars false
set_option linter.unusedSimpArgs false
namespace Go.Sx
open Go Go.Proofs
instance:EqC Tryz.prog 58 [.i .i64,.i .i64,.i .i64]:=⟨⟨5,by decide,a2p 5 _ _ _ (by kernel_rfl)⟩,by kernel_rfl⟩
instance:EqC Tryz.prog 60 [.i .i64,.i .i64,.i .i64,.i .i64,.i .i64,.i .i64]:=⟨⟨5,by decide,a2p 5 _ _ _ (by kernel_rfl)⟩,by kernel_rfl⟩
instance:EqC Tryz.prog 99 [.i .i64,.i .i64,.i .i64,.i .i64,.i .i64,.i .i64,.i .i64,.i .i64,.i .i64,.i .i64,.i .i64,.i .i64,.i .i64,.i .i64,.i .i64]:=⟨⟨5,by decide,a2p 5 _ _ _ (by kernel_rfl)⟩,by kernel_rfl⟩
instance:EqC Tryz.prog 97 [.i .i64,.i .i64,.i .i64,.i .i64,.i .i64,.i .i64,.i .i64,.i .i64]:=⟨⟨5,by decide,a2p 5 _ _ _ (by kernel_rfl)⟩,by kernel_rfl⟩
end Go.Sx
