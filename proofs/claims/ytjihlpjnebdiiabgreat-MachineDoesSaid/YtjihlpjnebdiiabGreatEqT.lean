/- The structs and arrays that this seat's program compares. Written by a program of mine (tools/eqs.lean). -/
import Derived.Test.YtjihlpjnebdiiabGreatEq
import Derived.Test.YtjihlpjnebdiiabGreatTy
set_option linter.unusedVariables false
set_option linter.unusedSectionVars false
set_option linter.unusedSimpArgs false
namespace Go.Sx
open Go Go.Proofs Tryz
instance:JU prog 77 [.i .i64,.i .i64,.i .i64,.i .i64,.i .i64,.i .i64]:=⟨⟨5,by decide,o6 5 _ _ _ (by kernel_rfl)⟩,by kernel_rfl⟩
instance:JU prog 74 [.i .i64,.i .i64,.i .i64]:=⟨⟨5,by decide,o6 5 _ _ _ (by kernel_rfl)⟩,by kernel_rfl⟩
instance:JU prog 124 [.i .i64,.i .i64,.i .i64,.i .i64,.i .i64,.i .i64,.i .i64,.i .i64]:=⟨⟨5,by decide,o6 5 _ _ _ (by kernel_rfl)⟩,by kernel_rfl⟩
instance:JU prog 76 [.i .i64,.i .i64,.i .i64,.i .i64,.i .i64,.i .i64]:=⟨⟨5,by decide,o6 5 _ _ _ (by kernel_rfl)⟩,by kernel_rfl⟩
instance:JU prog 185 [.i .i64,.i .i64,.i .i64,.i .i64,.i .i64,.i .i64,.i .i64,.i .i64,.i .i64,.i .i64,.i .i64,.i .i64,.i .i64,.b,.b]:=⟨⟨5,by decide,o6 5 _ _ _ (by kernel_rfl)⟩,by kernel_rfl⟩
instance:JU prog 186 [.i .i64,.i .i64,.i .i64,.i .i64,.i .i64,.i .i64,.i .i64,.i .i64,.i .i64,.b]:=⟨⟨5,by decide,o6 5 _ _ _ (by kernel_rfl)⟩,by kernel_rfl⟩
instance:JU prog 190 [.i .i64,.i .i64,.i .i64,.i .i64,.i .i64,.i .i64,.i .i64,.i .i64,.i .i64,.i .i64,.b]:=⟨⟨5,by decide,o6 5 _ _ _ (by kernel_rfl)⟩,by kernel_rfl⟩
instance:JU prog 159 [.i .i64,.i .i64,.i .i64,.i .i64,.i .i64,.i .i64,.i .i64,.i .i64,.i .i64,.i .i64,.i .i64,.i .i64,.i .i64,.i .i64,.i .i64]:=⟨⟨5,by decide,o6 5 _ _ _ (by kernel_rfl)⟩,by kernel_rfl⟩
end Go.Sx
