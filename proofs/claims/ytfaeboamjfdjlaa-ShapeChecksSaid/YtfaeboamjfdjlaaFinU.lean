/-
  Opening arguments that are slices of steps of chapter 7.
-/
import Derived.Test.YtfaeboamjfdjlaaFinR
import Derived.Test.YtfaeboamjfdjlaaUh
set_option linter.unusedVariables false
namespace Go.Proofs.Ytfaeboamjfdjlaa
open Go.Vc Go.ChangeShapes Go.WideShapes Go.ChangeAt Go.RowKit

theorem el_Step : ElT Try.prog 63 s3C InS3 :=
  elT_ints (ks := [.i64, .i64, .i64]) Try.underlying63 (by kernel_rfl) (by kernel_rfl) fun zs hz => by
    match zs, hz with
    | [a, b, c], h => exact ⟨(a, b, c), rfl, int_wf64 h.1, int_wf64 h.2.1, int_wf64 h.2.2.1⟩

end Go.Proofs.Ytfaeboamjfdjlaa
