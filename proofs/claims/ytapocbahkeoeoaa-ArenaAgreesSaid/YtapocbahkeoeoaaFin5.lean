/-
  Opening arguments that are slices of steps of a caller of the arena.
-/
import Derived.Test.YtapocbahkeoeoaaFinR
import Derived.Test.YtapocbahkeoeoaaL5e
set_option linter.unusedVariables false
namespace Go.Proofs.Ytapocbahkeoeoaa
open Go.Vc Go.ChangeShapes Go.WideShapes Go.ChangeAt Go.RowKit

theorem el_Step : ElT Try.prog 77 Stp.cells Stp.wf :=
  elT_ints (ks := [.i64, .i64, .i64, .u32, .u32]) Try.underlying77 (by kernel_rfl) (by kernel_rfl) fun zs hz => by
    match zs, hz with
    | [a, b, c, d, e], h =>
      have h4 := int_wfu32 h.2.2.2.1
      have h5 := int_wfu32 h.2.2.2.2.1
      refine ⟨⟨a, b, c, d.toNat, e.toNat⟩, ?_, int_wf64 h.1, int_wf64 h.2.2.1, by show d.toNat < _; omega, by show e.toNat < _; omega⟩
      show [_, _, _, _, _] = [_, _, _, _, _]
      rw [show ((d.toNat : Nat) : Int) = d by omega, show ((e.toNat : Nat) : Int) = e by omega]

end Go.Proofs.Ytapocbahkeoeoaa
