/-
  Numbers of eight bits as arguments.
-/
import Derived.Test.YteghhalnpdikoaaFinE
set_option linter.unusedVariables false
namespace Go.Proofs.Yteghhalnpdikoaa
open Go.Vc
theorem int_wfu8' {a : Int} (h : (Lit.int .u8 a).wf = true) : 0 ≤ a ∧ a ≤ 255 := by
  simpa [Lit.wf, IntKind.min, IntKind.max, IntKind.signed, IntKind.bits] using h
end Go.Proofs.Yteghhalnpdikoaa
