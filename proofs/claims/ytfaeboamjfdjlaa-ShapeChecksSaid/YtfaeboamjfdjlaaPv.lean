/-
  Where the root of a balanced tree stands.
-/
import Derived.Test.YtfaeboamjfdjlaaTq
set_option linter.unusedVariables false
namespace Go.Proofs.Ytfaeboamjfdjlaa
open Go.Vc

theorem balanced_iff (a b : Nat) (h : a ≤ 100000) (h' : b ≤ 100000) : balanced (a : Int) (b : Int) = true ↔ balN a b := by
  unfold balanced balN; rw [decide_eq_true_iff]; omega

end Go.Proofs.Ytfaeboamjfdjlaa
