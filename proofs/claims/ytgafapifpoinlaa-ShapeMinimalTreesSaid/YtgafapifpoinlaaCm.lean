/-
  The reference's audit of a dump: edges and reachable slots.
-/
import Derived.Test.YtgafapifpoinlaaCk
set_option linter.unusedVariables false
namespace Go.Proofs.Ytgafapifpoinlaa
open Go.Vc

theorem OwnN.nec' {w : World} {lo b : Nat} {v : Value} {l : List Nat} {C : List Value} {T : TypeId} (h : OwnN w lo v l) (hb : At w b C T) (hT : T ≠ 26) : v.ownBlock ≠ some b := by
  intro e
  obtain ⟨_, C', hat⟩ := Own.block_lt h e
  exact hb.ne hat hT rfl

theorem kdsF_len (l : List Slt) : (kdsF l).length ≤ 2 * l.length := by
  induction l with
  | nil => exact Nat.le_refl _
  | cons s l ih =>
    unfold kdsF at ih ⊢
    rw [List.flatMap_cons, List.length_append, List.length_cons]
    have : (if s.on = true then s.kd else []).length ≤ 2 := by split <;> simp [Slt.kd]
    omega

/-- A child of a slot is counted. -/
def kdTake (s : Slt) (k : Nat) : List Nat := if s.on = true then s.kd.take k else []

end Go.Proofs.Ytgafapifpoinlaa
