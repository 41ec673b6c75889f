/-
  A balanced tree is planted in an arena.
-/
import Derived.Test.YtfaeboamjfdjlaaPv
import Derived.Test.YtfaeboamjfdjlaaRu
import Derived.Test.YtfaeboamjfdjlaaS9
set_option linter.unusedVariables false
namespace Go.Proofs.Ytfaeboamjfdjlaa
open Go.Vc

theorem wrap_u64_bd (z : Int) : 0 ≤ IntKind.u64.wrap z ∧ IntKind.u64.wrap z ≤ 18446744073709551615 := by
  simp [IntKind.wrap, IntKind.bits, IntKind.signed]
  omega

abbrev entC (e : Int × Int) : List Value := [.int .i64 e.1, .int .i64 e.2]

/-- A child is released that has another reference. -/
theorem p_RelKid (w : World) (lo p : Nat) (q : AP) (A : AR) (i : Nat) (h : ArP w lo p q A) (hlo : lo ≤ w.heap.size) (hi : i < 4294967296) (hu : i = 0 ∨ (A.used i = true ∧ 0 < (A.dec i).cnt i)) :
    Calls Try.prog 57 [ptr p, .int .u32 (i : Int)].toArray w (Ret fun r w' => r = .tuple #[.int .i64 0, .int .i64 0] ∧ ∃ q', ArP w' lo p q' (A.decC i) ∧ (∀ b, q'.fp b → q.fp b ∨ w.heap.size ≤ b) ∧ Fr q.fp w w') := by
  by_cases h0 : i = 0
  · subst h0
    refine (p_Release0 w p).mono ?_
    rintro _ w' ⟨v, rfl, rfl, rfl⟩
    exact ⟨_, rfl, rfl, q, h, fun b hb => Or.inl hb, Fr.refl _ _⟩
  · obtain ⟨h1, h2⟩ := hu.resolve_left h0
    have e : A.decC i = A.dec i := by unfold AR.decC; rw [if_neg h0]
    rw [e]
    refine (p_Release w lo p q A (A.dec i) i 1 0 h hlo hi h0 h1 ⟨i, [], rfl, h1, Or.inl ⟨h2, rfl, rfl, rfl⟩⟩ (by omega) (by omega)).mono ?_
    rintro _ w' ⟨v, rfl, rfl, hq⟩
    exact ⟨_, rfl, rfl, hq⟩

end Go.Proofs.Ytfaeboamjfdjlaa
