/-
  The remainder that is never negative.
-/
import Derived.Test.YtapocbahkeoeoaaSl
set_option linter.unusedVariables false
namespace Go.Proofs.Ytapocbahkeoeoaa
open Go.Vc

theorem tmod_fix (k n : Int) (h : 0 < n) : (0 ≤ k.tmod n ∧ k.tmod n = k % n) ∨ (k.tmod n < 0 ∧ k.tmod n + n = k % n) := by
  have h1 := Int.emod_nonneg k (show n ≠ 0 by omega)
  have h2 := Int.emod_lt_of_pos k h
  rw [Int.tmod_eq_emod]
  split
  · left; omega
  · right; omega

theorem c_Mod (k n : Int) (w : World) (hk : -9223372036854775808 ≤ k ∧ k ≤ 9223372036854775807) (hn : 0 < n ∧ n ≤ 9223372036854775807) :
    Calls Try.prog 32 [.int .i64 k, .int .i64 n].toArray w (Ret fun r w' => r = .int .i64 (k % n) ∧ w' = w) := by
  have h1 := Int.emod_nonneg k (show n ≠ 0 by omega)
  have h2 := Int.emod_lt_of_pos k hn.1
  have h0 : n ≠ 0 := by omega
  refine calls_go Try.func32 rfl Try.ntmps32 (Nat.le_of_ble_eq_true rfl) ?_
  repeat (first | refine sp ?_ | (refine is_load ?_; refine ld ?_) | (refine is_store ?_; refine sr ?_) | (refine is_alloc ?_; refine al ?_) | (refine is_box ?_; refine bx ?_))
  rcases tmod_fix k n hn.1 with ⟨h3, h4⟩ | ⟨h3, h4⟩
  · rw [h4] at h3 ⊢
    repeat (first | refine sp ?_ | (refine is_load ?_; refine ld ?_) | (refine is_store ?_; refine sr ?_) | (refine is_alloc ?_; refine al ?_) | (refine is_box ?_; refine bx ?_))
    exact go_ret1 rfl rfl ⟨_, rfl, rfl, rfl⟩
  · generalize k.tmod n = t at *
    obtain rfl : t = k % n - n := by omega
    repeat (first | refine sp ?_ | (refine is_load ?_; refine ld ?_) | (refine is_store ?_; refine sr ?_) | (refine is_alloc ?_; refine al ?_) | (refine is_box ?_; refine bx ?_))
    rw [h4]
    exact go_ret1 rfl rfl ⟨_, rfl, rfl, rfl⟩

end Go.Proofs.Ytapocbahkeoeoaa
