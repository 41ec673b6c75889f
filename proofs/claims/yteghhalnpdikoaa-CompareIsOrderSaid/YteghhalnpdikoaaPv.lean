/-
  Where the root of a balanced tree stands.
-/
import Derived.Test.YteghhalnpdikoaaTq
set_option linter.unusedVariables false
namespace Go.Proofs.Yteghhalnpdikoaa
open Go.Vc

theorem c_least (n : Nat) (w : World) (h2 : n ≤ 100000) :
    Calls Try.prog 85 [.int .i64 (n : Int)].toArray w (Ret fun r w' => r = .int .i64 ((n / 4 : Nat) : Int) ∧ w' = w) := by
  refine calls_go Try.func85 rfl Try.ntmps85 (Nat.le_of_ble_eq_true rfl) ?_
  repeat (first | refine sp ?_ | (refine is_load ?_; refine ld ?_) | (refine is_store ?_; refine sr ?_) | (refine is_alloc ?_; refine al ?_) | (refine is_box ?_; refine bx ?_))
  refine go_ret1 rfl rfl ⟨_, rfl, ?_, rfl⟩
  congr 1
  split <;> omega

theorem balanced_iff (a b : Nat) (h : a ≤ 100000) (h' : b ≤ 100000) : balanced (a : Int) (b : Int) = true ↔ balN a b := by
  unfold balanced balN; rw [decide_eq_true_iff]; omega

set_option maxHeartbeats 1000000 in
theorem c_pivot (n : Nat) (tilt : Int) (w : World) (h1 : 1 ≤ n) (h2 : n ≤ 1000) (ht : 0 ≤ tilt ∧ tilt ≤ 18446744073709551615) :
    Calls Try.prog 45 [.int .i64 (n : Int), .int .u64 tilt].toArray w (Ret fun r w' => ∃ p : Nat, r = .int .i64 (p : Int) ∧ p < n ∧ balN p (n - 1 - p) ∧ w' = w) := by
  refine calls_go Try.func45 rfl Try.ntmps45 (Nat.le_of_ble_eq_true rfl) ?_
  repeat (first | refine sp ?_ | (refine is_load ?_; refine ld ?_) | (refine is_store ?_; refine sr ?_) | (refine is_alloc ?_; refine al ?_) | (refine is_box ?_; refine bx ?_))
  refine go_call rfl rfl (c_least n _ (by omega)) ?_
  rintro _ w ⟨rfl, rfl⟩
  repeat (first | refine sp ?_ | (refine is_load ?_; refine ld ?_) | (refine is_store ?_; refine sr ?_) | (refine is_alloc ?_; refine al ?_) | (refine is_box ?_; refine bx ?_))
  refine go_loop (G := Nat) [5] (fun lo => [.int .i64 (lo : Int)]) [(0, .int .i64 (n : Int)), (1, .int .u64 tilt)] (fun lo w' => lo ≤ n / 4 ∧ w' = w) (fun lo => lo) (n / 4) rfl ⟨rfl, rfl, trivial⟩ ⟨by omega, rfl⟩ ?_
  rintro lo w ⟨hlo, rfl⟩
  by_cases h0 : lo = 0
  · repeat (first | refine sp ?_ | (refine is_load ?_; refine ld ?_) | (refine is_store ?_; refine sr ?_) | (refine is_alloc ?_; refine al ?_) | (refine is_box ?_; refine bx ?_))
    refine go_loop (G := Nat) [5] (fun lo => [.int .i64 (lo : Int)]) [(0, .int .i64 (n : Int)), (1, .int .u64 tilt)] (fun lo w' => lo ≤ n - 1 ∧ w' = w) (fun lo => n - lo) lo rfl ⟨rfl, rfl, trivial⟩ ⟨by omega, rfl⟩ ?_
    clear hlo
    rintro lo w ⟨hlo, rfl⟩
    by_cases he : lo < n - 1
    · repeat (first | refine sp ?_ | (refine is_load ?_; refine ld ?_) | (refine is_store ?_; refine sr ?_) | (refine is_alloc ?_; refine al ?_) | (refine is_box ?_; refine bx ?_))
      refine go_call rfl rfl (c_refBalanced (lo : Int) ((n : Int) - 1 - lo) _) ?_
      rintro _ w ⟨rfl, rfl⟩
      rw [show (n : Int) - 1 - lo = ((n - 1 - lo : Nat) : Int) by omega]
      by_cases hb : balN lo (n - 1 - lo)
      · rw [(balanced_iff _ _ (by omega) (by omega)).2 hb]
        repeat (first | refine sp ?_ | (refine is_load ?_; refine ld ?_) | (refine is_store ?_; refine sr ?_) | (refine is_alloc ?_; refine al ?_) | (refine is_box ?_; refine bx ?_))
        by_cases hlo : (n : Int) - 1 - lo < lo
        · repeat (first | refine sp ?_ | (refine is_load ?_; refine ld ?_) | (refine is_store ?_; refine sr ?_) | (refine is_alloc ?_; refine al ?_) | (refine is_box ?_; refine bx ?_))
          exact go_ret1 rfl rfl ⟨_, rfl, n / 2, by congr 1, by omega, by unfold balN; omega, rfl⟩
        · have m1 := Int.emod_nonneg tilt (show (n : Int) - 1 - lo - lo + 1 ≠ 0 by omega)
          have m2 := Int.emod_lt_of_pos tilt (show 0 < (n : Int) - 1 - lo - lo + 1 by omega)
          repeat (first | refine sp ?_ | (refine is_load ?_; refine ld ?_) | (refine is_store ?_; refine sr ?_) | (refine is_alloc ?_; refine al ?_) | (refine is_box ?_; refine bx ?_))
          refine go_ret1 rfl rfl ⟨_, rfl, (lo + tilt % ((n : Int) - 1 - lo - lo + 1)).toNat, ?_, by omega, ?_, rfl⟩
          · congr 1; omega
          · unfold balN at *; omega
      · rw [show balanced (lo : Int) ((n - 1 - lo : Nat) : Int) = false by
          rw [Bool.eq_false_iff]; exact fun h => hb ((balanced_iff _ _ (by omega) (by omega)).1 h)]
        repeat (first | refine sp ?_ | (refine is_load ?_; refine ld ?_) | (refine is_store ?_; refine sr ?_) | (refine is_alloc ?_; refine al ?_) | (refine is_box ?_; refine bx ?_))
        exact go_stop (lo + 1) rfl ⟨rfl, rfl, trivial⟩ ⟨by omega, rfl⟩ (by show n - (lo + 1) < n - lo; omega)
    · have hb : n = 1 → balN lo (n - 1 - lo) := fun h => by unfold balN; omega
      obtain rfl : lo = n - 1 := by omega
      repeat (first | refine sp ?_ | (refine is_load ?_; refine ld ?_) | (refine is_store ?_; refine sr ?_) | (refine is_alloc ?_; refine al ?_) | (refine is_box ?_; refine bx ?_))
      by_cases hlo : n = 1
      · subst hlo
        repeat (first | refine sp ?_ | (refine is_load ?_; refine ld ?_) | (refine is_store ?_; refine sr ?_) | (refine is_alloc ?_; refine al ?_) | (refine is_box ?_; refine bx ?_))
        have m1 := Int.emod_nonneg tilt (show (1 : Int) ≠ 0 by omega)
        have m2 := Int.emod_lt_of_pos tilt (show 0 < (1 : Int) by omega)
        refine go_ret1 rfl rfl ⟨_, rfl, 0, ?_, by omega, ?_, rfl⟩
        · congr 1; omega
        · unfold balN; omega
      · repeat (first | refine sp ?_ | (refine is_load ?_; refine ld ?_) | (refine is_store ?_; refine sr ?_) | (refine is_alloc ?_; refine al ?_) | (refine is_box ?_; refine bx ?_))
        exact go_ret1 rfl rfl ⟨_, rfl, n / 2, by congr 1, by omega, by unfold balN; omega, rfl⟩
  · repeat (first | refine sp ?_ | (refine is_load ?_; refine ld ?_) | (refine is_store ?_; refine sr ?_) | (refine is_alloc ?_; refine al ?_) | (refine is_box ?_; refine bx ?_))
    refine go_call rfl rfl (c_refBalanced ((lo : Int) - 1) ((n : Int) - lo) _) ?_
    rintro _ w ⟨rfl, rfl⟩
    generalize balanced ((lo : Int) - 1) ((n : Int) - lo) = b
    cases b
    · repeat (first | refine sp ?_ | (refine is_load ?_; refine ld ?_) | (refine is_store ?_; refine sr ?_) | (refine is_alloc ?_; refine al ?_) | (refine is_box ?_; refine bx ?_))
      refine go_loop (G := Nat) [5] (fun lo => [.int .i64 (lo : Int)]) [(0, .int .i64 (n : Int)), (1, .int .u64 tilt)] (fun lo w' => lo ≤ n - 1 ∧ w' = w) (fun lo => n - lo) lo rfl ⟨rfl, rfl, trivial⟩ ⟨by omega, rfl⟩ ?_
      clear hlo
      rintro lo w ⟨hlo, rfl⟩
      by_cases he : lo < n - 1
      · repeat (first | refine sp ?_ | (refine is_load ?_; refine ld ?_) | (refine is_store ?_; refine sr ?_) | (refine is_alloc ?_; refine al ?_) | (refine is_box ?_; refine bx ?_))
        refine go_call rfl rfl (c_refBalanced (lo : Int) ((n : Int) - 1 - lo) _) ?_
        rintro _ w ⟨rfl, rfl⟩
        rw [show (n : Int) - 1 - lo = ((n - 1 - lo : Nat) : Int) by omega]
        by_cases hb : balN lo (n - 1 - lo)
        · rw [(balanced_iff _ _ (by omega) (by omega)).2 hb]
          repeat (first | refine sp ?_ | (refine is_load ?_; refine ld ?_) | (refine is_store ?_; refine sr ?_) | (refine is_alloc ?_; refine al ?_) | (refine is_box ?_; refine bx ?_))
          by_cases hlo : (n : Int) - 1 - lo < lo
          · repeat (first | refine sp ?_ | (refine is_load ?_; refine ld ?_) | (refine is_store ?_; refine sr ?_) | (refine is_alloc ?_; refine al ?_) | (refine is_box ?_; refine bx ?_))
            exact go_ret1 rfl rfl ⟨_, rfl, n / 2, by congr 1, by omega, by unfold balN; omega, rfl⟩
          · have m1 := Int.emod_nonneg tilt (show (n : Int) - 1 - lo - lo + 1 ≠ 0 by omega)
            have m2 := Int.emod_lt_of_pos tilt (show 0 < (n : Int) - 1 - lo - lo + 1 by omega)
            repeat (first | refine sp ?_ | (refine is_load ?_; refine ld ?_) | (refine is_store ?_; refine sr ?_) | (refine is_alloc ?_; refine al ?_) | (refine is_box ?_; refine bx ?_))
            refine go_ret1 rfl rfl ⟨_, rfl, (lo + tilt % ((n : Int) - 1 - lo - lo + 1)).toNat, ?_, by omega, ?_, rfl⟩
            · congr 1; omega
            · unfold balN at *; omega
        · rw [show balanced (lo : Int) ((n - 1 - lo : Nat) : Int) = false by
            rw [Bool.eq_false_iff]; exact fun h => hb ((balanced_iff _ _ (by omega) (by omega)).1 h)]
          repeat (first | refine sp ?_ | (refine is_load ?_; refine ld ?_) | (refine is_store ?_; refine sr ?_) | (refine is_alloc ?_; refine al ?_) | (refine is_box ?_; refine bx ?_))
          exact go_stop (lo + 1) rfl ⟨rfl, rfl, trivial⟩ ⟨by omega, rfl⟩ (by show n - (lo + 1) < n - lo; omega)
      · have hb : n = 1 → balN lo (n - 1 - lo) := fun h => by unfold balN; omega
        obtain rfl : lo = n - 1 := by omega
        repeat (first | refine sp ?_ | (refine is_load ?_; refine ld ?_) | (refine is_store ?_; refine sr ?_) | (refine is_alloc ?_; refine al ?_) | (refine is_box ?_; refine bx ?_))
        by_cases hlo : n = 1
        · subst hlo
          repeat (first | refine sp ?_ | (refine is_load ?_; refine ld ?_) | (refine is_store ?_; refine sr ?_) | (refine is_alloc ?_; refine al ?_) | (refine is_box ?_; refine bx ?_))
          have m1 := Int.emod_nonneg tilt (show (1 : Int) ≠ 0 by omega)
          have m2 := Int.emod_lt_of_pos tilt (show 0 < (1 : Int) by omega)
          refine go_ret1 rfl rfl ⟨_, rfl, 0, ?_, by omega, ?_, rfl⟩
          · congr 1; omega
          · unfold balN; omega
        · repeat (first | refine sp ?_ | (refine is_load ?_; refine ld ?_) | (refine is_store ?_; refine sr ?_) | (refine is_alloc ?_; refine al ?_) | (refine is_box ?_; refine bx ?_))
          exact go_ret1 rfl rfl ⟨_, rfl, n / 2, by congr 1, by omega, by unfold balN; omega, rfl⟩
    · repeat (first | refine sp ?_ | (refine is_load ?_; refine ld ?_) | (refine is_store ?_; refine sr ?_) | (refine is_alloc ?_; refine al ?_) | (refine is_box ?_; refine bx ?_))
      refine go_as 5 (u' := .int .i64 ((lo - 1 : Nat) : Int)) rfl (by congr 1; omega) ?_
      exact go_stop (lo - 1) rfl ⟨rfl, rfl, trivial⟩ ⟨by omega, rfl⟩ (by show lo - 1 < lo; omega)

end Go.Proofs.Yteghhalnpdikoaa
