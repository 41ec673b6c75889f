/-
  The reference's reader of varints.
-/
import Derived.Test.YtfgkleggbcpinaaF12
set_option linter.unusedVariables false
namespace Go.Proofs.Ytfgkleggbcpinaa
open Go.Vc

set_option maxHeartbeats 1000000 in
theorem c_refUvarint (v : Value) (l : List (BitVec 8)) (a : Int) (w : World) (hl : l.length ≤ 9223372036854775807) (hv : By w v l) (ha : -9223372036854775808 ≤ a ∧ a ≤ 9223372036854775807) :
    Calls Try.prog 30 [v, .int .i64 a].toArray w (Ret fun r w' => r = uvVal (uvRes l a) ∧ w' = w) := by
  obtain ⟨sa, cap, rfl, hcap, hr⟩ := hv
  refine calls_go Try.func30 rfl Try.ntmps30 (Nat.le_of_ble_eq_true rfl) ?_
  by_cases h0 : a < 0
  · repeat (first | refine sp ?_ | (refine is_load ?_; refine ld ?_) | (refine is_store ?_; refine sr ?_) | (refine is_alloc ?_; refine al ?_) | (refine is_box ?_; refine bx ?_))
    refine go_ret3 rfl rfl rfl rfl ⟨_, rfl, ?_, rfl⟩
    rw [uvRes, if_pos (.inl h0)]; rfl
  by_cases h1 : (l.length : Int) < a
  · repeat (first | refine sp ?_ | (refine is_load ?_; refine ld ?_) | (refine is_store ?_; refine sr ?_) | (refine is_alloc ?_; refine al ?_) | (refine is_box ?_; refine bx ?_))
    refine go_ret3 rfl rfl rfl rfl ⟨_, rfl, ?_, rfl⟩
    rw [uvRes, if_pos (.inr h1)]; rfl
  obtain ⟨p, rfl⟩ : ∃ p : Nat, a = p := ⟨a.toNat, by omega⟩
  have hp : p ≤ l.length := by omega
  have hres : uvRes l (p : Int) = uvD p 0 0 (l.drop p) := by rw [uvRes, if_neg (by omega), Int.toNat_natCast]
  rw [hres]
  repeat (first | refine sp ?_ | (refine is_load ?_; refine ld ?_) | (refine is_store ?_; refine sr ?_) | (refine is_alloc ?_; refine al ?_) | (refine is_box ?_; refine bx ?_))
  refine go_loop (G := Nat × Nat × Nat) [9, 7, 8] (fun ⟨i, u, k⟩ => [.int .i64 (i : Int), .int .u64 (u : Int), .int .u64 (k : Int)]) [(0, .slice sa l.length cap), (1, .int .i64 p)]
    (fun g w' => g.1 ≤ 9 ∧ g.1 ≤ l.length - p ∧ g.2.1 < 2 ^ (7 * g.1) ∧ g.2.2 = 2 ^ (7 * g.1) ∧ uvD p 0 0 (l.drop p) = uvD p g.1 g.2.1 (l.drop (p + g.1)) ∧ w' = w) (fun g => l.length - g.1) (0, 0, 1) rfl ⟨rfl, rfl, trivial⟩ ⟨by simp, by simp, by decide, rfl, rfl, rfl⟩ ?_
  rintro ⟨i, u, k⟩ w2 ⟨hi9, hil, hu, hk, hd, rfl⟩
  simp only at hi9 hil hu hk hd
  rw [hd]
  by_cases hlt : i < l.length - p
  · obtain ⟨b, o, rfl, hc⟩ := hr.get (show p + i < l.length by omega)
    have hdrop : l.drop (p + i) = l[p + i] :: l.drop (p + (i + 1)) := by
      rw [← Nat.add_assoc]; exact List.drop_eq_getElem_cons (by omega)
    rw [hdrop]
    rw [uvD]
    generalize l[p + i] = c at *
    have hcl := c.isLt
    have hub : u < 9223372036854775808 := by
      have : 2 ^ (7 * i) ≤ 2 ^ 63 := Nat.pow_le_pow_right (by decide) (by omega)
      omega
    have hk63 : k ≤ 9223372036854775808 := by
      have : 2 ^ (7 * i) ≤ 2 ^ 63 := Nat.pow_le_pow_right (by decide) (by omega)
      omega
    have hx : i ≠ 9 ∨ c.toNat ≤ 1 → (0 : Int) ≤ (k : Int) * ((c.toNat : Int) % 128) ∧ (u : Int) + (k : Int) * ((c.toNat : Int) % 128) < 18446744073709551616 := by
      intro hg
      have e : (k : Int) * ((c.toNat : Int) % 128) = ((k * (c.toNat % 128) : Nat) : Int) := by push_cast; rfl
      rw [e]
      refine ⟨by omega, ?_⟩
      have h5 : u + k * (c.toNat % 128) < 18446744073709551616 := by
        rcases hg with h | h
        · have h3 : 2 ^ (7 * i) ≤ 2 ^ 56 := Nat.pow_le_pow_right (by decide) (by omega)
          have h4 : k * (c.toNat % 128) ≤ 2 ^ 56 * 127 := Nat.mul_le_mul (by omega) (by omega)
          omega
        · have h4 : k * (c.toNat % 128) ≤ 2 ^ 63 * 1 := Nat.mul_le_mul (by omega) (by omega)
          omega
      omega
    by_cases hc1 : i = 9 ∧ 1 < c.toNat
    · rw [if_pos (.inl hc1)]
      obtain ⟨h9, h1c⟩ := hc1
      repeat (first | refine sp ?_ | (refine is_load ?_; refine ld ?_) | (refine is_store ?_; refine sr ?_) | (refine is_alloc ?_; refine al ?_) | (refine is_box ?_; refine bx ?_))
      exact go_ret3 rfl rfl rfl rfl ⟨_, rfl, rfl, rfl⟩
    have hx2 := hx (by omega)
    by_cases hc2 : 0 < i ∧ c.toNat = 0
    · rw [if_pos (.inr hc2)]
      obtain ⟨hi0, hc0⟩ := hc2
      by_cases h9 : i = 9
      · repeat (first | refine sp ?_ | (refine is_load ?_; refine ld ?_) | (refine is_store ?_; refine sr ?_) | (refine is_alloc ?_; refine al ?_) | (refine is_box ?_; refine bx ?_))
        exact go_ret3 rfl rfl rfl rfl ⟨_, rfl, rfl, rfl⟩
      · repeat (first | refine sp ?_ | (refine is_load ?_; refine ld ?_) | (refine is_store ?_; refine sr ?_) | (refine is_alloc ?_; refine al ?_) | (refine is_box ?_; refine bx ?_))
        exact go_ret3 rfl rfl rfl rfl ⟨_, rfl, rfl, rfl⟩
    have hval : (u : Int) + (k : Int) * ((c.toNat : Int) % 128) = ((u + 2 ^ (7 * i) * (c.toNat % 128) : Nat) : Int) := by rw [← hk]; push_cast; rfl
    rw [if_neg (by omega)]
    by_cases h128 : c.toNat < 128
    · rw [if_pos h128]
      have hm : c.toNat % 128 = c.toNat := Nat.mod_eq_of_lt h128
      rw [hm] at hval
      by_cases h9 : i = 9
      · repeat (first | refine sp ?_ | (refine is_load ?_; refine ld ?_) | (refine is_store ?_; refine sr ?_) | (refine is_alloc ?_; refine al ?_) | (refine is_box ?_; refine bx ?_))
        refine go_ret3 rfl rfl rfl rfl ⟨_, rfl, ?_, rfl⟩
        rw [hval]; unfold uvVal; simp
      by_cases hi0 : i = 0
      · repeat (first | refine sp ?_ | (refine is_load ?_; refine ld ?_) | (refine is_store ?_; refine sr ?_) | (refine is_alloc ?_; refine al ?_) | (refine is_box ?_; refine bx ?_))
        refine go_ret3 rfl rfl rfl rfl ⟨_, rfl, ?_, rfl⟩
        rw [hval]; unfold uvVal; simp
      · repeat (first | refine sp ?_ | (refine is_load ?_; refine ld ?_) | (refine is_store ?_; refine sr ?_) | (refine is_alloc ?_; refine al ?_) | (refine is_box ?_; refine bx ?_))
        refine go_ret3 rfl rfl rfl rfl ⟨_, rfl, ?_, rfl⟩
        rw [hval]; unfold uvVal; simp
    · rw [if_neg h128]
      have hk56 : k ≤ 72057594037927936 := by
        have : 2 ^ (7 * i) ≤ 2 ^ 56 := Nat.pow_le_pow_right (by decide) (by omega)
        omega
      have h9 : i ≠ 9 := by omega
      repeat (first | refine sp ?_ | (refine is_load ?_; refine ld ?_) | (refine is_store ?_; refine sr ?_) | (refine is_alloc ?_; refine al ?_) | (refine is_box ?_; refine bx ?_))
      refine go_as 7 (u' := .int .u64 ((u + 2 ^ (7 * i) * (c.toNat % 128) : Nat) : Int)) rfl (by rw [hval]) ?_
      refine go_as 8 (u' := .int .u64 ((k * 128 : Nat) : Int)) rfl (by congr 1) ?_
      have h4 : 2 ^ (7 * (i + 1)) = 2 ^ (7 * i) * 128 := by rw [show 7 * (i + 1) = 7 * i + 7 by omega, Nat.pow_add]
      have h3 : 2 ^ (7 * i) * (c.toNat % 128) ≤ 2 ^ (7 * i) * 127 := Nat.mul_le_mul (Nat.le_refl _) (by omega)
      exact go_stop (i + 1, u + 2 ^ (7 * i) * (c.toNat % 128), k * 128) rfl ⟨rfl, rfl, trivial⟩ ⟨by show i + 1 ≤ 9; omega, by show i + 1 ≤ _; omega, by show u + _ < 2 ^ (7 * (i + 1)); omega, by show k * 128 = 2 ^ (7 * (i + 1)); omega, rfl, rfl⟩ (by show l.length - (i+1) < l.length - i; omega)
  · obtain rfl : i = l.length - p := by omega
    have e : l.drop (p + (l.length - p)) = [] := List.drop_eq_nil_of_le (by omega)
    rw [e, uvD]
    repeat (first | refine sp ?_ | (refine is_load ?_; refine ld ?_) | (refine is_store ?_; refine sr ?_) | (refine is_alloc ?_; refine al ?_) | (refine is_box ?_; refine bx ?_))
    exact go_ret3 rfl rfl rfl rfl ⟨_, rfl, rfl, rfl⟩
end Go.Proofs.Ytfgkleggbcpinaa
