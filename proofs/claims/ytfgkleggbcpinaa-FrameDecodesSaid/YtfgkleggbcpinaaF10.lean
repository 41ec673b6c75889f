/-
  Mod; one bit changed.
-/
import Derived.Test.YtfgkleggbcpinaaF9
set_option linter.unusedVariables false
namespace Go.Proofs.Ytfgkleggbcpinaa
open Go.Vc

theorem tmod_fix (k n : Int) (h : 0 < n) : (0 ≤ k.tmod n ∧ k.tmod n = k % n) ∨ (k.tmod n < 0 ∧ k.tmod n + n = k % n) := by
  have h1 := Int.emod_nonneg k (show n ≠ 0 by omega)
  have h2 := Int.emod_lt_of_pos k h
  rw [Int.tmod_eq_emod]
  split
  · left; omega
  · right; omega

theorem c_Mod (k n : Int) (w : World) (hk : -9223372036854775808 ≤ k ∧ k ≤ 9223372036854775807) (hn : 0 < n ∧ n ≤ 9223372036854775807) :
    Calls Try.prog 18 [.int .i64 k, .int .i64 n].toArray w (Ret fun r w' => r = .int .i64 (k % n) ∧ w' = w) := by
  have h1 := Int.emod_nonneg k (show n ≠ 0 by omega)
  have h2 := Int.emod_lt_of_pos k hn.1
  have h0 : n ≠ 0 := by omega
  refine calls_go Try.func18 rfl Try.ntmps18 (Nat.le_of_ble_eq_true rfl) ?_
  repeat (first | refine sp ?_ | (refine is_load ?_; refine ld ?_) | (refine is_store ?_; refine sr ?_) | (refine is_alloc ?_; refine al ?_) | (refine is_box ?_; refine bx ?_))
  rcases tmod_fix k n hn.1 with ⟨h3, h4⟩ | ⟨h3, h4⟩
  · rw [h4] at h3 ⊢
    repeat (first | refine sp ?_ | (refine is_load ?_; refine ld ?_) | (refine is_store ?_; refine sr ?_) | (refine is_alloc ?_; refine al ?_) | (refine is_box ?_; refine bx ?_))
    exact go_ret1 rfl rfl ⟨_, rfl, rfl, rfl⟩
  · generalize k.tmod n = t at *
    obtain rfl : t = k % n - n := by omega
    repeat (first | refine sp ?_ | (refine is_load ?_; refine ld ?_) | (refine is_store ?_; refine sr ?_) | (refine is_alloc ?_; refine al ?_) | (refine is_box ?_; refine bx ?_))
    rw [h4]
    exact go_ret1 rfl rfl ⟨_, rfl, rfl, rfl⟩

/-- A slice of the call's own, with at least one byte: its block. -/
theorem OwnB.block {w : World} {lo : Nat} {v : Value} {l : List (BitVec 8)} (h : OwnB w lo v l) (hl : 0 < l.length) :
    ∃ g cap C, v = .slice (some ⟨g, 0, none⟩) l.length cap ∧ lo ≤ g ∧ At w g (l.map u8 ++ C) 5 ∧ l.length ≤ cap ∧ cap ≤ maxLen ∧ l.length + C.length = cap := by
  rcases h.2 with ⟨_, h0⟩ | ⟨g, cap, cur, hv, hg, hh, hn, hc, hs, ht⟩
  · omega
  · refine ⟨g, cap, cur.toList.drop l.length, hv, hg, ⟨?_⟩, hn, hc, ?_⟩
    · rw [← ht, Nat.mul_one, List.take_append_drop]
      simpa using hh
    · simp; omega

theorem OwnB.of_block {w : World} {lo g cap n : Nat} {l : List (BitVec 8)} {C : List Value} (hn : n = l.length) (hg : lo ≤ g) (ha : At w g (l.map u8 ++ C) 5) (hc : cap ≤ maxLen) (hs : l.length + C.length = cap) :
    OwnB w lo (.slice (some ⟨g, 0, none⟩) n cap) l := by
  subst hn
  refine ⟨by simp, Or.inr ⟨g, cap, _, rfl, hg, ha.h, by omega, hc, ?_, ?_⟩⟩
  · simp; omega
  · simp

theorem bit_shl (m : Nat) (hm : m < 8) : IntKind.u8.wrap (1 * 2 ^ m) = ((1#8 <<< m).toNat : Int) := by
  have : ∀ m : Fin 8, IntKind.u8.wrap (1 * 2 ^ m.val) = ((1#8 <<< m.val).toNat : Int) := by decide
  exact this ⟨m, hm⟩
theorem bit_ne (b : BitVec 8) (m : Nat) (hm : m < 8) : b ^^^ 1#8 <<< m ≠ b := by
  have h : ∀ m : Fin 8, 1#8 <<< m.val ≠ 0#8 := by decide
  intro e
  refine h ⟨m, hm⟩ ?_
  have e2 : b ^^^ 1#8 <<< m = b ^^^ 0#8 := by rw [e]; simp
  exact (BitVec.xor_right_inj _).1 e2

set_option maxHeartbeats 1000000 in
theorem c_LawBits (v : Value) (l : List (BitVec 8)) (at' bit : Int) (w : World) (hl : l.length ≤ 9223372036854775807) (hv : By w v l) (ha : -9223372036854775808 ≤ at' ∧ at' ≤ 9223372036854775807) (hb : -9223372036854775808 ≤ bit ∧ bit ≤ 9223372036854775807) :
    Calls Try.prog 6 [v, .int .i64 at', .int .i64 bit].toArray w (Ret fun r w' => r = .bool true ∧ Ext w w') := by
  have hby := hv
  obtain ⟨sa, cap, rfl, hcap, hr⟩ := hv
  refine calls_go Try.func6 rfl Try.ntmps6 (Nat.le_of_ble_eq_true rfl) ?_
  by_cases h0 : l.length = 0
  · repeat (first | refine sp ?_ | (refine is_load ?_; refine ld ?_) | (refine is_store ?_; refine sr ?_) | (refine is_alloc ?_; refine al ?_) | (refine is_box ?_; refine bx ?_))
    refine go_call rfl rfl (c_awake w) ?_
    rintro r w1 ⟨rfl, hx⟩
    repeat (first | refine sp ?_ | (refine is_load ?_; refine ld ?_) | (refine is_store ?_; refine sr ?_) | (refine is_alloc ?_; refine al ?_) | (refine is_box ?_; refine bx ?_))
    exact go_ret1 rfl rfl ⟨_, rfl, rfl, hx⟩
  by_cases h6 : 600 < l.length
  · repeat (first | refine sp ?_ | (refine is_load ?_; refine ld ?_) | (refine is_store ?_; refine sr ?_) | (refine is_alloc ?_; refine al ?_) | (refine is_box ?_; refine bx ?_))
    refine go_call rfl rfl (c_awake w) ?_
    rintro r w1 ⟨rfl, hx⟩
    repeat (first | refine sp ?_ | (refine is_load ?_; refine ld ?_) | (refine is_store ?_; refine sr ?_) | (refine is_alloc ?_; refine al ?_) | (refine is_box ?_; refine bx ?_))
    exact go_ret1 rfl rfl ⟨_, rfl, rfl, hx⟩
  repeat (first | refine sp ?_ | (refine is_load ?_; refine ld ?_) | (refine is_store ?_; refine sr ?_) | (refine is_alloc ?_; refine al ?_) | (refine is_box ?_; refine bx ?_))
  refine go_call rfl rfl (c_Join _ _ l [] w (by simp; omega) hby (By.nil w)) ?_
  rintro r w1 ⟨ho, hx⟩
  rw [List.append_nil] at ho
  obtain ⟨g, cp, C, rfl, hg, hat, hc1, hc2, hc3⟩ := ho.block (by omega)
  repeat (first | refine sp ?_ | (refine is_load ?_; refine ld ?_) | (refine is_store ?_; refine sr ?_) | (refine is_alloc ?_; refine al ?_) | (refine is_box ?_; refine bx ?_))
  refine go_call rfl rfl (c_Mod at' l.length w1 ha (by omega)) ?_
  rintro r w2 ⟨rfl, rfl⟩
  obtain ⟨i, hi⟩ : ∃ i : Nat, at' % (l.length : Int) = i := ⟨_, (Int.toNat_of_nonneg (Int.emod_nonneg _ (by omega))).symm⟩
  have hil : i < l.length := by
    have := Int.emod_lt_of_pos at' (show (0 : Int) < l.length by omega)
    omega
  rw [hi]
  obtain ⟨m, hm⟩ : ∃ m : Nat, bit % 8 = m := ⟨_, (Int.toNat_of_nonneg (Int.emod_nonneg _ (by omega))).symm⟩
  have hm8 : m < 8 := by omega
  have hci : (l.map u8 ++ C)[0 + i]? = some (u8 l[i]) := by
    rw [Nat.zero_add, List.getElem?_append_left (by simpa using hil)]
    simp [hil]
  repeat (first | refine sp ?_ | (refine is_load ?_; refine ld ?_) | (refine is_store ?_; refine sr ?_) | (refine is_alloc ?_; refine al ?_) | (refine is_box ?_; refine bx ?_))
  refine go_drawE (Fr (fun _ => False) w2) 1 Try.follows (by kernel_rfl) (by kernel_rfl) (by kernel_rfl) ((Fr.refl _ _).drewN 1) ?_
  repeat (first | refine sp ?_ | (refine is_load ?_; refine ld ?_) | (refine is_store ?_; refine sr ?_) | (refine is_alloc ?_; refine al ?_) | (refine is_box ?_; refine bx ?_))
  refine gol_load rfl rfl (ldD_at hat id hci) ?_
  repeat (first | refine sp ?_ | (refine is_load ?_; refine ld ?_) | (refine is_store ?_; refine sr ?_) | (refine is_alloc ?_; refine al ?_) | (refine is_box ?_; refine bx ?_))
  refine gol_call rfl rfl (c_Mod bit 8 _ hb (by omega)) ?_
  rintro r w3 ⟨rfl, rfl⟩
  refine ⟨(Fr.refl _ _).drewN 1, ?_⟩
  rw [hm]
  repeat (first | refine sp ?_ | (refine is_load ?_; refine ld ?_) | (refine is_store ?_; refine sr ?_) | (refine is_alloc ?_; refine al ?_) | (refine is_box ?_; refine bx ?_))
  refine gol_p rfl rfl (pr_shl (m := m) rfl rfl rfl (by show m ≤ 8; omega)) ?_
  rw [bit_shl m hm8]
  refine gol_p rfl rfl (pr_xor8 rfl rfl) ?_
  repeat (first | refine sp ?_ | (refine is_load ?_; refine ld ?_) | (refine is_store ?_; refine sr ?_) | (refine is_alloc ?_; refine al ?_) | (refine is_box ?_; refine bx ?_))
  refine gol_store rfl rfl (st_at (hat.drewN 1) (by simp; omega) rfl) trivial ?_
  have hset : (l.map u8 ++ C).set (0 + i) (u8 (l[i] ^^^ 1#8 <<< m)) = (l.set i (l[i] ^^^ 1#8 <<< m)).map u8 ++ C := by
    rw [Nat.zero_add, List.set_append_left _ _ (by simpa using hil), List.map_set]
  rw [hset]
  generalize hl' : l.set i (l[i] ^^^ 1#8 <<< m) = l' at *
  have hll : l'.length = l.length := by rw [← hl']; simp
  have hx3 : Ext w ((w2.drewN 1).setRow g (l'.map u8 ++ C).toArray) := (hx.drewN 1).setRow _ (Or.inr hg)
  have hat3 : At ((w2.drewN 1).setRow g (l'.map u8 ++ C).toArray) g (l'.map u8 ++ C) 5 := (hat.drewN 1).setRow _
  generalize (w2.drewN 1).setRow g (l'.map u8 ++ C).toArray = w3 at *
  have hne : extP 0#32 l ≠ extP 0#32 l' := by
    rw [← hl']
    exact detects l i hil _ (bit_ne _ m hm8) _
  repeat (first | refine sp ?_ | (refine is_load ?_; refine ld ?_) | (refine is_store ?_; refine sr ?_) | (refine is_alloc ?_; refine al ?_) | (refine is_box ?_; refine bx ?_))
  refine go_call rfl rfl (c_awake w3) ?_
  rintro r w4 ⟨rfl, hx4⟩
  repeat (first | refine sp ?_ | (refine is_load ?_; refine ld ?_) | (refine is_store ?_; refine sr ?_) | (refine is_alloc ?_; refine al ?_) | (refine is_box ?_; refine bx ?_))
  refine go_call rfl rfl (c_Checksum _ l w4 hl (hby.ext (hx3.trans hx4))) ?_
  rintro r w5 ⟨rfl, hx5⟩
  repeat (first | refine sp ?_ | (refine is_load ?_; refine ld ?_) | (refine is_store ?_; refine sr ?_) | (refine is_alloc ?_; refine al ?_) | (refine is_box ?_; refine bx ?_))
  have ho5 : By w5 (.slice (some ⟨g, 0, none⟩) l.length cp) l' := by
    refine ⟨_, cp, by rw [hll], by omega, fun j u hj => ⟨_, _, rfl, ?_⟩⟩
    have hj2 : (l'.map u8 ++ C)[j]? = some u := by
      rw [List.getElem?_append_left]
      · exact hj
      · exact (List.getElem?_eq_some_iff.1 hj).1
    have := (hat3.ext (hx4.trans hx5)).cell hj2
    simpa using this
  refine go_call rfl rfl (c_Checksum _ l' w5 (by omega) ho5) ?_
  rintro r w6 ⟨rfl, hx6⟩
  have hne' : ((extP 0#32 l).toNat : Int) ≠ ((extP 0#32 l').toNat : Int) := fun e => hne (BitVec.eq_of_toNat_eq (by exact_mod_cast e))
  repeat (first | refine sp ?_ | (refine is_load ?_; refine ld ?_) | (refine is_store ?_; refine sr ?_) | (refine is_alloc ?_; refine al ?_) | (refine is_box ?_; refine bx ?_))
  exact go_ret1 rfl rfl ⟨_, rfl, rfl, ((hx3.trans hx4).trans hx5).trans hx6⟩
end Go.Proofs.Ytfgkleggbcpinaa
