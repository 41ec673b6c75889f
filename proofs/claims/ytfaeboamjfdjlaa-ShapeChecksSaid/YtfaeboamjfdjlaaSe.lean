/-
  The example of chapter 7; laws on trees that were made out of lists.
-/
import Derived.Test.YtfaeboamjfdjlaaSc
import Derived.Test.YtfaeboamjfdjlaaMod
set_option linter.unusedVariables false
namespace Go.Proofs.Ytfaeboamjfdjlaa
open Go.Vc

def minKeys (h : Int) : Int := if h < 0 ∨ 80 < h then -1 else wt h.toNat - 1

theorem c_SMinKeys (h : Int) (w : World) :
    Calls Try.prog 26 [.int .i64 h].toArray w (Ret fun v w' => v = .int .i64 (minKeys h) ∧ w' = w) := by
  refine calls_go Try.func26 rfl Try.ntmps26 (Nat.le_of_ble_eq_true rfl) ?_
  by_cases h1 : h < 0
  · repeat (first | refine sp ?_ | (refine is_load ?_; refine ld ?_) | (refine is_store ?_; refine sr ?_) | (refine is_alloc ?_; refine al ?_) | (refine is_box ?_; refine bx ?_))
    refine go_ret1 rfl rfl ⟨_, rfl, ?_, rfl⟩
    simp [minKeys, h1]
  by_cases h2 : 80 < h
  · repeat (first | refine sp ?_ | (refine is_load ?_; refine ld ?_) | (refine is_store ?_; refine sr ?_) | (refine is_alloc ?_; refine al ?_) | (refine is_box ?_; refine bx ?_))
    refine go_ret1 rfl rfl ⟨_, rfl, ?_, rfl⟩
    simp [minKeys, h2]
  obtain ⟨m, rfl⟩ := Int.eq_ofNat_of_zero_le (show 0 ≤ h by omega)
  repeat (first | refine sp ?_ | (refine is_load ?_; refine ld ?_) | (refine is_store ?_; refine sr ?_) | (refine is_alloc ?_; refine al ?_) | (refine is_box ?_; refine bx ?_))
  refine go_loop (G := Nat) [3, 4] (fun j => [.int .i64 (wt j), .int .i64 j]) [(0, .int .i64 m)] (fun j w' => j ≤ m ∧ w' = w) (fun j => m - j) 0 rfl ⟨rfl, trivial⟩ ⟨by omega, rfl⟩ ?_
  rintro j w' ⟨hj, rfl⟩
  by_cases hlt : j < m
  · have hp := wt_pos j
    have hb := wt_bd (show j ≤ 80 by omega)
    repeat (first | refine sp ?_ | (refine is_load ?_; refine ld ?_) | (refine is_store ?_; refine sr ?_) | (refine is_alloc ?_; refine al ?_) | (refine is_box ?_; refine bx ?_))
    refine go_stop (j+1) ?_ ⟨rfl, trivial⟩ ⟨by omega, rfl⟩ (by show m - (j+1) < m - j; omega)
    rfl
  · obtain rfl : j = m := by omega
    have hp := wt_pos j
    have hb := wt_bd (show j ≤ 80 by omega)
    repeat (first | refine sp ?_ | (refine is_load ?_; refine ld ?_) | (refine is_store ?_; refine sr ?_) | (refine is_alloc ?_; refine al ?_) | (refine is_box ?_; refine bx ?_))
    refine go_ret1 rfl rfl ⟨_, rfl, ?_, rfl⟩
    simp [minKeys, h1, h2]

theorem c_SMaxHeight (keys : Int) (w : World) :
    Calls Try.prog 27 [.int .i64 keys].toArray w (Ret fun v w' => v = .int .i64 (maxHeight keys) ∧ w' = w) := by
  refine calls_go Try.func27 rfl Try.ntmps27 (Nat.le_of_ble_eq_true rfl) ?_
  by_cases h1 : keys < 0
  · repeat (first | refine sp ?_ | (refine is_load ?_; refine ld ?_) | (refine is_store ?_; refine sr ?_) | (refine is_alloc ?_; refine al ?_) | (refine is_box ?_; refine bx ?_))
    refine go_ret1 rfl rfl ⟨_, rfl, ?_, rfl⟩
    simp [maxHeight, h1]
  by_cases h2 : 2147483647 < keys
  · repeat (first | refine sp ?_ | (refine is_load ?_; refine ld ?_) | (refine is_store ?_; refine sr ?_) | (refine is_alloc ?_; refine al ?_) | (refine is_box ?_; refine bx ?_))
    refine go_ret1 rfl rfl ⟨_, rfl, ?_, rfl⟩
    simp [maxHeight, h2]
  repeat (first | refine sp ?_ | (refine is_load ?_; refine ld ?_) | (refine is_store ?_; refine sr ?_) | (refine is_alloc ?_; refine al ?_) | (refine is_box ?_; refine bx ?_))
  refine go_loop (G := Nat) [3, 4] (fun j => [.int .i64 j, .int .i64 (wt j)]) [(0, .int .i64 keys)] (fun j w' => j ≤ 80 ∧ mh keys (80 - j) j = mh keys 80 0 ∧ w' = w) (fun j => 80 - j) 0 rfl ⟨rfl, trivial⟩ ⟨by omega, rfl, rfl⟩ ?_
  rintro j w' ⟨hj, hm, rfl⟩
  have hp := wt_pos j
  by_cases hlt : j < 80
  · have hb := wt_bd (show j + 1 ≤ 80 by omega)
    have hw : wt (j+1) = wt j + (wt j + 2) / 3 := rfl
    by_cases hk : wt (j+1) - 1 ≤ keys
    · have hm' := mh_step hlt hk
      rw [hw] at hk hb
      repeat (first | refine sp ?_ | (refine is_load ?_; refine ld ?_) | (refine is_store ?_; refine sr ?_) | (refine is_alloc ?_; refine al ?_) | (refine is_box ?_; refine bx ?_))
      exact go_stop (j+1) rfl ⟨rfl, trivial⟩ ⟨by omega, by rw [← hm']; exact hm, rfl⟩ (by show 80 - (j+1) < 80 - j; omega)
    · have hm' := mh_stop hlt hk
      rw [hw] at hk hb
      repeat (first | refine sp ?_ | (refine is_load ?_; refine ld ?_) | (refine is_store ?_; refine sr ?_) | (refine is_alloc ?_; refine al ?_) | (refine is_box ?_; refine bx ?_))
      refine go_ret1 rfl rfl ⟨_, rfl, ?_, rfl⟩
      rw [maxHeight_eq h1 h2, ← hm, hm']
  · obtain rfl : j = 80 := by omega
    repeat (first | refine sp ?_ | (refine is_load ?_; refine ld ?_) | (refine is_store ?_; refine sr ?_) | (refine is_alloc ?_; refine al ?_) | (refine is_box ?_; refine bx ?_))
    refine go_ret1 rfl rfl ⟨_, rfl, ?_, rfl⟩
    rw [maxHeight_eq h1 h2, ← hm]; rfl

theorem c_awake7 (w : World) : Calls Try.prog 6 [].toArray w (Ret fun v w' => v = .bool true ∧ w' = w) := by
  have e1 : minKeys 6 = 10 := by decide +kernel
  have e2 : maxHeight 9 = 5 := by decide +kernel
  refine calls_go Try.func6 rfl Try.ntmps6 (Nat.le_of_ble_eq_true rfl) ?_
  repeat (first | refine sp ?_ | (refine is_load ?_; refine ld ?_) | (refine is_store ?_; refine sr ?_) | (refine is_alloc ?_; refine al ?_) | (refine is_box ?_; refine bx ?_))
  refine go_call rfl rfl (c_SMinKeys 6 w) ?_
  rintro v w1 ⟨rfl, rfl⟩
  repeat (first | refine sp ?_ | (refine is_load ?_; refine ld ?_) | (refine is_store ?_; refine sr ?_) | (refine is_alloc ?_; refine al ?_) | (refine is_box ?_; refine bx ?_))
  refine go_call rfl rfl (c_SMaxHeight 9 w1) ?_
  rintro v w2 ⟨rfl, rfl⟩
  repeat (first | refine sp ?_ | (refine is_load ?_; refine ld ?_) | (refine is_store ?_; refine sr ?_) | (refine is_alloc ?_; refine al ?_) | (refine is_box ?_; refine bx ?_))
  refine go_call rfl rfl (c_SBal 0 2 w2) ?_
  rintro v w3 ⟨rfl, rfl⟩
  rw [show balanced 0 2 = true from rfl]
  repeat (first | refine sp ?_ | (refine is_load ?_; refine ld ?_) | (refine is_store ?_; refine sr ?_) | (refine is_alloc ?_; refine al ?_) | (refine is_box ?_; refine bx ?_))
  refine go_call rfl rfl (c_SBal 0 3 w3) ?_
  rintro v w4 ⟨rfl, rfl⟩
  rw [show balanced 0 3 = false from rfl]
  repeat (first | refine sp ?_ | (refine is_load ?_; refine ld ?_) | (refine is_store ?_; refine sr ?_) | (refine is_alloc ?_; refine al ?_) | (refine is_box ?_; refine bx ?_))
  exact go_ret1 rfl rfl ⟨_, rfl, rfl, rfl⟩

theorem TreeAt.hM {w0 w : World} {lo p : Nat} {q : AP} {B : AR} {t : Tr} (g : TreeAt w0 w lo p q B t) : ∀ a b, t.subs = a ++ b → SrtK a → a.length ≤ 1000000 := fun a b e _ => by
  have h1 := congrArg List.length e
  rw [t.subs_len, List.length_append] at h1
  have := g.sz; omega
theorem Tr.ht_sz : ∀ t : Tr, t.ht ≤ t.sz
  | .nil => Nat.le_refl _
  | .nd i l k v r => by
    have := Tr.ht_sz l
    have := Tr.ht_sz r
    show 1 + max l.ht r.ht ≤ l.sz + 1 + r.sz
    omega
theorem TreeAt.ok {w0 w : World} {lo p : Nat} {q : AP} {B : AR} {t : Tr} (g : TreeAt w0 w lo p q B t) {E : Int} (h : CkE' t E) : E = 0 := by
  have hs := g.sz
  rcases h with ⟨_, _, e⟩ | ⟨h, _⟩ | ⟨_, ⟨T, hT, hb⟩, _⟩
  · exact e
  · exact absurd ((srtK_iff t).2 g.srt) h
  · rw [Tr.bal_ok g.bal (by omega) T hT] at hb; cases hb

end Go.Proofs.Ytfaeboamjfdjlaa
