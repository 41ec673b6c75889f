/-
  The weights of balanced trees; the reference's heights and balance.
-/
import Derived.Test.YtfaeboamjfdjlaaSl
set_option linter.unusedVariables false
namespace Go.Proofs.Ytfaeboamjfdjlaa
open Go.Vc

/-- The least weights of the balanced trees. -/
def wt : Nat → Int
  | 0 => 1
  | n+1 => wt n + (wt n + 2) / 3

theorem wt_pos : ∀ n, 1 ≤ wt n
  | 0 => by simp [wt]
  | n+1 => by have := wt_pos n; simp only [wt]; omega
theorem wt_le (n : Nat) : wt n ≤ wt (n+1) := by have := wt_pos n; simp only [wt]; omega
theorem wt_mono {a b : Nat} (h : a ≤ b) : wt a ≤ wt b := by
  induction h with
  | refl => exact Int.le_refl _
  | step _ ih => exact Int.le_trans ih (wt_le _)
theorem wt_80 : wt 80 = 20530950500 := by decide +kernel
theorem wt_bd {n : Nat} (h : n ≤ 80) : wt n ≤ 20530950500 := by have := wt_mono h; rw [wt_80] at this; exact this

def wCells (h : Nat) : List Value := (List.range 81).map fun j => .int .i64 (if j < h then wt j else 0)
def zCells : List Value := List.replicate 81 (.int .i64 0)

theorem zset : zCells.set 0 (Value.int IntKind.i64 1) = wCells 1 := by
  rfl
theorem wlen (h : Nat) : (wCells h).length = 81 := by simp [wCells]
theorem wget {h j : Nat} (hj : j < h) (h81 : h ≤ 81) : (wCells h)[j]? = some (.int .i64 (wt j)) := by
  have : j < 81 := by omega
  simp [wCells, hj, this]
theorem wset (h : Nat) (hh : h < 81) : (wCells h).set h (.int .i64 (wt h)) = wCells (h+1) := by
  apply List.ext_getElem?
  intro i
  rw [List.getElem?_set]
  by_cases e : h = i
  · subst e; simp [hh, wCells]
  · rw [if_neg e]
    simp only [wCells, List.getElem?_map]
    by_cases hi : i < 81
    · simp only [List.getElem?_range hi, Option.map_some]
      by_cases e2 : i < h
      · simp [e2, show i < h + 1 by omega]
      · simp [e2, show ¬ i < h + 1 by omega]
    · simp [hi]

/-- The greatest height of a balanced tree with so many keys, from 'h' on. -/
def mh (keys : Int) : Nat → Nat → Nat
  | 0, h => h
  | f+1, h => if wt (h+1) - 1 ≤ keys then mh keys f (h+1) else h
def maxHeight (keys : Int) : Int := if keys < 0 ∨ 2147483647 < keys then -1 else (mh keys 80 0 : Nat)

theorem maxHeight_eq {keys : Int} (h1 : ¬ keys < 0) (h2 : ¬ 2147483647 < keys) : maxHeight keys = (mh keys 80 0 : Nat) := by
  unfold maxHeight; rw [if_neg (by omega)]

theorem mh_step {keys : Int} {h : Nat} (hh : h < 80) (hk : wt (h+1) - 1 ≤ keys) : mh keys (80 - h) h = mh keys (80 - (h+1)) (h+1) := by
  rw [show 80 - h = (80 - (h+1)) + 1 by omega, mh, if_pos hk]
theorem mh_stop {keys : Int} {h : Nat} (hh : h < 80) (hk : ¬ wt (h+1) - 1 ≤ keys) : mh keys (80 - h) h = h := by
  rw [show 80 - h = (80 - (h+1)) + 1 by omega, mh, if_neg hk]

def balanced (l r : Int) : Bool := decide (0 ≤ l ∧ 0 ≤ r ∧ l ≤ 2147483647 ∧ r ≤ 2147483647 ∧ l + 1 ≤ 3 * (r + 1) ∧ r + 1 ≤ 3 * (l + 1))

theorem c_refBalanced (l r : Int) (w : World) :
    Calls Try.prog 54 [.int .i64 l, .int .i64 r].toArray w (Ret fun v w' => v = .bool (balanced l r) ∧ w' = w) := by
  refine calls_go Try.func54 rfl Try.ntmps54 (Nat.le_of_ble_eq_true rfl) ?_
  by_cases h1 : l < 0
  · repeat (first | refine sp ?_ | (refine is_load ?_; refine ld ?_) | (refine is_store ?_; refine sr ?_) | (refine is_alloc ?_; refine al ?_) | (refine is_box ?_; refine bx ?_))
    exact go_ret1 rfl rfl ⟨_, rfl, by simp [balanced]; omega, rfl⟩
  by_cases h3 : 2147483647 < l
  · repeat (first | refine sp ?_ | (refine is_load ?_; refine ld ?_) | (refine is_store ?_; refine sr ?_) | (refine is_alloc ?_; refine al ?_) | (refine is_box ?_; refine bx ?_))
    exact go_ret1 rfl rfl ⟨_, rfl, by simp [balanced]; omega, rfl⟩
  by_cases h2 : r < 0
  · repeat (first | refine sp ?_ | (refine is_load ?_; refine ld ?_) | (refine is_store ?_; refine sr ?_) | (refine is_alloc ?_; refine al ?_) | (refine is_box ?_; refine bx ?_))
    exact go_ret1 rfl rfl ⟨_, rfl, by simp [balanced]; omega, rfl⟩
  by_cases h4 : 2147483647 < r
  · repeat (first | refine sp ?_ | (refine is_load ?_; refine ld ?_) | (refine is_store ?_; refine sr ?_) | (refine is_alloc ?_; refine al ?_) | (refine is_box ?_; refine bx ?_))
    exact go_ret1 rfl rfl ⟨_, rfl, by simp [balanced]; omega, rfl⟩
  by_cases h5 : l + 1 ≤ 3 * (r + 1)
  · by_cases h6 : r + 1 ≤ 3 * (l + 1)
    · repeat (first | refine sp ?_ | (refine is_load ?_; refine ld ?_) | (refine is_store ?_; refine sr ?_) | (refine is_alloc ?_; refine al ?_) | (refine is_box ?_; refine bx ?_))
      exact go_ret1 rfl rfl ⟨_, rfl, by simp [balanced]; omega, rfl⟩
    · repeat (first | refine sp ?_ | (refine is_load ?_; refine ld ?_) | (refine is_store ?_; refine sr ?_) | (refine is_alloc ?_; refine al ?_) | (refine is_box ?_; refine bx ?_))
      exact go_ret1 rfl rfl ⟨_, rfl, by simp [balanced]; omega, rfl⟩
  · repeat (first | refine sp ?_ | (refine is_load ?_; refine ld ?_) | (refine is_store ?_; refine sr ?_) | (refine is_alloc ?_; refine al ?_) | (refine is_box ?_; refine bx ?_))
    exact go_ret1 rfl rfl ⟨_, rfl, by simp [balanced]; omega, rfl⟩

theorem mh_spec {keys : Int} : ∀ (f h : Nat), wt h - 1 ≤ keys → h ≤ mh keys f h ∧ mh keys f h ≤ h + f ∧ wt (mh keys f h) - 1 ≤ keys ∧ (mh keys f h < h + f → keys < wt (mh keys f h + 1) - 1)
  | 0, h, hk => ⟨Nat.le_refl _, Nat.le_refl _, hk, fun h => absurd h (by simp [mh])⟩
  | f+1, h, hk => by
    unfold mh
    split
    · rename_i h1
      have ⟨a, b, c, d⟩ := mh_spec f (h+1) h1
      exact ⟨by omega, by omega, c, fun e => d (by omega)⟩
    · rename_i h1
      exact ⟨by omega, by omega, hk, fun _ => by omega⟩

/-- The greatest height is the one whose least number of keys is at most so many. -/
theorem maxHeight_spec {n : Int} (h0 : 0 ≤ n) (h1 : n ≤ 2147483647) : ∃ h : Nat, maxHeight n = h ∧ h < 80 ∧ wt h - 1 ≤ n ∧ n < wt (h+1) - 1 := by
  have ⟨a, b, c, d⟩ := mh_spec (keys := n) 80 0 (by simp [wt]; exact h0)
  have e := maxHeight_eq (keys := n) (by omega) (by omega)
  refine ⟨mh n 80 0, e, ?_, c, ?_⟩
  · rcases Nat.lt_or_ge (mh n 80 0) 80 with h | h
    · exact h
    · have : mh n 80 0 = 80 := by omega
      rw [this, wt_80] at c; omega
  · refine d ?_
    rcases Nat.lt_or_ge (mh n 80 0) 80 with h | h
    · omega
    · have : mh n 80 0 = 80 := by omega
      rw [this, wt_80] at c; omega

theorem wt_lt {a b : Nat} (h : wt a < wt b) : a < b := by
  rcases Nat.lt_or_ge a b with h' | h'
  · exact h'
  · have := wt_mono h'; omega


end Go.Proofs.Ytfaeboamjfdjlaa
