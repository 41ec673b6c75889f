/-
  The weights of balanced trees; the reference's heights and balance.
-/
import Derived.Test.YtklgmomhdlhajaaSl
set_option linter.unusedVariables false
namespace Go.Proofs.Ytklgmomhdlhajaa
open Go.Vc

/-- The least weights of the balanced trees. -/
def wt : Nat → Int
  | 0 => 1
  | n+1 => wt n + (wt n + 2) / 3

theorem wt_pos : ∀ n, 1 ≤ wt n
  | 0 => by simp [wt]
  | n+1 => by have := wt_pos n; simp only [wt]; omega
theorem wt_le (n : Nat) : wt n ≤ wt (n+1) := by have := wt_pos n; simp only [wt]; omega
theorem wt_mono {a b : Nat} (h : a ≤ b) : wt a ≤ wt b := by
  induction h with
  | refl => exact Int.le_refl _
  | step _ ih => exact Int.le_trans ih (wt_le _)
theorem wt_80 : wt 80 = 20530950500 := by decide +kernel
theorem wt_bd {n : Nat} (h : n ≤ 80) : wt n ≤ 20530950500 := by have := wt_mono h; rw [wt_80] at this; exact this

def wCells (h : Nat) : List Value := (List.range 81).map fun j => .int .i64 (if j < h then wt j else 0)
def zCells : List Value := List.replicate 81 (.int .i64 0)

instance : Zero Try.prog 109 zCells := ⟨.agg zCells.toArray, fun _ => by kernel_rfl, rfl⟩
instance : Agg Try.prog 109 81 := agg_of Try.underlying109 rfl (by kernel_rfl)

theorem zset : zCells.set 0 (Value.int IntKind.i64 1) = wCells 1 := by
  rfl
theorem wlen (h : Nat) : (wCells h).length = 81 := by simp [wCells]
theorem wget {h j : Nat} (hj : j < h) (h81 : h ≤ 81) : (wCells h)[j]? = some (.int .i64 (wt j)) := by
  have : j < 81 := by omega
  simp [wCells, hj, this]
theorem wset (h : Nat) (hh : h < 81) : (wCells h).set h (.int .i64 (wt h)) = wCells (h+1) := by
  apply List.ext_getElem?
  intro i
  rw [List.getElem?_set]
  by_cases e : h = i
  · subst e; simp [hh, wCells]
  · rw [if_neg e]
    simp only [wCells, List.getElem?_map]
    by_cases hi : i < 81
    · simp only [List.getElem?_range hi, Option.map_some]
      by_cases e2 : i < h
      · simp [e2, show i < h + 1 by omega]
      · simp [e2, show ¬ i < h + 1 by omega]
    · simp [hi]

theorem pr_idxA {st : St} {x y : Operand} {b j : Nat} {i : Int} {kd : IntKind} (hx : evS st x = some (.pointer (some ⟨b, 0, none⟩))) (hy : evS st y = some (.int kd i)) (hi : i = (j : Int)) (hj : j < 81) :
    PureRun Try.prog st (.indexAddr 109 x y) (.pointer (some ⟨b, j, none⟩)) := by
  have h := pr_indexA (P := Try.prog) (t := 109) (e := 3) (m := 1) (by kernel_rfl) (by decide) hx hy hi hj
  simpa using h

theorem c_weights (w : World) :
    Calls Try.prog 71 [].toArray w (Ret fun v w' => v = .agg (wCells 81).toArray ∧ Ext w w') := by
  refine calls_go Try.func71 rfl Try.ntmps71 (Nat.le_of_ble_eq_true rfl) ?_
  repeat (first | refine sp ?_ | (refine is_load ?_; refine ld ?_) | (refine is_store ?_; refine sr ?_) | (refine is_alloc ?_; refine al ?_) | (refine is_box ?_; refine bx ?_))
  refine go_p rfl (pr_idxA (j := 0) rfl rfl rfl (by omega)) ?_
  refine go_store rfl rfl (st_at (by (repeat (first | assumption | (refine At.new' (by (first | omega | (simp; done) | (simp; omega))) _ _) | apply At.alloc | apply At.drewN | apply At.setRow | (apply At.setRow_neF; first | assumption | (apply Ne.symm; assumption) | omega) | (apply At.extF; assumption)))) (by decide) rfl) ?_
  rw [zset]
  repeat (first | refine sp ?_ | (refine is_load ?_; refine ld ?_) | (refine is_store ?_; refine sr ?_) | (refine is_alloc ?_; refine al ?_) | (refine is_box ?_; refine bx ?_))
  refine go_loop (G := Nat) [2] (fun h => [.int .i64 h]) [(0, .pointer (some ⟨w.heap.size, 0, none⟩)), (1, .pointer (some ⟨w.heap.size+1, 0, none⟩))] 
     (fun h w' => 1 ≤ h ∧ h ≤ 81 ∧ Ext w w' ∧ w'.heap.size = w.heap.size + 2 ∧ At w' w.heap.size zCells 109 ∧ At w' (w.heap.size+1) (wCells h) 109) (fun h => 81 - h) 1 rfl ⟨rfl, rfl, trivial⟩ ⟨by omega, by omega, ?_, ?_, ?_, ?_⟩ ?_
  · (repeat (first | exact Fr.refl _ _ | assumption | apply Fr.drewN | apply Fr.alloc | (apply Fr.transF; assumption) | (refine Fr.setRow ?_ _ (by first | exact Or.inr (by (first | omega | (simp; done) | (simp; omega))) | (exact Or.inl (by first | assumption | (simp; done)))))))
  · simp
  · (repeat (first | assumption | (refine At.new' (by (first | omega | (simp; done) | (simp; omega))) _ _) | apply At.alloc | apply At.drewN | apply At.setRow | (apply At.setRow_neF; first | assumption | (apply Ne.symm; assumption) | omega) | (apply At.extF; assumption)))
  · (repeat (first | assumption | (refine At.new' (by (first | omega | (simp; done) | (simp; omega))) _ _) | apply At.alloc | apply At.drewN | apply At.setRow | (apply At.setRow_neF; first | assumption | (apply Ne.symm; assumption) | omega) | (apply At.extF; assumption)))
  rintro h w1 ⟨h1, h2, hx, hsz, ha0, ha⟩
  by_cases hlt : h ≤ 80
  · repeat (first | refine sp ?_ | (refine is_load ?_; refine ld ?_) | (refine is_store ?_; refine sr ?_) | (refine is_alloc ?_; refine al ?_) | (refine is_box ?_; refine bx ?_))
    have hc := wget (show h - 1 < h by omega) (by omega)
    have hcell := ha.cell hc
    have hp := wt_pos (h-1)
    have hb := wt_bd (show h - 1 ≤ 80 by omega)
    (refine go_draw (fun w' => w'.cell? ⟨w.heap.size+1, h-1, none⟩ = some (.int .i64 (wt (h-1)))) Try.follows (by kernel_rfl) (by kernel_rfl) ?_ ?_)
    · exact hcell
    repeat (first | refine sp ?_ | (refine is_load ?_; refine ld ?_) | (refine is_store ?_; refine sr ?_) | (refine is_alloc ?_; refine al ?_) | (refine is_box ?_; refine bx ?_) | (refine isl_load ?_; refine ldl ?_) | (refine isl_store ?_; refine srl ?_) | (refine isl_alloc ?_; refine all' ?_) | (refine isl_box ?_; refine bxl ?_) | refine dr Try.follows ?_)
    refine gol_p rfl rfl (pr_idxA (j := h-1) rfl rfl (by omega) (by omega)) ?_
    repeat (first | refine sp ?_ | (refine is_load ?_; refine ld ?_) | (refine is_store ?_; refine sr ?_) | (refine is_alloc ?_; refine al ?_) | (refine is_box ?_; refine bx ?_) | (refine isl_load ?_; refine ldl ?_) | (refine isl_store ?_; refine srl ?_) | (refine isl_alloc ?_; refine all' ?_) | (refine isl_box ?_; refine bxl ?_) | refine dr Try.follows ?_)
    refine gol_p rfl rfl (pr_idxA (j := h-1) rfl rfl (by omega) (by omega)) ?_
    repeat (first | refine sp ?_ | (refine is_load ?_; refine ld ?_) | (refine is_store ?_; refine sr ?_) | (refine is_alloc ?_; refine al ?_) | (refine is_box ?_; refine bx ?_) | (refine isl_load ?_; refine ldl ?_) | (refine isl_store ?_; refine srl ?_) | (refine isl_alloc ?_; refine all' ?_) | (refine isl_box ?_; refine bxl ?_) | refine dr Try.follows ?_)
    refine gol_p rfl rfl (pr_idxA (j := h) rfl rfl (by omega) (by omega)) ?_
    have hw : wt (h-1) + (wt (h-1) + 2) / 3 = wt h := by
      obtain ⟨m, rfl⟩ : ∃ m, h = m + 1 := ⟨h-1, by omega⟩
      rfl
    refine gol_store rfl rfl (st_at (by (repeat (first | assumption | (refine At.new' (by (first | omega | (simp; done) | (simp; omega))) _ _) | apply At.alloc | apply At.drewN | apply At.setRow | (apply At.setRow_neF; first | assumption | (apply Ne.symm; assumption) | omega) | (apply At.extF; assumption)))) (by rw [wlen]; omega) rfl) ?_ ?_
    · rw [hw, wset _ (by omega)]
      exact (At.setRow (ha.drewN 1) _).cell (wget (by omega) (by omega))
    rw [hw, wset _ (by omega)]
    repeat (first | refine sp ?_ | (refine is_load ?_; refine ld ?_) | (refine is_store ?_; refine sr ?_) | (refine is_alloc ?_; refine al ?_) | (refine is_box ?_; refine bx ?_) | (refine isl_load ?_; refine ldl ?_) | (refine isl_store ?_; refine srl ?_) | (refine isl_alloc ?_; refine all' ?_) | (refine isl_box ?_; refine bxl ?_) | refine dr Try.follows ?_)
    refine go_stop (h+1) rfl ⟨rfl, rfl, trivial⟩ ⟨by omega, by omega, ?_, ?_, ?_, ?_⟩ (by show 81 - (h+1) < 81 - h; omega)
    · (repeat (first | exact Fr.refl _ _ | assumption | apply Fr.drewN | apply Fr.alloc | (apply Fr.transF; assumption) | (refine Fr.setRow ?_ _ (by first | exact Or.inr (by (first | omega | (simp; done) | (simp; omega))) | (exact Or.inl (by first | assumption | (simp; done)))))))
    · simp [hsz]
    · (repeat (first | assumption | (refine At.new' (by (first | omega | (simp; done) | (simp; omega))) _ _) | apply At.alloc | apply At.drewN | apply At.setRow | (apply At.setRow_neF; first | assumption | (apply Ne.symm; assumption) | omega) | (apply At.extF; assumption)))
    · (repeat (first | assumption | (refine At.new' (by (first | omega | (simp; done) | (simp; omega))) _ _) | apply At.alloc | apply At.drewN | apply At.setRow | (apply At.setRow_neF; first | assumption | (apply Ne.symm; assumption) | omega) | (apply At.extF; assumption)))
  · obtain rfl : h = 81 := by omega
    repeat (refine sp ?_)
    refine go_load rfl rfl (ld_agg (l := wCells 81) ha rfl (by decide) (fun j u h => by simpa using h)) ?_
    refine go_store rfl rfl (st_agg ha0 rfl (by decide) (by decide) (by intro v hv; simp [wCells] at hv; obtain ⟨_, _, rfl⟩ := hv; rfl)) ?_
    repeat (refine sp ?_)
    refine go_ret1 rfl ⟨_, rfl, (ld_agg (l := wCells 81) (by (repeat (first | assumption | (refine At.new' (by (first | omega | (simp; done) | (simp; omega))) _ _) | apply At.alloc | apply At.drewN | apply At.setRow | (apply At.setRow_neF; first | assumption | (apply Ne.symm; assumption) | omega) | (apply At.extF; assumption)))) rfl (by decide) ?_).run⟩ ⟨_, rfl, rfl, ?_⟩
    · intro j u h
      have : splice zCells 0 (wCells 81) = wCells 81 := by simp [splice, wlen]; simp [zCells]
      rw [this]; simpa using h
    · (repeat (first | exact Fr.refl _ _ | assumption | apply Fr.drewN | apply Fr.alloc | (apply Fr.transF; assumption) | (refine Fr.setRow ?_ _ (by first | exact Or.inr (by (first | omega | (simp; done) | (simp; omega))) | (exact Or.inl (by first | assumption | (simp; done)))))))

/-- The greatest height of a balanced tree with so many keys, from 'h' on. -/
def mh (keys : Int) : Nat → Nat → Nat
  | 0, h => h
  | f+1, h => if wt (h+1) - 1 ≤ keys then mh keys f (h+1) else h
def maxHeight (keys : Int) : Int := if keys < 0 ∨ 2147483647 < keys then -1 else (mh keys 80 0 : Nat)

theorem maxHeight_eq {keys : Int} (h1 : ¬ keys < 0) (h2 : ¬ 2147483647 < keys) : maxHeight keys = (mh keys 80 0 : Nat) := by
  unfold maxHeight; rw [if_neg (by omega)]

theorem mh_step {keys : Int} {h : Nat} (hh : h < 80) (hk : wt (h+1) - 1 ≤ keys) : mh keys (80 - h) h = mh keys (80 - (h+1)) (h+1) := by
  rw [show 80 - h = (80 - (h+1)) + 1 by omega, mh, if_pos hk]
theorem mh_stop {keys : Int} {h : Nat} (hh : h < 80) (hk : ¬ wt (h+1) - 1 ≤ keys) : mh keys (80 - h) h = h := by
  rw [show 80 - h = (80 - (h+1)) + 1 by omega, mh, if_neg hk]

set_option maxHeartbeats 1000000 in
theorem c_refMaxHeight (keys : Int) (w : World) :
    Calls Try.prog 48 [.int .i64 keys].toArray w (Ret fun v w' => v = .int .i64 (maxHeight keys) ∧ Ext w w') := by
  refine calls_go Try.func48 rfl Try.ntmps48 (Nat.le_of_ble_eq_true rfl) ?_
  by_cases h1 : keys < 0
  · repeat (first | refine sp ?_ | (refine is_load ?_; refine ld ?_) | (refine is_store ?_; refine sr ?_) | (refine is_alloc ?_; refine al ?_) | (refine is_box ?_; refine bx ?_))
    refine go_ret1 rfl rfl ⟨_, rfl, ?_, Fr.refl _ _⟩
    simp [maxHeight, h1]
  by_cases h2 : 2147483647 < keys
  · repeat (first | refine sp ?_ | (refine is_load ?_; refine ld ?_) | (refine is_store ?_; refine sr ?_) | (refine is_alloc ?_; refine al ?_) | (refine is_box ?_; refine bx ?_))
    refine go_ret1 rfl rfl ⟨_, rfl, ?_, Fr.refl _ _⟩
    simp [maxHeight, h2]
  repeat (first | refine sp ?_ | (refine is_load ?_; refine ld ?_) | (refine is_store ?_; refine sr ?_) | (refine is_alloc ?_; refine al ?_) | (refine is_box ?_; refine bx ?_))
  refine go_call rfl rfl (c_weights w) ?_
  rintro v w1 ⟨rfl, hx⟩
  repeat (refine sp ?_)
  refine is_alloc ?_; refine al ?_
  repeat (refine sp ?_)
  refine go_store rfl rfl (st_agg (by (repeat (first | assumption | (refine At.new' (by (first | omega | (simp; done) | (simp; omega))) _ _) | apply At.alloc | apply At.drewN | apply At.setRow | (apply At.setRow_neF; first | assumption | (apply Ne.symm; assumption) | omega) | (apply At.extF; assumption)))) rfl (by decide) (by decide) (by intro v hv; simp [wCells] at hv; obtain ⟨_, _, rfl⟩ := hv; rfl)) ?_
  have hs : splice zCells 0 (wCells 81) = wCells 81 := by simp [splice, wlen]; simp [zCells]
  rw [hs]
  repeat (refine sp ?_)
  refine go_loop (G := Nat) [4] (fun j => [.int .i64 j]) [(0, .int .i64 keys), (3, .pointer (some ⟨w1.heap.size, 0, none⟩))] (fun j w' => j ≤ 80 ∧ mh keys (80 - j) j = mh keys 80 0 ∧ Ext w w' ∧ At w' w1.heap.size (wCells 81) 109) (fun j => 80 - j) 0 rfl ⟨rfl, rfl, trivial⟩ ⟨by omega, rfl, ?_, ?_⟩ ?_
  · have := hx.size
    (repeat (first | exact Fr.refl _ _ | assumption | apply Fr.drewN | apply Fr.alloc | (apply Fr.transF; assumption) | (refine Fr.setRow ?_ _ (by first | exact Or.inr (by (first | omega | (simp; done) | (simp; omega))) | (exact Or.inl (by first | assumption | (simp; done)))))))
  · (repeat (first | assumption | (refine At.new' (by (first | omega | (simp; done) | (simp; omega))) _ _) | apply At.alloc | apply At.drewN | apply At.setRow | (apply At.setRow_neF; first | assumption | (apply Ne.symm; assumption) | omega) | (apply At.extF; assumption)))
  rintro j w2 ⟨hj, hm, hx2, ha⟩
  have hp := wt_pos j
  by_cases hlt : j < 80
  · have hb := wt_bd (show j + 1 ≤ 80 by omega)
    have hc := ha.cell (wget (show j + 1 < 81 by omega) (by omega))
    have hp1 := wt_pos (j+1)
    by_cases hk : wt (j+1) - 1 ≤ keys
    · have hm' := mh_step hlt hk
      repeat (first | refine sp ?_ | (refine is_load ?_; refine ld ?_) | (refine is_store ?_; refine sr ?_) | (refine is_alloc ?_; refine al ?_) | (refine is_box ?_; refine bx ?_))
      refine go_p rfl (pr_idxA (j := j+1) rfl rfl (by omega) (by omega)) ?_
      repeat (first | refine sp ?_ | (refine is_load ?_; refine ld ?_) | (refine is_store ?_; refine sr ?_) | (refine is_alloc ?_; refine al ?_) | (refine is_box ?_; refine bx ?_))
      exact go_stop (j+1) rfl ⟨rfl, rfl, trivial⟩ ⟨by omega, by rw [← hm']; exact hm, hx2, ha⟩ (by show 80 - (j+1) < 80 - j; omega)
    · have hm' := mh_stop hlt hk
      repeat (first | refine sp ?_ | (refine is_load ?_; refine ld ?_) | (refine is_store ?_; refine sr ?_) | (refine is_alloc ?_; refine al ?_) | (refine is_box ?_; refine bx ?_))
      refine go_p rfl (pr_idxA (j := j+1) rfl rfl (by omega) (by omega)) ?_
      repeat (first | refine sp ?_ | (refine is_load ?_; refine ld ?_) | (refine is_store ?_; refine sr ?_) | (refine is_alloc ?_; refine al ?_) | (refine is_box ?_; refine bx ?_))
      refine go_ret1 rfl rfl ⟨_, rfl, ?_, hx2⟩
      rw [maxHeight_eq h1 h2, ← hm, hm']
  · obtain rfl : j = 80 := by omega
    repeat (first | refine sp ?_ | (refine is_load ?_; refine ld ?_) | (refine is_store ?_; refine sr ?_) | (refine is_alloc ?_; refine al ?_) | (refine is_box ?_; refine bx ?_))
    refine go_ret1 rfl rfl ⟨_, rfl, ?_, hx2⟩
    rw [maxHeight_eq h1 h2, ← hm]; rfl

def balanced (l r : Int) : Bool := decide (0 ≤ l ∧ 0 ≤ r ∧ l ≤ 2147483647 ∧ r ≤ 2147483647 ∧ l + 1 ≤ 3 * (r + 1) ∧ r + 1 ≤ 3 * (l + 1))

theorem c_refBalanced (l r : Int) (w : World) :
    Calls Try.prog 81 [.int .i64 l, .int .i64 r].toArray w (Ret fun v w' => v = .bool (balanced l r) ∧ w' = w) := by
  refine calls_go Try.func81 rfl Try.ntmps81 (Nat.le_of_ble_eq_true rfl) ?_
  by_cases h1 : l < 0
  · repeat (first | refine sp ?_ | (refine is_load ?_; refine ld ?_) | (refine is_store ?_; refine sr ?_) | (refine is_alloc ?_; refine al ?_) | (refine is_box ?_; refine bx ?_))
    exact go_ret1 rfl rfl ⟨_, rfl, by simp [balanced]; omega, rfl⟩
  by_cases h3 : 2147483647 < l
  · repeat (first | refine sp ?_ | (refine is_load ?_; refine ld ?_) | (refine is_store ?_; refine sr ?_) | (refine is_alloc ?_; refine al ?_) | (refine is_box ?_; refine bx ?_))
    exact go_ret1 rfl rfl ⟨_, rfl, by simp [balanced]; omega, rfl⟩
  by_cases h2 : r < 0
  · repeat (first | refine sp ?_ | (refine is_load ?_; refine ld ?_) | (refine is_store ?_; refine sr ?_) | (refine is_alloc ?_; refine al ?_) | (refine is_box ?_; refine bx ?_))
    exact go_ret1 rfl rfl ⟨_, rfl, by simp [balanced]; omega, rfl⟩
  by_cases h4 : 2147483647 < r
  · repeat (first | refine sp ?_ | (refine is_load ?_; refine ld ?_) | (refine is_store ?_; refine sr ?_) | (refine is_alloc ?_; refine al ?_) | (refine is_box ?_; refine bx ?_))
    exact go_ret1 rfl rfl ⟨_, rfl, by simp [balanced]; omega, rfl⟩
  by_cases h5 : l + 1 ≤ 3 * (r + 1)
  · by_cases h6 : r + 1 ≤ 3 * (l + 1)
    · repeat (first | refine sp ?_ | (refine is_load ?_; refine ld ?_) | (refine is_store ?_; refine sr ?_) | (refine is_alloc ?_; refine al ?_) | (refine is_box ?_; refine bx ?_))
      exact go_ret1 rfl rfl ⟨_, rfl, by simp [balanced]; omega, rfl⟩
    · repeat (first | refine sp ?_ | (refine is_load ?_; refine ld ?_) | (refine is_store ?_; refine sr ?_) | (refine is_alloc ?_; refine al ?_) | (refine is_box ?_; refine bx ?_))
      exact go_ret1 rfl rfl ⟨_, rfl, by simp [balanced]; omega, rfl⟩
  · repeat (first | refine sp ?_ | (refine is_load ?_; refine ld ?_) | (refine is_store ?_; refine sr ?_) | (refine is_alloc ?_; refine al ?_) | (refine is_box ?_; refine bx ?_))
    exact go_ret1 rfl rfl ⟨_, rfl, by simp [balanced]; omega, rfl⟩

theorem mh_spec {keys : Int} : ∀ (f h : Nat), wt h - 1 ≤ keys → h ≤ mh keys f h ∧ mh keys f h ≤ h + f ∧ wt (mh keys f h) - 1 ≤ keys ∧ (mh keys f h < h + f → keys < wt (mh keys f h + 1) - 1)
  | 0, h, hk => ⟨Nat.le_refl _, Nat.le_refl _, hk, fun h => absurd h (by simp [mh])⟩
  | f+1, h, hk => by
    unfold mh
    split
    · rename_i h1
      have ⟨a, b, c, d⟩ := mh_spec f (h+1) h1
      exact ⟨by omega, by omega, c, fun e => d (by omega)⟩
    · rename_i h1
      exact ⟨by omega, by omega, hk, fun _ => by omega⟩

/-- The greatest height is the one whose least number of keys is at most so many. -/
theorem maxHeight_spec {n : Int} (h0 : 0 ≤ n) (h1 : n ≤ 2147483647) : ∃ h : Nat, maxHeight n = h ∧ h < 80 ∧ wt h - 1 ≤ n ∧ n < wt (h+1) - 1 := by
  have ⟨a, b, c, d⟩ := mh_spec (keys := n) 80 0 (by simp [wt]; exact h0)
  have e := maxHeight_eq (keys := n) (by omega) (by omega)
  refine ⟨mh n 80 0, e, ?_, c, ?_⟩
  · rcases Nat.lt_or_ge (mh n 80 0) 80 with h | h
    · exact h
    · have : mh n 80 0 = 80 := by omega
      rw [this, wt_80] at c; omega
  · refine d ?_
    rcases Nat.lt_or_ge (mh n 80 0) 80 with h | h
    · omega
    · have : mh n 80 0 = 80 := by omega
      rw [this, wt_80] at c; omega

theorem wt_lt {a b : Nat} (h : wt a < wt b) : a < b := by
  rcases Nat.lt_or_ge a b with h' | h'
  · exact h'
  · have := wt_mono h'; omega


end Go.Proofs.Ytklgmomhdlhajaa
