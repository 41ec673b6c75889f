/-
  Parts of lists of entries.
-/
import Derived.Test.YtgafapifpoinlaaTa
set_option linter.unusedVariables false
namespace Go.Proofs.Ytgafapifpoinlaa
open Go.Vc

set_option maxHeartbeats 2000000 in
theorem c_Between (w : World) (hi : Nat) (lv : Value) (l : List (Int × Int)) (x y : Int) (hr : RdU w hi lv entC l) (hh : hi ≤ w.heap.size) (hlen : l.length ≤ 10000) :
    Calls Try.prog 52 [lv, .int .i64 x, .int .i64 y].toArray w (Ret fun v w' => OwnE w' w.heap.size v (l.filter fun e => decide (x ≤ e.1 ∧ e.1 ≤ y)) ∧ Ext w w') := by
  have hr0 := hr
  obtain ⟨sa, cap, rfl, hlc, _, _⟩ := hr0
  refine calls_go Try.func52 rfl Try.ntmps52 (Nat.le_of_ble_eq_true rfl) ?_
  repeat (first | refine sp ?_ | (refine is_load ?_; refine ld ?_) | (refine is_store ?_; refine sr ?_) | (refine is_alloc ?_; refine al ?_) | (refine is_box ?_; refine bx ?_) | (refine isl_load ?_; refine ldl ?_) | (refine isl_store ?_; refine srl ?_) | (refine isl_alloc ?_; refine all' ?_) | (refine isl_box ?_; refine bxl ?_) | refine dr Try.follows ?_)
  refine go_loop (G := Nat × Value) [7, 8] (fun ⟨k, v⟩ => [v, .int .i64 (k : Int)]) [(0, .slice sa l.length cap), (1, .int .i64 x), (2, .int .i64 y)]
    (fun ⟨k, v⟩ w' => k ≤ l.length ∧ Ext w w' ∧ OwnE w' w.heap.size v ((l.take k).filter fun e => decide (x ≤ e.1 ∧ e.1 ≤ y)) ∧ w.heap.size ≤ w'.heap.size)
    (fun g => l.length - g.1) (0, .slice none 0 0) rfl ⟨rfl, rfl, rfl, trivial⟩ ⟨by omega, by (repeat (first | exact Fr.refl _ _ | assumption | apply Fr.drewN | apply Fr.alloc | (apply Fr.transF; assumption) | (refine Fr.setRow ?_ _ (by first | exact Or.inr (by (first | omega | (simp; done) | (simp; omega))) | (exact Or.inl (by first | assumption | (simp; done))))))), Own.nil _ _ _ _, by simp⟩ ?_
  rintro ⟨k, v⟩ w1 ⟨hk, hx1, ho1, hl1⟩
  by_cases hlt : k < l.length
  · obtain ⟨b, o, es, _, hcell⟩ := (hr.ext hx1).at (m := 2) (fun _ => rfl) (by omega) hlt
    subst es
    have e0 := hcell 0 (.int .i64 l[k].1) rfl
    have hts : l.take (k + 1) = l.take k ++ [l[k]] := List.take_succ_eq_append_getElem hlt
    have htl : ((l.take k).filter fun e => decide (x ≤ e.1 ∧ e.1 ≤ y)).length ≤ k := by
      have := List.length_filter_le (fun e : Int × Int => decide (x ≤ e.1 ∧ e.1 ≤ y)) (l.take k)
      have h2 : (l.take k).length ≤ k := by rw [List.length_take]; omega
      exact Nat.le_trans this h2
    generalize l[k] = e at *
    have hfs : (l.take (k + 1)).filter (fun e => decide (x ≤ e.1 ∧ e.1 ≤ y)) = (l.take k).filter (fun e => decide (x ≤ e.1 ∧ e.1 ≤ y)) ++ (if x ≤ e.1 ∧ e.1 ≤ y then [e] else []) := by
      rw [hts, List.filter_append]
      congr 1
      by_cases h : x ≤ e.1 ∧ e.1 ≤ y <;> simp [h]
    unfold OwnE at ho1
    obtain ⟨a, haa⟩ : ∃ a, (l.take k).filter (fun e => decide (x ≤ e.1 ∧ e.1 ≤ y)) = a := ⟨_, rfl⟩
    rw [haa] at ho1 hfs htl
    obtain ⟨sv, cv, rfl, _, _⟩ := ho1.slice
    by_cases h1 : x ≤ e.1
    · by_cases h2 : e.1 ≤ y
      · rw [if_pos ⟨h1, h2⟩] at hfs
        repeat (first | refine sp ?_ | (refine is_load ?_; refine ld ?_) | (refine is_store ?_; refine sr ?_) | (refine is_alloc ?_; refine al ?_) | (refine is_box ?_; refine bx ?_) | (refine isl_load ?_; refine ldl ?_) | (refine isl_store ?_; refine srl ?_) | (refine isl_alloc ?_; refine all' ?_) | (refine isl_box ?_; refine bxl ?_) | refine dr Try.follows ?_)
        refine go_load (v := .agg (entC e).toArray) rfl rfl (ld_cells (m := 2) rfl (by decide) fun j u hj => by rw [addr_add]; exact hcell j u hj) ?_
        unfold entC
        repeat (first | refine sp ?_ | (refine is_load ?_; refine ld ?_) | (refine is_store ?_; refine sr ?_) | (refine is_alloc ?_; refine al ?_) | (refine is_box ?_; refine bx ?_) | (refine isl_load ?_; refine ldl ?_) | (refine isl_store ?_; refine srl ?_) | (refine isl_alloc ?_; refine all' ?_) | (refine isl_box ?_; refine bxl ?_) | refine dr Try.follows ?_)
        refine go_pushG (l := entC e) (by decide) rfl rfl rfl rfl ho1 rfl (by simp [Value.oneCell']) (by omega) (by simp [maxLen]; omega) (by omega) (by omega) ?_
        intro v2 w2 ho2 hg2 _
        have hx2 : Ext w w2 := ext_grown hx1 (by omega) ho1 hg2
        have hsz2 := hg2.size
        have ho3 : OwnE w2 w.heap.size v2 (a ++ [e]) := by unfold OwnE; rw [List.flatMap_append, List.length_append]; simpa using ho2
        unfold OwnE at ho3
        obtain ⟨sv2, cv2, rfl, _, _⟩ := ho3.slice
        repeat (first | refine sp ?_ | (refine is_load ?_; refine ld ?_) | (refine is_store ?_; refine sr ?_) | (refine is_alloc ?_; refine al ?_) | (refine is_box ?_; refine bx ?_) | (refine isl_load ?_; refine ldl ?_) | (refine isl_store ?_; refine srl ?_) | (refine isl_alloc ?_; refine all' ?_) | (refine isl_box ?_; refine bxl ?_) | refine dr Try.follows ?_)
        refine go_stop (G := Nat × Value) (k + 1, _) rfl ⟨rfl, rfl, rfl, trivial⟩ ⟨hlt, hx2, by rw [hfs]; exact ho3, by omega⟩ (by show l.length - (k + 1) < l.length - k; omega)
      · rw [if_neg (fun h => h2 h.2), List.append_nil] at hfs
        repeat (first | refine sp ?_ | (refine is_load ?_; refine ld ?_) | (refine is_store ?_; refine sr ?_) | (refine is_alloc ?_; refine al ?_) | (refine is_box ?_; refine bx ?_) | (refine isl_load ?_; refine ldl ?_) | (refine isl_store ?_; refine srl ?_) | (refine isl_alloc ?_; refine all' ?_) | (refine isl_box ?_; refine bxl ?_) | refine dr Try.follows ?_)
        refine go_stop (G := Nat × Value) (k + 1, _) rfl ⟨rfl, rfl, rfl, trivial⟩ ⟨hlt, hx1, by rw [hfs]; exact ho1, by omega⟩ (by show l.length - (k + 1) < l.length - k; omega)
    · rw [if_neg (fun h => h1 h.1), List.append_nil] at hfs
      repeat (first | refine sp ?_ | (refine is_load ?_; refine ld ?_) | (refine is_store ?_; refine sr ?_) | (refine is_alloc ?_; refine al ?_) | (refine is_box ?_; refine bx ?_) | (refine isl_load ?_; refine ldl ?_) | (refine isl_store ?_; refine srl ?_) | (refine isl_alloc ?_; refine all' ?_) | (refine isl_box ?_; refine bxl ?_) | refine dr Try.follows ?_)
      refine go_stop (G := Nat × Value) (k + 1, _) rfl ⟨rfl, rfl, rfl, trivial⟩ ⟨hlt, hx1, by rw [hfs]; exact ho1, by omega⟩ (by show l.length - (k + 1) < l.length - k; omega)
  · repeat (first | refine sp ?_ | (refine is_load ?_; refine ld ?_) | (refine is_store ?_; refine sr ?_) | (refine is_alloc ?_; refine al ?_) | (refine is_box ?_; refine bx ?_) | (refine isl_load ?_; refine ldl ?_) | (refine isl_store ?_; refine srl ?_) | (refine isl_alloc ?_; refine all' ?_) | (refine isl_box ?_; refine bxl ?_) | refine dr Try.follows ?_)
    refine go_ret1 rfl rfl ⟨_, rfl, ?_, hx1⟩
    rw [List.take_of_length_le (by omega)] at ho1
    exact ho1

end Go.Proofs.Ytgafapifpoinlaa
