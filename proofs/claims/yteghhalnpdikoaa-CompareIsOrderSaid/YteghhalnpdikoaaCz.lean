/-
  Equal, Subset, Disjoint and Compare of two trees.
-/
import Derived.Test.YteghhalnpdikoaaCy
set_option linter.unusedVariables false
namespace Go.Proofs.Yteghhalnpdikoaa
open Go.Vc

theorem c_yes (w : World) : Calls Try.prog 49 [].toArray w (Ret fun r w' => r = .bool true ∧ w' = w) := by
  refine calls_go Try.func49 rfl Try.ntmps49 (Nat.le_of_ble_eq_true rfl) ?_
  repeat (first | refine sp ?_ | (refine is_load ?_; refine ld ?_) | (refine is_store ?_; refine sr ?_) | (refine is_alloc ?_; refine al ?_) | (refine is_box ?_; refine bx ?_) | (refine isl_load ?_; refine ldl ?_) | (refine isl_store ?_; refine srl ?_) | (refine isl_alloc ?_; refine all' ?_) | (refine isl_box ?_; refine bxl ?_))
  exact go_ret1 rfl rfl ⟨_, rfl, rfl, rfl⟩

theorem c_dif (w : World) (k a b : Int) (b1 b2 m1 m2 : Bool) :
    Calls Try.prog 51 [Value.agg ⟨[.int .i64 k, .int .i64 a, .int .i64 b, .bool b1, .bool b2, .bool m1, .bool m2]⟩].toArray w (Ret fun r w' => r = .bool (!b1 || (!b2 || decide (a ≠ b))) ∧ Ext w w') := by
  refine calls_go Try.func51 rfl Try.ntmps51 (Nat.le_of_ble_eq_true rfl) ?_
  cases b1
  · repeat (first | refine sp ?_ | (refine is_load ?_; refine ld ?_) | (refine is_store ?_; refine sr ?_) | (refine is_alloc ?_; refine al ?_) | (refine is_box ?_; refine bx ?_) | (refine isl_load ?_; refine ldl ?_) | (refine isl_store ?_; refine srl ?_) | (refine isl_alloc ?_; refine all' ?_) | (refine isl_box ?_; refine bxl ?_))
    exact go_ret1 rfl rfl ⟨_, rfl, rfl, by (repeat (first | exact Fr.refl _ _ | assumption | apply Fr.drewN | apply Fr.alloc | (apply Fr.transF; assumption) | (refine Fr.setRow ?_ _ (by first | exact Or.inr (by (first | omega | (simp; done) | (simp; omega))) | (exact Or.inl (by first | assumption | (simp; done)))))))⟩
  · cases b2
    · repeat (first | refine sp ?_ | (refine is_load ?_; refine ld ?_) | (refine is_store ?_; refine sr ?_) | (refine is_alloc ?_; refine al ?_) | (refine is_box ?_; refine bx ?_) | (refine isl_load ?_; refine ldl ?_) | (refine isl_store ?_; refine srl ?_) | (refine isl_alloc ?_; refine all' ?_) | (refine isl_box ?_; refine bxl ?_))
      exact go_ret1 rfl rfl ⟨_, rfl, rfl, by (repeat (first | exact Fr.refl _ _ | assumption | apply Fr.drewN | apply Fr.alloc | (apply Fr.transF; assumption) | (refine Fr.setRow ?_ _ (by first | exact Or.inr (by (first | omega | (simp; done) | (simp; omega))) | (exact Or.inl (by first | assumption | (simp; done)))))))⟩
    · by_cases h : a = b
      · rw [decide_eq_false (show ¬ a ≠ b from fun e => e h)]
        repeat (first | refine sp ?_ | (refine is_load ?_; refine ld ?_) | (refine is_store ?_; refine sr ?_) | (refine is_alloc ?_; refine al ?_) | (refine is_box ?_; refine bx ?_) | (refine isl_load ?_; refine ldl ?_) | (refine isl_store ?_; refine srl ?_) | (refine isl_alloc ?_; refine all' ?_) | (refine isl_box ?_; refine bxl ?_))
        exact go_ret1 rfl rfl ⟨_, rfl, rfl, by (repeat (first | exact Fr.refl _ _ | assumption | apply Fr.drewN | apply Fr.alloc | (apply Fr.transF; assumption) | (refine Fr.setRow ?_ _ (by first | exact Or.inr (by (first | omega | (simp; done) | (simp; omega))) | (exact Or.inl (by first | assumption | (simp; done)))))))⟩
      · rw [decide_eq_true (show a ≠ b from h)]
        repeat (first | refine sp ?_ | (refine is_load ?_; refine ld ?_) | (refine is_store ?_; refine sr ?_) | (refine is_alloc ?_; refine al ?_) | (refine is_box ?_; refine bx ?_) | (refine isl_load ?_; refine ldl ?_) | (refine isl_store ?_; refine srl ?_) | (refine isl_alloc ?_; refine all' ?_) | (refine isl_box ?_; refine bxl ?_))
        exact go_ret1 rfl rfl ⟨_, rfl, rfl, by (repeat (first | exact Fr.refl _ _ | assumption | apply Fr.drewN | apply Fr.alloc | (apply Fr.transF; assumption) | (refine Fr.setRow ?_ _ (by first | exact Or.inr (by (first | omega | (simp; done) | (simp; omega))) | (exact Or.inl (by first | assumption | (simp; done)))))))⟩

theorem c_dir (w : World) (k a b : Int) (b1 b2 m1 m2 : Bool) :
    Calls Try.prog 52 [Value.agg ⟨[.int .i64 k, .int .i64 a, .int .i64 b, .bool b1, .bool b2, .bool m1, .bool m2]⟩].toArray w (Ret fun r w' => r = .int .i64 (if (if m1 = false then true else if m2 = false then false else if b1 ≠ b2 then b1 else decide (a < b)) = true then -1 else 1) ∧ Ext w w') := by
  refine calls_go Try.func52 rfl Try.ntmps52 (Nat.le_of_ble_eq_true rfl) ?_
  by_cases h : a < b
  · rw [decide_eq_true h]
    cases m1
    · repeat (first | refine sp ?_ | (refine is_load ?_; refine ld ?_) | (refine is_store ?_; refine sr ?_) | (refine is_alloc ?_; refine al ?_) | (refine is_box ?_; refine bx ?_) | (refine isl_load ?_; refine ldl ?_) | (refine isl_store ?_; refine srl ?_) | (refine isl_alloc ?_; refine all' ?_) | (refine isl_box ?_; refine bxl ?_))
      exact go_ret1 rfl rfl ⟨_, rfl, rfl, by (repeat (first | exact Fr.refl _ _ | assumption | apply Fr.drewN | apply Fr.alloc | (apply Fr.transF; assumption) | (refine Fr.setRow ?_ _ (by first | exact Or.inr (by (first | omega | (simp; done) | (simp; omega))) | (exact Or.inl (by first | assumption | (simp; done)))))))⟩
    · cases m2
      · repeat (first | refine sp ?_ | (refine is_load ?_; refine ld ?_) | (refine is_store ?_; refine sr ?_) | (refine is_alloc ?_; refine al ?_) | (refine is_box ?_; refine bx ?_) | (refine isl_load ?_; refine ldl ?_) | (refine isl_store ?_; refine srl ?_) | (refine isl_alloc ?_; refine all' ?_) | (refine isl_box ?_; refine bxl ?_))
        exact go_ret1 rfl rfl ⟨_, rfl, rfl, by (repeat (first | exact Fr.refl _ _ | assumption | apply Fr.drewN | apply Fr.alloc | (apply Fr.transF; assumption) | (refine Fr.setRow ?_ _ (by first | exact Or.inr (by (first | omega | (simp; done) | (simp; omega))) | (exact Or.inl (by first | assumption | (simp; done)))))))⟩
      · cases b1 <;> cases b2
        · repeat (first | refine sp ?_ | (refine is_load ?_; refine ld ?_) | (refine is_store ?_; refine sr ?_) | (refine is_alloc ?_; refine al ?_) | (refine is_box ?_; refine bx ?_) | (refine isl_load ?_; refine ldl ?_) | (refine isl_store ?_; refine srl ?_) | (refine isl_alloc ?_; refine all' ?_) | (refine isl_box ?_; refine bxl ?_))
          exact go_ret1 rfl rfl ⟨_, rfl, rfl, by (repeat (first | exact Fr.refl _ _ | assumption | apply Fr.drewN | apply Fr.alloc | (apply Fr.transF; assumption) | (refine Fr.setRow ?_ _ (by first | exact Or.inr (by (first | omega | (simp; done) | (simp; omega))) | (exact Or.inl (by first | assumption | (simp; done)))))))⟩
        · repeat (first | refine sp ?_ | (refine is_load ?_; refine ld ?_) | (refine is_store ?_; refine sr ?_) | (refine is_alloc ?_; refine al ?_) | (refine is_box ?_; refine bx ?_) | (refine isl_load ?_; refine ldl ?_) | (refine isl_store ?_; refine srl ?_) | (refine isl_alloc ?_; refine all' ?_) | (refine isl_box ?_; refine bxl ?_))
          exact go_ret1 rfl rfl ⟨_, rfl, rfl, by (repeat (first | exact Fr.refl _ _ | assumption | apply Fr.drewN | apply Fr.alloc | (apply Fr.transF; assumption) | (refine Fr.setRow ?_ _ (by first | exact Or.inr (by (first | omega | (simp; done) | (simp; omega))) | (exact Or.inl (by first | assumption | (simp; done)))))))⟩
        · repeat (first | refine sp ?_ | (refine is_load ?_; refine ld ?_) | (refine is_store ?_; refine sr ?_) | (refine is_alloc ?_; refine al ?_) | (refine is_box ?_; refine bx ?_) | (refine isl_load ?_; refine ldl ?_) | (refine isl_store ?_; refine srl ?_) | (refine isl_alloc ?_; refine all' ?_) | (refine isl_box ?_; refine bxl ?_))
          exact go_ret1 rfl rfl ⟨_, rfl, rfl, by (repeat (first | exact Fr.refl _ _ | assumption | apply Fr.drewN | apply Fr.alloc | (apply Fr.transF; assumption) | (refine Fr.setRow ?_ _ (by first | exact Or.inr (by (first | omega | (simp; done) | (simp; omega))) | (exact Or.inl (by first | assumption | (simp; done)))))))⟩
        · repeat (first | refine sp ?_ | (refine is_load ?_; refine ld ?_) | (refine is_store ?_; refine sr ?_) | (refine is_alloc ?_; refine al ?_) | (refine is_box ?_; refine bx ?_) | (refine isl_load ?_; refine ldl ?_) | (refine isl_store ?_; refine srl ?_) | (refine isl_alloc ?_; refine all' ?_) | (refine isl_box ?_; refine bxl ?_))
          exact go_ret1 rfl rfl ⟨_, rfl, rfl, by (repeat (first | exact Fr.refl _ _ | assumption | apply Fr.drewN | apply Fr.alloc | (apply Fr.transF; assumption) | (refine Fr.setRow ?_ _ (by first | exact Or.inr (by (first | omega | (simp; done) | (simp; omega))) | (exact Or.inl (by first | assumption | (simp; done)))))))⟩
  · rw [decide_eq_false h]
    cases m1
    · repeat (first | refine sp ?_ | (refine is_load ?_; refine ld ?_) | (refine is_store ?_; refine sr ?_) | (refine is_alloc ?_; refine al ?_) | (refine is_box ?_; refine bx ?_) | (refine isl_load ?_; refine ldl ?_) | (refine isl_store ?_; refine srl ?_) | (refine isl_alloc ?_; refine all' ?_) | (refine isl_box ?_; refine bxl ?_))
      exact go_ret1 rfl rfl ⟨_, rfl, rfl, by (repeat (first | exact Fr.refl _ _ | assumption | apply Fr.drewN | apply Fr.alloc | (apply Fr.transF; assumption) | (refine Fr.setRow ?_ _ (by first | exact Or.inr (by (first | omega | (simp; done) | (simp; omega))) | (exact Or.inl (by first | assumption | (simp; done)))))))⟩
    · cases m2
      · repeat (first | refine sp ?_ | (refine is_load ?_; refine ld ?_) | (refine is_store ?_; refine sr ?_) | (refine is_alloc ?_; refine al ?_) | (refine is_box ?_; refine bx ?_) | (refine isl_load ?_; refine ldl ?_) | (refine isl_store ?_; refine srl ?_) | (refine isl_alloc ?_; refine all' ?_) | (refine isl_box ?_; refine bxl ?_))
        exact go_ret1 rfl rfl ⟨_, rfl, rfl, by (repeat (first | exact Fr.refl _ _ | assumption | apply Fr.drewN | apply Fr.alloc | (apply Fr.transF; assumption) | (refine Fr.setRow ?_ _ (by first | exact Or.inr (by (first | omega | (simp; done) | (simp; omega))) | (exact Or.inl (by first | assumption | (simp; done)))))))⟩
      · cases b1 <;> cases b2
        · repeat (first | refine sp ?_ | (refine is_load ?_; refine ld ?_) | (refine is_store ?_; refine sr ?_) | (refine is_alloc ?_; refine al ?_) | (refine is_box ?_; refine bx ?_) | (refine isl_load ?_; refine ldl ?_) | (refine isl_store ?_; refine srl ?_) | (refine isl_alloc ?_; refine all' ?_) | (refine isl_box ?_; refine bxl ?_))
          exact go_ret1 rfl rfl ⟨_, rfl, rfl, by (repeat (first | exact Fr.refl _ _ | assumption | apply Fr.drewN | apply Fr.alloc | (apply Fr.transF; assumption) | (refine Fr.setRow ?_ _ (by first | exact Or.inr (by (first | omega | (simp; done) | (simp; omega))) | (exact Or.inl (by first | assumption | (simp; done)))))))⟩
        · repeat (first | refine sp ?_ | (refine is_load ?_; refine ld ?_) | (refine is_store ?_; refine sr ?_) | (refine is_alloc ?_; refine al ?_) | (refine is_box ?_; refine bx ?_) | (refine isl_load ?_; refine ldl ?_) | (refine isl_store ?_; refine srl ?_) | (refine isl_alloc ?_; refine all' ?_) | (refine isl_box ?_; refine bxl ?_))
          exact go_ret1 rfl rfl ⟨_, rfl, rfl, by (repeat (first | exact Fr.refl _ _ | assumption | apply Fr.drewN | apply Fr.alloc | (apply Fr.transF; assumption) | (refine Fr.setRow ?_ _ (by first | exact Or.inr (by (first | omega | (simp; done) | (simp; omega))) | (exact Or.inl (by first | assumption | (simp; done)))))))⟩
        · repeat (first | refine sp ?_ | (refine is_load ?_; refine ld ?_) | (refine is_store ?_; refine sr ?_) | (refine is_alloc ?_; refine al ?_) | (refine is_box ?_; refine bx ?_) | (refine isl_load ?_; refine ldl ?_) | (refine isl_store ?_; refine srl ?_) | (refine isl_alloc ?_; refine all' ?_) | (refine isl_box ?_; refine bxl ?_))
          exact go_ret1 rfl rfl ⟨_, rfl, rfl, by (repeat (first | exact Fr.refl _ _ | assumption | apply Fr.drewN | apply Fr.alloc | (apply Fr.transF; assumption) | (refine Fr.setRow ?_ _ (by first | exact Or.inr (by (first | omega | (simp; done) | (simp; omega))) | (exact Or.inl (by first | assumption | (simp; done)))))))⟩
        · repeat (first | refine sp ?_ | (refine is_load ?_; refine ld ?_) | (refine is_store ?_; refine sr ?_) | (refine is_alloc ?_; refine al ?_) | (refine is_box ?_; refine bx ?_) | (refine isl_load ?_; refine ldl ?_) | (refine isl_store ?_; refine srl ?_) | (refine isl_alloc ?_; refine all' ?_) | (refine isl_box ?_; refine bxl ?_))
          exact go_ret1 rfl rfl ⟨_, rfl, rfl, by (repeat (first | exact Fr.refl _ _ | assumption | apply Fr.drewN | apply Fr.alloc | (apply Fr.transF; assumption) | (refine Fr.setRow ?_ _ (by first | exact Or.inr (by (first | omega | (simp; done) | (simp; omega))) | (exact Or.inl (by first | assumption | (simp; done)))))))⟩

theorem v_eq (w : World) (c : Nat) (L M : List (Int × Int)) (u : Bool) (hc : At w c [.bool u] 4) :
    Calls Try.prog 54 [Value.agg ⟨pairC L M⟩, ptr c].toArray w (Ret fun r w' => r = .bool (!(difB L M)) ∧ Fr (fun x => x = c) w w' ∧ At w' c [.bool (!(difB L M))] 4) := by
  unfold pairC
  obtain ⟨x1, h1⟩ : ∃ x, inL L M = x := ⟨_, rfl⟩
  obtain ⟨x2, h2⟩ : ∃ x, inL M L = x := ⟨_, rfl⟩
  try unfold difB
  rw [h1, h2]
  generalize pk L M = k
  generalize pv L M = a
  generalize pv M L = b
  generalize mor L = m1
  generalize mor M = m2
  have hl := hc.lt
  have hnc : c ≠ w.heap.size := by omega
  refine calls_go Try.func54 rfl Try.ntmps54 (Nat.le_of_ble_eq_true rfl) ?_
  repeat (first | refine sp ?_ | (refine is_load ?_; refine ld ?_) | (refine is_store ?_; refine sr ?_) | (refine is_alloc ?_; refine al ?_) | (refine is_box ?_; refine bx ?_) | (refine isl_load ?_; refine ldl ?_) | (refine isl_store ?_; refine srl ?_) | (refine isl_alloc ?_; refine all' ?_) | (refine isl_box ?_; refine bxl ?_))
  refine go_call rfl rfl (c_dif _ k a b x1 x2 m1 m2) ?_
  rintro _ w1 ⟨rfl, hx1⟩
  have hc1 : At w1 c [.bool u] 4 := At.ext (by (repeat (first | assumption | (refine At.new' (by (first | omega | (simp; done) | (simp; omega))) _ _) | apply At.alloc | apply At.drewN | apply At.setRow | (apply At.setRow_neF; first | assumption | (apply Ne.symm; assumption) | omega) | (apply At.extF; assumption)))) hx1
  have hf1 : Ext w w1 := Fr.trans (by (repeat (first | exact Fr.refl _ _ | assumption | apply Fr.drewN | apply Fr.alloc | (apply Fr.transF; assumption) | (refine Fr.setRow ?_ _ (by first | exact Or.inr (by (first | omega | (simp; done) | (simp; omega))) | (exact Or.inl (by first | assumption | (simp; done)))))))) hx1
  generalize (!x1 || (!x2 || decide (a ≠ b))) = z
  repeat (first | refine sp ?_ | (refine is_load ?_; refine ld ?_) | (refine is_store ?_; refine sr ?_) | (refine is_alloc ?_; refine al ?_) | (refine is_box ?_; refine bx ?_) | (refine isl_load ?_; refine ldl ?_) | (refine isl_store ?_; refine srl ?_) | (refine isl_alloc ?_; refine all' ?_) | (refine isl_box ?_; refine bxl ?_))
  exact go_ret1 rfl rfl ⟨_, rfl, rfl, Fr.setRow (hf1.mono fun _ e => e.elim) _ (Or.inl rfl), by (repeat (first | assumption | (refine At.new' (by (first | omega | (simp; done) | (simp; omega))) _ _) | apply At.alloc | apply At.drewN | apply At.setRow | (apply At.setRow_neF; first | assumption | (apply Ne.symm; assumption) | omega) | (apply At.extF; assumption)))⟩

theorem v_sub (w : World) (c : Nat) (L M : List (Int × Int)) (u : Bool) (hc : At w c [.bool u] 4) :
    Calls Try.prog 56 [Value.agg ⟨pairC L M⟩, ptr c].toArray w (Ret fun r w' => r = .bool (!(inL L M) || !(difB L M)) ∧ Fr (fun x => x = c) w w' ∧ At w' c [.bool (!(inL L M) || !(difB L M))] 4) := by
  unfold pairC
  obtain ⟨x1, h1⟩ : ∃ x, inL L M = x := ⟨_, rfl⟩
  obtain ⟨x2, h2⟩ : ∃ x, inL M L = x := ⟨_, rfl⟩
  try unfold difB
  rw [h1, h2]
  generalize pk L M = k
  generalize pv L M = a
  generalize pv M L = b
  generalize mor L = m1
  generalize mor M = m2
  have hl := hc.lt
  have hnc : c ≠ w.heap.size := by omega
  refine calls_go Try.func56 rfl Try.ntmps56 (Nat.le_of_ble_eq_true rfl) ?_
  cases x1 with
  | false =>
    repeat (first | refine sp ?_ | (refine is_load ?_; refine ld ?_) | (refine is_store ?_; refine sr ?_) | (refine is_alloc ?_; refine al ?_) | (refine is_box ?_; refine bx ?_) | (refine isl_load ?_; refine ldl ?_) | (refine isl_store ?_; refine srl ?_) | (refine isl_alloc ?_; refine all' ?_) | (refine isl_box ?_; refine bxl ?_))
    exact go_ret1 rfl rfl ⟨_, rfl, rfl, by (repeat (first | exact Fr.refl _ _ | assumption | apply Fr.drewN | apply Fr.alloc | (apply Fr.transF; assumption) | (refine Fr.setRow ?_ _ (by first | exact Or.inr (by (first | omega | (simp; done) | (simp; omega))) | (exact Or.inl (by first | assumption | (simp; done))))))), by (repeat (first | assumption | (refine At.new' (by (first | omega | (simp; done) | (simp; omega))) _ _) | apply At.alloc | apply At.drewN | apply At.setRow | (apply At.setRow_neF; first | assumption | (apply Ne.symm; assumption) | omega) | (apply At.extF; assumption)))⟩
  | true =>
    repeat (first | refine sp ?_ | (refine is_load ?_; refine ld ?_) | (refine is_store ?_; refine sr ?_) | (refine is_alloc ?_; refine al ?_) | (refine is_box ?_; refine bx ?_) | (refine isl_load ?_; refine ldl ?_) | (refine isl_store ?_; refine srl ?_) | (refine isl_alloc ?_; refine all' ?_) | (refine isl_box ?_; refine bxl ?_))
    refine go_call rfl rfl (c_dif _ k a b true x2 m1 m2) ?_
    rintro _ w1 ⟨rfl, hx1⟩
    have hc1 : At w1 c [.bool u] 4 := At.ext (by (repeat (first | assumption | (refine At.new' (by (first | omega | (simp; done) | (simp; omega))) _ _) | apply At.alloc | apply At.drewN | apply At.setRow | (apply At.setRow_neF; first | assumption | (apply Ne.symm; assumption) | omega) | (apply At.extF; assumption)))) hx1
    have hf1 : Ext w w1 := Fr.trans (by (repeat (first | exact Fr.refl _ _ | assumption | apply Fr.drewN | apply Fr.alloc | (apply Fr.transF; assumption) | (refine Fr.setRow ?_ _ (by first | exact Or.inr (by (first | omega | (simp; done) | (simp; omega))) | (exact Or.inl (by first | assumption | (simp; done)))))))) hx1
    generalize (!true || (!x2 || decide (a ≠ b))) = z
    repeat (first | refine sp ?_ | (refine is_load ?_; refine ld ?_) | (refine is_store ?_; refine sr ?_) | (refine is_alloc ?_; refine al ?_) | (refine is_box ?_; refine bx ?_) | (refine isl_load ?_; refine ldl ?_) | (refine isl_store ?_; refine srl ?_) | (refine isl_alloc ?_; refine all' ?_) | (refine isl_box ?_; refine bxl ?_))
    exact go_ret1 rfl rfl ⟨_, rfl, rfl, Fr.setRow (hf1.mono fun _ e => e.elim) _ (Or.inl rfl), by (repeat (first | assumption | (refine At.new' (by (first | omega | (simp; done) | (simp; omega))) _ _) | apply At.alloc | apply At.drewN | apply At.setRow | (apply At.setRow_neF; first | assumption | (apply Ne.symm; assumption) | omega) | (apply At.extF; assumption)))⟩

theorem v_dis (w : World) (c : Nat) (L M : List (Int × Int)) (u : Bool) (hc : At w c [.bool u] 4) :
    Calls Try.prog 58 [Value.agg ⟨pairC L M⟩, ptr c].toArray w (Ret fun r w' => r = .bool (!(inL L M) || !(inL M L)) ∧ Fr (fun x => x = c) w w' ∧ At w' c [.bool (!(inL L M) || !(inL M L))] 4) := by
  unfold pairC
  obtain ⟨x1, h1⟩ : ∃ x, inL L M = x := ⟨_, rfl⟩
  obtain ⟨x2, h2⟩ : ∃ x, inL M L = x := ⟨_, rfl⟩
  try unfold difB
  rw [h1, h2]
  generalize pk L M = k
  generalize pv L M = a
  generalize pv M L = b
  generalize mor L = m1
  generalize mor M = m2
  have hl := hc.lt
  have hnc : c ≠ w.heap.size := by omega
  refine calls_go Try.func58 rfl Try.ntmps58 (Nat.le_of_ble_eq_true rfl) ?_
  cases x1 with
  | false =>
    repeat (first | refine sp ?_ | (refine is_load ?_; refine ld ?_) | (refine is_store ?_; refine sr ?_) | (refine is_alloc ?_; refine al ?_) | (refine is_box ?_; refine bx ?_) | (refine isl_load ?_; refine ldl ?_) | (refine isl_store ?_; refine srl ?_) | (refine isl_alloc ?_; refine all' ?_) | (refine isl_box ?_; refine bxl ?_))
    exact go_ret1 rfl rfl ⟨_, rfl, rfl, by (repeat (first | exact Fr.refl _ _ | assumption | apply Fr.drewN | apply Fr.alloc | (apply Fr.transF; assumption) | (refine Fr.setRow ?_ _ (by first | exact Or.inr (by (first | omega | (simp; done) | (simp; omega))) | (exact Or.inl (by first | assumption | (simp; done))))))), by (repeat (first | assumption | (refine At.new' (by (first | omega | (simp; done) | (simp; omega))) _ _) | apply At.alloc | apply At.drewN | apply At.setRow | (apply At.setRow_neF; first | assumption | (apply Ne.symm; assumption) | omega) | (apply At.extF; assumption)))⟩
  | true =>
    repeat (first | refine sp ?_ | (refine is_load ?_; refine ld ?_) | (refine is_store ?_; refine sr ?_) | (refine is_alloc ?_; refine al ?_) | (refine is_box ?_; refine bx ?_) | (refine isl_load ?_; refine ldl ?_) | (refine isl_store ?_; refine srl ?_) | (refine isl_alloc ?_; refine all' ?_) | (refine isl_box ?_; refine bxl ?_))
    exact go_ret1 rfl rfl ⟨_, rfl, rfl, by (repeat (first | exact Fr.refl _ _ | assumption | apply Fr.drewN | apply Fr.alloc | (apply Fr.transF; assumption) | (refine Fr.setRow ?_ _ (by first | exact Or.inr (by (first | omega | (simp; done) | (simp; omega))) | (exact Or.inl (by first | assumption | (simp; done))))))), by (repeat (first | assumption | (refine At.new' (by (first | omega | (simp; done) | (simp; omega))) _ _) | apply At.alloc | apply At.drewN | apply At.setRow | (apply At.setRow_neF; first | assumption | (apply Ne.symm; assumption) | omega) | (apply At.extF; assumption)))⟩

theorem v_no (w : World) (c : Nat) (u : Bool) (hc : At w c [.bool u] 4) :
    Calls Try.prog 57 [ptr c].toArray w (Ret fun r w' => r = .bool false ∧ Fr (fun x => x = c) w w' ∧ At w' c [.bool false] 4) := by
  refine calls_go Try.func57 rfl Try.ntmps57 (Nat.le_of_ble_eq_true rfl) ?_
  repeat (first | refine sp ?_ | (refine is_load ?_; refine ld ?_) | (refine is_store ?_; refine sr ?_) | (refine is_alloc ?_; refine al ?_) | (refine is_box ?_; refine bx ?_) | (refine isl_load ?_; refine ldl ?_) | (refine isl_store ?_; refine srl ?_) | (refine isl_alloc ?_; refine all' ?_) | (refine isl_box ?_; refine bxl ?_))
  exact go_ret1 rfl rfl ⟨_, rfl, rfl, by (repeat (first | exact Fr.refl _ _ | assumption | apply Fr.drewN | apply Fr.alloc | (apply Fr.transF; assumption) | (refine Fr.setRow ?_ _ (by first | exact Or.inr (by (first | omega | (simp; done) | (simp; omega))) | (exact Or.inl (by first | assumption | (simp; done))))))), by (repeat (first | assumption | (refine At.new' (by (first | omega | (simp; done) | (simp; omega))) _ _) | apply At.alloc | apply At.drewN | apply At.setRow | (apply At.setRow_neF; first | assumption | (apply Ne.symm; assumption) | omega) | (apply At.extF; assumption)))⟩

theorem v_cmp (w : World) (c : Nat) (L M : List (Int × Int)) (hc : At w c [.int .i64 0] 3) :
    Calls Try.prog 50 [Value.agg ⟨pairC L M⟩, ptr c].toArray w (Ret fun r w' => r = .bool (!(difB L M)) ∧ Fr (fun x => x = c) w w' ∧ At w' c [.int .i64 (if difB L M = true then dirL L M else 0)] 3) := by
  unfold dirL
  unfold pairC
  obtain ⟨x1, h1⟩ : ∃ x, inL L M = x := ⟨_, rfl⟩
  obtain ⟨x2, h2⟩ : ∃ x, inL M L = x := ⟨_, rfl⟩
  try unfold difB
  rw [h1, h2]
  generalize pk L M = k
  generalize pv L M = a
  generalize pv M L = b
  generalize mor L = m1
  generalize mor M = m2
  have hl := hc.lt
  have hnc : c ≠ w.heap.size := by omega
  obtain ⟨d, hd⟩ : ∃ d : Int, (if (if m1 = false then true else if m2 = false then false else if x1 ≠ x2 then x1 else decide (a < b)) = true then (-1 : Int) else 1) = d := ⟨_, rfl⟩
  have hd0 : d ≠ 0 := by rw [← hd]; split <;> omega
  refine calls_go Try.func50 rfl Try.ntmps50 (Nat.le_of_ble_eq_true rfl) ?_
  repeat (first | refine sp ?_ | (refine is_load ?_; refine ld ?_) | (refine is_store ?_; refine sr ?_) | (refine is_alloc ?_; refine al ?_) | (refine is_box ?_; refine bx ?_) | (refine isl_load ?_; refine ldl ?_) | (refine isl_store ?_; refine srl ?_) | (refine isl_alloc ?_; refine all' ?_) | (refine isl_box ?_; refine bxl ?_))
  refine go_call rfl rfl (c_dif _ k a b x1 x2 m1 m2) ?_
  rintro _ w1 ⟨rfl, hx1⟩
  rw [hd]
  generalize (!x1 || (!x2 || decide (a ≠ b))) = z
  refine go_name (F := fun w2 => At w2 c [.int .i64 0] 3 ∧ At w2 w.heap.size [.int .i64 k, .int .i64 a, .int .i64 b, .bool x1, .bool x2, .bool m1, .bool m2] 92 ∧ Ext w w2) ⟨At.ext (by (repeat (first | assumption | (refine At.new' (by (first | omega | (simp; done) | (simp; omega))) _ _) | apply At.alloc | apply At.drewN | apply At.setRow | (apply At.setRow_neF; first | assumption | (apply Ne.symm; assumption) | omega) | (apply At.extF; assumption)))) hx1, At.ext (by (repeat (first | assumption | (refine At.new' (by (first | omega | (simp; done) | (simp; omega))) _ _) | apply At.alloc | apply At.drewN | apply At.setRow | (apply At.setRow_neF; first | assumption | (apply Ne.symm; assumption) | omega) | (apply At.extF; assumption)))) hx1, Fr.trans (by (repeat (first | exact Fr.refl _ _ | assumption | apply Fr.drewN | apply Fr.alloc | (apply Fr.transF; assumption) | (refine Fr.setRow ?_ _ (by first | exact Or.inr (by (first | omega | (simp; done) | (simp; omega))) | (exact Or.inl (by first | assumption | (simp; done)))))))) hx1⟩ ?_
  rintro w2 ⟨hc2, hp2, hx2⟩
  cases z with
  | false =>
    repeat (first | refine sp ?_ | (refine is_load ?_; refine ld ?_) | (refine is_store ?_; refine sr ?_) | (refine is_alloc ?_; refine al ?_) | (refine is_box ?_; refine bx ?_) | (refine isl_load ?_; refine ldl ?_) | (refine isl_store ?_; refine srl ?_) | (refine isl_alloc ?_; refine all' ?_) | (refine isl_box ?_; refine bxl ?_))
    exact go_ret1 rfl rfl ⟨_, rfl, rfl, by (repeat (first | exact Fr.refl _ _ | assumption | apply Fr.drewN | apply Fr.alloc | (apply Fr.transF; assumption) | (refine Fr.setRow ?_ _ (by first | exact Or.inr (by (first | omega | (simp; done) | (simp; omega))) | (exact Or.inl (by first | assumption | (simp; done))))))), by (repeat (first | assumption | (refine At.new' (by (first | omega | (simp; done) | (simp; omega))) _ _) | apply At.alloc | apply At.drewN | apply At.setRow | (apply At.setRow_neF; first | assumption | (apply Ne.symm; assumption) | omega) | (apply At.extF; assumption)))⟩
  | true =>
    repeat (first | refine sp ?_ | (refine is_load ?_; refine ld ?_) | (refine is_store ?_; refine sr ?_) | (refine is_alloc ?_; refine al ?_) | (refine is_box ?_; refine bx ?_) | (refine isl_load ?_; refine ldl ?_) | (refine isl_store ?_; refine srl ?_) | (refine isl_alloc ?_; refine all' ?_) | (refine isl_box ?_; refine bxl ?_))
    refine go_call rfl rfl (c_dir _ k a b x1 x2 m1 m2) ?_
    rintro _ w3 ⟨rfl, hx3⟩
    rw [hd]
    have hc3 := hc2.ext hx3
    have hf3 : Ext w w3 := hx2.trans hx3
    repeat (first | refine sp ?_ | (refine is_load ?_; refine ld ?_) | (refine is_store ?_; refine sr ?_) | (refine is_alloc ?_; refine al ?_) | (refine is_box ?_; refine bx ?_) | (refine isl_load ?_; refine ldl ?_) | (refine isl_store ?_; refine srl ?_) | (refine isl_alloc ?_; refine all' ?_) | (refine isl_box ?_; refine bxl ?_))
    exact go_ret1 rfl rfl ⟨_, rfl, rfl, Fr.setRow (hf3.mono fun _ e => e.elim) _ (Or.inl rfl), by (repeat (first | assumption | (refine At.new' (by (first | omega | (simp; done) | (simp; omega))) _ _) | apply At.alloc | apply At.drewN | apply At.setRow | (apply At.setRow_neF; first | assumption | (apply Ne.symm; assumption) | omega) | (apply At.extF; assumption)))⟩

theorem root_ne {A : AR} {t u : Tr} (ht : InA A t) (hu : InA A u) (h : t.root = u.root) : t = u := ht.uniq hu h

theorem q_Equal_self (w : World) (p i : Nat) :
    Calls Try.prog 17 [ptr p, .int .u32 (i : Int), .int .u32 (i : Int)].toArray w (Ret fun r w' => r = .bool true ∧ w' = w) := by
  refine calls_go Try.func17 rfl Try.ntmps17 (Nat.le_of_ble_eq_true rfl) ?_
  repeat (first | refine sp ?_ | (refine is_load ?_; refine ld ?_) | (refine is_store ?_; refine sr ?_) | (refine is_alloc ?_; refine al ?_) | (refine is_box ?_; refine bx ?_) | (refine isl_load ?_; refine ldl ?_) | (refine isl_store ?_; refine srl ?_) | (refine isl_alloc ?_; refine all' ?_) | (refine isl_box ?_; refine bxl ?_))
  exact go_ret1 rfl rfl ⟨_, rfl, rfl, rfl⟩
theorem q_Subset_self (w : World) (p i : Nat) :
    Calls Try.prog 21 [ptr p, .int .u32 (i : Int), .int .u32 (i : Int)].toArray w (Ret fun r w' => r = .bool true ∧ w' = w) := by
  refine calls_go Try.func21 rfl Try.ntmps21 (Nat.le_of_ble_eq_true rfl) ?_
  repeat (first | refine sp ?_ | (refine is_load ?_; refine ld ?_) | (refine is_store ?_; refine sr ?_) | (refine is_alloc ?_; refine al ?_) | (refine is_box ?_; refine bx ?_) | (refine isl_load ?_; refine ldl ?_) | (refine isl_store ?_; refine srl ?_) | (refine isl_alloc ?_; refine all' ?_) | (refine isl_box ?_; refine bxl ?_))
  exact go_ret1 rfl rfl ⟨_, rfl, rfl, rfl⟩
theorem q_Compare_self (w : World) (p i : Nat) :
    Calls Try.prog 16 [ptr p, .int .u32 (i : Int), .int .u32 (i : Int)].toArray w (Ret fun r w' => r = .int .i64 0 ∧ w' = w) := by
  refine calls_go Try.func16 rfl Try.ntmps16 (Nat.le_of_ble_eq_true rfl) ?_
  repeat (first | refine sp ?_ | (refine is_load ?_; refine ld ?_) | (refine is_store ?_; refine sr ?_) | (refine is_alloc ?_; refine al ?_) | (refine is_box ?_; refine bx ?_) | (refine isl_load ?_; refine ldl ?_) | (refine isl_store ?_; refine srl ?_) | (refine isl_alloc ?_; refine all' ?_) | (refine isl_box ?_; refine bxl ?_))
  exact go_ret1 rfl rfl ⟨_, rfl, rfl, rfl⟩

/-- Trees of different sizes. -/
theorem q_Equal_ne (w : World) (lo p : Nat) (q : AP) (A : AR) (t u : Tr) (ha : ArP w lo p q A) (ht : InA A t) (hu : InA A u) (hts : t.sz ≤ 1000) (hus : u.sz ≤ 1000) (hne : t.sz ≠ u.sz) :
    Calls Try.prog 17 [ptr p, .int .u32 (t.root : Int), .int .u32 (u.root : Int)].toArray w (Ret fun r w' => r = .bool false ∧ ∃ B, ArP w' lo p q B ∧ Rds A B 2 ∧ Fr (fun x => x = p) w w') := by
  have hlq := ha.lt
  have hpp := ha.lt p ha.fpp
  have hri : t.root < 4294967296 := ht.rootlt ha.wf
  have hrj : u.root < 4294967296 := hu.rootlt ha.wf
  have hr : t.root ≠ u.root := fun e => hne (by rw [root_ne ht hu e])
  refine calls_go Try.func17 rfl Try.ntmps17 (Nat.le_of_ble_eq_true rfl) ?_
  repeat (first | refine sp ?_ | (refine is_load ?_; refine ld ?_) | (refine is_store ?_; refine sr ?_) | (refine is_alloc ?_; refine al ?_) | (refine is_box ?_; refine bx ?_) | (refine isl_load ?_; refine ldl ?_) | (refine isl_store ?_; refine srl ?_) | (refine isl_alloc ?_; refine all' ?_) | (refine isl_box ?_; refine bxl ?_))
  refine go_call rfl rfl (p_Size _ lo p q A t.root ha hri) ?_
  rintro _ w1 ⟨rfl, ha1, hf1⟩
  rw [ht.sizeOf ha.wf (by omega)]
  repeat (first | refine sp ?_ | (refine is_load ?_; refine ld ?_) | (refine is_store ?_; refine sr ?_) | (refine is_alloc ?_; refine al ?_) | (refine is_box ?_; refine bx ?_) | (refine isl_load ?_; refine ldl ?_) | (refine isl_store ?_; refine srl ?_) | (refine isl_alloc ?_; refine all' ?_) | (refine isl_box ?_; refine bxl ?_))
  refine go_call rfl rfl (p_Size _ lo p q _ u.root ha1 hrj) ?_
  rintro _ w2 ⟨rfl, ha2, hf2⟩
  rw [(hu.read t.root).sizeOf ha1.wf (by omega)]
  repeat (first | refine sp ?_ | (refine is_load ?_; refine ld ?_) | (refine is_store ?_; refine sr ?_) | (refine is_alloc ?_; refine al ?_) | (refine is_box ?_; refine bx ?_) | (refine isl_load ?_; refine ldl ?_) | (refine isl_store ?_; refine srl ?_) | (refine isl_alloc ?_; refine all' ?_) | (refine isl_box ?_; refine bxl ?_))
  exact go_ret1 rfl rfl ⟨_, rfl, rfl, _, ha2, (Rds.read _ _).trans (Rds.read _ _), hf1.trans hf2⟩

theorem q_Equal (w : World) (lo p : Nat) (q : AP) (A : AR) (t u : Tr) (ha : ArP w lo p q A) (ht : InA A t) (hu : InA A u) (hts : t.sz ≤ 1000) (hus : u.sz ≤ 1000) :
    Calls Try.prog 17 [ptr p, .int .u32 (t.root : Int), .int .u32 (u.root : Int)].toArray w (Ret fun r w' => r = .bool (eqB t.ents u.ents) ∧ ∃ B, ArP w' lo p q B ∧ (∃ n, Rds A B n) ∧ Fr (fun x => x = p) w w') := by
  have hlq := ha.lt
  have hpp := ha.lt p ha.fpp
  have hri : t.root < 4294967296 := ht.rootlt ha.wf
  have hrj : u.root < 4294967296 := hu.rootlt ha.wf
  by_cases hr : t.root = u.root
  · obtain rfl := root_ne ht hu hr
    refine (q_Equal_self w p t.root).mono ?_
    rintro _ w' ⟨_, rfl, rfl, rfl⟩
    exact ⟨_, rfl, by simp [eqB], A, ha, ⟨0, Rds.refl _ _⟩, Fr.refl _ _⟩
  by_cases hne : t.sz = u.sz
  · refine calls_go Try.func17 rfl Try.ntmps17 (Nat.le_of_ble_eq_true rfl) ?_
    repeat (first | refine sp ?_ | (refine is_load ?_; refine ld ?_) | (refine is_store ?_; refine sr ?_) | (refine is_alloc ?_; refine al ?_) | (refine is_box ?_; refine bx ?_) | (refine isl_load ?_; refine ldl ?_) | (refine isl_store ?_; refine srl ?_) | (refine isl_alloc ?_; refine all' ?_) | (refine isl_box ?_; refine bxl ?_))
    refine go_call rfl rfl (p_Size _ lo p q A t.root ha hri) ?_
    rintro _ w1 ⟨rfl, ha1, hf1⟩
    rw [ht.sizeOf ha.wf (by omega)]
    repeat (first | refine sp ?_ | (refine is_load ?_; refine ld ?_) | (refine is_store ?_; refine sr ?_) | (refine is_alloc ?_; refine al ?_) | (refine is_box ?_; refine bx ?_) | (refine isl_load ?_; refine ldl ?_) | (refine isl_store ?_; refine srl ?_) | (refine isl_alloc ?_; refine all' ?_) | (refine isl_box ?_; refine bxl ?_))
    refine go_call rfl rfl (p_Size _ lo p q _ u.root ha1 hrj) ?_
    rintro _ w2 ⟨rfl, ha2, hf2⟩
    rw [(hu.read t.root).sizeOf ha1.wf (by omega)]
    have hf12 := hf1.trans hf2
    have hs12 := hf12.size
    repeat (first | refine sp ?_ | (refine is_load ?_; refine ld ?_) | (refine is_store ?_; refine sr ?_) | (refine is_alloc ?_; refine al ?_) | (refine is_box ?_; refine bx ?_) | (refine isl_load ?_; refine ldl ?_) | (refine isl_store ?_; refine srl ?_) | (refine isl_alloc ?_; refine all' ?_) | (refine isl_box ?_; refine bxl ?_))
    refine go_p rfl (pr_makeFunc rfl) ?_
    repeat (first | refine sp ?_ | (refine is_load ?_; refine ld ?_) | (refine is_store ?_; refine sr ?_) | (refine is_alloc ?_; refine al ?_) | (refine is_box ?_; refine bx ?_) | (refine isl_load ?_; refine ldl ?_) | (refine isl_store ?_; refine srl ?_) | (refine isl_alloc ?_; refine all' ?_) | (refine isl_box ?_; refine bxl ?_))
    refine go_name (F := fun w3 => At w3 w2.heap.size [.bool true] 4 ∧ Ext w2 w3) ⟨by (repeat (first | assumption | (refine At.new' (by (first | omega | (simp; done) | (simp; omega))) _ _) | apply At.alloc | apply At.drewN | apply At.setRow | (apply At.setRow_neF; first | assumption | (apply Ne.symm; assumption) | omega) | (apply At.extF; assumption))), by (repeat (first | exact Fr.refl _ _ | assumption | apply Fr.drewN | apply Fr.alloc | (apply Fr.transF; assumption) | (refine Fr.setRow ?_ _ (by first | exact Or.inr (by (first | omega | (simp; done) | (simp; omega))) | (exact Or.inl (by first | assumption | (simp; done)))))))⟩ ?_
    rintro w3 ⟨hc3, hx3⟩
    refine go_call rfl rfl (c_Pairs w3 lo p q _ t u 49 54 [] [ptr w2.heap.size] w2.heap.size 4 (.bool true) (.bool (eqB t.ents u.ents)) (fun L M => eqB L M = eqB t.ents u.ents) (ha2.ext hx3) ((ht.read _).read _) ((hu.read _).read _) hts hus hc3 (fun h => by have := hlq _ h; omega) rfl ?_ ?_ ?_) ?_
    · intro w' L M S hS hj hc
      refine (c_yes w').mono ?_
      rintro _ w'' ⟨_, rfl, rfl, rfl⟩
      exact ⟨_, rfl, true, _, rfl, Fr.refl _ _, hc, fun _ => ⟨rfl, by rw [← hj, eq_com]⟩, fun h => by cases h⟩
    · intro w' L M hn hj hc
      refine (v_eq w' w2.heap.size L M true hc).mono ?_
      rintro _ w'' ⟨_, rfl, rfl, hf, hc'⟩
      obtain ⟨e1, e2⟩ := eq_vis L M hn
      refine ⟨_, rfl, _, _, rfl, hf, hc', fun h => ⟨by rw [h], ?_⟩, fun h => ?_⟩
      · rw [e2 (by simpa using h)]; exact hj
      · rw [h, ← hj, e1 (by simpa using h)]
    · intro hj
      rw [← hj]; rfl
    · rintro _ w4 ⟨rfl, B, ha4, ⟨n, hn⟩, hc4, hf4⟩
      repeat (first | refine sp ?_ | (refine is_load ?_; refine ld ?_) | (refine is_store ?_; refine sr ?_) | (refine is_alloc ?_; refine al ?_) | (refine is_box ?_; refine bx ?_) | (refine isl_load ?_; refine ldl ?_) | (refine isl_store ?_; refine srl ?_) | (refine isl_alloc ?_; refine all' ?_) | (refine isl_box ?_; refine bxl ?_))
      exact go_ret1 rfl rfl ⟨_, rfl, rfl, B, ha4, ⟨_, ((Rds.read A t.root).trans (Rds.read _ u.root)).trans hn⟩, (hf12.trans (hx3.mono fun _ e => e.elim)).trans' hf4 fun x hx e => by
        rcases e with e | e
        · exact e
        · omega⟩
  · refine (q_Equal_ne w lo p q A t u ha ht hu hts hus hne).mono ?_
    rintro _ w' ⟨_, rfl, rfl, B, h1, h2, h3⟩
    refine ⟨_, rfl, ?_, B, h1, ⟨2, h2⟩, h3⟩
    unfold eqB
    rw [decide_eq_false]
    intro e
    have := congrArg List.length e
    rw [t.len, u.len] at this
    exact hne this

theorem q_Subset (w : World) (lo p : Nat) (q : AP) (A : AR) (t u : Tr) (ha : ArP w lo p q A) (ht : InA A t) (hu : InA A u) (hts : t.sz ≤ 1000) (hus : u.sz ≤ 1000) (st : Srt t.ents) (su : Srt u.ents) :
    Calls Try.prog 21 [ptr p, .int .u32 (t.root : Int), .int .u32 (u.root : Int)].toArray w (Ret fun r w' => r = .bool (subB t.ents u.ents) ∧ ∃ B, ArP w' lo p q B ∧ (∃ n, Rds A B n) ∧ Fr (fun x => x = p) w w') := by
  have hlq := ha.lt
  have hpp := ha.lt p ha.fpp
  have hri : t.root < 4294967296 := ht.rootlt ha.wf
  have hrj : u.root < 4294967296 := hu.rootlt ha.wf
  by_cases hr : t.root = u.root
  · obtain rfl := root_ne ht hu hr
    refine (q_Subset_self w p t.root).mono ?_
    rintro _ w' ⟨_, rfl, rfl, rfl⟩
    exact ⟨_, rfl, by simp [subB], A, ha, ⟨0, Rds.refl _ _⟩, Fr.refl _ _⟩
  refine calls_go Try.func21 rfl Try.ntmps21 (Nat.le_of_ble_eq_true rfl) ?_
  repeat (first | refine sp ?_ | (refine is_load ?_; refine ld ?_) | (refine is_store ?_; refine sr ?_) | (refine is_alloc ?_; refine al ?_) | (refine is_box ?_; refine bx ?_) | (refine isl_load ?_; refine ldl ?_) | (refine isl_store ?_; refine srl ?_) | (refine isl_alloc ?_; refine all' ?_) | (refine isl_box ?_; refine bxl ?_))
  refine go_p rfl (pr_makeFunc rfl) ?_
  repeat (first | refine sp ?_ | (refine is_load ?_; refine ld ?_) | (refine is_store ?_; refine sr ?_) | (refine is_alloc ?_; refine al ?_) | (refine is_box ?_; refine bx ?_) | (refine isl_load ?_; refine ldl ?_) | (refine isl_store ?_; refine srl ?_) | (refine isl_alloc ?_; refine all' ?_) | (refine isl_box ?_; refine bxl ?_))
  refine go_name (F := fun w3 => At w3 w.heap.size [.bool true] 4 ∧ Ext w w3) ⟨by (repeat (first | assumption | (refine At.new' (by (first | omega | (simp; done) | (simp; omega))) _ _) | apply At.alloc | apply At.drewN | apply At.setRow | (apply At.setRow_neF; first | assumption | (apply Ne.symm; assumption) | omega) | (apply At.extF; assumption))), by (repeat (first | exact Fr.refl _ _ | assumption | apply Fr.drewN | apply Fr.alloc | (apply Fr.transF; assumption) | (refine Fr.setRow ?_ _ (by first | exact Or.inr (by (first | omega | (simp; done) | (simp; omega))) | (exact Or.inl (by first | assumption | (simp; done)))))))⟩ ?_
  rintro w3 ⟨hc3, hx3⟩
  refine go_call rfl rfl (c_Pairs w3 lo p q _ t u 49 56 [] [ptr w.heap.size] w.heap.size 4 (.bool true) (.bool (subB t.ents u.ents)) (fun L M => (Srt L ∧ Srt M) ∧ subB L M = subB t.ents u.ents) (ha.ext hx3) ht hu hts hus hc3 (fun h => by have := hlq _ h; omega) ⟨⟨st, su⟩, rfl⟩ ?_ ?_ ?_) ?_
  · rintro w' L M S hS ⟨⟨hs1, hs2⟩, hj⟩ hc
    refine (c_yes w').mono ?_
    rintro _ w'' ⟨_, rfl, rfl, rfl⟩
    exact ⟨_, rfl, true, _, rfl, Fr.refl _ _, hc, fun _ => ⟨rfl, ⟨hs1.app.2.1, hs2.app.2.1⟩, by rw [← hj, sub_com hs1]⟩, fun h => by cases h⟩
  · rintro w' L M hn ⟨⟨hs1, hs2⟩, hj⟩ hc
    refine (v_sub w' w.heap.size L M true hc).mono ?_
    rintro _ w'' ⟨_, rfl, rfl, hf, hc'⟩
    obtain ⟨e1, e2⟩ := sub_vis L M hs1 hs2 hn
    refine ⟨_, rfl, _, _, rfl, hf, hc', fun h => ⟨by rw [h], ⟨nxt_srt hs1, nxt_srt hs2⟩, ?_⟩, fun h => ?_⟩
    · rw [e2 h]; exact hj
    · rw [h, ← hj, e1 h]
  · rintro ⟨_, hj⟩
    rw [← hj]; rfl
  · skip
    rintro _ w4 ⟨rfl, B, ha4, hn, hc4, hf4⟩
    repeat (first | refine sp ?_ | (refine is_load ?_; refine ld ?_) | (refine is_store ?_; refine sr ?_) | (refine is_alloc ?_; refine al ?_) | (refine is_box ?_; refine bx ?_) | (refine isl_load ?_; refine ldl ?_) | (refine isl_store ?_; refine srl ?_) | (refine isl_alloc ?_; refine all' ?_) | (refine isl_box ?_; refine bxl ?_))
    exact go_ret1 rfl rfl ⟨_, rfl, rfl, B, ha4, hn, (hx3.mono fun _ e => e.elim).trans' hf4 fun x hx e => by
      rcases e with e | e
      · exact e
      · omega⟩

theorem q_Disjoint (w : World) (lo p : Nat) (q : AP) (A : AR) (t u : Tr) (ha : ArP w lo p q A) (ht : InA A t) (hu : InA A u) (hts : t.sz ≤ 1000) (hus : u.sz ≤ 1000) (st : Srt t.ents) (su : Srt u.ents) :
    Calls Try.prog 22 [ptr p, .int .u32 (t.root : Int), .int .u32 (u.root : Int)].toArray w (Ret fun r w' => r = .bool (disB t.ents u.ents) ∧ ∃ B, ArP w' lo p q B ∧ (∃ n, Rds A B n) ∧ Fr (fun x => x = p) w w') := by
  have hlq := ha.lt
  have hpp := ha.lt p ha.fpp
  have hri : t.root < 4294967296 := ht.rootlt ha.wf
  have hrj : u.root < 4294967296 := hu.rootlt ha.wf
  refine calls_go Try.func22 rfl Try.ntmps22 (Nat.le_of_ble_eq_true rfl) ?_
  repeat (first | refine sp ?_ | (refine is_load ?_; refine ld ?_) | (refine is_store ?_; refine sr ?_) | (refine is_alloc ?_; refine al ?_) | (refine is_box ?_; refine bx ?_) | (refine isl_load ?_; refine ldl ?_) | (refine isl_store ?_; refine srl ?_) | (refine isl_alloc ?_; refine all' ?_) | (refine isl_box ?_; refine bxl ?_))
  refine go_p rfl (pr_makeFunc rfl) ?_
  refine go_p rfl (pr_makeFunc rfl) ?_
  repeat (first | refine sp ?_ | (refine is_load ?_; refine ld ?_) | (refine is_store ?_; refine sr ?_) | (refine is_alloc ?_; refine al ?_) | (refine is_box ?_; refine bx ?_) | (refine isl_load ?_; refine ldl ?_) | (refine isl_store ?_; refine srl ?_) | (refine isl_alloc ?_; refine all' ?_) | (refine isl_box ?_; refine bxl ?_))
  refine go_name (F := fun w3 => At w3 w.heap.size [.bool true] 4 ∧ Ext w w3) ⟨by (repeat (first | assumption | (refine At.new' (by (first | omega | (simp; done) | (simp; omega))) _ _) | apply At.alloc | apply At.drewN | apply At.setRow | (apply At.setRow_neF; first | assumption | (apply Ne.symm; assumption) | omega) | (apply At.extF; assumption))), by (repeat (first | exact Fr.refl _ _ | assumption | apply Fr.drewN | apply Fr.alloc | (apply Fr.transF; assumption) | (refine Fr.setRow ?_ _ (by first | exact Or.inr (by (first | omega | (simp; done) | (simp; omega))) | (exact Or.inl (by first | assumption | (simp; done)))))))⟩ ?_
  rintro w3 ⟨hc3, hx3⟩
  refine go_call rfl rfl (c_Pairs w3 lo p q _ t u 57 58 [ptr w.heap.size] [ptr w.heap.size] w.heap.size 4 (.bool true) (.bool (disB t.ents u.ents)) (fun L M => (Srt L ∧ Srt M) ∧ disB L M = disB t.ents u.ents) (ha.ext hx3) ht hu hts hus hc3 (fun h => by have := hlq _ h; omega) ⟨⟨st, su⟩, rfl⟩ ?_ ?_ ?_) ?_
  · rintro w' L M S hS ⟨⟨hs1, hs2⟩, hj⟩ hc
    refine (v_no w' w.heap.size true hc).mono ?_
    rintro _ w'' ⟨_, rfl, rfl, hf, hc'⟩
    exact ⟨_, rfl, false, _, rfl, hf, hc', fun h => by (cases h), fun _ => by rw [← hj, dis_com hS]⟩
  · rintro w' L M hn ⟨⟨hs1, hs2⟩, hj⟩ hc
    refine (v_dis w' w.heap.size L M true hc).mono ?_
    rintro _ w'' ⟨_, rfl, rfl, hf, hc'⟩
    obtain ⟨e1, e2⟩ := dis_vis L M hs1 hs2 hn
    refine ⟨_, rfl, _, _, rfl, hf, hc', fun h => ⟨by rw [h], ⟨nxt_srt hs1, nxt_srt hs2⟩, ?_⟩, fun h => ?_⟩
    · rw [e2 h]; exact hj
    · rw [h, ← hj, e1 h]
  · rintro ⟨_, hj⟩
    rw [← hj]; rfl
  · skip
    rintro _ w4 ⟨rfl, B, ha4, hn, hc4, hf4⟩
    repeat (first | refine sp ?_ | (refine is_load ?_; refine ld ?_) | (refine is_store ?_; refine sr ?_) | (refine is_alloc ?_; refine al ?_) | (refine is_box ?_; refine bx ?_) | (refine isl_load ?_; refine ldl ?_) | (refine isl_store ?_; refine srl ?_) | (refine isl_alloc ?_; refine all' ?_) | (refine isl_box ?_; refine bxl ?_))
    exact go_ret1 rfl rfl ⟨_, rfl, rfl, B, ha4, hn, (hx3.mono fun _ e => e.elim).trans' hf4 fun x hx e => by
      rcases e with e | e
      · exact e
      · omega⟩

theorem q_Compare (w : World) (lo p : Nat) (q : AP) (A : AR) (t u : Tr) (ha : ArP w lo p q A) (ht : InA A t) (hu : InA A u) (hts : t.sz ≤ 1000) (hus : u.sz ≤ 1000) :
    Calls Try.prog 16 [ptr p, .int .u32 (t.root : Int), .int .u32 (u.root : Int)].toArray w (Ret fun r w' => r = .int .i64 (cmpL t.ents u.ents) ∧ ∃ B, ArP w' lo p q B ∧ (∃ n, Rds A B n) ∧ Fr (fun x => x = p) w w') := by
  have hlq := ha.lt
  have hpp := ha.lt p ha.fpp
  have hri : t.root < 4294967296 := ht.rootlt ha.wf
  have hrj : u.root < 4294967296 := hu.rootlt ha.wf
  by_cases hr : t.root = u.root
  · obtain rfl := root_ne ht hu hr
    refine (q_Compare_self w p t.root).mono ?_
    rintro _ w' ⟨_, rfl, rfl, rfl⟩
    exact ⟨_, rfl, by rw [(cmp_zero _ _).2 rfl], A, ha, ⟨0, Rds.refl _ _⟩, Fr.refl _ _⟩
  refine calls_go Try.func16 rfl Try.ntmps16 (Nat.le_of_ble_eq_true rfl) ?_
  repeat (first | refine sp ?_ | (refine is_load ?_; refine ld ?_) | (refine is_store ?_; refine sr ?_) | (refine is_alloc ?_; refine al ?_) | (refine is_box ?_; refine bx ?_) | (refine isl_load ?_; refine ldl ?_) | (refine isl_store ?_; refine srl ?_) | (refine isl_alloc ?_; refine all' ?_) | (refine isl_box ?_; refine bxl ?_))
  refine go_p rfl (pr_makeFunc rfl) ?_
  repeat (first | refine sp ?_ | (refine is_load ?_; refine ld ?_) | (refine is_store ?_; refine sr ?_) | (refine is_alloc ?_; refine al ?_) | (refine is_box ?_; refine bx ?_) | (refine isl_load ?_; refine ldl ?_) | (refine isl_store ?_; refine srl ?_) | (refine isl_alloc ?_; refine all' ?_) | (refine isl_box ?_; refine bxl ?_))
  refine go_name (F := fun w3 => At w3 w.heap.size [.int .i64 0] 3 ∧ Ext w w3) ⟨by (repeat (first | assumption | (refine At.new' (by (first | omega | (simp; done) | (simp; omega))) _ _) | apply At.alloc | apply At.drewN | apply At.setRow | (apply At.setRow_neF; first | assumption | (apply Ne.symm; assumption) | omega) | (apply At.extF; assumption))), by (repeat (first | exact Fr.refl _ _ | assumption | apply Fr.drewN | apply Fr.alloc | (apply Fr.transF; assumption) | (refine Fr.setRow ?_ _ (by first | exact Or.inr (by (first | omega | (simp; done) | (simp; omega))) | (exact Or.inl (by first | assumption | (simp; done)))))))⟩ ?_
  rintro w3 ⟨hc3, hx3⟩
  refine go_call rfl rfl (c_Pairs w3 lo p q _ t u 49 50 [] [ptr w.heap.size] w.heap.size 3 (.int .i64 0) (.int .i64 (cmpL t.ents u.ents)) (fun L M => cmpL L M = cmpL t.ents u.ents) (ha.ext hx3) ht hu hts hus hc3 (fun h => by have := hlq _ h; omega) rfl ?_ ?_ ?_) ?_
  · rintro w' L M S hS hj hc
    refine (c_yes w').mono ?_
    rintro _ w'' ⟨_, rfl, rfl, rfl⟩
    exact ⟨_, rfl, true, _, rfl, Fr.refl _ _, hc, fun _ => ⟨rfl, by rw [← hj, cmp_com]⟩, fun h => by cases h⟩
  · rintro w' L M hn hj hc
    refine (v_cmp w' w.heap.size L M hc).mono ?_
    rintro _ w'' ⟨_, rfl, rfl, hf, hc'⟩
    obtain ⟨e1, e2⟩ := cmp_vis L M hn
    refine ⟨_, rfl, _, _, rfl, hf, hc', fun h => ?_, fun h => ?_⟩
    · have h : difB L M = false := by simpa using h
      exact ⟨by rw [h]; rfl, by rw [e2 h]; exact hj⟩
    · have h : difB L M = true := by simpa using h
      rw [if_pos h, (e1 h).1, hj]
  · intro hj
    rw [← hj]; rfl
  · skip
    rintro _ w4 ⟨rfl, B, ha4, hn, hc4, hf4⟩
    repeat (first | refine sp ?_ | (refine is_load ?_; refine ld ?_) | (refine is_store ?_; refine sr ?_) | (refine is_alloc ?_; refine al ?_) | (refine is_box ?_; refine bx ?_) | (refine isl_load ?_; refine ldl ?_) | (refine isl_store ?_; refine srl ?_) | (refine isl_alloc ?_; refine all' ?_) | (refine isl_box ?_; refine bxl ?_))
    exact go_ret1 rfl rfl ⟨_, rfl, rfl, B, ha4, hn, (hx3.mono fun _ e => e.elim).trans' hf4 fun x hx e => by
      rcases e with e | e
      · exact e
      · omega⟩

end Go.Proofs.Yteghhalnpdikoaa
