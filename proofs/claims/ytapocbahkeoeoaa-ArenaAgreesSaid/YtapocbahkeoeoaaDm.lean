/-
  Dumps that are alike.
-/
import Derived.Test.YtapocbahkeoeoaaS10
import Derived.Test.YtapocbahkeoeoaaRu
set_option linter.unusedVariables false
namespace Go.Proofs.Ytapocbahkeoeoaa
open Go.Vc

theorem slt_eq (x : Slt) : eqL x.cells x.cells = true := by simp [Slt.cells, eqL]

set_option maxHeartbeats 1000000 in
theorem c_SameSlot (w : World) (hi : Nat) (v1 v2 : Value) (xs : List Slt) (h1 : RdU w hi v1 Slt.cells xs) (h2 : RdU w hi v2 Slt.cells xs) (hl : xs.length ≤ 1000000) :
    Calls Try.prog 72 [v1, v2].toArray w (Ret fun v w' => v = .bool true ∧ Ext w w') := by
  have h10 := h1
  obtain ⟨s1, c1, rfl, hc1, _, _⟩ := h10
  have h20 := h2
  obtain ⟨s2, c2, rfl, hc2, _, _⟩ := h20
  refine calls_go Try.func72 rfl Try.ntmps72 (Nat.le_of_ble_eq_true rfl) ?_
  repeat (first | refine sp ?_ | (refine is_load ?_; refine ld ?_) | (refine is_store ?_; refine sr ?_) | (refine is_alloc ?_; refine al ?_) | (refine is_box ?_; refine bx ?_) | (refine isl_load ?_; refine ldl ?_) | (refine isl_store ?_; refine srl ?_) | (refine isl_alloc ?_; refine all' ?_) | (refine isl_box ?_; refine bxl ?_) | refine dr Try.follows ?_)
  refine go_loop (G := Nat) [5] (fun k => [.int .i64 (k : Int)]) [(0, .slice s1 xs.length c1), (1, .slice s2 xs.length c2)]
    (fun k w' => k ≤ xs.length ∧ Ext w w') (fun k => xs.length - k) 0 rfl ⟨rfl, rfl, trivial⟩ ⟨by omega, by (repeat (first | exact Fr.refl _ _ | assumption | apply Fr.drewN | apply Fr.alloc | (apply Fr.transF; assumption) | (refine Fr.setRow ?_ _ (by first | exact Or.inr (by (first | omega | (simp; done) | (simp; omega))) | (exact Or.inl (by first | assumption | (simp; done)))))))⟩ ?_
  rintro k w1 ⟨hk, hx⟩
  by_cases hlt : k < xs.length
  · obtain ⟨b, o, e, _, hcell⟩ := (h1.ext hx).at (m := 11) slt_len (by omega) hlt
    subst e
    obtain ⟨b2, o2, e, _, hcell2⟩ := (h2.ext hx).at (m := 11) slt_len (by omega) hlt
    subst e
    generalize xs[k] = x at *
    repeat (first | refine sp ?_ | (refine is_load ?_; refine ld ?_) | (refine is_store ?_; refine sr ?_) | (refine is_alloc ?_; refine al ?_) | (refine is_box ?_; refine bx ?_) | (refine isl_load ?_; refine ldl ?_) | (refine isl_store ?_; refine srl ?_) | (refine isl_alloc ?_; refine all' ?_) | (refine isl_box ?_; refine bxl ?_) | refine dr Try.follows ?_)
    refine gol_load (v := .agg x.cells.toArray) rfl rfl (ldD_cells (m := 11) (w := w1) rfl (by decide) (fun j u hj => by rw [addr_add]; exact hcell j u hj) id) ?_
    repeat (first | refine sp ?_ | (refine is_load ?_; refine ld ?_) | (refine is_store ?_; refine sr ?_) | (refine is_alloc ?_; refine al ?_) | (refine is_box ?_; refine bx ?_) | (refine isl_load ?_; refine ldl ?_) | (refine isl_store ?_; refine srl ?_) | (refine isl_alloc ?_; refine all' ?_) | (refine isl_box ?_; refine bxl ?_) | refine dr Try.follows ?_)
    refine gol_load (v := .agg x.cells.toArray) rfl rfl (ldD_cells (m := 11) (w := w1) rfl (by decide) (fun j u hj => by rw [addr_add]; exact hcell2 j u hj) id) ?_
    unfold Slt.cells
    repeat (first | refine sp ?_ | (refine is_load ?_; refine ld ?_) | (refine is_store ?_; refine sr ?_) | (refine is_alloc ?_; refine al ?_) | (refine is_box ?_; refine bx ?_) | (refine isl_load ?_; refine ldl ?_) | (refine isl_store ?_; refine srl ?_) | (refine isl_alloc ?_; refine all' ?_) | (refine isl_box ?_; refine bxl ?_) | refine dr Try.follows ?_)
    refine go_as 25 (u' := .bool false) rfl (by simp [eqL]) ?_
    repeat (first | refine sp ?_ | (refine is_load ?_; refine ld ?_) | (refine is_store ?_; refine sr ?_) | (refine is_alloc ?_; refine al ?_) | (refine is_box ?_; refine bx ?_) | (refine isl_load ?_; refine ldl ?_) | (refine isl_store ?_; refine srl ?_) | (refine isl_alloc ?_; refine all' ?_) | (refine isl_box ?_; refine bxl ?_) | refine dr Try.follows ?_)
    exact go_stop (G := Nat) (k + 1) rfl ⟨rfl, rfl, trivial⟩ ⟨hlt, by (repeat (first | exact Fr.refl _ _ | assumption | apply Fr.drewN | apply Fr.alloc | (apply Fr.transF; assumption) | (refine Fr.setRow ?_ _ (by first | exact Or.inr (by (first | omega | (simp; done) | (simp; omega))) | (exact Or.inl (by first | assumption | (simp; done)))))))⟩ (by show xs.length - (k + 1) < xs.length - k; omega)
  · repeat (first | refine sp ?_ | (refine is_load ?_; refine ld ?_) | (refine is_store ?_; refine sr ?_) | (refine is_alloc ?_; refine al ?_) | (refine is_box ?_; refine bx ?_) | (refine isl_load ?_; refine ldl ?_) | (refine isl_store ?_; refine srl ?_) | (refine isl_alloc ?_; refine all' ?_) | (refine isl_box ?_; refine bxl ?_) | refine dr Try.follows ?_)
    exact go_ret1 rfl rfl ⟨_, rfl, rfl, hx⟩

set_option maxHeartbeats 1000000 in
theorem c_SameU32 (w : World) (hi : Nat) (v1 v2 : Value) (xs : List Nat) (h1 : RdU w hi v1 u32c xs) (h2 : RdU w hi v2 u32c xs) (hl : xs.length ≤ 1000000) :
    Calls Try.prog 25 [v1, v2].toArray w (Ret fun v w' => v = .bool true ∧ Ext w w') := by
  have h10 := h1
  obtain ⟨s1, c1, rfl, hc1, _, _⟩ := h10
  have h20 := h2
  obtain ⟨s2, c2, rfl, hc2, _, _⟩ := h20
  refine calls_go Try.func25 rfl Try.ntmps25 (Nat.le_of_ble_eq_true rfl) ?_
  repeat (first | refine sp ?_ | (refine is_load ?_; refine ld ?_) | (refine is_store ?_; refine sr ?_) | (refine is_alloc ?_; refine al ?_) | (refine is_box ?_; refine bx ?_) | (refine isl_load ?_; refine ldl ?_) | (refine isl_store ?_; refine srl ?_) | (refine isl_alloc ?_; refine all' ?_) | (refine isl_box ?_; refine bxl ?_) | refine dr Try.follows ?_)
  refine go_loop (G := Nat) [5] (fun k => [.int .i64 (k : Int)]) [(0, .slice s1 xs.length c1), (1, .slice s2 xs.length c2)]
    (fun k w' => k ≤ xs.length ∧ Ext w w') (fun k => xs.length - k) 0 rfl ⟨rfl, rfl, trivial⟩ ⟨by omega, by (repeat (first | exact Fr.refl _ _ | assumption | apply Fr.drewN | apply Fr.alloc | (apply Fr.transF; assumption) | (refine Fr.setRow ?_ _ (by first | exact Or.inr (by (first | omega | (simp; done) | (simp; omega))) | (exact Or.inl (by first | assumption | (simp; done)))))))⟩ ?_
  rintro k w1 ⟨hk, hx⟩
  by_cases hlt : k < xs.length
  · obtain ⟨b, o, e, _, hcell⟩ := (h1.ext hx).at (m := 1) (fun _ => rfl) (by omega) hlt
    subst e
    obtain ⟨b2, o2, e, _, hcell2⟩ := (h2.ext hx).at (m := 1) (fun _ => rfl) (by omega) hlt
    subst e
    generalize xs[k] = x at *
    have e1 := hcell 0 (.int .u32 (x : Int)) rfl
    have e2 := hcell2 0 (.int .u32 (x : Int)) rfl
    rw [Nat.mul_one, Nat.add_zero] at e1 e2
    repeat (first | refine sp ?_ | (refine is_load ?_; refine ld ?_) | (refine is_store ?_; refine sr ?_) | (refine is_alloc ?_; refine al ?_) | (refine is_box ?_; refine bx ?_) | (refine isl_load ?_; refine ldl ?_) | (refine isl_store ?_; refine srl ?_) | (refine isl_alloc ?_; refine all' ?_) | (refine isl_box ?_; refine bxl ?_) | refine dr Try.follows ?_)
    exact go_stop (G := Nat) (k + 1) rfl ⟨rfl, rfl, trivial⟩ ⟨hlt, by (repeat (first | exact Fr.refl _ _ | assumption | apply Fr.drewN | apply Fr.alloc | (apply Fr.transF; assumption) | (refine Fr.setRow ?_ _ (by first | exact Or.inr (by (first | omega | (simp; done) | (simp; omega))) | (exact Or.inl (by first | assumption | (simp; done)))))))⟩ (by show xs.length - (k + 1) < xs.length - k; omega)
  · repeat (first | refine sp ?_ | (refine is_load ?_; refine ld ?_) | (refine is_store ?_; refine sr ?_) | (refine is_alloc ?_; refine al ?_) | (refine is_box ?_; refine bx ?_) | (refine isl_load ?_; refine ldl ?_) | (refine isl_store ?_; refine srl ?_) | (refine isl_alloc ?_; refine all' ?_) | (refine isl_box ?_; refine bxl ?_) | refine dr Try.follows ?_)
    exact go_ret1 rfl rfl ⟨_, rfl, rfl, hx⟩

set_option maxHeartbeats 1000000 in
theorem c_SameDump (w : World) (lo lo' : Nat) (v1 v2 : Value) (D : Dp) (h1 : DpAt w lo v1 D) (h2 : DpAt w lo' v2 D) (hl : D.slots.length ≤ 1000000) (hl2 : D.free.length ≤ 1000000) :
    Calls Try.prog 35 [v1, v2].toArray w (Ret fun v w' => v = .bool true ∧ Ext w w') := by
  obtain ⟨sv1, fv1, rfl, r1, f1⟩ := h1
  obtain ⟨sv2, fv2, rfl, r2, f2⟩ := h2
  have k1 := r1.up
  have k2 := r2.up
  have k3 := f1.up
  have k4 := f2.up
  obtain ⟨_, _, rfl, _, _, _⟩ := r1
  obtain ⟨_, _, rfl, _, _, _⟩ := r2
  obtain ⟨_, _, rfl, _, _, _⟩ := f1
  obtain ⟨_, _, rfl, _, _, _⟩ := f2
  refine calls_go Try.func35 rfl Try.ntmps35 (Nat.le_of_ble_eq_true rfl) ?_
  repeat (first | refine sp ?_ | (refine is_load ?_; refine ld ?_) | (refine is_store ?_; refine sr ?_) | (refine is_alloc ?_; refine al ?_) | (refine is_box ?_; refine bx ?_) | (refine isl_load ?_; refine ldl ?_) | (refine isl_store ?_; refine srl ?_) | (refine isl_alloc ?_; refine all' ?_) | (refine isl_box ?_; refine bxl ?_) | refine dr Try.follows ?_)
  refine go_name (F := fun w1 => At w1 w.heap.size _ 36 ∧ At w1 (w.heap.size + 1) _ 36 ∧ Ext w w1) ⟨by (repeat (first | assumption | (refine At.new' (by (first | omega | (simp; done) | (simp; omega))) _ _) | apply At.alloc | apply At.drewN | apply At.setRow | (apply At.setRow_neF; first | assumption | (apply Ne.symm; assumption) | omega) | (apply At.extF; assumption))), by (repeat (first | assumption | (refine At.new' (by (first | omega | (simp; done) | (simp; omega))) _ _) | apply At.alloc | apply At.drewN | apply At.setRow | (apply At.setRow_neF; first | assumption | (apply Ne.symm; assumption) | omega) | (apply At.extF; assumption))), by (repeat (first | exact Fr.refl _ _ | assumption | apply Fr.drewN | apply Fr.alloc | (apply Fr.transF; assumption) | (refine Fr.setRow ?_ _ (by first | exact Or.inr (by (first | omega | (simp; done) | (simp; omega))) | (exact Or.inl (by first | assumption | (simp; done)))))))⟩ ?_
  rintro w1 ⟨ha1, ha2, hx1⟩
  refine go_call rfl rfl (c_SameSlot w1 w.heap.size _ _ D.slots (k1.ext hx1) (k2.ext hx1) hl) ?_
  rintro _ w2 ⟨rfl, hx2⟩
  have hx12 := hx1.trans hx2
  have ha3 := ha1.ext hx2
  have ha4 := ha2.ext hx2
  repeat (first | refine sp ?_ | (refine is_load ?_; refine ld ?_) | (refine is_store ?_; refine sr ?_) | (refine is_alloc ?_; refine al ?_) | (refine is_box ?_; refine bx ?_) | (refine isl_load ?_; refine ldl ?_) | (refine isl_store ?_; refine srl ?_) | (refine isl_alloc ?_; refine all' ?_) | (refine isl_box ?_; refine bxl ?_) | refine dr Try.follows ?_)
  refine go_call rfl rfl (c_SameU32 w2 w.heap.size _ _ D.free (k3.ext hx12) (k4.ext hx12) hl2) ?_
  rintro _ w3 ⟨rfl, hx3⟩
  repeat (first | refine sp ?_ | (refine is_load ?_; refine ld ?_) | (refine is_store ?_; refine sr ?_) | (refine is_alloc ?_; refine al ?_) | (refine is_box ?_; refine bx ?_) | (refine isl_load ?_; refine ldl ?_) | (refine isl_store ?_; refine srl ?_) | (refine isl_alloc ?_; refine all' ?_) | (refine isl_box ?_; refine bxl ?_) | refine dr Try.follows ?_)
  exact go_ret1 rfl rfl ⟨_, rfl, rfl, hx12.trans hx3⟩

end Go.Proofs.Ytapocbahkeoeoaa
