/-
  The program's allocator of slots: Order, New.
-/
import Derived.Test.YtapocbahkeoeoaaS4
set_option linter.unusedVariables false
namespace Go.Proofs.Ytapocbahkeoeoaa
open Go.Vc

abbrev u32n (n : Nat) : Value := .int .u32 (n : Int)

/-- A slice of the call's own that holds these numbers. -/
def OwnN (w : World) (lo : Nat) (v : Value) (l : List Nat) : Prop := Own w lo 27 1 v l.length (l.map fun (i : Nat) => Value.int .u32 (i : Int))

theorem OwnN.ext {w w' : World} {lo : Nat} {v : Value} {l : List Nat} (h : OwnN w lo v l) (f : Ext w w') : OwnN w' lo v l := Own.ext h f
theorem OwnN.nil (w : World) (lo : Nat) : OwnN w lo (.slice none 0 0) [] := Own.nil w lo _ _

theorem one_u32 (i : Nat) : ∀ u ∈ [Value.int .u32 (i : Int)], u.oneCell' = true := by
  intro u hu; simp at hu; subst hu; rfl

/-- What an append to a slice of the call's own does to what was there before the call. -/
theorem ext_pushed {w0 w w' : World} {lo : Nat} {e : TypeId} {m n : Nat} {v : Value} {xs : List Value} (h0 : Ext w0 w) (hlo : w0.heap.size ≤ lo) (hown : Own w lo e m v n xs) (hg : w.grownBy w' v.ownBlock) : Ext w0 w' := ext_grown h0 hlo hown hg

def AR.order (A : AR) : List Nat := A.rel.reverse ++ List.range' (A.fresh + 1) (A.cap - A.fresh)

theorem order_len {A : AR} (h : Wf A) : A.order.length = A.free := by
  have := h.fr
  simp [AR.order, AR.free]; omega

theorem c_slOrder (w : World) (lo : Nat) (q : AP) (A : AR) (h : SlAt w lo q A) :
    Calls Try.prog 73 [.pointer (some ⟨q.s, 0, none⟩)].toArray w (Ret fun r w' => OwnN w' w.heap.size r A.order ∧ Ext w w') := by
  have hwf := h.wf
  have hcap := hwf.capM
  have hfr := hwf.fr
  have hrl := rel_le hwf
  refine calls_go Try.func73 rfl Try.ntmps73 (Nat.le_of_ble_eq_true rfl) ?_
  repeat (first | refine sp ?_ | (refine is_load ?_; refine ld ?_) | (refine is_store ?_; refine sr ?_) | (refine is_alloc ?_; refine al ?_) | (refine is_box ?_; refine bx ?_) | (refine isl_load ?_; refine ldl ?_) | (refine isl_store ?_; refine srl ?_) | (refine isl_alloc ?_; refine all' ?_) | (refine isl_box ?_; refine bxl ?_) | refine dr Try.follows ?_)
  refine go_call rfl rfl (c_slFree w lo q A h) ?_
  rintro r w1 ⟨rfl, hx⟩
  have hfb : A.free ≤ 65536 := by unfold AR.free; omega
  refine go_make0 (c := A.free) rfl rfl rfl rfl (by omega) (by omega) (by unfold maxLen; omega) ?_
  intro v0 w2 ho0 hx2
  have hx2' := hx.trans hx2
  have h2 := h.ext hx2'
  have hs2 := h2.hs
  unfold slC at hs2
  obtain ⟨sv, cv, hrv, hcv, hrr⟩ := h2.hr.slice
  rw [hrv] at hs2
  have ho0 : Own w2 w.heap.size 27 1 v0 0 [] := ⟨rfl, ho0.2.imp id (fun ⟨g, cap, cur, a, b, c⟩ => ⟨g, cap, cur, a, Nat.le_trans hx.size b, c⟩)⟩
  repeat (first | refine sp ?_ | (refine is_load ?_; refine ld ?_) | (refine is_store ?_; refine sr ?_) | (refine is_alloc ?_; refine al ?_) | (refine is_box ?_; refine bx ?_) | (refine isl_load ?_; refine ldl ?_) | (refine isl_store ?_; refine srl ?_) | (refine isl_alloc ?_; refine all' ?_) | (refine isl_box ?_; refine bxl ?_) | refine dr Try.follows ?_)
  refine go_loop (G := Nat × Value) [4, 3] (fun g => [.int .i64 ((g.1 : Int) - 1), g.2]) [(0, .pointer (some ⟨q.s, 0, none⟩))]
    (fun g w' => g.1 ≤ A.rel.length ∧ OwnN w' w.heap.size g.2 (A.rel.drop g.1).reverse ∧ Ext w w') (fun g => g.1)
    (A.rel.length, v0) rfl ⟨rfl, trivial⟩ ⟨Nat.le_refl _, by simpa [OwnN] using ho0, hx2'⟩ ?_
  rintro ⟨j, v1⟩ w3 ⟨hj, ho1, hx3⟩
  simp only at hj ho1
  have h3 := h.ext hx3
  have hs3 := h3.hs
  unfold slC at hs3
  obtain ⟨sv, cv, hrv, hcv, hrr⟩ := h3.hr.slice
  rw [hrv] at hs3
  cases j with
  | succ j =>
    have hlt : j < A.rel.length := by omega
    obtain ⟨b, o, rfl, hcell⟩ := hrr j (.int .u32 ((A.rel[j] : Nat) : Int)) (by simp [hlt])
    have hdrop : (A.rel.drop j).reverse = (A.rel.drop (j+1)).reverse ++ [A.rel[j]] := by
      rw [List.drop_eq_getElem_cons hlt, List.reverse_cons]
    repeat (first | refine sp ?_ | (refine is_load ?_; refine ld ?_) | (refine is_store ?_; refine sr ?_) | (refine is_alloc ?_; refine al ?_) | (refine is_box ?_; refine bx ?_) | (refine isl_load ?_; refine ldl ?_) | (refine isl_store ?_; refine srl ?_) | (refine isl_alloc ?_; refine all' ?_) | (refine isl_box ?_; refine bxl ?_) | refine dr Try.follows ?_)
    refine go_as 24 (u' := .int .i64 (j : Int)) rfl (by congr 1; omega) ?_
    repeat (first | refine sp ?_ | (refine is_load ?_; refine ld ?_) | (refine is_store ?_; refine sr ?_) | (refine is_alloc ?_; refine al ?_) | (refine is_box ?_; refine bx ?_) | (refine isl_load ?_; refine ldl ?_) | (refine isl_store ?_; refine srl ?_) | (refine isl_alloc ?_; refine all' ?_) | (refine isl_box ?_; refine bxl ?_) | refine dr Try.follows ?_)
    refine go_pushG (by decide) rfl rfl rfl rfl ho1 rfl (one_u32 _) (by omega) (by simp [maxLen]; omega) (by simp; omega) hx3.size ?_
    intro v2 w4 ho2 hg2 _
    repeat (first | refine sp ?_ | (refine is_load ?_; refine ld ?_) | (refine is_store ?_; refine sr ?_) | (refine is_alloc ?_; refine al ?_) | (refine is_box ?_; refine bx ?_) | (refine isl_load ?_; refine ldl ?_) | (refine isl_store ?_; refine srl ?_) | (refine isl_alloc ?_; refine all' ?_) | (refine isl_box ?_; refine bxl ?_) | refine dr Try.follows ?_)
    refine go_as 4 (u' := .int .i64 ((j : Int) - 1)) rfl (by congr 1; omega) ?_
    refine go_stop (G := Nat × Value) (j, v2) rfl ⟨rfl, trivial⟩ ⟨by dsimp only; omega, ?_, ext_pushed hx3 (Nat.le_refl _) ho1 hg2⟩ (by show j < j + 1; omega)
    dsimp only
    rw [hdrop]
    unfold OwnN
    rw [List.map_append, List.length_append]
    exact ho2
  | zero =>
    rw [List.drop_zero] at ho1
    repeat (first | refine sp ?_ | (refine is_load ?_; refine ld ?_) | (refine is_store ?_; refine sr ?_) | (refine is_alloc ?_; refine al ?_) | (refine is_box ?_; refine bx ?_) | (refine isl_load ?_; refine ldl ?_) | (refine isl_store ?_; refine srl ?_) | (refine isl_alloc ?_; refine all' ?_) | (refine isl_box ?_; refine bxl ?_) | refine dr Try.follows ?_)
    refine go_loop (G := Nat × Value) [5, 3] (fun g => [.int .i64 ((A.fresh + 1 + g.1 : Nat) : Int), g.2]) [(0, .pointer (some ⟨q.s, 0, none⟩))]
      (fun g w' => g.1 ≤ A.cap - A.fresh ∧ OwnN w' w.heap.size g.2 (A.rel.reverse ++ List.range' (A.fresh + 1) g.1) ∧ Ext w w') (fun g => A.cap - A.fresh - g.1)
      (0, v1) rfl ⟨rfl, trivial⟩ ⟨Nat.zero_le _, by simpa using ho1, hx3⟩ ?_
    rintro ⟨j, v2⟩ w4 ⟨hj, ho2, hx4⟩
    simp only at hj ho2
    repeat (first | refine sp ?_ | (refine is_load ?_; refine ld ?_) | (refine is_store ?_; refine sr ?_) | (refine is_alloc ?_; refine al ?_) | (refine is_box ?_; refine bx ?_) | (refine isl_load ?_; refine ldl ?_) | (refine isl_store ?_; refine srl ?_) | (refine isl_alloc ?_; refine all' ?_) | (refine isl_box ?_; refine bxl ?_) | refine dr Try.follows ?_)
    refine go_call rfl rfl (c_slCapacity w4 lo q A (h.ext hx4)) ?_
    rintro r w5 ⟨rfl, rfl⟩
    by_cases hlt : j < A.cap - A.fresh
    · repeat (first | refine sp ?_ | (refine is_load ?_; refine ld ?_) | (refine is_store ?_; refine sr ?_) | (refine is_alloc ?_; refine al ?_) | (refine is_box ?_; refine bx ?_) | (refine isl_load ?_; refine ldl ?_) | (refine isl_store ?_; refine srl ?_) | (refine isl_alloc ?_; refine all' ?_) | (refine isl_box ?_; refine bxl ?_) | refine dr Try.follows ?_)
      refine go_pushG (by decide) rfl rfl rfl rfl ho2 rfl (one_u32 _) (by omega) (by simp [maxLen]; omega) (by simp; omega) hx4.size ?_
      intro v3 w6 ho3 hg3 _
      repeat (first | refine sp ?_ | (refine is_load ?_; refine ld ?_) | (refine is_store ?_; refine sr ?_) | (refine is_alloc ?_; refine al ?_) | (refine is_box ?_; refine bx ?_) | (refine isl_load ?_; refine ldl ?_) | (refine isl_store ?_; refine srl ?_) | (refine isl_alloc ?_; refine all' ?_) | (refine isl_box ?_; refine bxl ?_) | refine dr Try.follows ?_)
      refine go_as 5 (u' := .int .i64 ((A.fresh + 1 + (j + 1) : Nat) : Int)) rfl (by congr 1) ?_
      refine go_stop (G := Nat × Value) (j + 1, v3) rfl ⟨rfl, trivial⟩ ⟨by dsimp only; omega, ?_, ext_pushed hx4 (Nat.le_refl _) ho2 hg3⟩ (by show A.cap - A.fresh - (j + 1) < A.cap - A.fresh - j; omega)
      dsimp only
      rw [List.range'_1_concat, ← List.append_assoc]
      unfold OwnN
      rw [List.map_append, List.length_append]
      exact ho3
    · obtain rfl : j = A.cap - A.fresh := by omega
      repeat (first | refine sp ?_ | (refine is_load ?_; refine ld ?_) | (refine is_store ?_; refine sr ?_) | (refine is_alloc ?_; refine al ?_) | (refine is_box ?_; refine bx ?_) | (refine isl_load ?_; refine ldl ?_) | (refine isl_store ?_; refine srl ?_) | (refine isl_alloc ?_; refine all' ?_) | (refine isl_box ?_; refine bxl ?_) | refine dr Try.follows ?_)
      exact go_ret1 rfl rfl ⟨_, rfl, ho2, hx4⟩

theorem SlAt.new {w : World} {lo : Nat} {q : AP} {n : Nat} (h1 : 1 ≤ n) (h2 : n ≤ 65536) (hs : At w q.s [.slice (some ⟨q.ub, 0, none⟩) (n + 1) (n + 1), .slice (some ⟨q.gb, 0, none⟩) (n + 1) (n + 1), .slice none 0 0, .int .u32 0] 115)
    (hu : At w q.ub (cellsF (fun _ => [.bool false]) (n + 1)) 4) (hg : At w q.gb (cellsF (fun _ => [.int .u32 0]) (n + 1)) 27) (hr : q.rv = .slice none 0 0) : SlAt w lo q (AR.new n) :=
  ⟨by unfold slC; rw [hr]; exact hs, hu, hg, by rw [hr]; exact Own.nil _ _ _ _, (by rw [hr]; simp [Value.ownBlock]), Wf.new h1 h2⟩

theorem c_slNewBad (n : Int) (w : World) (hn : n < 1 ∨ 65536 < n) :
    Calls Try.prog 58 [.int .i64 n].toArray w (Ret fun r w' => r = .tuple #[.pointer none, .int .i64 1] ∧ w' = w) := by
  refine calls_go Try.func58 rfl Try.ntmps58 (Nat.le_of_ble_eq_true rfl) ?_
  rcases hn with hn | hn
  · repeat (first | refine sp ?_ | (refine is_load ?_; refine ld ?_) | (refine is_store ?_; refine sr ?_) | (refine is_alloc ?_; refine al ?_) | (refine is_box ?_; refine bx ?_) | (refine isl_load ?_; refine ldl ?_) | (refine isl_store ?_; refine srl ?_) | (refine isl_alloc ?_; refine all' ?_) | (refine isl_box ?_; refine bxl ?_) | refine dr Try.follows ?_)
    exact go_ret2 rfl rfl rfl ⟨_, rfl, rfl, rfl⟩
  · repeat (first | refine sp ?_ | (refine is_load ?_; refine ld ?_) | (refine is_store ?_; refine sr ?_) | (refine is_alloc ?_; refine al ?_) | (refine is_box ?_; refine bx ?_) | (refine isl_load ?_; refine ldl ?_) | (refine isl_store ?_; refine srl ?_) | (refine isl_alloc ?_; refine all' ?_) | (refine isl_box ?_; refine bxl ?_) | refine dr Try.follows ?_)
    exact go_ret2 rfl rfl rfl ⟨_, rfl, rfl, rfl⟩

theorem c_slNew (n : Nat) (w : World) (h1 : 1 ≤ n) (h2 : n ≤ 65536) :
    Calls Try.prog 58 [.int .i64 (n : Int)].toArray w (Ret fun r w' => ∃ q : AP, r = .tuple #[.pointer (some ⟨q.s, 0, none⟩), .int .i64 0] ∧ SlAt w' w.heap.size q (AR.new n) ∧ q.rv = .slice none 0 0 ∧ w.heap.size ≤ q.s ∧ w.heap.size ≤ q.ub ∧ w.heap.size ≤ q.gb ∧ Ext w w') := by
  refine calls_go Try.func58 rfl Try.ntmps58 (Nat.le_of_ble_eq_true rfl) ?_
  repeat (first | refine sp ?_ | (refine is_load ?_; refine ld ?_) | (refine is_store ?_; refine sr ?_) | (refine is_alloc ?_; refine al ?_) | (refine is_box ?_; refine bx ?_))
  refine go_sched (fun _ => True) (.op 0 (.op 1 (.op 3 (.op 4 (.alt 2 (.op 5 (.op 6 (.op 7 (.op 8 (.op 9 .fin))))) (.op 5 (.op 2 (.op 6 (.op 7 (.op 8 (.op 9 .fin)))))))))))  Try.follows (by kernel_rfl) (by kernel_rfl) (by kernel_rfl) trivial ?_
  have hnb : (w.drewN 1).heap.size = w.heap.size := rfl
  repeat (first | refine sp ?_ | (refine is_load ?_; refine ld ?_) | (refine is_store ?_; refine sr ?_) | (refine is_alloc ?_; refine al ?_) | (refine is_box ?_; refine bx ?_) | (refine isl_load ?_; refine ldl ?_) | (refine isl_store ?_; refine srl ?_) | (refine isl_alloc ?_; refine all' ?_) | (refine isl_box ?_; refine bxl ?_) | refine dr Try.follows ?_)
  refine go_alt rfl ?_ ?_
  · skip
    refine gol_makeF (c := n + 1) (nb := w.heap.size) rfl rfl rfl (by omega) (by omega) (by omega) (by unfold maxLen; omega) rfl trivial ?_
    repeat (first | refine sp ?_ | (refine is_load ?_; refine ld ?_) | (refine is_store ?_; refine sr ?_) | (refine is_alloc ?_; refine al ?_) | (refine is_box ?_; refine bx ?_) | (refine isl_load ?_; refine ldl ?_) | (refine isl_store ?_; refine srl ?_) | (refine isl_alloc ?_; refine all' ?_) | (refine isl_box ?_; refine bxl ?_) | refine dr Try.follows ?_)
    refine gol_makeF (c := n + 1) (nb := w.heap.size + 1) rfl rfl rfl (by omega) (by omega) (by omega) (by unfold maxLen; omega) (by simp) trivial ?_
    repeat (first | refine sp ?_ | (refine is_load ?_; refine ld ?_) | (refine is_store ?_; refine sr ?_) | (refine is_alloc ?_; refine al ?_) | (refine is_box ?_; refine bx ?_) | (refine isl_load ?_; refine ldl ?_) | (refine isl_store ?_; refine srl ?_) | (refine isl_alloc ?_; refine all' ?_) | (refine isl_box ?_; refine bxl ?_) | refine dr Try.follows ?_)
    refine go_ret2 rfl rfl rfl ⟨_, rfl, ⟨0, w.heap.size + 2, 0, 0, w.heap.size, w.heap.size + 1, .slice none 0 0⟩, by simp, SlAt.new h1 h2 ?_ ?_ ?_ rfl, rfl, ?_, ?_, ?_, by (repeat (first | exact Fr.refl _ _ | assumption | apply Fr.drewN | apply Fr.alloc | (apply Fr.transF; assumption) | (refine Fr.setRow ?_ _ (by first | exact Or.inr (by (first | omega | (simp; done) | (simp; omega))) | (exact Or.inl (by first | assumption | (simp; done)))))))⟩
    · show At _ (w.heap.size + 2) [.slice (some ⟨w.heap.size, 0, none⟩) (n + 1) (n + 1), .slice (some ⟨w.heap.size + 1, 0, none⟩) (n + 1) (n + 1), .slice none 0 0, .int .u32 0] _
      exact At.new' (by simp) _ _
    · show At _ (w.heap.size) _ _
      (repeat (first | assumption | (refine At.new' (by (first | omega | (simp; done) | (simp; omega))) _ _) | apply At.alloc | apply At.drewN | apply At.setRow | (apply At.setRow_neF; first | assumption | (apply Ne.symm; assumption) | omega) | (apply At.extF; assumption)))
    · show At _ (w.heap.size + 1) _ _
      (repeat (first | assumption | (refine At.new' (by (first | omega | (simp; done) | (simp; omega))) _ _) | apply At.alloc | apply At.drewN | apply At.setRow | (apply At.setRow_neF; first | assumption | (apply Ne.symm; assumption) | omega) | (apply At.extF; assumption)))
    · simp
    · simp
    · simp
  · repeat (first | refine sp ?_ | (refine is_load ?_; refine ld ?_) | (refine is_store ?_; refine sr ?_) | (refine is_alloc ?_; refine al ?_) | (refine is_box ?_; refine bx ?_) | (refine isl_load ?_; refine ldl ?_) | (refine isl_store ?_; refine srl ?_) | (refine isl_alloc ?_; refine all' ?_) | (refine isl_box ?_; refine bxl ?_) | refine dr Try.follows ?_)
    refine gol_makeF (c := n + 1) (nb := w.heap.size) rfl rfl rfl (by omega) (by omega) (by omega) (by unfold maxLen; omega) rfl trivial ?_
    repeat (first | refine sp ?_ | (refine is_load ?_; refine ld ?_) | (refine is_store ?_; refine sr ?_) | (refine is_alloc ?_; refine al ?_) | (refine is_box ?_; refine bx ?_) | (refine isl_load ?_; refine ldl ?_) | (refine isl_store ?_; refine srl ?_) | (refine isl_alloc ?_; refine all' ?_) | (refine isl_box ?_; refine bxl ?_) | refine dr Try.follows ?_)
    refine gol_makeF (c := n + 1) (nb := w.heap.size + 1) rfl rfl rfl (by omega) (by omega) (by omega) (by unfold maxLen; omega) (by simp) trivial ?_
    repeat (first | refine sp ?_ | (refine is_load ?_; refine ld ?_) | (refine is_store ?_; refine sr ?_) | (refine is_alloc ?_; refine al ?_) | (refine is_box ?_; refine bx ?_) | (refine isl_load ?_; refine ldl ?_) | (refine isl_store ?_; refine srl ?_) | (refine isl_alloc ?_; refine all' ?_) | (refine isl_box ?_; refine bxl ?_) | refine dr Try.follows ?_)
    refine go_ret2 rfl rfl rfl ⟨_, rfl, ⟨0, w.heap.size + 2, 0, 0, w.heap.size + 1, w.heap.size, .slice none 0 0⟩, by simp, SlAt.new h1 h2 ?_ ?_ ?_ rfl, rfl, ?_, ?_, ?_, by (repeat (first | exact Fr.refl _ _ | assumption | apply Fr.drewN | apply Fr.alloc | (apply Fr.transF; assumption) | (refine Fr.setRow ?_ _ (by first | exact Or.inr (by (first | omega | (simp; done) | (simp; omega))) | (exact Or.inl (by first | assumption | (simp; done)))))))⟩
    · show At _ (w.heap.size + 2) [.slice (some ⟨w.heap.size + 1, 0, none⟩) (n + 1) (n + 1), .slice (some ⟨w.heap.size, 0, none⟩) (n + 1) (n + 1), .slice none 0 0, .int .u32 0] _
      exact At.new' (by simp) _ _
    · show At _ (w.heap.size + 1) _ _
      (repeat (first | assumption | (refine At.new' (by (first | omega | (simp; done) | (simp; omega))) _ _) | apply At.alloc | apply At.drewN | apply At.setRow | (apply At.setRow_neF; first | assumption | (apply Ne.symm; assumption) | omega) | (apply At.extF; assumption)))
    · show At _ (w.heap.size) _ _
      (repeat (first | assumption | (refine At.new' (by (first | omega | (simp; done) | (simp; omega))) _ _) | apply At.alloc | apply At.drewN | apply At.setRow | (apply At.setRow_neF; first | assumption | (apply Ne.symm; assumption) | omega) | (apply At.extF; assumption)))
    · simp
    · simp
    · simp
end Go.Proofs.Ytapocbahkeoeoaa
