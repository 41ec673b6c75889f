/-
  The program's audit: slots, children, counts of a list, edges.
-/
import Derived.Test.YtapocbahkeoeoaaCp
set_option linter.unusedVariables false
namespace Go.Proofs.Ytapocbahkeoeoaa
open Go.Vc

def slotB (D : Dp) (i : Nat) : Bool := decide (1 ≤ i ∧ i ≤ D.slots.length)

theorem a_slot (w : World) (lo : Nat) (v : Value) (D : Dp) (i : Nat) (hd : DpAt w lo v D) (hk : D.slots.length ≤ 1000000) (hi : i < 4294967296) :
    Calls Try.prog 63 [v, .int .u32 (i : Int)].toArray w (Ret fun r w' => r = .bool (slotB D i) ∧ Ext w w') := by
  obtain ⟨sv, fv, rfl, hs, hf⟩ := hd
  obtain ⟨s1, c1, rfl, h1, _, _⟩ := hs
  obtain ⟨s2, c2, rfl, h2, _, _⟩ := hf
  refine calls_go Try.func63 rfl Try.ntmps63 (Nat.le_of_ble_eq_true rfl) ?_
  by_cases h0 : 1 ≤ i
  · by_cases hn : i ≤ D.slots.length
    · rw [show slotB D i = true from decide_eq_true ⟨h0, hn⟩]
      repeat (first | refine sp ?_ | (refine is_load ?_; refine ld ?_) | (refine is_store ?_; refine sr ?_) | (refine is_alloc ?_; refine al ?_) | (refine is_box ?_; refine bx ?_) | (refine isl_load ?_; refine ldl ?_) | (refine isl_store ?_; refine srl ?_) | (refine isl_alloc ?_; refine all' ?_) | (refine isl_box ?_; refine bxl ?_) | refine dr Try.follows ?_)
      exact go_ret1 rfl rfl ⟨_, rfl, rfl, by (repeat (first | exact Fr.refl _ _ | assumption | apply Fr.drewN | apply Fr.alloc | (apply Fr.transF; assumption) | (refine Fr.setRow ?_ _ (by first | exact Or.inr (by (first | omega | (simp; done) | (simp; omega))) | (exact Or.inl (by first | assumption | (simp; done)))))))⟩
    · rw [show slotB D i = false from decide_eq_false (fun h => hn h.2)]
      repeat (first | refine sp ?_ | (refine is_load ?_; refine ld ?_) | (refine is_store ?_; refine sr ?_) | (refine is_alloc ?_; refine al ?_) | (refine is_box ?_; refine bx ?_) | (refine isl_load ?_; refine ldl ?_) | (refine isl_store ?_; refine srl ?_) | (refine isl_alloc ?_; refine all' ?_) | (refine isl_box ?_; refine bxl ?_) | refine dr Try.follows ?_)
      exact go_ret1 rfl rfl ⟨_, rfl, rfl, by (repeat (first | exact Fr.refl _ _ | assumption | apply Fr.drewN | apply Fr.alloc | (apply Fr.transF; assumption) | (refine Fr.setRow ?_ _ (by first | exact Or.inr (by (first | omega | (simp; done) | (simp; omega))) | (exact Or.inl (by first | assumption | (simp; done)))))))⟩
  · rw [show slotB D i = false from decide_eq_false (fun h => h0 h.1)]
    repeat (first | refine sp ?_ | (refine is_load ?_; refine ld ?_) | (refine is_store ?_; refine sr ?_) | (refine is_alloc ?_; refine al ?_) | (refine is_box ?_; refine bx ?_) | (refine isl_load ?_; refine ldl ?_) | (refine isl_store ?_; refine srl ?_) | (refine isl_alloc ?_; refine all' ?_) | (refine isl_box ?_; refine bxl ?_) | refine dr Try.follows ?_)
    exact go_ret1 rfl rfl ⟨_, rfl, rfl, by (repeat (first | exact Fr.refl _ _ | assumption | apply Fr.drewN | apply Fr.alloc | (apply Fr.transF; assumption) | (refine Fr.setRow ?_ _ (by first | exact Or.inr (by (first | omega | (simp; done) | (simp; omega))) | (exact Or.inl (by first | assumption | (simp; done)))))))⟩

theorem a_allocated (w : World) (lo : Nat) (v : Value) (D : Dp) (i : Nat) (hd : DpAt w lo v D) (hk : D.slots.length ≤ 1000000) (hi : i < 4294967296) :
    Calls Try.prog 69 [v, .int .u32 (i : Int)].toArray w (Ret fun r w' => r = .bool (D.al i) ∧ Ext w w') := by
  have hd0 := hd
  obtain ⟨sv, fv, rfl, hs, hf⟩ := hd
  have hs' := hs.up
  obtain ⟨s1, c1, rfl, h1, _, _⟩ := hs
  obtain ⟨s2, c2, rfl, h2, _, _⟩ := hf
  refine calls_go Try.func69 rfl Try.ntmps69 (Nat.le_of_ble_eq_true rfl) ?_
  repeat (first | refine sp ?_ | (refine is_load ?_; refine ld ?_) | (refine is_store ?_; refine sr ?_) | (refine is_alloc ?_; refine al ?_) | (refine is_box ?_; refine bx ?_) | (refine isl_load ?_; refine ldl ?_) | (refine isl_store ?_; refine srl ?_) | (refine isl_alloc ?_; refine all' ?_) | (refine isl_box ?_; refine bxl ?_) | refine dr Try.follows ?_)
  refine go_name (F := fun w1 => At w1 w.heap.size [.slice s1 D.slots.length c1, .slice s2 D.free.length c2] 36 ∧ Ext w w1) ⟨by (repeat (first | assumption | (refine At.new' (by (first | omega | (simp; done) | (simp; omega))) _ _) | apply At.alloc | apply At.drewN | apply At.setRow | (apply At.setRow_neF; first | assumption | (apply Ne.symm; assumption) | omega) | (apply At.extF; assumption))), by (repeat (first | exact Fr.refl _ _ | assumption | apply Fr.drewN | apply Fr.alloc | (apply Fr.transF; assumption) | (refine Fr.setRow ?_ _ (by first | exact Or.inr (by (first | omega | (simp; done) | (simp; omega))) | (exact Or.inl (by first | assumption | (simp; done)))))))⟩ ?_
  rintro w1 ⟨hdb, hx1⟩
  repeat (first | refine sp ?_ | (refine is_load ?_; refine ld ?_) | (refine is_store ?_; refine sr ?_) | (refine is_alloc ?_; refine al ?_) | (refine is_box ?_; refine bx ?_) | (refine isl_load ?_; refine ldl ?_) | (refine isl_store ?_; refine srl ?_) | (refine isl_alloc ?_; refine all' ?_) | (refine isl_box ?_; refine bxl ?_) | refine dr Try.follows ?_)
  refine go_call rfl rfl (a_slot w1 lo _ D i (hd0.ext hx1) hk hi) ?_
  rintro _ w2 ⟨rfl, hx2⟩
  replace hdb := hdb.ext hx2
  have hx12 := hx1.trans hx2
  by_cases h : 1 ≤ i ∧ i ≤ D.slots.length
  · rw [show slotB D i = true from decide_eq_true h]
    obtain ⟨j, rfl⟩ : ∃ j, i = j + 1 := ⟨i - 1, by omega⟩
    have hj : j < D.slots.length := by omega
    rw [Dp.al_get hj]
    obtain ⟨b, o, e, _, hcell⟩ := (hs'.ext hx12).at (m := 11) slt_len (by omega) hj
    subst e
    have e0 := hcell 0 (.bool D.slots[j].on) rfl
    generalize D.slots[j].on = x at *
    repeat (first | refine sp ?_ | (refine is_load ?_; refine ld ?_) | (refine is_store ?_; refine sr ?_) | (refine is_alloc ?_; refine al ?_) | (refine is_box ?_; refine bx ?_) | (refine isl_load ?_; refine ldl ?_) | (refine isl_store ?_; refine srl ?_) | (refine isl_alloc ?_; refine all' ?_) | (refine isl_box ?_; refine bxl ?_) | refine dr Try.follows ?_)
    refine go_as 12 (u' := .int .u32 (j : Int)) rfl (by congr 1; omega) ?_
    repeat (first | refine sp ?_ | (refine is_load ?_; refine ld ?_) | (refine is_store ?_; refine sr ?_) | (refine is_alloc ?_; refine al ?_) | (refine is_box ?_; refine bx ?_) | (refine isl_load ?_; refine ldl ?_) | (refine isl_store ?_; refine srl ?_) | (refine isl_alloc ?_; refine all' ?_) | (refine isl_box ?_; refine bxl ?_) | refine dr Try.follows ?_)
    exact go_ret1 rfl rfl ⟨_, rfl, rfl, hx12⟩
  · rw [show slotB D i = false from decide_eq_false h]
    have : D.al i = false := by
      cases i with
      | zero => rfl
      | succ j => exact Dp.al_out (by omega)
    rw [this]
    repeat (first | refine sp ?_ | (refine is_load ?_; refine ld ?_) | (refine is_store ?_; refine sr ?_) | (refine is_alloc ?_; refine al ?_) | (refine is_box ?_; refine bx ?_) | (refine isl_load ?_; refine ldl ?_) | (refine isl_store ?_; refine srl ?_) | (refine isl_alloc ?_; refine all' ?_) | (refine isl_box ?_; refine bxl ?_) | refine dr Try.follows ?_)
    exact go_ret1 rfl rfl ⟨_, rfl, rfl, hx12⟩

theorem a_children (w : World) (s : Slt) :
    Calls Try.prog 62 [.agg ⟨s.cells⟩].toArray w (Ret fun r w' => r = .agg ⟨[.int .u32 (s.nd.left : Int), .int .u32 (s.nd.right : Int)]⟩ ∧ Ext w w') := by
  unfold Slt.cells
  refine calls_go Try.func62 rfl Try.ntmps62 (Nat.le_of_ble_eq_true rfl) ?_
  repeat (first | refine sp ?_ | (refine is_load ?_; refine ld ?_) | (refine is_store ?_; refine sr ?_) | (refine is_alloc ?_; refine al ?_) | (refine is_box ?_; refine bx ?_) | (refine isl_load ?_; refine ldl ?_) | (refine isl_store ?_; refine srl ?_) | (refine isl_alloc ?_; refine all' ?_) | (refine isl_box ?_; refine bxl ?_) | refine dr Try.follows ?_)
  exact go_ret1 rfl ⟨_, rfl, Ld.run (ld_part (by (repeat (first | assumption | (refine At.new' (by (first | omega | (simp; done) | (simp; omega))) _ _) | apply At.alloc | apply At.drewN | apply At.setRow | (apply At.setRow_neF; first | assumption | (apply Ne.symm; assumption) | omega) | (apply At.extF; assumption)))) rfl rfl)⟩ ⟨_, rfl, rfl, by (repeat (first | exact Fr.refl _ _ | assumption | apply Fr.drewN | apply Fr.alloc | (apply Fr.transF; assumption) | (refine Fr.setRow ?_ _ (by first | exact Or.inr (by (first | omega | (simp; done) | (simp; omega))) | (exact Or.inl (by first | assumption | (simp; done)))))))⟩

set_option maxHeartbeats 1000000 in
theorem a_tally (w : World) (lo hi : Nat) (v lv : Value) (D : Dp) (l : List Nat) (hd : DpAt w lo v D) (hr : RdU w hi lv u32c l) (hh : hi ≤ w.heap.size) (hl : l.length ≤ 1000000) (hn : D.slots.length ≤ 1000000) (hb : ∀ x ∈ l, x < 4294967296) :
    Calls Try.prog 67 [v, lv].toArray w (Ret fun r w' => IntsAt w' w.heap.size r (fun j => (l.count (j + 1) : Int)) D.slots.length ∧ Ext w w') := by
  have hr0 := hr
  have hd0 := hd
  obtain ⟨sa, cap, rfl, hlc, _, _⟩ := hr0
  obtain ⟨sv, fv, rfl, hs, hf⟩ := hd
  obtain ⟨s1, c1, rfl, h1, _, _⟩ := hs
  obtain ⟨s2, c2, rfl, h2, _, _⟩ := hf
  generalize hnn : D.slots.length = n at *
  refine calls_go Try.func67 rfl Try.ntmps67 (Nat.le_of_ble_eq_true rfl) ?_
  repeat (first | refine sp ?_ | (refine is_load ?_; refine ld ?_) | (refine is_store ?_; refine sr ?_) | (refine is_alloc ?_; refine al ?_) | (refine is_box ?_; refine bx ?_) | (refine isl_load ?_; refine ldl ?_) | (refine isl_store ?_; refine srl ?_) | (refine isl_alloc ?_; refine all' ?_) | (refine isl_box ?_; refine bxl ?_) | refine dr Try.follows ?_)
  refine go_makeF (c := n) rfl rfl rfl rfl rfl (by omega) (by unfold maxLen; omega) rfl ?_
  refine go_name (F := fun w1 => At w1 w.heap.size [.slice s1 n c1, .slice s2 D.free.length c2] 36 ∧ At w1 (w.heap.size + 1) (cellsF (fun _ => [.int .i64 0]) n) 3 ∧ Ext w w1) ⟨by (repeat (first | assumption | (refine At.new' (by (first | omega | (simp; done) | (simp; omega))) _ _) | apply At.alloc | apply At.drewN | apply At.setRow | (apply At.setRow_neF; first | assumption | (apply Ne.symm; assumption) | omega) | (apply At.extF; assumption))), by (repeat (first | assumption | (refine At.new' (by (first | omega | (simp; done) | (simp; omega))) _ _) | apply At.alloc | apply At.drewN | apply At.setRow | (apply At.setRow_neF; first | assumption | (apply Ne.symm; assumption) | omega) | (apply At.extF; assumption))), by (repeat (first | exact Fr.refl _ _ | assumption | apply Fr.drewN | apply Fr.alloc | (apply Fr.transF; assumption) | (refine Fr.setRow ?_ _ (by first | exact Or.inr (by (first | omega | (simp; done) | (simp; omega))) | (exact Or.inl (by first | assumption | (simp; done)))))))⟩ ?_
  rintro w1 ⟨hdb, hat, hx1⟩
  repeat (first | refine sp ?_ | (refine is_load ?_; refine ld ?_) | (refine is_store ?_; refine sr ?_) | (refine is_alloc ?_; refine al ?_) | (refine is_box ?_; refine bx ?_) | (refine isl_load ?_; refine ldl ?_) | (refine isl_store ?_; refine srl ?_) | (refine isl_alloc ?_; refine all' ?_) | (refine isl_box ?_; refine bxl ?_) | refine dr Try.follows ?_)
  refine go_as 5 (u' := .slice (some ⟨w.heap.size + 1, 0, none⟩) n n) rfl (by simp) ?_
  refine go_loop (G := Nat) [14] (fun k => [.int .i64 (k : Int)]) [(2, ptr w.heap.size), (12, .slice sa l.length cap), (13, .int .i64 (l.length : Int)), (5, .slice (some ⟨w.heap.size + 1, 0, none⟩) n n)]
    (fun k w' => k ≤ l.length ∧ At w' w.heap.size [.slice s1 n c1, .slice s2 D.free.length c2] 36 ∧ At w' (w.heap.size + 1) (cellsF (fun j => [.int .i64 ((l.take k).count (j + 1) : Int)]) n) 3 ∧ Ext w w') (fun k => l.length - k) 0 rfl ⟨rfl, rfl, rfl, rfl, trivial⟩ ⟨by omega, hdb, by simpa using hat, hx1⟩ ?_
  clear hdb hat hx1
  rintro k w1 ⟨hk, hdb, hat, hx1⟩
  have hal := hat.lt
  by_cases hlt : k < l.length
  · obtain ⟨b, o, e, hbl, hcell⟩ := (hr.ext hx1).at (m := 1) (fun _ => rfl) (by omega) hlt
    subst e
    have e0 : w1.cell? ⟨b, o + k, none⟩ = some (.int .u32 (l[k] : Int)) := by have := hcell 0 (.int .u32 (l[k] : Int)) rfl; simpa using this
    have hbx := hb _ (List.getElem_mem hlt)
    have hts : l.take (k + 1) = l.take k ++ [l[k]] := List.take_succ_eq_append_getElem hlt
    generalize l[k] = x at *
    have hsz := hx1.size
    repeat (first | refine sp ?_ | (refine is_load ?_; refine ld ?_) | (refine is_store ?_; refine sr ?_) | (refine is_alloc ?_; refine al ?_) | (refine is_box ?_; refine bx ?_) | (refine isl_load ?_; refine ldl ?_) | (refine isl_store ?_; refine srl ?_) | (refine isl_alloc ?_; refine all' ?_) | (refine isl_box ?_; refine bxl ?_) | refine dr Try.follows ?_)
    refine go_call rfl rfl (a_slot w1 lo _ D x (hd0.ext hx1) (by omega) hbx) ?_
    rintro _ w2 ⟨rfl, hx2⟩
    replace hdb := hdb.ext hx2
    replace hat := hat.ext hx2
    have hx12 := hx1.trans hx2
    by_cases h1 : x = 0 ∨ n < x
    · rw [nobump h1, ← hts] at hat
      rw [show slotB D x = false from decide_eq_false (by omega)]
      repeat (first | refine sp ?_ | (refine is_load ?_; refine ld ?_) | (refine is_store ?_; refine sr ?_) | (refine is_alloc ?_; refine al ?_) | (refine is_box ?_; refine bx ?_) | (refine isl_load ?_; refine ldl ?_) | (refine isl_store ?_; refine srl ?_) | (refine isl_alloc ?_; refine all' ?_) | (refine isl_box ?_; refine bxl ?_) | refine dr Try.follows ?_)
      exact go_stop (G := Nat) (k + 1) rfl ⟨rfl, rfl, rfl, rfl, trivial⟩ ⟨hlt, hdb, hat, hx12⟩ (by show l.length - (k + 1) < l.length - k; omega)
    · rw [show slotB D x = true from decide_eq_true (by omega)]
      obtain ⟨y, rfl⟩ : ∃ y, x = y + 1 := ⟨x - 1, by omega⟩
      have hcl : (cellsF (fun j => [Value.int .i64 ((l.take k).count (j + 1) : Int)]) n)[0 + y]? = some (.int .i64 ((l.take k).count (y + 1) : Int)) := by
        rw [Nat.zero_add]; exact one_get (f := fun j => Value.int .i64 ((l.take k).count (j + 1) : Int)) (by omega)
      have hcb : (l.take k).count (y + 1) ≤ 1000000 := Nat.le_trans List.count_le_length (by rw [List.length_take]; omega)
      repeat (first | refine sp ?_ | (refine is_load ?_; refine ld ?_) | (refine is_store ?_; refine sr ?_) | (refine is_alloc ?_; refine al ?_) | (refine is_box ?_; refine bx ?_) | (refine isl_load ?_; refine ldl ?_) | (refine isl_store ?_; refine srl ?_) | (refine isl_alloc ?_; refine all' ?_) | (refine isl_box ?_; refine bxl ?_) | refine dr Try.follows ?_)
      refine go_as 23 (u' := .int .u32 (y : Int)) rfl (by congr 1; omega) ?_
      repeat (first | refine sp ?_ | (refine is_load ?_; refine ld ?_) | (refine is_store ?_; refine sr ?_) | (refine is_alloc ?_; refine al ?_) | (refine is_box ?_; refine bx ?_) | (refine isl_load ?_; refine ldl ?_) | (refine isl_store ?_; refine srl ?_) | (refine isl_alloc ?_; refine all' ?_) | (refine isl_box ?_; refine bxl ?_) | refine dr Try.follows ?_)
      rw [show (cellsF (fun j => [Value.int .i64 ((l.take k).count (j + 1) : Int)]) n).set (0 + y) (.int .i64 (((l.take k).count (y + 1) : Int) + 1)) = cellsF (fun j => [Value.int .i64 ((l.take (k + 1)).count (j + 1) : Int)]) n by rw [Nat.zero_add, hts]; exact bump (by omega)]
      exact go_stop (G := Nat) (k + 1) rfl ⟨rfl, rfl, rfl, rfl, trivial⟩ ⟨hlt, by (repeat (first | assumption | (refine At.new' (by (first | omega | (simp; done) | (simp; omega))) _ _) | apply At.alloc | apply At.drewN | apply At.setRow | (apply At.setRow_neF; first | assumption | (apply Ne.symm; assumption) | omega) | (apply At.extF; assumption))), by (repeat (first | assumption | (refine At.new' (by (first | omega | (simp; done) | (simp; omega))) _ _) | apply At.alloc | apply At.drewN | apply At.setRow | (apply At.setRow_neF; first | assumption | (apply Ne.symm; assumption) | omega) | (apply At.extF; assumption))), by (repeat (first | exact Fr.refl _ _ | assumption | apply Fr.drewN | apply Fr.alloc | (apply Fr.transF; assumption) | (refine Fr.setRow ?_ _ (by first | exact Or.inr (by (first | omega | (simp; done) | (simp; omega))) | (exact Or.inl (by first | assumption | (simp; done)))))))⟩ (by show l.length - (k + 1) < l.length - k; omega)
  · obtain rfl : k = l.length := by omega
    repeat (first | refine sp ?_ | (refine is_load ?_; refine ld ?_) | (refine is_store ?_; refine sr ?_) | (refine is_alloc ?_; refine al ?_) | (refine is_box ?_; refine bx ?_) | (refine isl_load ?_; refine ldl ?_) | (refine isl_store ?_; refine srl ?_) | (refine isl_alloc ?_; refine all' ?_) | (refine isl_box ?_; refine bxl ?_) | refine dr Try.follows ?_)
    exact go_ret1 rfl rfl ⟨_, rfl, ⟨_, rfl, by omega, by rw [List.take_length] at hat; exact hat⟩, hx1⟩

end Go.Proofs.Ytapocbahkeoeoaa
