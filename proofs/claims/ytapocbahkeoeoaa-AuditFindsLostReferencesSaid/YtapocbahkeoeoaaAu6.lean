/-
  The reachable slots are closed.
-/
import Derived.Test.YtapocbahkeoeoaaAu5
set_option linter.unusedVariables false
namespace Go.Proofs.Ytapocbahkeoeoaa
open Go.Vc

theorem inB_set {l : List Nat} {k n : Nat} (hk : k < l.length) (hx : l[k] < n) :
    (cellsF (fun j => [Value.bool (decide (j ∈ l.take k))]) n).set (0 + l[k]) (.bool true) = cellsF (fun j => [Value.bool (decide (j ∈ l.take (k + 1)))]) n := by
  have hm : ∀ j, j ∈ l.take (k + 1) ↔ j ∈ l.take k ∨ j = l[k] := fun j => by
    rw [List.take_succ_eq_append_getElem hk, List.mem_append, List.mem_singleton]
  rw [Nat.zero_add, one_set' Value.bool (fun j => decide (j ∈ l.take k)) hx]
  refine cellsF_congr fun j _ => ?_
  unfold upd
  by_cases e : j = l[k]
  · rw [if_pos e, decide_eq_true ((hm j).2 (Or.inr e))]
  · rw [if_neg e]
    congr 2
    exact decide_eq_decide.2 ⟨fun h => (hm j).2 (Or.inl h), fun h => ((hm j).1 h).resolve_right e⟩

set_option maxHeartbeats 8000000 in
theorem c_LawClosed (w : World) (lo hi : Nat) (v rv : Value) (D : Dp) (roots : List Nat) (hd : DpAt w lo v D) (hD : DumpOk D) (hr : RdU w hi rv u32c roots) (hh : hi ≤ w.heap.size) (hrb : ∀ x ∈ roots, x < 4294967296) :
    Calls Try.prog 5 [v, rv].toArray w (Ret fun r w' => r = .bool true ∧ Ext w w') := by
  obtain ⟨sv, fv, rfl, hs, hf⟩ := id hd
  have hs' := hs.up
  obtain ⟨s1, c1, rfl, h1, _, _⟩ := hs
  obtain ⟨s2, c2, rfl, h2, _, _⟩ := hf
  obtain ⟨sa, cap, rfl, hlc, hrc, _⟩ := id hr
  refine calls_go Try.func5 rfl Try.ntmps5 (Nat.le_of_ble_eq_true rfl) ?_
  repeat (first | refine sp ?_ | (refine is_load ?_; refine ld ?_) | (refine is_store ?_; refine sr ?_) | (refine is_alloc ?_; refine al ?_) | (refine is_box ?_; refine bx ?_) | (refine isl_load ?_; refine ldl ?_) | (refine isl_store ?_; refine srl ?_) | (refine isl_alloc ?_; refine all' ?_) | (refine isl_box ?_; refine bxl ?_) | refine dr Try.follows ?_)
  refine go_name (F := fun w1 => At w1 w.heap.size [.slice s1 D.slots.length c1, .slice s2 D.free.length c2] 36 ∧ Ext w w1) ⟨by (repeat (first | assumption | (refine At.new' (by (first | omega | (simp; done) | (simp; omega))) _ _) | apply At.alloc | apply At.drewN | apply At.setRow | (apply At.setRow_neF; first | assumption | (apply Ne.symm; assumption) | omega) | (apply At.extF; assumption))), by (repeat (first | exact Fr.refl _ _ | assumption | apply Fr.drewN | apply Fr.alloc | (apply Fr.transF; assumption) | (refine Fr.setRow ?_ _ (by first | exact Or.inr (by (first | omega | (simp; done) | (simp; omega))) | (exact Or.inl (by first | assumption | (simp; done)))))))⟩ ?_
  rintro w1 ⟨hdb, hx1⟩
  refine go_call rfl rfl (c_large w1 lo hi _ _ D roots (hd.ext hx1) (hr.ext hx1)) ?_
  rintro _ w2 ⟨rfl, hx2⟩
  have hx2' := hx1.trans hx2
  replace hdb := hdb.ext hx2
  by_cases hl : 60 < D.slots.length ∨ 60 < D.free.length ∨ 60 < roots.length
  · rw [show decide (60 < D.slots.length ∨ 60 < D.free.length ∨ 60 < roots.length) = true from decide_eq_true hl]
    repeat (first | refine sp ?_ | (refine is_load ?_; refine ld ?_) | (refine is_store ?_; refine sr ?_) | (refine is_alloc ?_; refine al ?_) | (refine is_box ?_; refine bx ?_) | (refine isl_load ?_; refine ldl ?_) | (refine isl_store ?_; refine srl ?_) | (refine isl_alloc ?_; refine all' ?_) | (refine isl_box ?_; refine bxl ?_) | refine dr Try.follows ?_)
    refine go_call rfl rfl (c_awake6 w2) ?_
    rintro _ w3 ⟨rfl, hx3⟩
    repeat (first | refine sp ?_ | (refine is_load ?_; refine ld ?_) | (refine is_store ?_; refine sr ?_) | (refine is_alloc ?_; refine al ?_) | (refine is_box ?_; refine bx ?_) | (refine isl_load ?_; refine ldl ?_) | (refine isl_store ?_; refine srl ?_) | (refine isl_alloc ?_; refine all' ?_) | (refine isl_box ?_; refine bxl ?_) | refine dr Try.follows ?_)
    exact go_ret1 rfl rfl ⟨_, rfl, rfl, hx2'.trans hx3⟩
  rw [show decide (60 < D.slots.length ∨ 60 < D.free.length ∨ 60 < roots.length) = false from decide_eq_false hl]
  have hok : D.Ok := ⟨by omega, by omega, hD.kid, hD.fr⟩
  repeat (first | refine sp ?_ | (refine is_load ?_; refine ld ?_) | (refine is_store ?_; refine sr ?_) | (refine is_alloc ?_; refine al ?_) | (refine is_box ?_; refine bx ?_) | (refine isl_load ?_; refine ldl ?_) | (refine isl_store ?_; refine srl ?_) | (refine isl_alloc ?_; refine all' ?_) | (refine isl_box ?_; refine bxl ?_) | refine dr Try.follows ?_)
  refine go_call rfl rfl (a_Reachable w2 lo hi _ _ D roots (hd.ext hx2') hok (hr.ext hx2') (Nat.le_trans hh hx2'.size) (by omega) hrb) ?_
  rintro r1 w3 ⟨P, hr1, hP, hx3⟩
  have hx3' := hx2'.trans hx3
  replace hdb := hdb.ext hx3
  have hmem := RL_mem P D.slots.length
  have hsort := RL_sorted P D.slots.length
  have hRl := RL_len P D.slots.length
  generalize RL P D.slots.length = R at *
  have hal : ∀ x ∈ R, 1 ≤ x ∧ x ≤ D.slots.length ∧ D.al x = true := by
    intro x hx
    obtain ⟨a, b, c⟩ := (hmem x).1 hx
    obtain ⟨y, rfl⟩ : ∃ y, x = y + 1 := ⟨x - 1, by omega⟩
    exact ⟨a, b, ((hP y (by omega)).1 (by simpa using c)).al⟩
  have hcl : ∀ x, D.Reach roots x → x ∈ R := by
    intro x hx
    obtain ⟨y, rfl, hy, _⟩ := Dp.al_lt hx.al
    exact (hmem _).2 ⟨by omega, by omega, by simpa using (hP y hy).2 hx⟩
  obtain ⟨rs, rc, rfl, hrcv, hrr⟩ := hr1.slice
  repeat (first | refine sp ?_ | (refine is_load ?_; refine ld ?_) | (refine is_store ?_; refine sr ?_) | (refine is_alloc ?_; refine al ?_) | (refine is_box ?_; refine bx ?_) | (refine isl_load ?_; refine ldl ?_) | (refine isl_store ?_; refine srl ?_) | (refine isl_alloc ?_; refine all' ?_) | (refine isl_box ?_; refine bxl ?_) | refine dr Try.follows ?_)
  refine go_makeF (c := D.slots.length + 1) rfl rfl rfl rfl rfl (by omega) (by unfold maxLen; omega) rfl ?_
  refine go_name (F := fun w4 => At w4 w.heap.size [.slice s1 D.slots.length c1, .slice s2 D.free.length c2] 36 ∧ At w4 w3.heap.size (cellsF (fun _ => [.bool false]) (D.slots.length + 1)) 4 ∧ Ext w3 w4) ⟨by (repeat (first | assumption | (refine At.new' (by (first | omega | (simp; done) | (simp; omega))) _ _) | apply At.alloc | apply At.drewN | apply At.setRow | (apply At.setRow_neF; first | assumption | (apply Ne.symm; assumption) | omega) | (apply At.extF; assumption))), by (repeat (first | assumption | (refine At.new' (by (first | omega | (simp; done) | (simp; omega))) _ _) | apply At.alloc | apply At.drewN | apply At.setRow | (apply At.setRow_neF; first | assumption | (apply Ne.symm; assumption) | omega) | (apply At.extF; assumption))), by (repeat (first | exact Fr.refl _ _ | assumption | apply Fr.drewN | apply Fr.alloc | (apply Fr.transF; assumption) | (refine Fr.setRow ?_ _ (by first | exact Or.inr (by (first | omega | (simp; done) | (simp; omega))) | (exact Or.inl (by first | assumption | (simp; done)))))))⟩ ?_
  rintro w4 ⟨hdb, hib, hx4⟩
  have hsz3 := hx3'.size
  generalize w3.heap.size = ib at *
  replace hr1 := (hr1.ext hx4).mono hx2'.size
  have hx4' := hx3'.trans hx4
  clear hx3 hx4 hx3' hrr
  repeat (first | refine sp ?_ | (refine is_load ?_; refine ld ?_) | (refine is_store ?_; refine sr ?_) | (refine is_alloc ?_; refine al ?_) | (refine is_box ?_; refine bx ?_) | (refine isl_load ?_; refine ldl ?_) | (refine isl_store ?_; refine srl ?_) | (refine isl_alloc ?_; refine all' ?_) | (refine isl_box ?_; refine bxl ?_) | refine dr Try.follows ?_)
  refine go_loop (G := Nat) [7] (fun k => [.int .i64 (k : Int)]) [(1, .slice sa roots.length cap), (2, ptr w.heap.size), (5, .slice rs R.length rc), (6, .slice (some ⟨ib, 0, none⟩) (D.slots.length + 1) (D.slots.length + 1))]
    (fun k w' => k ≤ R.length ∧ At w' w.heap.size [.slice s1 D.slots.length c1, .slice s2 D.free.length c2] 36 ∧ At w' ib (cellsF (fun j => [.bool (decide (j ∈ R.take k))]) (D.slots.length + 1)) 4 ∧ OwnN w' w.heap.size (.slice rs R.length rc) R ∧ Ext w w') (fun k => R.length - k) 0 rfl ⟨rfl, rfl, rfl, rfl, trivial⟩ ⟨by omega, hdb, by simpa using hib, hr1, hx4'⟩ ?_
  clear hdb hib hr1 hx4'
  rintro k w5 ⟨hk, hdb, hib, hr1, hx5⟩
  by_cases hlt : k < R.length
  · obtain ⟨h1x, h2x, h3x⟩ := hal _ (List.getElem_mem hlt)
    have hset := inB_set (n := D.slots.length + 1) hlt (by omega)
    have hrr := hr1.slice
    obtain ⟨_, _, heq, _, hrr⟩ := hrr
    injection heq with e1 _ e2
    subst e1; subst e2
    obtain ⟨b, o, rfl, hcell⟩ := hrr k (.int .u32 ((R[k] : Nat) : Int)) (by simp [hlt])
    have hprev : ∀ j, k = j + 1 → ∃ z : Nat, w5.cell? ⟨b, o + j, none⟩ = some (.int .u32 (z : Int)) ∧ z < R[k] := by
      intro j hj
      have hjl : j < R.length := by omega
      obtain ⟨b', o', e, hc⟩ := hrr j (.int .u32 ((R[j] : Nat) : Int)) (by simp [hjl])
      simp only [Option.some.injEq, Addr.mk.injEq, and_true] at e
      obtain ⟨rfl, rfl⟩ := e
      exact ⟨R[j], hc, List.pairwise_iff_getElem.1 hsort j k hjl hlt (by omega)⟩
    generalize R[k] = x at *
    obtain ⟨y, rfl⟩ : ∃ y, x = y + 1 := ⟨x - 1, by omega⟩
    have hyl : y < D.slots.length := by omega
    rw [Dp.al_get hyl] at h3x
    obtain ⟨b2, o2, e, _, hcell2⟩ := (hs'.ext hx5).at (m := 11) slt_len (by omega) hyl
    subst e
    have e9 := hcell2 0 (.bool true) (by rw [← h3x]; rfl)
    have hne := hdb.ne hib (by decide)
    have hib0 := hib.lt
    cases k with
    | zero =>
      repeat (first | refine sp ?_ | (refine is_load ?_; refine ld ?_) | (refine is_alloc ?_; refine al ?_) | (refine is_box ?_; refine bx ?_) | (refine isl_load ?_; refine ldl ?_) | (refine isl_alloc ?_; refine all' ?_) | (refine isl_box ?_; refine bxl ?_) | refine dr Try.follows ?_)
      refine go_as 68 (u' := .int .u32 (y : Int)) rfl (by congr 1; omega) ?_
      repeat (first | refine sp ?_ | (refine is_load ?_; refine ld ?_) | (refine is_alloc ?_; refine al ?_) | (refine is_box ?_; refine bx ?_) | (refine isl_load ?_; refine ldl ?_) | (refine isl_alloc ?_; refine all' ?_) | (refine isl_box ?_; refine bxl ?_) | refine dr Try.follows ?_)
      refine go_store rfl rfl (st_at (hib.drewN 1) (by simp; omega) rfl) ?_
      rw [hset]
      repeat (first | refine sp ?_ | (refine is_load ?_; refine ld ?_) | (refine is_alloc ?_; refine al ?_) | (refine is_box ?_; refine bx ?_) | (refine isl_load ?_; refine ldl ?_) | (refine isl_alloc ?_; refine all' ?_) | (refine isl_box ?_; refine bxl ?_) | refine dr Try.follows ?_)
      exact go_stop (G := Nat) (_ + 1) rfl ⟨rfl, rfl, rfl, rfl, trivial⟩ ⟨hlt, by (repeat (first | assumption | (refine At.new' (by (first | omega | (simp; done) | (simp; omega))) _ _) | apply At.alloc | apply At.drewN | apply At.setRow | (apply At.setRow_neF; first | assumption | (apply Ne.symm; assumption) | omega) | (apply At.extF; assumption))), (hib.drewN 1).setRow _, OwnN.setRow (hr1.ext ((Fr.refl _ _).drewN 1)) (hib.drewN 1) (by decide) _, Fr.setRow (hx5.drewN 1) _ (Or.inr hsz3)⟩ (by show R.length - (_ + 1) < R.length - _; omega)
    | succ j =>
      obtain ⟨z, hz1, hz2⟩ := hprev j rfl
      repeat (first | refine sp ?_ | (refine is_load ?_; refine ld ?_) | (refine is_alloc ?_; refine al ?_) | (refine is_box ?_; refine bx ?_) | (refine isl_load ?_; refine ldl ?_) | (refine isl_alloc ?_; refine all' ?_) | (refine isl_box ?_; refine bxl ?_) | refine dr Try.follows ?_)
      refine go_as 55 (u' := .int .i64 (j : Int)) rfl (by congr 1; omega) ?_
      repeat (first | refine sp ?_ | (refine is_load ?_; refine ld ?_) | (refine is_alloc ?_; refine al ?_) | (refine is_box ?_; refine bx ?_) | (refine isl_load ?_; refine ldl ?_) | (refine isl_alloc ?_; refine all' ?_) | (refine isl_box ?_; refine bxl ?_) | refine dr Try.follows ?_)
      refine go_as 68 (u' := .int .u32 (y : Int)) rfl (by congr 1; omega) ?_
      repeat (first | refine sp ?_ | (refine is_load ?_; refine ld ?_) | (refine is_alloc ?_; refine al ?_) | (refine is_box ?_; refine bx ?_) | (refine isl_load ?_; refine ldl ?_) | (refine isl_alloc ?_; refine all' ?_) | (refine isl_box ?_; refine bxl ?_) | refine dr Try.follows ?_)
      refine go_store rfl rfl (st_at (hib.drewN 1) (by simp; omega) rfl) ?_
      rw [hset]
      repeat (first | refine sp ?_ | (refine is_load ?_; refine ld ?_) | (refine is_alloc ?_; refine al ?_) | (refine is_box ?_; refine bx ?_) | (refine isl_load ?_; refine ldl ?_) | (refine isl_alloc ?_; refine all' ?_) | (refine isl_box ?_; refine bxl ?_) | refine dr Try.follows ?_)
      exact go_stop (G := Nat) (_ + 1) rfl ⟨rfl, rfl, rfl, rfl, trivial⟩ ⟨hlt, by (repeat (first | assumption | (refine At.new' (by (first | omega | (simp; done) | (simp; omega))) _ _) | apply At.alloc | apply At.drewN | apply At.setRow | (apply At.setRow_neF; first | assumption | (apply Ne.symm; assumption) | omega) | (apply At.extF; assumption))), (hib.drewN 1).setRow _, OwnN.setRow (hr1.ext ((Fr.refl _ _).drewN 1)) (hib.drewN 1) (by decide) _, Fr.setRow (hx5.drewN 1) _ (Or.inr hsz3)⟩ (by show R.length - (_ + 1) < R.length - _; omega)
  · obtain rfl : k = R.length := by omega
    rw [List.take_length] at hib
    have hin : ∀ x, x ∈ R → (cellsF (fun j => [Value.bool (decide (j ∈ R))]) (D.slots.length + 1))[0 + x]? = some (.bool true) := fun x hx => by
      rw [Nat.zero_add, one_get (f := fun j => Value.bool (decide (j ∈ R))) (by have := (hal x hx).2.1; omega), decide_eq_true hx]
    repeat (first | refine sp ?_ | (refine is_load ?_; refine ld ?_) | (refine is_store ?_; refine sr ?_) | (refine is_alloc ?_; refine al ?_) | (refine is_box ?_; refine bx ?_) | (refine isl_load ?_; refine ldl ?_) | (refine isl_store ?_; refine srl ?_) | (refine isl_alloc ?_; refine all' ?_) | (refine isl_box ?_; refine bxl ?_) | refine dr Try.follows ?_)
    refine go_loop (G := Nat) [8] (fun k => [.int .i64 (k : Int)]) [(1, .slice sa roots.length cap), (2, ptr w.heap.size), (5, .slice rs R.length rc), (6, .slice (some ⟨ib, 0, none⟩) (D.slots.length + 1) (D.slots.length + 1))]
      (fun k w' => k ≤ roots.length ∧ At w' w.heap.size [.slice s1 D.slots.length c1, .slice s2 D.free.length c2] 36 ∧ At w' ib (cellsF (fun j => [.bool (decide (j ∈ R))]) (D.slots.length + 1)) 4 ∧ OwnN w' w.heap.size (.slice rs R.length rc) R ∧ Ext w w') (fun k => roots.length - k) 0 rfl ⟨rfl, rfl, rfl, rfl, trivial⟩ ⟨by omega, hdb, hib, hr1, hx5⟩ ?_
    clear hdb hib hr1 hx5
    rintro k w5 ⟨hk, hdb, hib, hr1, hx5⟩
    by_cases hlt : k < roots.length
    · obtain ⟨b, o, e, hbl, hcell⟩ := (hr.ext hx5).at (m := 1) (fun _ => rfl) (by omega) hlt
      subst e
      have e0 : w5.cell? ⟨b, o + k, none⟩ = some (.int .u32 (roots[k] : Int)) := by have := hcell 0 (.int .u32 (roots[k] : Int)) rfl; simpa using this
      have hbx := hrb _ (List.getElem_mem hlt)
      have hrm : roots[k] ∈ roots := List.getElem_mem hlt
      generalize roots[k] = x at *
      have hxd : Ext w5 (w5.drewN 1) := (Fr.refl _ _).drewN 1
      repeat (first | refine sp ?_ | (refine is_load ?_; refine ld ?_) | (refine is_store ?_; refine sr ?_) | (refine is_alloc ?_; refine al ?_) | (refine is_box ?_; refine bx ?_) | (refine isl_load ?_; refine ldl ?_) | (refine isl_store ?_; refine srl ?_) | (refine isl_alloc ?_; refine all' ?_) | (refine isl_box ?_; refine bxl ?_))
      refine go_drawE (Fr (fun _ => False) w5) 0 Try.follows (by kernel_rfl) (by kernel_rfl) (by kernel_rfl) ((Fr.refl _ _).drewN 1) ?_
      repeat (first | refine sp ?_ | (refine is_load ?_; refine ld ?_) | (refine is_store ?_; refine sr ?_) | (refine is_alloc ?_; refine al ?_) | (refine is_box ?_; refine bx ?_) | (refine isl_load ?_; refine ldl ?_) | (refine isl_store ?_; refine srl ?_) | (refine isl_alloc ?_; refine all' ?_) | (refine isl_box ?_; refine bxl ?_))
      refine gol_call rfl rfl (c_Allocated _ lo _ D x (hd.ext (hx5.trans hxd)) (by omega) hbx) ?_
      rintro _ w6 ⟨rfl, hx6⟩
      have hx6' : Ext w5 w6 := hxd.trans hx6
      refine ⟨hx6', ?_⟩
      cases hax : D.al x with
      | false =>
        repeat (first | refine sp ?_ | (refine is_load ?_; refine ld ?_) | (refine is_store ?_; refine sr ?_) | (refine is_alloc ?_; refine al ?_) | (refine is_box ?_; refine bx ?_) | (refine isl_load ?_; refine ldl ?_) | (refine isl_store ?_; refine srl ?_) | (refine isl_alloc ?_; refine all' ?_) | (refine isl_box ?_; refine bxl ?_))
        exact go_stop (G := Nat) (k + 1) rfl ⟨rfl, rfl, rfl, rfl, trivial⟩ ⟨hlt, hdb.ext hx6', hib.ext hx6', hr1.ext hx6', hx5.trans hx6'⟩ (by show roots.length - (k + 1) < roots.length - k; omega)
      | true =>
        have hxR := hcl x (.root hrm hax)
        have hxi := hin x hxR
        have hxb := (hal x hxR).2.1
        repeat (first | refine sp ?_ | (refine is_load ?_; refine ld ?_) | (refine is_store ?_; refine sr ?_) | (refine is_alloc ?_; refine al ?_) | (refine is_box ?_; refine bx ?_) | (refine isl_load ?_; refine ldl ?_) | (refine isl_store ?_; refine srl ?_) | (refine isl_alloc ?_; refine all' ?_) | (refine isl_box ?_; refine bxl ?_))
        exact go_stop (G := Nat) (k + 1) rfl ⟨rfl, rfl, rfl, rfl, trivial⟩ ⟨hlt, hdb.ext hx6', hib.ext hx6', hr1.ext hx6', hx5.trans hx6'⟩ (by show roots.length - (k + 1) < roots.length - k; omega)
    obtain rfl : k = roots.length := by omega
    repeat (first | refine sp ?_ | (refine is_load ?_; refine ld ?_) | (refine is_store ?_; refine sr ?_) | (refine is_alloc ?_; refine al ?_) | (refine is_box ?_; refine bx ?_) | (refine isl_load ?_; refine ldl ?_) | (refine isl_store ?_; refine srl ?_) | (refine isl_alloc ?_; refine all' ?_) | (refine isl_box ?_; refine bxl ?_) | refine dr Try.follows ?_)
    refine go_loop (G := Nat) [9] (fun k => [.int .i64 (k : Int)]) [(2, ptr w.heap.size), (5, .slice rs R.length rc), (6, .slice (some ⟨ib, 0, none⟩) (D.slots.length + 1) (D.slots.length + 1))]
      (fun k w' => k ≤ R.length ∧ At w' w.heap.size [.slice s1 D.slots.length c1, .slice s2 D.free.length c2] 36 ∧ At w' ib (cellsF (fun j => [.bool (decide (j ∈ R))]) (D.slots.length + 1)) 4 ∧ OwnN w' w.heap.size (.slice rs R.length rc) R ∧ Ext w w') (fun k => R.length - k) 0 rfl ⟨rfl, rfl, rfl, trivial⟩ ⟨by omega, hdb, hib, hr1, hx5⟩ ?_
    clear hdb hib hr1 hx5
    rintro k w5 ⟨hk, hdb, hib, hr1, hx5⟩
    by_cases hlt : k < R.length
    · have hRm := List.getElem_mem hlt
      obtain ⟨h1x, h2x, h3x⟩ := hal _ hRm
      have hrr := hr1.slice
      obtain ⟨_, _, heq, _, hrr⟩ := hrr
      injection heq with e1 _ e2
      subst e1; subst e2
      obtain ⟨b, o, rfl, hcell⟩ := hrr k (.int .u32 ((R[k] : Nat) : Int)) (by simp [hlt])
      generalize R[k] = x at *
      obtain ⟨y, rfl⟩ : ∃ y, x = y + 1 := ⟨x - 1, by omega⟩
      have hyl : y < D.slots.length := by omega
      have hyr : D.Reach roots (y + 1) := (hP y hyl).1 (by simpa using ((hmem _).1 hRm).2.2)
      obtain ⟨b2, o2, e, _, hcell2⟩ := (hs'.ext hx5).at (m := 11) slt_len (by omega) hyl
      subst e
      have hkid := hok.kid _ (List.getElem_mem hyl)
      have hkd : D.kd (y + 1) = D.slots[y].kd := by simp only [Dp.kd, List.getElem?_eq_getElem hyl]
      generalize D.slots[y] = s at *
      have hkl : D.al s.nd.left = true → s.nd.left ∈ R := fun h => hcl _ (.kid hyr (by rw [hkd]; simp [Slt.kd]) h)
      have hkr : D.al s.nd.right = true → s.nd.right ∈ R := fun h => hcl _ (.kid hyr (by rw [hkd]; simp [Slt.kd]) h)
      have hxd : Ext w5 (w5.drewN 1) := (Fr.refl _ _).drewN 1
      repeat (first | refine sp ?_ | (refine is_load ?_; refine ld ?_) | (refine is_store ?_; refine sr ?_) | (refine is_alloc ?_; refine al ?_) | (refine is_box ?_; refine bx ?_) | (refine isl_load ?_; refine ldl ?_) | (refine isl_store ?_; refine srl ?_) | (refine isl_alloc ?_; refine all' ?_) | (refine isl_box ?_; refine bxl ?_))
      refine go_drawE (Fr (fun _ => False) w5) 0 Try.follows (by kernel_rfl) (by kernel_rfl) (by kernel_rfl) ((Fr.refl _ _).drewN 1) ?_
      repeat (first | refine sp ?_ | (refine is_load ?_; refine ld ?_) | (refine is_store ?_; refine sr ?_) | (refine is_alloc ?_; refine al ?_) | (refine is_box ?_; refine bx ?_) | (refine isl_load ?_; refine ldl ?_) | (refine isl_store ?_; refine srl ?_) | (refine isl_alloc ?_; refine all' ?_) | (refine isl_box ?_; refine bxl ?_))
      refine go_as 114 (u' := .int .u32 (y : Int)) rfl (by congr 1; omega) ?_
      repeat (first | refine sp ?_ | (refine is_load ?_; refine ld ?_) | (refine is_store ?_; refine sr ?_) | (refine is_alloc ?_; refine al ?_) | (refine is_box ?_; refine bx ?_) | (refine isl_load ?_; refine ldl ?_) | (refine isl_store ?_; refine srl ?_) | (refine isl_alloc ?_; refine all' ?_) | (refine isl_box ?_; refine bxl ?_))
      refine gol_load (v := .agg s.nd.cells.toArray) rfl rfl (ldD_cells (m := 8) (w := w5) rfl (by decide) (fun j u hj => by
        rw [addr_add]
        have := hcell2 (3 + j) u (by
          show (Slt.cells s)[3 + j]? = some u
          unfold Slt.cells
          exact (show _ = _ by rw [show 3 + j = j + 3 by omega]; rfl).trans hj)
        rw [show o2 + y * 11 + 3 + j = o2 + y * 11 + (3 + j) by omega]; exact this) id) ?_
      unfold Nd.cells
      have hdl := hdb.lt
      repeat (first | refine sp ?_ | (refine is_load ?_; refine ld ?_) | (refine is_store ?_; refine sr ?_) | (refine is_alloc ?_; refine al ?_) | (refine is_box ?_; refine bx ?_) | (refine isl_load ?_; refine ldl ?_) | (refine isl_store ?_; refine srl ?_) | (refine isl_alloc ?_; refine all' ?_) | (refine isl_box ?_; refine bxl ?_))
      refine go_name (F := fun w6 => At w6 w5.heap.size s.nd.cells 50 ∧ At w6 w.heap.size [.slice (some ⟨b2, o2, none⟩) D.slots.length c1, .slice s2 D.free.length c2] 36 ∧ At w6 ib (cellsF (fun j => [.bool (decide (j ∈ R))]) (D.slots.length + 1)) 4 ∧ Ext w5 w6) ⟨by unfold Nd.cells; (repeat (first | assumption | (refine At.new' (by (first | omega | (simp; done) | (simp; omega))) _ _) | apply At.alloc | apply At.drewN | apply At.setRow | (apply At.setRow_neF; first | assumption | (apply Ne.symm; assumption) | omega) | (apply At.extF; assumption))), by (repeat (first | assumption | (refine At.new' (by (first | omega | (simp; done) | (simp; omega))) _ _) | apply At.alloc | apply At.drewN | apply At.setRow | (apply At.setRow_neF; first | assumption | (apply Ne.symm; assumption) | omega) | (apply At.extF; assumption))), by have := hib.lt; (repeat (first | assumption | (refine At.new' (by (first | omega | (simp; done) | (simp; omega))) _ _) | apply At.alloc | apply At.drewN | apply At.setRow | (apply At.setRow_neF; first | assumption | (apply Ne.symm; assumption) | omega) | (apply At.extF; assumption))), by (repeat (first | exact Fr.refl _ _ | assumption | apply Fr.drewN | apply Fr.alloc | (apply Fr.transF; assumption) | (refine Fr.setRow ?_ _ (by first | exact Or.inr (by (first | omega | (simp; done) | (simp; omega))) | (exact Or.inl (by first | assumption | (simp; done)))))))⟩ ?_
      rintro w6 ⟨hnb, hdb6, hib6, hx6⟩
      clear hdb hib
      unfold Nd.cells at hnb
      repeat (first | refine sp ?_ | (refine is_load ?_; refine ld ?_) | (refine is_store ?_; refine sr ?_) | (refine is_alloc ?_; refine al ?_) | (refine is_box ?_; refine bx ?_) | (refine isl_load ?_; refine ldl ?_) | (refine isl_store ?_; refine srl ?_) | (refine isl_alloc ?_; refine all' ?_) | (refine isl_box ?_; refine bxl ?_))
      refine go_call rfl rfl (c_Allocated w6 lo _ D s.nd.left (hd.ext (hx5.trans hx6)) (by omega) hkid.1) ?_
      rintro _ w7 ⟨rfl, hx7⟩
      replace hnb := hnb.ext hx7
      replace hdb6 := hdb6.ext hx7
      replace hib6 := hib6.ext hx7
      replace hx6 := hx6.trans hx7
      cases ha1 : D.al s.nd.left with
      | false =>
        repeat (first | refine sp ?_ | (refine is_load ?_; refine ld ?_) | (refine is_store ?_; refine sr ?_) | (refine is_alloc ?_; refine al ?_) | (refine is_box ?_; refine bx ?_) | (refine isl_load ?_; refine ldl ?_) | (refine isl_store ?_; refine srl ?_) | (refine isl_alloc ?_; refine all' ?_) | (refine isl_box ?_; refine bxl ?_))
        refine go_call rfl rfl (c_Allocated w7 lo _ D s.nd.right (hd.ext (hx5.trans hx6)) (by omega) hkid.2) ?_
        rintro _ w8 ⟨rfl, hx8⟩
        replace hnb := hnb.ext hx8
        replace hdb6 := hdb6.ext hx8
        replace hib6 := hib6.ext hx8
        replace hx6 := hx6.trans hx8
        cases ha2 : D.al s.nd.right with
        | false =>
          repeat (first | refine sp ?_ | (refine is_load ?_; refine ld ?_) | (refine is_store ?_; refine sr ?_) | (refine is_alloc ?_; refine al ?_) | (refine is_box ?_; refine bx ?_) | (refine isl_load ?_; refine ldl ?_) | (refine isl_store ?_; refine srl ?_) | (refine isl_alloc ?_; refine all' ?_) | (refine isl_box ?_; refine bxl ?_))
          exact go_stop (G := Nat) (k + 1) rfl ⟨rfl, rfl, rfl, trivial⟩ ⟨hlt, hdb6, hib6, hr1.ext hx6, hx5.trans hx6⟩ (by show R.length - (k + 1) < R.length - k; omega)
        | true =>
          have hxj := hin _ (hkr ha2)
          have hxc := (hal _ (hkr ha2)).2.1
          repeat (first | refine sp ?_ | (refine is_load ?_; refine ld ?_) | (refine is_store ?_; refine sr ?_) | (refine is_alloc ?_; refine al ?_) | (refine is_box ?_; refine bx ?_) | (refine isl_load ?_; refine ldl ?_) | (refine isl_store ?_; refine srl ?_) | (refine isl_alloc ?_; refine all' ?_) | (refine isl_box ?_; refine bxl ?_))
          exact go_stop (G := Nat) (k + 1) rfl ⟨rfl, rfl, rfl, trivial⟩ ⟨hlt, hdb6, hib6, hr1.ext hx6, hx5.trans hx6⟩ (by show R.length - (k + 1) < R.length - k; omega)
      | true =>
        have hxi := hin _ (hkl ha1)
        have hxb := (hal _ (hkl ha1)).2.1
        repeat (first | refine sp ?_ | (refine is_load ?_; refine ld ?_) | (refine is_store ?_; refine sr ?_) | (refine is_alloc ?_; refine al ?_) | (refine is_box ?_; refine bx ?_) | (refine isl_load ?_; refine ldl ?_) | (refine isl_store ?_; refine srl ?_) | (refine isl_alloc ?_; refine all' ?_) | (refine isl_box ?_; refine bxl ?_))
        refine go_call rfl rfl (c_Allocated w7 lo _ D s.nd.right (hd.ext (hx5.trans hx6)) (by omega) hkid.2) ?_
        rintro _ w8 ⟨rfl, hx8⟩
        replace hnb := hnb.ext hx8
        replace hdb6 := hdb6.ext hx8
        replace hib6 := hib6.ext hx8
        replace hx6 := hx6.trans hx8
        cases ha2 : D.al s.nd.right with
        | false =>
          repeat (first | refine sp ?_ | (refine is_load ?_; refine ld ?_) | (refine is_store ?_; refine sr ?_) | (refine is_alloc ?_; refine al ?_) | (refine is_box ?_; refine bx ?_) | (refine isl_load ?_; refine ldl ?_) | (refine isl_store ?_; refine srl ?_) | (refine isl_alloc ?_; refine all' ?_) | (refine isl_box ?_; refine bxl ?_))
          exact go_stop (G := Nat) (k + 1) rfl ⟨rfl, rfl, rfl, trivial⟩ ⟨hlt, hdb6, hib6, hr1.ext hx6, hx5.trans hx6⟩ (by show R.length - (k + 1) < R.length - k; omega)
        | true =>
          have hxj := hin _ (hkr ha2)
          have hxc := (hal _ (hkr ha2)).2.1
          repeat (first | refine sp ?_ | (refine is_load ?_; refine ld ?_) | (refine is_store ?_; refine sr ?_) | (refine is_alloc ?_; refine al ?_) | (refine is_box ?_; refine bx ?_) | (refine isl_load ?_; refine ldl ?_) | (refine isl_store ?_; refine srl ?_) | (refine isl_alloc ?_; refine all' ?_) | (refine isl_box ?_; refine bxl ?_))
          exact go_stop (G := Nat) (k + 1) rfl ⟨rfl, rfl, rfl, trivial⟩ ⟨hlt, hdb6, hib6, hr1.ext hx6, hx5.trans hx6⟩ (by show R.length - (k + 1) < R.length - k; omega)
    · obtain rfl : k = R.length := by omega
      repeat (first | refine sp ?_ | (refine is_load ?_; refine ld ?_) | (refine is_store ?_; refine sr ?_) | (refine is_alloc ?_; refine al ?_) | (refine is_box ?_; refine bx ?_) | (refine isl_load ?_; refine ldl ?_) | (refine isl_store ?_; refine srl ?_) | (refine isl_alloc ?_; refine all' ?_) | (refine isl_box ?_; refine bxl ?_) | refine dr Try.follows ?_)
      refine go_call rfl rfl (c_awake6 w5) ?_
      rintro _ w6 ⟨rfl, hx6⟩
      repeat (first | refine sp ?_ | (refine is_load ?_; refine ld ?_) | (refine is_store ?_; refine sr ?_) | (refine is_alloc ?_; refine al ?_) | (refine is_box ?_; refine bx ?_) | (refine isl_load ?_; refine ldl ?_) | (refine isl_store ?_; refine srl ?_) | (refine isl_alloc ?_; refine all' ?_) | (refine isl_box ?_; refine bxl ?_) | refine dr Try.follows ?_)
      exact go_ret1 rfl rfl ⟨_, rfl, rfl, hx5.trans hx6⟩

end Go.Proofs.Ytapocbahkeoeoaa
