/-
  The audit and its reference: the reachable slots as lists; comparisons; the example; the law 'AuditAgrees'.
-/
import Derived.Test.YtapocbahkeoeoaaAu4
set_option linter.unusedVariables false
namespace Go.Proofs.Ytapocbahkeoeoaa
open Go.Vc

/-- The marked slots in order. -/
def RL (P : Nat → Bool) : Nat → List Nat
  | 0 => []
  | n + 1 => RL P n ++ (if P n = true then [n + 1] else [])

theorem RL_len (P : Nat → Bool) : ∀ n, (RL P n).length ≤ n
  | 0 => Nat.le_refl _
  | n + 1 => by
    have := RL_len P n
    simp only [RL, List.length_append]
    split <;> simp <;> omega
theorem RL_mem (P : Nat → Bool) : ∀ n x, x ∈ RL P n ↔ 1 ≤ x ∧ x ≤ n ∧ P (x - 1) = true
  | 0, x => by simp [RL]; omega
  | n + 1, x => by
    simp only [RL, List.mem_append, RL_mem P n x]
    by_cases hp : P n = true
    · rw [if_pos hp]
      simp only [List.mem_singleton]
      constructor
      · rintro (h | rfl)
        · exact ⟨h.1, by omega, h.2.2⟩
        · exact ⟨by omega, by omega, by simpa using hp⟩
      · rintro ⟨h1, h2, h3⟩
        by_cases e : x = n + 1
        · exact Or.inr e
        · exact Or.inl ⟨h1, by omega, h3⟩
    · rw [if_neg hp]
      simp only [List.not_mem_nil, or_false]
      constructor
      · rintro h; exact ⟨h.1, by omega, h.2.2⟩
      · rintro ⟨h1, h2, h3⟩
        by_cases e : x = n + 1
        · subst e; simp at h3; exact absurd h3 hp
        · exact ⟨h1, by omega, h3⟩
theorem RL_sorted (P : Nat → Bool) : ∀ n, List.Pairwise (· < ·) (RL P n)
  | 0 => .nil
  | n + 1 => by
    simp only [RL]
    refine List.pairwise_append.2 ⟨RL_sorted P n, ?_, ?_⟩
    · split <;> simp
    · intro a ha b hb
      have := (RL_mem P n a).1 ha
      split at hb
      · simp at hb; omega
      · cases hb
theorem RL_congr {P Q : Nat → Bool} : ∀ {n}, (∀ j, j < n → P j = Q j) → RL P n = RL Q n
  | 0, _ => rfl
  | n + 1, h => by simp only [RL]; rw [RL_congr (fun j hj => h j (by omega)), h n (by omega)]
theorem Marks.eq {D : Dp} {roots : List Nat} {P Q : Nat → Bool} (h1 : Marks D roots P) (h2 : Marks D roots Q) (j : Nat) (hj : j < D.slots.length) : P j = Q j := by
  have a := h1 j hj
  have b := h2 j hj
  cases e1 : P j <;> cases e2 : Q j <;> simp_all
theorem finds_congr {D : Dp} {roots : List Nat} {P Q : Nat → Bool} (h : ∀ j, j < D.slots.length → P j = Q j) : finds D roots P = finds D roots Q := by
  unfold finds fdSlots
  congr 2
  rw [List.flatMap_def, List.flatMap_def]
  congr 1
  refine List.map_congr_left fun j hj => ?_
  have hj := List.mem_range.1 hj
  rw [List.getElem?_eq_getElem hj]
  simp only [fdSlot, fdLeak, h j hj]

set_option maxHeartbeats 1000000 in
theorem a_Reachable (w : World) (lo0 hi : Nat) (v rv : Value) (D : Dp) (roots : List Nat) (hd : DpAt w lo0 v D) (hok : D.Ok) (hr : RdU w hi rv u32c roots) (hh : hi ≤ w.heap.size) (hrl : roots.length ≤ 1000000) (hrb : ∀ x ∈ roots, x < 4294967296) :
    Calls Try.prog 26 [v, rv].toArray w (Ret fun r w' => ∃ P, OwnN w' w.heap.size r (RL P D.slots.length) ∧ Marks D roots P ∧ Ext w w') := by
  have hln := hok.len
  obtain ⟨sv, fv, rfl, hs, hf⟩ := id hd
  obtain ⟨s1, c1, rfl, h1, _, _⟩ := hs
  obtain ⟨s2, c2, rfl, h2, _, _⟩ := hf
  obtain ⟨sa, cap, rfl, hlc, hrc, _⟩ := id hr
  refine calls_go Try.func26 rfl Try.ntmps26 (Nat.le_of_ble_eq_true rfl) ?_
  repeat (first | refine sp ?_ | (refine is_load ?_; refine ld ?_) | (refine is_store ?_; refine sr ?_) | (refine is_alloc ?_; refine al ?_) | (refine is_box ?_; refine bx ?_) | (refine isl_load ?_; refine ldl ?_) | (refine isl_store ?_; refine srl ?_) | (refine isl_alloc ?_; refine all' ?_) | (refine isl_box ?_; refine bxl ?_) | refine dr Try.follows ?_)
  have hx0 : Ext w (w.alloc (.cells [Value.slice s1 D.slots.length c1, .slice s2 D.free.length c2].toArray 36)) := by (repeat (first | exact Fr.refl _ _ | assumption | apply Fr.drewN | apply Fr.alloc | (apply Fr.transF; assumption) | (refine Fr.setRow ?_ _ (by first | exact Or.inr (by (first | omega | (simp; done) | (simp; omega))) | (exact Or.inl (by first | assumption | (simp; done)))))))
  refine go_call rfl rfl (a_marks _ lo0 hi _ _ D roots (hd.ext hx0) hok (hr.ext hx0) (Nat.le_trans hh hx0.size) hrl hrb) ?_
  rintro mv w1 ⟨P, ⟨mb, rfl, hmb, hma⟩, hP, hx1⟩
  have hx1' := hx0.trans hx1
  have hs0 := hx0.size
  repeat (first | refine sp ?_ | (refine is_load ?_; refine ld ?_) | (refine is_store ?_; refine sr ?_) | (refine is_alloc ?_; refine al ?_) | (refine is_box ?_; refine bx ?_) | (refine isl_load ?_; refine ldl ?_) | (refine isl_store ?_; refine srl ?_) | (refine isl_alloc ?_; refine all' ?_) | (refine isl_box ?_; refine bxl ?_) | refine dr Try.follows ?_)
  refine go_loop (G := Nat × Value) [12, 5] (fun ⟨k, v⟩ => [.int .i64 (k : Int), v]) [(10, .slice (some ⟨mb, 0, none⟩) D.slots.length D.slots.length), (11, .int .i64 (D.slots.length : Int))]
    (fun ⟨k, v⟩ w' => k ≤ D.slots.length ∧ At w' mb (cellsF (fun j => [.bool (P j)]) D.slots.length) 4 ∧ OwnN w' w.heap.size v (RL P k) ∧ Ext w w') (fun g => D.slots.length - g.1) (0, .slice none 0 0) rfl ⟨rfl, rfl, trivial⟩ ⟨by omega, hma, OwnN.nil _ _, hx1'⟩ ?_
  clear hma
  rintro ⟨k, v⟩ w2 ⟨hk, hma, ho, hx2⟩
  obtain ⟨sv, cv, rfl, _, _⟩ := ho.slice
  have hrl := RL_len P k
  by_cases hlt : k < D.slots.length
  · have hcM : (cellsF (fun j => [Value.bool (P j)]) D.slots.length)[0 + k]? = some (.bool (P k)) := by
      rw [Nat.zero_add]; exact one_get (f := fun j => Value.bool (P j)) hlt
    cases hp : P k with
    | false =>
      rw [hp] at hcM
      have e : RL P (k + 1) = RL P k := by simp [RL, hp]
      repeat (first | refine sp ?_ | (refine is_load ?_; refine ld ?_) | (refine is_store ?_; refine sr ?_) | (refine is_alloc ?_; refine al ?_) | (refine is_box ?_; refine bx ?_) | (refine isl_load ?_; refine ldl ?_) | (refine isl_store ?_; refine srl ?_) | (refine isl_alloc ?_; refine all' ?_) | (refine isl_box ?_; refine bxl ?_) | refine dr Try.follows ?_)
      exact go_stop (G := Nat × Value) (k + 1, _) rfl ⟨rfl, rfl, trivial⟩ ⟨hlt, hma, by rw [e]; exact ho, hx2⟩ (by show D.slots.length - (k + 1) < D.slots.length - k; omega)
    | true =>
      rw [hp] at hcM
      have e : RL P (k + 1) = RL P k ++ [k + 1] := by simp [RL, hp]
      repeat (first | refine sp ?_ | (refine is_load ?_; refine ld ?_) | (refine is_store ?_; refine sr ?_) | (refine is_alloc ?_; refine al ?_) | (refine is_box ?_; refine bx ?_) | (refine isl_load ?_; refine ldl ?_) | (refine isl_store ?_; refine srl ?_) | (refine isl_alloc ?_; refine all' ?_) | (refine isl_box ?_; refine bxl ?_) | refine dr Try.follows ?_)
      refine go_as 21 (u' := .int .u32 ((k + 1 : Nat) : Int)) rfl (by congr 1) ?_
      refine go_pushG (by decide) rfl rfl rfl rfl ho rfl (one_u32 _) (by omega) (by simp [maxLen]; omega) (by omega) hx2.size ?_
      intro v3 w3 ho3 hg3 hbk3
      have ho4 : OwnN w3 w.heap.size v3 (RL P (k + 1)) := by rw [e]; unfold OwnN; rw [List.map_append, List.length_append]; simpa using ho3
      have hma3 := hma.fr (Fr.of_grown hg3) (ho.nec' hma (by decide))
      have hx3 : Ext w w3 := ext_grown hx2 (Nat.le_refl _) ho hg3
      repeat (first | refine sp ?_ | (refine is_load ?_; refine ld ?_) | (refine is_store ?_; refine sr ?_) | (refine is_alloc ?_; refine al ?_) | (refine is_box ?_; refine bx ?_) | (refine isl_load ?_; refine ldl ?_) | (refine isl_store ?_; refine srl ?_) | (refine isl_alloc ?_; refine all' ?_) | (refine isl_box ?_; refine bxl ?_) | refine dr Try.follows ?_)
      exact go_stop (G := Nat × Value) (k + 1, v3) rfl ⟨rfl, rfl, trivial⟩ ⟨hlt, hma3, ho4, hx3⟩ (by show D.slots.length - (k + 1) < D.slots.length - k; omega)
  · obtain rfl : k = D.slots.length := by omega
    repeat (first | refine sp ?_ | (refine is_load ?_; refine ld ?_) | (refine is_store ?_; refine sr ?_) | (refine is_alloc ?_; refine al ?_) | (refine is_box ?_; refine bx ?_) | (refine isl_load ?_; refine ldl ?_) | (refine isl_store ?_; refine srl ?_) | (refine isl_alloc ?_; refine all' ?_) | (refine isl_box ?_; refine bxl ?_) | refine dr Try.follows ?_)
    exact go_ret1 rfl rfl ⟨_, rfl, P, ho, hP, hx2⟩

set_option maxHeartbeats 1000000 in
theorem c_Reachable (w : World) (lo0 hi : Nat) (v rv : Value) (D : Dp) (roots : List Nat) (hd : DpAt w lo0 v D) (hok : D.Ok) (hr : RdU w hi rv u32c roots) (hh : hi ≤ w.heap.size) (hrl : roots.length ≤ 1000000) (hrb : ∀ x ∈ roots, x < 4294967296) :
    Calls Try.prog 27 [v, rv].toArray w (Ret fun r w' => ∃ P, OwnN w' w.heap.size r (RL P D.slots.length) ∧ Marks D roots P ∧ Ext w w') := by
  have hln := hok.len
  obtain ⟨sv, fv, rfl, hs, hf⟩ := id hd
  obtain ⟨s1, c1, rfl, h1, _, _⟩ := hs
  obtain ⟨s2, c2, rfl, h2, _, _⟩ := hf
  obtain ⟨sa, cap, rfl, hlc, hrc, _⟩ := id hr
  refine calls_go Try.func27 rfl Try.ntmps27 (Nat.le_of_ble_eq_true rfl) ?_
  repeat (first | refine sp ?_ | (refine is_load ?_; refine ld ?_) | (refine is_store ?_; refine sr ?_) | (refine is_alloc ?_; refine al ?_) | (refine is_box ?_; refine bx ?_) | (refine isl_load ?_; refine ldl ?_) | (refine isl_store ?_; refine srl ?_) | (refine isl_alloc ?_; refine all' ?_) | (refine isl_box ?_; refine bxl ?_) | refine dr Try.follows ?_)
  have hx0 : Ext w (w.alloc (.cells [Value.slice s1 D.slots.length c1, .slice s2 D.free.length c2].toArray 36)) := by (repeat (first | exact Fr.refl _ _ | assumption | apply Fr.drewN | apply Fr.alloc | (apply Fr.transF; assumption) | (refine Fr.setRow ?_ _ (by first | exact Or.inr (by (first | omega | (simp; done) | (simp; omega))) | (exact Or.inl (by first | assumption | (simp; done)))))))
  refine go_call rfl rfl (c_marks _ lo0 hi _ _ D roots (hd.ext hx0) hok (hr.ext hx0) (Nat.le_trans hh hx0.size) hrl hrb) ?_
  rintro mv w1 ⟨P, ⟨mb, rfl, hmb, hma⟩, hP, hx1⟩
  have hx1' := hx0.trans hx1
  have hs0 := hx0.size
  repeat (first | refine sp ?_ | (refine is_load ?_; refine ld ?_) | (refine is_store ?_; refine sr ?_) | (refine is_alloc ?_; refine al ?_) | (refine is_box ?_; refine bx ?_) | (refine isl_load ?_; refine ldl ?_) | (refine isl_store ?_; refine srl ?_) | (refine isl_alloc ?_; refine all' ?_) | (refine isl_box ?_; refine bxl ?_) | refine dr Try.follows ?_)
  refine go_loop (G := Nat × Value) [7, 6] (fun ⟨k, v⟩ => [.int .i64 (k : Int), v]) [(5, .slice (some ⟨mb, 0, none⟩) D.slots.length D.slots.length)]
    (fun ⟨k, v⟩ w' => k ≤ D.slots.length ∧ At w' mb (cellsF (fun j => [.bool (P j)]) D.slots.length) 4 ∧ OwnN w' w.heap.size v (RL P k) ∧ Ext w w') (fun g => D.slots.length - g.1) (0, .slice none 0 0) rfl ⟨rfl, trivial⟩ ⟨by omega, hma, OwnN.nil _ _, hx1'⟩ ?_
  clear hma
  rintro ⟨k, v⟩ w2 ⟨hk, hma, ho, hx2⟩
  obtain ⟨sv, cv, rfl, _, _⟩ := ho.slice
  have hrl := RL_len P k
  by_cases hlt : k < D.slots.length
  · have hcM : (cellsF (fun j => [Value.bool (P j)]) D.slots.length)[0 + k]? = some (.bool (P k)) := by
      rw [Nat.zero_add]; exact one_get (f := fun j => Value.bool (P j)) hlt
    cases hp : P k with
    | false =>
      rw [hp] at hcM
      have e : RL P (k + 1) = RL P k := by simp [RL, hp]
      repeat (first | refine sp ?_ | (refine is_load ?_; refine ld ?_) | (refine is_store ?_; refine sr ?_) | (refine is_alloc ?_; refine al ?_) | (refine is_box ?_; refine bx ?_) | (refine isl_load ?_; refine ldl ?_) | (refine isl_store ?_; refine srl ?_) | (refine isl_alloc ?_; refine all' ?_) | (refine isl_box ?_; refine bxl ?_) | refine dr Try.follows ?_)
      exact go_stop (G := Nat × Value) (k + 1, _) rfl ⟨rfl, trivial⟩ ⟨hlt, hma, by rw [e]; exact ho, hx2⟩ (by show D.slots.length - (k + 1) < D.slots.length - k; omega)
    | true =>
      rw [hp] at hcM
      have e : RL P (k + 1) = RL P k ++ [k + 1] := by simp [RL, hp]
      repeat (first | refine sp ?_ | (refine is_load ?_; refine ld ?_) | (refine is_store ?_; refine sr ?_) | (refine is_alloc ?_; refine al ?_) | (refine is_box ?_; refine bx ?_) | (refine isl_load ?_; refine ldl ?_) | (refine isl_store ?_; refine srl ?_) | (refine isl_alloc ?_; refine all' ?_) | (refine isl_box ?_; refine bxl ?_) | refine dr Try.follows ?_)
      refine go_as 24 (u' := .int .u32 ((k + 1 : Nat) : Int)) rfl (by congr 1) ?_
      refine go_pushG (by decide) rfl rfl rfl rfl ho rfl (one_u32 _) (by omega) (by simp [maxLen]; omega) (by omega) hx2.size ?_
      intro v3 w3 ho3 hg3 hbk3
      have ho4 : OwnN w3 w.heap.size v3 (RL P (k + 1)) := by rw [e]; unfold OwnN; rw [List.map_append, List.length_append]; simpa using ho3
      have hma3 := hma.fr (Fr.of_grown hg3) (ho.nec' hma (by decide))
      have hx3 : Ext w w3 := ext_grown hx2 (Nat.le_refl _) ho hg3
      repeat (first | refine sp ?_ | (refine is_load ?_; refine ld ?_) | (refine is_store ?_; refine sr ?_) | (refine is_alloc ?_; refine al ?_) | (refine is_box ?_; refine bx ?_) | (refine isl_load ?_; refine ldl ?_) | (refine isl_store ?_; refine srl ?_) | (refine isl_alloc ?_; refine all' ?_) | (refine isl_box ?_; refine bxl ?_) | refine dr Try.follows ?_)
      exact go_stop (G := Nat × Value) (k + 1, v3) rfl ⟨rfl, trivial⟩ ⟨hlt, hma3, ho4, hx3⟩ (by show D.slots.length - (k + 1) < D.slots.length - k; omega)
  · obtain rfl : k = D.slots.length := by omega
    repeat (first | refine sp ?_ | (refine is_load ?_; refine ld ?_) | (refine is_store ?_; refine sr ?_) | (refine is_alloc ?_; refine al ?_) | (refine is_box ?_; refine bx ?_) | (refine isl_load ?_; refine ldl ?_) | (refine isl_store ?_; refine srl ?_) | (refine isl_alloc ?_; refine all' ?_) | (refine isl_box ?_; refine bxl ?_) | refine dr Try.follows ?_)
    exact go_ret1 rfl rfl ⟨_, rfl, P, ho, hP, hx2⟩

set_option maxHeartbeats 1000000 in
theorem c_SameFd (w : World) (hi : Nat) (v1 v2 : Value) (xs : List Fd) (h1 : RdU w hi v1 Fd.cells xs) (h2 : RdU w hi v2 Fd.cells xs) (hl : xs.length ≤ 100000000) :
    Calls Try.prog 28 [v1, v2].toArray w (Ret fun v w' => v = .bool true ∧ Ext w w') := by
  have h10 := h1
  obtain ⟨s1, c1, rfl, hc1, _, _⟩ := h10
  have h20 := h2
  obtain ⟨s2, c2, rfl, hc2, _, _⟩ := h20
  refine calls_go Try.func28 rfl Try.ntmps28 (Nat.le_of_ble_eq_true rfl) ?_
  repeat (first | refine sp ?_ | (refine is_load ?_; refine ld ?_) | (refine is_store ?_; refine sr ?_) | (refine is_alloc ?_; refine al ?_) | (refine is_box ?_; refine bx ?_) | (refine isl_load ?_; refine ldl ?_) | (refine isl_store ?_; refine srl ?_) | (refine isl_alloc ?_; refine all' ?_) | (refine isl_box ?_; refine bxl ?_) | refine dr Try.follows ?_)
  refine go_loop (G := Nat) [5] (fun k => [.int .i64 (k : Int)]) [(0, .slice s1 xs.length c1), (1, .slice s2 xs.length c2)]
    (fun k w' => k ≤ xs.length ∧ Ext w w') (fun k => xs.length - k) 0 rfl ⟨rfl, rfl, trivial⟩ ⟨by omega, by (repeat (first | exact Fr.refl _ _ | assumption | apply Fr.drewN | apply Fr.alloc | (apply Fr.transF; assumption) | (refine Fr.setRow ?_ _ (by first | exact Or.inr (by (first | omega | (simp; done) | (simp; omega))) | (exact Or.inl (by first | assumption | (simp; done)))))))⟩ ?_
  rintro k w1 ⟨hk, hx⟩
  by_cases hlt : k < xs.length
  · obtain ⟨b, o, e, _, hcell⟩ := (h1.ext hx).at (m := 4) fd_len (by omega) hlt
    subst e
    obtain ⟨b2, o2, e, _, hcell2⟩ := (h2.ext hx).at (m := 4) fd_len (by omega) hlt
    subst e
    generalize xs[k] = x at *
    repeat (first | refine sp ?_ | (refine is_load ?_; refine ld ?_) | (refine is_store ?_; refine sr ?_) | (refine is_alloc ?_; refine al ?_) | (refine is_box ?_; refine bx ?_) | (refine isl_load ?_; refine ldl ?_) | (refine isl_store ?_; refine srl ?_) | (refine isl_alloc ?_; refine all' ?_) | (refine isl_box ?_; refine bxl ?_) | refine dr Try.follows ?_)
    refine gol_load (v := .agg x.cells.toArray) rfl rfl (ldD_cells (m := 4) (w := w1) rfl (by decide) (fun j u hj => by rw [addr_add]; exact hcell j u hj) id) ?_
    repeat (first | refine sp ?_ | (refine is_load ?_; refine ld ?_) | (refine is_store ?_; refine sr ?_) | (refine is_alloc ?_; refine al ?_) | (refine is_box ?_; refine bx ?_) | (refine isl_load ?_; refine ldl ?_) | (refine isl_store ?_; refine srl ?_) | (refine isl_alloc ?_; refine all' ?_) | (refine isl_box ?_; refine bxl ?_) | refine dr Try.follows ?_)
    refine gol_load (v := .agg x.cells.toArray) rfl rfl (ldD_cells (m := 4) (w := w1) rfl (by decide) (fun j u hj => by rw [addr_add]; exact hcell2 j u hj) id) ?_
    unfold Fd.cells
    repeat (first | refine sp ?_ | (refine is_load ?_; refine ld ?_) | (refine is_store ?_; refine sr ?_) | (refine is_alloc ?_; refine al ?_) | (refine is_box ?_; refine bx ?_) | (refine isl_load ?_; refine ldl ?_) | (refine isl_store ?_; refine srl ?_) | (refine isl_alloc ?_; refine all' ?_) | (refine isl_box ?_; refine bxl ?_) | refine dr Try.follows ?_)
    refine go_as 25 (u' := .bool false) rfl (by simp [eqL]) ?_
    repeat (first | refine sp ?_ | (refine is_load ?_; refine ld ?_) | (refine is_store ?_; refine sr ?_) | (refine is_alloc ?_; refine al ?_) | (refine is_box ?_; refine bx ?_) | (refine isl_load ?_; refine ldl ?_) | (refine isl_store ?_; refine srl ?_) | (refine isl_alloc ?_; refine all' ?_) | (refine isl_box ?_; refine bxl ?_) | refine dr Try.follows ?_)
    exact go_stop (G := Nat) (k + 1) rfl ⟨rfl, rfl, trivial⟩ ⟨hlt, by (repeat (first | exact Fr.refl _ _ | assumption | apply Fr.drewN | apply Fr.alloc | (apply Fr.transF; assumption) | (refine Fr.setRow ?_ _ (by first | exact Or.inr (by (first | omega | (simp; done) | (simp; omega))) | (exact Or.inl (by first | assumption | (simp; done)))))))⟩ (by show xs.length - (k + 1) < xs.length - k; omega)
  · repeat (first | refine sp ?_ | (refine is_load ?_; refine ld ?_) | (refine is_store ?_; refine sr ?_) | (refine is_alloc ?_; refine al ?_) | (refine is_box ?_; refine bx ?_) | (refine isl_load ?_; refine ldl ?_) | (refine isl_store ?_; refine srl ?_) | (refine isl_alloc ?_; refine all' ?_) | (refine isl_box ?_; refine bxl ?_) | refine dr Try.follows ?_)
    exact go_ret1 rfl rfl ⟨_, rfl, rfl, hx⟩

set_option maxHeartbeats 1000000 in
theorem c_SameInt (w : World) (lo lo' : Nat) (v1 v2 : Value) (f : Nat → Int) (n : Nat) (h1 : IntsAt w lo v1 f n) (h2 : IntsAt w lo' v2 f n) (hn : n ≤ 1000000) :
    Calls Try.prog 22 [v1, v2].toArray w (Ret fun v w' => v = .bool true ∧ Ext w w') := by
  obtain ⟨b1, rfl, _, ha1⟩ := h1
  obtain ⟨b2, rfl, _, ha2⟩ := h2
  refine calls_go Try.func22 rfl Try.ntmps22 (Nat.le_of_ble_eq_true rfl) ?_
  repeat (first | refine sp ?_ | (refine is_load ?_; refine ld ?_) | (refine is_store ?_; refine sr ?_) | (refine is_alloc ?_; refine al ?_) | (refine is_box ?_; refine bx ?_) | (refine isl_load ?_; refine ldl ?_) | (refine isl_store ?_; refine srl ?_) | (refine isl_alloc ?_; refine all' ?_) | (refine isl_box ?_; refine bxl ?_) | refine dr Try.follows ?_)
  refine go_loop (G := Nat) [5] (fun k => [.int .i64 (k : Int)]) [(0, .slice (some ⟨b1, 0, none⟩) n n), (1, .slice (some ⟨b2, 0, none⟩) n n)]
    (fun k w' => k ≤ n ∧ Ext w w') (fun k => n - k) 0 rfl ⟨rfl, rfl, trivial⟩ ⟨by omega, by (repeat (first | exact Fr.refl _ _ | assumption | apply Fr.drewN | apply Fr.alloc | (apply Fr.transF; assumption) | (refine Fr.setRow ?_ _ (by first | exact Or.inr (by (first | omega | (simp; done) | (simp; omega))) | (exact Or.inl (by first | assumption | (simp; done)))))))⟩ ?_
  rintro k w1 ⟨hk, hx⟩
  have hb1 := ha1.ext hx
  have hb2 := ha2.ext hx
  by_cases hlt : k < n
  · have hc : (cellsF (fun j => [Value.int .i64 (f j)]) n)[0 + k]? = some (.int .i64 (f k)) := by
      rw [Nat.zero_add]; exact one_get (f := fun j => Value.int .i64 (f j)) hlt
    repeat (first | refine sp ?_ | (refine is_load ?_; refine ld ?_) | (refine is_store ?_; refine sr ?_) | (refine is_alloc ?_; refine al ?_) | (refine is_box ?_; refine bx ?_) | (refine isl_load ?_; refine ldl ?_) | (refine isl_store ?_; refine srl ?_) | (refine isl_alloc ?_; refine all' ?_) | (refine isl_box ?_; refine bxl ?_) | refine dr Try.follows ?_)
    exact go_stop (G := Nat) (k + 1) rfl ⟨rfl, rfl, trivial⟩ ⟨hlt, by (repeat (first | exact Fr.refl _ _ | assumption | apply Fr.drewN | apply Fr.alloc | (apply Fr.transF; assumption) | (refine Fr.setRow ?_ _ (by first | exact Or.inr (by (first | omega | (simp; done) | (simp; omega))) | (exact Or.inl (by first | assumption | (simp; done)))))))⟩ (by show n - (k + 1) < n - k; omega)
  · obtain rfl : k = n := by omega
    repeat (first | refine sp ?_ | (refine is_load ?_; refine ld ?_) | (refine is_store ?_; refine sr ?_) | (refine is_alloc ?_; refine al ?_) | (refine is_box ?_; refine bx ?_) | (refine isl_load ?_; refine ldl ?_) | (refine isl_store ?_; refine srl ?_) | (refine isl_alloc ?_; refine all' ?_) | (refine isl_box ?_; refine bxl ?_) | refine dr Try.follows ?_)
    exact go_ret1 rfl rfl ⟨_, rfl, rfl, hx⟩

theorem OwnF.rd {w : World} {lo : Nat} {v : Value} {l : List Fd} (h : OwnF w lo v l) : Rd w lo v Fd.cells l := Own.rd (m := 4) (n := l.length) h rfl

def slt1 : Slt := ⟨true, 0, 0, Nd.zero⟩
theorem finds1 {P : Nat → Bool} (h : Marks ⟨[slt1], []⟩ [] P) : finds ⟨[slt1], []⟩ [] P = [⟨3, 1, 1, 0⟩, ⟨5, 1, 0, 0⟩] := by
  have hp : P 0 = false := by
    cases e : P 0 with
    | false => rfl
    | true =>
      have := (h 0 (by simp)).1 e
      have key : ∀ i, ¬ Dp.Reach ⟨[slt1], []⟩ [] i := by
        intro i hr
        induction hr with
        | root h _ => cases h
        | kid _ _ _ ih => exact ih
      exact absurd this (key _)
  have e1 : finds ⟨[slt1], []⟩ [] P = finds ⟨[slt1], []⟩ [] (fun _ => false) := finds_congr (fun j hj => by simp at hj; subst hj; exact hp)
  rw [e1]
  rfl

set_option maxHeartbeats 1000000 in
theorem c_awake6 (w : World) : Calls Try.prog 21 [].toArray w (Ret fun v w' => v = .bool true ∧ Ext w w') := by
  have hs1 : slt1.cells = [.bool true, .int .i64 0, .int .u32 0, .int .i64 0, .int .i64 0, .int .u32 0, .int .u32 0, .int .i64 0, .int .i64 0, .int .i64 0, .int .i64 0] := rfl
  refine calls_go Try.func21 rfl Try.ntmps21 (Nat.le_of_ble_eq_true rfl) ?_
  repeat (first | refine sp ?_ | (refine is_load ?_; refine ld ?_) | (refine is_store ?_; refine sr ?_) | (refine is_alloc ?_; refine al ?_) | (refine is_box ?_; refine bx ?_) | (refine isl_load ?_; refine ldl ?_) | (refine isl_store ?_; refine srl ?_) | (refine isl_alloc ?_; refine all' ?_) | (refine isl_box ?_; refine bxl ?_) | refine dr Try.follows ?_)
  refine go_litG (l := slt1.cells) rfl rfl (by decide) (by decide) rfl ?_
  rw [hs1]
  repeat (first | refine sp ?_ | (refine is_load ?_; refine ld ?_) | (refine is_store ?_; refine sr ?_) | (refine is_alloc ?_; refine al ?_) | (refine is_box ?_; refine bx ?_) | (refine isl_load ?_; refine ldl ?_) | (refine isl_store ?_; refine srl ?_) | (refine isl_alloc ?_; refine all' ?_) | (refine isl_box ?_; refine bxl ?_) | refine dr Try.follows ?_)
  rw [← hs1]
  have hx1 : Ext w (w.alloc (.cells slt1.cells.toArray 52)) := (Fr.refl _ _).alloc _
  have hd1 : DpAt (w.alloc (.cells slt1.cells.toArray 52)) w.heap.size (.agg ⟨[.slice (some ⟨w.heap.size, 0, none⟩) 1 1, .slice none 0 0]⟩) ⟨[slt1], []⟩ :=
    ⟨_, _, rfl, At.rd (enc := Slt.cells) (xs := [slt1]) (by simpa using At.new w slt1.cells 52) rfl (Nat.le_refl _), Rd.nil _ _ _⟩
  have hok : (⟨[slt1], []⟩ : Dp).Ok := ⟨by simp, by simp, by intro s hs; simp at hs; subst hs; exact ⟨by decide, by decide⟩, by simp⟩
  refine go_call rfl rfl (a_Check _ w.heap.size w.heap.size _ (.slice none 0 0) ⟨[slt1], []⟩ [] hd1 hok ((Rd.nil w 0 u32c).up.ext hx1) (by simp) (by simp) (by simp)) ?_
  rintro fv w2 ⟨P, lo, hlo, ho, hP, hx2⟩
  rw [finds1 hP] at ho
  have hx12 := hx1.trans hx2
  repeat (first | refine sp ?_ | (refine is_load ?_; refine ld ?_) | (refine is_store ?_; refine sr ?_) | (refine is_alloc ?_; refine al ?_) | (refine is_box ?_; refine bx ?_) | (refine isl_load ?_; refine ldl ?_) | (refine isl_store ?_; refine srl ?_) | (refine isl_alloc ?_; refine all' ?_) | (refine isl_box ?_; refine bxl ?_) | refine dr Try.follows ?_)
  refine go_litG (l := [.int .i64 3, .int .u32 1, .int .i64 1, .int .i64 0, .int .i64 5, .int .u32 1, .int .i64 0, .int .i64 0]) rfl rfl (by decide) (by decide) rfl ?_
  have hx3 : Ext w2 (w2.alloc (.cells [Value.int .i64 3, .int .u32 1, .int .i64 1, .int .i64 0, .int .i64 5, .int .u32 1, .int .i64 0, .int .i64 0].toArray 45)) := (Fr.refl _ _).alloc _
  have hr2 : Rd (w2.alloc (.cells [Value.int .i64 3, .int .u32 1, .int .i64 1, .int .i64 0, .int .i64 5, .int .u32 1, .int .i64 0, .int .i64 0].toArray 45)) 0 (.slice (some ⟨w2.heap.size, 0, none⟩) 2 2) Fd.cells [⟨3, 1, 1, 0⟩, ⟨5, 1, 0, 0⟩] :=
    At.rd (enc := Fd.cells) (xs := [⟨3, 1, 1, 0⟩, ⟨5, 1, 0, 0⟩]) (At.new w2 _ 45) rfl (Nat.zero_le _)
  repeat (first | refine sp ?_ | (refine is_load ?_; refine ld ?_) | (refine is_store ?_; refine sr ?_) | (refine is_alloc ?_; refine al ?_) | (refine is_box ?_; refine bx ?_) | (refine isl_load ?_; refine ldl ?_) | (refine isl_store ?_; refine srl ?_) | (refine isl_alloc ?_; refine all' ?_) | (refine isl_box ?_; refine bxl ?_) | refine dr Try.follows ?_)
  refine go_call rfl rfl (c_SameFd _ _ _ _ _ (ho.rd.ext hx3).up hr2.up (by simp)) ?_
  rintro _ w4 ⟨rfl, hx4⟩
  repeat (first | refine sp ?_ | (refine is_load ?_; refine ld ?_) | (refine is_store ?_; refine sr ?_) | (refine is_alloc ?_; refine al ?_) | (refine is_box ?_; refine bx ?_) | (refine isl_load ?_; refine ldl ?_) | (refine isl_store ?_; refine srl ?_) | (refine isl_alloc ?_; refine all' ?_) | (refine isl_box ?_; refine bxl ?_) | refine dr Try.follows ?_)
  exact go_ret1 rfl rfl ⟨_, rfl, rfl, (hx12.trans hx3).trans hx4⟩

theorem c_large (w : World) (lo hi : Nat) (v rv : Value) (D : Dp) (roots : List Nat) (hd : DpAt w lo v D) (hr : RdU w hi rv u32c roots) :
    Calls Try.prog 20 [v, rv].toArray w (Ret fun r w' => r = .bool (decide (60 < D.slots.length ∨ 60 < D.free.length ∨ 60 < roots.length)) ∧ Ext w w') := by
  obtain ⟨sv, fv, rfl, hs, hf⟩ := hd
  obtain ⟨s1, c1, rfl, h1, _, _⟩ := hs
  obtain ⟨s2, c2, rfl, h2, _, _⟩ := hf
  obtain ⟨sa, cap, rfl, hlc, hrc, _⟩ := hr
  refine calls_go Try.func20 rfl Try.ntmps20 (Nat.le_of_ble_eq_true rfl) ?_
  by_cases a1 : 60 < D.slots.length
  · rw [show decide (60 < D.slots.length ∨ 60 < D.free.length ∨ 60 < roots.length) = true from decide_eq_true (Or.inl a1)]
    repeat (first | refine sp ?_ | (refine is_load ?_; refine ld ?_) | (refine is_store ?_; refine sr ?_) | (refine is_alloc ?_; refine al ?_) | (refine is_box ?_; refine bx ?_) | (refine isl_load ?_; refine ldl ?_) | (refine isl_store ?_; refine srl ?_) | (refine isl_alloc ?_; refine all' ?_) | (refine isl_box ?_; refine bxl ?_) | refine dr Try.follows ?_)
    exact go_ret1 rfl rfl ⟨_, rfl, rfl, by (repeat (first | exact Fr.refl _ _ | assumption | apply Fr.drewN | apply Fr.alloc | (apply Fr.transF; assumption) | (refine Fr.setRow ?_ _ (by first | exact Or.inr (by (first | omega | (simp; done) | (simp; omega))) | (exact Or.inl (by first | assumption | (simp; done)))))))⟩
  by_cases a2 : 60 < D.free.length
  · rw [show decide (60 < D.slots.length ∨ 60 < D.free.length ∨ 60 < roots.length) = true from decide_eq_true (Or.inr (Or.inl a2))]
    repeat (first | refine sp ?_ | (refine is_load ?_; refine ld ?_) | (refine is_store ?_; refine sr ?_) | (refine is_alloc ?_; refine al ?_) | (refine is_box ?_; refine bx ?_) | (refine isl_load ?_; refine ldl ?_) | (refine isl_store ?_; refine srl ?_) | (refine isl_alloc ?_; refine all' ?_) | (refine isl_box ?_; refine bxl ?_) | refine dr Try.follows ?_)
    exact go_ret1 rfl rfl ⟨_, rfl, rfl, by (repeat (first | exact Fr.refl _ _ | assumption | apply Fr.drewN | apply Fr.alloc | (apply Fr.transF; assumption) | (refine Fr.setRow ?_ _ (by first | exact Or.inr (by (first | omega | (simp; done) | (simp; omega))) | (exact Or.inl (by first | assumption | (simp; done)))))))⟩
  by_cases a3 : 60 < roots.length
  · rw [show decide (60 < D.slots.length ∨ 60 < D.free.length ∨ 60 < roots.length) = true from decide_eq_true (Or.inr (Or.inr a3))]
    repeat (first | refine sp ?_ | (refine is_load ?_; refine ld ?_) | (refine is_store ?_; refine sr ?_) | (refine is_alloc ?_; refine al ?_) | (refine is_box ?_; refine bx ?_) | (refine isl_load ?_; refine ldl ?_) | (refine isl_store ?_; refine srl ?_) | (refine isl_alloc ?_; refine all' ?_) | (refine isl_box ?_; refine bxl ?_) | refine dr Try.follows ?_)
    exact go_ret1 rfl rfl ⟨_, rfl, rfl, by (repeat (first | exact Fr.refl _ _ | assumption | apply Fr.drewN | apply Fr.alloc | (apply Fr.transF; assumption) | (refine Fr.setRow ?_ _ (by first | exact Or.inr (by (first | omega | (simp; done) | (simp; omega))) | (exact Or.inl (by first | assumption | (simp; done)))))))⟩
  · rw [show decide (60 < D.slots.length ∨ 60 < D.free.length ∨ 60 < roots.length) = false from decide_eq_false (by omega)]
    repeat (first | refine sp ?_ | (refine is_load ?_; refine ld ?_) | (refine is_store ?_; refine sr ?_) | (refine is_alloc ?_; refine al ?_) | (refine is_box ?_; refine bx ?_) | (refine isl_load ?_; refine ldl ?_) | (refine isl_store ?_; refine srl ?_) | (refine isl_alloc ?_; refine all' ?_) | (refine isl_box ?_; refine bxl ?_) | refine dr Try.follows ?_)
    exact go_ret1 rfl rfl ⟨_, rfl, rfl, by (repeat (first | exact Fr.refl _ _ | assumption | apply Fr.drewN | apply Fr.alloc | (apply Fr.transF; assumption) | (refine Fr.setRow ?_ _ (by first | exact Or.inr (by (first | omega | (simp; done) | (simp; omega))) | (exact Or.inl (by first | assumption | (simp; done)))))))⟩

/-- The values of a dump that is an argument. -/
structure DumpOk (D : Dp) : Prop where
  kid : ∀ s ∈ D.slots, s.nd.left < 4294967296 ∧ s.nd.right < 4294967296
  fr : ∀ i ∈ D.free, i < 4294967296

set_option maxHeartbeats 4000000 in
theorem c_LawAuditAgrees (w : World) (lo hi : Nat) (v rv : Value) (D : Dp) (roots : List Nat) (hd : DpAt w lo v D) (hD : DumpOk D) (hr : RdU w hi rv u32c roots) (hh : hi ≤ w.heap.size) (hrb : ∀ x ∈ roots, x < 4294967296) :
    Calls Try.prog 4 [v, rv].toArray w (Ret fun r w' => r = .bool true ∧ Ext w w') := by
  obtain ⟨sv, fv, rfl, hs, hf⟩ := id hd
  obtain ⟨s1, c1, rfl, h1, _, _⟩ := hs
  obtain ⟨s2, c2, rfl, h2, _, _⟩ := hf
  obtain ⟨sa, cap, rfl, hlc, hrc, _⟩ := id hr
  refine calls_go Try.func4 rfl Try.ntmps4 (Nat.le_of_ble_eq_true rfl) ?_
  repeat (first | refine sp ?_ | (refine is_load ?_; refine ld ?_) | (refine is_store ?_; refine sr ?_) | (refine is_alloc ?_; refine al ?_) | (refine is_box ?_; refine bx ?_) | (refine isl_load ?_; refine ldl ?_) | (refine isl_store ?_; refine srl ?_) | (refine isl_alloc ?_; refine all' ?_) | (refine isl_box ?_; refine bxl ?_) | refine dr Try.follows ?_)
  refine go_name (F := fun w1 => At w1 w.heap.size [.slice s1 D.slots.length c1, .slice s2 D.free.length c2] 36 ∧ Ext w w1) ⟨by (repeat (first | assumption | (refine At.new' (by (first | omega | (simp; done) | (simp; omega))) _ _) | apply At.alloc | apply At.drewN | apply At.setRow | (apply At.setRow_neF; first | assumption | (apply Ne.symm; assumption) | omega) | (apply At.extF; assumption))), by (repeat (first | exact Fr.refl _ _ | assumption | apply Fr.drewN | apply Fr.alloc | (apply Fr.transF; assumption) | (refine Fr.setRow ?_ _ (by first | exact Or.inr (by (first | omega | (simp; done) | (simp; omega))) | (exact Or.inl (by first | assumption | (simp; done)))))))⟩ ?_
  rintro w1 ⟨hdb, hx1⟩
  refine go_call rfl rfl (c_large w1 lo hi _ _ D roots (hd.ext hx1) (hr.ext hx1)) ?_
  rintro _ w2 ⟨rfl, hx2⟩
  have hx2' := hx1.trans hx2
  replace hdb := hdb.ext hx2
  by_cases hl : 60 < D.slots.length ∨ 60 < D.free.length ∨ 60 < roots.length
  · rw [show decide (60 < D.slots.length ∨ 60 < D.free.length ∨ 60 < roots.length) = true from decide_eq_true hl]
    repeat (first | refine sp ?_ | (refine is_load ?_; refine ld ?_) | (refine is_store ?_; refine sr ?_) | (refine is_alloc ?_; refine al ?_) | (refine is_box ?_; refine bx ?_) | (refine isl_load ?_; refine ldl ?_) | (refine isl_store ?_; refine srl ?_) | (refine isl_alloc ?_; refine all' ?_) | (refine isl_box ?_; refine bxl ?_) | refine dr Try.follows ?_)
    refine go_call rfl rfl (c_awake6 w2) ?_
    rintro _ w3 ⟨rfl, hx3⟩
    repeat (first | refine sp ?_ | (refine is_load ?_; refine ld ?_) | (refine is_store ?_; refine sr ?_) | (refine is_alloc ?_; refine al ?_) | (refine is_box ?_; refine bx ?_) | (refine isl_load ?_; refine ldl ?_) | (refine isl_store ?_; refine srl ?_) | (refine isl_alloc ?_; refine all' ?_) | (refine isl_box ?_; refine bxl ?_) | refine dr Try.follows ?_)
    exact go_ret1 rfl rfl ⟨_, rfl, rfl, hx2'.trans hx3⟩
  rw [show decide (60 < D.slots.length ∨ 60 < D.free.length ∨ 60 < roots.length) = false from decide_eq_false hl]
  have hok : D.Ok := ⟨by omega, by omega, hD.kid, hD.fr⟩
  repeat (first | refine sp ?_ | (refine is_load ?_; refine ld ?_) | (refine is_store ?_; refine sr ?_) | (refine is_alloc ?_; refine al ?_) | (refine is_box ?_; refine bx ?_) | (refine isl_load ?_; refine ldl ?_) | (refine isl_store ?_; refine srl ?_) | (refine isl_alloc ?_; refine all' ?_) | (refine isl_box ?_; refine bxl ?_))
  refine go_drawE (Fr (fun _ => False) w2) 0 Try.follows (by kernel_rfl) (by kernel_rfl) (by kernel_rfl) ((Fr.refl _ _).drewN 1) ?_
  repeat (first | refine sp ?_ | (refine is_load ?_; refine ld ?_) | (refine is_store ?_; refine sr ?_) | (refine is_alloc ?_; refine al ?_) | (refine is_box ?_; refine bx ?_) | (refine isl_load ?_; refine ldl ?_) | (refine isl_store ?_; refine srl ?_) | (refine isl_alloc ?_; refine all' ?_) | (refine isl_box ?_; refine bxl ?_))
  have hxd : Ext w2 (w2.drewN 1) := (Fr.refl _ _).drewN 1
  refine gol_call rfl rfl (c_awake6 _) ?_
  rintro _ w3 ⟨rfl, hx3⟩
  have hxA := hxd.trans hx3
  refine ⟨hxA, ?_⟩
  repeat (first | refine sp ?_ | (refine is_load ?_; refine ld ?_) | (refine is_store ?_; refine sr ?_) | (refine is_alloc ?_; refine al ?_) | (refine is_box ?_; refine bx ?_) | (refine isl_load ?_; refine ldl ?_) | (refine isl_store ?_; refine srl ?_) | (refine isl_alloc ?_; refine all' ?_) | (refine isl_box ?_; refine bxl ?_))
  have hxB := hx2'.trans hxA
  refine gol_call rfl rfl (a_InEdges w3 lo _ D (hd.ext hxB) hok) ?_
  rintro e1 w4 ⟨he1, hx4⟩
  have hxA4 := hxA.trans hx4
  refine ⟨hxA4, ?_⟩
  obtain ⟨eb1, rfl, _, _⟩ := id he1
  repeat (first | refine sp ?_ | (refine is_load ?_; refine ld ?_) | (refine is_store ?_; refine sr ?_) | (refine is_alloc ?_; refine al ?_) | (refine is_box ?_; refine bx ?_) | (refine isl_load ?_; refine ldl ?_) | (refine isl_store ?_; refine srl ?_) | (refine isl_alloc ?_; refine all' ?_) | (refine isl_box ?_; refine bxl ?_))
  have hxB4 := hx2'.trans hxA4
  refine gol_call rfl rfl (c_InEdges w4 lo _ D (hd.ext hxB4) hok) ?_
  rintro e2 w5 ⟨he2, hx5⟩
  have hxA5 := hxA4.trans hx5
  refine ⟨hxA5, ?_⟩
  obtain ⟨eb2, rfl, _, _⟩ := id he2
  repeat (first | refine sp ?_ | (refine is_load ?_; refine ld ?_) | (refine is_store ?_; refine sr ?_) | (refine is_alloc ?_; refine al ?_) | (refine is_box ?_; refine bx ?_) | (refine isl_load ?_; refine ldl ?_) | (refine isl_store ?_; refine srl ?_) | (refine isl_alloc ?_; refine all' ?_) | (refine isl_box ?_; refine bxl ?_))
  refine gol_call rfl rfl (c_SameInt w5 _ _ _ _ _ _ (he1.ext hx5) he2 (by omega)) ?_
  rintro _ w6 ⟨rfl, hx6⟩
  have hxA6 := hxA5.trans hx6
  refine ⟨hxA6, ?_⟩
  clear he1 he2
  repeat (first | refine sp ?_ | (refine is_load ?_; refine ld ?_) | (refine is_store ?_; refine sr ?_) | (refine is_alloc ?_; refine al ?_) | (refine is_box ?_; refine bx ?_) | (refine isl_load ?_; refine ldl ?_) | (refine isl_store ?_; refine srl ?_) | (refine isl_alloc ?_; refine all' ?_) | (refine isl_box ?_; refine bxl ?_))
  have hxB6 := hx2'.trans hxA6
  refine gol_call rfl rfl (a_Reachable w6 lo hi _ _ D roots (hd.ext hxB6) hok (hr.ext hxB6) (Nat.le_trans hh hxB6.size) (by omega) hrb) ?_
  rintro r1 w7 ⟨P1, hr1, hP1, hx7⟩
  have hxA7 := hxA6.trans hx7
  refine ⟨hxA7, ?_⟩
  obtain ⟨r1s, r1c, rfl, _, _⟩ := hr1.slice
  repeat (first | refine sp ?_ | (refine is_load ?_; refine ld ?_) | (refine is_store ?_; refine sr ?_) | (refine is_alloc ?_; refine al ?_) | (refine is_box ?_; refine bx ?_) | (refine isl_load ?_; refine ldl ?_) | (refine isl_store ?_; refine srl ?_) | (refine isl_alloc ?_; refine all' ?_) | (refine isl_box ?_; refine bxl ?_))
  have hxB7 := hx2'.trans hxA7
  refine gol_call rfl rfl (c_Reachable w7 lo hi _ _ D roots (hd.ext hxB7) hok (hr.ext hxB7) (Nat.le_trans hh hxB7.size) (by omega) hrb) ?_
  rintro r2 w8 ⟨P2, hr2, hP2, hx8⟩
  have hxA8 := hxA7.trans hx8
  refine ⟨hxA8, ?_⟩
  rw [← RL_congr (fun j hj => hP1.eq hP2 j hj)] at hr2
  obtain ⟨r2s, r2c, rfl, _, _⟩ := hr2.slice
  repeat (first | refine sp ?_ | (refine is_load ?_; refine ld ?_) | (refine is_store ?_; refine sr ?_) | (refine is_alloc ?_; refine al ?_) | (refine is_box ?_; refine bx ?_) | (refine isl_load ?_; refine ldl ?_) | (refine isl_store ?_; refine srl ?_) | (refine isl_alloc ?_; refine all' ?_) | (refine isl_box ?_; refine bxl ?_))
  refine gol_call rfl rfl (c_SameU32 w8 _ _ _ _ (hr1.ext hx8).rd.up hr2.rd.up (by have := RL_len P1 D.slots.length; omega)) ?_
  rintro _ w9 ⟨rfl, hx9⟩
  have hxA9 := hxA8.trans hx9
  refine ⟨hxA9, ?_⟩
  clear hr1 hr2
  repeat (first | refine sp ?_ | (refine is_load ?_; refine ld ?_) | (refine is_store ?_; refine sr ?_) | (refine is_alloc ?_; refine al ?_) | (refine is_box ?_; refine bx ?_) | (refine isl_load ?_; refine ldl ?_) | (refine isl_store ?_; refine srl ?_) | (refine isl_alloc ?_; refine all' ?_) | (refine isl_box ?_; refine bxl ?_))
  have hxB9 := hx2'.trans hxA9
  refine gol_call rfl rfl (a_Check w9 lo hi _ _ D roots (hd.ext hxB9) hok (hr.ext hxB9) (Nat.le_trans hh hxB9.size) (by omega) hrb) ?_
  rintro f1 w10 ⟨P3, lo3, hlo3, hf1, hP3, hx10⟩
  have hxA10 := hxA9.trans hx10
  refine ⟨hxA10, ?_⟩
  have hf1' := hf1
  unfold OwnF at hf1'
  obtain ⟨f1s, f1c, rfl, _, _⟩ := hf1'.slice
  repeat (first | refine sp ?_ | (refine is_load ?_; refine ld ?_) | (refine is_store ?_; refine sr ?_) | (refine is_alloc ?_; refine al ?_) | (refine is_box ?_; refine bx ?_) | (refine isl_load ?_; refine ldl ?_) | (refine isl_store ?_; refine srl ?_) | (refine isl_alloc ?_; refine all' ?_) | (refine isl_box ?_; refine bxl ?_))
  have hxB10 := hx2'.trans hxA10
  refine gol_call rfl rfl (c_Check w10 lo hi _ _ D roots (hd.ext hxB10) hok (hr.ext hxB10) (Nat.le_trans hh hxB10.size) (by omega) hrb) ?_
  rintro f2 w11 ⟨P4, lo4, hlo4, hf2, hP4, hx11⟩
  have hxA11 := hxA10.trans hx11
  refine ⟨hxA11, ?_⟩
  rw [← finds_congr (fun j hj => hP3.eq hP4 j hj)] at hf2
  have hf2' := hf2
  unfold OwnF at hf2'
  obtain ⟨f2s, f2c, rfl, _, _⟩ := hf2'.slice
  repeat (first | refine sp ?_ | (refine is_load ?_; refine ld ?_) | (refine is_store ?_; refine sr ?_) | (refine is_alloc ?_; refine al ?_) | (refine is_box ?_; refine bx ?_) | (refine isl_load ?_; refine ldl ?_) | (refine isl_store ?_; refine srl ?_) | (refine isl_alloc ?_; refine all' ?_) | (refine isl_box ?_; refine bxl ?_))
  have hfl : (finds D roots P3).length ≤ 100000000 := by
    have h1 := fdSlots_len D roots P3 D.slots.length
    have h2 := flatMap_le (fdRange D) 1 (fun _ => ite_le2) D.free
    have h3 := flatMap_le (fdRoot D) 1 (fun _ => ite_le2) roots
    unfold finds
    rw [List.length_append, List.length_append]; omega
  refine gol_call rfl rfl (c_SameFd w11 _ _ _ _ (Rd.up (hf1.rd.ext hx11)) hf2.rd.up hfl) ?_
  rintro _ w12 ⟨rfl, hx12⟩
  have hxA12 := hxA11.trans hx12
  refine ⟨hxA12, ?_⟩
  repeat (first | refine sp ?_ | (refine is_load ?_; refine ld ?_) | (refine is_store ?_; refine sr ?_) | (refine is_alloc ?_; refine al ?_) | (refine is_box ?_; refine bx ?_) | (refine isl_load ?_; refine ldl ?_) | (refine isl_store ?_; refine srl ?_) | (refine isl_alloc ?_; refine all' ?_) | (refine isl_box ?_; refine bxl ?_))
  exact go_ret1 rfl rfl ⟨_, rfl, rfl, hx2'.trans hxA12⟩

end Go.Proofs.Ytapocbahkeoeoaa
