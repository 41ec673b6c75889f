/-
  The reference: equal lists, subsets, intersections, the order of lists; lists without some keys.
-/
import Derived.Test.YteghhalnpdikoaaCq
import Derived.Test.YteghhalnpdikoaaLg
set_option linter.unusedVariables false
namespace Go.Proofs.Yteghhalnpdikoaa
open Go.Vc

theorem getE_mem {m : List (Int × Int)} (h : Srt m) (k v : Int) : getE m k = some v ↔ (k, v) ∈ m := by
  induction m with
  | nil => simp [getE]
  | cons e m ih =>
    have ih := ih h.tail
    have hh := h.head
    obtain ⟨ek, ev⟩ := e
    unfold getE at ih ⊢
    by_cases hk : ek = k
    · subst hk
      rw [List.find?_cons_of_pos (by simp)]
      simp only [Option.map_some, Option.some.injEq, List.mem_cons, Prod.mk.injEq, true_and]
      constructor
      · intro e; exact Or.inl e.symm
      · rintro (e | e)
        · exact e.symm
        · have := hh _ e; simp at this
    · rw [List.find?_cons_of_neg (by simpa using hk), ih]
      simp only [List.mem_cons, Prod.mk.injEq]
      constructor
      · intro e; exact Or.inr e
      · rintro (e | e)
        · exact absurd e.1.symm hk
        · exact e
theorem getE_none {m : List (Int × Int)} (k : Int) : getE m k = none ↔ ∀ e ∈ m, e.1 ≠ k := by
  unfold getE
  rw [Option.map_eq_none_iff, List.find?_eq_none]
  simp

theorem ent_eqL (a b : Int × Int) : eqL (entC a) (entC b) = decide (a = b) := by
  obtain ⟨a1, a2⟩ := a
  obtain ⟨b1, b2⟩ := b
  by_cases h1 : a1 = b1 <;> by_cases h2 : a2 = b2 <;> simp [eqL, entC, h1, h2]

set_option maxHeartbeats 1000000 in
theorem c_SameB (w : World) (hi1 hi2 : Nat) (v1 v2 : Value) (l m : List (Int × Int)) (h1 : RdU w hi1 v1 entC l) (h2 : RdU w hi2 v2 entC m) (hl : l.length ≤ 1000000) (hm : m.length ≤ 1000000) :
    Calls Try.prog 24 [v1, v2].toArray w (Ret fun r w' => r = .bool (eqB l m) ∧ Ext w w') := by
  obtain ⟨s1, c1, rfl, hc1, _, _⟩ := id h1
  obtain ⟨s2, c2, rfl, hc2, _, _⟩ := id h2
  refine calls_go Try.func24 rfl Try.ntmps24 (Nat.le_of_ble_eq_true rfl) ?_
  by_cases hlm : l.length = m.length
  · repeat (first | refine sp ?_ | (refine is_load ?_; refine ld ?_) | (refine is_store ?_; refine sr ?_) | (refine is_alloc ?_; refine al ?_) | (refine is_box ?_; refine bx ?_) | (refine isl_load ?_; refine ldl ?_) | (refine isl_store ?_; refine srl ?_) | (refine isl_alloc ?_; refine all' ?_) | (refine isl_box ?_; refine bxl ?_))
    refine go_loop (G := Nat) [5] (fun k => [.int .i64 (k : Int)]) [(0, .slice s1 l.length c1), (1, .slice s2 m.length c2)]
      (fun k w' => k ≤ l.length ∧ l.take k = m.take k ∧ Ext w w') (fun k => l.length - k) 0 rfl ⟨rfl, rfl, trivial⟩ ⟨by omega, rfl, by (repeat (first | exact Fr.refl _ _ | assumption | apply Fr.drewN | apply Fr.alloc | (apply Fr.transF; assumption) | (refine Fr.setRow ?_ _ (by first | exact Or.inr (by (first | omega | (simp; done) | (simp; omega))) | (exact Or.inl (by first | assumption | (simp; done)))))))⟩ ?_
    rintro k w1 ⟨hk, htk, hx⟩
    by_cases hlt : k < l.length
    · obtain ⟨b, o, e, _, hcell⟩ := (h1.ext hx).at (m := 2) (fun _ => rfl) (by omega) hlt
      subst e
      have hlt2 : k < m.length := by omega
      obtain ⟨b2, o2, e, _, hcell2⟩ := (h2.ext hx).at (m := 2) (fun _ => rfl) (by omega) hlt2
      subst e
      have hkm : k < m.length := hlt2
      have hs1 : l.take (k + 1) = l.take k ++ [l[k]] := List.take_succ_eq_append_getElem hlt
      have hs2 : m.take (k + 1) = m.take k ++ [m[k]] := List.take_succ_eq_append_getElem hlt2
      have hne : l[k] ≠ m[k] → eqB l m = false := fun hn => decide_eq_false fun e => hn (by subst e; rfl)
      generalize l[k] = x at *
      generalize m[k] = y at *
      repeat (first | refine sp ?_ | (refine is_load ?_; refine ld ?_) | (refine is_store ?_; refine sr ?_) | (refine is_alloc ?_; refine al ?_) | (refine is_box ?_; refine bx ?_) | (refine isl_load ?_; refine ldl ?_) | (refine isl_store ?_; refine srl ?_) | (refine isl_alloc ?_; refine all' ?_) | (refine isl_box ?_; refine bxl ?_) | refine dr Try.follows ?_)
      refine gol_load (v := .agg (entC x).toArray) rfl rfl (ldD_cells (m := 2) (w := w1) rfl (by decide) (fun j u hj => by rw [addr_add]; exact hcell j u hj) id) ?_
      repeat (first | refine sp ?_ | (refine is_load ?_; refine ld ?_) | (refine is_store ?_; refine sr ?_) | (refine is_alloc ?_; refine al ?_) | (refine is_box ?_; refine bx ?_) | (refine isl_load ?_; refine ldl ?_) | (refine isl_store ?_; refine srl ?_) | (refine isl_alloc ?_; refine all' ?_) | (refine isl_box ?_; refine bxl ?_) | refine dr Try.follows ?_)
      refine gol_load (v := .agg (entC y).toArray) rfl rfl (ldD_cells (m := 2) (w := w1) rfl (by decide) (fun j u hj => by rw [addr_add]; exact hcell2 j u hj) id) ?_
      have he := ent_eqL x y
      unfold entC at he ⊢
      repeat (first | refine sp ?_ | (refine is_load ?_; refine ld ?_) | (refine is_store ?_; refine sr ?_) | (refine is_alloc ?_; refine al ?_) | (refine is_box ?_; refine bx ?_) | (refine isl_load ?_; refine ldl ?_) | (refine isl_store ?_; refine srl ?_) | (refine isl_alloc ?_; refine all' ?_) | (refine isl_box ?_; refine bxl ?_) | refine dr Try.follows ?_)
      by_cases hxy : x = y
      · refine go_as 25 (u' := .bool false) rfl (by rw [he, decide_eq_true hxy]; rfl) ?_
        repeat (first | refine sp ?_ | (refine is_load ?_; refine ld ?_) | (refine is_store ?_; refine sr ?_) | (refine is_alloc ?_; refine al ?_) | (refine is_box ?_; refine bx ?_) | (refine isl_load ?_; refine ldl ?_) | (refine isl_store ?_; refine srl ?_) | (refine isl_alloc ?_; refine all' ?_) | (refine isl_box ?_; refine bxl ?_) | refine dr Try.follows ?_)
        exact go_stop (G := Nat) (k + 1) rfl ⟨rfl, rfl, trivial⟩ ⟨hlt, by rw [hs1, hs2, htk, hxy], by (repeat (first | exact Fr.refl _ _ | assumption | apply Fr.drewN | apply Fr.alloc | (apply Fr.transF; assumption) | (refine Fr.setRow ?_ _ (by first | exact Or.inr (by (first | omega | (simp; done) | (simp; omega))) | (exact Or.inl (by first | assumption | (simp; done)))))))⟩ (by show l.length - (k + 1) < l.length - k; omega)
      · refine go_as 25 (u' := .bool true) rfl (by rw [he, decide_eq_false hxy]; rfl) ?_
        rw [hne hxy]
        repeat (first | refine sp ?_ | (refine is_load ?_; refine ld ?_) | (refine is_store ?_; refine sr ?_) | (refine is_alloc ?_; refine al ?_) | (refine is_box ?_; refine bx ?_) | (refine isl_load ?_; refine ldl ?_) | (refine isl_store ?_; refine srl ?_) | (refine isl_alloc ?_; refine all' ?_) | (refine isl_box ?_; refine bxl ?_) | refine dr Try.follows ?_)
        exact go_ret1 rfl rfl ⟨_, rfl, rfl, by (repeat (first | exact Fr.refl _ _ | assumption | apply Fr.drewN | apply Fr.alloc | (apply Fr.transF; assumption) | (refine Fr.setRow ?_ _ (by first | exact Or.inr (by (first | omega | (simp; done) | (simp; omega))) | (exact Or.inl (by first | assumption | (simp; done)))))))⟩
    · have e : l = m := by
        rw [List.take_of_length_le (by omega), List.take_of_length_le (by omega)] at htk
        exact htk
      rw [show eqB l m = true from decide_eq_true e]
      repeat (first | refine sp ?_ | (refine is_load ?_; refine ld ?_) | (refine is_store ?_; refine sr ?_) | (refine is_alloc ?_; refine al ?_) | (refine is_box ?_; refine bx ?_) | (refine isl_load ?_; refine ldl ?_) | (refine isl_store ?_; refine srl ?_) | (refine isl_alloc ?_; refine all' ?_) | (refine isl_box ?_; refine bxl ?_) | refine dr Try.follows ?_)
      exact go_ret1 rfl rfl ⟨_, rfl, rfl, hx⟩
  · rw [show eqB l m = false from decide_eq_false fun e => hlm (by rw [e])]
    repeat (first | refine sp ?_ | (refine is_load ?_; refine ld ?_) | (refine is_store ?_; refine sr ?_) | (refine is_alloc ?_; refine al ?_) | (refine is_box ?_; refine bx ?_) | (refine isl_load ?_; refine ldl ?_) | (refine isl_store ?_; refine srl ?_) | (refine isl_alloc ?_; refine all' ?_) | (refine isl_box ?_; refine bxl ?_))
    exact go_ret1 rfl rfl ⟨_, rfl, rfl, by (repeat (first | exact Fr.refl _ _ | assumption | apply Fr.drewN | apply Fr.alloc | (apply Fr.transF; assumption) | (refine Fr.setRow ?_ _ (by first | exact Or.inr (by (first | omega | (simp; done) | (simp; omega))) | (exact Or.inl (by first | assumption | (simp; done)))))))⟩

set_option maxHeartbeats 1000000 in
theorem c_refSubset (w : World) (hi1 hi2 : Nat) (v1 v2 : Value) (l m : List (Int × Int)) (h1 : RdU w hi1 v1 entC l) (h2 : RdU w hi2 v2 entC m) (hl : l.length ≤ 1000000) (hm : m.length ≤ 1000000) (hs : Srt m) :
    Calls Try.prog 25 [v1, v2].toArray w (Ret fun r w' => r = .bool (subB l m) ∧ w' = w) := by
  obtain ⟨s1, c1, rfl, hc1, _, _⟩ := id h1
  obtain ⟨s2, c2, rfl, hc2, _, _⟩ := id h2
  refine calls_go Try.func25 rfl Try.ntmps25 (Nat.le_of_ble_eq_true rfl) ?_
  repeat (first | refine sp ?_ | (refine is_load ?_; refine ld ?_) | (refine is_store ?_; refine sr ?_) | (refine is_alloc ?_; refine al ?_) | (refine is_box ?_; refine bx ?_) | (refine isl_load ?_; refine ldl ?_) | (refine isl_store ?_; refine srl ?_) | (refine isl_alloc ?_; refine all' ?_) | (refine isl_box ?_; refine bxl ?_))
  refine go_loop (G := Nat) [5] (fun k => [.int .i64 (k : Int)]) [(0, .slice s1 l.length c1), (1, .slice s2 m.length c2)]
    (fun k w' => k ≤ l.length ∧ (∀ e ∈ l.take k, e ∈ m) ∧ w' = w) (fun k => l.length - k) 0 rfl ⟨rfl, rfl, trivial⟩ ⟨by omega, by simp, rfl⟩ ?_
  rintro k w ⟨hk, htk, rfl⟩
  by_cases hlt : k < l.length
  · obtain ⟨b, o, e, _, hcell⟩ := h1.at (m := 2) (fun _ => rfl) (by omega) hlt
    subst e
    have e0 := hcell 0 (.int .i64 l[k].1) rfl
    have e1 := hcell 1 (.int .i64 l[k].2) rfl
    have hs1 : l.take (k + 1) = l.take k ++ [l[k]] := List.take_succ_eq_append_getElem hlt
    have hmem : l[k] ∈ l := List.getElem_mem hlt
    have hne : l[k] ∉ m → subB l m = false := fun hn => decide_eq_false fun e => hn (e _ hmem)
    generalize l[k] = x at *
    repeat (first | refine sp ?_ | (refine is_load ?_; refine ld ?_) | (refine is_store ?_; refine sr ?_) | (refine is_alloc ?_; refine al ?_) | (refine is_box ?_; refine bx ?_) | (refine isl_load ?_; refine ldl ?_) | (refine isl_store ?_; refine srl ?_) | (refine isl_alloc ?_; refine all' ?_) | (refine isl_box ?_; refine bxl ?_))
    refine go_call rfl rfl (c_refGet _ hi2 _ m x.1 h2 hm) ?_
    rintro _ w1 ⟨rfl, rfl⟩
    unfold getV
    have hg := getE_mem hs x.1 x.2
    cases hge : getE m x.1 with
    | none =>
      rw [hne (fun hx => by rw [hge] at hg; exact absurd (hg.2 hx) (by simp))]
      simp only [Option.getD_none, Option.isSome_none]
      repeat (first | refine sp ?_ | (refine is_load ?_; refine ld ?_) | (refine is_store ?_; refine sr ?_) | (refine is_alloc ?_; refine al ?_) | (refine is_box ?_; refine bx ?_) | (refine isl_load ?_; refine ldl ?_) | (refine isl_store ?_; refine srl ?_) | (refine isl_alloc ?_; refine all' ?_) | (refine isl_box ?_; refine bxl ?_))
      exact go_ret1 rfl rfl ⟨_, rfl, rfl, rfl⟩
    | some v =>
      simp only [Option.getD_some, Option.isSome_some]
      by_cases hv : v = x.2
      · subst hv
        repeat (first | refine sp ?_ | (refine is_load ?_; refine ld ?_) | (refine is_store ?_; refine sr ?_) | (refine is_alloc ?_; refine al ?_) | (refine is_box ?_; refine bx ?_) | (refine isl_load ?_; refine ldl ?_) | (refine isl_store ?_; refine srl ?_) | (refine isl_alloc ?_; refine all' ?_) | (refine isl_box ?_; refine bxl ?_))
        refine go_stop (G := Nat) (k + 1) rfl ⟨rfl, rfl, trivial⟩ ⟨hlt, fun e he => ?_, rfl⟩ (by show l.length - (k + 1) < l.length - k; omega)
        rw [hs1] at he
        rcases List.mem_append.1 he with he | he
        · exact htk e he
        · simp at he; subst he; exact hg.1 hge
      · rw [hne (fun hx => by
          rw [hge] at hg
          exact hv (by simpa using hg.2 hx))]
        repeat (first | refine sp ?_ | (refine is_load ?_; refine ld ?_) | (refine is_store ?_; refine sr ?_) | (refine is_alloc ?_; refine al ?_) | (refine is_box ?_; refine bx ?_) | (refine isl_load ?_; refine ldl ?_) | (refine isl_store ?_; refine srl ?_) | (refine isl_alloc ?_; refine all' ?_) | (refine isl_box ?_; refine bxl ?_))
        exact go_ret1 rfl rfl ⟨_, rfl, rfl, rfl⟩
  · rw [show subB l m = true from decide_eq_true fun e he => htk e (by rw [List.take_of_length_le (by omega)]; exact he)]
    repeat (first | refine sp ?_ | (refine is_load ?_; refine ld ?_) | (refine is_store ?_; refine sr ?_) | (refine is_alloc ?_; refine al ?_) | (refine is_box ?_; refine bx ?_) | (refine isl_load ?_; refine ldl ?_) | (refine isl_store ?_; refine srl ?_) | (refine isl_alloc ?_; refine all' ?_) | (refine isl_box ?_; refine bxl ?_))
    exact go_ret1 rfl rfl ⟨_, rfl, rfl, rfl⟩

theorem c_Choose1 (w : World) (v u : Int) :
    Calls Try.prog 65 [.int .i64 1, .int .i64 v, .int .i64 u].toArray w (Ret fun r w' => r = .int .i64 v ∧ w' = w) := by
  refine calls_go Try.func65 rfl Try.ntmps65 (Nat.le_of_ble_eq_true rfl) ?_
  repeat (first | refine sp ?_ | (refine is_load ?_; refine ld ?_) | (refine is_store ?_; refine sr ?_) | (refine is_alloc ?_; refine al ?_) | (refine is_box ?_; refine bx ?_) | (refine isl_load ?_; refine ldl ?_) | (refine isl_store ?_; refine srl ?_) | (refine isl_alloc ?_; refine all' ?_) | (refine isl_box ?_; refine bxl ?_))
  exact go_ret1 rfl rfl ⟨_, rfl, rfl, rfl⟩

set_option maxHeartbeats 1000000 in
theorem c_refInter (w : World) (hi1 hi2 : Nat) (v1 v2 : Value) (l m : List (Int × Int)) (h1 : RdU w hi1 v1 entC l) (h2 : RdU w hi2 v2 entC m) (hh1 : hi1 ≤ w.heap.size) (hh2 : hi2 ≤ w.heap.size) (hl : l.length ≤ 1000000) (hm : m.length ≤ 1000000) :
    Calls Try.prog 26 [v1, v2, .int .i64 1].toArray w (Ret fun r w' => OwnE w' w.heap.size r (l.filter fun e => (getE m e.1).isSome) ∧ Ext w w') := by
  obtain ⟨s1, c1, rfl, hc1, _, _⟩ := id h1
  obtain ⟨s2, c2, rfl, hc2, _, _⟩ := id h2
  refine calls_go Try.func26 rfl Try.ntmps26 (Nat.le_of_ble_eq_true rfl) ?_
  repeat (first | refine sp ?_ | (refine is_load ?_; refine ld ?_) | (refine is_store ?_; refine sr ?_) | (refine is_alloc ?_; refine al ?_) | (refine is_box ?_; refine bx ?_) | (refine isl_load ?_; refine ldl ?_) | (refine isl_store ?_; refine srl ?_) | (refine isl_alloc ?_; refine all' ?_) | (refine isl_box ?_; refine bxl ?_))
  refine go_loop (G := Nat × Value) [7, 8] (fun ⟨k, v⟩ => [v, .int .i64 (k : Int)]) [(0, .slice s1 l.length c1), (1, .slice s2 m.length c2), (2, .int .i64 1)]
    (fun ⟨k, v⟩ w' => k ≤ l.length ∧ OwnE w' w.heap.size v ((l.take k).filter fun e => (getE m e.1).isSome) ∧ Ext w w') (fun g => l.length - g.1) (0, .slice none 0 0) rfl ⟨rfl, rfl, rfl, trivial⟩ ⟨by omega, Own.nil _ _ _ _, by (repeat (first | exact Fr.refl _ _ | assumption | apply Fr.drewN | apply Fr.alloc | (apply Fr.transF; assumption) | (refine Fr.setRow ?_ _ (by first | exact Or.inr (by (first | omega | (simp; done) | (simp; omega))) | (exact Or.inl (by first | assumption | (simp; done)))))))⟩ ?_
  rintro ⟨k, v⟩ w1 ⟨hk, ho, hx⟩
  obtain ⟨a, hae⟩ : ∃ a, (l.take k).filter (fun e => (getE m e.1).isSome) = a := ⟨_, rfl⟩
  have hal : a.length ≤ k := by rw [← hae]; exact Nat.le_trans (List.length_filter_le _ _) (by simp; omega)
  rw [hae] at ho
  unfold OwnE at ho
  obtain ⟨sv, cv, rfl, _, _⟩ := ho.slice
  by_cases hlt : k < l.length
  · obtain ⟨b, o, e, hbl, hcell⟩ := (h1.ext hx).at (m := 2) (fun _ => rfl) (by omega) hlt
    subst e
    have e0 := hcell 0 (.int .i64 l[k].1) rfl
    have e1 := hcell 1 (.int .i64 l[k].2) rfl
    have hs1 : (l.take (k + 1)).filter (fun e => (getE m e.1).isSome) = a ++ if (getE m l[k].1).isSome = true then [l[k]] else [] := by
      rw [List.take_succ_eq_append_getElem hlt, List.filter_append, hae]
      by_cases hc : (getE m l[k].1).isSome = true <;> simp [hc]
    generalize l[k] = x at *
    repeat (first | refine sp ?_ | (refine is_load ?_; refine ld ?_) | (refine is_store ?_; refine sr ?_) | (refine is_alloc ?_; refine al ?_) | (refine is_box ?_; refine bx ?_) | (refine isl_load ?_; refine ldl ?_) | (refine isl_store ?_; refine srl ?_) | (refine isl_alloc ?_; refine all' ?_) | (refine isl_box ?_; refine bxl ?_))
    refine go_call rfl rfl (c_refGet _ hi2 _ m x.1 (h2.ext hx) hm) ?_
    rintro _ w2 ⟨rfl, rfl⟩
    unfold getV
    cases hge : getE m x.1 with
    | none =>
      rw [hge] at hs1
      simp only [Option.getD_none, Option.isSome_none, Bool.false_eq_true, if_false, List.append_nil] at hs1 ⊢
      repeat (first | refine sp ?_ | (refine is_load ?_; refine ld ?_) | (refine is_store ?_; refine sr ?_) | (refine is_alloc ?_; refine al ?_) | (refine is_box ?_; refine bx ?_) | (refine isl_load ?_; refine ldl ?_) | (refine isl_store ?_; refine srl ?_) | (refine isl_alloc ?_; refine all' ?_) | (refine isl_box ?_; refine bxl ?_))
      exact go_stop (G := Nat × Value) (k + 1, _) rfl ⟨rfl, rfl, rfl, trivial⟩ ⟨hlt, by rw [hs1]; exact ho, hx⟩ (by show l.length - (k + 1) < l.length - k; omega)
    | some u =>
      rw [hge] at hs1
      simp only [Option.getD_some, Option.isSome_some, if_true] at hs1 ⊢
      repeat (first | refine sp ?_ | (refine is_load ?_; refine ld ?_) | (refine is_store ?_; refine sr ?_) | (refine is_alloc ?_; refine al ?_) | (refine is_box ?_; refine bx ?_) | (refine isl_load ?_; refine ldl ?_) | (refine isl_store ?_; refine srl ?_) | (refine isl_alloc ?_; refine all' ?_) | (refine isl_box ?_; refine bxl ?_))
      refine go_drawE (Fr (fun _ => False) w2) 2 Try.follows (by kernel_rfl) (by kernel_rfl) (by kernel_rfl) ((Fr.refl _ _).drewN 1) ?_
      repeat (first | refine sp ?_ | (refine is_load ?_; refine ld ?_) | (refine is_store ?_; refine sr ?_) | (refine is_alloc ?_; refine al ?_) | (refine is_box ?_; refine bx ?_) | (refine isl_load ?_; refine ldl ?_) | (refine isl_store ?_; refine srl ?_) | (refine isl_alloc ?_; refine all' ?_) | (refine isl_box ?_; refine bxl ?_))
      refine gol_call rfl rfl (c_Choose1 _ x.2 u) ?_
      rintro _ w3 ⟨rfl, rfl⟩
      refine ⟨by show Ext _ _; (repeat (first | exact Fr.refl _ _ | assumption | apply Fr.drewN | apply Fr.alloc | (apply Fr.transF; assumption) | (refine Fr.setRow ?_ _ (by first | exact Or.inr (by (first | omega | (simp; done) | (simp; omega))) | (exact Or.inl (by first | assumption | (simp; done))))))), ?_⟩
      repeat (first | refine sp ?_ | (refine is_load ?_; refine ld ?_) | (refine is_store ?_; refine sr ?_) | (refine is_alloc ?_; refine al ?_) | (refine is_box ?_; refine bx ?_) | (refine isl_load ?_; refine ldl ?_) | (refine isl_store ?_; refine srl ?_) | (refine isl_alloc ?_; refine all' ?_) | (refine isl_box ?_; refine bxl ?_))
      refine gol_litG (l := entC x) rfl rfl (by decide) (by decide) rfl (by show Fr _ _ _; (repeat (first | exact Fr.refl _ _ | assumption | apply Fr.drewN | apply Fr.alloc | (apply Fr.transF; assumption) | (refine Fr.setRow ?_ _ (by first | exact Or.inr (by (first | omega | (simp; done) | (simp; omega))) | (exact Or.inl (by first | assumption | (simp; done)))))))) ?_
      repeat (first | refine sp ?_ | (refine is_load ?_; refine ld ?_) | (refine is_store ?_; refine sr ?_) | (refine is_alloc ?_; refine al ?_) | (refine is_box ?_; refine bx ?_) | (refine isl_load ?_; refine ldl ?_) | (refine isl_store ?_; refine srl ?_) | (refine isl_alloc ?_; refine all' ?_) | (refine isl_box ?_; refine bxl ?_))
      have hx3 : Ext w2 ((w2.drewN 1).alloc (.cells (entC x).toArray 72)) := by (repeat (first | exact Fr.refl _ _ | assumption | apply Fr.drewN | apply Fr.alloc | (apply Fr.transF; assumption) | (refine Fr.setRow ?_ _ (by first | exact Or.inr (by (first | omega | (simp; done) | (simp; omega))) | (exact Or.inl (by first | assumption | (simp; done)))))))
      have hat := At.new (w2.drewN 1) (entC x) 72
      refine gol_appendG (r := 1) (sa := some ⟨(w2.drewN 1).heap.size, 0, none⟩) (news := entC x) (by decide) rfl rfl rfl (Own.ext ho hx3) (by
        intro j u hj
        exact ⟨_, _, rfl, by have := hat.cell (i := j) (v := u) hj; simpa using this⟩) rfl (by intro u hu; simp [entC] at hu; rcases hu with rfl | rfl <;> rfl) (by simp [maxLen]; omega) (by omega) (by have := hx.size; simp; omega) ?_
      intro v4 w4 ho4 hg4 _
      have hx4 : Ext w w4 := ext_grown (hx.trans hx3) (by omega) (Own.ext ho hx3) hg4
      have ho5 : OwnE w4 w.heap.size v4 (a ++ [x]) := by unfold OwnE; rw [List.flatMap_append, List.length_append]; simpa using ho4
      refine ⟨trivial, ?_⟩
      repeat (first | refine sp ?_ | (refine is_load ?_; refine ld ?_) | (refine is_store ?_; refine sr ?_) | (refine is_alloc ?_; refine al ?_) | (refine is_box ?_; refine bx ?_) | (refine isl_load ?_; refine ldl ?_) | (refine isl_store ?_; refine srl ?_) | (refine isl_alloc ?_; refine all' ?_) | (refine isl_box ?_; refine bxl ?_))
      exact go_stop (G := Nat × Value) (k + 1, _) rfl ⟨rfl, rfl, rfl, trivial⟩ ⟨hlt, by rw [hs1]; exact ho5, hx4⟩ (by show l.length - (k + 1) < l.length - k; omega)
  · have e : l.take k = l := List.take_of_length_le (by omega)
    rw [e] at hae
    rw [hae]
    repeat (first | refine sp ?_ | (refine is_load ?_; refine ld ?_) | (refine is_store ?_; refine sr ?_) | (refine is_alloc ?_; refine al ?_) | (refine is_box ?_; refine bx ?_) | (refine isl_load ?_; refine ldl ?_) | (refine isl_store ?_; refine srl ?_) | (refine isl_alloc ?_; refine all' ?_) | (refine isl_box ?_; refine bxl ?_))
    exact go_ret1 rfl rfl ⟨_, rfl, ho, hx⟩

theorem inter_dis {l m : List (Int × Int)} : (l.filter fun e => (getE m e.1).isSome).length = 0 ↔ disB l m = true := by
  unfold disB
  rw [decide_eq_true_iff]
  constructor
  · intro h e he f hf hk
    have h := List.eq_nil_of_length_eq_zero h
    rw [List.filter_eq_nil_iff] at h
    have h := h e he
    cases hg : getE m e.1 with
    | none => exact (getE_none e.1).1 hg f hf hk.symm
    | some v => rw [hg] at h; exact h rfl
  · intro h
    rw [List.filter_eq_nil_iff.2]; · rfl
    intro e he hs
    rw [(getE_none e.1).2 fun f hf hk => h e he f hf hk.symm] at hs
    cases hs

set_option maxHeartbeats 1000000 in
theorem c_Outside (w : World) (hi : Nat) (lv : Value) (l : List (Int × Int)) (x y : Int) (hr : RdU w hi lv entC l) (hh : hi ≤ w.heap.size) (hlen : l.length ≤ 1000000) :
    Calls Try.prog 83 [lv, .int .i64 x, .int .i64 y].toArray w (Ret fun r w' => OwnE w' w.heap.size r (l.filter fun e => decide (e.1 < x ∨ y < e.1)) ∧ Ext w w') := by
  obtain ⟨sa, cap, rfl, hlc, _, _⟩ := id hr
  refine calls_go Try.func83 rfl Try.ntmps83 (Nat.le_of_ble_eq_true rfl) ?_
  repeat (first | refine sp ?_ | (refine is_load ?_; refine ld ?_) | (refine is_store ?_; refine sr ?_) | (refine is_alloc ?_; refine al ?_) | (refine is_box ?_; refine bx ?_) | (refine isl_load ?_; refine ldl ?_) | (refine isl_store ?_; refine srl ?_) | (refine isl_alloc ?_; refine all' ?_) | (refine isl_box ?_; refine bxl ?_))
  refine go_loop (G := Nat × Value) [7, 8] (fun ⟨k, v⟩ => [v, .int .i64 (k : Int)]) [(0, .slice sa l.length cap), (1, .int .i64 x), (2, .int .i64 y)]
    (fun ⟨k, v⟩ w' => k ≤ l.length ∧ OwnE w' w.heap.size v ((l.take k).filter fun e => decide (e.1 < x ∨ y < e.1)) ∧ Ext w w') (fun g => l.length - g.1) (0, .slice none 0 0) rfl ⟨rfl, rfl, rfl, trivial⟩ ⟨by omega, Own.nil _ _ _ _, by (repeat (first | exact Fr.refl _ _ | assumption | apply Fr.drewN | apply Fr.alloc | (apply Fr.transF; assumption) | (refine Fr.setRow ?_ _ (by first | exact Or.inr (by (first | omega | (simp; done) | (simp; omega))) | (exact Or.inl (by first | assumption | (simp; done)))))))⟩ ?_
  rintro ⟨k, v⟩ w1 ⟨hk, ho, hx⟩
  obtain ⟨a, hae⟩ : ∃ a, (l.take k).filter (fun e => decide (e.1 < x ∨ y < e.1)) = a := ⟨_, rfl⟩
  have hal : a.length ≤ k := by rw [← hae]; exact Nat.le_trans (List.length_filter_le _ _) (by simp; omega)
  rw [hae] at ho
  unfold OwnE at ho
  obtain ⟨sv, cv, rfl, _, _⟩ := ho.slice
  by_cases hlt : k < l.length
  · obtain ⟨b, o, e, hbl, hcell⟩ := (hr.ext hx).at (m := 2) (fun _ => rfl) (by omega) hlt
    subst e
    have e0 := hcell 0 (.int .i64 l[k].1) rfl
    have hs1 : (l.take (k + 1)).filter (fun e => decide (e.1 < x ∨ y < e.1)) = a ++ if l[k].1 < x ∨ y < l[k].1 then [l[k]] else [] := by
      rw [List.take_succ_eq_append_getElem hlt, List.filter_append, hae]
      by_cases hc : l[k].1 < x ∨ y < l[k].1 <;> simp [hc]
    generalize l[k] = z at *
    have hst : (∀ j u, (entC z)[j]? = some u → w1.cell? ((⟨b, o + k * 2, none⟩ : Addr).add j) = some u) := fun j u hj => by rw [addr_add]; exact hcell j u hj
    by_cases hc1 : z.1 < x
    · rw [if_pos (Or.inl hc1)] at hs1
      repeat (first | refine sp ?_ | (refine is_load ?_; refine ld ?_) | (refine is_store ?_; refine sr ?_) | (refine is_alloc ?_; refine al ?_) | (refine is_box ?_; refine bx ?_) | (refine isl_load ?_; refine ldl ?_) | (refine isl_store ?_; refine srl ?_) | (refine isl_alloc ?_; refine all' ?_) | (refine isl_box ?_; refine bxl ?_))
      refine go_load (v := .agg (entC z).toArray) rfl rfl (ld_cells (m := 2) rfl (by decide) hst) ?_
      unfold entC
      repeat (first | refine sp ?_ | (refine is_load ?_; refine ld ?_) | (refine is_store ?_; refine sr ?_) | (refine is_alloc ?_; refine al ?_) | (refine is_box ?_; refine bx ?_) | (refine isl_load ?_; refine ldl ?_) | (refine isl_store ?_; refine srl ?_) | (refine isl_alloc ?_; refine all' ?_) | (refine isl_box ?_; refine bxl ?_))
      refine go_pushG (l := entC z) (by decide) rfl rfl rfl rfl ho rfl (by simp [Value.oneCell']) (by omega) (by simp [maxLen]; omega) (by omega) (by have := hx.size; omega) ?_
      intro v2 w2 ho2 hg2 _
      have hx2 : Ext w w2 := ext_grown hx (by omega) ho hg2
      have ho3 : OwnE w2 w.heap.size v2 (a ++ [z]) := by unfold OwnE; rw [List.flatMap_append, List.length_append]; simpa using ho2
      repeat (first | refine sp ?_ | (refine is_load ?_; refine ld ?_) | (refine is_store ?_; refine sr ?_) | (refine is_alloc ?_; refine al ?_) | (refine is_box ?_; refine bx ?_) | (refine isl_load ?_; refine ldl ?_) | (refine isl_store ?_; refine srl ?_) | (refine isl_alloc ?_; refine all' ?_) | (refine isl_box ?_; refine bxl ?_))
      exact go_stop (G := Nat × Value) (k + 1, _) rfl ⟨rfl, rfl, rfl, trivial⟩ ⟨hlt, by rw [hs1]; exact ho3, hx2⟩ (by show l.length - (k + 1) < l.length - k; omega)
    · by_cases hc2 : y < z.1
      · rw [if_pos (Or.inr hc2)] at hs1
        repeat (first | refine sp ?_ | (refine is_load ?_; refine ld ?_) | (refine is_store ?_; refine sr ?_) | (refine is_alloc ?_; refine al ?_) | (refine is_box ?_; refine bx ?_) | (refine isl_load ?_; refine ldl ?_) | (refine isl_store ?_; refine srl ?_) | (refine isl_alloc ?_; refine all' ?_) | (refine isl_box ?_; refine bxl ?_))
        refine go_load (v := .agg (entC z).toArray) rfl rfl (ld_cells (m := 2) rfl (by decide) hst) ?_
        unfold entC
        repeat (first | refine sp ?_ | (refine is_load ?_; refine ld ?_) | (refine is_store ?_; refine sr ?_) | (refine is_alloc ?_; refine al ?_) | (refine is_box ?_; refine bx ?_) | (refine isl_load ?_; refine ldl ?_) | (refine isl_store ?_; refine srl ?_) | (refine isl_alloc ?_; refine all' ?_) | (refine isl_box ?_; refine bxl ?_))
        refine go_pushG (l := entC z) (by decide) rfl rfl rfl rfl ho rfl (by simp [Value.oneCell']) (by omega) (by simp [maxLen]; omega) (by omega) (by have := hx.size; omega) ?_
        intro v2 w2 ho2 hg2 _
        have hx2 : Ext w w2 := ext_grown hx (by omega) ho hg2
        have ho3 : OwnE w2 w.heap.size v2 (a ++ [z]) := by unfold OwnE; rw [List.flatMap_append, List.length_append]; simpa using ho2
        repeat (first | refine sp ?_ | (refine is_load ?_; refine ld ?_) | (refine is_store ?_; refine sr ?_) | (refine is_alloc ?_; refine al ?_) | (refine is_box ?_; refine bx ?_) | (refine isl_load ?_; refine ldl ?_) | (refine isl_store ?_; refine srl ?_) | (refine isl_alloc ?_; refine all' ?_) | (refine isl_box ?_; refine bxl ?_))
        exact go_stop (G := Nat × Value) (k + 1, _) rfl ⟨rfl, rfl, rfl, trivial⟩ ⟨hlt, by rw [hs1]; exact ho3, hx2⟩ (by show l.length - (k + 1) < l.length - k; omega)
      · rw [if_neg (by omega), List.append_nil] at hs1
        repeat (first | refine sp ?_ | (refine is_load ?_; refine ld ?_) | (refine is_store ?_; refine sr ?_) | (refine is_alloc ?_; refine al ?_) | (refine is_box ?_; refine bx ?_) | (refine isl_load ?_; refine ldl ?_) | (refine isl_store ?_; refine srl ?_) | (refine isl_alloc ?_; refine all' ?_) | (refine isl_box ?_; refine bxl ?_))
        exact go_stop (G := Nat × Value) (k + 1, _) rfl ⟨rfl, rfl, rfl, trivial⟩ ⟨hlt, by rw [hs1]; exact ho, hx⟩ (by show l.length - (k + 1) < l.length - k; omega)
  · have e : l.take k = l := List.take_of_length_le (by omega)
    rw [e] at hae
    rw [hae]
    repeat (first | refine sp ?_ | (refine is_load ?_; refine ld ?_) | (refine is_store ?_; refine sr ?_) | (refine is_alloc ?_; refine al ?_) | (refine is_box ?_; refine bx ?_) | (refine isl_load ?_; refine ldl ?_) | (refine isl_store ?_; refine srl ?_) | (refine isl_alloc ?_; refine all' ?_) | (refine isl_box ?_; refine bxl ?_))
    exact go_ret1 rfl rfl ⟨_, rfl, ho, hx⟩

theorem c_Delete (w : World) (hi : Nat) (lv : Value) (l : List (Int × Int)) (x : Int) (hr : RdU w hi lv entC l) (hh : hi ≤ w.heap.size) (hlen : l.length ≤ 1000000) :
    Calls Try.prog 55 [lv, .int .i64 x].toArray w (Ret fun r w' => OwnE w' w.heap.size r (l.filter fun e => decide (e.1 < x ∨ x < e.1)) ∧ Ext w w') := by
  obtain ⟨sa, cap, rfl, hlc, _, _⟩ := id hr
  refine calls_go Try.func55 rfl Try.ntmps55 (Nat.le_of_ble_eq_true rfl) ?_
  repeat (first | refine sp ?_ | (refine is_load ?_; refine ld ?_) | (refine is_store ?_; refine sr ?_) | (refine is_alloc ?_; refine al ?_) | (refine is_box ?_; refine bx ?_) | (refine isl_load ?_; refine ldl ?_) | (refine isl_store ?_; refine srl ?_) | (refine isl_alloc ?_; refine all' ?_) | (refine isl_box ?_; refine bxl ?_))
  refine go_call rfl rfl (c_Outside _ hi _ l x x hr hh hlen) ?_
  rintro v w1 ⟨ho, hx⟩
  obtain ⟨sv, cv, rfl, _, _⟩ := Own.slice ho
  repeat (first | refine sp ?_ | (refine is_load ?_; refine ld ?_) | (refine is_store ?_; refine sr ?_) | (refine is_alloc ?_; refine al ?_) | (refine is_box ?_; refine bx ?_) | (refine isl_load ?_; refine ldl ?_) | (refine isl_store ?_; refine srl ?_) | (refine isl_alloc ?_; refine all' ?_) | (refine isl_box ?_; refine bxl ?_))
  exact go_ret1 rfl rfl ⟨_, rfl, ho, hx⟩

theorem cmp_dr {l m : List (Int × Int)} {k : Nat} (h1 : k < l.length) (h2 : k < m.length) : cmpL (l.drop k) (m.drop k) = if l[k].1 < m[k].1 ∨ (l[k].1 = m[k].1 ∧ l[k].2 < m[k].2) then -1 else if l[k] = m[k] then cmpL (l.drop (k + 1)) (m.drop (k + 1)) else 1 := by
  conv => lhs; rw [List.drop_eq_getElem_cons h1, List.drop_eq_getElem_cons h2]
  rfl

set_option maxHeartbeats 1000000 in
theorem c_refCompare (w : World) (hi1 hi2 : Nat) (v1 v2 : Value) (l m : List (Int × Int)) (h1 : RdU w hi1 v1 entC l) (h2 : RdU w hi2 v2 entC m) (hh1 : hi1 ≤ w.heap.size) (hh2 : hi2 ≤ w.heap.size) (hl : l.length ≤ 1000000) (hm : m.length ≤ 1000000) :
    Calls Try.prog 27 [v1, v2].toArray w (Ret fun r w' => r = .int .i64 (cmpL l m) ∧ Ext w w') := by
  obtain ⟨s1, c1, rfl, hc1, _, _⟩ := id h1
  obtain ⟨s2, c2, rfl, hc2, _, _⟩ := id h2
  refine calls_go Try.func27 rfl Try.ntmps27 (Nat.le_of_ble_eq_true rfl) ?_
  repeat (first | refine sp ?_ | (refine is_load ?_; refine ld ?_) | (refine is_store ?_; refine sr ?_) | (refine is_alloc ?_; refine al ?_) | (refine is_box ?_; refine bx ?_) | (refine isl_load ?_; refine ldl ?_) | (refine isl_store ?_; refine srl ?_) | (refine isl_alloc ?_; refine all' ?_) | (refine isl_box ?_; refine bxl ?_))
  refine go_loop (G := Nat) [5] (fun k => [.int .i64 (k : Int)]) [(0, .slice s1 l.length c1), (1, .slice s2 m.length c2)]
    (fun k w' => k ≤ l.length ∧ k ≤ m.length ∧ cmpL (l.drop k) (m.drop k) = cmpL l m ∧ Ext w w') (fun k => l.length - k) 0 rfl ⟨rfl, rfl, trivial⟩ ⟨by omega, by omega, rfl, by (repeat (first | exact Fr.refl _ _ | assumption | apply Fr.drewN | apply Fr.alloc | (apply Fr.transF; assumption) | (refine Fr.setRow ?_ _ (by first | exact Or.inr (by (first | omega | (simp; done) | (simp; omega))) | (exact Or.inl (by first | assumption | (simp; done)))))))⟩ ?_
  rintro k w1 ⟨hk, hk2, hcm, hx⟩
  by_cases hlt : k < l.length
  · by_cases hlt2 : k < m.length
    · obtain ⟨b, o, e, _, hcell⟩ := (h1.ext hx).at (m := 2) (fun _ => rfl) (by omega) hlt
      subst e
      obtain ⟨b2, o2, e, _, hcell2⟩ := (h2.ext hx).at (m := 2) (fun _ => rfl) (by omega) hlt2
      subst e
      rw [cmp_dr hlt hlt2] at hcm
      generalize l[k] = x at *
      generalize m[k] = y at *
      repeat (first | refine sp ?_ | (refine is_load ?_; refine ld ?_) | (refine is_store ?_; refine sr ?_) | (refine is_alloc ?_; refine al ?_) | (refine is_box ?_; refine bx ?_) | (refine isl_load ?_; refine ldl ?_) | (refine isl_store ?_; refine srl ?_) | (refine isl_alloc ?_; refine all' ?_) | (refine isl_box ?_; refine bxl ?_))
      refine go_cut (G := Nat × Nat) [6, 7] (fun ⟨a, b⟩ => [ptr a, ptr b]) [(0, .slice (some ⟨b, o, none⟩) l.length c1), (1, .slice (some ⟨b2, o2, none⟩) m.length c2), (5, .int .i64 (k : Int))]
        (fun ⟨a, b⟩ w' => At w' a (entC x) 72 ∧ At w' b (entC y) 72 ∧ Ext w1 w') ?_ ?_
      · refine go_sched (Fr (fun _ => False) w1) (.op 0 (.op 1 (.op 2 (.op 3 (.op 4 (.op 5 (.op 6 (.op 7 (.alt 8 (.op 9 (.op 10 (.op 11 (.fin)))) (.op 9 (.op 8 (.op 10 (.op 11 (.fin)))))))))))))) Try.follows (by kernel_rfl) (by kernel_rfl) (by kernel_rfl) ((Fr.refl _ _).drewN 1) ?_
        repeat (first | refine sp ?_ | (refine is_load ?_; refine ld ?_) | (refine is_store ?_; refine sr ?_) | (refine is_alloc ?_; refine al ?_) | (refine is_box ?_; refine bx ?_) | (refine isl_load ?_; refine ldl ?_) | (refine isl_store ?_; refine srl ?_) | (refine isl_alloc ?_; refine all' ?_) | (refine isl_box ?_; refine bxl ?_))
        refine gol_load (v := .agg (entC x).toArray) rfl rfl (ldD_cells (m := 2) (w := w1) rfl (by decide) (fun j u hj => by rw [addr_add]; exact hcell j u hj) id) ?_
        repeat (first | refine sp ?_ | (refine is_load ?_; refine ld ?_) | (refine is_store ?_; refine sr ?_) | (refine is_alloc ?_; refine al ?_) | (refine is_box ?_; refine bx ?_) | (refine isl_load ?_; refine ldl ?_) | (refine isl_store ?_; refine srl ?_) | (refine isl_alloc ?_; refine all' ?_) | (refine isl_box ?_; refine bxl ?_))
        refine gol_load (v := .agg (entC y).toArray) rfl rfl (ldD_cells (m := 2) (w := w1) rfl (by decide) (fun j u hj => by rw [addr_add]; exact hcell2 j u hj) id) ?_
        unfold entC
        repeat (first | refine sp ?_ | (refine is_load ?_; refine ld ?_) | (refine is_store ?_; refine sr ?_) | (refine is_alloc ?_; refine al ?_) | (refine is_box ?_; refine bx ?_) | (refine isl_load ?_; refine ldl ?_) | (refine isl_store ?_; refine srl ?_) | (refine isl_alloc ?_; refine all' ?_) | (refine isl_box ?_; refine bxl ?_))
        refine go_alt rfl ?_ ?_
        · repeat (first | refine sp ?_ | (refine is_load ?_; refine ld ?_) | (refine is_store ?_; refine sr ?_) | (refine is_alloc ?_; refine al ?_) | (refine is_box ?_; refine bx ?_) | (refine isl_load ?_; refine ldl ?_) | (refine isl_store ?_; refine srl ?_) | (refine isl_alloc ?_; refine all' ?_) | (refine isl_box ?_; refine bxl ?_))
          exact go_stop (G := Nat × Nat) (_, _) rfl ⟨rfl, rfl, rfl, trivial⟩ ⟨by (repeat (first | assumption | (refine At.new' (by (first | omega | (simp; done) | (simp; omega))) _ _) | apply At.alloc | apply At.drewN | apply At.setRow | (apply At.setRow_neF; first | assumption | (apply Ne.symm; assumption) | omega) | (apply At.extF; assumption))), by (repeat (first | assumption | (refine At.new' (by (first | omega | (simp; done) | (simp; omega))) _ _) | apply At.alloc | apply At.drewN | apply At.setRow | (apply At.setRow_neF; first | assumption | (apply Ne.symm; assumption) | omega) | (apply At.extF; assumption))), by (repeat (first | exact Fr.refl _ _ | assumption | apply Fr.drewN | apply Fr.alloc | (apply Fr.transF; assumption) | (refine Fr.setRow ?_ _ (by first | exact Or.inr (by (first | omega | (simp; done) | (simp; omega))) | (exact Or.inl (by first | assumption | (simp; done)))))))⟩ trivial
        · repeat (first | refine sp ?_ | (refine is_load ?_; refine ld ?_) | (refine is_store ?_; refine sr ?_) | (refine is_alloc ?_; refine al ?_) | (refine is_box ?_; refine bx ?_) | (refine isl_load ?_; refine ldl ?_) | (refine isl_store ?_; refine srl ?_) | (refine isl_alloc ?_; refine all' ?_) | (refine isl_box ?_; refine bxl ?_))
          exact go_stop (G := Nat × Nat) (_, _) rfl ⟨rfl, rfl, rfl, trivial⟩ ⟨by (repeat (first | assumption | (refine At.new' (by (first | omega | (simp; done) | (simp; omega))) _ _) | apply At.alloc | apply At.drewN | apply At.setRow | (apply At.setRow_neF; first | assumption | (apply Ne.symm; assumption) | omega) | (apply At.extF; assumption))), by (repeat (first | assumption | (refine At.new' (by (first | omega | (simp; done) | (simp; omega))) _ _) | apply At.alloc | apply At.drewN | apply At.setRow | (apply At.setRow_neF; first | assumption | (apply Ne.symm; assumption) | omega) | (apply At.extF; assumption))), by (repeat (first | exact Fr.refl _ _ | assumption | apply Fr.drewN | apply Fr.alloc | (apply Fr.transF; assumption) | (refine Fr.setRow ?_ _ (by first | exact Or.inr (by (first | omega | (simp; done) | (simp; omega))) | (exact Or.inl (by first | assumption | (simp; done)))))))⟩ trivial
      · rintro ⟨a, d⟩ w2 ⟨ha, hd, hx2⟩
        have hx2' := hx.trans hx2
        have he := ent_eqL x y
        obtain ⟨xk, xv⟩ := x
        obtain ⟨yk, yv⟩ := y
        unfold entC at ha hd he
        rcases Int.lt_trichotomy xk yk with hc | hc | hc
        · rw [if_pos (Or.inl hc)] at hcm
          rw [← hcm]
          repeat (first | refine sp ?_ | (refine is_load ?_; refine ld ?_) | (refine is_store ?_; refine sr ?_) | (refine is_alloc ?_; refine al ?_) | (refine is_box ?_; refine bx ?_) | (refine isl_load ?_; refine ldl ?_) | (refine isl_store ?_; refine srl ?_) | (refine isl_alloc ?_; refine all' ?_) | (refine isl_box ?_; refine bxl ?_))
          exact go_ret1 rfl rfl ⟨_, rfl, rfl, hx2'⟩
        · subst hc
          by_cases hv : xv < yv
          · rw [if_pos (Or.inr ⟨rfl, hv⟩)] at hcm
            rw [← hcm]
            repeat (first | refine sp ?_ | (refine is_load ?_; refine ld ?_) | (refine is_store ?_; refine sr ?_) | (refine is_alloc ?_; refine al ?_) | (refine is_box ?_; refine bx ?_) | (refine isl_load ?_; refine ldl ?_) | (refine isl_store ?_; refine srl ?_) | (refine isl_alloc ?_; refine all' ?_) | (refine isl_box ?_; refine bxl ?_))
            exact go_ret1 rfl rfl ⟨_, rfl, rfl, hx2'⟩
          · rw [if_neg (by simp; omega)] at hcm
            by_cases hv2 : xv = yv
            · subst hv2
              rw [if_pos rfl] at hcm
              repeat (first | refine sp ?_ | (refine is_load ?_; refine ld ?_) | (refine is_store ?_; refine sr ?_) | (refine is_alloc ?_; refine al ?_) | (refine is_box ?_; refine bx ?_) | (refine isl_load ?_; refine ldl ?_) | (refine isl_store ?_; refine srl ?_) | (refine isl_alloc ?_; refine all' ?_) | (refine isl_box ?_; refine bxl ?_))
              refine go_as 48 (u' := .bool false) rfl (by rw [he]; simp) ?_
              repeat (first | refine sp ?_ | (refine is_load ?_; refine ld ?_) | (refine is_store ?_; refine sr ?_) | (refine is_alloc ?_; refine al ?_) | (refine is_box ?_; refine bx ?_) | (refine isl_load ?_; refine ldl ?_) | (refine isl_store ?_; refine srl ?_) | (refine isl_alloc ?_; refine all' ?_) | (refine isl_box ?_; refine bxl ?_))
              exact go_stop (G := Nat) (k + 1) rfl ⟨rfl, rfl, trivial⟩ ⟨hlt, hlt2, hcm, hx2'⟩ (by show l.length - (k + 1) < l.length - k; omega)
            · rw [if_neg (by simp; omega)] at hcm
              rw [← hcm]
              repeat (first | refine sp ?_ | (refine is_load ?_; refine ld ?_) | (refine is_store ?_; refine sr ?_) | (refine is_alloc ?_; refine al ?_) | (refine is_box ?_; refine bx ?_) | (refine isl_load ?_; refine ldl ?_) | (refine isl_store ?_; refine srl ?_) | (refine isl_alloc ?_; refine all' ?_) | (refine isl_box ?_; refine bxl ?_))
              refine go_as 48 (u' := .bool true) rfl (by rw [he]; simp [hv2]) ?_
              repeat (first | refine sp ?_ | (refine is_load ?_; refine ld ?_) | (refine is_store ?_; refine sr ?_) | (refine is_alloc ?_; refine al ?_) | (refine is_box ?_; refine bx ?_) | (refine isl_load ?_; refine ldl ?_) | (refine isl_store ?_; refine srl ?_) | (refine isl_alloc ?_; refine all' ?_) | (refine isl_box ?_; refine bxl ?_))
              exact go_ret1 rfl rfl ⟨_, rfl, rfl, hx2'⟩
        · rw [if_neg (by simp; omega), if_neg (by simp; omega)] at hcm
          rw [← hcm]
          repeat (first | refine sp ?_ | (refine is_load ?_; refine ld ?_) | (refine is_store ?_; refine sr ?_) | (refine is_alloc ?_; refine al ?_) | (refine is_box ?_; refine bx ?_) | (refine isl_load ?_; refine ldl ?_) | (refine isl_store ?_; refine srl ?_) | (refine isl_alloc ?_; refine all' ?_) | (refine isl_box ?_; refine bxl ?_))
          refine go_as 48 (u' := .bool true) rfl (by rw [he]; simp; omega) ?_
          repeat (first | refine sp ?_ | (refine is_load ?_; refine ld ?_) | (refine is_store ?_; refine sr ?_) | (refine is_alloc ?_; refine al ?_) | (refine is_box ?_; refine bx ?_) | (refine isl_load ?_; refine ldl ?_) | (refine isl_store ?_; refine srl ?_) | (refine isl_alloc ?_; refine all' ?_) | (refine isl_box ?_; refine bxl ?_))
          exact go_ret1 rfl rfl ⟨_, rfl, rfl, hx2'⟩
    · obtain rfl : k = m.length := by omega
      rw [List.drop_length, List.drop_eq_getElem_cons hlt] at hcm
      rw [← hcm]
      repeat (first | refine sp ?_ | (refine is_load ?_; refine ld ?_) | (refine is_store ?_; refine sr ?_) | (refine is_alloc ?_; refine al ?_) | (refine is_box ?_; refine bx ?_) | (refine isl_load ?_; refine ldl ?_) | (refine isl_store ?_; refine srl ?_) | (refine isl_alloc ?_; refine all' ?_) | (refine isl_box ?_; refine bxl ?_))
      exact go_ret1 rfl rfl ⟨_, rfl, rfl, hx⟩
  · obtain rfl : k = l.length := by omega
    rw [List.drop_length] at hcm
    by_cases hlt2 : l.length < m.length
    · rw [List.drop_eq_getElem_cons hlt2] at hcm
      rw [← hcm]
      repeat (first | refine sp ?_ | (refine is_load ?_; refine ld ?_) | (refine is_store ?_; refine sr ?_) | (refine is_alloc ?_; refine al ?_) | (refine is_box ?_; refine bx ?_) | (refine isl_load ?_; refine ldl ?_) | (refine isl_store ?_; refine srl ?_) | (refine isl_alloc ?_; refine all' ?_) | (refine isl_box ?_; refine bxl ?_))
      exact go_ret1 rfl rfl ⟨_, rfl, rfl, hx⟩
    · have e : m.length = l.length := by omega
      rw [← e, List.drop_length] at hcm
      rw [← hcm]
      repeat (first | refine sp ?_ | (refine is_load ?_; refine ld ?_) | (refine is_store ?_; refine sr ?_) | (refine is_alloc ?_; refine al ?_) | (refine is_box ?_; refine bx ?_) | (refine isl_load ?_; refine ldl ?_) | (refine isl_store ?_; refine srl ?_) | (refine isl_alloc ?_; refine all' ?_) | (refine isl_box ?_; refine bxl ?_))
      exact go_ret1 rfl rfl ⟨_, rfl, rfl, hx⟩

end Go.Proofs.Yteghhalnpdikoaa
