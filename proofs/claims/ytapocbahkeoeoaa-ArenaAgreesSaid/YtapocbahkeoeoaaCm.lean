/-
  The reference's audit of a dump: edges and reachable slots.
-/
import Derived.Test.YtapocbahkeoeoaaCk
set_option linter.unusedVariables false
namespace Go.Proofs.Ytapocbahkeoeoaa
open Go.Vc

theorem OwnN.nec' {w : World} {lo b : Nat} {v : Value} {l : List Nat} {C : List Value} {T : TypeId} (h : OwnN w lo v l) (hb : At w b C T) (hT : T ≠ 27) : v.ownBlock ≠ some b := by
  intro e
  obtain ⟨_, C', hat⟩ := Own.block_lt h e
  exact hb.ne hat hT rfl

theorem kdsF_len (l : List Slt) : (kdsF l).length ≤ 2 * l.length := by
  induction l with
  | nil => exact Nat.le_refl _
  | cons s l ih =>
    unfold kdsF at ih ⊢
    rw [List.flatMap_cons, List.length_append, List.length_cons]
    have : (if s.on = true then s.kd else []).length ≤ 2 := by split <;> simp [Slt.kd]
    omega

/-- A child of a slot is counted. -/
def kdTake (s : Slt) (k : Nat) : List Nat := if s.on = true then s.kd.take k else []

set_option maxHeartbeats 4000000 in
theorem c_InEdges (w : World) (lo : Nat) (v : Value) (D : Dp) (hd : DpAt w lo v D) (hok : D.Ok) :
    Calls Try.prog 24 [v].toArray w (Ret fun r w' => IntsAt w' w.heap.size r (fun j => ((kdsF D.slots).count (j + 1) : Int)) D.slots.length ∧ Ext w w') := by
  have hln := hok.len
  obtain ⟨sv, fv, rfl, hs, hf⟩ := hd
  have hs' := hs.up
  obtain ⟨s1, c1, rfl, h1, _, _⟩ := hs
  obtain ⟨s2, c2, rfl, h2, _, _⟩ := hf
  generalize hn : D.slots.length = n at *
  refine calls_go Try.func24 rfl Try.ntmps24 (Nat.le_of_ble_eq_true rfl) ?_
  repeat (first | refine sp ?_ | (refine is_load ?_; refine ld ?_) | (refine is_store ?_; refine sr ?_) | (refine is_alloc ?_; refine al ?_) | (refine is_box ?_; refine bx ?_) | (refine isl_load ?_; refine ldl ?_) | (refine isl_store ?_; refine srl ?_) | (refine isl_alloc ?_; refine all' ?_) | (refine isl_box ?_; refine bxl ?_) | refine dr Try.follows ?_)
  refine go_makeF (c := n) rfl rfl rfl rfl rfl (by omega) (by unfold maxLen; omega) rfl ?_
  refine go_name (F := fun w1 => At w1 w.heap.size [.slice s1 n c1, .slice s2 D.free.length c2] 36 ∧ At w1 (w.heap.size + 1) (cellsF (fun _ => [.int .i64 0]) n) 3 ∧ Ext w w1) ⟨by (repeat (first | assumption | (refine At.new' (by (first | omega | (simp; done) | (simp; omega))) _ _) | apply At.alloc | apply At.drewN | apply At.setRow | (apply At.setRow_neF; first | assumption | (apply Ne.symm; assumption) | omega) | (apply At.extF; assumption))), by (repeat (first | assumption | (refine At.new' (by (first | omega | (simp; done) | (simp; omega))) _ _) | apply At.alloc | apply At.drewN | apply At.setRow | (apply At.setRow_neF; first | assumption | (apply Ne.symm; assumption) | omega) | (apply At.extF; assumption))), by (repeat (first | exact Fr.refl _ _ | assumption | apply Fr.drewN | apply Fr.alloc | (apply Fr.transF; assumption) | (refine Fr.setRow ?_ _ (by first | exact Or.inr (by (first | omega | (simp; done) | (simp; omega))) | (exact Or.inl (by first | assumption | (simp; done)))))))⟩ ?_
  rintro w1 ⟨hdb, hat, hx1⟩
  repeat (first | refine sp ?_ | (refine is_load ?_; refine ld ?_) | (refine is_store ?_; refine sr ?_) | (refine is_alloc ?_; refine al ?_) | (refine is_box ?_; refine bx ?_) | (refine isl_load ?_; refine ldl ?_) | (refine isl_store ?_; refine srl ?_) | (refine isl_alloc ?_; refine all' ?_) | (refine isl_box ?_; refine bxl ?_) | refine dr Try.follows ?_)
  refine go_as 3 (u' := .slice (some ⟨w.heap.size + 1, 0, none⟩) n n) rfl (by simp) ?_
  refine go_loop (G := Nat) [4] (fun k => [.int .i64 (k : Int)]) [(1, ptr w.heap.size), (3, .slice (some ⟨w.heap.size + 1, 0, none⟩) n n)]
    (fun k w' => k ≤ n ∧ At w' w.heap.size [.slice s1 n c1, .slice s2 D.free.length c2] 36 ∧ At w' (w.heap.size + 1) (cellsF (fun j => [.int .i64 ((kdsF (D.slots.take k)).count (j + 1) : Int)]) n) 3 ∧ Ext w w') (fun k => n - k) 0 rfl ⟨rfl, rfl, trivial⟩ ⟨by omega, hdb, by simpa [kdsF] using hat, hx1⟩ ?_
  clear hdb hat hx1
  rintro k w2 ⟨hk, hdb, hat, hx2⟩
  have hdl := hdb.lt
  have hal := hat.lt
  by_cases hlt : k < n
  · have hlt' : k < D.slots.length := by omega
    obtain ⟨b, o, e, hbl, hcell⟩ := (hs'.ext hx2).at (m := 11) slt_len (by omega) hlt'
    subst e
    have hkid := hok.kid _ (List.getElem_mem hlt')
    have hts : kdsF (D.slots.take (k + 1)) = kdsF (D.slots.take k) ++ (if D.slots[k].on = true then D.slots[k].kd else []) := by
      rw [List.take_succ_eq_append_getElem hlt']; unfold kdsF; rw [List.flatMap_append]; congr 1; simp only [List.flatMap_cons, List.flatMap_nil, List.append_nil]
    have hpl : (kdsF (D.slots.take k)).length ≤ 2000000 := Nat.le_trans (kdsF_len _) (by rw [List.length_take]; omega)
    generalize D.slots[k] = s at *
    generalize kdsF (D.slots.take k) = pre at *
    repeat (first | refine sp ?_ | (refine is_load ?_; refine ld ?_) | (refine is_store ?_; refine sr ?_) | (refine is_alloc ?_; refine al ?_) | (refine is_box ?_; refine bx ?_) | (refine isl_load ?_; refine ldl ?_) | (refine isl_store ?_; refine srl ?_) | (refine isl_alloc ?_; refine all' ?_) | (refine isl_box ?_; refine bxl ?_) | refine dr Try.follows ?_)
    refine go_load (v := .agg s.cells.toArray) rfl rfl (ld_cells (m := 11) rfl (by decide) fun j u hj => by rw [addr_add]; exact hcell j u hj) ?_
    refine go_call rfl rfl (c_kids w2 s) ?_
    rintro _ w3 ⟨rfl, hx3⟩
    have e0 := (Fr.cell (S := fun _ => False) hx3 (hcell 0 (.bool s.on) rfl) id)
    replace hdb := hdb.ext hx3
    replace hat := hat.ext hx3
    have hx3' := hx2.trans hx3
    have hs3 := hx3.size
    have hs3' := hx3'.size
    repeat (first | refine sp ?_ | (refine is_load ?_; refine ld ?_) | (refine is_store ?_; refine sr ?_) | (refine is_alloc ?_; refine al ?_) | (refine is_box ?_; refine bx ?_) | (refine isl_load ?_; refine ldl ?_) | (refine isl_store ?_; refine srl ?_) | (refine isl_alloc ?_; refine all' ?_) | (refine isl_box ?_; refine bxl ?_) | refine dr Try.follows ?_)
    refine go_name (F := fun w4 => At w4 w3.heap.size [.int .u32 (s.nd.left : Int), .int .u32 (s.nd.right : Int)] 98 ∧ At w4 w.heap.size [.slice (some ⟨b, o, none⟩) n c1, .slice s2 D.free.length c2] 36 ∧ At w4 (w.heap.size + 1) (cellsF (fun j => [.int .i64 (pre.count (j + 1) : Int)]) n) 3 ∧ w4.cell? ⟨b, o + k * 11 + 0, none⟩ = some (.bool s.on) ∧ Ext w w4) ⟨by (repeat (first | assumption | (refine At.new' (by (first | omega | (simp; done) | (simp; omega))) _ _) | apply At.alloc | apply At.drewN | apply At.setRow | (apply At.setRow_neF; first | assumption | (apply Ne.symm; assumption) | omega) | (apply At.extF; assumption))), by (repeat (first | assumption | (refine At.new' (by (first | omega | (simp; done) | (simp; omega))) _ _) | apply At.alloc | apply At.drewN | apply At.setRow | (apply At.setRow_neF; first | assumption | (apply Ne.symm; assumption) | omega) | (apply At.extF; assumption))), by (repeat (first | assumption | (refine At.new' (by (first | omega | (simp; done) | (simp; omega))) _ _) | apply At.alloc | apply At.drewN | apply At.setRow | (apply At.setRow_neF; first | assumption | (apply Ne.symm; assumption) | omega) | (apply At.extF; assumption))), Fr.cell (S := fun _ => False) (w := w3) (by (repeat (first | exact Fr.refl _ _ | assumption | apply Fr.drewN | apply Fr.alloc | (apply Fr.transF; assumption) | (refine Fr.setRow ?_ _ (by first | exact Or.inr (by (first | omega | (simp; done) | (simp; omega))) | (exact Or.inl (by first | assumption | (simp; done)))))))) e0 id, by (repeat (first | exact Fr.refl _ _ | assumption | apply Fr.drewN | apply Fr.alloc | (apply Fr.transF; assumption) | (refine Fr.setRow ?_ _ (by first | exact Or.inr (by (first | omega | (simp; done) | (simp; omega))) | (exact Or.inl (by first | assumption | (simp; done)))))))⟩ ?_
    clear hdb hat
    rintro w4 ⟨hcb, hdb, hat, e4, hx4⟩
    have hcl := hcb.lt
    have hl3 := hx3'.size
    refine go_loop (G := Nat) [6] (fun i => [.int .i64 (i : Int)]) [(1, ptr w.heap.size), (3, .slice (some ⟨w.heap.size + 1, 0, none⟩) n n), (4, .int .i64 (k : Int)), (5, ptr w3.heap.size)]
      (fun i w' => i ≤ 2 ∧ At w' w3.heap.size [.int .u32 (s.nd.left : Int), .int .u32 (s.nd.right : Int)] 98 ∧ At w' w.heap.size [.slice (some ⟨b, o, none⟩) n c1, .slice s2 D.free.length c2] 36 ∧ At w' (w.heap.size + 1) (cellsF (fun j => [.int .i64 ((pre ++ kdTake s i).count (j + 1) : Int)]) n) 3 ∧ w'.cell? ⟨b, o + k * 11 + 0, none⟩ = some (.bool s.on) ∧ Ext w w') (fun i => 2 - i) 0 rfl ⟨rfl, rfl, rfl, rfl, trivial⟩ ⟨by omega, hcb, hdb, by simpa [kdTake] using hat, e4, hx4⟩ ?_
    clear hcb hdb hat e4 hx4 hcl
    rintro i w5 ⟨hi, hcb, hdb, hat, e5, hx5⟩
    have hi3 : i = 0 ∨ i = 1 ∨ i = 2 := by omega
    rcases hi3 with rfl | rfl | rfl
    · obtain ⟨c, hc⟩ : ∃ c, s.nd.left = c := ⟨_, rfl⟩
      have hc32 : c < 4294967296 := by rw [← hc]; exact hkid.1
      cases hon : s.on with
      | false =>
        have ek : kdTake s (0 + 1) = kdTake s 0 := by simp [kdTake, hon]
        rw [hon] at e5
        rw [← ek] at hat
        repeat (first | refine sp ?_ | (refine is_load ?_; refine ld ?_) | (refine is_store ?_; refine sr ?_) | (refine is_alloc ?_; refine al ?_) | (refine is_box ?_; refine bx ?_) | (refine isl_load ?_; refine ldl ?_) | (refine isl_store ?_; refine srl ?_) | (refine isl_alloc ?_; refine all' ?_) | (refine isl_box ?_; refine bxl ?_) | refine dr Try.follows ?_)
        exact go_stop (G := Nat) (0 + 1) rfl ⟨rfl, rfl, rfl, rfl, trivial⟩ ⟨by omega, hcb, hdb, hat, e5, hx5⟩ (by show 2 - (0 + 1) < 2 - 0; omega)
      | true =>
        have ek : kdTake s (0 + 1) = kdTake s 0 ++ [c] := by simp [kdTake, hon, Slt.kd, hc]
        rw [hon] at e5
        rw [hc] at hcb
        have hl5 : (pre ++ kdTake s 0).length ≤ 2000002 := by
          have : (kdTake s 0).length ≤ 2 := by unfold kdTake; split <;> simp [Slt.kd]
          rw [List.length_append]; omega
        by_cases h0 : c = 0
        · rw [nobump (Or.inl h0), List.append_assoc, ← ek] at hat
          repeat (first | refine sp ?_ | (refine is_load ?_; refine ld ?_) | (refine is_store ?_; refine sr ?_) | (refine is_alloc ?_; refine al ?_) | (refine is_box ?_; refine bx ?_) | (refine isl_load ?_; refine ldl ?_) | (refine isl_store ?_; refine srl ?_) | (refine isl_alloc ?_; refine all' ?_) | (refine isl_box ?_; refine bxl ?_) | refine dr Try.follows ?_)
          refine go_p rfl (pr_idx2 (j := 0) rfl rfl rfl (by omega)) ?_
          repeat (first | refine sp ?_ | (refine is_load ?_; refine ld ?_) | (refine is_store ?_; refine sr ?_) | (refine is_alloc ?_; refine al ?_) | (refine is_box ?_; refine bx ?_) | (refine isl_load ?_; refine ldl ?_) | (refine isl_store ?_; refine srl ?_) | (refine isl_alloc ?_; refine all' ?_) | (refine isl_box ?_; refine bxl ?_) | refine dr Try.follows ?_)
          exact go_stop (G := Nat) (0 + 1) rfl ⟨rfl, rfl, rfl, rfl, trivial⟩ ⟨by omega, by rw [hc]; exact hcb, hdb, hat, e5, hx5⟩ (by show 2 - (0 + 1) < 2 - 0; omega)
        by_cases h1 : n < c
        · rw [nobump (Or.inr h1), List.append_assoc, ← ek] at hat
          repeat (first | refine sp ?_ | (refine is_load ?_; refine ld ?_) | (refine is_store ?_; refine sr ?_) | (refine is_alloc ?_; refine al ?_) | (refine is_box ?_; refine bx ?_) | (refine isl_load ?_; refine ldl ?_) | (refine isl_store ?_; refine srl ?_) | (refine isl_alloc ?_; refine all' ?_) | (refine isl_box ?_; refine bxl ?_) | refine dr Try.follows ?_)
          refine go_p rfl (pr_idx2 (j := 0) rfl rfl rfl (by omega)) ?_
          repeat (first | refine sp ?_ | (refine is_load ?_; refine ld ?_) | (refine is_store ?_; refine sr ?_) | (refine is_alloc ?_; refine al ?_) | (refine is_box ?_; refine bx ?_) | (refine isl_load ?_; refine ldl ?_) | (refine isl_store ?_; refine srl ?_) | (refine isl_alloc ?_; refine all' ?_) | (refine isl_box ?_; refine bxl ?_) | refine dr Try.follows ?_)
          refine go_p rfl (pr_idx2 (j := 0) rfl rfl rfl (by omega)) ?_
          repeat (first | refine sp ?_ | (refine is_load ?_; refine ld ?_) | (refine is_store ?_; refine sr ?_) | (refine is_alloc ?_; refine al ?_) | (refine is_box ?_; refine bx ?_) | (refine isl_load ?_; refine ldl ?_) | (refine isl_store ?_; refine srl ?_) | (refine isl_alloc ?_; refine all' ?_) | (refine isl_box ?_; refine bxl ?_) | refine dr Try.follows ?_)
          exact go_stop (G := Nat) (0 + 1) rfl ⟨rfl, rfl, rfl, rfl, trivial⟩ ⟨by omega, by rw [hc]; exact hcb, hdb, hat, e5, hx5⟩ (by show 2 - (0 + 1) < 2 - 0; omega)
        · obtain ⟨y, rfl⟩ : ∃ y, c = y + 1 := ⟨c - 1, by omega⟩
          have hcl : (cellsF (fun j => [Value.int .i64 ((pre ++ kdTake s 0).count (j + 1) : Int)]) n)[0 + y]? = some (.int .i64 ((pre ++ kdTake s 0).count (y + 1) : Int)) := by
            rw [Nat.zero_add]; exact one_get (f := fun j => Value.int .i64 ((pre ++ kdTake s 0).count (j + 1) : Int)) (by omega)
          have hcbd : (pre ++ kdTake s 0).count (y + 1) ≤ 2000002 := Nat.le_trans List.count_le_length hl5
          repeat (first | refine sp ?_ | (refine is_load ?_; refine ld ?_) | (refine is_store ?_; refine sr ?_) | (refine is_alloc ?_; refine al ?_) | (refine is_box ?_; refine bx ?_) | (refine isl_load ?_; refine ldl ?_) | (refine isl_store ?_; refine srl ?_) | (refine isl_alloc ?_; refine all' ?_) | (refine isl_box ?_; refine bxl ?_) | refine dr Try.follows ?_)
          refine go_p rfl (pr_idx2 (j := 0) rfl rfl rfl (by omega)) ?_
          repeat (first | refine sp ?_ | (refine is_load ?_; refine ld ?_) | (refine is_store ?_; refine sr ?_) | (refine is_alloc ?_; refine al ?_) | (refine is_box ?_; refine bx ?_) | (refine isl_load ?_; refine ldl ?_) | (refine isl_store ?_; refine srl ?_) | (refine isl_alloc ?_; refine all' ?_) | (refine isl_box ?_; refine bxl ?_) | refine dr Try.follows ?_)
          refine go_p rfl (pr_idx2 (j := 0) rfl rfl rfl (by omega)) ?_
          repeat (first | refine sp ?_ | (refine is_load ?_; refine ld ?_) | (refine is_store ?_; refine sr ?_) | (refine is_alloc ?_; refine al ?_) | (refine is_box ?_; refine bx ?_) | (refine isl_load ?_; refine ldl ?_) | (refine isl_store ?_; refine srl ?_) | (refine isl_alloc ?_; refine all' ?_) | (refine isl_box ?_; refine bxl ?_) | refine dr Try.follows ?_)
          refine go_p rfl (pr_idx2 (j := 0) rfl rfl rfl (by omega)) ?_
          repeat (first | refine sp ?_ | (refine is_load ?_; refine ld ?_) | (refine is_store ?_; refine sr ?_) | (refine is_alloc ?_; refine al ?_) | (refine is_box ?_; refine bx ?_) | (refine isl_load ?_; refine ldl ?_) | (refine isl_store ?_; refine srl ?_) | (refine isl_alloc ?_; refine all' ?_) | (refine isl_box ?_; refine bxl ?_) | refine dr Try.follows ?_)
          refine go_as 54 (u' := .int .u32 (y : Int)) rfl (by congr 1; omega) ?_
          repeat (first | refine sp ?_ | (refine is_load ?_; refine ld ?_) | (refine is_store ?_; refine sr ?_) | (refine is_alloc ?_; refine al ?_) | (refine is_box ?_; refine bx ?_) | (refine isl_load ?_; refine ldl ?_) | (refine isl_store ?_; refine srl ?_) | (refine isl_alloc ?_; refine all' ?_) | (refine isl_box ?_; refine bxl ?_) | refine dr Try.follows ?_)
          rw [show (cellsF (fun j => [Value.int .i64 ((pre ++ kdTake s 0).count (j + 1) : Int)]) n).set (0 + y) (.int .i64 (((pre ++ kdTake s 0).count (y + 1) : Int) + 1)) = cellsF (fun j => [Value.int .i64 ((pre ++ kdTake s (0 + 1)).count (j + 1) : Int)]) n by rw [Nat.zero_add, ek, ← List.append_assoc]; exact bump (by omega)]
          exact go_stop (G := Nat) (0 + 1) rfl ⟨rfl, rfl, rfl, rfl, trivial⟩ ⟨by omega, by rw [hc]; (repeat (first | assumption | (refine At.new' (by (first | omega | (simp; done) | (simp; omega))) _ _) | apply At.alloc | apply At.drewN | apply At.setRow | (apply At.setRow_neF; first | assumption | (apply Ne.symm; assumption) | omega) | (apply At.extF; assumption))), by (repeat (first | assumption | (refine At.new' (by (first | omega | (simp; done) | (simp; omega))) _ _) | apply At.alloc | apply At.drewN | apply At.setRow | (apply At.setRow_neF; first | assumption | (apply Ne.symm; assumption) | omega) | (apply At.extF; assumption))), by (repeat (first | assumption | (refine At.new' (by (first | omega | (simp; done) | (simp; omega))) _ _) | apply At.alloc | apply At.drewN | apply At.setRow | (apply At.setRow_neF; first | assumption | (apply Ne.symm; assumption) | omega) | (apply At.extF; assumption))), Fr.cell (S := fun b => b = w.heap.size + 1) (w := w5) (by (repeat (first | exact Fr.refl _ _ | assumption | apply Fr.drewN | apply Fr.alloc | (apply Fr.transF; assumption) | (refine Fr.setRow ?_ _ (by first | exact Or.inr (by (first | omega | (simp; done) | (simp; omega))) | (exact Or.inl (by first | assumption | (simp; done)))))))) e5 (by show ¬ b = w.heap.size + 1; omega), by (repeat (first | exact Fr.refl _ _ | assumption | apply Fr.drewN | apply Fr.alloc | (apply Fr.transF; assumption) | (refine Fr.setRow ?_ _ (by first | exact Or.inr (by (first | omega | (simp; done) | (simp; omega))) | (exact Or.inl (by first | assumption | (simp; done)))))))⟩ (by show 2 - (0 + 1) < 2 - 0; omega)
    · obtain ⟨c, hc⟩ : ∃ c, s.nd.right = c := ⟨_, rfl⟩
      have hc32 : c < 4294967296 := by rw [← hc]; exact hkid.2
      cases hon : s.on with
      | false =>
        have ek : kdTake s (1 + 1) = kdTake s 1 := by simp [kdTake, hon]
        rw [hon] at e5
        rw [← ek] at hat
        repeat (first | refine sp ?_ | (refine is_load ?_; refine ld ?_) | (refine is_store ?_; refine sr ?_) | (refine is_alloc ?_; refine al ?_) | (refine is_box ?_; refine bx ?_) | (refine isl_load ?_; refine ldl ?_) | (refine isl_store ?_; refine srl ?_) | (refine isl_alloc ?_; refine all' ?_) | (refine isl_box ?_; refine bxl ?_) | refine dr Try.follows ?_)
        exact go_stop (G := Nat) (1 + 1) rfl ⟨rfl, rfl, rfl, rfl, trivial⟩ ⟨by omega, hcb, hdb, hat, e5, hx5⟩ (by show 2 - (1 + 1) < 2 - 1; omega)
      | true =>
        have ek : kdTake s (1 + 1) = kdTake s 1 ++ [c] := by simp [kdTake, hon, Slt.kd, hc]
        rw [hon] at e5
        rw [hc] at hcb
        have hl5 : (pre ++ kdTake s 1).length ≤ 2000002 := by
          have : (kdTake s 1).length ≤ 2 := by unfold kdTake; split <;> simp [Slt.kd]
          rw [List.length_append]; omega
        by_cases h0 : c = 0
        · rw [nobump (Or.inl h0), List.append_assoc, ← ek] at hat
          repeat (first | refine sp ?_ | (refine is_load ?_; refine ld ?_) | (refine is_store ?_; refine sr ?_) | (refine is_alloc ?_; refine al ?_) | (refine is_box ?_; refine bx ?_) | (refine isl_load ?_; refine ldl ?_) | (refine isl_store ?_; refine srl ?_) | (refine isl_alloc ?_; refine all' ?_) | (refine isl_box ?_; refine bxl ?_) | refine dr Try.follows ?_)
          refine go_p rfl (pr_idx2 (j := 1) rfl rfl rfl (by omega)) ?_
          repeat (first | refine sp ?_ | (refine is_load ?_; refine ld ?_) | (refine is_store ?_; refine sr ?_) | (refine is_alloc ?_; refine al ?_) | (refine is_box ?_; refine bx ?_) | (refine isl_load ?_; refine ldl ?_) | (refine isl_store ?_; refine srl ?_) | (refine isl_alloc ?_; refine all' ?_) | (refine isl_box ?_; refine bxl ?_) | refine dr Try.follows ?_)
          exact go_stop (G := Nat) (1 + 1) rfl ⟨rfl, rfl, rfl, rfl, trivial⟩ ⟨by omega, by rw [hc]; exact hcb, hdb, hat, e5, hx5⟩ (by show 2 - (1 + 1) < 2 - 1; omega)
        by_cases h1 : n < c
        · rw [nobump (Or.inr h1), List.append_assoc, ← ek] at hat
          repeat (first | refine sp ?_ | (refine is_load ?_; refine ld ?_) | (refine is_store ?_; refine sr ?_) | (refine is_alloc ?_; refine al ?_) | (refine is_box ?_; refine bx ?_) | (refine isl_load ?_; refine ldl ?_) | (refine isl_store ?_; refine srl ?_) | (refine isl_alloc ?_; refine all' ?_) | (refine isl_box ?_; refine bxl ?_) | refine dr Try.follows ?_)
          refine go_p rfl (pr_idx2 (j := 1) rfl rfl rfl (by omega)) ?_
          repeat (first | refine sp ?_ | (refine is_load ?_; refine ld ?_) | (refine is_store ?_; refine sr ?_) | (refine is_alloc ?_; refine al ?_) | (refine is_box ?_; refine bx ?_) | (refine isl_load ?_; refine ldl ?_) | (refine isl_store ?_; refine srl ?_) | (refine isl_alloc ?_; refine all' ?_) | (refine isl_box ?_; refine bxl ?_) | refine dr Try.follows ?_)
          refine go_p rfl (pr_idx2 (j := 1) rfl rfl rfl (by omega)) ?_
          repeat (first | refine sp ?_ | (refine is_load ?_; refine ld ?_) | (refine is_store ?_; refine sr ?_) | (refine is_alloc ?_; refine al ?_) | (refine is_box ?_; refine bx ?_) | (refine isl_load ?_; refine ldl ?_) | (refine isl_store ?_; refine srl ?_) | (refine isl_alloc ?_; refine all' ?_) | (refine isl_box ?_; refine bxl ?_) | refine dr Try.follows ?_)
          exact go_stop (G := Nat) (1 + 1) rfl ⟨rfl, rfl, rfl, rfl, trivial⟩ ⟨by omega, by rw [hc]; exact hcb, hdb, hat, e5, hx5⟩ (by show 2 - (1 + 1) < 2 - 1; omega)
        · obtain ⟨y, rfl⟩ : ∃ y, c = y + 1 := ⟨c - 1, by omega⟩
          have hcl : (cellsF (fun j => [Value.int .i64 ((pre ++ kdTake s 1).count (j + 1) : Int)]) n)[0 + y]? = some (.int .i64 ((pre ++ kdTake s 1).count (y + 1) : Int)) := by
            rw [Nat.zero_add]; exact one_get (f := fun j => Value.int .i64 ((pre ++ kdTake s 1).count (j + 1) : Int)) (by omega)
          have hcbd : (pre ++ kdTake s 1).count (y + 1) ≤ 2000002 := Nat.le_trans List.count_le_length hl5
          repeat (first | refine sp ?_ | (refine is_load ?_; refine ld ?_) | (refine is_store ?_; refine sr ?_) | (refine is_alloc ?_; refine al ?_) | (refine is_box ?_; refine bx ?_) | (refine isl_load ?_; refine ldl ?_) | (refine isl_store ?_; refine srl ?_) | (refine isl_alloc ?_; refine all' ?_) | (refine isl_box ?_; refine bxl ?_) | refine dr Try.follows ?_)
          refine go_p rfl (pr_idx2 (j := 1) rfl rfl rfl (by omega)) ?_
          repeat (first | refine sp ?_ | (refine is_load ?_; refine ld ?_) | (refine is_store ?_; refine sr ?_) | (refine is_alloc ?_; refine al ?_) | (refine is_box ?_; refine bx ?_) | (refine isl_load ?_; refine ldl ?_) | (refine isl_store ?_; refine srl ?_) | (refine isl_alloc ?_; refine all' ?_) | (refine isl_box ?_; refine bxl ?_) | refine dr Try.follows ?_)
          refine go_p rfl (pr_idx2 (j := 1) rfl rfl rfl (by omega)) ?_
          repeat (first | refine sp ?_ | (refine is_load ?_; refine ld ?_) | (refine is_store ?_; refine sr ?_) | (refine is_alloc ?_; refine al ?_) | (refine is_box ?_; refine bx ?_) | (refine isl_load ?_; refine ldl ?_) | (refine isl_store ?_; refine srl ?_) | (refine isl_alloc ?_; refine all' ?_) | (refine isl_box ?_; refine bxl ?_) | refine dr Try.follows ?_)
          refine go_p rfl (pr_idx2 (j := 1) rfl rfl rfl (by omega)) ?_
          repeat (first | refine sp ?_ | (refine is_load ?_; refine ld ?_) | (refine is_store ?_; refine sr ?_) | (refine is_alloc ?_; refine al ?_) | (refine is_box ?_; refine bx ?_) | (refine isl_load ?_; refine ldl ?_) | (refine isl_store ?_; refine srl ?_) | (refine isl_alloc ?_; refine all' ?_) | (refine isl_box ?_; refine bxl ?_) | refine dr Try.follows ?_)
          refine go_as 54 (u' := .int .u32 (y : Int)) rfl (by congr 1; omega) ?_
          repeat (first | refine sp ?_ | (refine is_load ?_; refine ld ?_) | (refine is_store ?_; refine sr ?_) | (refine is_alloc ?_; refine al ?_) | (refine is_box ?_; refine bx ?_) | (refine isl_load ?_; refine ldl ?_) | (refine isl_store ?_; refine srl ?_) | (refine isl_alloc ?_; refine all' ?_) | (refine isl_box ?_; refine bxl ?_) | refine dr Try.follows ?_)
          rw [show (cellsF (fun j => [Value.int .i64 ((pre ++ kdTake s 1).count (j + 1) : Int)]) n).set (0 + y) (.int .i64 (((pre ++ kdTake s 1).count (y + 1) : Int) + 1)) = cellsF (fun j => [Value.int .i64 ((pre ++ kdTake s (1 + 1)).count (j + 1) : Int)]) n by rw [Nat.zero_add, ek, ← List.append_assoc]; exact bump (by omega)]
          exact go_stop (G := Nat) (1 + 1) rfl ⟨rfl, rfl, rfl, rfl, trivial⟩ ⟨by omega, by rw [hc]; (repeat (first | assumption | (refine At.new' (by (first | omega | (simp; done) | (simp; omega))) _ _) | apply At.alloc | apply At.drewN | apply At.setRow | (apply At.setRow_neF; first | assumption | (apply Ne.symm; assumption) | omega) | (apply At.extF; assumption))), by (repeat (first | assumption | (refine At.new' (by (first | omega | (simp; done) | (simp; omega))) _ _) | apply At.alloc | apply At.drewN | apply At.setRow | (apply At.setRow_neF; first | assumption | (apply Ne.symm; assumption) | omega) | (apply At.extF; assumption))), by (repeat (first | assumption | (refine At.new' (by (first | omega | (simp; done) | (simp; omega))) _ _) | apply At.alloc | apply At.drewN | apply At.setRow | (apply At.setRow_neF; first | assumption | (apply Ne.symm; assumption) | omega) | (apply At.extF; assumption))), Fr.cell (S := fun b => b = w.heap.size + 1) (w := w5) (by (repeat (first | exact Fr.refl _ _ | assumption | apply Fr.drewN | apply Fr.alloc | (apply Fr.transF; assumption) | (refine Fr.setRow ?_ _ (by first | exact Or.inr (by (first | omega | (simp; done) | (simp; omega))) | (exact Or.inl (by first | assumption | (simp; done)))))))) e5 (by show ¬ b = w.heap.size + 1; omega), by (repeat (first | exact Fr.refl _ _ | assumption | apply Fr.drewN | apply Fr.alloc | (apply Fr.transF; assumption) | (refine Fr.setRow ?_ _ (by first | exact Or.inr (by (first | omega | (simp; done) | (simp; omega))) | (exact Or.inl (by first | assumption | (simp; done)))))))⟩ (by show 2 - (1 + 1) < 2 - 1; omega)
    · have ek : pre ++ kdTake s 2 = kdsF (D.slots.take (k + 1)) := by
        rw [hts]; unfold kdTake; congr 1
      rw [ek] at hat
      repeat (first | refine sp ?_ | (refine is_load ?_; refine ld ?_) | (refine is_store ?_; refine sr ?_) | (refine is_alloc ?_; refine al ?_) | (refine is_box ?_; refine bx ?_) | (refine isl_load ?_; refine ldl ?_) | (refine isl_store ?_; refine srl ?_) | (refine isl_alloc ?_; refine all' ?_) | (refine isl_box ?_; refine bxl ?_) | refine dr Try.follows ?_)
      exact go_stop (G := Nat) (k + 1) rfl ⟨rfl, rfl, trivial⟩ ⟨hlt, hdb, hat, hx5⟩ (by show n - (k + 1) < n - k; omega)
  · obtain rfl : k = n := by omega
    repeat (first | refine sp ?_ | (refine is_load ?_; refine ld ?_) | (refine is_store ?_; refine sr ?_) | (refine is_alloc ?_; refine al ?_) | (refine is_box ?_; refine bx ?_) | (refine isl_load ?_; refine ldl ?_) | (refine isl_store ?_; refine srl ?_) | (refine isl_alloc ?_; refine all' ?_) | (refine isl_box ?_; refine bxl ?_) | refine dr Try.follows ?_)
    exact go_ret1 rfl rfl ⟨_, rfl, ⟨_, rfl, by omega, by rw [List.take_of_length_le (by omega)] at hat; exact hat⟩, hx2⟩

end Go.Proofs.Ytapocbahkeoeoaa
