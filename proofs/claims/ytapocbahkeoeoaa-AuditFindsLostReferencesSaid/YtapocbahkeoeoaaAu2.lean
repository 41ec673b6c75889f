/-
  The program's audit: edges and reachable slots.
-/
import Derived.Test.YtapocbahkeoeoaaAu1
import Derived.Test.YtapocbahkeoeoaaFx
set_option linter.unusedVariables false
namespace Go.Vc
section
variable {P : Program} {n : Nat} {Q : Exit → Act → World → Prop} {k : List It} {st : St} {w : World}
variable {all : Array Oper} {rest : List Oper} {d : Nat} {to : TypeId} {p : String} {af : Array Edge}

theorem go_callv0 {f : FuncId} {x : Operand} {xs : List Operand} {vs cs : List Value} {ts : Array TypeId} {Φ : Value → World → Prop} [hf : Enters P f] (h0 : evS st x = some (.func (.func f) #[] cs.toArray)) (hx : evL st xs = some vs)
    (hc : Calls P f (vs ++ cs).toArray w (Ret Φ)) (h : ∀ v w', Φ v w' → Go P n Q (.ops all rest :: k) st w') :
    Go P n Q (.ops all (⟨none, .call { callee := .value x, args := xs.toArray, argTypes := ts }, to, p, af, none⟩ :: rest) :: k) st w := by
  unfold Go at h ⊢
  intro a ha
  refine wpList_plain rfl fun K' hK => ?_
  unfold Oper.wp
  have hr : (execOp a.eval ⟨none, .call { callee := .value x, args := xs.toArray, argTypes := ts }, to, p, af, none⟩).run P w = .ok (.enter f (vs ++ cs).toArray) w := by
    simp [execOp, resolve, ha.ev h0, Deferred.ofValue, invoke, hf.enters, ha.evL hx]
  rw [hr, Oper.upon_enter]
  refine hc.mono ?_
  rintro e w' ⟨v, rfl, hv⟩
  exact hK _ _ (h v w' hv _ ha)

variable {D : Cls}
theorem gol_callv {f : FuncId} {x : Operand} {xs : List Operand} {vs cs : List Value} {ts : Array TypeId} {Φ : Value → World → Prop} [hf : Enters P f] (hd : Nat.blt d n = true) (h0 : evS st x = some (.func (.func f) #[] cs.toArray)) (hx : evL st xs = some vs)
    (hc : Calls P f (vs ++ cs).toArray w (Ret Φ)) (h : ∀ v w', Φ v w' → D.aft rest w' ∧ Go P n Q (.lex all D rest :: k) ((d, v) :: st) w') :
    Go P n Q (.lex all D (⟨some d, .call { callee := .value x, args := xs.toArray, argTypes := ts }, to, p, af, none⟩ :: rest) :: k) st w := by
  refine gol_eff rfl hd (fun a ha => ?_) h
  have hr : (execOp a.eval ⟨some d, .call { callee := .value x, args := xs.toArray, argTypes := ts }, to, p, af, none⟩).run P w = .ok (.enter f (vs ++ cs).toArray) w := by
    simp [execOp, resolve, ha.ev h0, Deferred.ofValue, invoke, hf.enters, ha.evL hx]
  unfold EffAt
  rw [hr]
  exact hc
end
end Go.Vc
namespace Go.Proofs.Ytapocbahkeoeoaa
open Go.Vc

theorem pr_idxV2 {st : St} {x y : Operand} {l : List Value} {v : Value} {j : Nat} {i : Int} {kd : IntKind} (hx : evS st x = some (.agg ⟨l⟩)) (hy : evS st y = some (.int kd i)) (hi : i = (j : Int)) (hj : j < 2) (hv : l[j]? = some v) :
    PureRun Try.prog st (.index 98 x y) v :=
  pr_indexV (P := Try.prog) (t := 98) (e := 27) hx hy hi hj hv

set_option maxHeartbeats 4000000 in
theorem a_InEdges (w : World) (lo : Nat) (v : Value) (D : Dp) (hd : DpAt w lo v D) (hok : D.Ok) :
    Calls Try.prog 23 [v].toArray w (Ret fun r w' => IntsAt w' w.heap.size r (fun j => ((kdsF D.slots).count (j + 1) : Int)) D.slots.length ∧ Ext w w') := by
  have hln := hok.len
  have hd0 := hd
  obtain ⟨sv, fv, rfl, hs, hf⟩ := hd
  have hs' := hs.up
  obtain ⟨s1, c1, rfl, h1, _, _⟩ := hs
  obtain ⟨s2, c2, rfl, h2, _, _⟩ := hf
  generalize hn : D.slots.length = n at *
  refine calls_go Try.func23 rfl Try.ntmps23 (Nat.le_of_ble_eq_true rfl) ?_
  repeat (first | refine sp ?_ | (refine is_load ?_; refine ld ?_) | (refine is_store ?_; refine sr ?_) | (refine is_alloc ?_; refine al ?_) | (refine is_box ?_; refine bx ?_) | (refine isl_load ?_; refine ldl ?_) | (refine isl_store ?_; refine srl ?_) | (refine isl_alloc ?_; refine all' ?_) | (refine isl_box ?_; refine bxl ?_) | refine dr Try.follows ?_)
  refine go_makeF (c := n) rfl rfl rfl rfl rfl (by omega) (by unfold maxLen; omega) rfl ?_
  refine go_name (F := fun w1 => At w1 w.heap.size [.slice s1 n c1, .slice s2 D.free.length c2] 36 ∧ At w1 (w.heap.size + 1) (cellsF (fun _ => [.int .i64 0]) n) 3 ∧ Ext w w1) ⟨by (repeat (first | assumption | (refine At.new' (by (first | omega | (simp; done) | (simp; omega))) _ _) | apply At.alloc | apply At.drewN | apply At.setRow | (apply At.setRow_neF; first | assumption | (apply Ne.symm; assumption) | omega) | (apply At.extF; assumption))), by (repeat (first | assumption | (refine At.new' (by (first | omega | (simp; done) | (simp; omega))) _ _) | apply At.alloc | apply At.drewN | apply At.setRow | (apply At.setRow_neF; first | assumption | (apply Ne.symm; assumption) | omega) | (apply At.extF; assumption))), by (repeat (first | exact Fr.refl _ _ | assumption | apply Fr.drewN | apply Fr.alloc | (apply Fr.transF; assumption) | (refine Fr.setRow ?_ _ (by first | exact Or.inr (by (first | omega | (simp; done) | (simp; omega))) | (exact Or.inl (by first | assumption | (simp; done)))))))⟩ ?_
  rintro w1 ⟨hdb, hat, hx1⟩
  repeat (first | refine sp ?_ | (refine is_load ?_; refine ld ?_) | (refine is_store ?_; refine sr ?_) | (refine is_alloc ?_; refine al ?_) | (refine is_box ?_; refine bx ?_) | (refine isl_load ?_; refine ldl ?_) | (refine isl_store ?_; refine srl ?_) | (refine isl_alloc ?_; refine all' ?_) | (refine isl_box ?_; refine bxl ?_) | refine dr Try.follows ?_)
  refine go_as 3 (u' := .slice (some ⟨w.heap.size + 1, 0, none⟩) n n) rfl (by simp) ?_
  refine go_loop (G := Nat) [15] (fun k => [.int .i64 (k : Int)]) [(1, ptr w.heap.size), (3, .slice (some ⟨w.heap.size + 1, 0, none⟩) n n), (13, .slice s1 n c1), (14, .int .i64 (n : Int))]
    (fun k w' => k ≤ n ∧ At w' w.heap.size [.slice s1 n c1, .slice s2 D.free.length c2] 36 ∧ At w' (w.heap.size + 1) (cellsF (fun j => [.int .i64 ((kdsF (D.slots.take k)).count (j + 1) : Int)]) n) 3 ∧ Ext w w') (fun k => n - k) 0 rfl ⟨rfl, rfl, rfl, rfl, trivial⟩ ⟨by omega, hdb, by simpa [kdsF] using hat, hx1⟩ ?_
  clear hdb hat hx1
  rintro k w2 ⟨hk, hdb, hat, hx2⟩
  have hdl := hdb.lt
  have hal := hat.lt
  by_cases hlt : k < n
  · have hlt' : k < D.slots.length := by omega
    obtain ⟨b, o, e, hbl, hcell⟩ := (hs'.ext hx2).at (m := 11) slt_len (by omega) hlt'
    subst e
    have hkid := hok.kid _ (List.getElem_mem hlt')
    have hts : kdsF (D.slots.take (k + 1)) = kdsF (D.slots.take k) ++ (if D.slots[k].on = true then D.slots[k].kd else []) := by
      rw [List.take_succ_eq_append_getElem hlt']; unfold kdsF; rw [List.flatMap_append]; congr 1; simp only [List.flatMap_cons, List.flatMap_nil, List.append_nil]
    have hpl : (kdsF (D.slots.take k)).length ≤ 2000000 := Nat.le_trans (kdsF_len _) (by rw [List.length_take]; omega)
    generalize D.slots[k] = s at *
    generalize kdsF (D.slots.take k) = pre at *
    repeat (first | refine sp ?_ | (refine is_load ?_; refine ld ?_) | (refine is_store ?_; refine sr ?_) | (refine is_alloc ?_; refine al ?_) | (refine is_box ?_; refine bx ?_) | (refine isl_load ?_; refine ldl ?_) | (refine isl_store ?_; refine srl ?_) | (refine isl_alloc ?_; refine all' ?_) | (refine isl_box ?_; refine bxl ?_) | refine dr Try.follows ?_)
    refine go_load (v := .agg s.cells.toArray) rfl rfl (ld_cells (m := 11) rfl (by decide) fun j u hj => by rw [addr_add]; exact hcell j u hj) ?_
    unfold Slt.cells
    repeat (first | refine sp ?_ | (refine is_load ?_; refine ld ?_) | (refine is_store ?_; refine sr ?_) | (refine is_alloc ?_; refine al ?_) | (refine is_box ?_; refine bx ?_) | (refine isl_load ?_; refine ldl ?_) | (refine isl_store ?_; refine srl ?_) | (refine isl_alloc ?_; refine all' ?_) | (refine isl_box ?_; refine bxl ?_) | refine dr Try.follows ?_)
    refine go_name (F := fun w3 => At w3 w2.heap.size s.cells 52 ∧ At w3 w.heap.size [.slice (some ⟨b, o, none⟩) n c1, .slice s2 D.free.length c2] 36 ∧ At w3 (w.heap.size + 1) (cellsF (fun j => [.int .i64 (pre.count (j + 1) : Int)]) n) 3 ∧ Ext w w3) ⟨by unfold Slt.cells; (repeat (first | assumption | (refine At.new' (by (first | omega | (simp; done) | (simp; omega))) _ _) | apply At.alloc | apply At.drewN | apply At.setRow | (apply At.setRow_neF; first | assumption | (apply Ne.symm; assumption) | omega) | (apply At.extF; assumption))), by (repeat (first | assumption | (refine At.new' (by (first | omega | (simp; done) | (simp; omega))) _ _) | apply At.alloc | apply At.drewN | apply At.setRow | (apply At.setRow_neF; first | assumption | (apply Ne.symm; assumption) | omega) | (apply At.extF; assumption))), by (repeat (first | assumption | (refine At.new' (by (first | omega | (simp; done) | (simp; omega))) _ _) | apply At.alloc | apply At.drewN | apply At.setRow | (apply At.setRow_neF; first | assumption | (apply Ne.symm; assumption) | omega) | (apply At.extF; assumption))), by (repeat (first | exact Fr.refl _ _ | assumption | apply Fr.drewN | apply Fr.alloc | (apply Fr.transF; assumption) | (refine Fr.setRow ?_ _ (by first | exact Or.inr (by (first | omega | (simp; done) | (simp; omega))) | (exact Or.inl (by first | assumption | (simp; done)))))))⟩ ?_
    clear hdb hat
    rintro w3 ⟨hsb, hdb, hat, hx3⟩
    unfold Slt.cells at hsb
    cases hon : s.on with
    | false =>
      rw [hon] at hsb
      rw [hon, if_neg (by decide), List.append_nil] at hts
      rw [← hts] at hat
      repeat (first | refine sp ?_ | (refine is_load ?_; refine ld ?_) | (refine is_store ?_; refine sr ?_) | (refine is_alloc ?_; refine al ?_) | (refine is_box ?_; refine bx ?_) | (refine isl_load ?_; refine ldl ?_) | (refine isl_store ?_; refine srl ?_) | (refine isl_alloc ?_; refine all' ?_) | (refine isl_box ?_; refine bxl ?_) | refine dr Try.follows ?_)
      exact go_stop (G := Nat) (k + 1) rfl ⟨rfl, rfl, rfl, rfl, trivial⟩ ⟨hlt, hdb, hat, hx3⟩ (by show n - (k + 1) < n - k; omega)
    | true =>
      rw [hon, if_pos rfl] at hts
      rw [hon] at hsb
      repeat (first | refine sp ?_ | (refine is_load ?_; refine ld ?_) | (refine is_store ?_; refine sr ?_) | (refine is_alloc ?_; refine al ?_) | (refine is_box ?_; refine bx ?_) | (refine isl_load ?_; refine ldl ?_) | (refine isl_store ?_; refine srl ?_) | (refine isl_alloc ?_; refine all' ?_) | (refine isl_box ?_; refine bxl ?_) | refine dr Try.follows ?_)
      have hcc := a_children w3 s
      unfold Slt.cells at hcc
      rw [hon] at hcc
      refine go_call rfl rfl hcc ?_
      rintro _ w4 ⟨rfl, hx4⟩
      have hdb4 := hdb.ext hx4
      have hat4 := hat.ext hx4
      have hx4' := hx3.trans hx4
      clear hdb hat hsb hcc
      repeat (first | refine sp ?_ | (refine is_load ?_; refine ld ?_) | (refine is_store ?_; refine sr ?_) | (refine is_alloc ?_; refine al ?_) | (refine is_box ?_; refine bx ?_) | (refine isl_load ?_; refine ldl ?_) | (refine isl_store ?_; refine srl ?_) | (refine isl_alloc ?_; refine all' ?_) | (refine isl_box ?_; refine bxl ?_) | refine dr Try.follows ?_)
      refine go_loop (G := Nat) [24] (fun i => [.int .i64 (i : Int)]) [(1, ptr w.heap.size), (3, .slice (some ⟨w.heap.size + 1, 0, none⟩) n n), (13, .slice (some ⟨b, o, none⟩) n c1), (14, .int .i64 (n : Int)), (15, .int .i64 (k : Int)), (23, .agg ⟨[.int .u32 (s.nd.left : Int), .int .u32 (s.nd.right : Int)]⟩)]
        (fun i w' => i ≤ 2 ∧ At w' w.heap.size [.slice (some ⟨b, o, none⟩) n c1, .slice s2 D.free.length c2] 36 ∧ At w' (w.heap.size + 1) (cellsF (fun j => [.int .i64 ((pre ++ s.kd.take i).count (j + 1) : Int)]) n) 3 ∧ Ext w w') (fun i => 2 - i) 0 rfl ⟨rfl, rfl, rfl, rfl, rfl, rfl, trivial⟩ ⟨by omega, hdb4, by simpa using hat4, hx4'⟩ ?_
      clear hdb4 hat4 hx4'
      rintro i w5 ⟨hi, hdb, hat, hx5⟩
      have hi3 : i = 0 ∨ i = 1 ∨ i = 2 := by omega
      rcases hi3 with rfl | rfl | rfl
      · obtain ⟨c, hc⟩ : ∃ c, s.nd.left = c := ⟨_, rfl⟩
        have hc32 : c < 4294967296 := by rw [← hc]; exact hkid.1
        have ek : s.kd.take (0 + 1) = s.kd.take 0 ++ [c] := by simp [Slt.kd, hc]
        have hl5 : (pre ++ s.kd.take 0).length ≤ 2000002 := by
          have : (s.kd.take 0).length ≤ 2 := by simp [Slt.kd]
          rw [List.length_append]; omega
        rw [hc]
        repeat (first | refine sp ?_ | (refine is_load ?_; refine ld ?_) | (refine is_store ?_; refine sr ?_) | (refine is_alloc ?_; refine al ?_) | (refine is_box ?_; refine bx ?_) | (refine isl_load ?_; refine ldl ?_) | (refine isl_store ?_; refine srl ?_) | (refine isl_alloc ?_; refine all' ?_) | (refine isl_box ?_; refine bxl ?_) | refine dr Try.follows ?_)
        refine go_call rfl rfl (a_slot w5 lo _ D c (hd0.ext hx5) (by omega) hc32) ?_
        rintro _ w6 ⟨rfl, hx6⟩
        replace hdb := hdb.ext hx6
        replace hat := hat.ext hx6
        replace hx5 := hx5.trans hx6
        have hdl6 := hdb.lt
        have hal6 := hat.lt
        by_cases h1 : c = 0 ∨ n < c
        · rw [nobump h1, List.append_assoc, ← ek] at hat
          rw [show slotB D c = false from decide_eq_false (by omega)]
          repeat (first | refine sp ?_ | (refine is_load ?_; refine ld ?_) | (refine is_store ?_; refine sr ?_) | (refine is_alloc ?_; refine al ?_) | (refine is_box ?_; refine bx ?_) | (refine isl_load ?_; refine ldl ?_) | (refine isl_store ?_; refine srl ?_) | (refine isl_alloc ?_; refine all' ?_) | (refine isl_box ?_; refine bxl ?_) | refine dr Try.follows ?_)
          exact go_stop (G := Nat) (0 + 1) rfl ⟨rfl, rfl, rfl, rfl, rfl, rfl, trivial⟩ ⟨by omega, hdb, hat, hx5⟩ (by show 2 - (0 + 1) < 2 - 0; omega)
        · rw [show slotB D c = true from decide_eq_true (by omega)]
          obtain ⟨y, rfl⟩ : ∃ y, c = y + 1 := ⟨c - 1, by omega⟩
          have hcl : (cellsF (fun j => [Value.int .i64 ((pre ++ s.kd.take 0).count (j + 1) : Int)]) n)[0 + y]? = some (.int .i64 ((pre ++ s.kd.take 0).count (y + 1) : Int)) := by
            rw [Nat.zero_add]; exact one_get (f := fun j => Value.int .i64 ((pre ++ s.kd.take 0).count (j + 1) : Int)) (by omega)
          have hcbd : (pre ++ s.kd.take 0).count (y + 1) ≤ 2000002 := Nat.le_trans List.count_le_length hl5
          repeat (first | refine sp ?_ | (refine is_load ?_; refine ld ?_) | (refine is_store ?_; refine sr ?_) | (refine is_alloc ?_; refine al ?_) | (refine is_box ?_; refine bx ?_) | (refine isl_load ?_; refine ldl ?_) | (refine isl_store ?_; refine srl ?_) | (refine isl_alloc ?_; refine all' ?_) | (refine isl_box ?_; refine bxl ?_) | refine dr Try.follows ?_)
          refine go_as 32 (u' := .int .u32 (y : Int)) rfl (by congr 1; omega) ?_
          repeat (first | refine sp ?_ | (refine is_load ?_; refine ld ?_) | (refine is_store ?_; refine sr ?_) | (refine is_alloc ?_; refine al ?_) | (refine is_box ?_; refine bx ?_) | (refine isl_load ?_; refine ldl ?_) | (refine isl_store ?_; refine srl ?_) | (refine isl_alloc ?_; refine all' ?_) | (refine isl_box ?_; refine bxl ?_) | refine dr Try.follows ?_)
          rw [show (cellsF (fun j => [Value.int .i64 ((pre ++ s.kd.take 0).count (j + 1) : Int)]) n).set (0 + y) (.int .i64 (((pre ++ s.kd.take 0).count (y + 1) : Int) + 1)) = cellsF (fun j => [Value.int .i64 ((pre ++ s.kd.take (0 + 1)).count (j + 1) : Int)]) n by rw [Nat.zero_add, ek, ← List.append_assoc]; exact bump (by omega)]
          exact go_stop (G := Nat) (0 + 1) rfl ⟨rfl, rfl, rfl, rfl, rfl, rfl, trivial⟩ ⟨by omega, by (repeat (first | assumption | (refine At.new' (by (first | omega | (simp; done) | (simp; omega))) _ _) | apply At.alloc | apply At.drewN | apply At.setRow | (apply At.setRow_neF; first | assumption | (apply Ne.symm; assumption) | omega) | (apply At.extF; assumption))), by (repeat (first | assumption | (refine At.new' (by (first | omega | (simp; done) | (simp; omega))) _ _) | apply At.alloc | apply At.drewN | apply At.setRow | (apply At.setRow_neF; first | assumption | (apply Ne.symm; assumption) | omega) | (apply At.extF; assumption))), by (repeat (first | exact Fr.refl _ _ | assumption | apply Fr.drewN | apply Fr.alloc | (apply Fr.transF; assumption) | (refine Fr.setRow ?_ _ (by first | exact Or.inr (by (first | omega | (simp; done) | (simp; omega))) | (exact Or.inl (by first | assumption | (simp; done)))))))⟩ (by show 2 - (0 + 1) < 2 - 0; omega)
      · obtain ⟨c, hc⟩ : ∃ c, s.nd.right = c := ⟨_, rfl⟩
        have hc32 : c < 4294967296 := by rw [← hc]; exact hkid.2
        have ek : s.kd.take (1 + 1) = s.kd.take 1 ++ [c] := by simp [Slt.kd, hc]
        have hl5 : (pre ++ s.kd.take 1).length ≤ 2000002 := by
          have : (s.kd.take 1).length ≤ 2 := by simp [Slt.kd]
          rw [List.length_append]; omega
        rw [hc]
        repeat (first | refine sp ?_ | (refine is_load ?_; refine ld ?_) | (refine is_store ?_; refine sr ?_) | (refine is_alloc ?_; refine al ?_) | (refine is_box ?_; refine bx ?_) | (refine isl_load ?_; refine ldl ?_) | (refine isl_store ?_; refine srl ?_) | (refine isl_alloc ?_; refine all' ?_) | (refine isl_box ?_; refine bxl ?_) | refine dr Try.follows ?_)
        refine go_call rfl rfl (a_slot w5 lo _ D c (hd0.ext hx5) (by omega) hc32) ?_
        rintro _ w6 ⟨rfl, hx6⟩
        replace hdb := hdb.ext hx6
        replace hat := hat.ext hx6
        replace hx5 := hx5.trans hx6
        have hdl6 := hdb.lt
        have hal6 := hat.lt
        by_cases h1 : c = 0 ∨ n < c
        · rw [nobump h1, List.append_assoc, ← ek] at hat
          rw [show slotB D c = false from decide_eq_false (by omega)]
          repeat (first | refine sp ?_ | (refine is_load ?_; refine ld ?_) | (refine is_store ?_; refine sr ?_) | (refine is_alloc ?_; refine al ?_) | (refine is_box ?_; refine bx ?_) | (refine isl_load ?_; refine ldl ?_) | (refine isl_store ?_; refine srl ?_) | (refine isl_alloc ?_; refine all' ?_) | (refine isl_box ?_; refine bxl ?_) | refine dr Try.follows ?_)
          exact go_stop (G := Nat) (1 + 1) rfl ⟨rfl, rfl, rfl, rfl, rfl, rfl, trivial⟩ ⟨by omega, hdb, hat, hx5⟩ (by show 2 - (1 + 1) < 2 - 1; omega)
        · rw [show slotB D c = true from decide_eq_true (by omega)]
          obtain ⟨y, rfl⟩ : ∃ y, c = y + 1 := ⟨c - 1, by omega⟩
          have hcl : (cellsF (fun j => [Value.int .i64 ((pre ++ s.kd.take 1).count (j + 1) : Int)]) n)[0 + y]? = some (.int .i64 ((pre ++ s.kd.take 1).count (y + 1) : Int)) := by
            rw [Nat.zero_add]; exact one_get (f := fun j => Value.int .i64 ((pre ++ s.kd.take 1).count (j + 1) : Int)) (by omega)
          have hcbd : (pre ++ s.kd.take 1).count (y + 1) ≤ 2000002 := Nat.le_trans List.count_le_length hl5
          repeat (first | refine sp ?_ | (refine is_load ?_; refine ld ?_) | (refine is_store ?_; refine sr ?_) | (refine is_alloc ?_; refine al ?_) | (refine is_box ?_; refine bx ?_) | (refine isl_load ?_; refine ldl ?_) | (refine isl_store ?_; refine srl ?_) | (refine isl_alloc ?_; refine all' ?_) | (refine isl_box ?_; refine bxl ?_) | refine dr Try.follows ?_)
          refine go_as 32 (u' := .int .u32 (y : Int)) rfl (by congr 1; omega) ?_
          repeat (first | refine sp ?_ | (refine is_load ?_; refine ld ?_) | (refine is_store ?_; refine sr ?_) | (refine is_alloc ?_; refine al ?_) | (refine is_box ?_; refine bx ?_) | (refine isl_load ?_; refine ldl ?_) | (refine isl_store ?_; refine srl ?_) | (refine isl_alloc ?_; refine all' ?_) | (refine isl_box ?_; refine bxl ?_) | refine dr Try.follows ?_)
          rw [show (cellsF (fun j => [Value.int .i64 ((pre ++ s.kd.take 1).count (j + 1) : Int)]) n).set (0 + y) (.int .i64 (((pre ++ s.kd.take 1).count (y + 1) : Int) + 1)) = cellsF (fun j => [Value.int .i64 ((pre ++ s.kd.take (1 + 1)).count (j + 1) : Int)]) n by rw [Nat.zero_add, ek, ← List.append_assoc]; exact bump (by omega)]
          exact go_stop (G := Nat) (1 + 1) rfl ⟨rfl, rfl, rfl, rfl, rfl, rfl, trivial⟩ ⟨by omega, by (repeat (first | assumption | (refine At.new' (by (first | omega | (simp; done) | (simp; omega))) _ _) | apply At.alloc | apply At.drewN | apply At.setRow | (apply At.setRow_neF; first | assumption | (apply Ne.symm; assumption) | omega) | (apply At.extF; assumption))), by (repeat (first | assumption | (refine At.new' (by (first | omega | (simp; done) | (simp; omega))) _ _) | apply At.alloc | apply At.drewN | apply At.setRow | (apply At.setRow_neF; first | assumption | (apply Ne.symm; assumption) | omega) | (apply At.extF; assumption))), by (repeat (first | exact Fr.refl _ _ | assumption | apply Fr.drewN | apply Fr.alloc | (apply Fr.transF; assumption) | (refine Fr.setRow ?_ _ (by first | exact Or.inr (by (first | omega | (simp; done) | (simp; omega))) | (exact Or.inl (by first | assumption | (simp; done)))))))⟩ (by show 2 - (1 + 1) < 2 - 1; omega)
      · have hfin : pre ++ s.kd.take 2 = kdsF (D.slots.take (k + 1)) := by rw [hts]; congr 1
        rw [hfin] at hat
        repeat (first | refine sp ?_ | (refine is_load ?_; refine ld ?_) | (refine is_store ?_; refine sr ?_) | (refine is_alloc ?_; refine al ?_) | (refine is_box ?_; refine bx ?_) | (refine isl_load ?_; refine ldl ?_) | (refine isl_store ?_; refine srl ?_) | (refine isl_alloc ?_; refine all' ?_) | (refine isl_box ?_; refine bxl ?_) | refine dr Try.follows ?_)
        exact go_stop (G := Nat) (k + 1) rfl ⟨rfl, rfl, rfl, rfl, trivial⟩ ⟨hlt, hdb, hat, hx5⟩ (by show n - (k + 1) < n - k; omega)
  · obtain rfl : k = n := by omega
    repeat (first | refine sp ?_ | (refine is_load ?_; refine ld ?_) | (refine is_store ?_; refine sr ?_) | (refine is_alloc ?_; refine al ?_) | (refine is_box ?_; refine bx ?_) | (refine isl_load ?_; refine ldl ?_) | (refine isl_store ?_; refine srl ?_) | (refine isl_alloc ?_; refine all' ?_) | (refine isl_box ?_; refine bxl ?_) | refine dr Try.follows ?_)
    exact go_ret1 rfl rfl ⟨_, rfl, ⟨_, rfl, by omega, by rw [← hn, List.take_length] at hat; rw [hn] at hat; exact hat⟩, hx2⟩

end Go.Proofs.Ytapocbahkeoeoaa
