/-
  The example of chapter 9; the law on neighbors.
-/
import Derived.Test.YtgafapifpoinlaaLn
set_option linter.unusedVariables false
namespace Go.Proofs.Ytgafapifpoinlaa
open Go.Vc

set_option maxHeartbeats 1000000 in
theorem c_awake9 (w : World) : Calls Try.prog 19 [].toArray w (Ret fun v w' => v = .bool true ∧ Ext w w') := by
  refine calls_go Try.func19 rfl Try.ntmps19 (Nat.le_of_ble_eq_true rfl) ?_
  repeat (first | refine sp ?_ | (refine is_load ?_; refine ld ?_) | (refine is_store ?_; refine sr ?_) | (refine is_alloc ?_; refine al ?_) | (refine is_box ?_; refine bx ?_) | (refine isl_load ?_; refine ldl ?_) | (refine isl_store ?_; refine srl ?_) | (refine isl_alloc ?_; refine all' ?_) | (refine isl_box ?_; refine bxl ?_) | refine dr Try.follows ?_)
  refine go_litG (l := [.int .i64 1, .int .i64 10, .int .i64 4, .int .i64 40, .int .i64 9, .int .i64 90]) rfl rfl (by decide) (by decide) rfl ?_
  have hrd : Rd (w.alloc (.cells [Value.int .i64 1, .int .i64 10, .int .i64 4, .int .i64 40, .int .i64 9, .int .i64 90].toArray 35)) 0 (.slice (some ⟨w.heap.size, 0, none⟩) 3 3) entC [(1, 10), (4, 40), (9, 90)] :=
    At.rd (At.new w _ _) rfl (Nat.zero_le _)
  have hx0 : Ext w (w.alloc (.cells [Value.int .i64 1, .int .i64 10, .int .i64 4, .int .i64 40, .int .i64 9, .int .i64 90].toArray 35)) := by (repeat (first | exact Fr.refl _ _ | assumption | apply Fr.drewN | apply Fr.alloc | (apply Fr.transF; assumption) | (refine Fr.setRow ?_ _ (by first | exact Or.inr (by (first | omega | (simp; done) | (simp; omega))) | (exact Or.inl (by first | assumption | (simp; done)))))))
  have hok : OkL [(1, 10), (4, 40), (9, 90)] 3 := ⟨by simp [Srt], (by
    intro e he
    simp only [List.mem_cons, List.not_mem_nil, or_false] at he
    rcases he with rfl | rfl | rfl <;> exact ⟨⟨by decide, by decide⟩, ⟨by decide, by decide⟩⟩), by simp⟩
  refine go_call rfl rfl (c_GrowT w _ [(1, 10), (4, 40), (9, 90)] 3 _ 0 1 hrd.up hok (by omega) (by omega) (by omega) (by omega) hx0) ?_
  rintro _ w1 ⟨lo, p, q, B, t, rfl, g, hen, hsz, hre, _, _, _⟩
  repeat (first | refine sp ?_ | (refine is_load ?_; refine ld ?_) | (refine is_store ?_; refine sr ?_) | (refine is_alloc ?_; refine al ?_) | (refine is_box ?_; refine bx ?_) | (refine isl_load ?_; refine ldl ?_) | (refine isl_store ?_; refine srl ?_) | (refine isl_alloc ?_; refine all' ?_) | (refine isl_box ?_; refine bxl ?_) | refine dr Try.follows ?_)
  refine go_call rfl rfl (c_Get w1 _ p q B t 4 g.ar g.inA g.ine g.srt g.sz6) ?_
  rintro _ w2 ⟨rfl, hR⟩
  obtain ⟨B2, g2, hB2, hf2⟩ := g.rd hR
  rw [show getV (getE t.ents 4) = .tuple #[.int .i64 40, .bool true] by rw [hen]; rfl]
  repeat (first | refine sp ?_ | (refine is_load ?_; refine ld ?_) | (refine is_store ?_; refine sr ?_) | (refine is_alloc ?_; refine al ?_) | (refine is_box ?_; refine bx ?_) | (refine isl_load ?_; refine ldl ?_) | (refine isl_store ?_; refine srl ?_) | (refine isl_alloc ?_; refine all' ?_) | (refine isl_box ?_; refine bxl ?_) | refine dr Try.follows ?_)
  refine go_call rfl rfl (c_Floor w2 _ p q B2 t 5 g2.ar g2.inA g2.ine g2.srt g2.sz6) ?_
  rintro _ w3 ⟨rfl, hR3⟩
  obtain ⟨B3, g3, hB3, hf3⟩ := g2.rd hR3
  rw [show entV (t.ents.filter (pK (fun k => decide (k ≤ 5)))).getLast? = .tuple #[.agg ⟨[.int .i64 4, .int .i64 40]⟩, .bool true] by rw [hen]; rfl]
  repeat (first | refine sp ?_ | (refine is_load ?_; refine ld ?_) | (refine is_store ?_; refine sr ?_) | (refine is_alloc ?_; refine al ?_) | (refine is_box ?_; refine bx ?_) | (refine isl_load ?_; refine ldl ?_) | (refine isl_store ?_; refine srl ?_) | (refine isl_alloc ?_; refine all' ?_) | (refine isl_box ?_; refine bxl ?_) | refine dr Try.follows ?_)
  refine go_name (F := fun w4 => At w4 w3.heap.size [.int .i64 4, .int .i64 40] 35 ∧ Ext w3 w4 ∧ w3.heap.size + 1 ≤ w4.heap.size) ⟨by (repeat (first | assumption | (refine At.new' (by (first | omega | (simp; done) | (simp; omega))) _ _) | apply At.alloc | apply At.drewN | apply At.setRow | (apply At.setRow_neF; first | assumption | (apply Ne.symm; assumption) | omega) | (apply At.extF; assumption))), by (repeat (first | exact Fr.refl _ _ | assumption | apply Fr.drewN | apply Fr.alloc | (apply Fr.transF; assumption) | (refine Fr.setRow ?_ _ (by first | exact Or.inr (by (first | omega | (simp; done) | (simp; omega))) | (exact Or.inl (by first | assumption | (simp; done))))))), by simp⟩ ?_
  rintro w4 ⟨hat, hx4, hl4⟩
  have hpl := g3.ar.lt p g3.ar.fpp
  replace g3 := g3.step hx4
  refine go_call rfl rfl (c_Above w4 _ p q B3 t 9 g3.ar g3.inA g3.ine g3.srt g3.sz6) ?_
  rintro _ w5 ⟨rfl, hR5⟩
  obtain ⟨B5, g5, hB5, hf5⟩ := g3.rd hR5
  have hat5 := hat.fr hf5 (by omega)
  have hl5 := hf5.size
  rw [show entV (t.ents.filter (pK (fun k => decide (9 < k)))).head? = .tuple #[.agg ⟨[.int .i64 0, .int .i64 0]⟩, .bool false] by rw [hen]; rfl]
  repeat (first | refine sp ?_ | (refine is_load ?_; refine ld ?_) | (refine is_store ?_; refine sr ?_) | (refine is_alloc ?_; refine al ?_) | (refine is_box ?_; refine bx ?_) | (refine isl_load ?_; refine ldl ?_) | (refine isl_store ?_; refine srl ?_) | (refine isl_alloc ?_; refine all' ?_) | (refine isl_box ?_; refine bxl ?_) | refine dr Try.follows ?_)
  exact go_ret1 rfl rfl ⟨_, rfl, rfl, g5.ext.trans (by (repeat (first | exact Fr.refl _ _ | assumption | apply Fr.drewN | apply Fr.alloc | (apply Fr.transF; assumption) | (refine Fr.setRow ?_ _ (by first | exact Or.inr (by (first | omega | (simp; done) | (simp; omega))) | (exact Or.inl (by first | assumption | (simp; done))))))))⟩

theorem ent_eq (a b : Int) : eqL [.int .i64 a, .int .i64 b] [.int .i64 a, .int .i64 b] = true := by simp [eqL]

set_option maxHeartbeats 8000000 in
theorem c_LawNeighbors (lv : Value) (l : List (Int × Int)) (tilt x : Int) (w : World) (h : Rd w 0 lv entC l) (he : InE l) (hlen : l.length ≤ 9223372036854775807) (ht : 0 ≤ tilt ∧ tilt ≤ 18446744073709551615) (hx : InV x) :
    Calls Try.prog 5 [lv, .int .u64 tilt, .int .i64 x].toArray w (Ret fun v w' => v = .bool true ∧ Ext w w') := by
  unfold InV at hx
  refine calls_go Try.func5 rfl Try.ntmps5 (Nat.le_of_ble_eq_true rfl) ?_
  repeat (first | refine sp ?_ | (refine is_load ?_; refine ld ?_) | (refine is_store ?_; refine sr ?_) | (refine is_alloc ?_; refine al ?_) | (refine is_box ?_; refine bx ?_) | (refine isl_load ?_; refine ldl ?_) | (refine isl_store ?_; refine srl ?_) | (refine isl_alloc ?_; refine all' ?_) | (refine isl_box ?_; refine bxl ?_) | refine dr Try.follows ?_)
  refine go_call rfl rfl (c_List w lv l 120 h.up he hlen (by omega)) ?_
  rintro v1 w1 ⟨a, ha, hok, hx1⟩
  obtain ⟨sa, cap, rfl, hlc, _, _⟩ := ha
  have ha : RdU w1 w1.heap.size (.slice sa a.length cap) entC a := ⟨sa, cap, rfl, hlc, by assumption, by assumption⟩
  repeat (first | refine sp ?_ | (refine is_load ?_; refine ld ?_) | (refine is_store ?_; refine sr ?_) | (refine is_alloc ?_; refine al ?_) | (refine is_box ?_; refine bx ?_) | (refine isl_load ?_; refine ldl ?_) | (refine isl_store ?_; refine srl ?_) | (refine isl_alloc ?_; refine all' ?_) | (refine isl_box ?_; refine bxl ?_) | refine dr Try.follows ?_)
  refine go_call rfl rfl (c_GrowT w w1 a 120 _ tilt 1 ha hok (by omega) (by omega) (by omega) ht hx1) ?_
  rintro _ w2 ⟨lo, p, q, B, t, rfl, g, hen, hsz, hre, hcp, hpb, hx2⟩
  repeat (first | refine sp ?_ | (refine is_load ?_; refine ld ?_) | (refine is_store ?_; refine sr ?_) | (refine is_alloc ?_; refine al ?_) | (refine is_box ?_; refine bx ?_) | (refine isl_load ?_; refine ldl ?_) | (refine isl_store ?_; refine srl ?_) | (refine isl_alloc ?_; refine all' ?_) | (refine isl_box ?_; refine bxl ?_) | refine dr Try.follows ?_)
  refine go_call rfl rfl (c_awake9 w2) ?_
  rintro _ w3 ⟨rfl, hx3⟩
  have g3 := g.step hx3
  have hal := hok.len
  have ha3 := (ha.ext hx2).ext hx3
  repeat (first | refine sp ?_ | (refine is_load ?_; refine ld ?_) | (refine is_store ?_; refine sr ?_) | (refine is_alloc ?_; refine al ?_) | (refine is_box ?_; refine bx ?_) | (refine isl_load ?_; refine ldl ?_) | (refine isl_store ?_; refine srl ?_) | (refine isl_alloc ?_; refine all' ?_) | (refine isl_box ?_; refine bxl ?_) | refine dr Try.follows ?_)
  have hpl := g3.ar.lt p g3.ar.fpp
  cases hg : getE t.ents x with
  | some v =>
    obtain ⟨n1, n2, n3, n4⟩ := near_some g3.srt hg
    refine go_call rfl rfl (c_Floor w3 _ p q B t x g3.ar g3.inA g3.ine g3.srt g3.sz6) ?_
    rintro _ w4 ⟨rfl, hR4⟩
    obtain ⟨B4, g4, hB4, hf4⟩ := g3.rd hR4
    rw [show (t.ents.filter (pK (fun k => decide (k ≤ x)))).getLast? = some (x, v) from n1, show entV (some (x, v)) = .tuple #[.agg ⟨[.int .i64 x, .int .i64 v]⟩, .bool true] from rfl]
    repeat (first | refine sp ?_ | (refine is_load ?_; refine ld ?_) | (refine is_store ?_; refine sr ?_) | (refine is_alloc ?_; refine al ?_) | (refine is_box ?_; refine bx ?_) | (refine isl_load ?_; refine ldl ?_) | (refine isl_store ?_; refine srl ?_) | (refine isl_alloc ?_; refine all' ?_) | (refine isl_box ?_; refine bxl ?_) | refine dr Try.follows ?_)
    refine go_name (F := fun w5 => At w5 w4.heap.size [.int .i64 x, .int .i64 v] 35 ∧ Ext w4 w5 ∧ w4.heap.size + 1 ≤ w5.heap.size) ⟨by (repeat (first | assumption | (refine At.new' (by (first | omega | (simp; done) | (simp; omega))) _ _) | apply At.alloc | apply At.drewN | apply At.setRow | (apply At.setRow_neF; first | assumption | (apply Ne.symm; assumption) | omega) | (apply At.extF; assumption))), by (repeat (first | exact Fr.refl _ _ | assumption | apply Fr.drewN | apply Fr.alloc | (apply Fr.transF; assumption) | (refine Fr.setRow ?_ _ (by first | exact Or.inr (by (first | omega | (simp; done) | (simp; omega))) | (exact Or.inl (by first | assumption | (simp; done))))))), by simp⟩ ?_
    rintro w5 ⟨hat5, hx5, hl5⟩
    have hl4 := hf4.size
    replace g4 := g4.step hx5
    refine go_call rfl rfl (c_Ceiling w5 _ p q B4 t x g4.ar g4.inA g4.ine g4.srt g4.sz6) ?_
    rintro _ w6 ⟨rfl, hR6⟩
    obtain ⟨B6, g6, hB6, hf6⟩ := g4.rd hR6
    have hat6 := hat5.fr hf6 (by omega)
    have hl6 := hf6.size
    rw [show (t.ents.filter (pK (fun k => decide (x ≤ k)))).head? = some (x, v) from n2, show entV (some (x, v)) = .tuple #[.agg ⟨[.int .i64 x, .int .i64 v]⟩, .bool true] from rfl]
    repeat (first | refine sp ?_ | (refine is_load ?_; refine ld ?_) | (refine is_store ?_; refine sr ?_) | (refine is_alloc ?_; refine al ?_) | (refine is_box ?_; refine bx ?_) | (refine isl_load ?_; refine ldl ?_) | (refine isl_store ?_; refine srl ?_) | (refine isl_alloc ?_; refine all' ?_) | (refine isl_box ?_; refine bxl ?_) | refine dr Try.follows ?_)
    refine go_name (F := fun w7 => At w7 w4.heap.size [.int .i64 x, .int .i64 v] 35 ∧ At w7 w6.heap.size [.int .i64 x, .int .i64 v] 35 ∧ Ext w6 w7 ∧ w6.heap.size + 1 ≤ w7.heap.size) ⟨by (repeat (first | assumption | (refine At.new' (by (first | omega | (simp; done) | (simp; omega))) _ _) | apply At.alloc | apply At.drewN | apply At.setRow | (apply At.setRow_neF; first | assumption | (apply Ne.symm; assumption) | omega) | (apply At.extF; assumption))), by (repeat (first | assumption | (refine At.new' (by (first | omega | (simp; done) | (simp; omega))) _ _) | apply At.alloc | apply At.drewN | apply At.setRow | (apply At.setRow_neF; first | assumption | (apply Ne.symm; assumption) | omega) | (apply At.extF; assumption))), by (repeat (first | exact Fr.refl _ _ | assumption | apply Fr.drewN | apply Fr.alloc | (apply Fr.transF; assumption) | (refine Fr.setRow ?_ _ (by first | exact Or.inr (by (first | omega | (simp; done) | (simp; omega))) | (exact Or.inl (by first | assumption | (simp; done))))))), by simp⟩ ?_
    rintro w7 ⟨hat7, hbt7, hx7, hl7⟩
    replace g6 := g6.step hx7
    refine go_call rfl rfl (c_Get w7 _ p q B6 t x g6.ar g6.inA g6.ine g6.srt g6.sz6) ?_
    rintro _ w8 ⟨rfl, hR8⟩
    obtain ⟨B8, g8, hB8, hf8⟩ := g6.rd hR8
    have hat8 := hat7.fr hf8 (by omega)
    have hbt8 := hbt7.fr hf8 (by omega)
    have hl8 := hf8.size
    rw [hg, show getV (some v) = .tuple #[.int .i64 v, .bool true] from rfl]
    repeat (first | refine sp ?_ | (refine is_load ?_; refine ld ?_) | (refine is_store ?_; refine sr ?_) | (refine is_alloc ?_; refine al ?_) | (refine is_box ?_; refine bx ?_) | (refine isl_load ?_; refine ldl ?_) | (refine isl_store ?_; refine srl ?_) | (refine isl_alloc ?_; refine all' ?_) | (refine isl_box ?_; refine bxl ?_) | refine dr Try.follows ?_)
    refine go_as 73 (u' := .bool false) rfl (by rw [ent_eq]; rfl) ?_
    repeat (first | refine sp ?_ | (refine is_load ?_; refine ld ?_) | (refine is_store ?_; refine sr ?_) | (refine is_alloc ?_; refine al ?_) | (refine is_box ?_; refine bx ?_) | (refine isl_load ?_; refine ldl ?_) | (refine isl_store ?_; refine srl ?_) | (refine isl_alloc ?_; refine all' ?_) | (refine isl_box ?_; refine bxl ?_) | refine dr Try.follows ?_)
    refine go_as 79 (u' := .bool false) rfl (by rw [ent_eq]; rfl) ?_
    repeat (first | refine sp ?_ | (refine is_load ?_; refine ld ?_) | (refine is_store ?_; refine sr ?_) | (refine is_alloc ?_; refine al ?_) | (refine is_box ?_; refine bx ?_) | (refine isl_load ?_; refine ldl ?_) | (refine isl_store ?_; refine srl ?_) | (refine isl_alloc ?_; refine all' ?_) | (refine isl_box ?_; refine bxl ?_) | refine dr Try.follows ?_)
    refine go_call rfl rfl (c_Below w8 _ p q B8 t x g8.ar g8.inA g8.ine g8.srt g8.sz6) ?_
    rintro _ w9 ⟨rfl, hR9⟩
    obtain ⟨B9, g9, hB9, hf9⟩ := g8.rd hR9
    have hat9 := hat8.fr hf9 (by omega)
    have hl9 := hf9.size
    cases hb : nBe t.ents x with
    | none =>
      rw [show (t.ents.filter (pK (fun k => decide (k < x)))).getLast? = none from hb, show entV none = .tuple #[.agg ⟨[.int .i64 0, .int .i64 0]⟩, .bool false] from rfl]
      repeat (first | refine sp ?_ | (refine is_load ?_; refine ld ?_) | (refine is_store ?_; refine sr ?_) | (refine is_alloc ?_; refine al ?_) | (refine is_box ?_; refine bx ?_) | (refine isl_load ?_; refine ldl ?_) | (refine isl_store ?_; refine srl ?_) | (refine isl_alloc ?_; refine all' ?_) | (refine isl_box ?_; refine bxl ?_) | refine dr Try.follows ?_)
      refine go_name (F := fun w10 => At w10 w4.heap.size [.int .i64 x, .int .i64 v] 35 ∧ Ext w9 w10) ⟨by (repeat (first | assumption | (refine At.new' (by (first | omega | (simp; done) | (simp; omega))) _ _) | apply At.alloc | apply At.drewN | apply At.setRow | (apply At.setRow_neF; first | assumption | (apply Ne.symm; assumption) | omega) | (apply At.extF; assumption))), by (repeat (first | exact Fr.refl _ _ | assumption | apply Fr.drewN | apply Fr.alloc | (apply Fr.transF; assumption) | (refine Fr.setRow ?_ _ (by first | exact Or.inr (by (first | omega | (simp; done) | (simp; omega))) | (exact Or.inl (by first | assumption | (simp; done)))))))⟩ ?_
      rintro w10 ⟨hat10, hx10⟩
      have hl10 := hx10.size
      replace g9 := g9.step hx10
      refine go_call rfl rfl (c_First w10 _ p q B9 t g9.ar g9.inA g9.ine g9.srt g9.sz6) ?_
      rintro _ w11 ⟨rfl, hR11⟩
      obtain ⟨B11, g11, hB11, hf11⟩ := g9.rd hR11
      have hat11 := hat10.fr hf11 (by omega)
      have hl11 := hf11.size
      rw [n3 hb, show entV (some (x, v)) = .tuple #[.agg ⟨[.int .i64 x, .int .i64 v]⟩, .bool true] from rfl]
      repeat (first | refine sp ?_ | (refine is_load ?_; refine ld ?_) | (refine is_store ?_; refine sr ?_) | (refine is_alloc ?_; refine al ?_) | (refine is_box ?_; refine bx ?_) | (refine isl_load ?_; refine ldl ?_) | (refine isl_store ?_; refine srl ?_) | (refine isl_alloc ?_; refine all' ?_) | (refine isl_box ?_; refine bxl ?_) | refine dr Try.follows ?_)
      exact go_ret1 rfl rfl ⟨_, rfl, by rw [ent_eq], g11.ext.trans (by (repeat (first | exact Fr.refl _ _ | assumption | apply Fr.drewN | apply Fr.alloc | (apply Fr.transF; assumption) | (refine Fr.setRow ?_ _ (by first | exact Or.inr (by (first | omega | (simp; done) | (simp; omega))) | (exact Or.inl (by first | assumption | (simp; done))))))))⟩
    | some e =>
      obtain ⟨m1, m2⟩ := n4 e hb
      obtain ⟨e1, e2⟩ := e
      simp only at m1 m2
      rw [show (t.ents.filter (pK (fun k => decide (k < x)))).getLast? = some (e1, e2) from hb, show entV (some (e1, e2)) = .tuple #[.agg ⟨[.int .i64 e1, .int .i64 e2]⟩, .bool true] from rfl]
      repeat (first | refine sp ?_ | (refine is_load ?_; refine ld ?_) | (refine is_store ?_; refine sr ?_) | (refine is_alloc ?_; refine al ?_) | (refine is_box ?_; refine bx ?_) | (refine isl_load ?_; refine ldl ?_) | (refine isl_store ?_; refine srl ?_) | (refine isl_alloc ?_; refine all' ?_) | (refine isl_box ?_; refine bxl ?_) | refine dr Try.follows ?_)
      refine go_name (F := fun w10 => At w10 w4.heap.size [.int .i64 x, .int .i64 v] 35 ∧ At w10 w9.heap.size [.int .i64 e1, .int .i64 e2] 35 ∧ Ext w9 w10 ∧ w9.heap.size + 1 ≤ w10.heap.size) ⟨by (repeat (first | assumption | (refine At.new' (by (first | omega | (simp; done) | (simp; omega))) _ _) | apply At.alloc | apply At.drewN | apply At.setRow | (apply At.setRow_neF; first | assumption | (apply Ne.symm; assumption) | omega) | (apply At.extF; assumption))), by (repeat (first | assumption | (refine At.new' (by (first | omega | (simp; done) | (simp; omega))) _ _) | apply At.alloc | apply At.drewN | apply At.setRow | (apply At.setRow_neF; first | assumption | (apply Ne.symm; assumption) | omega) | (apply At.extF; assumption))), by (repeat (first | exact Fr.refl _ _ | assumption | apply Fr.drewN | apply Fr.alloc | (apply Fr.transF; assumption) | (refine Fr.setRow ?_ _ (by first | exact Or.inr (by (first | omega | (simp; done) | (simp; omega))) | (exact Or.inl (by first | assumption | (simp; done))))))), by simp⟩ ?_
      rintro w10 ⟨hat10, hbt10, hx10, hl10⟩
      replace g9 := g9.step hx10
      refine go_call rfl rfl (c_Above w10 _ p q B9 t e1 g9.ar g9.inA g9.ine g9.srt g9.sz6) ?_
      rintro _ w11 ⟨rfl, hR11⟩
      obtain ⟨B11, g11, hB11, hf11⟩ := g9.rd hR11
      have hat11 := hat10.fr hf11 (by omega)
      have hbt11 := hbt10.fr hf11 (by omega)
      have hl11 := hf11.size
      rw [show (t.ents.filter (pK (fun k => decide (e1 < k)))).head? = some (x, v) from m2, show entV (some (x, v)) = .tuple #[.agg ⟨[.int .i64 x, .int .i64 v]⟩, .bool true] from rfl]
      repeat (first | refine sp ?_ | (refine is_load ?_; refine ld ?_) | (refine is_store ?_; refine sr ?_) | (refine is_alloc ?_; refine al ?_) | (refine is_box ?_; refine bx ?_) | (refine isl_load ?_; refine ldl ?_) | (refine isl_store ?_; refine srl ?_) | (refine isl_alloc ?_; refine all' ?_) | (refine isl_box ?_; refine bxl ?_) | refine dr Try.follows ?_)
      refine go_as 115 (u' := .bool true) rfl (by rw [ent_eq]) ?_
      repeat (first | refine sp ?_ | (refine is_load ?_; refine ld ?_) | (refine is_store ?_; refine sr ?_) | (refine is_alloc ?_; refine al ?_) | (refine is_box ?_; refine bx ?_) | (refine isl_load ?_; refine ldl ?_) | (refine isl_store ?_; refine srl ?_) | (refine isl_alloc ?_; refine all' ?_) | (refine isl_box ?_; refine bxl ?_) | refine dr Try.follows ?_)
      exact go_ret1 rfl rfl ⟨_, rfl, rfl, g11.ext.trans (by (repeat (first | exact Fr.refl _ _ | assumption | apply Fr.drewN | apply Fr.alloc | (apply Fr.transF; assumption) | (refine Fr.setRow ?_ _ (by first | exact Or.inr (by (first | omega | (simp; done) | (simp; omega))) | (exact Or.inl (by first | assumption | (simp; done))))))))⟩
  | none =>
    obtain ⟨n1, n2, n3, n4⟩ := near_none g3.srt hg
    refine go_call rfl rfl (c_Floor w3 _ p q B t x g3.ar g3.inA g3.ine g3.srt g3.sz6) ?_
    rintro _ w4 ⟨rfl, hR4⟩
    obtain ⟨B4, g4, hB4, hf4⟩ := g3.rd hR4
    rw [show (t.ents.filter (pK (fun k => decide (k ≤ x)))).getLast? = nFl t.ents x from rfl]
    obtain ⟨o1, ho1⟩ : ∃ o, nFl t.ents x = o := ⟨_, rfl⟩
    obtain ⟨o2, ho2⟩ : ∃ o, nCe t.ents x = o := ⟨_, rfl⟩
    rw [ho1, show entV o1 = .tuple #[.agg ⟨[.int .i64 (o1.getD (0, 0)).1, .int .i64 (o1.getD (0, 0)).2]⟩, .bool o1.isSome] from rfl]
    repeat (first | refine sp ?_ | (refine is_load ?_; refine ld ?_) | (refine is_store ?_; refine sr ?_) | (refine is_alloc ?_; refine al ?_) | (refine is_box ?_; refine bx ?_) | (refine isl_load ?_; refine ldl ?_) | (refine isl_store ?_; refine srl ?_) | (refine isl_alloc ?_; refine all' ?_) | (refine isl_box ?_; refine bxl ?_) | refine dr Try.follows ?_)
    refine go_name (F := fun w5 => At w5 w4.heap.size [.int .i64 (o1.getD (0, 0)).1, .int .i64 (o1.getD (0, 0)).2] 35 ∧ Ext w4 w5 ∧ w4.heap.size + 1 ≤ w5.heap.size) ⟨by (repeat (first | assumption | (refine At.new' (by (first | omega | (simp; done) | (simp; omega))) _ _) | apply At.alloc | apply At.drewN | apply At.setRow | (apply At.setRow_neF; first | assumption | (apply Ne.symm; assumption) | omega) | (apply At.extF; assumption))), by (repeat (first | exact Fr.refl _ _ | assumption | apply Fr.drewN | apply Fr.alloc | (apply Fr.transF; assumption) | (refine Fr.setRow ?_ _ (by first | exact Or.inr (by (first | omega | (simp; done) | (simp; omega))) | (exact Or.inl (by first | assumption | (simp; done))))))), by simp⟩ ?_
    rintro w5 ⟨hat5, hx5, hl5⟩
    have hl4 := hf4.size
    replace g4 := g4.step hx5
    refine go_call rfl rfl (c_Ceiling w5 _ p q B4 t x g4.ar g4.inA g4.ine g4.srt g4.sz6) ?_
    rintro _ w6 ⟨rfl, hR6⟩
    obtain ⟨B6, g6, hB6, hf6⟩ := g4.rd hR6
    have hat6 := hat5.fr hf6 (by omega)
    have hl6 := hf6.size
    rw [show (t.ents.filter (pK (fun k => decide (x ≤ k)))).head? = nCe t.ents x from rfl, ho2, show entV o2 = .tuple #[.agg ⟨[.int .i64 (o2.getD (0, 0)).1, .int .i64 (o2.getD (0, 0)).2]⟩, .bool o2.isSome] from rfl]
    repeat (first | refine sp ?_ | (refine is_load ?_; refine ld ?_) | (refine is_store ?_; refine sr ?_) | (refine is_alloc ?_; refine al ?_) | (refine is_box ?_; refine bx ?_) | (refine isl_load ?_; refine ldl ?_) | (refine isl_store ?_; refine srl ?_) | (refine isl_alloc ?_; refine all' ?_) | (refine isl_box ?_; refine bxl ?_) | refine dr Try.follows ?_)
    refine go_name (F := fun w7 => At w7 w4.heap.size [.int .i64 (o1.getD (0, 0)).1, .int .i64 (o1.getD (0, 0)).2] 35 ∧ At w7 w6.heap.size [.int .i64 (o2.getD (0, 0)).1, .int .i64 (o2.getD (0, 0)).2] 35 ∧ Ext w6 w7 ∧ w6.heap.size + 1 ≤ w7.heap.size) ⟨by (repeat (first | assumption | (refine At.new' (by (first | omega | (simp; done) | (simp; omega))) _ _) | apply At.alloc | apply At.drewN | apply At.setRow | (apply At.setRow_neF; first | assumption | (apply Ne.symm; assumption) | omega) | (apply At.extF; assumption))), by (repeat (first | assumption | (refine At.new' (by (first | omega | (simp; done) | (simp; omega))) _ _) | apply At.alloc | apply At.drewN | apply At.setRow | (apply At.setRow_neF; first | assumption | (apply Ne.symm; assumption) | omega) | (apply At.extF; assumption))), by (repeat (first | exact Fr.refl _ _ | assumption | apply Fr.drewN | apply Fr.alloc | (apply Fr.transF; assumption) | (refine Fr.setRow ?_ _ (by first | exact Or.inr (by (first | omega | (simp; done) | (simp; omega))) | (exact Or.inl (by first | assumption | (simp; done))))))), by simp⟩ ?_
    rintro w7 ⟨hat7, hbt7, hx7, hl7⟩
    replace g6 := g6.step hx7
    refine go_call rfl rfl (c_Get w7 _ p q B6 t x g6.ar g6.inA g6.ine g6.srt g6.sz6) ?_
    rintro _ w8 ⟨rfl, hR8⟩
    obtain ⟨B8, g8, hB8, hf8⟩ := g6.rd hR8
    have hat8 := hat7.fr hf8 (by omega)
    have hbt8 := hbt7.fr hf8 (by omega)
    have hl8 := hf8.size
    rw [hg, show getV none = .tuple #[.int .i64 0, .bool false] from rfl]
    cases o1 with
    | none =>
      cases o2 with
      | none =>
        have hnil := n4 ho1 ho2
        have hz : t.sz = 0 := by rw [← t.len, hnil]; rfl
        have hr0 : t.root = 0 := by
          cases t with
          | nil => rfl
          | nd i l k v r => have : l.sz + 1 + r.sz = 0 := hz; omega
        rw [hr0]
        simp only [Option.isSome_none, Option.getD_none] at *
        repeat (first | refine sp ?_ | (refine is_load ?_; refine ld ?_) | (refine is_store ?_; refine sr ?_) | (refine is_alloc ?_; refine al ?_) | (refine is_box ?_; refine bx ?_) | (refine isl_load ?_; refine ldl ?_) | (refine isl_store ?_; refine srl ?_) | (refine isl_alloc ?_; refine all' ?_) | (refine isl_box ?_; refine bxl ?_) | refine dr Try.follows ?_)
        exact go_ret1 rfl rfl ⟨_, rfl, rfl, g8.ext.trans (by (repeat (first | exact Fr.refl _ _ | assumption | apply Fr.drewN | apply Fr.alloc | (apply Fr.transF; assumption) | (refine Fr.setRow ?_ _ (by first | exact Or.inr (by (first | omega | (simp; done) | (simp; omega))) | (exact Or.inl (by first | assumption | (simp; done))))))))⟩
      | some e2 =>
        have m2 := n2 e2 ho2
        simp only [Option.isSome_none, Option.getD_none, Option.isSome_some, Option.getD_some] at *
        repeat (first | refine sp ?_ | (refine is_load ?_; refine ld ?_) | (refine is_store ?_; refine sr ?_) | (refine is_alloc ?_; refine al ?_) | (refine is_box ?_; refine bx ?_) | (refine isl_load ?_; refine ldl ?_) | (refine isl_store ?_; refine srl ?_) | (refine isl_alloc ?_; refine all' ?_) | (refine isl_box ?_; refine bxl ?_) | refine dr Try.follows ?_)
        exact go_ret1 rfl rfl ⟨_, rfl, rfl, g8.ext.trans (by (repeat (first | exact Fr.refl _ _ | assumption | apply Fr.drewN | apply Fr.alloc | (apply Fr.transF; assumption) | (refine Fr.setRow ?_ _ (by first | exact Or.inr (by (first | omega | (simp; done) | (simp; omega))) | (exact Or.inl (by first | assumption | (simp; done))))))))⟩
    | some e1 =>
      have m1 := n1 e1 ho1
      cases o2 with
      | none =>
        simp only [Option.isSome_none, Option.getD_none, Option.isSome_some, Option.getD_some] at *
        repeat (first | refine sp ?_ | (refine is_load ?_; refine ld ?_) | (refine is_store ?_; refine sr ?_) | (refine is_alloc ?_; refine al ?_) | (refine is_box ?_; refine bx ?_) | (refine isl_load ?_; refine ldl ?_) | (refine isl_store ?_; refine srl ?_) | (refine isl_alloc ?_; refine all' ?_) | (refine isl_box ?_; refine bxl ?_) | refine dr Try.follows ?_)
        exact go_ret1 rfl rfl ⟨_, rfl, rfl, g8.ext.trans (by (repeat (first | exact Fr.refl _ _ | assumption | apply Fr.drewN | apply Fr.alloc | (apply Fr.transF; assumption) | (refine Fr.setRow ?_ _ (by first | exact Or.inr (by (first | omega | (simp; done) | (simp; omega))) | (exact Or.inl (by first | assumption | (simp; done))))))))⟩
      | some e2 =>
        have m2 := n2 e2 ho2
        have m3 := n3 e1 ho1
        simp only [Option.isSome_none, Option.getD_none, Option.isSome_some, Option.getD_some] at *
        repeat (first | refine sp ?_ | (refine is_load ?_; refine ld ?_) | (refine is_store ?_; refine sr ?_) | (refine is_alloc ?_; refine al ?_) | (refine is_box ?_; refine bx ?_) | (refine isl_load ?_; refine ldl ?_) | (refine isl_store ?_; refine srl ?_) | (refine isl_alloc ?_; refine all' ?_) | (refine isl_box ?_; refine bxl ?_) | refine dr Try.follows ?_)
        refine go_call rfl rfl (c_Above w8 _ p q B8 t e1.1 g8.ar g8.inA g8.ine g8.srt g8.sz6) ?_
        rintro _ w9 ⟨rfl, hR9⟩
        obtain ⟨B9, g9, hB9, hf9⟩ := g8.rd hR9
        have hbt9 := hbt8.fr hf9 (by omega)
        have hl9 := hf9.size
        rw [show (t.ents.filter (pK (fun k => decide (e1.1 < k)))).head? = some e2 from m3.trans ho2, show entV (some e2) = .tuple #[.agg ⟨[.int .i64 e2.1, .int .i64 e2.2]⟩, .bool true] from rfl]
        repeat (first | refine sp ?_ | (refine is_load ?_; refine ld ?_) | (refine is_store ?_; refine sr ?_) | (refine is_alloc ?_; refine al ?_) | (refine is_box ?_; refine bx ?_) | (refine isl_load ?_; refine ldl ?_) | (refine isl_store ?_; refine srl ?_) | (refine isl_alloc ?_; refine all' ?_) | (refine isl_box ?_; refine bxl ?_) | refine dr Try.follows ?_)
        exact go_ret1 rfl rfl ⟨_, rfl, by rw [ent_eq], g9.ext.trans (by (repeat (first | exact Fr.refl _ _ | assumption | apply Fr.drewN | apply Fr.alloc | (apply Fr.transF; assumption) | (refine Fr.setRow ?_ _ (by first | exact Or.inr (by (first | omega | (simp; done) | (simp; omega))) | (exact Or.inl (by first | assumption | (simp; done))))))))⟩

end Go.Proofs.Ytgafapifpoinlaa
