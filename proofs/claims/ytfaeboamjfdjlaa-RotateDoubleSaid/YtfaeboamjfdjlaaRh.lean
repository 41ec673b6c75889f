/-
  What the laws of chapter 12 ask of dumps; the rotation that a number selects; the example.
-/
import Derived.Test.YtfaeboamjfdjlaaRo
set_option linter.unusedVariables false
namespace Go.Proofs.Ytfaeboamjfdjlaa
open Go.Vc

set_option maxHeartbeats 1000000 in
theorem c_at12 (w : World) (lo : Nat) (v : Value) (D : Dp) (i : Nat) (hd : DpAt w lo v D) (hk : D.slots.length ≤ 1000000) (hi : i < 4294967296) :
    Calls Try.prog 18 [v, .int .u32 (i : Int)].toArray w (Ret fun r w' => r = .agg ⟨(D.ndAt i).cells⟩ ∧ Ext w w') := by
  have hd0 := hd
  obtain ⟨sv, fv, rfl, hs, hf⟩ := hd
  have hs' := hs.up
  obtain ⟨s1, c1, rfl, h1, _, _⟩ := hs
  obtain ⟨s2, c2, rfl, h2, _, _⟩ := hf
  refine calls_go Try.func18 rfl Try.ntmps18 (Nat.le_of_ble_eq_true rfl) ?_
  repeat (first | refine sp ?_ | (refine is_load ?_; refine ld ?_) | (refine is_store ?_; refine sr ?_) | (refine is_alloc ?_; refine al ?_) | (refine is_box ?_; refine bx ?_) | (refine isl_load ?_; refine ldl ?_) | (refine isl_store ?_; refine srl ?_) | (refine isl_alloc ?_; refine all' ?_) | (refine isl_box ?_; refine bxl ?_))
  refine go_name (F := fun w1 => At w1 w.heap.size [.slice s1 D.slots.length c1, .slice s2 D.free.length c2] 31 ∧ At w1 (w.heap.size + 1) [.int .i64 0, .int .i64 0, .int .u32 0, .int .u32 0, .int .i64 0, .int .i64 0, .int .i64 0, .int .i64 0] 41 ∧ Ext w w1) ⟨by (repeat (first | assumption | (refine At.new' (by (first | omega | (simp; done) | (simp; omega))) _ _) | apply At.alloc | apply At.drewN | apply At.setRow | (apply At.setRow_neF; first | assumption | (apply Ne.symm; assumption) | omega) | (apply At.extF; assumption))), by (repeat (first | assumption | (refine At.new' (by (first | omega | (simp; done) | (simp; omega))) _ _) | apply At.alloc | apply At.drewN | apply At.setRow | (apply At.setRow_neF; first | assumption | (apply Ne.symm; assumption) | omega) | (apply At.extF; assumption))), by (repeat (first | exact Fr.refl _ _ | assumption | apply Fr.drewN | apply Fr.alloc | (apply Fr.transF; assumption) | (refine Fr.setRow ?_ _ (by first | exact Or.inr (by (first | omega | (simp; done) | (simp; omega))) | (exact Or.inl (by first | assumption | (simp; done)))))))⟩ ?_
  rintro w1 ⟨hb1, hz1, hx1⟩
  refine go_call rfl rfl (c_Allocated w1 lo _ D i (hd0.ext hx1) hk hi) ?_
  rintro _ w2 ⟨rfl, hx2⟩
  have hx2' := hx1.trans hx2
  replace hb1 := hb1.ext hx2
  replace hz1 := hz1.ext hx2
  have hl2 := hz1.lt
  have hq : w.heap.size ≤ w.heap.size + 1 := by omega
  cases hal : D.al i with
  | false =>
    rw [Dp.ndAt_un hal]
    unfold Nd.zero Nd.cells
    repeat (first | refine sp ?_ | (refine is_load ?_; refine ld ?_) | (refine is_store ?_; refine sr ?_) | (refine is_alloc ?_; refine al ?_) | (refine is_box ?_; refine bx ?_) | (refine isl_load ?_; refine ldl ?_) | (refine isl_store ?_; refine srl ?_) | (refine isl_alloc ?_; refine all' ?_) | (refine isl_box ?_; refine bxl ?_))
    exact go_ret1 rfl ⟨_, rfl, Ld.run (ld_part (by (repeat (first | assumption | (refine At.new' (by (first | omega | (simp; done) | (simp; omega))) _ _) | apply At.alloc | apply At.drewN | apply At.setRow | (apply At.setRow_neF; first | assumption | (apply Ne.symm; assumption) | omega) | (apply At.extF; assumption)))) rfl rfl)⟩ ⟨_, rfl, rfl, hx2'.trans' (S' := fun b => w.heap.size ≤ b) (by (repeat (first | exact Fr.refl _ _ | assumption | apply Fr.drewN | apply Fr.alloc | (apply Fr.transF; assumption) | (refine Fr.setRow ?_ _ (by first | exact Or.inr (by (first | omega | (simp; done) | (simp; omega))) | (exact Or.inl (by first | assumption | (simp; done)))))))) fun b hb e => by omega⟩
  | true =>
    obtain ⟨y, rfl, hy, hon⟩ := Dp.al_lt hal
    obtain ⟨b, o, e, hbl, hcell⟩ := (hs'.ext hx2').at (m := 11) slt_len (by omega) hy
    subst e
    have hnd : D.ndAt (y + 1) = D.slots[y].nd := by simp only [Dp.ndAt]; rw [List.getElem?_eq_getElem hy]; simp only []; rw [if_pos hon]
    rw [hnd]
    generalize D.slots[y] = s at *
    repeat (first | refine sp ?_ | (refine is_load ?_; refine ld ?_) | (refine is_store ?_; refine sr ?_) | (refine is_alloc ?_; refine al ?_) | (refine is_box ?_; refine bx ?_) | (refine isl_load ?_; refine ldl ?_) | (refine isl_store ?_; refine srl ?_) | (refine isl_alloc ?_; refine all' ?_) | (refine isl_box ?_; refine bxl ?_))
    refine go_as 13 (u' := .int .u32 (y : Int)) rfl (by congr 1; omega) ?_
    repeat (first | refine sp ?_ | (refine is_load ?_; refine ld ?_) | (refine is_store ?_; refine sr ?_) | (refine is_alloc ?_; refine al ?_) | (refine is_box ?_; refine bx ?_) | (refine isl_load ?_; refine ldl ?_) | (refine isl_store ?_; refine srl ?_) | (refine isl_alloc ?_; refine all' ?_) | (refine isl_box ?_; refine bxl ?_))
    refine go_load (v := .agg s.nd.cells.toArray) rfl rfl (ld_cells (m := 8) rfl (by decide) fun j u hj => by
      have h8 : j < 8 := (List.getElem?_eq_some_iff.1 hj).1
      have := hcell (3 + j) u (by
        unfold Slt.cells Nd.cells at *
        rw [Nat.add_comm]; exact hj)
      rw [addr_add, Nat.add_assoc]; exact this) ?_
    generalize s.nd = N
    unfold Nd.cells
    repeat (first | refine sp ?_ | (refine is_load ?_; refine ld ?_) | (refine is_store ?_; refine sr ?_) | (refine is_alloc ?_; refine al ?_) | (refine is_box ?_; refine bx ?_) | (refine isl_load ?_; refine ldl ?_) | (refine isl_store ?_; refine srl ?_) | (refine isl_alloc ?_; refine all' ?_) | (refine isl_box ?_; refine bxl ?_))
    exact go_ret1 rfl ⟨_, rfl, Ld.run (ld_part (by (repeat (first | assumption | (refine At.new' (by (first | omega | (simp; done) | (simp; omega))) _ _) | apply At.alloc | apply At.drewN | apply At.setRow | (apply At.setRow_neF; first | assumption | (apply Ne.symm; assumption) | omega) | (apply At.extF; assumption)))) rfl rfl)⟩ ⟨_, rfl, rfl, hx2'.trans' (S' := fun b => w.heap.size ≤ b) (by (repeat (first | exact Fr.refl _ _ | assumption | apply Fr.drewN | apply Fr.alloc | (apply Fr.transF; assumption) | (refine Fr.setRow ?_ _ (by first | exact Or.inr (by (first | omega | (simp; done) | (simp; omega))) | (exact Or.inl (by first | assumption | (simp; done)))))))) fun b hb e => by omega⟩

theorem c_is (w : World) (X E : Nd) (l r : Nat) (h1 : X.key = E.key) (h2 : X.val = E.val) (h3 : X.left = l) (h4 : X.right = r) :
    Calls Try.prog 19 [.agg ⟨X.cells⟩, .agg ⟨E.cells⟩, .int .u32 (l : Int), .int .u32 (r : Int)].toArray w (Ret fun v w' => v = .bool true ∧ Ext w w') := by
  subst h3; subst h4
  unfold Nd.cells
  rw [h1, h2]
  refine calls_go Try.func19 rfl Try.ntmps19 (Nat.le_of_ble_eq_true rfl) ?_
  repeat (first | refine sp ?_ | (refine is_load ?_; refine ld ?_) | (refine is_store ?_; refine sr ?_) | (refine is_alloc ?_; refine al ?_) | (refine is_box ?_; refine bx ?_) | (refine isl_load ?_; refine ldl ?_) | (refine isl_store ?_; refine srl ?_) | (refine isl_alloc ?_; refine all' ?_) | (refine isl_box ?_; refine bxl ?_))
  exact go_ret1 rfl rfl ⟨_, rfl, rfl, by (repeat (first | exact Fr.refl _ _ | assumption | apply Fr.drewN | apply Fr.alloc | (apply Fr.transF; assumption) | (refine Fr.setRow ?_ _ (by first | exact Or.inr (by (first | omega | (simp; done) | (simp; omega))) | (exact Or.inl (by first | assumption | (simp; done)))))))⟩

theorem c_fresh (w : World) (lo1 lo2 : Nat) (v1 v2 : Value) (D1 D2 : Dp) (i : Nat) (hd1 : DpAt w lo1 v1 D1) (hd2 : DpAt w lo2 v2 D2) (hk1 : D1.slots.length ≤ 1000000) (hk2 : D2.slots.length ≤ 1000000) (hi : i < 4294967296) (h1 : D1.al i = false) (h2 : D2.al i = true) :
    Calls Try.prog 20 [v1, v2, .int .u32 (i : Int)].toArray w (Ret fun v w' => v = .bool true ∧ Ext w w') := by
  have e1 := hd1
  have e2 := hd2
  obtain ⟨a1, b1, rfl, _, _⟩ := hd1
  obtain ⟨a2, b2, rfl, _, _⟩ := hd2
  refine calls_go Try.func20 rfl Try.ntmps20 (Nat.le_of_ble_eq_true rfl) ?_
  repeat (first | refine sp ?_ | (refine is_load ?_; refine ld ?_) | (refine is_store ?_; refine sr ?_) | (refine is_alloc ?_; refine al ?_) | (refine is_box ?_; refine bx ?_) | (refine isl_load ?_; refine ldl ?_) | (refine isl_store ?_; refine srl ?_) | (refine isl_alloc ?_; refine all' ?_) | (refine isl_box ?_; refine bxl ?_))
  refine go_name (F := fun w1 => At w1 w.heap.size [a1, b1] 31 ∧ Ext w w1) ⟨by (repeat (first | assumption | (refine At.new' (by (first | omega | (simp; done) | (simp; omega))) _ _) | apply At.alloc | apply At.drewN | apply At.setRow | (apply At.setRow_neF; first | assumption | (apply Ne.symm; assumption) | omega) | (apply At.extF; assumption))), by (repeat (first | exact Fr.refl _ _ | assumption | apply Fr.drewN | apply Fr.alloc | (apply Fr.transF; assumption) | (refine Fr.setRow ?_ _ (by first | exact Or.inr (by (first | omega | (simp; done) | (simp; omega))) | (exact Or.inl (by first | assumption | (simp; done)))))))⟩ ?_
  rintro w1 ⟨hb, hx1⟩
  refine go_call rfl rfl (c_Allocated w1 lo2 _ D2 i (e2.ext hx1) hk2 hi) ?_
  rintro _ w2 ⟨rfl, hx2⟩
  replace hb := hb.ext hx2
  rw [h2]
  repeat (first | refine sp ?_ | (refine is_load ?_; refine ld ?_) | (refine is_store ?_; refine sr ?_) | (refine is_alloc ?_; refine al ?_) | (refine is_box ?_; refine bx ?_) | (refine isl_load ?_; refine ldl ?_) | (refine isl_store ?_; refine srl ?_) | (refine isl_alloc ?_; refine all' ?_) | (refine isl_box ?_; refine bxl ?_))
  refine go_call rfl rfl (c_Allocated w2 lo1 _ D1 i (e1.ext (hx1.trans hx2)) hk1 hi) ?_
  rintro _ w3 ⟨rfl, hx3⟩
  rw [h1]
  repeat (first | refine sp ?_ | (refine is_load ?_; refine ld ?_) | (refine is_store ?_; refine sr ?_) | (refine is_alloc ?_; refine al ?_) | (refine is_box ?_; refine bx ?_) | (refine isl_load ?_; refine ldl ?_) | (refine isl_store ?_; refine srl ?_) | (refine isl_alloc ?_; refine all' ?_) | (refine isl_box ?_; refine bxl ?_))
  exact go_ret1 rfl rfl ⟨_, rfl, rfl, (hx1.trans hx2).trans hx3⟩

/-! ### The kind of a rotation -/

def FK (A : AR) (i : Nat) : Nat → Prop
  | 0 => fL A i
  | 1 => fR A i
  | 2 => fDL A i
  | _ => fDR A i
def GK (A : AR) (i : Nat) : Nat → AR → Nat → Prop
  | 0 => gL A i
  | 1 => gR A i
  | 2 => gDL A i
  | _ => gDR A i
def mK : Nat → Nat
  | 0 => 2
  | 1 => 2
  | _ => 3

theorem RotBad.mono {w : World} {lo p : Nat} {q : AP} {A : AR} {h : Nat → Nat} {n : Nat} {F : Prop} {m : Nat} {v : Value} {w' : World} (b : RotBad w lo p q A h n F m v w') (hn : n ≤ 3) : RotBad w lo p q A h 3 F m v w' := by
  obtain ⟨E, B, a, b, c, d, e⟩ := b
  exact ⟨E, B, a, b, c, d.mono hn, e⟩

set_option maxHeartbeats 1000000 in
theorem c_call (w : World) (lo p : Nat) (q : AP) (A : AR) (h : Nat → Nat) (i k : Nat) (g : Ars w lo p q A h) (hb : ∀ i, h i ≤ 1000000) (hi : i < 4294967296) (hk : k < 4) :
    Calls Try.prog 16 [ptr p, .int .u32 (i : Int), .int .i64 (k : Int)].toArray w (Ret fun v w' => RotOk w lo p q A h (FK A i k) (mK k) (GK A i k) v w' ∨ RotBad w lo p q A h 3 (FK A i k) (mK k) v w') := by
  have hk4 : k = 0 ∨ k = 1 ∨ k = 2 ∨ k = 3 := by omega
  rcases hk4 with rfl | rfl | rfl | rfl
  · refine calls_go Try.func16 rfl Try.ntmps16 (Nat.le_of_ble_eq_true rfl) ?_
    repeat (first | refine sp ?_ | (refine is_load ?_; refine ld ?_) | (refine is_store ?_; refine sr ?_) | (refine is_alloc ?_; refine al ?_) | (refine is_box ?_; refine bx ?_) | (refine isl_load ?_; refine ldl ?_) | (refine isl_store ?_; refine srl ?_) | (refine isl_alloc ?_; refine all' ?_) | (refine isl_box ?_; refine bxl ?_))
    refine go_call rfl rfl (c_Left w lo p q A h i g hb hi) ?_
    rintro v w1 (⟨hF, hm, q', R, o, rfl, r⟩ | ⟨E, B, rfl, r⟩)
    · repeat (first | refine sp ?_ | (refine is_load ?_; refine ld ?_) | (refine is_store ?_; refine sr ?_) | (refine is_alloc ?_; refine al ?_) | (refine is_box ?_; refine bx ?_) | (refine isl_load ?_; refine ldl ?_) | (refine isl_store ?_; refine srl ?_) | (refine isl_alloc ?_; refine all' ?_) | (refine isl_box ?_; refine bxl ?_))
      exact go_ret2 rfl rfl rfl ⟨_, rfl, Or.inl ⟨hF, hm, q', R, o, rfl, r⟩⟩
    · repeat (first | refine sp ?_ | (refine is_load ?_; refine ld ?_) | (refine is_store ?_; refine sr ?_) | (refine is_alloc ?_; refine al ?_) | (refine is_box ?_; refine bx ?_) | (refine isl_load ?_; refine ldl ?_) | (refine isl_store ?_; refine srl ?_) | (refine isl_alloc ?_; refine all' ?_) | (refine isl_box ?_; refine bxl ?_))
      exact go_ret2 rfl rfl rfl ⟨_, rfl, Or.inr (RotBad.mono ⟨E, B, rfl, r⟩ (by omega))⟩
  · refine calls_go Try.func16 rfl Try.ntmps16 (Nat.le_of_ble_eq_true rfl) ?_
    repeat (first | refine sp ?_ | (refine is_load ?_; refine ld ?_) | (refine is_store ?_; refine sr ?_) | (refine is_alloc ?_; refine al ?_) | (refine is_box ?_; refine bx ?_) | (refine isl_load ?_; refine ldl ?_) | (refine isl_store ?_; refine srl ?_) | (refine isl_alloc ?_; refine all' ?_) | (refine isl_box ?_; refine bxl ?_))
    refine go_call rfl rfl (c_Right w lo p q A h i g hb hi) ?_
    rintro v w1 (⟨hF, hm, q', R, o, rfl, r⟩ | ⟨E, B, rfl, r⟩)
    · repeat (first | refine sp ?_ | (refine is_load ?_; refine ld ?_) | (refine is_store ?_; refine sr ?_) | (refine is_alloc ?_; refine al ?_) | (refine is_box ?_; refine bx ?_) | (refine isl_load ?_; refine ldl ?_) | (refine isl_store ?_; refine srl ?_) | (refine isl_alloc ?_; refine all' ?_) | (refine isl_box ?_; refine bxl ?_))
      exact go_ret2 rfl rfl rfl ⟨_, rfl, Or.inl ⟨hF, hm, q', R, o, rfl, r⟩⟩
    · repeat (first | refine sp ?_ | (refine is_load ?_; refine ld ?_) | (refine is_store ?_; refine sr ?_) | (refine is_alloc ?_; refine al ?_) | (refine is_box ?_; refine bx ?_) | (refine isl_load ?_; refine ldl ?_) | (refine isl_store ?_; refine srl ?_) | (refine isl_alloc ?_; refine all' ?_) | (refine isl_box ?_; refine bxl ?_))
      exact go_ret2 rfl rfl rfl ⟨_, rfl, Or.inr (RotBad.mono ⟨E, B, rfl, r⟩ (by omega))⟩
  · refine calls_go Try.func16 rfl Try.ntmps16 (Nat.le_of_ble_eq_true rfl) ?_
    repeat (first | refine sp ?_ | (refine is_load ?_; refine ld ?_) | (refine is_store ?_; refine sr ?_) | (refine is_alloc ?_; refine al ?_) | (refine is_box ?_; refine bx ?_) | (refine isl_load ?_; refine ldl ?_) | (refine isl_store ?_; refine srl ?_) | (refine isl_alloc ?_; refine all' ?_) | (refine isl_box ?_; refine bxl ?_))
    refine go_call rfl rfl (c_DoubleLeft w lo p q A h i g hb hi) ?_
    rintro v w1 (⟨hF, hm, q', R, o, rfl, r⟩ | ⟨E, B, rfl, r⟩)
    · repeat (first | refine sp ?_ | (refine is_load ?_; refine ld ?_) | (refine is_store ?_; refine sr ?_) | (refine is_alloc ?_; refine al ?_) | (refine is_box ?_; refine bx ?_) | (refine isl_load ?_; refine ldl ?_) | (refine isl_store ?_; refine srl ?_) | (refine isl_alloc ?_; refine all' ?_) | (refine isl_box ?_; refine bxl ?_))
      exact go_ret2 rfl rfl rfl ⟨_, rfl, Or.inl ⟨hF, hm, q', R, o, rfl, r⟩⟩
    · repeat (first | refine sp ?_ | (refine is_load ?_; refine ld ?_) | (refine is_store ?_; refine sr ?_) | (refine is_alloc ?_; refine al ?_) | (refine is_box ?_; refine bx ?_) | (refine isl_load ?_; refine ldl ?_) | (refine isl_store ?_; refine srl ?_) | (refine isl_alloc ?_; refine all' ?_) | (refine isl_box ?_; refine bxl ?_))
      exact go_ret2 rfl rfl rfl ⟨_, rfl, Or.inr (RotBad.mono ⟨E, B, rfl, r⟩ (by omega))⟩
  · refine calls_go Try.func16 rfl Try.ntmps16 (Nat.le_of_ble_eq_true rfl) ?_
    repeat (first | refine sp ?_ | (refine is_load ?_; refine ld ?_) | (refine is_store ?_; refine sr ?_) | (refine is_alloc ?_; refine al ?_) | (refine is_box ?_; refine bx ?_) | (refine isl_load ?_; refine ldl ?_) | (refine isl_store ?_; refine srl ?_) | (refine isl_alloc ?_; refine all' ?_) | (refine isl_box ?_; refine bxl ?_))
    refine go_call rfl rfl (c_DoubleRight w lo p q A h i g hb hi) ?_
    rintro v w1 (⟨hF, hm, q', R, o, rfl, r⟩ | ⟨E, B, rfl, r⟩)
    · repeat (first | refine sp ?_ | (refine is_load ?_; refine ld ?_) | (refine is_store ?_; refine sr ?_) | (refine is_alloc ?_; refine al ?_) | (refine is_box ?_; refine bx ?_) | (refine isl_load ?_; refine ldl ?_) | (refine isl_store ?_; refine srl ?_) | (refine isl_alloc ?_; refine all' ?_) | (refine isl_box ?_; refine bxl ?_))
      exact go_ret2 rfl rfl rfl ⟨_, rfl, Or.inl ⟨hF, hm, q', R, o, rfl, r⟩⟩
    · repeat (first | refine sp ?_ | (refine is_load ?_; refine ld ?_) | (refine is_store ?_; refine sr ?_) | (refine is_alloc ?_; refine al ?_) | (refine is_box ?_; refine bx ?_) | (refine isl_load ?_; refine ldl ?_) | (refine isl_store ?_; refine srl ?_) | (refine isl_alloc ?_; refine all' ?_) | (refine isl_box ?_; refine bxl ?_))
      exact go_ret2 rfl rfl rfl ⟨_, rfl, Or.inr (RotBad.mono ⟨E, B, rfl, r⟩ (by omega))⟩

end Go.Proofs.Ytfaeboamjfdjlaa
