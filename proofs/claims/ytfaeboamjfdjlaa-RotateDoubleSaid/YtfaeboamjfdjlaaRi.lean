/-
  The example of chapter 12; rotating there and back.
-/
import Derived.Test.YtfaeboamjfdjlaaRh
import Derived.Test.YtfaeboamjfdjlaaGt
set_option linter.unusedVariables false
namespace Go.Proofs.Ytfaeboamjfdjlaa
open Go.Vc

theorem Mkd.node {A B : AR} {i : Nat} {k v : Int} {l r : Nat} (m : Mkd A B i k v l r) : (B.node i).key = k ∧ (B.node i).left = l ∧ (B.node i).right = r := ⟨m.lr.1, m.lr.2.2.1, m.lr.2.2.2⟩

set_option maxHeartbeats 4000000 in
theorem c_awake12 (w : World) : Calls Try.prog 14 [].toArray w (Ret fun v w' => v = .bool true ∧ Ext w w') := by
  refine calls_go Try.func14 rfl Try.ntmps14 (Nat.le_of_ble_eq_true rfl) ?_
  repeat (first | refine sp ?_ | (refine is_load ?_; refine ld ?_) | (refine is_store ?_; refine sr ?_) | (refine is_alloc ?_; refine al ?_) | (refine is_box ?_; refine bx ?_) | (refine isl_load ?_; refine ldl ?_) | (refine isl_store ?_; refine srl ?_) | (refine isl_alloc ?_; refine all' ?_) | (refine isl_box ?_; refine bxl ?_))
  refine go_call rfl rfl (p_New w 4 (by omega) (by omega)) ?_
  rintro _ w1 ⟨p, q, rfl, ha, hq, hx⟩
  have g1 : Ars w1 w.heap.size p q (AR.new 4) (fun _ => 0) := ⟨ha, Sound.new (by omega) (by omega), hx.size, hq⟩
  have hf0 : (AR.new 4).free = 4 := rfl
  have hE1 : (AR.new 4).makeE 1 1 0 0 = 0 := mkE0 g1.snd (Or.inl rfl) (Or.inl rfl) (by simp [szOf]) (by rw [hf0]; omega)
  repeat (first | refine sp ?_ | (refine is_load ?_; refine ld ?_) | (refine is_store ?_; refine sr ?_) | (refine is_alloc ?_; refine al ?_) | (refine is_box ?_; refine bx ?_) | (refine isl_load ?_; refine ldl ?_) | (refine isl_store ?_; refine srl ?_) | (refine isl_alloc ?_; refine all' ?_) | (refine isl_box ?_; refine bxl ?_))
  refine go_call rfl rfl (c_MakeA w1 _ p q _ _ 1 1 0 0 g1 (fun _ => by simp) (Or.inl rfl) (Or.inl rfl) hE1) ?_
  rintro _ w2 ⟨rfl, q2, B, g2, m2, hq2, hf2⟩
  have hx2 : Ext w w2 := hx.trans' hf2 fun b hb e => by have := hq b e; omega
  generalize hi1 : (AR.new 4).top = i1 at *
  have hz2 := m2.size g1.snd (Or.inl rfl) (Or.inl rfl)
  have hE2 : B.makeE 2 2 i1 0 = 0 := mkE0 g2.snd (Or.inr m2.use) (Or.inl rfl) (by rw [hz2]; simp [szOf]) (by have := m2.free; omega)
  repeat (first | refine sp ?_ | (refine is_load ?_; refine ld ?_) | (refine is_store ?_; refine sr ?_) | (refine is_alloc ?_; refine al ?_) | (refine is_box ?_; refine bx ?_) | (refine isl_load ?_; refine ldl ?_) | (refine isl_store ?_; refine srl ?_) | (refine isl_alloc ?_; refine all' ?_) | (refine isl_box ?_; refine bxl ?_))
  refine go_call rfl rfl (c_MakeA w2 _ p q2 B _ 2 2 i1 0 g2 (fun i => by have := addH_le (h := fun _ => 0) (N := 0) (fun _ => Nat.le_refl _) (k := i1) i; omega) (Or.inr m2.use) (Or.inl rfl) hE2) ?_
  rintro _ w3 ⟨rfl, q3, C, g3, m3, hq3, hf3⟩
  have hx3 : Ext w w3 := hx2.trans' hf3 fun b hb e => by have := g2.lof b e; omega
  generalize hi2 : B.top = i2 at *
  have hz3 := m3.size g2.snd (Or.inr m2.use) (Or.inl rfl)
  have hfr3 : C.free = 2 := by have := m2.free; have := m3.free; omega
  have hb3 : ∀ i, addH (addH (fun _ => 0) i1) i2 i ≤ 1000000 := fun i => by
    have := addH_le (addH_le (h := fun _ => 0) (N := 0) (fun _ => Nat.le_refl _) (k := i1)) (k := i2) i; omega
  have hu1 := m3.kp.old i1 m2.use
  have hlt2 := used_lt g3.ar.wf (Or.inr m3.use)
  repeat (first | refine sp ?_ | (refine is_load ?_; refine ld ?_) | (refine is_store ?_; refine sr ?_) | (refine is_alloc ?_; refine al ?_) | (refine is_box ?_; refine bx ?_) | (refine isl_load ?_; refine ldl ?_) | (refine isl_store ?_; refine srl ?_) | (refine isl_alloc ?_; refine all' ?_) | (refine isl_box ?_; refine bxl ?_))
  refine go_call rfl rfl (c_Right w3 _ p q3 C _ i2 g3 hb3 hlt2) ?_
  have hF : fR C i2 := ⟨m3.use, by rw [m3.node.2.1]; exact hu1.1⟩
  rintro v4 w4 (⟨_, _, q4, R, o, rfl, g4, kp4, hfr4, ⟨j, n1, n2⟩, hq4, hf4⟩ | ⟨E, B', rfl, (⟨_, hn⟩ | ⟨_, _, hn⟩), _⟩)
  rotate_left
  · exact absurd hF hn
  · omega
  have hx4 : Ext w w4 := hx3.trans' hf4 fun b hb e => by have := g3.lof b e; omega
  have hb4 : ∀ i, addH (addH (addH (fun _ => 0) i1) i2) o i ≤ 1000000 := fun i => by
    have := addH_le (addH_le (addH_le (h := fun _ => 0) (N := 0) (fun _ => Nat.le_refl _) (k := i1)) (k := i2)) (k := o) i; omega
  repeat (first | refine sp ?_ | (refine is_load ?_; refine ld ?_) | (refine is_store ?_; refine sr ?_) | (refine is_alloc ?_; refine al ?_) | (refine is_box ?_; refine bx ?_) | (refine isl_load ?_; refine ldl ?_) | (refine isl_store ?_; refine srl ?_) | (refine isl_alloc ?_; refine all' ?_) | (refine isl_box ?_; refine bxl ?_))
  refine go_call rfl rfl (c_Left w4 _ p q4 R _ i2 g4 hb4 hlt2) ?_
  have hk2 := kp4.old i2 m3.use
  have hnF : ¬ fL R i2 := fun h => by
    have := h.2
    rw [hk2.2.1, m3.node.2.2, g4.ar.wf.u0] at this; cases this
  rintro v5 w5 (⟨hF5, _⟩ | ⟨E, B', rfl, (⟨rfl, hn⟩ | ⟨_, hF5, _⟩), g5, r5, hf5⟩)
  · exact absurd hF5 hnF
  rotate_left
  · exact absurd hF5 hnF
  have hx5 : Ext w w5 := hx4.trans' hf5 fun b hb e => by have := g4.lof b e; omega
  have hlo := used_lt g4.ar.wf (Or.inr n1.use)
  repeat (first | refine sp ?_ | (refine is_load ?_; refine ld ?_) | (refine is_store ?_; refine sr ?_) | (refine is_alloc ?_; refine al ?_) | (refine is_box ?_; refine bx ?_) | (refine isl_load ?_; refine ldl ?_) | (refine isl_store ?_; refine srl ?_) | (refine isl_alloc ?_; refine all' ?_) | (refine isl_box ?_; refine bxl ?_))
  refine go_call rfl rfl (p_Node w5 _ p q4 B' o g5.ar hlo) ?_
  rintro _ w6 ⟨rfl, ha6, hf6⟩
  have hx6 : Ext w w6 := hx5.trans' hf6 fun b hb e => by have := g4.lof p (by rw [e] at *; exact g4.ar.fpp); omega
  have s4 := g4.snd
  have hsz : (R.node o).size = 2 := by
    obtain ⟨e1, _⟩ := s4.bigS n1.use
    obtain ⟨e2, _⟩ := s4.bigS n2.use
    have e3 : szOf R o = (R.node o).size := by unfold szOf; rw [if_neg (by have := n1.i1; omega)]
    have hn1 := hu1.2.1
    rw [n1.left, n1.right, m3.node.2.1, hn1, m2.node.2.1] at e1
    rw [n2.left, n2.right, m3.node.2.1, hn1, m2.node.2.2, m3.node.2.2] at e2
    rw [← e3, e1, e2]
    simp [szOf]
  have hky : (R.node o).key = 1 := by rw [n1.key, m3.node.2.1, hu1.2.1, m2.node.1]
  have hlf : (R.node o).left = 0 := by rw [n1.left, m3.node.2.1, hu1.2.1, m2.node.2.1]
  rw [r5.used, n1.use, r5.nodeOf, nodeOf_us n1.use]
  generalize R.node o = N at *
  obtain ⟨k0, v0, l0, r0, z0, s0, a0, b0⟩ := N
  simp only at hsz hky hlf
  subst hsz; subst hky; subst hlf
  unfold Nd.cells
  simp only []
  have hl6 := hx6.size
  repeat (first | refine sp ?_ | (refine is_load ?_; refine ld ?_) | (refine is_store ?_; refine sr ?_) | (refine is_alloc ?_; refine al ?_) | (refine is_box ?_; refine bx ?_) | (refine isl_load ?_; refine ldl ?_) | (refine isl_store ?_; refine srl ?_) | (refine isl_alloc ?_; refine all' ?_) | (refine isl_box ?_; refine bxl ?_))
  exact go_ret1 rfl rfl ⟨_, rfl, rfl, hx6.trans (by (repeat (first | exact Fr.refl _ _ | assumption | apply Fr.drewN | apply Fr.alloc | (apply Fr.transF; assumption) | (refine Fr.setRow ?_ _ (by first | exact Or.inr (by (first | omega | (simp; done) | (simp; omega))) | (exact Or.inl (by first | assumption | (simp; done))))))))⟩

end Go.Proofs.Ytfaeboamjfdjlaa
