/-
  The form that a rotation requires, off a dump.
-/
import Derived.Test.YtfaeboamjfdjlaaRh
import Derived.Test.YtfaeboamjfdjlaaGt
set_option linter.unusedVariables false
namespace Go.Proofs.Ytfaeboamjfdjlaa
open Go.Vc

def kz (i : Nat) : Bool := !(i == 0)
theorem kid_used {A : AR} {c : Nat} (hw : Wf A) (h : c = 0 ∨ A.used c = true) : A.used c = true ↔ c ≠ 0 := by
  rcases h with rfl | h
  · rw [hw.u0]; simp
  · have := hw.uf c h
    simp [h]; omega
theorem i32_ne {a : Nat} : ((a : Int) = 0) ↔ a = 0 := by omega

set_option maxHeartbeats 4000000 in
theorem c_formed (w : World) (lo : Nat) (v : Value) (A : AR) (h : Nat → Nat) (i k : Nat) (hs : Sound A h) (hd : DpAt w lo v A.dump) (hi : i < 4294967296) (hk : k < 4) :
    Calls Try.prog 17 [v, .int .u32 (i : Int), .int .i64 (k : Int)].toArray w (Ret fun r w' => (∃ b : Bool, r = .bool b ∧ (b = true ↔ FK A i k)) ∧ Ext w w') := by
  have hw := hs.wf
  have hdl := (dump_len hw).1
  have hFu : FK A i k → A.used i = true := by
    intro h
    have hk4 : k = 0 ∨ k = 1 ∨ k = 2 ∨ k = 3 := by omega
    rcases hk4 with rfl | rfl | rfl | rfl <;> exact h.1
  obtain ⟨s1, c1, s2, c2, rfl, _, _⟩ := hd.b
  refine calls_go Try.func17 rfl Try.ntmps17 (Nat.le_of_ble_eq_true rfl) ?_
  repeat (first | refine sp ?_ | (refine is_load ?_; refine ld ?_) | (refine is_store ?_; refine sr ?_) | (refine is_alloc ?_; refine al ?_) | (refine is_box ?_; refine bx ?_) | (refine isl_load ?_; refine ldl ?_) | (refine isl_store ?_; refine srl ?_) | (refine isl_alloc ?_; refine all' ?_) | (refine isl_box ?_; refine bxl ?_))
  refine go_name (F := fun w1 => At w1 w.heap.size [.slice s1 A.dump.slots.length c1, .slice s2 A.dump.free.length c2] 31 ∧ Ext w w1) ⟨by (repeat (first | assumption | (refine At.new' (by (first | omega | (simp; done) | (simp; omega))) _ _) | apply At.alloc | apply At.drewN | apply At.setRow | (apply At.setRow_neF; first | assumption | (apply Ne.symm; assumption) | omega) | (apply At.extF; assumption))), by (repeat (first | exact Fr.refl _ _ | assumption | apply Fr.drewN | apply Fr.alloc | (apply Fr.transF; assumption) | (refine Fr.setRow ?_ _ (by first | exact Or.inr (by (first | omega | (simp; done) | (simp; omega))) | (exact Or.inl (by first | assumption | (simp; done)))))))⟩ ?_
  rintro w1 ⟨hb1, hx1⟩
  refine go_call rfl rfl (c_at12 w1 lo _ A.dump i (hd.ext hx1) hdl hi) ?_
  rintro _ w2 ⟨rfl, hx2⟩
  have hb2 := hb1.ext hx2
  have hx2' := hx1.trans hx2
  have hl2 := hb2.lt
  rw [dump_nd hw]
  obtain ⟨N, hN⟩ : ∃ N, A.nodeOf i = N := ⟨_, rfl⟩
  rw [hN]
  unfold Nd.cells
  repeat (first | refine sp ?_ | (refine is_load ?_; refine ld ?_) | (refine is_store ?_; refine sr ?_) | (refine is_alloc ?_; refine al ?_) | (refine is_box ?_; refine bx ?_) | (refine isl_load ?_; refine ldl ?_) | (refine isl_store ?_; refine srl ?_) | (refine isl_alloc ?_; refine all' ?_) | (refine isl_box ?_; refine bxl ?_))
  refine go_name (F := fun w3 => At w3 w2.heap.size [.int .i64 N.key, .int .i64 N.val, .int .u32 (N.left : Int), .int .u32 (N.right : Int), .int .i64 N.size, .int .i64 N.sum, .int .i64 N.mn, .int .i64 N.mx] 41 ∧ At w3 w.heap.size [.slice s1 A.dump.slots.length c1, .slice s2 A.dump.free.length c2] 31 ∧ Ext w w3) ⟨by (repeat (first | assumption | (refine At.new' (by (first | omega | (simp; done) | (simp; omega))) _ _) | apply At.alloc | apply At.drewN | apply At.setRow | (apply At.setRow_neF; first | assumption | (apply Ne.symm; assumption) | omega) | (apply At.extF; assumption))), by (repeat (first | assumption | (refine At.new' (by (first | omega | (simp; done) | (simp; omega))) _ _) | apply At.alloc | apply At.drewN | apply At.setRow | (apply At.setRow_neF; first | assumption | (apply Ne.symm; assumption) | omega) | (apply At.extF; assumption))), hx2'.trans (by (repeat (first | exact Fr.refl _ _ | assumption | apply Fr.drewN | apply Fr.alloc | (apply Fr.transF; assumption) | (refine Fr.setRow ?_ _ (by first | exact Or.inr (by (first | omega | (simp; done) | (simp; omega))) | (exact Or.inl (by first | assumption | (simp; done))))))))⟩ ?_
  rintro w3 ⟨hat3, hb3, hx3⟩
  repeat (first | refine sp ?_ | (refine is_load ?_; refine ld ?_) | (refine is_store ?_; refine sr ?_) | (refine is_alloc ?_; refine al ?_) | (refine is_box ?_; refine bx ?_) | (refine isl_load ?_; refine ldl ?_) | (refine isl_store ?_; refine srl ?_) | (refine isl_alloc ?_; refine all' ?_) | (refine isl_box ?_; refine bxl ?_))
  refine go_call rfl rfl (c_Allocated w3 lo _ A.dump i (hd.ext hx3) hdl hi) ?_
  rintro _ w4 ⟨rfl, hx4⟩
  rw [dump_al hw]
  have hat := hat3.ext hx4
  have hb4 := hb3.ext hx4
  have hxa := hx3.trans hx4
  clear hat3 hb3 hb2 hb1
  cases hu : A.used i with
  | false =>
    repeat (first | refine sp ?_ | (refine is_load ?_; refine ld ?_) | (refine is_store ?_; refine sr ?_) | (refine is_alloc ?_; refine al ?_) | (refine is_box ?_; refine bx ?_) | (refine isl_load ?_; refine ldl ?_) | (refine isl_store ?_; refine srl ?_) | (refine isl_alloc ?_; refine all' ?_) | (refine isl_box ?_; refine bxl ?_))
    exact go_ret1 rfl rfl ⟨_, rfl, ⟨_, rfl, by simp; intro h; rw [hFu h] at hu; cases hu⟩, hxa⟩
  | true =>
    obtain ⟨kl, kr⟩ := hs.kid i hu
    rw [nodeOf_us hu] at hN
    subst hN
    have hk4 : k = 0 ∨ k = 1 ∨ k = 2 ∨ k = 3 := by omega
    rcases hk4 with rfl | rfl | rfl | rfl
    · by_cases hz : (A.node i).right = 0
      · have hF : ¬ FK A i 0 := fun h => (kid_used hs.wf kr).1 h.2 hz
        rw [hz] at hat
        repeat (first | refine sp ?_ | (refine is_load ?_; refine ld ?_) | (refine is_store ?_; refine sr ?_) | (refine is_alloc ?_; refine al ?_) | (refine is_box ?_; refine bx ?_) | (refine isl_load ?_; refine ldl ?_) | (refine isl_store ?_; refine srl ?_) | (refine isl_alloc ?_; refine all' ?_) | (refine isl_box ?_; refine bxl ?_))
        exact go_ret1 rfl rfl ⟨_, rfl, ⟨_, rfl, by simp [hF]⟩, hxa⟩
      · have hF : FK A i 0 := ⟨hu, (kid_used hs.wf kr).2 hz⟩
        repeat (first | refine sp ?_ | (refine is_load ?_; refine ld ?_) | (refine is_store ?_; refine sr ?_) | (refine is_alloc ?_; refine al ?_) | (refine is_box ?_; refine bx ?_) | (refine isl_load ?_; refine ldl ?_) | (refine isl_store ?_; refine srl ?_) | (refine isl_alloc ?_; refine all' ?_) | (refine isl_box ?_; refine bxl ?_))
        exact go_ret1 rfl rfl ⟨_, rfl, ⟨_, rfl, by simp [hF]⟩, hxa⟩
    · by_cases hz : (A.node i).left = 0
      · have hF : ¬ FK A i 1 := fun h => (kid_used hs.wf kl).1 h.2 hz
        rw [hz] at hat
        repeat (first | refine sp ?_ | (refine is_load ?_; refine ld ?_) | (refine is_store ?_; refine sr ?_) | (refine is_alloc ?_; refine al ?_) | (refine is_box ?_; refine bx ?_) | (refine isl_load ?_; refine ldl ?_) | (refine isl_store ?_; refine srl ?_) | (refine isl_alloc ?_; refine all' ?_) | (refine isl_box ?_; refine bxl ?_))
        exact go_ret1 rfl rfl ⟨_, rfl, ⟨_, rfl, by simp [hF]⟩, hxa⟩
      · have hF : FK A i 1 := ⟨hu, (kid_used hs.wf kl).2 hz⟩
        repeat (first | refine sp ?_ | (refine is_load ?_; refine ld ?_) | (refine is_store ?_; refine sr ?_) | (refine is_alloc ?_; refine al ?_) | (refine is_box ?_; refine bx ?_) | (refine isl_load ?_; refine ldl ?_) | (refine isl_store ?_; refine srl ?_) | (refine isl_alloc ?_; refine all' ?_) | (refine isl_box ?_; refine bxl ?_))
        exact go_ret1 rfl rfl ⟨_, rfl, ⟨_, rfl, by simp [hF]⟩, hxa⟩
    · by_cases hz : (A.node i).right = 0
      · have hF : ¬ FK A i 2 := fun h => (kid_used hs.wf kr).1 h.2.1 hz
        rw [hz] at hat
        repeat (first | refine sp ?_ | (refine is_load ?_; refine ld ?_) | (refine is_store ?_; refine sr ?_) | (refine is_alloc ?_; refine al ?_) | (refine is_box ?_; refine bx ?_) | (refine isl_load ?_; refine ldl ?_) | (refine isl_store ?_; refine srl ?_) | (refine isl_alloc ?_; refine all' ?_) | (refine isl_box ?_; refine bxl ?_))
        exact go_ret1 rfl rfl ⟨_, rfl, ⟨_, rfl, by simp [hF]⟩, hxa⟩
      · have hu2 := (kid_used hs.wf kr).2 hz
        obtain ⟨ml, mr⟩ := hs.kid _ hu2
        repeat (first | refine sp ?_ | (refine is_load ?_; refine ld ?_) | (refine is_store ?_; refine sr ?_) | (refine is_alloc ?_; refine al ?_) | (refine is_box ?_; refine bx ?_) | (refine isl_load ?_; refine ldl ?_) | (refine isl_store ?_; refine srl ?_) | (refine isl_alloc ?_; refine all' ?_) | (refine isl_box ?_; refine bxl ?_))
        refine go_call rfl rfl (c_at12 w4 lo _ A.dump (A.node i).right (hd.ext hxa) hdl (used_lt hw kr)) ?_
        rintro _ w5 ⟨rfl, hx5⟩
        rw [dump_nd hw, nodeOf_us hu2]
        have hFi : FK A i 2 ↔ (A.node (A.node i).right).left ≠ 0 := ⟨fun h => (kid_used hw ml).1 h.2.2, fun h => ⟨hu, hu2, (kid_used hw ml).2 h⟩⟩
        generalize A.node (A.node i).right = M at *
        unfold Nd.cells
        by_cases hm : M.left = 0
        · rw [hm]
          repeat (first | refine sp ?_ | (refine is_load ?_; refine ld ?_) | (refine is_store ?_; refine sr ?_) | (refine is_alloc ?_; refine al ?_) | (refine is_box ?_; refine bx ?_) | (refine isl_load ?_; refine ldl ?_) | (refine isl_store ?_; refine srl ?_) | (refine isl_alloc ?_; refine all' ?_) | (refine isl_box ?_; refine bxl ?_))
          exact go_ret1 rfl rfl ⟨_, rfl, ⟨_, rfl, by simp [hFi, hm]⟩, hxa.trans hx5⟩
        · repeat (first | refine sp ?_ | (refine is_load ?_; refine ld ?_) | (refine is_store ?_; refine sr ?_) | (refine is_alloc ?_; refine al ?_) | (refine is_box ?_; refine bx ?_) | (refine isl_load ?_; refine ldl ?_) | (refine isl_store ?_; refine srl ?_) | (refine isl_alloc ?_; refine all' ?_) | (refine isl_box ?_; refine bxl ?_))
          exact go_ret1 rfl rfl ⟨_, rfl, ⟨_, rfl, by simp [hFi, hm]⟩, hxa.trans hx5⟩
    · by_cases hz : (A.node i).left = 0
      · have hF : ¬ FK A i 3 := fun h => (kid_used hs.wf kl).1 h.2.1 hz
        rw [hz] at hat
        repeat (first | refine sp ?_ | (refine is_load ?_; refine ld ?_) | (refine is_store ?_; refine sr ?_) | (refine is_alloc ?_; refine al ?_) | (refine is_box ?_; refine bx ?_) | (refine isl_load ?_; refine ldl ?_) | (refine isl_store ?_; refine srl ?_) | (refine isl_alloc ?_; refine all' ?_) | (refine isl_box ?_; refine bxl ?_))
        exact go_ret1 rfl rfl ⟨_, rfl, ⟨_, rfl, by simp [hF]⟩, hxa⟩
      · have hu2 := (kid_used hs.wf kl).2 hz
        obtain ⟨ml, mr⟩ := hs.kid _ hu2
        repeat (first | refine sp ?_ | (refine is_load ?_; refine ld ?_) | (refine is_store ?_; refine sr ?_) | (refine is_alloc ?_; refine al ?_) | (refine is_box ?_; refine bx ?_) | (refine isl_load ?_; refine ldl ?_) | (refine isl_store ?_; refine srl ?_) | (refine isl_alloc ?_; refine all' ?_) | (refine isl_box ?_; refine bxl ?_))
        refine go_call rfl rfl (c_at12 w4 lo _ A.dump (A.node i).left (hd.ext hxa) hdl (used_lt hw kl)) ?_
        rintro _ w5 ⟨rfl, hx5⟩
        rw [dump_nd hw, nodeOf_us hu2]
        have hFi : FK A i 3 ↔ (A.node (A.node i).left).right ≠ 0 := ⟨fun h => (kid_used hw mr).1 h.2.2, fun h => ⟨hu, hu2, (kid_used hw mr).2 h⟩⟩
        generalize A.node (A.node i).left = M at *
        unfold Nd.cells
        by_cases hm : M.right = 0
        · rw [hm]
          repeat (first | refine sp ?_ | (refine is_load ?_; refine ld ?_) | (refine is_store ?_; refine sr ?_) | (refine is_alloc ?_; refine al ?_) | (refine is_box ?_; refine bx ?_) | (refine isl_load ?_; refine ldl ?_) | (refine isl_store ?_; refine srl ?_) | (refine isl_alloc ?_; refine all' ?_) | (refine isl_box ?_; refine bxl ?_))
          exact go_ret1 rfl rfl ⟨_, rfl, ⟨_, rfl, by simp [hFi, hm]⟩, hxa.trans hx5⟩
        · repeat (first | refine sp ?_ | (refine is_load ?_; refine ld ?_) | (refine is_store ?_; refine sr ?_) | (refine is_alloc ?_; refine al ?_) | (refine is_box ?_; refine bx ?_) | (refine isl_load ?_; refine ldl ?_) | (refine isl_store ?_; refine srl ?_) | (refine isl_alloc ?_; refine all' ?_) | (refine isl_box ?_; refine bxl ?_))
          exact go_ret1 rfl rfl ⟨_, rfl, ⟨_, rfl, by simp [hFi, hm]⟩, hxa.trans hx5⟩

end Go.Proofs.Ytfaeboamjfdjlaa
